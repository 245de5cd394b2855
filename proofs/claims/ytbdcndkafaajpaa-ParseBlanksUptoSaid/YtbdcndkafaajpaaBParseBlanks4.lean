/- The texts of the law ParseBlanks, put together by a program of this workplace out of its own texts and of what the kit's print has written: walks of the functions, plain laws. No condition but those in the theorems. -/
import Derived.Lib.Bytealg
import Derived.KernelRfl
import Derived.Test.YtbdcndkafaajpaaBParseBlanks0
import Derived.Test.YtbdcndkafaajpaaBParseBlanks1
import Derived.Test.YtbdcndkafaajpaaBParseBlanks2
import Derived.Test.YtbdcndkafaajpaaBParseBlanks3
section
namespace Go.Proofs.Ytbdcndkafaajpaa.X
open Go.RowKit Go.Proofs.YtbdcndkafaajpaaW.PrintWords Go.Proofs.YtbdcndkafaajpaaW.PrintLast Go.Proofs.YtbdcndkafaajpaaW.PrintMore
attribute [local go_sem] max2_int min2_int max_two min_two max_three min_three max_four min_four   -- for this text's walks alone
set_option linter.unusedVariables false
set_option linter.unusedSimpArgs false
def lex_token.f (k : Nat) (a0 : ByteArray) (a1 : Int) : Option (Int × ByteArray × Int × Int × Int × Int × Int) := if 0 ≤ a1 then (if a1 < (a0.size : Int) then ((lex_isLetter.f (bt a0 a1)).bind fun t118 => (if t118 = true then ((lex_run.f a0 a1 55).bind fun t119 => (if a1 ≤ t119 then (if t119 ≤ (a0.size : Int) then (if ((a0.extract (a1 : Int).toNat (t119 : Int).toNat).size : Int) > 64 then (some (1, a0.extract (a1 : Int).toNat (t119 : Int).toNat, 0, a1, t119, a1, 111)) else (some (1, a0.extract (a1 : Int).toNat (t119 : Int).toNat, 0, a1, t119, 0, 0))) else (none)) else (none))) else ((lex_isDigit.f (bt a0 a1)).bind fun t120 => (if t120 = true then ((lex_run.f a0 a1 56).bind fun t121 => (if a1 ≤ t121 then (if t121 ≤ (a0.size : Int) then ((lex_number.f (a0.extract (a1 : Int).toNat (t121 : Int).toNat)).bind fun bt122 => (if bt122.2 = true then (some (2, (⟨#[]⟩ : ByteArray), bt122.1, a1, t121, 0, 0)) else (some (2, (⟨#[]⟩ : ByteArray), 0, a1, t121, a1, 111)))) else (none)) else (none))) else (if (bt a0 a1) = 34 then ((lex_text.f k a0 a1).bind fun bt124 => (some (bt124.1, bt124.2.1, bt124.2.2.1, bt124.2.2.2.1, bt124.2.2.2.2.1, bt124.2.2.2.2.2.1, bt124.2.2.2.2.2.2))) else ((strings_IndexByte.f (⟨#[123, 125, 40, 41, 58, 59, 44, 61, 43, 45, 42]⟩ : ByteArray) (bt a0 a1)).bind fun t131 => (if t131 ≥ 0 then (if a1 ≤ (wrap64 (a1 + 1)) then (if (wrap64 (a1 + 1)) ≤ (a0.size : Int) then (some (4, a0.extract (a1 : Int).toNat ((wrap64 (a1 + 1)) : Int).toNat, 0, a1, wrap64 (a1 + 1), 0, 0)) else (none)) else (none)) else (some (0, (⟨#[]⟩ : ByteArray), 0, a1, 0, a1, 80))))))))) else (none)) else (none)
theorem lex_token.mono : ∀ a0 a1 k, LeO (lex_token.f k a0 a1) (lex_token.f (k + 1) a0 a1) := by
  intro a0 a1 k
  unfold lex_token.f
  repeat' first
      | (with_reducible exact lex_text.mono _ _ _)
      | (with_reducible exact LeO.refl _)
      | (with_reducible exact LeO.none _)
      | (with_reducible refine LeO.ite ?_ ?_)
      | (with_reducible refine LeO.bind ?_ (fun _ => ?_))
      | exact lex_text.mono _ _ _
      | exact LeO.none _
      | refine LeO.ite ?_ ?_
      | refine LeO.bind ?_ (fun _ => ?_)
def lex_token.T20 : Bool × List (List Nat × List Nat) := (true, [([], []), ([], []), ([], []), ([2], [2]), ([0, 1, 3], [0, 1, 3]), ([], []), ([5], [5]), ([], []), ([7], [7]), ([0, 1, 2, 3, 4, 7, 8], []), ([9, 4, 8, 0, 1, 2, 3, 4, 7, 8], [4, 9]), ([0, 1, 2, 3, 4, 5, 6, 7, 8, 9, 10], []), ([11, 6, 10, 0, 1, 2, 3, 4, 5, 6, 7, 8, 9, 10], [6, 11])])
def lex_token.B20 : List Nat := [0, 0, 0, 4, 15, 0, 32, 0, 128, 415, 927, 2047, 4095]
theorem lex_token.tab20 : rtab .any (opsOf Try.f35 20) = lex_token.T20 := by kernel_rfl
theorem lex_token.bits20 : waitsOk lex_token.T20.2 lex_token.B20 = true := by kernel_rfl
set_option maxHeartbeats 8000000 in
set_option maxRecDepth 100000 in
theorem lex_token.calls (k : Nat) (a0 : ByteArray) (a1 : Int) (r1 : Int) (r2 : ByteArray) (r3 : Int) (r4 : Int) (r5 : Int) (r6 : Int) (r7 : Int) (w : World) (h : lex_token.f k a0 a1 = some (r1, r2, r3, r4, r5, r6, r7)) :
    Calls Try.prog 35 #[.string a0, .int .i64 a1] w fun e w' => e = .returned (.tuple #[.agg #[.int .i64 r1, .string r2, .int .u64 r3, .int .i64 r4, .int .i64 r5], .int .i64 r6, .int .i64 r7]) ∧ Below w.heap.size w w' := by
  have hu47 := Try.underlying47
  have HB := Aside0.mk (Below.refl w.heap.size w)
  have H : (if 0 ≤ a1 then (if a1 < (a0.size : Int) then ((lex_isLetter.f (bt a0 a1)).bind fun t118 => (if t118 = true then ((lex_run.f a0 a1 55).bind fun t119 => (if a1 ≤ t119 then (if t119 ≤ (a0.size : Int) then (if ((a0.extract (a1 : Int).toNat (t119 : Int).toNat).size : Int) > 64 then (some (1, a0.extract (a1 : Int).toNat (t119 : Int).toNat, 0, a1, t119, a1, 111)) else (some (1, a0.extract (a1 : Int).toNat (t119 : Int).toNat, 0, a1, t119, 0, 0))) else (none)) else (none))) else ((lex_isDigit.f (bt a0 a1)).bind fun t120 => (if t120 = true then ((lex_run.f a0 a1 56).bind fun t121 => (if a1 ≤ t121 then (if t121 ≤ (a0.size : Int) then ((lex_number.f (a0.extract (a1 : Int).toNat (t121 : Int).toNat)).bind fun bt122 => (if bt122.2 = true then (some (2, (⟨#[]⟩ : ByteArray), bt122.1, a1, t121, 0, 0)) else (some (2, (⟨#[]⟩ : ByteArray), 0, a1, t121, a1, 111)))) else (none)) else (none))) else (if (bt a0 a1) = 34 then ((lex_text.f k a0 a1).bind fun bt124 => (some (bt124.1, bt124.2.1, bt124.2.2.1, bt124.2.2.2.1, bt124.2.2.2.2.1, bt124.2.2.2.2.2.1, bt124.2.2.2.2.2.2))) else ((strings_IndexByte.f (⟨#[123, 125, 40, 41, 58, 59, 44, 61, 43, 45, 42]⟩ : ByteArray) (bt a0 a1)).bind fun t131 => (if t131 ≥ 0 then (if a1 ≤ (wrap64 (a1 + 1)) then (if (wrap64 (a1 + 1)) ≤ (a0.size : Int) then (some (4, a0.extract (a1 : Int).toNat ((wrap64 (a1 + 1)) : Int).toNat, 0, a1, wrap64 (a1 + 1), 0, 0)) else (none)) else (none)) else (some (0, (⟨#[]⟩ : ByteArray), 0, a1, 0, a1, 80))))))))) else (none)) else (none)) = some (r1, r2, r3, r4, r5, r6, r7) := h
  clear h
  by_cases c3 : 0 ≤ a1
  · rw [if_pos c3] at H
    have c3b0 : decide (0 ≤ a1) = true := decide_eq_true c3
    clear c3
    by_cases c4 : a1 < (a0.size : Int)
    · rw [if_pos c4] at H
      have c4b0 : decide (a1 < (a0.size : Int)) = true := decide_eq_true c4
      clear c4
      replace H := Option.bind_eq_some_iff.mp H
      obtain ⟨t118, A60, H⟩ := H
      replace H : (if t118 = true then ((lex_run.f a0 a1 55).bind fun t119 => (if a1 ≤ t119 then (if t119 ≤ (a0.size : Int) then (if ((a0.extract (a1 : Int).toNat (t119 : Int).toNat).size : Int) > 64 then (some (1, a0.extract (a1 : Int).toNat (t119 : Int).toNat, 0, a1, t119, a1, 111)) else (some (1, a0.extract (a1 : Int).toNat (t119 : Int).toNat, 0, a1, t119, 0, 0))) else (none)) else (none))) else ((lex_isDigit.f (bt a0 a1)).bind fun t120 => (if t120 = true then ((lex_run.f a0 a1 56).bind fun t121 => (if a1 ≤ t121 then (if t121 ≤ (a0.size : Int) then ((lex_number.f (a0.extract (a1 : Int).toNat (t121 : Int).toNat)).bind fun bt122 => (if bt122.2 = true then (some (2, (⟨#[]⟩ : ByteArray), bt122.1, a1, t121, 0, 0)) else (some (2, (⟨#[]⟩ : ByteArray), 0, a1, t121, a1, 111)))) else (none)) else (none))) else (if (bt a0 a1) = 34 then ((lex_text.f k a0 a1).bind fun bt124 => (some (bt124.1, bt124.2.1, bt124.2.2.1, bt124.2.2.2.1, bt124.2.2.2.2.1, bt124.2.2.2.2.2.1, bt124.2.2.2.2.2.2))) else ((strings_IndexByte.f (⟨#[123, 125, 40, 41, 58, 59, 44, 61, 43, 45, 42]⟩ : ByteArray) (bt a0 a1)).bind fun t131 => (if t131 ≥ 0 then (if a1 ≤ (wrap64 (a1 + 1)) then (if (wrap64 (a1 + 1)) ≤ (a0.size : Int) then (some (4, a0.extract (a1 : Int).toNat ((wrap64 (a1 + 1)) : Int).toNat, 0, a1, wrap64 (a1 + 1), 0, 0)) else (none)) else (none)) else (some (0, (⟨#[]⟩ : ByteArray), 0, a1, 0, a1, 80)))))))) = some (r1, r2, r3, r4, r5, r6, r7) := H
      have A6 := Aside0.mk A60
      clear A60
      by_cases c7 : t118 = true
      · subst c7
        have H1 : ((lex_run.f a0 a1 55).bind fun t119 => (if a1 ≤ t119 then (if t119 ≤ (a0.size : Int) then (if ((a0.extract (a1 : Int).toNat (t119 : Int).toNat).size : Int) > 64 then (some (1, a0.extract (a1 : Int).toNat (t119 : Int).toNat, 0, a1, t119, a1, 111)) else (some (1, a0.extract (a1 : Int).toNat (t119 : Int).toNat, 0, a1, t119, 0, 0))) else (none)) else (none))) = some (r1, r2, r3, r4, r5, r6, r7) := by rw [if_pos rfl] at H; exact H
        clear H
        have H := H1
        clear H1
        replace H := Option.bind_eq_some_iff.mp H
        obtain ⟨t119, A80, H⟩ := H
        replace H : (if a1 ≤ t119 then (if t119 ≤ (a0.size : Int) then (if ((a0.extract (a1 : Int).toNat (t119 : Int).toNat).size : Int) > 64 then (some (1, a0.extract (a1 : Int).toNat (t119 : Int).toNat, 0, a1, t119, a1, 111)) else (some (1, a0.extract (a1 : Int).toNat (t119 : Int).toNat, 0, a1, t119, 0, 0))) else (none)) else (none)) = some (r1, r2, r3, r4, r5, r6, r7) := H
        have A8 := Aside0.mk A80
        clear A80
        have c9b0 := eq_true (of_decide_eq_true (by first | (with_reducible assumption) | assumption) : 0 ≤ a1)
        by_cases c10 : a1 ≤ t119
        · rw [if_pos c10] at H
          have c10b0 := eq_true c10
          have c10b1 : decide (a1 ≤ t119) = true := decide_eq_true c10
          clear c10
          by_cases c11 : t119 ≤ (a0.size : Int)
          · rw [if_pos c11] at H
            have c11b0 := eq_true c11
            have c11b1 : decide (t119 ≤ (a0.size : Int)) = true := decide_eq_true c11
            clear c11
            by_cases c12 : ((a0.extract (a1 : Int).toNat (t119 : Int).toNat).size : Int) > 64
            · rw [if_pos c12] at H
              have c12b0 : decide (64 < ((a0.extract (a1 : Int).toNat (t119 : Int).toNat).size : Int)) = true := decide_eq_true c12
              have c12s : decide (64 < (((t119 : Int).toNat - (a1 : Int).toNat : Nat) : Int)) = true := by have z_ : (a0.extract (a1 : Int).toNat (t119 : Int).toNat).size = (t119 : Int).toNat - (a1 : Int).toNat := (by rw [ByteArray.size_extract]; have q_ : (t119 : Int) ≤ (a0.size : Int) := of_decide_eq_true (by first | (with_reducible assumption) | assumption); omega); rw [← z_]; exact c12b0
              have c12b1 : decide (64 < (a0.extract (a1 : Int).toNat (t119 : Int).toNat).size) = true := decide_eq_true (by omega)
              clear c12
              simp only [Option.some.injEq, Prod.mk.injEq] at H
              obtain ⟨rfl, rfl, rfl, rfl, rfl, rfl, rfl⟩ := H
              go_enter Try.func35, Try.ntmps35
              go_wp2_with (first | ((with_reducible refine gate_dst (N := 4) rfl ?_); refine box_event ?hg (N := 4) ?hd (cs := #[.int .i64 0, .string (⟨#[]⟩ : ByteArray), .int .u64 0, .int .i64 0, .int .i64 0]) (t := 47) ?hr ?_; (case hd => rfl); (case hg => rfl); (case hr => first | (go_simp; done) | (go_simp; rfl)); intro gb116 hg w13 hbox hb; have n0_ := Aside0.mk (below_step (by repeat (first | (with_reducible first | exact HB.out | apply below_alloc | apply pw_below_drewN | apply below_drew1) | exact HB.out)) hb); have n1_ := Aside0.mk (hbox); have n2_ := Aside0.mk ((by rw [hg]; exact (below_size (by repeat (first | (with_reducible first | exact HB.out | apply below_alloc | apply pw_below_drewN | apply below_drew1) | exact HB.out))) : w.heap.size ≤ gb116)); have n3_ := Aside0.mk ((by rw [hg]; exact (below_size (by repeat (first | (with_reducible first | exact HB.out | apply below_alloc | apply pw_below_drewN | apply below_drew1) | exact HB.out))) : w.heap.size ≤ gb116)); clear HB; have HB := n0_; have BK116 := n1_; have GW116 := n2_; have GE116 := n3_; clear n0_ n1_ n2_ n3_; clear hb hbox hg) | ((with_reducible refine gate_dst (N := 7) rfl ?_); refine box_event ?hg (N := 7) ?hd (cs := #[.int .i64 0, .string (⟨#[]⟩ : ByteArray), .int .u64 0, .int .i64 0, .int .i64 0]) (t := 47) ?hr ?_; (case hd => rfl); (case hg => rfl); (case hr => first | (go_simp; done) | (go_simp; rfl)); intro gb117 hg w14 hbox hb; have n0_ := Aside0.mk (blk_below (g := gb116) (o := .cells #[.int .i64 0, .string (⟨#[]⟩ : ByteArray), .int .u64 0, .int .i64 0, .int .i64 0] 47 (0, 0)) (by (with_reducible repeat (first | refine blk_drewN ?_ _ | refine blk_drew ?_ | refine blk_alloc ?_ _)); exact BK116.out) hb); have n1_ := Aside0.mk (below_step (by repeat (first | (with_reducible first | exact HB.out | apply below_alloc | apply pw_below_drewN | apply below_drew1 | refine below_set ?_ GE116.out) | exact HB.out)) hb); have n2_ := Aside0.mk (hbox); have n3_ := Aside0.mk ((by rw [hg]; exact (below_size (by repeat (first | (with_reducible first | exact HB.out | apply below_alloc | apply pw_below_drewN | apply below_drew1 | refine below_set ?_ GE116.out) | exact HB.out))) : w.heap.size ≤ gb117)); have n4_ := Aside0.mk ((by rw [hg]; exact (below_size (by repeat (first | (with_reducible first | exact HB.out | apply below_alloc | apply pw_below_drewN | apply below_drew1 | refine below_set ?_ GE116.out) | exact HB.out))) : w.heap.size ≤ gb117)); have n5_ := Aside0.mk ((by rw [hg]; exact Nat.ne_of_lt (blk_lt (g := gb116) (o := .cells #[.int .i64 0, .string (⟨#[]⟩ : ByteArray), .int .u64 0, .int .i64 0, .int .i64 0] 47 (0, 0)) (by (with_reducible repeat (first | refine blk_drewN ?_ _ | refine blk_drew ?_ | refine blk_alloc ?_ _)); exact BK116.out)) : gb116 ≠ gb117)); have n6_ := Aside0.mk ((by rw [hg]; exact Nat.ne_of_gt (blk_lt (g := gb116) (o := .cells #[.int .i64 0, .string (⟨#[]⟩ : ByteArray), .int .u64 0, .int .i64 0, .int .i64 0] 47 (0, 0)) (by (with_reducible repeat (first | refine blk_drewN ?_ _ | refine blk_drew ?_ | refine blk_alloc ?_ _)); exact BK116.out)) : gb117 ≠ gb116)); clear BK116; clear HB; have BK116 := n0_; have HB := n1_; have BK117 := n2_; have GW117 := n3_; have GE117 := n4_; have NB116_117 := n5_; have NB117_116 := n6_; clear n0_ n1_ n2_ n3_ n4_ n5_ n6_; clear hb hbox hg; have hnb15 := NB117_116.out; have hnc15 := NB116_117.out; have hcz16_0 : w14.cell? ⟨gb117, 0, none⟩ = some (.int .i64 0) := (blk_cell BK117.out 0).trans rfl; have hcz16_1 : w14.cell? ⟨gb117, 1, none⟩ = some (.string (⟨#[]⟩ : ByteArray)) := (blk_cell BK117.out 1).trans rfl; have hcz16_2 : w14.cell? ⟨gb117, 2, none⟩ = some (.int .u64 0) := (blk_cell BK117.out 2).trans rfl; have hcz16_3 : w14.cell? ⟨gb117, 3, none⟩ = some (.int .i64 0) := (blk_cell BK117.out 3).trans rfl; have hcz16_4 : w14.cell? ⟨gb117, 4, none⟩ = some (.int .i64 0) := (blk_cell BK117.out 4).trans rfl; have hfz16_0 := blk_frozen BK117.out 0; have hfz16_1 := blk_frozen BK117.out 1; have hfz16_2 := blk_frozen BK117.out 2; have hfz16_3 := blk_frozen BK117.out 3; have hfz16_4 := blk_frozen BK117.out 4; have p5 : 0 ≤ (a1 : Int) := of_decide_eq_true (by first | (with_reducible assumption) | assumption); have q5 : a1 < (a0.size : Int) := of_decide_eq_true (by first | (with_reducible assumption) | assumption); have hx5 := bt_at a0 a1; replace p5 := eq_true p5; replace q5 := eq_true q5) | ((with_reducible refine gate_callee (f := 53) rfl ?_); refine goesL_ (some 20) rfl rfl Try.func53 (by kernel_rfl) rfl #[.int .u8 (bt a0 a1)] rfl (by (try simp only [List.map_toArray, List.map_cons, List.map_nil]); first | done | rfl | (simp only [List.length_drop, List.length_take]; rfl)) ?_; (with_reducible refine (lex_isLetter.calls (bt a0 a1) true _ A6.out).mono ?_); rintro e w' ⟨rfl, ⟨nd, rfl⟩⟩; refine ⟨_, rfl, ?_⟩) | ((with_reducible refine gate_callee (f := 54) rfl ?_); refine goesL_ (some 24) rfl rfl Try.func54 (by kernel_rfl) rfl #[.string a0, .int .i64 a1, .func (.func 55) #[] #[]] rfl (by (try simp only [List.map_toArray, List.map_cons, List.map_nil]); first | done | rfl | (simp only [List.length_drop, List.length_take]; rfl)) ?_; (with_reducible refine (lex_run.calls a0 a1 55 t119 _ A8.out).mono ?_); rintro e w99 ⟨rfl, hd99⟩; refine ⟨_, rfl, ?_⟩; have b99 : w99.heap[gb117]? = some (.cells #[.int .i64 1, .string (⟨#[]⟩ : ByteArray), .int .u64 0, .int .i64 a1, .int .i64 0] 47 (0, 0)) := (by refine blk_d0 hd99 ?_; (with_reducible repeat (first | refine blk_drewN ?_ _ | refine blk_drew ?_ | refine blk_alloc ?_ _)); refine blk_put (cs := #[.int .i64 0, .string (⟨#[]⟩ : ByteArray), .int .u64 0, .int .i64 a1, .int .i64 0]) ?_ 0 _ rfl; (with_reducible repeat (first | refine blk_drewN ?_ _ | refine blk_drew ?_ | refine blk_alloc ?_ _)); refine blk_put (cs := #[.int .i64 0, .string (⟨#[]⟩ : ByteArray), .int .u64 0, .int .i64 a1, .int .i64 0]) ?_ 4 _ rfl; (with_reducible repeat (first | refine blk_drewN ?_ _ | refine blk_drew ?_ | refine blk_alloc ?_ _)); refine blk_put (cs := #[.int .i64 0, .string (⟨#[]⟩ : ByteArray), .int .u64 0, .int .i64 0, .int .i64 0]) ?_ 3 _ rfl; (with_reducible repeat (first | refine blk_drewN ?_ _ | refine blk_drew ?_ | refine blk_alloc ?_ _)); refine blk_put (cs := #[.int .i64 0, .string (⟨#[]⟩ : ByteArray), .int .u64 0, .int .i64 0, .int .i64 0]) ?_ 2 _ rfl; (with_reducible repeat (first | refine blk_drewN ?_ _ | refine blk_drew ?_ | refine blk_alloc ?_ _)); refine blk_put (cs := #[.int .i64 0, .string (⟨#[]⟩ : ByteArray), .int .u64 0, .int .i64 0, .int .i64 0]) ?_ 1 _ rfl; (with_reducible repeat (first | refine blk_drewN ?_ _ | refine blk_drew ?_ | refine blk_alloc ?_ _)); refine blk_put (cs := #[.int .i64 0, .string (⟨#[]⟩ : ByteArray), .int .u64 0, .int .i64 0, .int .i64 0]) ?_ 0 _ rfl; (with_reducible repeat (first | refine blk_drewN ?_ _ | refine blk_drew ?_ | refine blk_alloc ?_ _)); exact BK117.out); have a99 : w99.heap[gb116]? = some (.cells #[.int .i64 0, .string (⟨#[]⟩ : ByteArray), .int .u64 0, .int .i64 0, .int .i64 0] 47 (0, 0)) := (by refine blk_d0 hd99 ?_; repeat (first | (with_reducible exact BK116.out) | (with_reducible refine blk_drewN ?_ _) | (with_reducible refine blk_far ?_ NB116_117.out _))); have hb99 := below_step (show Below w.heap.size w _ from (by repeat (first | (with_reducible first | exact HB.out | apply below_alloc | apply pw_below_drewN | apply below_drew1 | refine below_set ?_ GE117.out) | exact HB.out))) hd99.below; (try clear hcz16_0 hcz16_1 hcz16_2 hcz16_3 hcz16_4 hfz16_0 hfz16_1 hfz16_2 hfz16_3 hfz16_4); clear BK116 BK117 HB hd99; have BK116 := Aside0.mk a99; have BK117 := Aside0.mk b99; have HB := Aside0.mk hb99; have hcy_0 : w99.cell? ⟨gb117, 0, none⟩ = some (.int .i64 1) := (blk_cell b99 0).trans rfl; have hfy_0 := blk_frozen b99 0; have hcx_0 : w99.cell? ⟨gb116, 0, none⟩ = some (.int .i64 0) := (blk_cell a99 0).trans rfl; have hfx_0 := blk_frozen a99 0; have hcy_1 : w99.cell? ⟨gb117, 1, none⟩ = some (.string (⟨#[]⟩ : ByteArray)) := (blk_cell b99 1).trans rfl; have hfy_1 := blk_frozen b99 1; have hcx_1 : w99.cell? ⟨gb116, 1, none⟩ = some (.string (⟨#[]⟩ : ByteArray)) := (blk_cell a99 1).trans rfl; have hfx_1 := blk_frozen a99 1; have hcy_2 : w99.cell? ⟨gb117, 2, none⟩ = some (.int .u64 0) := (blk_cell b99 2).trans rfl; have hfy_2 := blk_frozen b99 2; have hcx_2 : w99.cell? ⟨gb116, 2, none⟩ = some (.int .u64 0) := (blk_cell a99 2).trans rfl; have hfx_2 := blk_frozen a99 2; have hcy_3 : w99.cell? ⟨gb117, 3, none⟩ = some (.int .i64 a1) := (blk_cell b99 3).trans rfl; have hfy_3 := blk_frozen b99 3; have hcx_3 : w99.cell? ⟨gb116, 3, none⟩ = some (.int .i64 0) := (blk_cell a99 3).trans rfl; have hfx_3 := blk_frozen a99 3; have hcy_4 : w99.cell? ⟨gb117, 4, none⟩ = some (.int .i64 0) := (blk_cell b99 4).trans rfl; have hfy_4 := blk_frozen b99 4; have hcx_4 : w99.cell? ⟨gb116, 4, none⟩ = some (.int .i64 0) := (blk_cell a99 4).trans rfl; have hfx_4 := blk_frozen a99 4; clear a99 b99 hb99))
              refine bodyPost_ret (results_ctt rfl _ _ gb116 47 #[.int .i64 1, .string (a0.extract (a1 : Int).toNat (t119 : Int).toNat), .int .u64 0, .int .i64 a1, .int .i64 t119] (0, 0) _ rfl (by (with_reducible repeat (first | refine blk_drewN ?_ _ | refine blk_drew ?_ | refine blk_alloc ?_ _)); refine blk_put (cs := #[.int .i64 1, .string (a0.extract (a1 : Int).toNat (t119 : Int).toNat), .int .u64 0, .int .i64 a1, .int .i64 0]) ?_ 4 _ rfl; (with_reducible repeat (first | refine blk_drewN ?_ _ | refine blk_drew ?_ | refine blk_alloc ?_ _)); refine blk_put (cs := #[.int .i64 1, .string (a0.extract (a1 : Int).toNat (t119 : Int).toNat), .int .u64 0, .int .i64 0, .int .i64 0]) ?_ 3 _ rfl; (with_reducible repeat (first | refine blk_drewN ?_ _ | refine blk_drew ?_ | refine blk_alloc ?_ _)); refine blk_put (cs := #[.int .i64 1, .string (a0.extract (a1 : Int).toNat (t119 : Int).toNat), .int .u64 0, .int .i64 0, .int .i64 0]) ?_ 2 _ rfl; (with_reducible repeat (first | refine blk_drewN ?_ _ | refine blk_drew ?_ | refine blk_alloc ?_ _)); refine blk_put (cs := #[.int .i64 1, .string (⟨#[]⟩ : ByteArray), .int .u64 0, .int .i64 0, .int .i64 0]) ?_ 1 _ rfl; (with_reducible repeat (first | refine blk_drewN ?_ _ | refine blk_drew ?_ | refine blk_alloc ?_ _)); refine blk_put (cs := #[.int .i64 0, .string (⟨#[]⟩ : ByteArray), .int .u64 0, .int .i64 0, .int .i64 0]) ?_ 0 _ rfl; (with_reducible repeat (first | refine blk_drewN ?_ _ | refine blk_drew ?_ | refine blk_alloc ?_ _)); (repeat (first | (with_reducible exact BK116.out) | (refine blk_far ?_ NB116_117.out _; (with_reducible repeat (first | refine blk_drewN ?_ _ | refine blk_drew ?_ | refine blk_alloc ?_ _))))); done) Try.underlying47 rfl (by kernel_rfl)) rfl ?_
              exact ⟨by first | rfl | (simp [errW_none, errW_some] <;> rfl) | (simp [*, errW_none, errW_some] <;> rfl), by repeat (first | (with_reducible first | exact HB.out | apply below_alloc | apply pw_below_drewN | apply below_drew1 | refine below_set ?_ GE116.out | refine below_set ?_ GE117.out) | exact HB.out)⟩
            · rw [if_neg c12] at H
              have c12b0 : decide (64 < ((a0.extract (a1 : Int).toNat (t119 : Int).toNat).size : Int)) = false := decide_eq_false c12
              have c12s : decide (64 < (((t119 : Int).toNat - (a1 : Int).toNat : Nat) : Int)) = false := by have z_ : (a0.extract (a1 : Int).toNat (t119 : Int).toNat).size = (t119 : Int).toNat - (a1 : Int).toNat := (by rw [ByteArray.size_extract]; have q_ : (t119 : Int) ≤ (a0.size : Int) := of_decide_eq_true (by first | (with_reducible assumption) | assumption); omega); rw [← z_]; exact c12b0
              have c12b1 : decide (64 < (a0.extract (a1 : Int).toNat (t119 : Int).toNat).size) = false := decide_eq_false (by omega)
              clear c12
              simp only [Option.some.injEq, Prod.mk.injEq] at H
              obtain ⟨rfl, rfl, rfl, rfl, rfl, rfl, rfl⟩ := H
              go_enter Try.func35, Try.ntmps35
              go_wp2_with (first | ((with_reducible refine gate_dst (N := 4) rfl ?_); refine box_event ?hg (N := 4) ?hd (cs := #[.int .i64 0, .string (⟨#[]⟩ : ByteArray), .int .u64 0, .int .i64 0, .int .i64 0]) (t := 47) ?hr ?_; (case hd => rfl); (case hg => rfl); (case hr => first | (go_simp; done) | (go_simp; rfl)); intro gb116 hg w18 hbox hb; have n0_ := Aside0.mk (below_step (by repeat (first | (with_reducible first | exact HB.out | apply below_alloc | apply pw_below_drewN | apply below_drew1) | exact HB.out)) hb); have n1_ := Aside0.mk (hbox); have n2_ := Aside0.mk ((by rw [hg]; exact (below_size (by repeat (first | (with_reducible first | exact HB.out | apply below_alloc | apply pw_below_drewN | apply below_drew1) | exact HB.out))) : w.heap.size ≤ gb116)); have n3_ := Aside0.mk ((by rw [hg]; exact (below_size (by repeat (first | (with_reducible first | exact HB.out | apply below_alloc | apply pw_below_drewN | apply below_drew1) | exact HB.out))) : w.heap.size ≤ gb116)); clear HB; have HB := n0_; have BK116 := n1_; have GW116 := n2_; have GE116 := n3_; clear n0_ n1_ n2_ n3_; clear hb hbox hg) | ((with_reducible refine gate_dst (N := 7) rfl ?_); refine box_event ?hg (N := 7) ?hd (cs := #[.int .i64 0, .string (⟨#[]⟩ : ByteArray), .int .u64 0, .int .i64 0, .int .i64 0]) (t := 47) ?hr ?_; (case hd => rfl); (case hg => rfl); (case hr => first | (go_simp; done) | (go_simp; rfl)); intro gb117 hg w19 hbox hb; have n0_ := Aside0.mk (blk_below (g := gb116) (o := .cells #[.int .i64 0, .string (⟨#[]⟩ : ByteArray), .int .u64 0, .int .i64 0, .int .i64 0] 47 (0, 0)) (by (with_reducible repeat (first | refine blk_drewN ?_ _ | refine blk_drew ?_ | refine blk_alloc ?_ _)); exact BK116.out) hb); have n1_ := Aside0.mk (below_step (by repeat (first | (with_reducible first | exact HB.out | apply below_alloc | apply pw_below_drewN | apply below_drew1 | refine below_set ?_ GE116.out) | exact HB.out)) hb); have n2_ := Aside0.mk (hbox); have n3_ := Aside0.mk ((by rw [hg]; exact (below_size (by repeat (first | (with_reducible first | exact HB.out | apply below_alloc | apply pw_below_drewN | apply below_drew1 | refine below_set ?_ GE116.out) | exact HB.out))) : w.heap.size ≤ gb117)); have n4_ := Aside0.mk ((by rw [hg]; exact (below_size (by repeat (first | (with_reducible first | exact HB.out | apply below_alloc | apply pw_below_drewN | apply below_drew1 | refine below_set ?_ GE116.out) | exact HB.out))) : w.heap.size ≤ gb117)); have n5_ := Aside0.mk ((by rw [hg]; exact Nat.ne_of_lt (blk_lt (g := gb116) (o := .cells #[.int .i64 0, .string (⟨#[]⟩ : ByteArray), .int .u64 0, .int .i64 0, .int .i64 0] 47 (0, 0)) (by (with_reducible repeat (first | refine blk_drewN ?_ _ | refine blk_drew ?_ | refine blk_alloc ?_ _)); exact BK116.out)) : gb116 ≠ gb117)); have n6_ := Aside0.mk ((by rw [hg]; exact Nat.ne_of_gt (blk_lt (g := gb116) (o := .cells #[.int .i64 0, .string (⟨#[]⟩ : ByteArray), .int .u64 0, .int .i64 0, .int .i64 0] 47 (0, 0)) (by (with_reducible repeat (first | refine blk_drewN ?_ _ | refine blk_drew ?_ | refine blk_alloc ?_ _)); exact BK116.out)) : gb117 ≠ gb116)); clear BK116; clear HB; have BK116 := n0_; have HB := n1_; have BK117 := n2_; have GW117 := n3_; have GE117 := n4_; have NB116_117 := n5_; have NB117_116 := n6_; clear n0_ n1_ n2_ n3_ n4_ n5_ n6_; clear hb hbox hg; have hnb20 := NB117_116.out; have hnc20 := NB116_117.out; have hcz21_0 : w19.cell? ⟨gb117, 0, none⟩ = some (.int .i64 0) := (blk_cell BK117.out 0).trans rfl; have hcz21_1 : w19.cell? ⟨gb117, 1, none⟩ = some (.string (⟨#[]⟩ : ByteArray)) := (blk_cell BK117.out 1).trans rfl; have hcz21_2 : w19.cell? ⟨gb117, 2, none⟩ = some (.int .u64 0) := (blk_cell BK117.out 2).trans rfl; have hcz21_3 : w19.cell? ⟨gb117, 3, none⟩ = some (.int .i64 0) := (blk_cell BK117.out 3).trans rfl; have hcz21_4 : w19.cell? ⟨gb117, 4, none⟩ = some (.int .i64 0) := (blk_cell BK117.out 4).trans rfl; have hfz21_0 := blk_frozen BK117.out 0; have hfz21_1 := blk_frozen BK117.out 1; have hfz21_2 := blk_frozen BK117.out 2; have hfz21_3 := blk_frozen BK117.out 3; have hfz21_4 := blk_frozen BK117.out 4; have p5 : 0 ≤ (a1 : Int) := of_decide_eq_true (by first | (with_reducible assumption) | assumption); have q5 : a1 < (a0.size : Int) := of_decide_eq_true (by first | (with_reducible assumption) | assumption); have hx5 := bt_at a0 a1; replace p5 := eq_true p5; replace q5 := eq_true q5) | ((with_reducible refine gate_callee (f := 53) rfl ?_); refine goesL_ (some 20) rfl rfl Try.func53 (by kernel_rfl) rfl #[.int .u8 (bt a0 a1)] rfl (by (try simp only [List.map_toArray, List.map_cons, List.map_nil]); first | done | rfl | (simp only [List.length_drop, List.length_take]; rfl)) ?_; (with_reducible refine (lex_isLetter.calls (bt a0 a1) true _ A6.out).mono ?_); rintro e w' ⟨rfl, ⟨nd, rfl⟩⟩; refine ⟨_, rfl, ?_⟩) | ((with_reducible refine gate_callee (f := 54) rfl ?_); refine goesL_ (some 24) rfl rfl Try.func54 (by kernel_rfl) rfl #[.string a0, .int .i64 a1, .func (.func 55) #[] #[]] rfl (by (try simp only [List.map_toArray, List.map_cons, List.map_nil]); first | done | rfl | (simp only [List.length_drop, List.length_take]; rfl)) ?_; (with_reducible refine (lex_run.calls a0 a1 55 t119 _ A8.out).mono ?_); rintro e w99 ⟨rfl, hd99⟩; refine ⟨_, rfl, ?_⟩; have b99 : w99.heap[gb117]? = some (.cells #[.int .i64 1, .string (⟨#[]⟩ : ByteArray), .int .u64 0, .int .i64 a1, .int .i64 0] 47 (0, 0)) := (by refine blk_d0 hd99 ?_; (with_reducible repeat (first | refine blk_drewN ?_ _ | refine blk_drew ?_ | refine blk_alloc ?_ _)); refine blk_put (cs := #[.int .i64 0, .string (⟨#[]⟩ : ByteArray), .int .u64 0, .int .i64 a1, .int .i64 0]) ?_ 0 _ rfl; (with_reducible repeat (first | refine blk_drewN ?_ _ | refine blk_drew ?_ | refine blk_alloc ?_ _)); refine blk_put (cs := #[.int .i64 0, .string (⟨#[]⟩ : ByteArray), .int .u64 0, .int .i64 a1, .int .i64 0]) ?_ 4 _ rfl; (with_reducible repeat (first | refine blk_drewN ?_ _ | refine blk_drew ?_ | refine blk_alloc ?_ _)); refine blk_put (cs := #[.int .i64 0, .string (⟨#[]⟩ : ByteArray), .int .u64 0, .int .i64 0, .int .i64 0]) ?_ 3 _ rfl; (with_reducible repeat (first | refine blk_drewN ?_ _ | refine blk_drew ?_ | refine blk_alloc ?_ _)); refine blk_put (cs := #[.int .i64 0, .string (⟨#[]⟩ : ByteArray), .int .u64 0, .int .i64 0, .int .i64 0]) ?_ 2 _ rfl; (with_reducible repeat (first | refine blk_drewN ?_ _ | refine blk_drew ?_ | refine blk_alloc ?_ _)); refine blk_put (cs := #[.int .i64 0, .string (⟨#[]⟩ : ByteArray), .int .u64 0, .int .i64 0, .int .i64 0]) ?_ 1 _ rfl; (with_reducible repeat (first | refine blk_drewN ?_ _ | refine blk_drew ?_ | refine blk_alloc ?_ _)); refine blk_put (cs := #[.int .i64 0, .string (⟨#[]⟩ : ByteArray), .int .u64 0, .int .i64 0, .int .i64 0]) ?_ 0 _ rfl; (with_reducible repeat (first | refine blk_drewN ?_ _ | refine blk_drew ?_ | refine blk_alloc ?_ _)); exact BK117.out); have a99 : w99.heap[gb116]? = some (.cells #[.int .i64 0, .string (⟨#[]⟩ : ByteArray), .int .u64 0, .int .i64 0, .int .i64 0] 47 (0, 0)) := (by refine blk_d0 hd99 ?_; repeat (first | (with_reducible exact BK116.out) | (with_reducible refine blk_drewN ?_ _) | (with_reducible refine blk_far ?_ NB116_117.out _))); have hb99 := below_step (show Below w.heap.size w _ from (by repeat (first | (with_reducible first | exact HB.out | apply below_alloc | apply pw_below_drewN | apply below_drew1 | refine below_set ?_ GE117.out) | exact HB.out))) hd99.below; (try clear hcz16_0 hcz16_1 hcz16_2 hcz16_3 hcz16_4 hfz16_0 hfz16_1 hfz16_2 hfz16_3 hfz16_4); clear BK116 BK117 HB hd99; have BK116 := Aside0.mk a99; have BK117 := Aside0.mk b99; have HB := Aside0.mk hb99; have hcy_0 : w99.cell? ⟨gb117, 0, none⟩ = some (.int .i64 1) := (blk_cell b99 0).trans rfl; have hfy_0 := blk_frozen b99 0; have hcx_0 : w99.cell? ⟨gb116, 0, none⟩ = some (.int .i64 0) := (blk_cell a99 0).trans rfl; have hfx_0 := blk_frozen a99 0; have hcy_1 : w99.cell? ⟨gb117, 1, none⟩ = some (.string (⟨#[]⟩ : ByteArray)) := (blk_cell b99 1).trans rfl; have hfy_1 := blk_frozen b99 1; have hcx_1 : w99.cell? ⟨gb116, 1, none⟩ = some (.string (⟨#[]⟩ : ByteArray)) := (blk_cell a99 1).trans rfl; have hfx_1 := blk_frozen a99 1; have hcy_2 : w99.cell? ⟨gb117, 2, none⟩ = some (.int .u64 0) := (blk_cell b99 2).trans rfl; have hfy_2 := blk_frozen b99 2; have hcx_2 : w99.cell? ⟨gb116, 2, none⟩ = some (.int .u64 0) := (blk_cell a99 2).trans rfl; have hfx_2 := blk_frozen a99 2; have hcy_3 : w99.cell? ⟨gb117, 3, none⟩ = some (.int .i64 a1) := (blk_cell b99 3).trans rfl; have hfy_3 := blk_frozen b99 3; have hcx_3 : w99.cell? ⟨gb116, 3, none⟩ = some (.int .i64 0) := (blk_cell a99 3).trans rfl; have hfx_3 := blk_frozen a99 3; have hcy_4 : w99.cell? ⟨gb117, 4, none⟩ = some (.int .i64 0) := (blk_cell b99 4).trans rfl; have hfy_4 := blk_frozen b99 4; have hcx_4 : w99.cell? ⟨gb116, 4, none⟩ = some (.int .i64 0) := (blk_cell a99 4).trans rfl; have hfx_4 := blk_frozen a99 4; clear a99 b99 hb99))
              refine bodyPost_ret (results_ctt rfl _ _ gb116 47 #[.int .i64 1, .string (a0.extract (a1 : Int).toNat (t119 : Int).toNat), .int .u64 0, .int .i64 a1, .int .i64 t119] (0, 0) _ rfl (by (with_reducible repeat (first | refine blk_drewN ?_ _ | refine blk_drew ?_ | refine blk_alloc ?_ _)); refine blk_put (cs := #[.int .i64 1, .string (a0.extract (a1 : Int).toNat (t119 : Int).toNat), .int .u64 0, .int .i64 a1, .int .i64 0]) ?_ 4 _ rfl; (with_reducible repeat (first | refine blk_drewN ?_ _ | refine blk_drew ?_ | refine blk_alloc ?_ _)); refine blk_put (cs := #[.int .i64 1, .string (a0.extract (a1 : Int).toNat (t119 : Int).toNat), .int .u64 0, .int .i64 0, .int .i64 0]) ?_ 3 _ rfl; (with_reducible repeat (first | refine blk_drewN ?_ _ | refine blk_drew ?_ | refine blk_alloc ?_ _)); refine blk_put (cs := #[.int .i64 1, .string (a0.extract (a1 : Int).toNat (t119 : Int).toNat), .int .u64 0, .int .i64 0, .int .i64 0]) ?_ 2 _ rfl; (with_reducible repeat (first | refine blk_drewN ?_ _ | refine blk_drew ?_ | refine blk_alloc ?_ _)); refine blk_put (cs := #[.int .i64 1, .string (⟨#[]⟩ : ByteArray), .int .u64 0, .int .i64 0, .int .i64 0]) ?_ 1 _ rfl; (with_reducible repeat (first | refine blk_drewN ?_ _ | refine blk_drew ?_ | refine blk_alloc ?_ _)); refine blk_put (cs := #[.int .i64 0, .string (⟨#[]⟩ : ByteArray), .int .u64 0, .int .i64 0, .int .i64 0]) ?_ 0 _ rfl; (with_reducible repeat (first | refine blk_drewN ?_ _ | refine blk_drew ?_ | refine blk_alloc ?_ _)); (repeat (first | (with_reducible exact BK116.out) | (refine blk_far ?_ NB116_117.out _; (with_reducible repeat (first | refine blk_drewN ?_ _ | refine blk_drew ?_ | refine blk_alloc ?_ _))))); done) Try.underlying47 rfl (by kernel_rfl)) rfl ?_
              exact ⟨by first | rfl | (simp [errW_none, errW_some] <;> rfl) | (simp [*, errW_none, errW_some] <;> rfl), by repeat (first | (with_reducible first | exact HB.out | apply below_alloc | apply pw_below_drewN | apply below_drew1 | refine below_set ?_ GE116.out | refine below_set ?_ GE117.out) | exact HB.out)⟩
          · rw [if_neg c11] at H
            exact absurd H (by simp)
        · rw [if_neg c10] at H
          exact absurd H (by simp)
      · replace c7 := Bool.eq_false_iff.mpr c7
        subst c7
        have H1 : ((lex_isDigit.f (bt a0 a1)).bind fun t120 => (if t120 = true then ((lex_run.f a0 a1 56).bind fun t121 => (if a1 ≤ t121 then (if t121 ≤ (a0.size : Int) then ((lex_number.f (a0.extract (a1 : Int).toNat (t121 : Int).toNat)).bind fun bt122 => (if bt122.2 = true then (some (2, (⟨#[]⟩ : ByteArray), bt122.1, a1, t121, 0, 0)) else (some (2, (⟨#[]⟩ : ByteArray), 0, a1, t121, a1, 111)))) else (none)) else (none))) else (if (bt a0 a1) = 34 then ((lex_text.f k a0 a1).bind fun bt124 => (some (bt124.1, bt124.2.1, bt124.2.2.1, bt124.2.2.2.1, bt124.2.2.2.2.1, bt124.2.2.2.2.2.1, bt124.2.2.2.2.2.2))) else ((strings_IndexByte.f (⟨#[123, 125, 40, 41, 58, 59, 44, 61, 43, 45, 42]⟩ : ByteArray) (bt a0 a1)).bind fun t131 => (if t131 ≥ 0 then (if a1 ≤ (wrap64 (a1 + 1)) then (if (wrap64 (a1 + 1)) ≤ (a0.size : Int) then (some (4, a0.extract (a1 : Int).toNat ((wrap64 (a1 + 1)) : Int).toNat, 0, a1, wrap64 (a1 + 1), 0, 0)) else (none)) else (none)) else (some (0, (⟨#[]⟩ : ByteArray), 0, a1, 0, a1, 80))))))) = some (r1, r2, r3, r4, r5, r6, r7) := by rw [if_neg (show ¬ (false = true) by decide)] at H; exact H
        clear H
        have H := H1
        clear H1
        replace H := Option.bind_eq_some_iff.mp H
        obtain ⟨t120, A230, H⟩ := H
        replace H : (if t120 = true then ((lex_run.f a0 a1 56).bind fun t121 => (if a1 ≤ t121 then (if t121 ≤ (a0.size : Int) then ((lex_number.f (a0.extract (a1 : Int).toNat (t121 : Int).toNat)).bind fun bt122 => (if bt122.2 = true then (some (2, (⟨#[]⟩ : ByteArray), bt122.1, a1, t121, 0, 0)) else (some (2, (⟨#[]⟩ : ByteArray), 0, a1, t121, a1, 111)))) else (none)) else (none))) else (if (bt a0 a1) = 34 then ((lex_text.f k a0 a1).bind fun bt124 => (some (bt124.1, bt124.2.1, bt124.2.2.1, bt124.2.2.2.1, bt124.2.2.2.2.1, bt124.2.2.2.2.2.1, bt124.2.2.2.2.2.2))) else ((strings_IndexByte.f (⟨#[123, 125, 40, 41, 58, 59, 44, 61, 43, 45, 42]⟩ : ByteArray) (bt a0 a1)).bind fun t131 => (if t131 ≥ 0 then (if a1 ≤ (wrap64 (a1 + 1)) then (if (wrap64 (a1 + 1)) ≤ (a0.size : Int) then (some (4, a0.extract (a1 : Int).toNat ((wrap64 (a1 + 1)) : Int).toNat, 0, a1, wrap64 (a1 + 1), 0, 0)) else (none)) else (none)) else (some (0, (⟨#[]⟩ : ByteArray), 0, a1, 0, a1, 80)))))) = some (r1, r2, r3, r4, r5, r6, r7) := H
        have A23 := Aside0.mk A230
        clear A230
        by_cases c24 : t120 = true
        · subst c24
          have H1 : ((lex_run.f a0 a1 56).bind fun t121 => (if a1 ≤ t121 then (if t121 ≤ (a0.size : Int) then ((lex_number.f (a0.extract (a1 : Int).toNat (t121 : Int).toNat)).bind fun bt122 => (if bt122.2 = true then (some (2, (⟨#[]⟩ : ByteArray), bt122.1, a1, t121, 0, 0)) else (some (2, (⟨#[]⟩ : ByteArray), 0, a1, t121, a1, 111)))) else (none)) else (none))) = some (r1, r2, r3, r4, r5, r6, r7) := by rw [if_pos rfl] at H; exact H
          clear H
          have H := H1
          clear H1
          replace H := Option.bind_eq_some_iff.mp H
          obtain ⟨t121, A250, H⟩ := H
          replace H : (if a1 ≤ t121 then (if t121 ≤ (a0.size : Int) then ((lex_number.f (a0.extract (a1 : Int).toNat (t121 : Int).toNat)).bind fun bt122 => (if bt122.2 = true then (some (2, (⟨#[]⟩ : ByteArray), bt122.1, a1, t121, 0, 0)) else (some (2, (⟨#[]⟩ : ByteArray), 0, a1, t121, a1, 111)))) else (none)) else (none)) = some (r1, r2, r3, r4, r5, r6, r7) := H
          have A25 := Aside0.mk A250
          clear A250
          have c26b0 := eq_true (of_decide_eq_true (by first | (with_reducible assumption) | assumption) : 0 ≤ a1)
          by_cases c27 : a1 ≤ t121
          · rw [if_pos c27] at H
            have c27b0 := eq_true c27
            have c27b1 : decide (a1 ≤ t121) = true := decide_eq_true c27
            clear c27
            by_cases c28 : t121 ≤ (a0.size : Int)
            · rw [if_pos c28] at H
              have c28b0 := eq_true c28
              have c28b1 : decide (t121 ≤ (a0.size : Int)) = true := decide_eq_true c28
              clear c28
              replace H := Option.bind_eq_some_iff.mp H
              obtain ⟨⟨t122, t123⟩, A290, H⟩ := H
              replace H : (if t123 = true then (some (2, (⟨#[]⟩ : ByteArray), t122, a1, t121, 0, 0)) else (some (2, (⟨#[]⟩ : ByteArray), 0, a1, t121, a1, 111))) = some (r1, r2, r3, r4, r5, r6, r7) := H
              have A29 := Aside0.mk A290
              clear A290
              by_cases c30 : t123 = true
              · subst c30
                have H1 : (some (2, (⟨#[]⟩ : ByteArray), t122, a1, t121, 0, 0)) = some (r1, r2, r3, r4, r5, r6, r7) := by rw [if_pos rfl] at H; exact H
                clear H
                have H := H1
                clear H1
                simp only [Option.some.injEq, Prod.mk.injEq] at H
                obtain ⟨rfl, rfl, rfl, rfl, rfl, rfl, rfl⟩ := H
                go_enter Try.func35, Try.ntmps35
                go_wp2_with (first | ((with_reducible refine gate_dst (N := 4) rfl ?_); refine box_event ?hg (N := 4) ?hd (cs := #[.int .i64 0, .string (⟨#[]⟩ : ByteArray), .int .u64 0, .int .i64 0, .int .i64 0]) (t := 47) ?hr ?_; (case hd => rfl); (case hg => rfl); (case hr => first | (go_simp; done) | (go_simp; rfl)); intro gb116 hg w31 hbox hb; have n0_ := Aside0.mk (below_step (by repeat (first | (with_reducible first | exact HB.out | apply below_alloc | apply pw_below_drewN | apply below_drew1) | exact HB.out)) hb); have n1_ := Aside0.mk (hbox); have n2_ := Aside0.mk ((by rw [hg]; exact (below_size (by repeat (first | (with_reducible first | exact HB.out | apply below_alloc | apply pw_below_drewN | apply below_drew1) | exact HB.out))) : w.heap.size ≤ gb116)); have n3_ := Aside0.mk ((by rw [hg]; exact (below_size (by repeat (first | (with_reducible first | exact HB.out | apply below_alloc | apply pw_below_drewN | apply below_drew1) | exact HB.out))) : w.heap.size ≤ gb116)); clear HB; have HB := n0_; have BK116 := n1_; have GW116 := n2_; have GE116 := n3_; clear n0_ n1_ n2_ n3_; clear hb hbox hg) | ((with_reducible refine gate_dst (N := 7) rfl ?_); refine box_event ?hg (N := 7) ?hd (cs := #[.int .i64 0, .string (⟨#[]⟩ : ByteArray), .int .u64 0, .int .i64 0, .int .i64 0]) (t := 47) ?hr ?_; (case hd => rfl); (case hg => rfl); (case hr => first | (go_simp; done) | (go_simp; rfl)); intro gb117 hg w32 hbox hb; have n0_ := Aside0.mk (blk_below (g := gb116) (o := .cells #[.int .i64 0, .string (⟨#[]⟩ : ByteArray), .int .u64 0, .int .i64 0, .int .i64 0] 47 (0, 0)) (by (with_reducible repeat (first | refine blk_drewN ?_ _ | refine blk_drew ?_ | refine blk_alloc ?_ _)); exact BK116.out) hb); have n1_ := Aside0.mk (below_step (by repeat (first | (with_reducible first | exact HB.out | apply below_alloc | apply pw_below_drewN | apply below_drew1 | refine below_set ?_ GE116.out) | exact HB.out)) hb); have n2_ := Aside0.mk (hbox); have n3_ := Aside0.mk ((by rw [hg]; exact (below_size (by repeat (first | (with_reducible first | exact HB.out | apply below_alloc | apply pw_below_drewN | apply below_drew1 | refine below_set ?_ GE116.out) | exact HB.out))) : w.heap.size ≤ gb117)); have n4_ := Aside0.mk ((by rw [hg]; exact (below_size (by repeat (first | (with_reducible first | exact HB.out | apply below_alloc | apply pw_below_drewN | apply below_drew1 | refine below_set ?_ GE116.out) | exact HB.out))) : w.heap.size ≤ gb117)); have n5_ := Aside0.mk ((by rw [hg]; exact Nat.ne_of_lt (blk_lt (g := gb116) (o := .cells #[.int .i64 0, .string (⟨#[]⟩ : ByteArray), .int .u64 0, .int .i64 0, .int .i64 0] 47 (0, 0)) (by (with_reducible repeat (first | refine blk_drewN ?_ _ | refine blk_drew ?_ | refine blk_alloc ?_ _)); exact BK116.out)) : gb116 ≠ gb117)); have n6_ := Aside0.mk ((by rw [hg]; exact Nat.ne_of_gt (blk_lt (g := gb116) (o := .cells #[.int .i64 0, .string (⟨#[]⟩ : ByteArray), .int .u64 0, .int .i64 0, .int .i64 0] 47 (0, 0)) (by (with_reducible repeat (first | refine blk_drewN ?_ _ | refine blk_drew ?_ | refine blk_alloc ?_ _)); exact BK116.out)) : gb117 ≠ gb116)); clear BK116; clear HB; have BK116 := n0_; have HB := n1_; have BK117 := n2_; have GW117 := n3_; have GE117 := n4_; have NB116_117 := n5_; have NB117_116 := n6_; clear n0_ n1_ n2_ n3_ n4_ n5_ n6_; clear hb hbox hg; have hnb33 := NB117_116.out; have hnc33 := NB116_117.out; have hcz34_0 : w32.cell? ⟨gb117, 0, none⟩ = some (.int .i64 0) := (blk_cell BK117.out 0).trans rfl; have hcz34_1 : w32.cell? ⟨gb117, 1, none⟩ = some (.string (⟨#[]⟩ : ByteArray)) := (blk_cell BK117.out 1).trans rfl; have hcz34_2 : w32.cell? ⟨gb117, 2, none⟩ = some (.int .u64 0) := (blk_cell BK117.out 2).trans rfl; have hcz34_3 : w32.cell? ⟨gb117, 3, none⟩ = some (.int .i64 0) := (blk_cell BK117.out 3).trans rfl; have hcz34_4 : w32.cell? ⟨gb117, 4, none⟩ = some (.int .i64 0) := (blk_cell BK117.out 4).trans rfl; have hfz34_0 := blk_frozen BK117.out 0; have hfz34_1 := blk_frozen BK117.out 1; have hfz34_2 := blk_frozen BK117.out 2; have hfz34_3 := blk_frozen BK117.out 3; have hfz34_4 := blk_frozen BK117.out 4; have p5 : 0 ≤ (a1 : Int) := of_decide_eq_true (by first | (with_reducible assumption) | assumption); have q5 : a1 < (a0.size : Int) := of_decide_eq_true (by first | (with_reducible assumption) | assumption); have hx5 := bt_at a0 a1; replace p5 := eq_true p5; replace q5 := eq_true q5) | ((with_reducible refine gate_callee (f := 53) rfl ?_); refine goesL_ (some 20) rfl rfl Try.func53 (by kernel_rfl) rfl #[.int .u8 (bt a0 a1)] rfl (by (try simp only [List.map_toArray, List.map_cons, List.map_nil]); first | done | rfl | (simp only [List.length_drop, List.length_take]; rfl)) ?_; (with_reducible refine (lex_isLetter.calls (bt a0 a1) false _ A6.out).mono ?_); rintro e w' ⟨rfl, ⟨nd, rfl⟩⟩; refine ⟨_, rfl, ?_⟩) | ((with_reducible refine gate_callee (f := 56) rfl ?_); refine goesL_ (some 40) rfl rfl Try.func56 (by kernel_rfl) rfl #[.int .u8 (bt a0 a1)] rfl (by (try simp only [List.map_toArray, List.map_cons, List.map_nil]); first | done | rfl | (simp only [List.length_drop, List.length_take]; rfl)) ?_; (with_reducible refine (lex_isDigit.calls (bt a0 a1) true _ A23.out).mono ?_); rintro e w' ⟨rfl, ⟨nd, rfl⟩⟩; refine ⟨_, rfl, ?_⟩) | ((with_reducible refine gate_callee (f := 54) rfl ?_); refine goesL_ (some 44) rfl rfl Try.func54 (by kernel_rfl) rfl #[.string a0, .int .i64 a1, .func (.func 56) #[] #[]] rfl (by (try simp only [List.map_toArray, List.map_cons, List.map_nil]); first | done | rfl | (simp only [List.length_drop, List.length_take]; rfl)) ?_; (with_reducible refine (lex_run.calls a0 a1 56 t121 _ A25.out).mono ?_); rintro e w99 ⟨rfl, hd99⟩; refine ⟨_, rfl, ?_⟩; have b99 : w99.heap[gb117]? = some (.cells #[.int .i64 2, .string (⟨#[]⟩ : ByteArray), .int .u64 0, .int .i64 a1, .int .i64 0] 47 (0, 0)) := (by refine blk_d0 hd99 ?_; (with_reducible repeat (first | refine blk_drewN ?_ _ | refine blk_drew ?_ | refine blk_alloc ?_ _)); refine blk_put (cs := #[.int .i64 0, .string (⟨#[]⟩ : ByteArray), .int .u64 0, .int .i64 a1, .int .i64 0]) ?_ 0 _ rfl; (with_reducible repeat (first | refine blk_drewN ?_ _ | refine blk_drew ?_ | refine blk_alloc ?_ _)); refine blk_put (cs := #[.int .i64 0, .string (⟨#[]⟩ : ByteArray), .int .u64 0, .int .i64 a1, .int .i64 0]) ?_ 4 _ rfl; (with_reducible repeat (first | refine blk_drewN ?_ _ | refine blk_drew ?_ | refine blk_alloc ?_ _)); refine blk_put (cs := #[.int .i64 0, .string (⟨#[]⟩ : ByteArray), .int .u64 0, .int .i64 0, .int .i64 0]) ?_ 3 _ rfl; (with_reducible repeat (first | refine blk_drewN ?_ _ | refine blk_drew ?_ | refine blk_alloc ?_ _)); refine blk_put (cs := #[.int .i64 0, .string (⟨#[]⟩ : ByteArray), .int .u64 0, .int .i64 0, .int .i64 0]) ?_ 2 _ rfl; (with_reducible repeat (first | refine blk_drewN ?_ _ | refine blk_drew ?_ | refine blk_alloc ?_ _)); refine blk_put (cs := #[.int .i64 0, .string (⟨#[]⟩ : ByteArray), .int .u64 0, .int .i64 0, .int .i64 0]) ?_ 1 _ rfl; (with_reducible repeat (first | refine blk_drewN ?_ _ | refine blk_drew ?_ | refine blk_alloc ?_ _)); refine blk_put (cs := #[.int .i64 0, .string (⟨#[]⟩ : ByteArray), .int .u64 0, .int .i64 0, .int .i64 0]) ?_ 0 _ rfl; (with_reducible repeat (first | refine blk_drewN ?_ _ | refine blk_drew ?_ | refine blk_alloc ?_ _)); exact BK117.out); have a99 : w99.heap[gb116]? = some (.cells #[.int .i64 0, .string (⟨#[]⟩ : ByteArray), .int .u64 0, .int .i64 0, .int .i64 0] 47 (0, 0)) := (by refine blk_d0 hd99 ?_; repeat (first | (with_reducible exact BK116.out) | (with_reducible refine blk_drewN ?_ _) | (with_reducible refine blk_far ?_ NB116_117.out _))); have hb99 := below_step (show Below w.heap.size w _ from (by repeat (first | (with_reducible first | exact HB.out | apply below_alloc | apply pw_below_drewN | apply below_drew1 | refine below_set ?_ GE117.out) | exact HB.out))) hd99.below; (try clear hcz16_0 hcz16_1 hcz16_2 hcz16_3 hcz16_4 hfz16_0 hfz16_1 hfz16_2 hfz16_3 hfz16_4); clear BK116 BK117 HB hd99; have BK116 := Aside0.mk a99; have BK117 := Aside0.mk b99; have HB := Aside0.mk hb99; have hcy_0 : w99.cell? ⟨gb117, 0, none⟩ = some (.int .i64 2) := (blk_cell b99 0).trans rfl; have hfy_0 := blk_frozen b99 0; have hcx_0 : w99.cell? ⟨gb116, 0, none⟩ = some (.int .i64 0) := (blk_cell a99 0).trans rfl; have hfx_0 := blk_frozen a99 0; have hcy_1 : w99.cell? ⟨gb117, 1, none⟩ = some (.string (⟨#[]⟩ : ByteArray)) := (blk_cell b99 1).trans rfl; have hfy_1 := blk_frozen b99 1; have hcx_1 : w99.cell? ⟨gb116, 1, none⟩ = some (.string (⟨#[]⟩ : ByteArray)) := (blk_cell a99 1).trans rfl; have hfx_1 := blk_frozen a99 1; have hcy_2 : w99.cell? ⟨gb117, 2, none⟩ = some (.int .u64 0) := (blk_cell b99 2).trans rfl; have hfy_2 := blk_frozen b99 2; have hcx_2 : w99.cell? ⟨gb116, 2, none⟩ = some (.int .u64 0) := (blk_cell a99 2).trans rfl; have hfx_2 := blk_frozen a99 2; have hcy_3 : w99.cell? ⟨gb117, 3, none⟩ = some (.int .i64 a1) := (blk_cell b99 3).trans rfl; have hfy_3 := blk_frozen b99 3; have hcx_3 : w99.cell? ⟨gb116, 3, none⟩ = some (.int .i64 0) := (blk_cell a99 3).trans rfl; have hfx_3 := blk_frozen a99 3; have hcy_4 : w99.cell? ⟨gb117, 4, none⟩ = some (.int .i64 0) := (blk_cell b99 4).trans rfl; have hfy_4 := blk_frozen b99 4; have hcx_4 : w99.cell? ⟨gb116, 4, none⟩ = some (.int .i64 0) := (blk_cell a99 4).trans rfl; have hfx_4 := blk_frozen a99 4; clear a99 b99 hb99) | ((with_reducible refine gate_callee (f := 57) rfl ?_); refine goesL_ (some 52) rfl rfl Try.func57 (by kernel_rfl) rfl #[.string (a0.extract (a1 : Int).toNat (t121 : Int).toNat)] rfl (by (try simp only [List.map_toArray, List.map_cons, List.map_nil]); first | done | rfl | (simp only [List.length_drop, List.length_take]; rfl)) ?_; (with_reducible refine (lex_number.calls (a0.extract (a1 : Int).toNat (t121 : Int).toNat) t122 true _ A29.out).mono ?_); rintro e w' ⟨rfl, ⟨nd, rfl⟩⟩; refine ⟨_, rfl, ?_⟩; have hcz35_0 : w99.cell? ⟨gb116, 0, none⟩ = some (.int .i64 0) := (blk_cell BK116.out 0).trans rfl; have hcz35_1 : w99.cell? ⟨gb116, 1, none⟩ = some (.string (⟨#[]⟩ : ByteArray)) := (blk_cell BK116.out 1).trans rfl; have hcz35_2 : w99.cell? ⟨gb116, 2, none⟩ = some (.int .u64 0) := (blk_cell BK116.out 2).trans rfl; have hcz35_3 : w99.cell? ⟨gb116, 3, none⟩ = some (.int .i64 0) := (blk_cell BK116.out 3).trans rfl; have hcz35_4 : w99.cell? ⟨gb116, 4, none⟩ = some (.int .i64 0) := (blk_cell BK116.out 4).trans rfl; have hfz35_0 := blk_frozen BK116.out 0; have hfz35_1 := blk_frozen BK116.out 1; have hfz35_2 := blk_frozen BK116.out 2; have hfz35_3 := blk_frozen BK116.out 3; have hfz35_4 := blk_frozen BK116.out 4))
                refine bodyPost_ret (results_ctt rfl _ _ gb116 47 #[.int .i64 2, .string (⟨#[]⟩ : ByteArray), .int .u64 t122, .int .i64 a1, .int .i64 t121] (0, 0) _ rfl (by (with_reducible repeat (first | refine blk_drewN ?_ _ | refine blk_drew ?_ | refine blk_alloc ?_ _)); refine blk_put (cs := #[.int .i64 2, .string (⟨#[]⟩ : ByteArray), .int .u64 t122, .int .i64 a1, .int .i64 0]) ?_ 4 _ rfl; (with_reducible repeat (first | refine blk_drewN ?_ _ | refine blk_drew ?_ | refine blk_alloc ?_ _)); refine blk_put (cs := #[.int .i64 2, .string (⟨#[]⟩ : ByteArray), .int .u64 t122, .int .i64 0, .int .i64 0]) ?_ 3 _ rfl; (with_reducible repeat (first | refine blk_drewN ?_ _ | refine blk_drew ?_ | refine blk_alloc ?_ _)); refine blk_put (cs := #[.int .i64 2, .string (⟨#[]⟩ : ByteArray), .int .u64 0, .int .i64 0, .int .i64 0]) ?_ 2 _ rfl; (with_reducible repeat (first | refine blk_drewN ?_ _ | refine blk_drew ?_ | refine blk_alloc ?_ _)); refine blk_put (cs := #[.int .i64 2, .string (⟨#[]⟩ : ByteArray), .int .u64 0, .int .i64 0, .int .i64 0]) ?_ 1 _ rfl; (with_reducible repeat (first | refine blk_drewN ?_ _ | refine blk_drew ?_ | refine blk_alloc ?_ _)); refine blk_put (cs := #[.int .i64 0, .string (⟨#[]⟩ : ByteArray), .int .u64 0, .int .i64 0, .int .i64 0]) ?_ 0 _ rfl; (with_reducible repeat (first | refine blk_drewN ?_ _ | refine blk_drew ?_ | refine blk_alloc ?_ _)); (repeat (first | (with_reducible exact BK116.out) | (refine blk_far ?_ NB116_117.out _; (with_reducible repeat (first | refine blk_drewN ?_ _ | refine blk_drew ?_ | refine blk_alloc ?_ _))))); done) Try.underlying47 rfl (by kernel_rfl)) rfl ?_
                exact ⟨by first | rfl | (simp [errW_none, errW_some] <;> rfl) | (simp [*, errW_none, errW_some] <;> rfl), by repeat (first | (with_reducible first | exact HB.out | apply below_alloc | apply pw_below_drewN | apply below_drew1 | refine below_set ?_ GE116.out | refine below_set ?_ GE117.out) | exact HB.out)⟩
              · replace c30 := Bool.eq_false_iff.mpr c30
                subst c30
                have H1 : (some (2, (⟨#[]⟩ : ByteArray), 0, a1, t121, a1, 111)) = some (r1, r2, r3, r4, r5, r6, r7) := by rw [if_neg (show ¬ (false = true) by decide)] at H; exact H
                clear H
                have H := H1
                clear H1
                simp only [Option.some.injEq, Prod.mk.injEq] at H
                obtain ⟨rfl, rfl, rfl, rfl, rfl, rfl, rfl⟩ := H
                go_enter Try.func35, Try.ntmps35
                go_wp2_with (first | ((with_reducible refine gate_dst (N := 4) rfl ?_); refine box_event ?hg (N := 4) ?hd (cs := #[.int .i64 0, .string (⟨#[]⟩ : ByteArray), .int .u64 0, .int .i64 0, .int .i64 0]) (t := 47) ?hr ?_; (case hd => rfl); (case hg => rfl); (case hr => first | (go_simp; done) | (go_simp; rfl)); intro gb116 hg w36 hbox hb; have n0_ := Aside0.mk (below_step (by repeat (first | (with_reducible first | exact HB.out | apply below_alloc | apply pw_below_drewN | apply below_drew1) | exact HB.out)) hb); have n1_ := Aside0.mk (hbox); have n2_ := Aside0.mk ((by rw [hg]; exact (below_size (by repeat (first | (with_reducible first | exact HB.out | apply below_alloc | apply pw_below_drewN | apply below_drew1) | exact HB.out))) : w.heap.size ≤ gb116)); have n3_ := Aside0.mk ((by rw [hg]; exact (below_size (by repeat (first | (with_reducible first | exact HB.out | apply below_alloc | apply pw_below_drewN | apply below_drew1) | exact HB.out))) : w.heap.size ≤ gb116)); clear HB; have HB := n0_; have BK116 := n1_; have GW116 := n2_; have GE116 := n3_; clear n0_ n1_ n2_ n3_; clear hb hbox hg) | ((with_reducible refine gate_dst (N := 7) rfl ?_); refine box_event ?hg (N := 7) ?hd (cs := #[.int .i64 0, .string (⟨#[]⟩ : ByteArray), .int .u64 0, .int .i64 0, .int .i64 0]) (t := 47) ?hr ?_; (case hd => rfl); (case hg => rfl); (case hr => first | (go_simp; done) | (go_simp; rfl)); intro gb117 hg w37 hbox hb; have n0_ := Aside0.mk (blk_below (g := gb116) (o := .cells #[.int .i64 0, .string (⟨#[]⟩ : ByteArray), .int .u64 0, .int .i64 0, .int .i64 0] 47 (0, 0)) (by (with_reducible repeat (first | refine blk_drewN ?_ _ | refine blk_drew ?_ | refine blk_alloc ?_ _)); exact BK116.out) hb); have n1_ := Aside0.mk (below_step (by repeat (first | (with_reducible first | exact HB.out | apply below_alloc | apply pw_below_drewN | apply below_drew1 | refine below_set ?_ GE116.out) | exact HB.out)) hb); have n2_ := Aside0.mk (hbox); have n3_ := Aside0.mk ((by rw [hg]; exact (below_size (by repeat (first | (with_reducible first | exact HB.out | apply below_alloc | apply pw_below_drewN | apply below_drew1 | refine below_set ?_ GE116.out) | exact HB.out))) : w.heap.size ≤ gb117)); have n4_ := Aside0.mk ((by rw [hg]; exact (below_size (by repeat (first | (with_reducible first | exact HB.out | apply below_alloc | apply pw_below_drewN | apply below_drew1 | refine below_set ?_ GE116.out) | exact HB.out))) : w.heap.size ≤ gb117)); have n5_ := Aside0.mk ((by rw [hg]; exact Nat.ne_of_lt (blk_lt (g := gb116) (o := .cells #[.int .i64 0, .string (⟨#[]⟩ : ByteArray), .int .u64 0, .int .i64 0, .int .i64 0] 47 (0, 0)) (by (with_reducible repeat (first | refine blk_drewN ?_ _ | refine blk_drew ?_ | refine blk_alloc ?_ _)); exact BK116.out)) : gb116 ≠ gb117)); have n6_ := Aside0.mk ((by rw [hg]; exact Nat.ne_of_gt (blk_lt (g := gb116) (o := .cells #[.int .i64 0, .string (⟨#[]⟩ : ByteArray), .int .u64 0, .int .i64 0, .int .i64 0] 47 (0, 0)) (by (with_reducible repeat (first | refine blk_drewN ?_ _ | refine blk_drew ?_ | refine blk_alloc ?_ _)); exact BK116.out)) : gb117 ≠ gb116)); clear BK116; clear HB; have BK116 := n0_; have HB := n1_; have BK117 := n2_; have GW117 := n3_; have GE117 := n4_; have NB116_117 := n5_; have NB117_116 := n6_; clear n0_ n1_ n2_ n3_ n4_ n5_ n6_; clear hb hbox hg; have hnb38 := NB117_116.out; have hnc38 := NB116_117.out; have hcz39_0 : w37.cell? ⟨gb117, 0, none⟩ = some (.int .i64 0) := (blk_cell BK117.out 0).trans rfl; have hcz39_1 : w37.cell? ⟨gb117, 1, none⟩ = some (.string (⟨#[]⟩ : ByteArray)) := (blk_cell BK117.out 1).trans rfl; have hcz39_2 : w37.cell? ⟨gb117, 2, none⟩ = some (.int .u64 0) := (blk_cell BK117.out 2).trans rfl; have hcz39_3 : w37.cell? ⟨gb117, 3, none⟩ = some (.int .i64 0) := (blk_cell BK117.out 3).trans rfl; have hcz39_4 : w37.cell? ⟨gb117, 4, none⟩ = some (.int .i64 0) := (blk_cell BK117.out 4).trans rfl; have hfz39_0 := blk_frozen BK117.out 0; have hfz39_1 := blk_frozen BK117.out 1; have hfz39_2 := blk_frozen BK117.out 2; have hfz39_3 := blk_frozen BK117.out 3; have hfz39_4 := blk_frozen BK117.out 4; have p5 : 0 ≤ (a1 : Int) := of_decide_eq_true (by first | (with_reducible assumption) | assumption); have q5 : a1 < (a0.size : Int) := of_decide_eq_true (by first | (with_reducible assumption) | assumption); have hx5 := bt_at a0 a1; replace p5 := eq_true p5; replace q5 := eq_true q5) | ((with_reducible refine gate_callee (f := 53) rfl ?_); refine goesL_ (some 20) rfl rfl Try.func53 (by kernel_rfl) rfl #[.int .u8 (bt a0 a1)] rfl (by (try simp only [List.map_toArray, List.map_cons, List.map_nil]); first | done | rfl | (simp only [List.length_drop, List.length_take]; rfl)) ?_; (with_reducible refine (lex_isLetter.calls (bt a0 a1) false _ A6.out).mono ?_); rintro e w' ⟨rfl, ⟨nd, rfl⟩⟩; refine ⟨_, rfl, ?_⟩) | ((with_reducible refine gate_callee (f := 56) rfl ?_); refine goesL_ (some 40) rfl rfl Try.func56 (by kernel_rfl) rfl #[.int .u8 (bt a0 a1)] rfl (by (try simp only [List.map_toArray, List.map_cons, List.map_nil]); first | done | rfl | (simp only [List.length_drop, List.length_take]; rfl)) ?_; (with_reducible refine (lex_isDigit.calls (bt a0 a1) true _ A23.out).mono ?_); rintro e w' ⟨rfl, ⟨nd, rfl⟩⟩; refine ⟨_, rfl, ?_⟩) | ((with_reducible refine gate_callee (f := 54) rfl ?_); refine goesL_ (some 44) rfl rfl Try.func54 (by kernel_rfl) rfl #[.string a0, .int .i64 a1, .func (.func 56) #[] #[]] rfl (by (try simp only [List.map_toArray, List.map_cons, List.map_nil]); first | done | rfl | (simp only [List.length_drop, List.length_take]; rfl)) ?_; (with_reducible refine (lex_run.calls a0 a1 56 t121 _ A25.out).mono ?_); rintro e w99 ⟨rfl, hd99⟩; refine ⟨_, rfl, ?_⟩; have b99 : w99.heap[gb117]? = some (.cells #[.int .i64 2, .string (⟨#[]⟩ : ByteArray), .int .u64 0, .int .i64 a1, .int .i64 0] 47 (0, 0)) := (by refine blk_d0 hd99 ?_; (with_reducible repeat (first | refine blk_drewN ?_ _ | refine blk_drew ?_ | refine blk_alloc ?_ _)); refine blk_put (cs := #[.int .i64 0, .string (⟨#[]⟩ : ByteArray), .int .u64 0, .int .i64 a1, .int .i64 0]) ?_ 0 _ rfl; (with_reducible repeat (first | refine blk_drewN ?_ _ | refine blk_drew ?_ | refine blk_alloc ?_ _)); refine blk_put (cs := #[.int .i64 0, .string (⟨#[]⟩ : ByteArray), .int .u64 0, .int .i64 a1, .int .i64 0]) ?_ 4 _ rfl; (with_reducible repeat (first | refine blk_drewN ?_ _ | refine blk_drew ?_ | refine blk_alloc ?_ _)); refine blk_put (cs := #[.int .i64 0, .string (⟨#[]⟩ : ByteArray), .int .u64 0, .int .i64 0, .int .i64 0]) ?_ 3 _ rfl; (with_reducible repeat (first | refine blk_drewN ?_ _ | refine blk_drew ?_ | refine blk_alloc ?_ _)); refine blk_put (cs := #[.int .i64 0, .string (⟨#[]⟩ : ByteArray), .int .u64 0, .int .i64 0, .int .i64 0]) ?_ 2 _ rfl; (with_reducible repeat (first | refine blk_drewN ?_ _ | refine blk_drew ?_ | refine blk_alloc ?_ _)); refine blk_put (cs := #[.int .i64 0, .string (⟨#[]⟩ : ByteArray), .int .u64 0, .int .i64 0, .int .i64 0]) ?_ 1 _ rfl; (with_reducible repeat (first | refine blk_drewN ?_ _ | refine blk_drew ?_ | refine blk_alloc ?_ _)); refine blk_put (cs := #[.int .i64 0, .string (⟨#[]⟩ : ByteArray), .int .u64 0, .int .i64 0, .int .i64 0]) ?_ 0 _ rfl; (with_reducible repeat (first | refine blk_drewN ?_ _ | refine blk_drew ?_ | refine blk_alloc ?_ _)); exact BK117.out); have a99 : w99.heap[gb116]? = some (.cells #[.int .i64 0, .string (⟨#[]⟩ : ByteArray), .int .u64 0, .int .i64 0, .int .i64 0] 47 (0, 0)) := (by refine blk_d0 hd99 ?_; repeat (first | (with_reducible exact BK116.out) | (with_reducible refine blk_drewN ?_ _) | (with_reducible refine blk_far ?_ NB116_117.out _))); have hb99 := below_step (show Below w.heap.size w _ from (by repeat (first | (with_reducible first | exact HB.out | apply below_alloc | apply pw_below_drewN | apply below_drew1 | refine below_set ?_ GE117.out) | exact HB.out))) hd99.below; (try clear hcz16_0 hcz16_1 hcz16_2 hcz16_3 hcz16_4 hfz16_0 hfz16_1 hfz16_2 hfz16_3 hfz16_4); clear BK116 BK117 HB hd99; have BK116 := Aside0.mk a99; have BK117 := Aside0.mk b99; have HB := Aside0.mk hb99; have hcy_0 : w99.cell? ⟨gb117, 0, none⟩ = some (.int .i64 2) := (blk_cell b99 0).trans rfl; have hfy_0 := blk_frozen b99 0; have hcx_0 : w99.cell? ⟨gb116, 0, none⟩ = some (.int .i64 0) := (blk_cell a99 0).trans rfl; have hfx_0 := blk_frozen a99 0; have hcy_1 : w99.cell? ⟨gb117, 1, none⟩ = some (.string (⟨#[]⟩ : ByteArray)) := (blk_cell b99 1).trans rfl; have hfy_1 := blk_frozen b99 1; have hcx_1 : w99.cell? ⟨gb116, 1, none⟩ = some (.string (⟨#[]⟩ : ByteArray)) := (blk_cell a99 1).trans rfl; have hfx_1 := blk_frozen a99 1; have hcy_2 : w99.cell? ⟨gb117, 2, none⟩ = some (.int .u64 0) := (blk_cell b99 2).trans rfl; have hfy_2 := blk_frozen b99 2; have hcx_2 : w99.cell? ⟨gb116, 2, none⟩ = some (.int .u64 0) := (blk_cell a99 2).trans rfl; have hfx_2 := blk_frozen a99 2; have hcy_3 : w99.cell? ⟨gb117, 3, none⟩ = some (.int .i64 a1) := (blk_cell b99 3).trans rfl; have hfy_3 := blk_frozen b99 3; have hcx_3 : w99.cell? ⟨gb116, 3, none⟩ = some (.int .i64 0) := (blk_cell a99 3).trans rfl; have hfx_3 := blk_frozen a99 3; have hcy_4 : w99.cell? ⟨gb117, 4, none⟩ = some (.int .i64 0) := (blk_cell b99 4).trans rfl; have hfy_4 := blk_frozen b99 4; have hcx_4 : w99.cell? ⟨gb116, 4, none⟩ = some (.int .i64 0) := (blk_cell a99 4).trans rfl; have hfx_4 := blk_frozen a99 4; clear a99 b99 hb99) | ((with_reducible refine gate_callee (f := 57) rfl ?_); refine goesL_ (some 52) rfl rfl Try.func57 (by kernel_rfl) rfl #[.string (a0.extract (a1 : Int).toNat (t121 : Int).toNat)] rfl (by (try simp only [List.map_toArray, List.map_cons, List.map_nil]); first | done | rfl | (simp only [List.length_drop, List.length_take]; rfl)) ?_; (with_reducible refine (lex_number.calls (a0.extract (a1 : Int).toNat (t121 : Int).toNat) t122 false _ A29.out).mono ?_); rintro e w' ⟨rfl, ⟨nd, rfl⟩⟩; refine ⟨_, rfl, ?_⟩; have hcz40_0 : w99.cell? ⟨gb116, 0, none⟩ = some (.int .i64 0) := (blk_cell BK116.out 0).trans rfl; have hcz40_1 : w99.cell? ⟨gb116, 1, none⟩ = some (.string (⟨#[]⟩ : ByteArray)) := (blk_cell BK116.out 1).trans rfl; have hcz40_2 : w99.cell? ⟨gb116, 2, none⟩ = some (.int .u64 0) := (blk_cell BK116.out 2).trans rfl; have hcz40_3 : w99.cell? ⟨gb116, 3, none⟩ = some (.int .i64 0) := (blk_cell BK116.out 3).trans rfl; have hcz40_4 : w99.cell? ⟨gb116, 4, none⟩ = some (.int .i64 0) := (blk_cell BK116.out 4).trans rfl; have hfz40_0 := blk_frozen BK116.out 0; have hfz40_1 := blk_frozen BK116.out 1; have hfz40_2 := blk_frozen BK116.out 2; have hfz40_3 := blk_frozen BK116.out 3; have hfz40_4 := blk_frozen BK116.out 4))
                refine bodyPost_ret (results_ctt rfl _ _ gb116 47 #[.int .i64 2, .string (⟨#[]⟩ : ByteArray), .int .u64 0, .int .i64 a1, .int .i64 t121] (0, 0) _ rfl (by (with_reducible repeat (first | refine blk_drewN ?_ _ | refine blk_drew ?_ | refine blk_alloc ?_ _)); refine blk_put (cs := #[.int .i64 2, .string (⟨#[]⟩ : ByteArray), .int .u64 0, .int .i64 a1, .int .i64 0]) ?_ 4 _ rfl; (with_reducible repeat (first | refine blk_drewN ?_ _ | refine blk_drew ?_ | refine blk_alloc ?_ _)); refine blk_put (cs := #[.int .i64 2, .string (⟨#[]⟩ : ByteArray), .int .u64 0, .int .i64 0, .int .i64 0]) ?_ 3 _ rfl; (with_reducible repeat (first | refine blk_drewN ?_ _ | refine blk_drew ?_ | refine blk_alloc ?_ _)); refine blk_put (cs := #[.int .i64 2, .string (⟨#[]⟩ : ByteArray), .int .u64 0, .int .i64 0, .int .i64 0]) ?_ 2 _ rfl; (with_reducible repeat (first | refine blk_drewN ?_ _ | refine blk_drew ?_ | refine blk_alloc ?_ _)); refine blk_put (cs := #[.int .i64 2, .string (⟨#[]⟩ : ByteArray), .int .u64 0, .int .i64 0, .int .i64 0]) ?_ 1 _ rfl; (with_reducible repeat (first | refine blk_drewN ?_ _ | refine blk_drew ?_ | refine blk_alloc ?_ _)); refine blk_put (cs := #[.int .i64 0, .string (⟨#[]⟩ : ByteArray), .int .u64 0, .int .i64 0, .int .i64 0]) ?_ 0 _ rfl; (with_reducible repeat (first | refine blk_drewN ?_ _ | refine blk_drew ?_ | refine blk_alloc ?_ _)); (repeat (first | (with_reducible exact BK116.out) | (refine blk_far ?_ NB116_117.out _; (with_reducible repeat (first | refine blk_drewN ?_ _ | refine blk_drew ?_ | refine blk_alloc ?_ _))))); done) Try.underlying47 rfl (by kernel_rfl)) rfl ?_
                exact ⟨by first | rfl | (simp [errW_none, errW_some] <;> rfl) | (simp [*, errW_none, errW_some] <;> rfl), by repeat (first | (with_reducible first | exact HB.out | apply below_alloc | apply pw_below_drewN | apply below_drew1 | refine below_set ?_ GE116.out | refine below_set ?_ GE117.out) | exact HB.out)⟩
            · rw [if_neg c28] at H
              exact absurd H (by simp)
          · rw [if_neg c27] at H
            exact absurd H (by simp)
        · replace c24 := Bool.eq_false_iff.mpr c24
          subst c24
          have H1 : (if (bt a0 a1) = 34 then ((lex_text.f k a0 a1).bind fun bt124 => (some (bt124.1, bt124.2.1, bt124.2.2.1, bt124.2.2.2.1, bt124.2.2.2.2.1, bt124.2.2.2.2.2.1, bt124.2.2.2.2.2.2))) else ((strings_IndexByte.f (⟨#[123, 125, 40, 41, 58, 59, 44, 61, 43, 45, 42]⟩ : ByteArray) (bt a0 a1)).bind fun t131 => (if t131 ≥ 0 then (if a1 ≤ (wrap64 (a1 + 1)) then (if (wrap64 (a1 + 1)) ≤ (a0.size : Int) then (some (4, a0.extract (a1 : Int).toNat ((wrap64 (a1 + 1)) : Int).toNat, 0, a1, wrap64 (a1 + 1), 0, 0)) else (none)) else (none)) else (some (0, (⟨#[]⟩ : ByteArray), 0, a1, 0, a1, 80))))) = some (r1, r2, r3, r4, r5, r6, r7) := by rw [if_neg (show ¬ (false = true) by decide)] at H; exact H
          clear H
          have H := H1
          clear H1
          by_cases c41 : (bt a0 a1) = 34
          · rw [if_pos c41] at H
            have c41b0 : ((bt a0 a1) == 34) = true := beq_iff_eq.mpr c41
            have c41b1 : ((bt a0 a1) != 34) = false := bne_eq_false_iff_eq.mpr c41
            clear c41
            replace H := Option.bind_eq_some_iff.mp H
            obtain ⟨⟨t124, t125, t126, t127, t128, t129, t130⟩, A420, H⟩ := H
            replace H : (some (t124, t125, t126, t127, t128, t129, t130)) = some (r1, r2, r3, r4, r5, r6, r7) := H
            have A42 := Aside0.mk A420
            clear A420
            simp only [Option.some.injEq, Prod.mk.injEq] at H
            obtain ⟨rfl, rfl, rfl, rfl, rfl, rfl, rfl⟩ := H
            go_enter Try.func35, Try.ntmps35
            go_wp2_with (first | ((with_reducible refine gate_dst (N := 4) rfl ?_); refine box_event ?hg (N := 4) ?hd (cs := #[.int .i64 0, .string (⟨#[]⟩ : ByteArray), .int .u64 0, .int .i64 0, .int .i64 0]) (t := 47) ?hr ?_; (case hd => rfl); (case hg => rfl); (case hr => first | (go_simp; done) | (go_simp; rfl)); intro gb116 hg w43 hbox hb; have n0_ := Aside0.mk (below_step (by repeat (first | (with_reducible first | exact HB.out | apply below_alloc | apply pw_below_drewN | apply below_drew1) | exact HB.out)) hb); have n1_ := Aside0.mk (hbox); have n2_ := Aside0.mk ((by rw [hg]; exact (below_size (by repeat (first | (with_reducible first | exact HB.out | apply below_alloc | apply pw_below_drewN | apply below_drew1) | exact HB.out))) : w.heap.size ≤ gb116)); have n3_ := Aside0.mk ((by rw [hg]; exact (below_size (by repeat (first | (with_reducible first | exact HB.out | apply below_alloc | apply pw_below_drewN | apply below_drew1) | exact HB.out))) : w.heap.size ≤ gb116)); clear HB; have HB := n0_; have BK116 := n1_; have GW116 := n2_; have GE116 := n3_; clear n0_ n1_ n2_ n3_; clear hb hbox hg) | ((with_reducible refine gate_dst (N := 7) rfl ?_); refine box_event ?hg (N := 7) ?hd (cs := #[.int .i64 0, .string (⟨#[]⟩ : ByteArray), .int .u64 0, .int .i64 0, .int .i64 0]) (t := 47) ?hr ?_; (case hd => rfl); (case hg => rfl); (case hr => first | (go_simp; done) | (go_simp; rfl)); intro gb117 hg w44 hbox hb; have n0_ := Aside0.mk (blk_below (g := gb116) (o := .cells #[.int .i64 0, .string (⟨#[]⟩ : ByteArray), .int .u64 0, .int .i64 0, .int .i64 0] 47 (0, 0)) (by (with_reducible repeat (first | refine blk_drewN ?_ _ | refine blk_drew ?_ | refine blk_alloc ?_ _)); exact BK116.out) hb); have n1_ := Aside0.mk (below_step (by repeat (first | (with_reducible first | exact HB.out | apply below_alloc | apply pw_below_drewN | apply below_drew1 | refine below_set ?_ GE116.out) | exact HB.out)) hb); have n2_ := Aside0.mk (hbox); have n3_ := Aside0.mk ((by rw [hg]; exact (below_size (by repeat (first | (with_reducible first | exact HB.out | apply below_alloc | apply pw_below_drewN | apply below_drew1 | refine below_set ?_ GE116.out) | exact HB.out))) : w.heap.size ≤ gb117)); have n4_ := Aside0.mk ((by rw [hg]; exact (below_size (by repeat (first | (with_reducible first | exact HB.out | apply below_alloc | apply pw_below_drewN | apply below_drew1 | refine below_set ?_ GE116.out) | exact HB.out))) : w.heap.size ≤ gb117)); have n5_ := Aside0.mk ((by rw [hg]; exact Nat.ne_of_lt (blk_lt (g := gb116) (o := .cells #[.int .i64 0, .string (⟨#[]⟩ : ByteArray), .int .u64 0, .int .i64 0, .int .i64 0] 47 (0, 0)) (by (with_reducible repeat (first | refine blk_drewN ?_ _ | refine blk_drew ?_ | refine blk_alloc ?_ _)); exact BK116.out)) : gb116 ≠ gb117)); have n6_ := Aside0.mk ((by rw [hg]; exact Nat.ne_of_gt (blk_lt (g := gb116) (o := .cells #[.int .i64 0, .string (⟨#[]⟩ : ByteArray), .int .u64 0, .int .i64 0, .int .i64 0] 47 (0, 0)) (by (with_reducible repeat (first | refine blk_drewN ?_ _ | refine blk_drew ?_ | refine blk_alloc ?_ _)); exact BK116.out)) : gb117 ≠ gb116)); clear BK116; clear HB; have BK116 := n0_; have HB := n1_; have BK117 := n2_; have GW117 := n3_; have GE117 := n4_; have NB116_117 := n5_; have NB117_116 := n6_; clear n0_ n1_ n2_ n3_ n4_ n5_ n6_; clear hb hbox hg; have hnb45 := NB117_116.out; have hnc45 := NB116_117.out; have hcz46_0 : w44.cell? ⟨gb117, 0, none⟩ = some (.int .i64 0) := (blk_cell BK117.out 0).trans rfl; have hcz46_1 : w44.cell? ⟨gb117, 1, none⟩ = some (.string (⟨#[]⟩ : ByteArray)) := (blk_cell BK117.out 1).trans rfl; have hcz46_2 : w44.cell? ⟨gb117, 2, none⟩ = some (.int .u64 0) := (blk_cell BK117.out 2).trans rfl; have hcz46_3 : w44.cell? ⟨gb117, 3, none⟩ = some (.int .i64 0) := (blk_cell BK117.out 3).trans rfl; have hcz46_4 : w44.cell? ⟨gb117, 4, none⟩ = some (.int .i64 0) := (blk_cell BK117.out 4).trans rfl; have hfz46_0 := blk_frozen BK117.out 0; have hfz46_1 := blk_frozen BK117.out 1; have hfz46_2 := blk_frozen BK117.out 2; have hfz46_3 := blk_frozen BK117.out 3; have hfz46_4 := blk_frozen BK117.out 4; have p5 : 0 ≤ (a1 : Int) := of_decide_eq_true (by first | (with_reducible assumption) | assumption); have q5 : a1 < (a0.size : Int) := of_decide_eq_true (by first | (with_reducible assumption) | assumption); have hx5 := bt_at a0 a1; replace p5 := eq_true p5; replace q5 := eq_true q5) | ((with_reducible refine gate_callee (f := 53) rfl ?_); refine goesL_ (some 20) rfl rfl Try.func53 (by kernel_rfl) rfl #[.int .u8 (bt a0 a1)] rfl (by (try simp only [List.map_toArray, List.map_cons, List.map_nil]); first | done | rfl | (simp only [List.length_drop, List.length_take]; rfl)) ?_; (with_reducible refine (lex_isLetter.calls (bt a0 a1) false _ A6.out).mono ?_); rintro e w' ⟨rfl, ⟨nd, rfl⟩⟩; refine ⟨_, rfl, ?_⟩) | ((with_reducible refine gate_callee (f := 56) rfl ?_); refine goesL_ (some 40) rfl rfl Try.func56 (by kernel_rfl) rfl #[.int .u8 (bt a0 a1)] rfl (by (try simp only [List.map_toArray, List.map_cons, List.map_nil]); first | done | rfl | (simp only [List.length_drop, List.length_take]; rfl)) ?_; (with_reducible refine (lex_isDigit.calls (bt a0 a1) false _ A23.out).mono ?_); rintro e w' ⟨rfl, ⟨nd, rfl⟩⟩; refine ⟨_, rfl, ?_⟩) | ((with_reducible refine gate_callee (f := 58) rfl ?_); refine goesL_ (some 66) rfl rfl Try.func58 (by kernel_rfl) rfl #[.string a0, .int .i64 a1] rfl (by (try simp only [List.map_toArray, List.map_cons, List.map_nil]); first | done | rfl | (simp only [List.length_drop, List.length_take]; rfl)) ?_; (with_reducible refine (lex_text.calls k a0 a1 t124 t125 t126 t127 t128 t129 t130 _ A42.out).mono ?_); rintro e w47 ⟨rfl, hb⟩; refine ⟨_, rfl, ?_⟩; have n0_ := Aside0.mk (blk_below (g := gb116) (o := .cells #[.int .i64 0, .string (⟨#[]⟩ : ByteArray), .int .u64 0, .int .i64 0, .int .i64 0] 47 (0, 0)) (by (with_reducible repeat (first | refine blk_drewN ?_ _ | refine blk_drew ?_ | refine blk_alloc ?_ _)); refine blk_far ?_ NB116_117.out _; (with_reducible repeat (first | refine blk_drewN ?_ _ | refine blk_drew ?_ | refine blk_alloc ?_ _)); refine blk_far ?_ NB116_117.out _; (with_reducible repeat (first | refine blk_drewN ?_ _ | refine blk_drew ?_ | refine blk_alloc ?_ _)); refine blk_far ?_ NB116_117.out _; (with_reducible repeat (first | refine blk_drewN ?_ _ | refine blk_drew ?_ | refine blk_alloc ?_ _)); refine blk_far ?_ NB116_117.out _; (with_reducible repeat (first | refine blk_drewN ?_ _ | refine blk_drew ?_ | refine blk_alloc ?_ _)); refine blk_far ?_ NB116_117.out _; (with_reducible repeat (first | refine blk_drewN ?_ _ | refine blk_drew ?_ | refine blk_alloc ?_ _)); exact BK116.out) hb); have n1_ := Aside0.mk (blk_below (g := gb117) (o := .cells #[.int .i64 0, .string (⟨#[]⟩ : ByteArray), .int .u64 0, .int .i64 a1, .int .i64 0] 47 (0, 0)) (by (with_reducible repeat (first | refine blk_drewN ?_ _ | refine blk_drew ?_ | refine blk_alloc ?_ _)); refine blk_put (cs := #[.int .i64 0, .string (⟨#[]⟩ : ByteArray), .int .u64 0, .int .i64 a1, .int .i64 0]) ?_ 4 _ rfl; (with_reducible repeat (first | refine blk_drewN ?_ _ | refine blk_drew ?_ | refine blk_alloc ?_ _)); refine blk_put (cs := #[.int .i64 0, .string (⟨#[]⟩ : ByteArray), .int .u64 0, .int .i64 0, .int .i64 0]) ?_ 3 _ rfl; (with_reducible repeat (first | refine blk_drewN ?_ _ | refine blk_drew ?_ | refine blk_alloc ?_ _)); refine blk_put (cs := #[.int .i64 0, .string (⟨#[]⟩ : ByteArray), .int .u64 0, .int .i64 0, .int .i64 0]) ?_ 2 _ rfl; (with_reducible repeat (first | refine blk_drewN ?_ _ | refine blk_drew ?_ | refine blk_alloc ?_ _)); refine blk_put (cs := #[.int .i64 0, .string (⟨#[]⟩ : ByteArray), .int .u64 0, .int .i64 0, .int .i64 0]) ?_ 1 _ rfl; (with_reducible repeat (first | refine blk_drewN ?_ _ | refine blk_drew ?_ | refine blk_alloc ?_ _)); refine blk_put (cs := #[.int .i64 0, .string (⟨#[]⟩ : ByteArray), .int .u64 0, .int .i64 0, .int .i64 0]) ?_ 0 _ rfl; (with_reducible repeat (first | refine blk_drewN ?_ _ | refine blk_drew ?_ | refine blk_alloc ?_ _)); exact BK117.out) hb); have n2_ := Aside0.mk (below_step (by repeat (first | (with_reducible first | exact HB.out | apply below_alloc | apply pw_below_drewN | apply below_drew1 | refine below_set ?_ GE116.out | refine below_set ?_ GE117.out) | exact HB.out)) hb); clear BK116; clear BK117; clear HB; have BK116 := n0_; have BK117 := n1_; have HB := n2_; clear n0_ n1_ n2_; (try clear hb); (try clear hb2); (try clear hk); (try clear hi); have hcz48_0 : w47.cell? ⟨gb116, 0, none⟩ = some (.int .i64 0) := (blk_cell BK116.out 0).trans rfl; have hcz48_1 : w47.cell? ⟨gb116, 1, none⟩ = some (.string (⟨#[]⟩ : ByteArray)) := (blk_cell BK116.out 1).trans rfl; have hcz48_2 : w47.cell? ⟨gb116, 2, none⟩ = some (.int .u64 0) := (blk_cell BK116.out 2).trans rfl; have hcz48_3 : w47.cell? ⟨gb116, 3, none⟩ = some (.int .i64 0) := (blk_cell BK116.out 3).trans rfl; have hcz48_4 : w47.cell? ⟨gb116, 4, none⟩ = some (.int .i64 0) := (blk_cell BK116.out 4).trans rfl; have hfz48_0 := blk_frozen BK116.out 0; have hfz48_1 := blk_frozen BK116.out 1; have hfz48_2 := blk_frozen BK116.out 2; have hfz48_3 := blk_frozen BK116.out 3; have hfz48_4 := blk_frozen BK116.out 4))
            refine bodyPost_ret (results_ctt rfl _ _ gb116 47 #[.int .i64 t124, .string t125, .int .u64 t126, .int .i64 t127, .int .i64 t128] (0, 0) _ rfl (by (with_reducible repeat (first | refine blk_drewN ?_ _ | refine blk_drew ?_ | refine blk_alloc ?_ _)); refine blk_put (cs := #[.int .i64 t124, .string t125, .int .u64 t126, .int .i64 t127, .int .i64 0]) ?_ 4 _ rfl; (with_reducible repeat (first | refine blk_drewN ?_ _ | refine blk_drew ?_ | refine blk_alloc ?_ _)); refine blk_put (cs := #[.int .i64 t124, .string t125, .int .u64 t126, .int .i64 0, .int .i64 0]) ?_ 3 _ rfl; (with_reducible repeat (first | refine blk_drewN ?_ _ | refine blk_drew ?_ | refine blk_alloc ?_ _)); refine blk_put (cs := #[.int .i64 t124, .string t125, .int .u64 0, .int .i64 0, .int .i64 0]) ?_ 2 _ rfl; (with_reducible repeat (first | refine blk_drewN ?_ _ | refine blk_drew ?_ | refine blk_alloc ?_ _)); refine blk_put (cs := #[.int .i64 t124, .string (⟨#[]⟩ : ByteArray), .int .u64 0, .int .i64 0, .int .i64 0]) ?_ 1 _ rfl; (with_reducible repeat (first | refine blk_drewN ?_ _ | refine blk_drew ?_ | refine blk_alloc ?_ _)); refine blk_put (cs := #[.int .i64 0, .string (⟨#[]⟩ : ByteArray), .int .u64 0, .int .i64 0, .int .i64 0]) ?_ 0 _ rfl; (with_reducible repeat (first | refine blk_drewN ?_ _ | refine blk_drew ?_ | refine blk_alloc ?_ _)); exact BK116.out) Try.underlying47 rfl (by kernel_rfl)) rfl ?_
            exact ⟨by first | rfl | (simp [errW_none, errW_some] <;> rfl) | (simp [*, errW_none, errW_some] <;> rfl), by repeat (first | (with_reducible first | exact HB.out | apply below_alloc | apply pw_below_drewN | apply below_drew1 | refine below_set ?_ GE116.out | refine below_set ?_ GE117.out) | exact HB.out)⟩
          · rw [if_neg c41] at H
            have c41b0 : ((bt a0 a1) == 34) = false := beq_eq_false_iff_ne.mpr c41
            have c41b1 : ((bt a0 a1) != 34) = true := bne_iff_ne.mpr c41
            replace H := Option.bind_eq_some_iff.mp H
            obtain ⟨t131, A490, H⟩ := H
            replace H : (if t131 ≥ 0 then (if a1 ≤ (wrap64 (a1 + 1)) then (if (wrap64 (a1 + 1)) ≤ (a0.size : Int) then (some (4, a0.extract (a1 : Int).toNat ((wrap64 (a1 + 1)) : Int).toNat, 0, a1, wrap64 (a1 + 1), 0, 0)) else (none)) else (none)) else (some (0, (⟨#[]⟩ : ByteArray), 0, a1, 0, a1, 80))) = some (r1, r2, r3, r4, r5, r6, r7) := H
            have A49 := Aside0.mk A490
            clear A490
            by_cases c50 : t131 ≥ 0
            · rw [if_pos c50] at H
              have c50b0 : decide (0 ≤ t131) = true := decide_eq_true c50
              clear c50
              have c51b0 := eq_true (of_decide_eq_true (by first | (with_reducible assumption) | assumption) : 0 ≤ a1)
              by_cases c52 : a1 ≤ (wrap64 (a1 + 1))
              · rw [if_pos c52] at H
                have c52b0 := eq_true c52
                have c52b1 : decide (a1 ≤ (wrap64 (a1 + 1))) = true := decide_eq_true c52
                by_cases c53 : (wrap64 (a1 + 1)) ≤ (a0.size : Int)
                · rw [if_pos c53] at H
                  have c53b0 := eq_true c53
                  have c53b1 : decide ((wrap64 (a1 + 1)) ≤ (a0.size : Int)) = true := decide_eq_true c53
                  simp only [Option.some.injEq, Prod.mk.injEq] at H
                  obtain ⟨rfl, rfl, rfl, rfl, rfl, rfl, rfl⟩ := H
                  go_enter Try.func35, Try.ntmps35
                  try go_wp2_with (first | ((with_reducible refine gate_dst (N := 4) rfl ?_); refine box_event ?hg (N := 4) ?hd (cs := #[.int .i64 0, .string (⟨#[]⟩ : ByteArray), .int .u64 0, .int .i64 0, .int .i64 0]) (t := 47) ?hr ?_; (case hd => rfl); (case hg => rfl); (case hr => first | (go_simp; done) | (go_simp; rfl)); intro gb116 hg w54 hbox hb; have n0_ := Aside0.mk (below_step (by repeat (first | (with_reducible first | exact HB.out | apply below_alloc | apply pw_below_drewN | apply below_drew1) | exact HB.out)) hb); have n1_ := Aside0.mk (hbox); have n2_ := Aside0.mk ((by rw [hg]; exact (below_size (by repeat (first | (with_reducible first | exact HB.out | apply below_alloc | apply pw_below_drewN | apply below_drew1) | exact HB.out))) : w.heap.size ≤ gb116)); have n3_ := Aside0.mk ((by rw [hg]; exact (below_size (by repeat (first | (with_reducible first | exact HB.out | apply below_alloc | apply pw_below_drewN | apply below_drew1) | exact HB.out))) : w.heap.size ≤ gb116)); clear HB; have HB := n0_; have BK116 := n1_; have GW116 := n2_; have GE116 := n3_; clear n0_ n1_ n2_ n3_; clear hb hbox hg) | ((with_reducible refine gate_dst (N := 7) rfl ?_); refine box_event ?hg (N := 7) ?hd (cs := #[.int .i64 0, .string (⟨#[]⟩ : ByteArray), .int .u64 0, .int .i64 0, .int .i64 0]) (t := 47) ?hr ?_; (case hd => rfl); (case hg => rfl); (case hr => first | (go_simp; done) | (go_simp; rfl)); intro gb117 hg w55 hbox hb; have n0_ := Aside0.mk (blk_below (g := gb116) (o := .cells #[.int .i64 0, .string (⟨#[]⟩ : ByteArray), .int .u64 0, .int .i64 0, .int .i64 0] 47 (0, 0)) (by (with_reducible repeat (first | refine blk_drewN ?_ _ | refine blk_drew ?_ | refine blk_alloc ?_ _)); exact BK116.out) hb); have n1_ := Aside0.mk (below_step (by repeat (first | (with_reducible first | exact HB.out | apply below_alloc | apply pw_below_drewN | apply below_drew1 | refine below_set ?_ GE116.out) | exact HB.out)) hb); have n2_ := Aside0.mk (hbox); have n3_ := Aside0.mk ((by rw [hg]; exact (below_size (by repeat (first | (with_reducible first | exact HB.out | apply below_alloc | apply pw_below_drewN | apply below_drew1 | refine below_set ?_ GE116.out) | exact HB.out))) : w.heap.size ≤ gb117)); have n4_ := Aside0.mk ((by rw [hg]; exact (below_size (by repeat (first | (with_reducible first | exact HB.out | apply below_alloc | apply pw_below_drewN | apply below_drew1 | refine below_set ?_ GE116.out) | exact HB.out))) : w.heap.size ≤ gb117)); have n5_ := Aside0.mk ((by rw [hg]; exact Nat.ne_of_lt (blk_lt (g := gb116) (o := .cells #[.int .i64 0, .string (⟨#[]⟩ : ByteArray), .int .u64 0, .int .i64 0, .int .i64 0] 47 (0, 0)) (by (with_reducible repeat (first | refine blk_drewN ?_ _ | refine blk_drew ?_ | refine blk_alloc ?_ _)); exact BK116.out)) : gb116 ≠ gb117)); have n6_ := Aside0.mk ((by rw [hg]; exact Nat.ne_of_gt (blk_lt (g := gb116) (o := .cells #[.int .i64 0, .string (⟨#[]⟩ : ByteArray), .int .u64 0, .int .i64 0, .int .i64 0] 47 (0, 0)) (by (with_reducible repeat (first | refine blk_drewN ?_ _ | refine blk_drew ?_ | refine blk_alloc ?_ _)); exact BK116.out)) : gb117 ≠ gb116)); clear BK116; clear HB; have BK116 := n0_; have HB := n1_; have BK117 := n2_; have GW117 := n3_; have GE117 := n4_; have NB116_117 := n5_; have NB117_116 := n6_; clear n0_ n1_ n2_ n3_ n4_ n5_ n6_; clear hb hbox hg; have hnb56 := NB117_116.out; have hnc56 := NB116_117.out; have hcz57_0 : w55.cell? ⟨gb117, 0, none⟩ = some (.int .i64 0) := (blk_cell BK117.out 0).trans rfl; have hcz57_1 : w55.cell? ⟨gb117, 1, none⟩ = some (.string (⟨#[]⟩ : ByteArray)) := (blk_cell BK117.out 1).trans rfl; have hcz57_2 : w55.cell? ⟨gb117, 2, none⟩ = some (.int .u64 0) := (blk_cell BK117.out 2).trans rfl; have hcz57_3 : w55.cell? ⟨gb117, 3, none⟩ = some (.int .i64 0) := (blk_cell BK117.out 3).trans rfl; have hcz57_4 : w55.cell? ⟨gb117, 4, none⟩ = some (.int .i64 0) := (blk_cell BK117.out 4).trans rfl; have hfz57_0 := blk_frozen BK117.out 0; have hfz57_1 := blk_frozen BK117.out 1; have hfz57_2 := blk_frozen BK117.out 2; have hfz57_3 := blk_frozen BK117.out 3; have hfz57_4 := blk_frozen BK117.out 4; have p5 : 0 ≤ (a1 : Int) := of_decide_eq_true (by first | (with_reducible assumption) | assumption); have q5 : a1 < (a0.size : Int) := of_decide_eq_true (by first | (with_reducible assumption) | assumption); have hx5 := bt_at a0 a1; replace p5 := eq_true p5; replace q5 := eq_true q5) | ((with_reducible refine gate_callee (f := 53) rfl ?_); refine goesL_ (some 20) rfl rfl Try.func53 (by kernel_rfl) rfl #[.int .u8 (bt a0 a1)] rfl (by (try simp only [List.map_toArray, List.map_cons, List.map_nil]); first | done | rfl | (simp only [List.length_drop, List.length_take]; rfl)) ?_; (with_reducible refine (lex_isLetter.calls (bt a0 a1) false _ A6.out).mono ?_); rintro e w' ⟨rfl, ⟨nd, rfl⟩⟩; refine ⟨_, rfl, ?_⟩) | ((with_reducible refine gate_callee (f := 56) rfl ?_); refine goesL_ (some 40) rfl rfl Try.func56 (by kernel_rfl) rfl #[.int .u8 (bt a0 a1)] rfl (by (try simp only [List.map_toArray, List.map_cons, List.map_nil]); first | done | rfl | (simp only [List.length_drop, List.length_take]; rfl)) ?_; (with_reducible refine (lex_isDigit.calls (bt a0 a1) false _ A23.out).mono ?_); rintro e w' ⟨rfl, ⟨nd, rfl⟩⟩; refine ⟨_, rfl, ?_⟩) | ((with_reducible refine gate_callee (f := 52) rfl ?_); refine goesL_ (some 72) rfl rfl Try.func52 (by kernel_rfl) rfl #[.string (⟨#[123, 125, 40, 41, 58, 59, 44, 61, 43, 45, 42]⟩ : ByteArray), .int .u8 (bt a0 a1)] rfl (by (try simp only [List.map_toArray, List.map_cons, List.map_nil]); first | done | rfl | (simp only [List.length_drop, List.length_take]; rfl)) ?_; (with_reducible refine (strings_IndexByte.calls (⟨#[123, 125, 40, 41, 58, 59, 44, 61, 43, 45, 42]⟩ : ByteArray) (bt a0 a1) t131 _ A49.out).mono ?_); rintro e w' ⟨rfl, ⟨nd, rfl⟩⟩; refine ⟨_, rfl, ?_⟩))
                  have n0_ : Aside0 ((((((w55.setCell ⟨gb117, 0, none⟩ (.int .i64 0)).setCell ⟨gb117, 1, none⟩ (.string (⟨#[]⟩ : ByteArray))).setCell ⟨gb117, 2, none⟩ (.int .u64 0)).setCell ⟨gb117, 3, none⟩ (.int .i64 a1)).setCell ⟨gb117, 4, none⟩ (.int .i64 0)).heap[gb116]? = some (.cells #[.int .i64 0, .string (⟨#[]⟩ : ByteArray), .int .u64 0, .int .i64 0, .int .i64 0] 47 (0, 0))) := ⟨by (with_reducible repeat (first | refine blk_drewN ?_ _ | refine blk_drew ?_ | refine blk_alloc ?_ _)); refine blk_far ?_ NB116_117.out _; (with_reducible repeat (first | refine blk_drewN ?_ _ | refine blk_drew ?_ | refine blk_alloc ?_ _)); refine blk_far ?_ NB116_117.out _; (with_reducible repeat (first | refine blk_drewN ?_ _ | refine blk_drew ?_ | refine blk_alloc ?_ _)); refine blk_far ?_ NB116_117.out _; (with_reducible repeat (first | refine blk_drewN ?_ _ | refine blk_drew ?_ | refine blk_alloc ?_ _)); refine blk_far ?_ NB116_117.out _; (with_reducible repeat (first | refine blk_drewN ?_ _ | refine blk_drew ?_ | refine blk_alloc ?_ _)); refine blk_far ?_ NB116_117.out _; (with_reducible repeat (first | refine blk_drewN ?_ _ | refine blk_drew ?_ | refine blk_alloc ?_ _)); exact BK116.out⟩
                  have n1_ : Aside0 ((((((w55.setCell ⟨gb117, 0, none⟩ (.int .i64 0)).setCell ⟨gb117, 1, none⟩ (.string (⟨#[]⟩ : ByteArray))).setCell ⟨gb117, 2, none⟩ (.int .u64 0)).setCell ⟨gb117, 3, none⟩ (.int .i64 a1)).setCell ⟨gb117, 4, none⟩ (.int .i64 0)).heap[gb117]? = some (.cells #[.int .i64 0, .string (⟨#[]⟩ : ByteArray), .int .u64 0, .int .i64 a1, .int .i64 0] 47 (0, 0))) := ⟨by (with_reducible repeat (first | refine blk_drewN ?_ _ | refine blk_drew ?_ | refine blk_alloc ?_ _)); refine blk_put (cs := #[.int .i64 0, .string (⟨#[]⟩ : ByteArray), .int .u64 0, .int .i64 a1, .int .i64 0]) ?_ 4 _ rfl; (with_reducible repeat (first | refine blk_drewN ?_ _ | refine blk_drew ?_ | refine blk_alloc ?_ _)); refine blk_put (cs := #[.int .i64 0, .string (⟨#[]⟩ : ByteArray), .int .u64 0, .int .i64 0, .int .i64 0]) ?_ 3 _ rfl; (with_reducible repeat (first | refine blk_drewN ?_ _ | refine blk_drew ?_ | refine blk_alloc ?_ _)); refine blk_put (cs := #[.int .i64 0, .string (⟨#[]⟩ : ByteArray), .int .u64 0, .int .i64 0, .int .i64 0]) ?_ 2 _ rfl; (with_reducible repeat (first | refine blk_drewN ?_ _ | refine blk_drew ?_ | refine blk_alloc ?_ _)); refine blk_put (cs := #[.int .i64 0, .string (⟨#[]⟩ : ByteArray), .int .u64 0, .int .i64 0, .int .i64 0]) ?_ 1 _ rfl; (with_reducible repeat (first | refine blk_drewN ?_ _ | refine blk_drew ?_ | refine blk_alloc ?_ _)); refine blk_put (cs := #[.int .i64 0, .string (⟨#[]⟩ : ByteArray), .int .u64 0, .int .i64 0, .int .i64 0]) ?_ 0 _ rfl; (with_reducible repeat (first | refine blk_drewN ?_ _ | refine blk_drew ?_ | refine blk_alloc ?_ _)); exact BK117.out⟩
                  have n2_ : Aside0 (Below w.heap.size w (((((w55.setCell ⟨gb117, 0, none⟩ (.int .i64 0)).setCell ⟨gb117, 1, none⟩ (.string (⟨#[]⟩ : ByteArray))).setCell ⟨gb117, 2, none⟩ (.int .u64 0)).setCell ⟨gb117, 3, none⟩ (.int .i64 a1)).setCell ⟨gb117, 4, none⟩ (.int .i64 0))) := ⟨by repeat (first | (with_reducible first | exact HB.out | apply below_alloc | apply pw_below_drewN | apply below_drew1 | refine below_set ?_ GE116.out | refine below_set ?_ GE117.out) | exact HB.out)⟩
                  (try clear BK116)
                  (try clear BK117)
                  (try clear HB)
                  generalize (((((w55.setCell ⟨gb117, 0, none⟩ (.int .i64 0)).setCell ⟨gb117, 1, none⟩ (.string (⟨#[]⟩ : ByteArray))).setCell ⟨gb117, 2, none⟩ (.int .u64 0)).setCell ⟨gb117, 3, none⟩ (.int .i64 a1)).setCell ⟨gb117, 4, none⟩ (.int .i64 0)) = w58 at n0_ n1_ n2_ ⊢
                  have BK116 := n0_
                  have BK117 := n1_
                  have HB := n2_
                  clear n0_ n1_ n2_
                  (try (rw [drewN_self w58]; generalize hq_ : World.drewN w58 _ = w58; have n0_ : Aside0 (w58.heap[gb116]? = some (.cells #[.int .i64 0, .string (⟨#[]⟩ : ByteArray), .int .u64 0, .int .i64 0, .int .i64 0] 47 (0, 0))) := ⟨by rw [← hq_]; exact (by (with_reducible repeat (first | refine blk_drewN ?_ _ | refine blk_drew ?_ | refine blk_alloc ?_ _)); exact BK116.out)⟩; have n1_ : Aside0 (w58.heap[gb117]? = some (.cells #[.int .i64 0, .string (⟨#[]⟩ : ByteArray), .int .u64 0, .int .i64 a1, .int .i64 0] 47 (0, 0))) := ⟨by rw [← hq_]; exact (by (with_reducible repeat (first | refine blk_drewN ?_ _ | refine blk_drew ?_ | refine blk_alloc ?_ _)); exact BK117.out)⟩; have n2_ : Aside0 (Below w.heap.size w w58) := ⟨by rw [← hq_]; exact (by repeat (first | (with_reducible first | exact HB.out | apply below_alloc | apply pw_below_drewN | apply below_drew1 | refine below_set ?_ GE116.out | refine below_set ?_ GE117.out) | exact HB.out))⟩; clear BK116 BK117 HB hq_; have BK116 := n0_; have BK117 := n1_; have HB := n2_; clear n0_ n1_ n2_))
                  have n0_ := Aside0.mk (blk_drew BK116.out)
                  have n1_ := Aside0.mk (blk_drew BK117.out)
                  have n2_ := Aside0.mk (below_drew1 HB.out)
                  clear BK116
                  clear BK117
                  clear HB
                  have BK116 := n0_
                  have BK117 := n1_
                  have HB := n2_
                  clear n0_ n1_ n2_
                  refine start_ (n := 13) (S := fun w' => True) (ds := []) #[false, false, false, false, false, false, false, false, false, false, false, false, false] (by kernel_rfl) rfl rfl trivial (fun hHeld => ?_); refine with_tabW lex_token.tab20 lex_token.bits20 (fun HT_ HW_ => ?_)
                  generalize w58.drew = w59 at BK116 BK117 HB hHeld ⊢
                  refine pure_ (i := 0) (N := some 74) (v := ?_) (a' := ?_) #[true, false, false, false, false, false, false, false, false, false, false, false, false] rfl rfl (any_of HT_.out (by kernel_rfl)) (fun _ _ _ h => h) (Or.inl ⟨by rfl, ?_⟩) ?_ ?_
                  rotate_left
                  · intro w'
                    go_simp
                    with_reducible rfl
                  rotate_left
                  · simp only [Act.put, List.setIfInBounds_toArray, List.set_cons_zero, List.set_cons_succ, i64_w, i32_w]
                    rfl
                  refine pure_ (i := 1) (N := some 75) (v := ?_) (a' := ?_) #[true, true, false, false, false, false, false, false, false, false, false, false, false] rfl rfl (any_of HT_.out (by kernel_rfl)) (fun _ _ _ h => h) (Or.inl ⟨by rfl, ?_⟩) ?_ ?_
                  rotate_left
                  · intro w'
                    go_simp
                    with_reducible rfl
                  rotate_left
                  · simp only [Act.put, List.setIfInBounds_toArray, List.set_cons_zero, List.set_cons_succ, i64_w, i32_w]
                    rfl
                  refine pure_ (i := 2) (N := some 76) (v := ?_) (a' := ?_) #[true, true, true, false, false, false, false, false, false, false, false, false, false] rfl rfl (any_of HT_.out (by kernel_rfl)) (fun _ _ _ h => h) (Or.inl ⟨by rfl, ?_⟩) ?_ ?_
                  rotate_left
                  · intro w'
                    go_simp
                    with_reducible rfl
                  rotate_left
                  · simp only [Act.put, List.setIfInBounds_toArray, List.set_cons_zero, List.set_cons_succ, i64_w, i32_w]
                    rfl
                  refine pure_ (i := 3) (N := some 77) (v := ?_) (a' := ?_) #[true, true, true, true, false, false, false, false, false, false, false, false, false] rfl rfl (any_of HT_.out (by kernel_rfl)) (fun _ _ _ h => h) (Or.inl ⟨by rfl, ?_⟩) ?_ ?_
                  rotate_left
                  · intro w'
                    go_simp
                    with_reducible rfl
                  rotate_left
                  · simp only [Act.put, List.setIfInBounds_toArray, List.set_cons_zero, List.set_cons_succ, i64_w, i32_w]
                    rfl
                  refine pure_ (i := 4) (N := some 78) (v := ?_) (a' := ?_) #[true, true, true, true, true, false, false, false, false, false, false, false, false] rfl rfl (any_of HT_.out (by kernel_rfl)) (fun _ _ _ h => h) (Or.inl ⟨by rfl, ?_⟩) ?_ ?_
                  rotate_left
                  · intro w'
                    go_simp
                    with_reducible rfl
                  rotate_left
                  · simp only [Act.put, List.setIfInBounds_toArray, List.set_cons_zero, List.set_cons_succ, i64_w, i32_w]
                    rfl
                  refine pure_ (i := 5) (N := some 79) (v := ?_) (a' := ?_) #[true, true, true, true, true, true, false, false, false, false, false, false, false] rfl rfl (any_of HT_.out (by kernel_rfl)) (fun _ _ _ h => h) (Or.inl ⟨by rfl, ?_⟩) ?_ ?_
                  rotate_left
                  · intro w'
                    go_simp
                    with_reducible rfl
                  rotate_left
                  · simp only [Act.put, List.setIfInBounds_toArray, List.set_cons_zero, List.set_cons_succ, i64_w, i32_w]
                    rfl
                  refine pure_ (i := 6) (N := some 80) (v := ?_) (a' := ?_) #[true, true, true, true, true, true, true, false, false, false, false, false, false] rfl rfl (any_of HT_.out (by kernel_rfl)) (fun _ _ _ h => h) (Or.inl ⟨by rfl, ?_⟩) ?_ ?_
                  rotate_left
                  · intro w'
                    go_simp
                    with_reducible rfl
                  rotate_left
                  · simp only [Act.put, List.setIfInBounds_toArray, List.set_cons_zero, List.set_cons_succ, i64_w, i32_w]
                    rfl
                  refine pure_ (i := 7) (N := some 81) (v := ?_) (a' := ?_) #[true, true, true, true, true, true, true, true, false, false, false, false, false] rfl rfl (any_of HT_.out (by kernel_rfl)) (fun _ _ _ h => h) (Or.inl ⟨by rfl, ?_⟩) ?_ ?_
                  rotate_left
                  · intro w'
                    go_simp
                    with_reducible rfl
                  rotate_left
                  · simp only [Act.put, List.setIfInBounds_toArray, List.set_cons_zero, List.set_cons_succ, i64_w, i32_w]
                    rfl
                  refine one_ (i := 8) (N := none) #[true, true, true, true, true, true, true, true, true, false, false, false, false] rfl rfl (one_of HT_.out (by kernel_rfl)) (by decide) (fun K hK => ?_)
                  have hs60 : w59.cell? ⟨gb117, 0, none⟩ = some (.int .i64 0) := (blk_cell BK117.out 0).trans rfl
                  have hfs60 := blk_frozen BK117.out 0
                  have hns60_0 := NB116_117.out
                  have hms60_0 := NB117_116.out
                  refine skip_ (w1 := ?_) (by rfl) rfl ?_ ?_
                  rotate_left
                  · go_simp
                    rfl
                  refine hK.out _ _ trivial (fun hHeld => ?_)
                  clear hK K
                  refine pure_ (i := 9) (N := some 82) (v := ?_) (a' := ?_) #[true, true, true, true, true, true, true, true, true, true, false, false, false] rfl rfl (any_of HT_.out (by kernel_rfl)) (fun _ _ _ h => h) (Or.inl ⟨by rfl, ?_⟩) ?_ ?_
                  rotate_left
                  · intro w'
                    go_simp
                    with_reducible rfl
                  rotate_left
                  · simp only [Act.put, List.setIfInBounds_toArray, List.set_cons_zero, List.set_cons_succ, i64_w, i32_w]
                    rfl
                  refine one_ (i := 10) (N := none) #[true, true, true, true, true, true, true, true, true, true, true, false, false] rfl rfl (one_of HT_.out (by kernel_rfl)) (by decide) (fun K hK => ?_)
                  have hs61 : w59.cell? ⟨gb117, 1, none⟩ = some (.string (⟨#[]⟩ : ByteArray)) := (blk_cell BK117.out 1).trans rfl
                  have hfs61 := blk_frozen BK117.out 1
                  have hns61_0 := NB116_117.out
                  have hms61_0 := NB117_116.out
                  refine skip_ (w1 := ?_) (by rfl) rfl ?_ ?_
                  rotate_left
                  · go_simp
                    rfl
                  refine hK.out _ _ trivial (fun hHeld => ?_)
                  clear hK K
                  refine pure_ (i := 11) (N := some 83) (v := ?_) (a' := ?_) #[true, true, true, true, true, true, true, true, true, true, true, true, false] rfl rfl (any_of HT_.out (by kernel_rfl)) (fun _ _ _ h => h) (Or.inl ⟨by rfl, ?_⟩) ?_ ?_
                  rotate_left
                  · intro w'
                    go_simp
                    with_reducible rfl
                  rotate_left
                  · simp only [Act.put, List.setIfInBounds_toArray, List.set_cons_zero, List.set_cons_succ, i64_w, i32_w]
                    rfl
                  refine one_ (i := 12) (N := none) #[true, true, true, true, true, true, true, true, true, true, true, true, true] rfl rfl (one_of HT_.out (by kernel_rfl)) (by decide) (fun K hK => ?_)
                  have hs62 : w59.cell? ⟨gb117, 4, none⟩ = some (.int .i64 0) := (blk_cell BK117.out 4).trans rfl
                  have hfs62 := blk_frozen BK117.out 4
                  have hns62_0 := NB116_117.out
                  have hms62_0 := NB117_116.out
                  refine skip_ (w1 := ?_) (by rfl) rfl ?_ ?_
                  rotate_left
                  · go_simp
                    rfl
                  refine hK.out _ _ trivial (fun hHeld => ?_)
                  clear hK K
                  refine done_ (done_of HT_.out (by kernel_rfl)) ?_
                  have hcz63_0 : w59.cell? ⟨gb117, 0, none⟩ = some (.int .i64 0) := (blk_cell BK117.out 0).trans rfl
                  have hcz63_1 : w59.cell? ⟨gb117, 1, none⟩ = some (.string (⟨#[]⟩ : ByteArray)) := (blk_cell BK117.out 1).trans rfl
                  have hcz63_2 : w59.cell? ⟨gb117, 2, none⟩ = some (.int .u64 0) := (blk_cell BK117.out 2).trans rfl
                  have hcz63_3 : w59.cell? ⟨gb117, 3, none⟩ = some (.int .i64 a1) := (blk_cell BK117.out 3).trans rfl
                  have hcz63_4 : w59.cell? ⟨gb117, 4, none⟩ = some (.int .i64 0) := (blk_cell BK117.out 4).trans rfl
                  have hfz63_0 := blk_frozen BK117.out 0
                  have hfz63_1 := blk_frozen BK117.out 1
                  have hfz63_2 := blk_frozen BK117.out 2
                  have hfz63_3 := blk_frozen BK117.out 3
                  have hfz63_4 := blk_frozen BK117.out 4
                  have hcz64_0 : w59.cell? ⟨gb116, 0, none⟩ = some (.int .i64 0) := (blk_cell BK116.out 0).trans rfl
                  have hcz64_1 : w59.cell? ⟨gb116, 1, none⟩ = some (.string (⟨#[]⟩ : ByteArray)) := (blk_cell BK116.out 1).trans rfl
                  have hcz64_2 : w59.cell? ⟨gb116, 2, none⟩ = some (.int .u64 0) := (blk_cell BK116.out 2).trans rfl
                  have hcz64_3 : w59.cell? ⟨gb116, 3, none⟩ = some (.int .i64 0) := (blk_cell BK116.out 3).trans rfl
                  have hcz64_4 : w59.cell? ⟨gb116, 4, none⟩ = some (.int .i64 0) := (blk_cell BK116.out 4).trans rfl
                  have hfz64_0 := blk_frozen BK116.out 0
                  have hfz64_1 := blk_frozen BK116.out 1
                  have hfz64_2 := blk_frozen BK116.out 2
                  have hfz64_3 := blk_frozen BK116.out 3
                  have hfz64_4 := blk_frozen BK116.out 4
                  try go_wp2
                  refine bodyPost_ret (results_ctt rfl _ _ gb116 47 #[.int .i64 4, .string (a0.extract (a1 : Int).toNat ((wrap64 (a1 + 1)) : Int).toNat), .int .u64 0, .int .i64 a1, .int .i64 (wrap64 (a1 + 1))] (0, 0) _ rfl (by (with_reducible repeat (first | refine blk_drewN ?_ _ | refine blk_drew ?_ | refine blk_alloc ?_ _)); refine blk_put (cs := #[.int .i64 4, .string (a0.extract (a1 : Int).toNat ((wrap64 (a1 + 1)) : Int).toNat), .int .u64 0, .int .i64 a1, .int .i64 0]) ?_ 4 _ rfl; (with_reducible repeat (first | refine blk_drewN ?_ _ | refine blk_drew ?_ | refine blk_alloc ?_ _)); refine blk_put (cs := #[.int .i64 4, .string (a0.extract (a1 : Int).toNat ((wrap64 (a1 + 1)) : Int).toNat), .int .u64 0, .int .i64 0, .int .i64 0]) ?_ 3 _ rfl; (with_reducible repeat (first | refine blk_drewN ?_ _ | refine blk_drew ?_ | refine blk_alloc ?_ _)); refine blk_put (cs := #[.int .i64 4, .string (a0.extract (a1 : Int).toNat ((wrap64 (a1 + 1)) : Int).toNat), .int .u64 0, .int .i64 0, .int .i64 0]) ?_ 2 _ rfl; (with_reducible repeat (first | refine blk_drewN ?_ _ | refine blk_drew ?_ | refine blk_alloc ?_ _)); refine blk_put (cs := #[.int .i64 4, .string (⟨#[]⟩ : ByteArray), .int .u64 0, .int .i64 0, .int .i64 0]) ?_ 1 _ rfl; (with_reducible repeat (first | refine blk_drewN ?_ _ | refine blk_drew ?_ | refine blk_alloc ?_ _)); refine blk_put (cs := #[.int .i64 0, .string (⟨#[]⟩ : ByteArray), .int .u64 0, .int .i64 0, .int .i64 0]) ?_ 0 _ rfl; (with_reducible repeat (first | refine blk_drewN ?_ _ | refine blk_drew ?_ | refine blk_alloc ?_ _)); refine blk_far ?_ NB116_117.out _; (with_reducible repeat (first | refine blk_drewN ?_ _ | refine blk_drew ?_ | refine blk_alloc ?_ _)); refine blk_far ?_ NB116_117.out _; (with_reducible repeat (first | refine blk_drewN ?_ _ | refine blk_drew ?_ | refine blk_alloc ?_ _)); refine blk_far ?_ NB116_117.out _; (with_reducible repeat (first | refine blk_drewN ?_ _ | refine blk_drew ?_ | refine blk_alloc ?_ _)); exact BK116.out) Try.underlying47 rfl (by kernel_rfl)) rfl ?_
                  exact ⟨by first | rfl | (simp [errW_none, errW_some] <;> rfl) | (simp [*, errW_none, errW_some] <;> rfl), by repeat (first | (with_reducible first | exact HB.out | apply below_alloc | apply pw_below_drewN | apply below_drew1 | refine below_set ?_ GE116.out | refine below_set ?_ GE117.out) | exact HB.out)⟩
                · rw [if_neg c53] at H
                  exact absurd H (by simp)
              · rw [if_neg c52] at H
                exact absurd H (by simp)
            · rw [if_neg c50] at H
              have c50b0 : decide (0 ≤ t131) = false := decide_eq_false c50
              clear c50
              simp only [Option.some.injEq, Prod.mk.injEq] at H
              obtain ⟨rfl, rfl, rfl, rfl, rfl, rfl, rfl⟩ := H
              go_enter Try.func35, Try.ntmps35
              go_wp2_with (first | ((with_reducible refine gate_dst (N := 4) rfl ?_); refine box_event ?hg (N := 4) ?hd (cs := #[.int .i64 0, .string (⟨#[]⟩ : ByteArray), .int .u64 0, .int .i64 0, .int .i64 0]) (t := 47) ?hr ?_; (case hd => rfl); (case hg => rfl); (case hr => first | (go_simp; done) | (go_simp; rfl)); intro gb116 hg w65 hbox hb; have n0_ := Aside0.mk (below_step (by repeat (first | (with_reducible first | exact HB.out | apply below_alloc | apply pw_below_drewN | apply below_drew1) | exact HB.out)) hb); have n1_ := Aside0.mk (hbox); have n2_ := Aside0.mk ((by rw [hg]; exact (below_size (by repeat (first | (with_reducible first | exact HB.out | apply below_alloc | apply pw_below_drewN | apply below_drew1) | exact HB.out))) : w.heap.size ≤ gb116)); have n3_ := Aside0.mk ((by rw [hg]; exact (below_size (by repeat (first | (with_reducible first | exact HB.out | apply below_alloc | apply pw_below_drewN | apply below_drew1) | exact HB.out))) : w.heap.size ≤ gb116)); clear HB; have HB := n0_; have BK116 := n1_; have GW116 := n2_; have GE116 := n3_; clear n0_ n1_ n2_ n3_; clear hb hbox hg) | ((with_reducible refine gate_dst (N := 7) rfl ?_); refine box_event ?hg (N := 7) ?hd (cs := #[.int .i64 0, .string (⟨#[]⟩ : ByteArray), .int .u64 0, .int .i64 0, .int .i64 0]) (t := 47) ?hr ?_; (case hd => rfl); (case hg => rfl); (case hr => first | (go_simp; done) | (go_simp; rfl)); intro gb117 hg w66 hbox hb; have n0_ := Aside0.mk (blk_below (g := gb116) (o := .cells #[.int .i64 0, .string (⟨#[]⟩ : ByteArray), .int .u64 0, .int .i64 0, .int .i64 0] 47 (0, 0)) (by (with_reducible repeat (first | refine blk_drewN ?_ _ | refine blk_drew ?_ | refine blk_alloc ?_ _)); exact BK116.out) hb); have n1_ := Aside0.mk (below_step (by repeat (first | (with_reducible first | exact HB.out | apply below_alloc | apply pw_below_drewN | apply below_drew1 | refine below_set ?_ GE116.out) | exact HB.out)) hb); have n2_ := Aside0.mk (hbox); have n3_ := Aside0.mk ((by rw [hg]; exact (below_size (by repeat (first | (with_reducible first | exact HB.out | apply below_alloc | apply pw_below_drewN | apply below_drew1 | refine below_set ?_ GE116.out) | exact HB.out))) : w.heap.size ≤ gb117)); have n4_ := Aside0.mk ((by rw [hg]; exact (below_size (by repeat (first | (with_reducible first | exact HB.out | apply below_alloc | apply pw_below_drewN | apply below_drew1 | refine below_set ?_ GE116.out) | exact HB.out))) : w.heap.size ≤ gb117)); have n5_ := Aside0.mk ((by rw [hg]; exact Nat.ne_of_lt (blk_lt (g := gb116) (o := .cells #[.int .i64 0, .string (⟨#[]⟩ : ByteArray), .int .u64 0, .int .i64 0, .int .i64 0] 47 (0, 0)) (by (with_reducible repeat (first | refine blk_drewN ?_ _ | refine blk_drew ?_ | refine blk_alloc ?_ _)); exact BK116.out)) : gb116 ≠ gb117)); have n6_ := Aside0.mk ((by rw [hg]; exact Nat.ne_of_gt (blk_lt (g := gb116) (o := .cells #[.int .i64 0, .string (⟨#[]⟩ : ByteArray), .int .u64 0, .int .i64 0, .int .i64 0] 47 (0, 0)) (by (with_reducible repeat (first | refine blk_drewN ?_ _ | refine blk_drew ?_ | refine blk_alloc ?_ _)); exact BK116.out)) : gb117 ≠ gb116)); clear BK116; clear HB; have BK116 := n0_; have HB := n1_; have BK117 := n2_; have GW117 := n3_; have GE117 := n4_; have NB116_117 := n5_; have NB117_116 := n6_; clear n0_ n1_ n2_ n3_ n4_ n5_ n6_; clear hb hbox hg; have hnb67 := NB117_116.out; have hnc67 := NB116_117.out; have hcz68_0 : w66.cell? ⟨gb117, 0, none⟩ = some (.int .i64 0) := (blk_cell BK117.out 0).trans rfl; have hcz68_1 : w66.cell? ⟨gb117, 1, none⟩ = some (.string (⟨#[]⟩ : ByteArray)) := (blk_cell BK117.out 1).trans rfl; have hcz68_2 : w66.cell? ⟨gb117, 2, none⟩ = some (.int .u64 0) := (blk_cell BK117.out 2).trans rfl; have hcz68_3 : w66.cell? ⟨gb117, 3, none⟩ = some (.int .i64 0) := (blk_cell BK117.out 3).trans rfl; have hcz68_4 : w66.cell? ⟨gb117, 4, none⟩ = some (.int .i64 0) := (blk_cell BK117.out 4).trans rfl; have hfz68_0 := blk_frozen BK117.out 0; have hfz68_1 := blk_frozen BK117.out 1; have hfz68_2 := blk_frozen BK117.out 2; have hfz68_3 := blk_frozen BK117.out 3; have hfz68_4 := blk_frozen BK117.out 4; have p5 : 0 ≤ (a1 : Int) := of_decide_eq_true (by first | (with_reducible assumption) | assumption); have q5 : a1 < (a0.size : Int) := of_decide_eq_true (by first | (with_reducible assumption) | assumption); have hx5 := bt_at a0 a1; replace p5 := eq_true p5; replace q5 := eq_true q5) | ((with_reducible refine gate_callee (f := 53) rfl ?_); refine goesL_ (some 20) rfl rfl Try.func53 (by kernel_rfl) rfl #[.int .u8 (bt a0 a1)] rfl (by (try simp only [List.map_toArray, List.map_cons, List.map_nil]); first | done | rfl | (simp only [List.length_drop, List.length_take]; rfl)) ?_; (with_reducible refine (lex_isLetter.calls (bt a0 a1) false _ A6.out).mono ?_); rintro e w' ⟨rfl, ⟨nd, rfl⟩⟩; refine ⟨_, rfl, ?_⟩) | ((with_reducible refine gate_callee (f := 56) rfl ?_); refine goesL_ (some 40) rfl rfl Try.func56 (by kernel_rfl) rfl #[.int .u8 (bt a0 a1)] rfl (by (try simp only [List.map_toArray, List.map_cons, List.map_nil]); first | done | rfl | (simp only [List.length_drop, List.length_take]; rfl)) ?_; (with_reducible refine (lex_isDigit.calls (bt a0 a1) false _ A23.out).mono ?_); rintro e w' ⟨rfl, ⟨nd, rfl⟩⟩; refine ⟨_, rfl, ?_⟩) | ((with_reducible refine gate_callee (f := 52) rfl ?_); refine goesL_ (some 72) rfl rfl Try.func52 (by kernel_rfl) rfl #[.string (⟨#[123, 125, 40, 41, 58, 59, 44, 61, 43, 45, 42]⟩ : ByteArray), .int .u8 (bt a0 a1)] rfl (by (try simp only [List.map_toArray, List.map_cons, List.map_nil]); first | done | rfl | (simp only [List.length_drop, List.length_take]; rfl)) ?_; (with_reducible refine (strings_IndexByte.calls (⟨#[123, 125, 40, 41, 58, 59, 44, 61, 43, 45, 42]⟩ : ByteArray) (bt a0 a1) t131 _ A49.out).mono ?_); rintro e w' ⟨rfl, ⟨nd, rfl⟩⟩; refine ⟨_, rfl, ?_⟩; have hcz69_0 : w66.cell? ⟨gb116, 0, none⟩ = some (.int .i64 0) := (blk_cell BK116.out 0).trans rfl; have hcz69_1 : w66.cell? ⟨gb116, 1, none⟩ = some (.string (⟨#[]⟩ : ByteArray)) := (blk_cell BK116.out 1).trans rfl; have hcz69_2 : w66.cell? ⟨gb116, 2, none⟩ = some (.int .u64 0) := (blk_cell BK116.out 2).trans rfl; have hcz69_3 : w66.cell? ⟨gb116, 3, none⟩ = some (.int .i64 0) := (blk_cell BK116.out 3).trans rfl; have hcz69_4 : w66.cell? ⟨gb116, 4, none⟩ = some (.int .i64 0) := (blk_cell BK116.out 4).trans rfl; have hfz69_0 := blk_frozen BK116.out 0; have hfz69_1 := blk_frozen BK116.out 1; have hfz69_2 := blk_frozen BK116.out 2; have hfz69_3 := blk_frozen BK116.out 3; have hfz69_4 := blk_frozen BK116.out 4))
              refine bodyPost_ret (results_ctt rfl _ _ gb116 47 #[.int .i64 0, .string (⟨#[]⟩ : ByteArray), .int .u64 0, .int .i64 a1, .int .i64 0] (0, 0) _ rfl (by (with_reducible repeat (first | refine blk_drewN ?_ _ | refine blk_drew ?_ | refine blk_alloc ?_ _)); refine blk_put (cs := #[.int .i64 0, .string (⟨#[]⟩ : ByteArray), .int .u64 0, .int .i64 a1, .int .i64 0]) ?_ 4 _ rfl; (with_reducible repeat (first | refine blk_drewN ?_ _ | refine blk_drew ?_ | refine blk_alloc ?_ _)); refine blk_put (cs := #[.int .i64 0, .string (⟨#[]⟩ : ByteArray), .int .u64 0, .int .i64 0, .int .i64 0]) ?_ 3 _ rfl; (with_reducible repeat (first | refine blk_drewN ?_ _ | refine blk_drew ?_ | refine blk_alloc ?_ _)); refine blk_put (cs := #[.int .i64 0, .string (⟨#[]⟩ : ByteArray), .int .u64 0, .int .i64 0, .int .i64 0]) ?_ 2 _ rfl; (with_reducible repeat (first | refine blk_drewN ?_ _ | refine blk_drew ?_ | refine blk_alloc ?_ _)); refine blk_put (cs := #[.int .i64 0, .string (⟨#[]⟩ : ByteArray), .int .u64 0, .int .i64 0, .int .i64 0]) ?_ 1 _ rfl; (with_reducible repeat (first | refine blk_drewN ?_ _ | refine blk_drew ?_ | refine blk_alloc ?_ _)); refine blk_put (cs := #[.int .i64 0, .string (⟨#[]⟩ : ByteArray), .int .u64 0, .int .i64 0, .int .i64 0]) ?_ 0 _ rfl; (with_reducible repeat (first | refine blk_drewN ?_ _ | refine blk_drew ?_ | refine blk_alloc ?_ _)); refine blk_far ?_ NB116_117.out _; (with_reducible repeat (first | refine blk_drewN ?_ _ | refine blk_drew ?_ | refine blk_alloc ?_ _)); refine blk_far ?_ NB116_117.out _; (with_reducible repeat (first | refine blk_drewN ?_ _ | refine blk_drew ?_ | refine blk_alloc ?_ _)); refine blk_far ?_ NB116_117.out _; (with_reducible repeat (first | refine blk_drewN ?_ _ | refine blk_drew ?_ | refine blk_alloc ?_ _)); refine blk_far ?_ NB116_117.out _; (with_reducible repeat (first | refine blk_drewN ?_ _ | refine blk_drew ?_ | refine blk_alloc ?_ _)); refine blk_far ?_ NB116_117.out _; (with_reducible repeat (first | refine blk_drewN ?_ _ | refine blk_drew ?_ | refine blk_alloc ?_ _)); exact BK116.out) Try.underlying47 rfl (by kernel_rfl)) rfl ?_
              exact ⟨by first | rfl | (simp [errW_none, errW_some] <;> rfl) | (simp [*, errW_none, errW_some] <;> rfl), by repeat (first | (with_reducible first | exact HB.out | apply below_alloc | apply pw_below_drewN | apply below_drew1 | refine below_set ?_ GE116.out | refine below_set ?_ GE117.out) | exact HB.out)⟩
    · rw [if_neg c4] at H
      exact absurd H (by simp)
  · rw [if_neg c3] at H
    exact absurd H (by simp)
def lex_Lex.l0 : Nat → ByteArray → List (S47) → Int → Option ((List (S47)) × Int × Int)
  | 0, _, _, _ => none
  | k + 1, x0, x5, x6 => if x6 < (x0.size : Int) then ((lex_token.f k x0 x6).bind fun bt136 => (if bt136.2.2.2.2.2.2 = 0 then (if x5.length < 2932031007402 then ((lex_skip.f k x0 bt136.2.2.2.2.1).bind fun t147 => (lex_Lex.l0 k x0 (x5 ++ [(⟨bt136.1, bt136.2.1, bt136.2.2.1, bt136.2.2.2.1, bt136.2.2.2.2.1⟩ : S47)]) t147)) else (none)) else (some (([] : List (S47)), bt136.2.2.2.2.2.1, bt136.2.2.2.2.2.2)))) else (if x5.length < 2932031007402 then (some ((x5 ++ [(⟨0, (⟨#[]⟩ : ByteArray), 0, (x0.size : Int), (x0.size : Int)⟩ : S47)]), 0, 0)) else (none))
def lex_Lex.f (k : Nat) (a0 : ByteArray) : Option ((List (S47)) × Int × Int) := if (a0.size : Int) > 1048576 then (some (([] : List (S47)), 0, 2)) else ((lex_skip.f k a0 0).bind fun t132 => (lex_Lex.l0 k a0 ([] : List (S47)) t132))
theorem lex_Lex.mono_l : ∀ k, (∀ y0 y1 y2, LeO (lex_Lex.l0 k y0 y1 y2) (lex_Lex.l0 (k + 1) y0 y1 y2))
  | 0 => fun _ _ _ r h => by simp [lex_Lex.l0] at h
  | k + 1 => by
    have ih0 := lex_Lex.mono_l k
    · intro y0 y1 y2
      unfold lex_Lex.l0
      repeat' first
      | (with_reducible exact ih0 _ _ _)
      | (with_reducible exact lex_skip.mono _ _ _)
      | (with_reducible exact lex_token.mono _ _ _)
      | (with_reducible exact LeO.refl _)
      | (with_reducible exact LeO.none _)
      | (with_reducible refine LeO.ite ?_ ?_)
      | (with_reducible refine LeO.bind ?_ (fun _ => ?_))
      | exact ih0 _ _ _
      | exact lex_skip.mono _ _ _
      | exact lex_token.mono _ _ _
      | exact LeO.none _
      | refine LeO.ite ?_ ?_
      | refine LeO.bind ?_ (fun _ => ?_)
theorem lex_Lex.mono : ∀ a0 k, LeO (lex_Lex.f k a0) (lex_Lex.f (k + 1) a0) := by
  intro a0 k
  have ih0 := lex_Lex.mono_l k
  unfold lex_Lex.f
  repeat' first
      | (with_reducible exact ih0 _ _ _)
      | (with_reducible exact lex_skip.mono _ _ _)
      | (with_reducible exact lex_token.mono _ _ _)
      | (with_reducible exact LeO.refl _)
      | (with_reducible exact LeO.none _)
      | (with_reducible refine LeO.ite ?_ ?_)
      | (with_reducible refine LeO.bind ?_ (fun _ => ?_))
      | exact ih0 _ _ _
      | exact lex_skip.mono _ _ _
      | exact lex_token.mono _ _ _
      | exact LeO.none _
      | refine LeO.ite ?_ ?_
      | refine LeO.bind ?_ (fun _ => ?_)
set_option maxHeartbeats 8000000 in
set_option maxRecDepth 100000 in
theorem lex_Lex.calls (k : Nat) (a0 : ByteArray) (r1 : List (S47)) (r2 : Int) (r3 : Int) (w : World) (h : lex_Lex.f k a0 = some (r1, r2, r3)) :
    Calls Try.prog 18 #[.string a0] w fun e w' => ∃ v0_ : Value, e = .returned (.tuple #[v0_, .int .i64 r2, .int .i64 r3]) ∧ Kd.R k47 47 w' w.heap.size (fun _ => True) v0_ r1 ∧ Below w.heap.size w w' := by
  have hu47 := Try.underlying47
  have HB := Aside0.mk (Below.refl w.heap.size w)
  have H : (if (a0.size : Int) > 1048576 then (some (([] : List (S47)), 0, 2)) else ((lex_skip.f k a0 0).bind fun t132 => (lex_Lex.l0 k a0 ([] : List (S47)) t132))) = some (r1, r2, r3) := h
  clear h
  by_cases c2 : (a0.size : Int) > 1048576
  · rw [if_pos c2] at H
    have c2b0 : decide (1048576 < (a0.size : Int)) = true := decide_eq_true c2
    have c2b1 : decide (1048576 < a0.size) = true := decide_eq_true (by omega)
    clear c2
    simp only [Option.some.injEq, Prod.mk.injEq] at H
    obtain ⟨rfl, rfl, rfl⟩ := H
    go_enter Try.func18, Try.ntmps18
    go_wp2
    go_ret3
    exact ⟨_, by first | rfl | (simp [errW_none, errW_some] <;> rfl) | (simp [*, errW_none, errW_some] <;> rfl), by first | exact Kd.R_nil _ _ _ _ _ | exact Kd.N_nil _ _ _ _ _ | exact Kd.V_nil _ _ _ _ _ | exact Kd.Q_nil _ _ _ _ _ | exact Kd.S_nil _ _ _ _ _, by repeat (first | (with_reducible first | exact HB.out | apply below_alloc | apply pw_below_drewN | apply below_drew1) | exact HB.out)⟩
  · rw [if_neg c2] at H
    have c2b0 : decide (1048576 < (a0.size : Int)) = false := decide_eq_false c2
    have c2b1 : decide (1048576 < a0.size) = false := decide_eq_false (by omega)
    clear c2
    replace H := Option.bind_eq_some_iff.mp H
    obtain ⟨t132, A30, H⟩ := H
    replace H : (lex_Lex.l0 k a0 ([] : List (S47)) t132) = some (r1, r2, r3) := H
    have A3 := Aside0.mk A30
    clear A30
    have H' := Aside0.mk H
    clear H
    go_enter Try.func18, Try.ntmps18
    go_wp2_with (first | ((with_reducible refine gate_callee (f := 34) rfl ?_); refine goesL_ (some 14) rfl rfl Try.func34 (by kernel_rfl) rfl #[.string a0, .int .i64 0] rfl (by (try simp only [List.map_toArray, List.map_cons, List.map_nil]); first | done | rfl | (simp only [List.length_drop, List.length_take]; rfl)) ?_; (with_reducible refine (lex_skip.calls k a0 0 t132 _ A3.out).mono ?_); rintro e w' ⟨rfl, ⟨nd, rfl⟩⟩; refine ⟨_, rfl, ?_⟩))
    go_loopg [5, 6] k (fun kq v5 v6 w' => ∃ (x5_1 : List (S47)) (x6_1 : Int), v6 = .int .i64 x6_1 ∧ Aside0 (lex_Lex.l0 kq a0 x5_1 x6_1 = some (r1, r2, r3)) ∧ Aside0 (kq ≤ k) ∧ Aside0 (Kd.R k47 47 w' w.heap.size (fun _ => True) v5 x5_1) ∧ Aside0 (Below w.heap.size w w'))
    case atStart => exact ⟨(([] : List (S47))), (t132), (by first | rfl | (simp; done) | (simp [*]; done)), H', ⟨Nat.le_refl _⟩, ⟨by first | exact Kd.R_nil _ _ _ _ _ | exact Kd.N_nil _ _ _ _ _ | exact Kd.V_nil _ _ _ _ _ | exact Kd.Q_nil _ _ _ _ _ | exact Kd.S_nil _ _ _ _ _⟩, ⟨by repeat (first | (with_reducible first | exact HB.out | apply below_alloc | apply pw_below_drewN | apply below_drew1) | exact HB.out)⟩⟩
    case round =>
      clear H'
      try clear c1
      try clear c2
      try clear c2b0
      try clear c2b1
      try clear p2
      try clear c3
      obtain ⟨x5_1, x6_1, rfl, HA, HK1, HO_5, HB⟩ := hrel
      cases gk with
      | zero => exact absurd HA.out (by simp [lex_Lex.l0])
      | succ k1 =>
        have H := HA.out
        clear HA
        simp only [lex_Lex.l0] at H
        by_cases c4 : x6_1 < (a0.size : Int)
        · rw [if_pos c4] at H
          have c4b0 : decide (x6_1 < (a0.size : Int)) = true := decide_eq_true c4
          clear c4
          replace H := Option.bind_eq_some_iff.mp H
          obtain ⟨⟨t136, t137, t138, t139, t140, t141, t142⟩, A50, H⟩ := H
          replace H : (if t142 = 0 then (if x5_1.length < 2932031007402 then ((lex_skip.f k1 a0 t140).bind fun t147 => (lex_Lex.l0 k1 a0 (x5_1 ++ [(⟨t136, t137, t138, t139, t140⟩ : S47)]) t147)) else (none)) else (some (([] : List (S47)), t141, t142))) = some (r1, r2, r3) := H
          have A5 := Aside0.mk A50
          clear A50
          by_cases c6 : t142 = 0
          · rw [if_pos c6] at H
            have c6b0 : (t142 == 0) = true := beq_iff_eq.mpr c6
            have c6b1 : (t142 != 0) = false := bne_eq_false_iff_eq.mpr c6
            clear c6
            by_cases c7 : x5_1.length < 2932031007402
            · rw [if_pos c7] at H
              have LMc7 := Aside0.mk c7
              clear c7
              obtain ⟨y144, hy144⟩ : ∃ y_ : List (S47), y_ = (x5_1 ++ [(⟨t136, t137, t138, t139, t140⟩ : S47)]) := ⟨_, rfl⟩
              replace H : ((lex_skip.f k1 a0 t140).bind fun t147 => (lex_Lex.l0 k1 a0 y144 t147)) = some (r1, r2, r3) := by first | (rw [hy144]; with_reducible exact H) | (have H2_ := (Option.bind_some _ _).symm.trans H; rw [hy144]; with_reducible exact H2_) | (have H2_ := (Option.bind_some _ _).symm.trans H; with_reducible exact H2_) | with_reducible exact H | (rw [hy144]; exact H) | exact H
              have Ny144 := Aside0.mk hy144
              clear hy144
              replace H := Option.bind_eq_some_iff.mp H
              obtain ⟨t147, A80, H⟩ := H
              replace H : (lex_Lex.l0 k1 a0 y144 t147) = some (r1, r2, r3) := H
              have A8 := Aside0.mk A80
              clear A80
              have H' := Aside0.mk H
              clear H
              go_wp2_with (first | ((with_reducible refine gate_callee (f := 35) rfl ?_); refine goesL_ (some 22) rfl rfl Try.func35 (by kernel_rfl) rfl #[.string a0, .int .i64 x6_1] rfl (by (try simp only [List.map_toArray, List.map_cons, List.map_nil]); first | done | rfl | (simp only [List.length_drop, List.length_take]; rfl)) ?_; (with_reducible refine (lex_token.calls k1 a0 x6_1 t136 t137 t138 t139 t140 t141 t142 _ A5.out).mono ?_); rintro e w9 ⟨rfl, hb⟩; refine ⟨_, rfl, ?_⟩; have n0_ := Aside0.mk (Kd.R_below (by (with_reducible repeat (first | apply Kd.R_alloc | apply Kd.R_drewN | apply Kd.R_drew)); exact HO_5.out) hb); have n1_ := Aside0.mk (below_step (by repeat (first | (with_reducible first | exact HB.out | apply below_alloc | apply pw_below_drewN | apply below_drew1) | exact HB.out)) hb); clear HO_5; clear HB; have HO_5 := n0_; have HB := n1_; clear n0_ n1_; (try clear hb); (try clear hb2); (try clear hk); (try clear hi)) | ((with_reducible refine gate_dst (N := 7) rfl ?_); refine box_event ?hg (N := 7) ?hd (cs := #[.int .i64 0, .string (⟨#[]⟩ : ByteArray), .int .u64 0, .int .i64 0, .int .i64 0]) (t := 47) ?hr ?_; (case hd => rfl); (case hg => rfl); (case hr => first | (go_simp; done) | (go_simp; rfl)); intro gb143 hg w10 hbox hb; have n0_ := Aside0.mk (Kd.R_below (Kd.R_elderB (by (with_reducible repeat (first | apply Kd.R_alloc | apply Kd.R_drewN | apply Kd.R_drew)); exact HO_5.out) gb143 (Nat.le_of_eq hg.symm)) hb); have n1_ := Aside0.mk (below_step (by repeat (first | (with_reducible first | exact HB.out | apply below_alloc | apply pw_below_drewN | apply below_drew1) | exact HB.out)) hb); have n2_ := Aside0.mk (hbox); have n3_ := Aside0.mk ((by rw [hg]; exact (below_size (by repeat (first | (with_reducible first | exact HB.out | apply below_alloc | apply pw_below_drewN | apply below_drew1) | exact HB.out))) : w.heap.size ≤ gb143)); have n4_ := Aside0.mk ((by rw [hg]; exact (below_size (by repeat (first | (with_reducible first | exact HB.out | apply below_alloc | apply pw_below_drewN | apply below_drew1) | exact HB.out))) : w.heap.size ≤ gb143)); clear HO_5; clear HB; have HO_5 := n0_; have HB := n1_; have BK143 := n2_; have GW143 := n3_; have GE143 := n4_; clear n0_ n1_ n2_ n3_ n4_; clear hb hbox hg; have hcz11_0 : w10.cell? ⟨gb143, 0, none⟩ = some (.int .i64 0) := (blk_cell BK143.out 0).trans rfl; have hcz11_1 : w10.cell? ⟨gb143, 1, none⟩ = some (.string (⟨#[]⟩ : ByteArray)) := (blk_cell BK143.out 1).trans rfl; have hcz11_2 : w10.cell? ⟨gb143, 2, none⟩ = some (.int .u64 0) := (blk_cell BK143.out 2).trans rfl; have hcz11_3 : w10.cell? ⟨gb143, 3, none⟩ = some (.int .i64 0) := (blk_cell BK143.out 3).trans rfl; have hcz11_4 : w10.cell? ⟨gb143, 4, none⟩ = some (.int .i64 0) := (blk_cell BK143.out 4).trans rfl; have hfz11_0 := blk_frozen BK143.out 0; have hfz11_1 := blk_frozen BK143.out 1; have hfz11_2 := blk_frozen BK143.out 2; have hfz11_3 := blk_frozen BK143.out 3; have hfz11_4 := blk_frozen BK143.out 4) | ((with_reducible refine gate_builtin (b := .append) (xs := #[.tmp 30, .tmp 32]) rfl ?_); at_builtin; refine Kd.R_append k47 (w0 := w) w.heap.size rfl (.tmp 30) (.tmp 32) 37 47 (.agg #[(.int .i64 0), (.string ⟨#[]⟩), (.int .u64 0), (.int .i64 0), (.int .i64 0)]) 48 rfl Try.underlying37 info47 rfl (by decide) (by omega) u5 x5_1 (⟨t136, t137, t138, t139, t140⟩ : S47) [.int .i64 t136, .string t137, .int .u64 t138, .int .i64 t139, .int .i64 t140] (fun k_ => k_ ≠ gb143) (fun _ => False) rfl (by first | (go_simp; done) | (go_simp; rfl)) ?aP (fun _ hk => hk.elim) ?aF ?aO ?aB ?aS ?aL ?_; (case aP => exact k47_mkM _ _ _ (⟨t136, t137, t138, t139, t140⟩ : S47)); (case aB => exact (by repeat (first | (with_reducible first | exact HB.out | apply below_alloc | apply pw_below_drewN | apply below_drew1 | refine below_set ?_ GE143.out) | exact HB.out))); (case aF => exact (fun k_ hk => Kd.freshB (g := gb143) (o := .cells #[.int .i64 t136, .string t137, .int .u64 t138, .int .i64 t139, .int .i64 t140] 47 (0, 0)) (by (with_reducible repeat (first | refine blk_drewN ?_ _ | refine blk_drew ?_ | refine blk_alloc ?_ _)); refine blk_put (cs := #[.int .i64 t136, .string t137, .int .u64 t138, .int .i64 t139, .int .i64 0]) ?_ 4 _ rfl; (with_reducible repeat (first | refine blk_drewN ?_ _ | refine blk_drew ?_ | refine blk_alloc ?_ _)); refine blk_put (cs := #[.int .i64 t136, .string t137, .int .u64 t138, .int .i64 0, .int .i64 0]) ?_ 3 _ rfl; (with_reducible repeat (first | refine blk_drewN ?_ _ | refine blk_drew ?_ | refine blk_alloc ?_ _)); refine blk_put (cs := #[.int .i64 t136, .string t137, .int .u64 0, .int .i64 0, .int .i64 0]) ?_ 2 _ rfl; (with_reducible repeat (first | refine blk_drewN ?_ _ | refine blk_drew ?_ | refine blk_alloc ?_ _)); refine blk_put (cs := #[.int .i64 t136, .string (⟨#[]⟩ : ByteArray), .int .u64 0, .int .i64 0, .int .i64 0]) ?_ 1 _ rfl; (with_reducible repeat (first | refine blk_drewN ?_ _ | refine blk_drew ?_ | refine blk_alloc ?_ _)); refine blk_put (cs := #[.int .i64 0, .string (⟨#[]⟩ : ByteArray), .int .u64 0, .int .i64 0, .int .i64 0]) ?_ 0 _ rfl; (with_reducible repeat (first | refine blk_drewN ?_ _ | refine blk_drew ?_ | refine blk_alloc ?_ _)); exact BK143.out) k_ hk)); (case aO => exact (by (with_reducible repeat (first | apply Kd.R_alloc | apply Kd.R_drewN | apply Kd.R_drew)); exact Kd.R_mono (Kd.R_far (p := ⟨gb143, 4, none⟩) (Kd.R_far (p := ⟨gb143, 3, none⟩) (Kd.R_far (p := ⟨gb143, 2, none⟩) (Kd.R_far (p := ⟨gb143, 1, none⟩) (Kd.R_far (p := ⟨gb143, 0, none⟩) (Kd.R_mono HO_5.out (fun k_ hk => (⟨hk, hk.2⟩ : _ ∧ k_ ≠ gb143))) (fun _ hk => hk.2) (.int .i64 t136)) (fun _ hk => hk.2) (.string t137)) (fun _ hk => hk.2) (.int .u64 t138)) (fun _ hk => hk.2) (.int .i64 t139)) (fun _ hk => hk.2) (.int .i64 t140)) (fun _ hk => hk.1.2))); (case aS => exact (below_size (by repeat (first | (with_reducible first | exact HB.out | apply below_alloc | apply pw_below_drewN | apply below_drew1 | refine below_set ?_ GE143.out) | exact HB.out)))); (case aL => have := LMc7.out; omega); intro v145 w12 ho hb hg hat; rw [← Ny144.out] at ho; have n0_ := Aside0.mk (blk_grown (g := gb143) (o := .cells #[.int .i64 t136, .string t137, .int .u64 t138, .int .i64 t139, .int .i64 t140] 47 (0, 0)) (by (with_reducible repeat (first | refine blk_drewN ?_ _ | refine blk_drew ?_ | refine blk_alloc ?_ _)); refine blk_put (cs := #[.int .i64 t136, .string t137, .int .u64 t138, .int .i64 t139, .int .i64 0]) ?_ 4 _ rfl; (with_reducible repeat (first | refine blk_drewN ?_ _ | refine blk_drew ?_ | refine blk_alloc ?_ _)); refine blk_put (cs := #[.int .i64 t136, .string t137, .int .u64 t138, .int .i64 0, .int .i64 0]) ?_ 3 _ rfl; (with_reducible repeat (first | refine blk_drewN ?_ _ | refine blk_drew ?_ | refine blk_alloc ?_ _)); refine blk_put (cs := #[.int .i64 t136, .string t137, .int .u64 0, .int .i64 0, .int .i64 0]) ?_ 2 _ rfl; (with_reducible repeat (first | refine blk_drewN ?_ _ | refine blk_drew ?_ | refine blk_alloc ?_ _)); refine blk_put (cs := #[.int .i64 t136, .string (⟨#[]⟩ : ByteArray), .int .u64 0, .int .i64 0, .int .i64 0]) ?_ 1 _ rfl; (with_reducible repeat (first | refine blk_drewN ?_ _ | refine blk_drew ?_ | refine blk_alloc ?_ _)); refine blk_put (cs := #[.int .i64 0, .string (⟨#[]⟩ : ByteArray), .int .u64 0, .int .i64 0, .int .i64 0]) ?_ 0 _ rfl; (with_reducible repeat (first | refine blk_drewN ?_ _ | refine blk_drew ?_ | refine blk_alloc ?_ _)); exact BK143.out) hg (Kd.R_away HO_5.out (fun _ hk => hk.2))); have n1_ := Aside0.mk (hb); have n2_ := Aside0.mk (ho); clear BK143; clear HB; clear HO_5; have BK143 := n0_; have HB := n1_; have HO146 := n2_; clear n0_ n1_ n2_; clear ho hb hg hat; have hcz13_0 : w12.cell? ⟨gb143, 0, none⟩ = some (.int .i64 t136) := (blk_cell BK143.out 0).trans rfl; have hcz13_1 : w12.cell? ⟨gb143, 1, none⟩ = some (.string t137) := (blk_cell BK143.out 1).trans rfl; have hcz13_2 : w12.cell? ⟨gb143, 2, none⟩ = some (.int .u64 t138) := (blk_cell BK143.out 2).trans rfl; have hcz13_3 : w12.cell? ⟨gb143, 3, none⟩ = some (.int .i64 t139) := (blk_cell BK143.out 3).trans rfl; have hcz13_4 : w12.cell? ⟨gb143, 4, none⟩ = some (.int .i64 t140) := (blk_cell BK143.out 4).trans rfl; have hfz13_0 := blk_frozen BK143.out 0; have hfz13_1 := blk_frozen BK143.out 1; have hfz13_2 := blk_frozen BK143.out 2; have hfz13_3 := blk_frozen BK143.out 3; have hfz13_4 := blk_frozen BK143.out 4) | ((with_reducible refine gate_callee (f := 34) rfl ?_); refine goesL_ (some 37) rfl rfl Try.func34 (by kernel_rfl) rfl #[.string a0, .int .i64 t140] rfl (by (try simp only [List.map_toArray, List.map_cons, List.map_nil]); first | done | rfl | (simp only [List.length_drop, List.length_take]; rfl)) ?_; (with_reducible refine (lex_skip.calls k1 a0 t140 t147 _ A8.out).mono ?_); rintro e w' ⟨rfl, ⟨nd, rfl⟩⟩; refine ⟨_, rfl, ?_⟩))
              go_roundg k1
              case measure => have := HK1.out; omega
              case rel => exact ⟨(y144), (t147), (by first | rfl | (simp; done) | (simp [*]; done)), H', ⟨by have := HK1.out; omega⟩, ⟨by (with_reducible repeat (first | apply Kd.R_alloc | apply Kd.R_drewN | apply Kd.R_drew)); exact Kd.R_mono HO146.out (fun _ hk => trivial)⟩, ⟨by repeat (first | (with_reducible first | exact HB.out | apply below_alloc | apply pw_below_drewN | apply below_drew1 | refine below_set ?_ GE143.out) | exact HB.out)⟩⟩
            · rw [if_neg c7] at H
              exact absurd H (by simp)
          · rw [if_neg c6] at H
            have c6b0 : (t142 == 0) = false := beq_eq_false_iff_ne.mpr c6
            have c6b1 : (t142 != 0) = true := bne_iff_ne.mpr c6
            simp only [Option.some.injEq, Prod.mk.injEq] at H
            obtain ⟨rfl, rfl, rfl⟩ := H
            go_wp2_with (first | ((with_reducible refine gate_callee (f := 35) rfl ?_); refine goesL_ (some 22) rfl rfl Try.func35 (by kernel_rfl) rfl #[.string a0, .int .i64 x6_1] rfl (by (try simp only [List.map_toArray, List.map_cons, List.map_nil]); first | done | rfl | (simp only [List.length_drop, List.length_take]; rfl)) ?_; (with_reducible refine (lex_token.calls k1 a0 x6_1 t136 t137 t138 t139 t140 t141 t142 _ A5.out).mono ?_); rintro e w14 ⟨rfl, hb⟩; refine ⟨_, rfl, ?_⟩; have n0_ := Aside0.mk (Kd.R_below (by (with_reducible repeat (first | apply Kd.R_alloc | apply Kd.R_drewN | apply Kd.R_drew)); exact HO_5.out) hb); have n1_ := Aside0.mk (below_step (by repeat (first | (with_reducible first | exact HB.out | apply below_alloc | apply pw_below_drewN | apply below_drew1) | exact HB.out)) hb); clear HO_5; clear HB; have HO_5 := n0_; have HB := n1_; clear n0_ n1_; (try clear hb); (try clear hb2); (try clear hk); (try clear hi)) | ((with_reducible refine gate_dst (N := 7) rfl ?_); refine box_event ?hg (N := 7) ?hd (cs := #[.int .i64 0, .string (⟨#[]⟩ : ByteArray), .int .u64 0, .int .i64 0, .int .i64 0]) (t := 47) ?hr ?_; (case hd => rfl); (case hg => rfl); (case hr => first | (go_simp; done) | (go_simp; rfl)); intro gb143 hg w15 hbox hb; have n0_ := Aside0.mk (Kd.R_below (Kd.R_elderB (by (with_reducible repeat (first | apply Kd.R_alloc | apply Kd.R_drewN | apply Kd.R_drew)); exact HO_5.out) gb143 (Nat.le_of_eq hg.symm)) hb); have n1_ := Aside0.mk (below_step (by repeat (first | (with_reducible first | exact HB.out | apply below_alloc | apply pw_below_drewN | apply below_drew1) | exact HB.out)) hb); have n2_ := Aside0.mk (hbox); have n3_ := Aside0.mk ((by rw [hg]; exact (below_size (by repeat (first | (with_reducible first | exact HB.out | apply below_alloc | apply pw_below_drewN | apply below_drew1) | exact HB.out))) : w.heap.size ≤ gb143)); have n4_ := Aside0.mk ((by rw [hg]; exact (below_size (by repeat (first | (with_reducible first | exact HB.out | apply below_alloc | apply pw_below_drewN | apply below_drew1) | exact HB.out))) : w.heap.size ≤ gb143)); clear HO_5; clear HB; have HO_5 := n0_; have HB := n1_; have BK143 := n2_; have GW143 := n3_; have GE143 := n4_; clear n0_ n1_ n2_ n3_ n4_; clear hb hbox hg; have hcz16_0 : w15.cell? ⟨gb143, 0, none⟩ = some (.int .i64 0) := (blk_cell BK143.out 0).trans rfl; have hcz16_1 : w15.cell? ⟨gb143, 1, none⟩ = some (.string (⟨#[]⟩ : ByteArray)) := (blk_cell BK143.out 1).trans rfl; have hcz16_2 : w15.cell? ⟨gb143, 2, none⟩ = some (.int .u64 0) := (blk_cell BK143.out 2).trans rfl; have hcz16_3 : w15.cell? ⟨gb143, 3, none⟩ = some (.int .i64 0) := (blk_cell BK143.out 3).trans rfl; have hcz16_4 : w15.cell? ⟨gb143, 4, none⟩ = some (.int .i64 0) := (blk_cell BK143.out 4).trans rfl; have hfz16_0 := blk_frozen BK143.out 0; have hfz16_1 := blk_frozen BK143.out 1; have hfz16_2 := blk_frozen BK143.out 2; have hfz16_3 := blk_frozen BK143.out 3; have hfz16_4 := blk_frozen BK143.out 4))
            go_ret3
            exact ⟨_, by first | rfl | (simp [errW_none, errW_some] <;> rfl) | (simp [*, errW_none, errW_some] <;> rfl), by first | exact Kd.R_nil _ _ _ _ _ | exact Kd.N_nil _ _ _ _ _ | exact Kd.V_nil _ _ _ _ _ | exact Kd.Q_nil _ _ _ _ _ | exact Kd.S_nil _ _ _ _ _, by repeat (first | (with_reducible first | exact HB.out | apply below_alloc | apply pw_below_drewN | apply below_drew1 | refine below_set ?_ GE143.out) | exact HB.out)⟩
        · rw [if_neg c4] at H
          have c4b0 : decide (x6_1 < (a0.size : Int)) = false := decide_eq_false c4
          clear c4
          by_cases c17 : x5_1.length < 2932031007402
          · rw [if_pos c17] at H
            have LMc17 := Aside0.mk c17
            clear c17
            obtain ⟨y133, hy133⟩ : ∃ y_ : List (S47), y_ = (x5_1 ++ [(⟨0, (⟨#[]⟩ : ByteArray), 0, (a0.size : Int), (a0.size : Int)⟩ : S47)]) := ⟨_, rfl⟩
            replace H : (some (y133, 0, 0)) = some (r1, r2, r3) := by first | (rw [hy133]; with_reducible exact H) | (have H2_ := (Option.bind_some _ _).symm.trans H; rw [hy133]; with_reducible exact H2_) | (have H2_ := (Option.bind_some _ _).symm.trans H; with_reducible exact H2_) | with_reducible exact H | (rw [hy133]; exact H) | exact H
            have Ny133 := Aside0.mk hy133
            clear hy133
            simp only [Option.some.injEq, Prod.mk.injEq] at H
            obtain ⟨rfl, rfl, rfl⟩ := H
            go_wp2_with (first | ((with_reducible refine gate_builtin (b := .append) (xs := #[.tmp 38, .tmp 44]) rfl ?_); at_builtin; refine Kd.R_append k47 (w0 := w) w.heap.size rfl (.tmp 38) (.tmp 44) 37 47 (.agg #[(.int .i64 0), (.string ⟨#[]⟩), (.int .u64 0), (.int .i64 0), (.int .i64 0)]) 48 rfl Try.underlying37 info47 rfl (by decide) (by omega) u5 x5_1 (⟨0, (⟨#[]⟩ : ByteArray), 0, (a0.size : Int), (a0.size : Int)⟩ : S47) [.int .i64 0, .string (⟨#[]⟩ : ByteArray), .int .u64 0, .int .i64 (a0.size : Int), .int .i64 (a0.size : Int)] (fun _ => True) (fun _ => False) rfl rfl ?aP (fun _ hk => hk.elim) ?aF ?aO ?aB ?aS ?aL ?_; (case aP => exact k47_mkM _ _ _ (⟨0, (⟨#[]⟩ : ByteArray), 0, (a0.size : Int), (a0.size : Int)⟩ : S47)); (case aB => exact (by repeat (first | (with_reducible first | exact HB.out | apply below_alloc | apply pw_below_drewN | apply below_drew1) | exact HB.out))); (case aF => exact (fun _ _ => trivial)); (case aO => exact (by (with_reducible repeat (first | apply Kd.R_alloc | apply Kd.R_drewN | apply Kd.R_drew)); exact HO_5.out)); (case aS => exact (below_size (by repeat (first | (with_reducible first | exact HB.out | apply below_alloc | apply pw_below_drewN | apply below_drew1) | exact HB.out)))); (case aL => have := LMc17.out; omega); intro v134 w18 ho hb hg hat; rw [← Ny133.out] at ho; have n0_ := Aside0.mk (hb); have n1_ := Aside0.mk (ho); clear HB; clear HO_5; have HB := n0_; have HO135 := n1_; clear n0_ n1_; clear ho hb hg hat))
            go_ret3
            exact ⟨_, by first | rfl | (simp [errW_none, errW_some] <;> rfl) | (simp [*, errW_none, errW_some] <;> rfl), by (with_reducible repeat (first | apply Kd.R_alloc | apply Kd.R_drewN | apply Kd.R_drew)); exact HO135.out, by repeat (first | (with_reducible first | exact HB.out | apply below_alloc | apply pw_below_drewN | apply below_drew1) | exact HB.out)⟩
          · rw [if_neg c17] at H
            exact absurd H (by simp)
def stratumref08_Blank.f (a0 : Int) : Option (Bool) := if a0 = 32 then (some true) else (if a0 = 9 then (some true) else (if a0 = 10 then (some true) else (some (a0 == 13))))
set_option maxHeartbeats 8000000 in
set_option maxRecDepth 100000 in
theorem stratumref08_Blank.calls (a0 : Int) (r : Bool) (w : World) (h : stratumref08_Blank.f a0 = some r) :
    Calls Try.prog 63 #[.int .u8 a0] w fun e w' => e = .returned (.bool r) ∧ Drawn0 w w' := by
  have H : (if a0 = 32 then (some true) else (if a0 = 9 then (some true) else (if a0 = 10 then (some true) else (some (a0 == 13))))) = some r := h
  clear h
  by_cases c2 : a0 = 32
  · rw [if_pos c2] at H
    have c2b0 : (a0 == 32) = true := beq_iff_eq.mpr c2
    have c2b1 : (a0 != 32) = false := bne_eq_false_iff_eq.mpr c2
    clear c2
    obtain rfl := Option.some.inj H
    go_enter Try.func63, Try.ntmps63
    go_wp2
    go_ret
    exact ⟨by first | rfl | (simp; done) | (simp [*]; done), by repeat (first | exact Drawn0.refl _ | apply Drawn0.step)⟩
  · rw [if_neg c2] at H
    have c2b0 : (a0 == 32) = false := beq_eq_false_iff_ne.mpr c2
    have c2b1 : (a0 != 32) = true := bne_iff_ne.mpr c2
    by_cases c3 : a0 = 9
    · rw [if_pos c3] at H
      have c3b0 : (a0 == 9) = true := beq_iff_eq.mpr c3
      have c3b1 : (a0 != 9) = false := bne_eq_false_iff_eq.mpr c3
      clear c3
      obtain rfl := Option.some.inj H
      go_enter Try.func63, Try.ntmps63
      go_wp2
      go_ret
      exact ⟨by first | rfl | (simp; done) | (simp [*]; done), by repeat (first | exact Drawn0.refl _ | apply Drawn0.step)⟩
    · rw [if_neg c3] at H
      have c3b0 : (a0 == 9) = false := beq_eq_false_iff_ne.mpr c3
      have c3b1 : (a0 != 9) = true := bne_iff_ne.mpr c3
      by_cases c4 : a0 = 10
      · rw [if_pos c4] at H
        have c4b0 : (a0 == 10) = true := beq_iff_eq.mpr c4
        have c4b1 : (a0 != 10) = false := bne_eq_false_iff_eq.mpr c4
        clear c4
        obtain rfl := Option.some.inj H
        go_enter Try.func63, Try.ntmps63
        go_wp2
        go_ret
        exact ⟨by first | rfl | (simp; done) | (simp [*]; done), by repeat (first | exact Drawn0.refl _ | apply Drawn0.step)⟩
      · rw [if_neg c4] at H
        have c4b0 : (a0 == 10) = false := beq_eq_false_iff_ne.mpr c4
        have c4b1 : (a0 != 10) = true := bne_iff_ne.mpr c4
        obtain rfl := Option.some.inj H
        go_enter Try.func63, Try.ntmps63
        go_wp2
        go_ret
        exact ⟨by first | rfl | (simp; done) | (simp [*]; done), by repeat (first | exact Drawn0.refl _ | apply Drawn0.step)⟩
mutual
def stratumref08_skip.l0 : Nat → ByteArray → Int → Option (Int)
  | 0, _, _ => none
  | k + 1, x0, x1 => if x1 < (x0.size : Int) then (if 0 ≤ x1 then ((stratumref08_Blank.f (bt x0 x1)).bind fun t148 => (if t148 = true then (stratumref08_skip.l0 k x0 (wrap64 (x1 + 1))) else (if (bt x0 x1) = 35 then (stratumref08_skip.l1 k x0 x1) else (some x1)))) else (none)) else (some x1)
def stratumref08_skip.l1 : Nat → ByteArray → Int → Option (Int)
  | 0, _, _ => none
  | k + 1, x0, x1 => if x1 < (x0.size : Int) then (if 0 ≤ x1 then (if (bt x0 x1) = 10 then (stratumref08_skip.l0 k x0 x1) else (stratumref08_skip.l1 k x0 (wrap64 (x1 + 1)))) else (none)) else (stratumref08_skip.l0 k x0 x1)
end
def stratumref08_skip.f (k : Nat) (a0 : ByteArray) (a1 : Int) : Option (Int) := stratumref08_skip.l0 k a0 a1
theorem stratumref08_skip.mono_l : ∀ k, (∀ y0 y1, LeO (stratumref08_skip.l0 k y0 y1) (stratumref08_skip.l0 (k + 1) y0 y1)) ∧ (∀ y0 y1, LeO (stratumref08_skip.l1 k y0 y1) (stratumref08_skip.l1 (k + 1) y0 y1))
  | 0 => ⟨fun _ _ r h => by simp [stratumref08_skip.l0] at h, fun _ _ r h => by simp [stratumref08_skip.l1] at h⟩
  | k + 1 => by
    obtain ⟨ih0, ih1⟩ := stratumref08_skip.mono_l k
    refine ⟨?_, ?_⟩
    · intro y0 y1
      unfold stratumref08_skip.l0
      repeat' first
      | (with_reducible exact ih0 _ _)
      | (with_reducible exact ih1 _ _)
      | (with_reducible exact LeO.refl _)
      | (with_reducible exact LeO.none _)
      | (with_reducible refine LeO.ite ?_ ?_)
      | (with_reducible refine LeO.bind ?_ (fun _ => ?_))
      | exact ih0 _ _
      | exact ih1 _ _
      | exact LeO.none _
      | refine LeO.ite ?_ ?_
      | refine LeO.bind ?_ (fun _ => ?_)
    · intro y0 y1
      unfold stratumref08_skip.l1
      repeat' first
      | (with_reducible exact ih0 _ _)
      | (with_reducible exact ih1 _ _)
      | (with_reducible exact LeO.refl _)
      | (with_reducible exact LeO.none _)
      | (with_reducible refine LeO.ite ?_ ?_)
      | (with_reducible refine LeO.bind ?_ (fun _ => ?_))
      | exact ih0 _ _
      | exact ih1 _ _
      | exact LeO.none _
      | refine LeO.ite ?_ ?_
      | refine LeO.bind ?_ (fun _ => ?_)
theorem stratumref08_skip.mono : ∀ a0 a1 k, LeO (stratumref08_skip.f k a0 a1) (stratumref08_skip.f (k + 1) a0 a1) := by
  intro a0 a1 k
  obtain ⟨ih0, ih1⟩ := stratumref08_skip.mono_l k
  unfold stratumref08_skip.f
  repeat' first
      | (with_reducible exact ih0 _ _)
      | (with_reducible exact ih1 _ _)
      | (with_reducible exact LeO.refl _)
      | (with_reducible exact LeO.none _)
      | (with_reducible refine LeO.ite ?_ ?_)
      | (with_reducible refine LeO.bind ?_ (fun _ => ?_))
      | exact ih0 _ _
      | exact ih1 _ _
      | exact LeO.none _
      | refine LeO.ite ?_ ?_
      | refine LeO.bind ?_ (fun _ => ?_)
set_option maxHeartbeats 8000000 in
set_option maxRecDepth 100000 in
theorem stratumref08_skip.calls (k : Nat) (a0 : ByteArray) (a1 : Int) (r : Int) (w : World) (h : stratumref08_skip.f k a0 a1 = some r) :
    Calls Try.prog 41 #[.string a0, .int .i64 a1] w fun e w' => e = .returned (.int .i64 r) ∧ Drawn0 w w' := by
  have H : (stratumref08_skip.l0 k a0 a1) = some r := h
  clear h
  have H' := Aside0.mk H
  clear H
  go_enter Try.func41, Try.ntmps41
  go_wp2
  go_loopg [1] k (fun kq v1 w' => ∃ (x1_1 : Int), v1 = .int .i64 x1_1 ∧ Aside0 (stratumref08_skip.l0 kq a0 x1_1 = some r) ∧ Aside0 (kq ≤ k) ∧ Drawn0 w w')
  case atStart => exact ⟨(a1), (by first | rfl | (simp; done) | (simp [*]; done)), H', ⟨Nat.le_refl _⟩, by repeat (first | exact Drawn0.refl _ | apply Drawn0.step)⟩
  case round =>
    clear H'
    try clear p2
    obtain ⟨x1_1, rfl, HA, HK1, ⟨m1, rfl⟩⟩ := hrel
    cases gk with
    | zero => exact absurd HA.out (by simp [stratumref08_skip.l0])
    | succ k1 =>
      have H := HA.out
      clear HA
      simp only [stratumref08_skip.l0] at H
      by_cases c3 : x1_1 < (a0.size : Int)
      · rw [if_pos c3] at H
        have c3b0 : decide (x1_1 < (a0.size : Int)) = true := decide_eq_true c3
        clear c3
        by_cases c4 : 0 ≤ x1_1
        · rw [if_pos c4] at H
          have c4b0 : decide (0 ≤ x1_1) = true := decide_eq_true c4
          clear c4
          replace H := Option.bind_eq_some_iff.mp H
          obtain ⟨t148, A60, H⟩ := H
          replace H : (if t148 = true then (stratumref08_skip.l0 k1 a0 (wrap64 (x1_1 + 1))) else (if (bt a0 x1_1) = 35 then (stratumref08_skip.l1 k1 a0 x1_1) else (some x1_1))) = some r := H
          have A6 := Aside0.mk A60
          clear A60
          by_cases c7 : t148 = true
          · subst c7
            have H1 : (stratumref08_skip.l0 k1 a0 (wrap64 (x1_1 + 1))) = some r := by rw [if_pos rfl] at H; exact H
            clear H
            have H := H1
            clear H1
            have H' := Aside0.mk H
            clear H
            have p5 : 0 ≤ (x1_1 : Int) := of_decide_eq_true (by first | (with_reducible assumption) | assumption)
            have q5 : x1_1 < (a0.size : Int) := of_decide_eq_true (by first | (with_reducible assumption) | assumption)
            have hx5 := bt_at a0 x1_1
            replace p5 := eq_true p5
            replace q5 := eq_true q5
            go_wp2_with (first | ((with_reducible refine gate_callee (f := 63) rfl ?_); refine goesL_ (some 14) rfl rfl Try.func63 (by kernel_rfl) rfl #[.int .u8 (bt a0 x1_1)] rfl (by (try simp only [List.map_toArray, List.map_cons, List.map_nil]); first | done | rfl | (simp only [List.length_drop, List.length_take]; rfl)) ?_; (with_reducible refine (stratumref08_Blank.calls (bt a0 x1_1) true _ A6.out).mono ?_); rintro e w' ⟨rfl, ⟨nd, rfl⟩⟩; refine ⟨_, rfl, ?_⟩))
            go_roundg k1
            case measure => have := HK1.out; omega
            case rel => exact ⟨(wrap64 (x1_1 + 1)), (by first | rfl | (simp; done) | (simp [*]; done)), H', ⟨by have := HK1.out; omega⟩, by repeat (first | exact Drawn0.refl _ | apply Drawn0.step)⟩
          · replace c7 := Bool.eq_false_iff.mpr c7
            subst c7
            have H1 : (if (bt a0 x1_1) = 35 then (stratumref08_skip.l1 k1 a0 x1_1) else (some x1_1)) = some r := by rw [if_neg (show ¬ (false = true) by decide)] at H; exact H
            clear H
            have H := H1
            clear H1
            by_cases c9 : (bt a0 x1_1) = 35
            · rw [if_pos c9] at H
              have c9b0 : ((bt a0 x1_1) == 35) = true := beq_iff_eq.mpr c9
              have c9b1 : ((bt a0 x1_1) != 35) = false := bne_eq_false_iff_eq.mpr c9
              clear c9
              have H' := Aside0.mk H
              clear H
              have p5 : 0 ≤ (x1_1 : Int) := of_decide_eq_true (by first | (with_reducible assumption) | assumption)
              have q5 : x1_1 < (a0.size : Int) := of_decide_eq_true (by first | (with_reducible assumption) | assumption)
              have hx5 := bt_at a0 x1_1
              replace p5 := eq_true p5
              replace q5 := eq_true q5
              go_wp2_with (first | ((with_reducible refine gate_callee (f := 63) rfl ?_); refine goesL_ (some 14) rfl rfl Try.func63 (by kernel_rfl) rfl #[.int .u8 (bt a0 x1_1)] rfl (by (try simp only [List.map_toArray, List.map_cons, List.map_nil]); first | done | rfl | (simp only [List.length_drop, List.length_take]; rfl)) ?_; (with_reducible refine (stratumref08_Blank.calls (bt a0 x1_1) false _ A6.out).mono ?_); rintro e w' ⟨rfl, ⟨nd, rfl⟩⟩; refine ⟨_, rfl, ?_⟩; have p8 : 0 ≤ (x1_1 : Int) := of_decide_eq_true (by first | (with_reducible assumption) | assumption); have q8 : x1_1 < (a0.size : Int) := of_decide_eq_true (by first | (with_reducible assumption) | assumption); have hx8 := bt_at a0 x1_1; replace p8 := eq_true p8; replace q8 := eq_true q8))
              go_loopg [1] k1 (fun kq v1 w' => ∃ (x1_2 : Int), v1 = .int .i64 x1_2 ∧ Aside0 (stratumref08_skip.l1 kq a0 x1_2 = some r) ∧ Aside0 (kq ≤ k1) ∧ Drawn0 w w')
              case atStart => exact ⟨(x1_1), (by first | rfl | (simp; done) | (simp [*]; done)), H', ⟨Nat.le_refl _⟩, by repeat (first | exact Drawn0.refl _ | apply Drawn0.step)⟩
              case round =>
                clear H'
                try clear p2
                try clear c3
                try clear c3b0
                try clear c4
                try clear c4b0
                try clear p5
                try clear q5
                try clear hx5
                try clear c6
                try clear p6
                try clear c7
                try clear p8
                try clear q8
                try clear hx8
                try clear c9
                try clear c9b0
                try clear c9b1
                try clear p2
                try clear p5
                try clear p8
                try clear q5
                try clear q8
                obtain ⟨x1_2, rfl, HA, HK2, ⟨m2, rfl⟩⟩ := hrel
                cases gk with
                | zero => exact absurd HA.out (by simp [stratumref08_skip.l1])
                | succ k2 =>
                  have H := HA.out
                  clear HA
                  simp only [stratumref08_skip.l1] at H
                  by_cases c10 : x1_2 < (a0.size : Int)
                  · rw [if_pos c10] at H
                    have c10b0 : decide (x1_2 < (a0.size : Int)) = true := decide_eq_true c10
                    clear c10
                    by_cases c11 : 0 ≤ x1_2
                    · rw [if_pos c11] at H
                      have c11b0 : decide (0 ≤ x1_2) = true := decide_eq_true c11
                      clear c11
                      by_cases c13 : (bt a0 x1_2) = 10
                      · rw [if_pos c13] at H
                        have c13b0 : ((bt a0 x1_2) == 10) = true := beq_iff_eq.mpr c13
                        have c13b1 : ((bt a0 x1_2) != 10) = false := bne_eq_false_iff_eq.mpr c13
                        clear c13
                        have H' := Aside0.mk H
                        clear H
                        have p12 : 0 ≤ (x1_2 : Int) := of_decide_eq_true (by first | (with_reducible assumption) | assumption)
                        have q12 : x1_2 < (a0.size : Int) := of_decide_eq_true (by first | (with_reducible assumption) | assumption)
                        have hx12 := bt_at a0 x1_2
                        replace p12 := eq_true p12
                        replace q12 := eq_true q12
                        go_wp2
                        go_roundg k2
                        case measure => have := HK1.out; have := HK2.out; omega
                        case rel => exact ⟨(x1_2), (by first | rfl | (simp; done) | (simp [*]; done)), H', ⟨by have := HK1.out; have := HK2.out; omega⟩, by repeat (first | exact Drawn0.refl _ | apply Drawn0.step)⟩
                      · rw [if_neg c13] at H
                        have c13b0 : ((bt a0 x1_2) == 10) = false := beq_eq_false_iff_ne.mpr c13
                        have c13b1 : ((bt a0 x1_2) != 10) = true := bne_iff_ne.mpr c13
                        have H' := Aside0.mk H
                        clear H
                        have p12 : 0 ≤ (x1_2 : Int) := of_decide_eq_true (by first | (with_reducible assumption) | assumption)
                        have q12 : x1_2 < (a0.size : Int) := of_decide_eq_true (by first | (with_reducible assumption) | assumption)
                        have hx12 := bt_at a0 x1_2
                        replace p12 := eq_true p12
                        replace q12 := eq_true q12
                        go_wp2
                        go_roundg k2
                        case measure => have := HK1.out; have := HK2.out; omega
                        case rel => exact ⟨(wrap64 (x1_2 + 1)), (by first | rfl | (simp; done) | (simp [*]; done)), H', ⟨by have := HK1.out; have := HK2.out; omega⟩, by repeat (first | exact Drawn0.refl _ | apply Drawn0.step)⟩
                    · rw [if_neg c11] at H
                      exact absurd H (by simp)
                  · rw [if_neg c10] at H
                    have c10b0 : decide (x1_2 < (a0.size : Int)) = false := decide_eq_false c10
                    clear c10
                    have H' := Aside0.mk H
                    clear H
                    go_wp2
                    go_roundg k2
                    case measure => have := HK1.out; have := HK2.out; omega
                    case rel => exact ⟨(x1_2), (by first | rfl | (simp; done) | (simp [*]; done)), H', ⟨by have := HK1.out; have := HK2.out; omega⟩, by repeat (first | exact Drawn0.refl _ | apply Drawn0.step)⟩
            · rw [if_neg c9] at H
              have c9b0 : ((bt a0 x1_1) == 35) = false := beq_eq_false_iff_ne.mpr c9
              have c9b1 : ((bt a0 x1_1) != 35) = true := bne_iff_ne.mpr c9
              obtain rfl := Option.some.inj H
              have p5 : 0 ≤ (x1_1 : Int) := of_decide_eq_true (by first | (with_reducible assumption) | assumption)
              have q5 : x1_1 < (a0.size : Int) := of_decide_eq_true (by first | (with_reducible assumption) | assumption)
              have hx5 := bt_at a0 x1_1
              replace p5 := eq_true p5
              replace q5 := eq_true q5
              go_wp2_with (first | ((with_reducible refine gate_callee (f := 63) rfl ?_); refine goesL_ (some 14) rfl rfl Try.func63 (by kernel_rfl) rfl #[.int .u8 (bt a0 x1_1)] rfl (by (try simp only [List.map_toArray, List.map_cons, List.map_nil]); first | done | rfl | (simp only [List.length_drop, List.length_take]; rfl)) ?_; (with_reducible refine (stratumref08_Blank.calls (bt a0 x1_1) false _ A6.out).mono ?_); rintro e w' ⟨rfl, ⟨nd, rfl⟩⟩; refine ⟨_, rfl, ?_⟩; have p8 : 0 ≤ (x1_1 : Int) := of_decide_eq_true (by first | (with_reducible assumption) | assumption); have q8 : x1_1 < (a0.size : Int) := of_decide_eq_true (by first | (with_reducible assumption) | assumption); have hx8 := bt_at a0 x1_1; replace p8 := eq_true p8; replace q8 := eq_true q8))
              go_ret
              exact ⟨by first | rfl | (simp; done) | (simp [*]; done), by repeat (first | exact Drawn0.refl _ | apply Drawn0.step)⟩
        · rw [if_neg c4] at H
          exact absurd H (by simp)
      · rw [if_neg c3] at H
        have c3b0 : decide (x1_1 < (a0.size : Int)) = false := decide_eq_false c3
        clear c3
        obtain rfl := Option.some.inj H
        go_wp2
        go_ret
        exact ⟨by first | rfl | (simp; done) | (simp [*]; done), by repeat (first | exact Drawn0.refl _ | apply Drawn0.step)⟩
def stratumref08_letter.f (a0 : Int) : Option (Bool) := if a0 = 95 then (some true) else (if a0 ≥ 97 then (if a0 ≤ 122 then (some true) else (if a0 ≥ 65 then (some (decide (a0 ≤ 90))) else (some false))) else (if a0 ≥ 65 then (some (decide (a0 ≤ 90))) else (some false)))
set_option maxHeartbeats 8000000 in
set_option maxRecDepth 100000 in
theorem stratumref08_letter.calls (a0 : Int) (r : Bool) (w : World) (h : stratumref08_letter.f a0 = some r) :
    Calls Try.prog 64 #[.int .u8 a0] w fun e w' => e = .returned (.bool r) ∧ Drawn0 w w' := by
  have H : (if a0 = 95 then (some true) else (if a0 ≥ 97 then (if a0 ≤ 122 then (some true) else (if a0 ≥ 65 then (some (decide (a0 ≤ 90))) else (some false))) else (if a0 ≥ 65 then (some (decide (a0 ≤ 90))) else (some false)))) = some r := h
  clear h
  by_cases c2 : a0 = 95
  · rw [if_pos c2] at H
    have c2b0 : (a0 == 95) = true := beq_iff_eq.mpr c2
    have c2b1 : (a0 != 95) = false := bne_eq_false_iff_eq.mpr c2
    clear c2
    obtain rfl := Option.some.inj H
    go_enter Try.func64, Try.ntmps64
    go_wp2
    go_ret
    exact ⟨by first | rfl | (simp; done) | (simp [*]; done), by repeat (first | exact Drawn0.refl _ | apply Drawn0.step)⟩
  · rw [if_neg c2] at H
    have c2b0 : (a0 == 95) = false := beq_eq_false_iff_ne.mpr c2
    have c2b1 : (a0 != 95) = true := bne_iff_ne.mpr c2
    by_cases c3 : a0 ≥ 97
    · rw [if_pos c3] at H
      have c3b0 : decide (97 ≤ a0) = true := decide_eq_true c3
      clear c3
      by_cases c4 : a0 ≤ 122
      · rw [if_pos c4] at H
        have c4b0 : decide (a0 ≤ 122) = true := decide_eq_true c4
        clear c4
        obtain rfl := Option.some.inj H
        go_enter Try.func64, Try.ntmps64
        go_wp2
        go_ret
        exact ⟨by first | rfl | (simp; done) | (simp [*]; done), by repeat (first | exact Drawn0.refl _ | apply Drawn0.step)⟩
      · rw [if_neg c4] at H
        have c4b0 : decide (a0 ≤ 122) = false := decide_eq_false c4
        clear c4
        by_cases c5 : a0 ≥ 65
        · rw [if_pos c5] at H
          have c5b0 : decide (65 ≤ a0) = true := decide_eq_true c5
          clear c5
          obtain rfl := Option.some.inj H
          go_enter Try.func64, Try.ntmps64
          go_wp2
          go_ret
          exact ⟨by first | rfl | (simp; done) | (simp [*]; done), by repeat (first | exact Drawn0.refl _ | apply Drawn0.step)⟩
        · rw [if_neg c5] at H
          have c5b0 : decide (65 ≤ a0) = false := decide_eq_false c5
          clear c5
          obtain rfl := Option.some.inj H
          go_enter Try.func64, Try.ntmps64
          go_wp2
          go_ret
          exact ⟨by first | rfl | (simp; done) | (simp [*]; done), by repeat (first | exact Drawn0.refl _ | apply Drawn0.step)⟩
    · rw [if_neg c3] at H
      have c3b0 : decide (97 ≤ a0) = false := decide_eq_false c3
      clear c3
      by_cases c6 : a0 ≥ 65
      · rw [if_pos c6] at H
        have c6b0 : decide (65 ≤ a0) = true := decide_eq_true c6
        clear c6
        obtain rfl := Option.some.inj H
        go_enter Try.func64, Try.ntmps64
        go_wp2
        go_ret
        exact ⟨by first | rfl | (simp; done) | (simp [*]; done), by repeat (first | exact Drawn0.refl _ | apply Drawn0.step)⟩
      · rw [if_neg c6] at H
        have c6b0 : decide (65 ≤ a0) = false := decide_eq_false c6
        clear c6
        obtain rfl := Option.some.inj H
        go_enter Try.func64, Try.ntmps64
        go_wp2
        go_ret
        exact ⟨by first | rfl | (simp; done) | (simp [*]; done), by repeat (first | exact Drawn0.refl _ | apply Drawn0.step)⟩
end Go.Proofs.Ytbdcndkafaajpaa.X
end
section
set_option linter.unusedVariables false
set_option linter.unusedSimpArgs false
namespace Go.Proofs.Ytbdcndkafaajpaa.T
open Go.RowKit Go.Proofs.Ytbdcndkafaajpaa Go.Proofs.Ytbdcndkafaajpaa.X Go.Proofs.Ytbdcndkafaajpaa.L Go.Proofs.YtbdcndkafaajpaaW.PrintWords Go.Proofs.YtbdcndkafaajpaaW.PrintLast Go.Proofs.YtbdcndkafaajpaaW.PrintMore
theorem size_len (s : ByteArray) : s.size = s.data.toList.length := (data_length s).symm
theorem ext_list (s : ByteArray) (i j : Nat) : (s.extract i j).data.toList = (s.data.toList.drop i).take (j - i) := by
  rw [ByteArray.data_extract, Array.toList_extract, List.extract_eq_take_drop]
def ba (l : List UInt8) : ByteArray := ⟨l.toArray⟩
theorem ba_list (l : List UInt8) : (ba l).data.toList = l := rfl
theorem ba_of (s : ByteArray) : ba s.data.toList = s := rfl
theorem ba_eq {s : ByteArray} {l : List UInt8} (h : s.data.toList = l) : s = ba l := by rw [← h, ba_of]
theorem ba_ext (s : ByteArray) (i j : Nat) : s.extract i j = ba ((s.data.toList.drop i).take (j - i)) := ba_eq (ext_list s i j)
theorem w64s {x : Int} (h0 : -4611686018427387904 ≤ x) (h1 : x ≤ 4611686018427387904) : wrap64 x = x := by unfold wrap64; omega
theorem w1 {i : Nat} (n : Nat) (h : i + n ≤ 4611686018427387904) : wrap64 ((i : Int) + (n : Int)) = ((i + n : Nat) : Int) := by
  rw [w64s (by omega) (by omega)]; rfl
theorem drop_len {s : ByteArray} {i : Nat} {l : List UInt8} (h : s.data.toList.drop i = l) (hi : i ≤ s.size) : s.size = i + l.length := by
  rw [← h, List.length_drop, ← size_len]; omega
theorem drop_next {s : ByteArray} {i : Nat} {b : UInt8} {t : List UInt8} (h : s.data.toList.drop i = b :: t) : s.data.toList.drop (i + 1) = t := by
  rw [← List.drop_drop, h]; rfl
theorem drop_lt {s : ByteArray} {i : Nat} {b : UInt8} {t : List UInt8} (h : s.data.toList.drop i = b :: t) : i < s.size := by
  rw [size_len]
  have := congrArg List.length h
  rw [List.length_drop, List.length_cons] at this; omega
theorem bt_drop {s : ByteArray} {i : Nat} {b : UInt8} {t : List UInt8} (h : s.data.toList.drop i = b :: t) : bt s (i : Int) = (b.toNat : Int) := by
  have hi := drop_lt h
  have h2 : i < s.data.toList.length := by rw [← size_len]; exact hi
  have e := List.drop_eq_getElem_cons h2
  rw [h] at e
  injection e with e1 e2
  unfold bt
  rw [dif_pos (show ((i : Int)).toNat < s.size by rw [Int.toNat_natCast]; exact hi), e1]
  congr 2
theorem indexByte_cons (b : UInt8) (l : List UInt8) (c : UInt8) : Lib.indexByte (b :: l) c = if b == c then 0 else if Lib.indexByte l c == -1 then -1 else Lib.indexByte l c + 1 := rfl
theorem nl_sk (l : List UInt8) : (Lib.indexByte l 10 = -1 ∧ sk true l = l.length) ∨ ∃ n : Nat, Lib.indexByte l 10 = (n : Int) ∧ n < l.length ∧ sk true l = n + sk false (l.drop n) ∧ (l.drop n).head? = some 10 := by
  induction l with
  | nil => exact .inl ⟨rfl, rfl⟩
  | cons b t ih =>
    rw [indexByte_cons]
    by_cases hb : b = 10
    · subst hb
      exact .inr ⟨0, rfl, by simp, by rw [sk, List.drop_zero, sk, if_pos (by decide)]; show sk false t + 1 = 0 + (sk false t + 1); omega, rfl⟩
    · have h1 : (b == 10) = false := by simpa using hb
      have h2 : (b.toNat != 10) = true := by
        rw [bne_iff_ne]; intro h; exact hb (UInt8.toNat_inj.1 h)
      rw [h1, sk, h2]
      rcases ih with ⟨i1, i2⟩ | ⟨n, i1, i2, i3, i4⟩
      · exact .inl ⟨by rw [i1]; rfl, by rw [i2]; rfl⟩
      · refine .inr ⟨n + 1, ?_, by simp only [List.length_cons]; omega, by rw [i3, List.drop_succ_cons]; omega, by rw [List.drop_succ_cons]; exact i4⟩
        rw [i1]
        rw [if_neg (by decide), if_neg (by rw [beq_iff_eq]; omega)]
        rfl
theorem skip_ev (s : ByteArray) (hs : s.size ≤ 70368744177664) : ∀ (d i : Nat), s.size - i ≤ d → i ≤ s.size → Ev (fun k => lex_skip.l0 k s (i : Int)) ((i + sk false (s.data.toList.drop i) : Nat) : Int) := by
  intro d
  induction d with
  | zero =>
    intro i hd hi
    obtain rfl : i = s.size := by omega
    refine Ev.step (fun k => by simp only [lex_skip.l0]; rfl) ?_
    have e : s.data.toList.drop s.size = [] := List.drop_of_length_le (by rw [← size_len]; omega)
    simp only [Int.lt_irrefl, if_false, e, sk, Nat.add_zero]
    exact Ev.now _
  | succ d ih =>
    intro i hd hi
    cases hl : s.data.toList.drop i with
    | nil =>
      have := drop_len hl hi
      simp only [List.length_nil] at this
      have := ih i (by omega) hi
      rw [hl] at this; exact this
    | cons b t =>
      have hlt := drop_lt hl
      have hbt := bt_drop hl
      have hnx := drop_next hl
      have ihn := ih (i + 1) (by omega) (by omega)
      rw [hnx] at ihn
      have W : wrap64 ((i : Int) + 1) = ((i + 1 : Nat) : Int) := w1 1 (by omega)
      refine Ev.step (fun k => by simp only [lex_skip.l0]; rfl) ?_
      simp only [if_pos (show (i : Int) < (s.size : Int) by omega), if_pos (show (0 : Int) ≤ (i : Int) by omega), hbt]
      have hj : L.blank b = true → Ev (fun k => lex_skip.j1 k s (i : Int) (b.toNat : Int) true) ((i + sk false (b :: t) : Nat) : Int) := by
        intro hb
        refine Ev.step (fun k => by simp only [lex_skip.j1]; rfl) ?_
        simp only [if_true, W]
        rw [sk, if_pos hb, show i + (sk false t + 1) = i + 1 + sk false t by omega]
        exact ihn
      by_cases h1 : b.toNat = 32
      · simp only [if_pos (show (b.toNat : Int) = 32 by omega), show ((b.toNat : Int) == 32) = true by rw [beq_iff_eq]; omega]; exact hj (by unfold L.blank; rw [h1]; rfl)
      by_cases h2 : b.toNat = 9
      · simp only [if_neg (show ¬ (b.toNat : Int) = 32 by omega), if_pos (show (b.toNat : Int) = 9 by omega), show ((b.toNat : Int) == 9) = true by rw [beq_iff_eq]; omega]; exact hj (by unfold L.blank; rw [h2]; rfl)
      by_cases h3 : b.toNat = 10
      · simp only [if_neg (show ¬ (b.toNat : Int) = 32 by omega), if_neg (show ¬ (b.toNat : Int) = 9 by omega), if_pos (show (b.toNat : Int) = 10 by omega), show ((b.toNat : Int) == 10) = true by rw [beq_iff_eq]; omega]; exact hj (by unfold L.blank; rw [h3]; rfl)
      by_cases h4 : b.toNat = 13
      · simp only [if_neg (show ¬ (b.toNat : Int) = 32 by omega), if_neg (show ¬ (b.toNat : Int) = 9 by omega), if_neg (show ¬ (b.toNat : Int) = 10 by omega), show ((b.toNat : Int) == 13) = true by rw [beq_iff_eq]; omega]; exact hj (by unfold L.blank; rw [h4]; rfl)
      rw [show ((b.toNat : Int) == 13) = false by rw [beq_eq_false_iff_ne]; omega]
      simp only [if_neg (show ¬ (b.toNat : Int) = 32 by omega), if_neg (show ¬ (b.toNat : Int) = 9 by omega), if_neg (show ¬ (b.toNat : Int) = 10 by omega)]
      have hnb : L.blank b = false := decide_eq_false (by omega)
      refine Ev.step (fun k => by simp only [lex_skip.j1]; rfl) ?_
      rw [sk, hnb]
      simp only [Bool.false_eq_true, if_false]
      by_cases h5 : b.toNat = 35
      · have hix : strings_IndexByte.f (s.extract ((i : Int)).toNat s.size) 10 = some (Lib.indexByte (b :: t) 10) := by
          unfold strings_IndexByte.f
          rw [ext_list, Int.toNat_natCast, hl, List.take_of_length_le (by have := drop_len hl hi; omega)]
          rfl
        have hb10 : (b == 10) = false := by
          rw [beq_eq_false_iff_ne]; intro h; rw [h] at h5; exact absurd h5 (by decide)
        rw [if_pos h5]
        simp only [if_pos (show (b.toNat : Int) = 35 by omega), if_pos (show (0 : Int) ≤ (i : Int) by omega), if_pos (show (i : Int) ≤ (s.size : Int) by omega), hix, Option.bind_some]
        rw [indexByte_cons, hb10]
        have hsz := drop_len hl hi
        rw [List.length_cons] at hsz
        rcases nl_sk t with ⟨i1, i2⟩ | ⟨n, i1, i2, i3, i4⟩
        · rw [i1, i2]
          simp only [if_pos (show ((-1 : Int)) < 0 by omega), beq_self_eq_true, if_true, Bool.false_eq_true, if_false]
          rw [show ((i + (t.length + 1) : Nat) : Int) = (s.size : Int) by omega]
          exact Ev.now _
        · have hne : ((n : Int) == -1) = false := by rw [beq_eq_false_iff_ne]; omega
          have W2 : wrap64 ((i : Int) + ((n : Int) + 1)) = ((i + (n + 1) : Nat) : Int) := by rw [w64s (by omega) (by omega)]; rfl
          have ih2 := ih (i + (n + 1)) (by omega) (by omega)
          rw [show s.data.toList.drop (i + (n + 1)) = t.drop n by rw [show i + (n + 1) = i + 1 + n by omega, ← List.drop_drop, hnx]] at ih2
          rw [i1, i3]
          simp only [hne, Bool.false_eq_true, if_false, if_neg (show ¬ ((n : Int) + 1) < 0 by omega), W2]
          rw [show i + (n + sk false (t.drop n) + 1) = i + (n + 1) + sk false (t.drop n) by omega]
          exact ih2
      · rw [if_neg h5]
        simp only [if_neg (show ¬ (b.toNat : Int) = 35 by omega), Nat.add_zero]
        exact Ev.now _
def hexI (b : UInt8) : Int := match hexv b with | some n => (n : Int) | none => -1
theorem isD_eq (b : UInt8) : lex_isDigit.f (b.toNat : Int) = some (isD b) := by
  unfold lex_isDigit.f isD G.dig
  by_cases h : (b.toNat : Int) ≥ 48
  · rw [if_pos h]; congr 2; simp; omega
  · rw [if_neg h]; congr 1; symm; apply decide_eq_false; omega
theorem isL_eq (b : UInt8) : lex_isLetter.f (b.toNat : Int) = some (isL b) := by
  unfold lex_isLetter.f isL G.letr
  have e : ∀ x : Bool, (x = true ↔ ((97 ≤ (b.toNat : Int) ∧ (b.toNat : Int) ≤ 122) ∨ (65 ≤ (b.toNat : Int) ∧ (b.toNat : Int) ≤ 90) ∨ (b.toNat : Int) = 95)) → some x = some (decide ((97 ≤ (b.toNat : Int) ∧ (b.toNat : Int) ≤ 122) ∨ (65 ≤ (b.toNat : Int) ∧ (b.toNat : Int) ≤ 90) ∨ (b.toNat : Int) = 95)) := fun x h => by rw [Option.some.injEq, Bool.eq_iff_iff, decide_eq_true_iff]; exact h
  repeat' split
  all_goals refine e _ ?_
  all_goals first | (simp only [true_iff]; omega) | (rw [beq_iff_eq]; omega)
theorem isD_iff (b : UInt8) : isD b = true ↔ (48 ≤ b.toNat ∧ b.toNat ≤ 57) := by
  unfold isD G.dig; rw [decide_eq_true_iff]; omega
theorem isD_not {b : UInt8} (h : ¬ (48 ≤ b.toNat ∧ b.toNat ≤ 57)) : isD b = false := by
  rw [← Bool.not_eq_true, isD_iff]; exact h
theorem hex_ev (b : UInt8) : Ev (fun k => lex_hex.f k (b.toNat : Int)) (hexI b) := by
  unfold lex_hex.f hexI hexv
  simp only [isD_eq, Option.bind_some]
  by_cases h1 : 48 ≤ b.toNat ∧ b.toNat ≤ 57
  · simp only [(isD_iff b).2 h1, if_true, if_pos h1]
    rw [show (((b.toNat : Int) - 48) % 256) = ((b.toNat - 48 : Nat) : Int) by omega]
    exact Ev.now _
  · simp only [isD_not h1, Bool.false_eq_true, if_false, if_neg h1]
    by_cases h2 : 97 ≤ b.toNat ∧ b.toNat ≤ 102
    · simp only [if_pos h2, if_pos (show (b.toNat : Int) ≥ 97 by omega)]
      refine Ev.step (fun k => by simp only [lex_hex.j0]; rfl) ?_
      simp only [decide_eq_true (show (b.toNat : Int) ≤ 102 by omega), if_true]
      rw [show (((b.toNat : Int) - 97) % 256) + 10 = ((b.toNat - 87 : Nat) : Int) by omega]
      exact Ev.now _
    · simp only [if_neg h2]
      have key : Ev (fun k => lex_hex.j0 k (b.toNat : Int) false) (match (if 65 ≤ b.toNat ∧ b.toNat ≤ 70 then some (b.toNat - 55) else none : Option Nat) with | some n => (n : Int) | none => -1) := by
        refine Ev.step (fun k => by simp only [lex_hex.j0]; rfl) ?_
        simp only [Bool.false_eq_true, if_false]
        by_cases h3 : 65 ≤ b.toNat
        · simp only [if_pos (show (b.toNat : Int) ≥ 65 by omega)]
          by_cases h4 : b.toNat ≤ 70
          · simp only [if_pos (show (b.toNat : Int) ≤ 70 by omega), if_pos (And.intro h3 h4)]
            rw [show (((b.toNat : Int) - 65) % 256) + 10 = ((b.toNat - 55 : Nat) : Int) by omega]
            exact Ev.now _
          · simp only [if_neg (show ¬ (b.toNat : Int) ≤ 70 by omega), if_neg (show ¬ (65 ≤ b.toNat ∧ b.toNat ≤ 70) by omega)]
            exact Ev.now _
        · simp only [if_neg (show ¬ (b.toNat : Int) ≥ 65 by omega), if_neg (show ¬ (65 ≤ b.toNat ∧ b.toNat ≤ 70) by omega)]
          exact Ev.now _
      by_cases h5 : (b.toNat : Int) ≥ 97
      · simp only [if_pos h5, decide_eq_false (show ¬ (b.toNat : Int) ≤ 102 by omega)]; exact key
      · simp only [if_neg h5]; exact key
theorem hexv_lt {b : UInt8} {x : Nat} (h : hexv b = some x) : x < 16 := by
  unfold hexv at h
  split at h
  · cases h; omega
  split at h
  · cases h; omega
  split at h
  · cases h; omega
  · cases h
theorem u8_nat {n : Nat} (h : n < 256) : ((n.toUInt8).toNat : Int) = (n : Int) := by
  rw [show n.toUInt8 = UInt8.ofNat n from rfl, UInt8.toNat_ofNat']; omega
def escOut (p : Nat) (t : List UInt8) : Int × Int := match esc t with | some (c, n) => ((c.toNat : Int), ((p + 1 + n : Nat) : Int)) | none => (0, 0)
theorem escape_ev (s : ByteArray) (hs : s.size ≤ 70368744177664) (p : Nat) (b : UInt8) (t : List UInt8) (hp : s.data.toList.drop p = b :: t) : Ev (fun k => lex_escape.f k s (p : Int)) (escOut p t) := by
  have hlt := drop_lt hp
  have hn1 := drop_next hp
  have hsz := drop_len hp (by omega)
  rw [List.length_cons] at hsz
  have W1 : wrap64 ((p : Int) + 1) = ((p + 1 : Nat) : Int) := w1 1 (by omega)
  have W2 : wrap64 ((p : Int) + 2) = ((p + 2 : Nat) : Int) := w1 2 (by omega)
  have W3 : wrap64 ((p : Int) + 3) = ((p + 3 : Nat) : Int) := w1 3 (by omega)
  have W4 : wrap64 ((p : Int) + 4) = ((p + 4 : Nat) : Int) := w1 4 (by omega)
  unfold lex_escape.f escOut
  simp only [W1]
  cases t with
  | nil =>
    simp only [List.length_nil] at hsz
    simp only [if_pos (show ((p + 1 : Nat) : Int) ≥ (s.size : Int) by omega), esc]
    exact Ev.now _
  | cons c t =>
    have hb1 := bt_drop hn1
    have hn2 := drop_next hn1
    simp only [List.length_cons] at hsz
    simp only [if_neg (show ¬ ((p + 1 : Nat) : Int) ≥ (s.size : Int) by omega), if_pos (show (0 : Int) ≤ ((p + 1 : Nat) : Int) by omega), if_pos (show ((p + 1 : Nat) : Int) < (s.size : Int) by omega), hb1, esc]
    by_cases h1 : c.toNat = 92 ∨ c.toNat = 34
    · have key : Ev (fun k => lex_escape.j0 k s (p : Int) (c.toNat : Int) true) ((c.toNat : Int), ((p + 1 + 1 : Nat) : Int)) := by
        refine Ev.step (fun k => by simp only [lex_escape.j0]; rfl) ?_
        simp only [if_true, W1, W2, if_pos (show (0 : Int) ≤ ((p + 1 : Nat) : Int) by omega), if_pos (show ((p + 1 : Nat) : Int) < (s.size : Int) by omega), hb1]
        exact Ev.now _
      simp only [if_pos h1]
      by_cases h2 : c.toNat = 92
      · simp only [if_pos (show (c.toNat : Int) = 92 by omega), show ((c.toNat : Int) == 92) = true by rw [beq_iff_eq]; omega]; exact key
      · simp only [if_neg (show ¬ (c.toNat : Int) = 92 by omega), show ((c.toNat : Int) == 34) = true by rw [beq_iff_eq]; omega]; exact key
    · have h92 : ¬ (c.toNat : Int) = 92 := by omega
      have h34 : ((c.toNat : Int) == 34) = false := by rw [beq_eq_false_iff_ne]; omega
      simp only [if_neg h1, if_neg h92, h34]
      refine Ev.step (fun k => by simp only [lex_escape.j0]; rfl) ?_
      simp only [Bool.false_eq_true, if_false, W2, W3]
      by_cases h2 : c.toNat = 110
      · simp only [if_pos h2, if_pos (show (c.toNat : Int) = 110 by omega)]; exact Ev.now _
      simp only [if_neg h2, if_neg (show ¬ (c.toNat : Int) = 110 by omega)]
      by_cases h3 : c.toNat = 116
      · simp only [if_pos h3, if_pos (show (c.toNat : Int) = 116 by omega)]; exact Ev.now _
      simp only [if_neg h3, if_neg (show ¬ (c.toNat : Int) = 116 by omega)]
      by_cases h4 : c.toNat = 120
      · simp only [if_pos h4, if_pos (show (c.toNat : Int) = 120 by omega)]
        have jF : Ev (fun k => lex_escape.j1 k s (p : Int) false) ((0 : Int), (0 : Int)) := by
          refine Ev.step (fun k => by simp only [lex_escape.j1]; rfl) ?_
          simp only [Bool.false_eq_true, if_false]; exact Ev.now _
        match t, hn2, hsz with
        | [], _, hsz =>
          simp only [List.length_nil] at hsz
          simp only [if_neg (show ¬ ((p + 3 : Nat) : Int) < (s.size : Int) by omega), escx]; exact jF
        | [a], _, hsz =>
          simp only [List.length_nil, List.length_cons] at hsz
          simp only [if_neg (show ¬ ((p + 3 : Nat) : Int) < (s.size : Int) by omega), escx]; exact jF
        | a :: e :: t', hn2, hsz =>
          simp only [List.length_cons] at hsz
          have hba := bt_drop hn2
          have hbe := bt_drop (drop_next hn2)
          simp only [if_pos (show ((p + 3 : Nat) : Int) < (s.size : Int) by omega), if_pos (show (0 : Int) ≤ ((p + 2 : Nat) : Int) by omega), if_pos (show ((p + 2 : Nat) : Int) < (s.size : Int) by omega), if_pos (show (0 : Int) ≤ ((p + 3 : Nat) : Int) by omega), escx]
          rw [show bt s ((p + 2 : Nat) : Int) = (a.toNat : Int) from hba, show bt s ((p + 3 : Nat) : Int) = (e.toNat : Int) from hbe]
          refine Ev.bind (hex_ev a) ?_
          have hea := hex_ev a
          have hee := hex_ev e
          unfold hexI at hea hee ⊢
          cases hx : hexv a with
          | none =>
            simp only [if_neg (show ¬ ((-1 : Int)) ≥ 0 by omega)]
            exact jF
          | some x =>
            simp only [if_pos (show (x : Int) ≥ 0 by omega)]
            rw [hx] at hea; simp only at hea
            refine Ev.bind hee ?_
            cases hy : hexv e with
            | none =>
              simp only [decide_eq_false (show ¬ ((-1 : Int)) ≥ 0 by omega)]
              exact jF
            | some y =>
              rw [hy] at hee; simp only at hee
              have lx := hexv_lt hx
              have ly := hexv_lt hy
              simp only [decide_eq_true (show (y : Int) ≥ 0 by omega)]
              refine Ev.step (fun k => by simp only [lex_escape.j1]; rfl) ?_
              simp only [if_true, W2, W3, W4, if_pos (show ((p + 3 : Nat) : Int) < (s.size : Int) by omega), if_pos (show (0 : Int) ≤ ((p + 2 : Nat) : Int) by omega), if_pos (show ((p + 2 : Nat) : Int) < (s.size : Int) by omega), if_pos (show (0 : Int) ≤ ((p + 3 : Nat) : Int) by omega)]
              rw [show bt s ((p + 2 : Nat) : Int) = (a.toNat : Int) from hba, show bt s ((p + 3 : Nat) : Int) = (e.toNat : Int) from hbe]
              refine Ev.bind hea ?_
              refine Ev.bind hee ?_
              rw [w64s (x := 16 * (x : Int)) (by omega) (by omega), w64s (x := 16 * (x : Int) + (y : Int)) (by omega) (by omega), u8_nat (show 16 * x + y < 256 by omega),
                show (16 * (x : Int) + (y : Int)) % 256 = ((16 * x + y : Nat) : Int) by omega]
              exact Ev.now _
      · simp only [if_neg h4, if_neg (show ¬ (c.toNat : Int) = 120 by omega)]; exact Ev.now _
def nums (l : List UInt8) : List Int := l.map fun b => (b.toNat : Int)
theorem nums_snoc (l : List UInt8) (b : UInt8) : nums l ++ [(b.toNat : Int)] = nums (l ++ [b]) := by unfold nums; simp
theorem nums_len (l : List UInt8) : (nums l).length = l.length := by unfold nums; simp
theorem strOf (l : List UInt8) : strOfNums (nums l) = ba l := by
  unfold strOfNums nums ba
  rw [List.map_map]
  congr 2
  conv => rhs; rw [← List.map_id l]
  apply List.map_congr_left
  intro b hb
  simp
def TokOut (i : Nat) : R → Int × ByteArray × Int × Int × Int × Int × Int → Prop
  | .ok t, p => p = ((t.kind : Int), ba t.text, (t.num : Int), (i : Int), ((i + t.len : Nat) : Int), 0, 0)
  | .bad a e, p => p.2.2.2.2.2.1 = ((i + a : Nat) : Int) ∧ p.2.2.2.2.2.2 = (e : Int) ∧ e ≠ 0
theorem text_ev (s : ByteArray) (hs : s.size ≤ 70368744177664) (i : Nat) : ∀ (d off : Nat) (acc : List UInt8), s.size - (i + off) ≤ d → i + off ≤ s.size → acc.length ≤ off →
    ∃ p, Ev (fun k => lex_text.l0 k s (i : Int) (nums acc) ((i + off : Nat) : Int)) p ∧ TokOut i (tx off acc (s.data.toList.drop (i + off))) p := by
  have bad : ∀ (off : Nat) (acc : List UInt8), Ev (fun k => lex_text.j1 k s (i : Int) (nums acc) ((i + off : Nat) : Int) false) ((0 : Int), (⟨#[]⟩ : ByteArray), (0 : Int), (0 : Int), (0 : Int), (i : Int), (81 : Int)) := by
    intro off acc
    refine Ev.step (fun k => by simp only [lex_text.j1]; rfl) ?_
    simp only [Bool.false_eq_true, if_false]; exact Ev.now _
  intro d
  induction d with
  | zero =>
    intro off acc hd hi ha
    have e : s.data.toList.drop (i + off) = [] := List.drop_of_length_le (by rw [← size_len]; omega)
    refine ⟨((0 : Int), (⟨#[]⟩ : ByteArray), (0 : Int), (0 : Int), (0 : Int), (i : Int), (81 : Int)), Ev.step (fun k => by simp only [lex_text.l0]; rfl) ?_, ?_⟩
    · simp only [if_neg (show ¬ ((i + off : Nat) : Int) < (s.size : Int) by omega)]; exact bad off acc
    · rw [e, tx]; exact ⟨by simp, rfl, by decide⟩
  | succ d ih =>
    intro off acc hd hi ha
    cases hl : s.data.toList.drop (i + off) with
    | nil =>
      have := drop_len hl hi
      simp only [List.length_nil] at this
      have := ih off acc (by omega) hi ha
      rw [hl] at this; exact this
    | cons b t =>
      have hlt := drop_lt hl
      have hbt := bt_drop hl
      have hnx := drop_next hl
      have hsz := drop_len hl hi
      rw [List.length_cons] at hsz
      rw [tx]
      by_cases h1 : b.toNat = 10
      · rw [if_pos h1]
        refine ⟨((0 : Int), (⟨#[]⟩ : ByteArray), (0 : Int), (0 : Int), (0 : Int), (i : Int), (81 : Int)), Ev.step (fun k => by simp only [lex_text.l0]; rfl) ?_, ?_⟩
        · simp only [if_pos (show ((i + off : Nat) : Int) < (s.size : Int) by omega), if_pos (show (0 : Int) ≤ ((i + off : Nat) : Int) by omega), hbt, show ((b.toNat : Int) != 10) = false by rw [bne_eq_false_iff_eq]; omega]; exact bad off acc
        · exact ⟨by simp, rfl, by decide⟩
      rw [if_neg h1]
      have st : ∀ p, Ev (fun k => if (b.toNat : Int) = 34 then some ((3 : Int), strOfNums (nums acc), (0 : Int), (i : Int), wrap64 (((i + off : Nat) : Int) + 1), (0 : Int), (0 : Int))
          else if (b.toNat : Int) = 92 then (lex_escape.f k s ((i + off : Nat) : Int)).bind fun bt108 => if bt108.2 = 0 then some ((0 : Int), (⟨#[]⟩ : ByteArray), (0 : Int), (0 : Int), (0 : Int), ((i + off : Nat) : Int), (82 : Int)) else if (nums acc).length < 140737488355328 then lex_text.l0 k s (i : Int) (nums acc ++ [bt108.1]) bt108.2 else none
          else if (nums acc).length < 140737488355328 then lex_text.l0 k s (i : Int) (nums acc ++ [(b.toNat : Int)]) (wrap64 (((i + off : Nat) : Int) + 1)) else none) p →
          Ev (fun k => lex_text.l0 k s (i : Int) (nums acc) ((i + off : Nat) : Int)) p := by
        intro p hp
        refine Ev.step (fun k => by simp only [lex_text.l0]; rfl) ?_
        simp only [if_pos (show ((i + off : Nat) : Int) < (s.size : Int) by omega), if_pos (show (0 : Int) ≤ ((i + off : Nat) : Int) by omega), hbt, show ((b.toNat : Int) != 10) = true by rw [bne_iff_ne]; omega]
        refine Ev.step (fun k => by simp only [lex_text.j1]; rfl) ?_
        simp only [if_true, if_pos (show ((i + off : Nat) : Int) < (s.size : Int) by omega), if_pos (show (0 : Int) ≤ ((i + off : Nat) : Int) by omega), hbt]
        exact hp
      have W : wrap64 (((i + off : Nat) : Int) + 1) = ((i + (off + 1) : Nat) : Int) := w1 (i := i + off) 1 (by omega)
      by_cases h2 : b.toNat = 34
      · rw [if_pos h2]
        refine ⟨((3 : Int), ba acc, (0 : Int), (i : Int), ((i + (off + 1) : Nat) : Int), (0 : Int), (0 : Int)), st _ ?_, ?_⟩
        · simp only [if_pos (show (b.toNat : Int) = 34 by omega), strOf, W]; exact Ev.now _
        · rfl
      rw [if_neg h2]
      by_cases h3 : b.toNat = 92
      · rw [if_pos h3]
        have he := escape_ev s hs (i + off) b t hl
        unfold escOut at he
        cases hx : esc t with
        | none =>
          rw [hx] at he
          refine ⟨((0 : Int), (⟨#[]⟩ : ByteArray), (0 : Int), (0 : Int), (0 : Int), ((i + off : Nat) : Int), (82 : Int)), st _ ?_, ?_⟩
          · simp only [if_neg (show ¬ (b.toNat : Int) = 34 by omega), if_pos (show (b.toNat : Int) = 92 by omega)]
            refine Ev.bind he ?_
            exact Ev.now _
          · exact ⟨rfl, rfl, by decide⟩
        | some q =>
          obtain ⟨c, n⟩ := q
          rw [hx] at he; simp only at he ⊢
          have hn := (esc_le hx).2
          obtain ⟨p, hp1, hp2⟩ := ih (off + n + 1) (acc ++ [c]) (by omega) (by omega) (by simp only [List.length_append, List.length_cons, List.length_nil]; omega)
          have hdr : s.data.toList.drop (i + (off + n + 1)) = t.drop n := by
            rw [show i + (off + n + 1) = (i + off) + 1 + n by omega, ← List.drop_drop, hnx]
          rw [hdr] at hp2
          refine ⟨p, st _ ?_, hp2⟩
          simp only [if_neg (show ¬ (b.toNat : Int) = 34 by omega), if_pos (show (b.toNat : Int) = 92 by omega)]
          refine Ev.bind he ?_
          simp only [if_neg (show ¬ ((i + off + 1 + n : Nat) : Int) = 0 by omega), if_pos (show (nums acc).length < 140737488355328 by rw [nums_len]; omega), nums_snoc]
          rw [show i + off + 1 + n = i + (off + n + 1) by omega]
          exact hp1
      · rw [if_neg h3]
        obtain ⟨p, hp1, hp2⟩ := ih (off + 1) (acc ++ [b]) (by omega) (by omega) (by simp only [List.length_append, List.length_cons, List.length_nil]; omega)
        rw [show i + (off + 1) = i + off + 1 by omega, hnx] at hp2
        refine ⟨p, st _ ?_, hp2⟩
        simp only [if_neg (show ¬ (b.toNat : Int) = 34 by omega), if_neg (show ¬ (b.toNat : Int) = 92 by omega), if_pos (show (nums acc).length < 140737488355328 by rw [nums_len]; omega), nums_snoc, W]
        exact hp1
theorem tw_lead (n : Nat) (p : UInt8 → Bool) (hp : ∀ b : UInt8, G.okb n (b.toNat : Int) = p b) (l : List UInt8) : G.tw n l = lead p l := by
  induction l with
  | nil => rfl
  | cons b t ih => rw [G.tw_cons, lead, hp b, ih]
theorem run_eq {n : Nat} {p : UInt8 → Bool} (hn : n = 56 ∨ n = 55) (hp : ∀ b : UInt8, G.okb n (b.toNat : Int) = p b) (s : ByteArray) (hs : s.size ≤ 70368744177664) (i : Nat) (hi : i ≤ s.size) :
    lex_run.f s (i : Int) n = some ((i + lead p (s.data.toList.drop i) : Nat) : Int) := by
  unfold lex_run.f
  rw [if_pos ⟨by omega, by omega, by omega, hn⟩, Int.toNat_natCast, tw_lead n p hp]
theorem mark_iff (b : UInt8) : Lib.indexByte [123, 125, 40, 41, 58, 59, 44, 61, 43, 45, 42] b ≥ 0 ↔ b.toNat ∈ marks := by
  have key : ∀ (l : List UInt8) (c : UInt8), Lib.indexByte l c ≥ 0 ↔ c ∈ l := by
    intro l c
    induction l with
    | nil => simp [Lib.indexByte]
    | cons a t ih =>
      rw [indexByte_cons, List.mem_cons, ← ih]
      by_cases h : a = c
      · subst h; simp
      · have h1 : (a == c) = false := by simpa using h
        have h2 : ¬ c = a := fun e => h e.symm
        rw [h1]
        have := Lib.indexByte_ge t c
        by_cases h3 : Lib.indexByte t c = -1
        · rw [h3]; simp [h2]
        · have h4 : (Lib.indexByte t c == -1) = false := by simpa using h3
          rw [h4]
          simp only [Bool.false_eq_true, if_false, h2, false_or]
          omega
  rw [key]
  unfold marks
  simp only [List.mem_cons, List.not_mem_nil, or_false, ← UInt8.toNat_inj]
  rfl
theorem token_ev (s : ByteArray) (hs : s.size ≤ 70368744177664) (i : Nat) (b : UInt8) (t : List UInt8) (hl : s.data.toList.drop i = b :: t) : ∃ p, Ev (fun k => lex_token.f k s (i : Int)) p ∧ TokOut i (L.tok (s.data.toList.drop i)) p := by
  have hlt := drop_lt hl
  have hbt := bt_drop hl
  have hnx := drop_next hl
  have hsz := drop_len hl (by omega)
  rw [List.length_cons] at hsz
  have c1 : (0 : Int) ≤ (i : Int) := by omega
  have c2 : (i : Int) < (s.size : Int) := by omega
  have W : wrap64 ((i : Int) + 1) = ((i + 1 : Nat) : Int) := w1 1 (by omega)
  unfold lex_token.f
  simp only [if_pos c1, if_pos c2, hbt, isL_eq, isD_eq, Option.bind_some]
  rw [hl, L.tok]
  have lw := lead_le isW (b :: t)
  have ld := lead_le isD (b :: t)
  rw [List.length_cons] at lw ld
  by_cases h1 : isL b = true
  · have hr := run_eq (n := 55) (p := isW) (.inr rfl) (fun b => rfl) s hs i (by omega)
    rw [hl] at hr
    have hx := ba_ext s i (i + lead isW (b :: t))
    rw [Nat.add_sub_cancel_left, hl] at hx
    have hxs : ((s.extract i (i + lead isW (b :: t))).size : Int) = ((lead isW (b :: t) : Nat) : Int) := by
      rw [hx, size_len, ba_list, List.length_take]; simp only [List.length_cons]; omega
    rw [if_pos h1]
    simp only [h1, if_true, hr, Option.bind_some, if_pos (show (i : Int) ≤ ((i + lead isW (b :: t) : Nat) : Int) by omega), if_pos (show ((i + lead isW (b :: t) : Nat) : Int) ≤ (s.size : Int) by omega), Int.toNat_natCast, hxs]
    by_cases h64 : lead isW (b :: t) > 64
    · rw [if_pos h64]
      simp only [if_pos (show ((lead isW (b :: t) : Nat) : Int) > 64 by omega)]
      exact ⟨_, Ev.now _, rfl, rfl, by decide⟩
    · rw [if_neg h64]
      simp only [if_neg (show ¬ ((lead isW (b :: t) : Nat) : Int) > 64 by omega)]
      exact ⟨_, Ev.now _, by rw [hx]; rfl⟩
  have h1' : isL b = false := by simpa using h1
  rw [if_neg h1]
  simp only [h1', Bool.false_eq_true, if_false]
  by_cases h2 : isD b = true
  · have hr := run_eq (n := 56) (p := isD) (.inl rfl) (fun b => rfl) s hs i (by omega)
    rw [hl] at hr
    have hx := ba_ext s i (i + lead isD (b :: t))
    rw [Nat.add_sub_cancel_left, hl] at hx
    rw [if_pos h2]
    have hnum : lex_number.f (s.extract i (i + lead isD (b :: t))) = some (match G.numv 0 ((b :: t).take (lead isD (b :: t))) with | some x => ((x : Int), true) | none => (0, false)) := by
      unfold lex_number.f
      rw [hx, ba_list, if_pos (by rw [size_len, ba_list, List.length_take]; omega)]
      cases G.numv 0 ((b :: t).take (lead isD (b :: t))) <;> rfl
    simp only [h2, if_true, hr, Option.bind_some, if_pos (show (i : Int) ≤ ((i + lead isD (b :: t) : Nat) : Int) by omega), if_pos (show ((i + lead isD (b :: t) : Nat) : Int) ≤ (s.size : Int) by omega), Int.toNat_natCast, hnum]
    cases G.numv 0 ((b :: t).take (lead isD (b :: t))) with
    | none => simp only [Bool.false_eq_true, if_false]; exact ⟨_, Ev.now _, rfl, rfl, by decide⟩
    | some x => simp only [if_true]; exact ⟨_, Ev.now _, rfl⟩
  have h2' : isD b = false := by simpa using h2
  rw [if_neg h2]
  simp only [h2', Bool.false_eq_true, if_false]
  by_cases h3 : b.toNat = 34
  · rw [if_pos h3]
    simp only [if_pos (show (b.toNat : Int) = 34 by omega)]
    obtain ⟨p, hp1, hp2⟩ := text_ev s hs i (s.size) 1 [] (by omega) (by omega) (by simp)
    rw [hnx] at hp2
    refine ⟨p, ?_, hp2⟩
    have hp3 : Ev (fun k => lex_text.f k s (i : Int)) p := Ev.congr (fun k => by unfold lex_text.f; rw [W]; rfl) hp1
    exact Ev.bind hp3 (Ev.now _)
  rw [if_neg h3]
  simp only [if_neg (show ¬ (b.toNat : Int) = 34 by omega)]
  have hix : strings_IndexByte.f (⟨#[123, 125, 40, 41, 58, 59, 44, 61, 43, 45, 42]⟩ : ByteArray) (b.toNat : Int) = some (Lib.indexByte [123, 125, 40, 41, 58, 59, 44, 61, 43, 45, 42] b) := by
    unfold strings_IndexByte.f
    rw [Int.toNat_natCast, show b.toNat.toUInt8 = b from UInt8.ofNat_toNat]
  simp only [hix, Option.bind_some]
  by_cases h4 : b.toNat ∈ marks
  · rw [if_pos h4]
    have hx := ba_ext s i (i + 1)
    rw [Nat.add_sub_cancel_left, hl] at hx
    simp only [if_pos ((mark_iff b).2 h4), W, if_pos (show (i : Int) ≤ ((i + 1 : Nat) : Int) by omega), if_pos (show ((i + 1 : Nat) : Int) ≤ (s.size : Int) by omega), Int.toNat_natCast, hx]
    exact ⟨_, Ev.now _, rfl⟩
  · rw [if_neg h4]
    simp only [if_neg (fun h => h4 ((mark_iff b).1 h))]
    exact ⟨_, Ev.now _, rfl, rfl, by decide⟩
end Go.Proofs.Ytbdcndkafaajpaa.T
end
section
set_option linter.unusedVariables false
set_option linter.unusedSimpArgs false
namespace Go.Proofs.Ytbdcndkafaajpaa.T
open Go.RowKit Go.Proofs.Ytbdcndkafaajpaa Go.Proofs.Ytbdcndkafaajpaa.X Go.Proofs.Ytbdcndkafaajpaa.L Go.Proofs.YtbdcndkafaajpaaW.PrintWords Go.Proofs.YtbdcndkafaajpaaW.PrintLast Go.Proofs.YtbdcndkafaajpaaW.PrintMore
def toS (t : L.Tok) : S47 := ⟨(t.kind : Int), ba t.text, (t.num : Int), (t.at' : Int), (t.fin : Int)⟩
def outL (acc : List S47) : LR → List S47 × Int × Int
  | .toks l => (acc ++ l.map toS, 0, 0)
  | .bad a e => ([], (a : Int), (e : Int))
theorem outL_push (acc : List S47) (t : L.Tok) (r : LR) : outL acc (r.push t) = outL (acc ++ [toS t]) r := by
  cases r with
  | toks l => simp [LR.push, outL]
  | bad a e => rfl
theorem loop_ev (s : ByteArray) (hs : s.size ≤ 1048576) : ∀ (d off : Nat) (acc : List S47), s.size - off ≤ d → off ≤ s.size → acc.length ≤ off →
    Ev (fun k => lex_Lex.l0 k s acc ((off + sk false (s.data.toList.drop off) : Nat) : Int)) (outL acc (lx off (s.data.toList.drop off))) := by
  intro d
  induction d with
  | zero =>
    intro off acc hd hi ha
    have e : s.data.toList.drop off = [] := List.drop_of_length_le (by rw [← size_len]; omega)
    refine Ev.step (fun k => by simp only [lex_Lex.l0]; rfl) ?_
    rw [e, lx_end rfl]
    simp only [sk, Nat.add_zero, if_neg (show ¬ (off : Int) < (s.size : Int) by omega), if_pos (show acc.length < 2932031007402 by omega), List.length_nil]
    obtain rfl : off = s.size := by omega
    exact Ev.now _
  | succ d ih =>
    intro off acc hd hi ha
    have hlen : (s.data.toList.drop off).length = s.size - off := by rw [List.length_drop, ← size_len]
    have hsk := sk_le false (s.data.toList.drop off)
    by_cases hz : sk false (s.data.toList.drop off) = (s.data.toList.drop off).length
    · refine Ev.step (fun k => by simp only [lex_Lex.l0]; rfl) ?_
      rw [lx_end hz, hz, hlen, show off + (s.size - off) = s.size by omega]
      simp only [Int.lt_irrefl, if_false, if_pos (show acc.length < 2932031007402 by omega)]
      exact Ev.now _
    · obtain ⟨i, hi2⟩ : ∃ i, i = off + sk false (s.data.toList.drop off) := ⟨_, rfl⟩
      have hdr : (s.data.toList.drop off).drop (sk false (s.data.toList.drop off)) = s.data.toList.drop i := by rw [List.drop_drop, hi2]
      have hil : i < s.size := by omega
      cases hl : s.data.toList.drop i with
      | nil => have := drop_len hl (by omega); simp only [List.length_nil] at this; omega
      | cons b t =>
        obtain ⟨p, hp1, hp2⟩ := token_ev s (by omega) i b t hl
        refine Ev.step (fun k => by simp only [lex_Lex.l0]; rfl) ?_
        simp only [← hi2, if_pos (show (i : Int) < (s.size : Int) by omega)]
        refine Ev.bind hp1 ?_
        cases ht : L.tok (s.data.toList.drop i) with
        | bad a e =>
          rw [ht] at hp2
          obtain ⟨h1, h2, h3⟩ := hp2
          rw [lx_bad (a := a) (e := e) hz (by rw [hdr]; exact ht), ← hi2]
          simp only [h1, h2, if_neg (show ¬ (e : Int) = 0 by omega)]
          exact Ev.now _
        | ok t' =>
          rw [ht] at hp2
          have hp2' : p = ((t'.kind : Int), ba t'.text, (t'.num : Int), (i : Int), ((i + t'.len : Nat) : Int), 0, 0) := hp2
          have htl := tok_len ht
          rw [List.length_drop, ← size_len] at htl
          subst hp2'
          rw [lx_ok (t := t') hz (by rw [hdr]; exact ht), ← hi2]
          simp only [if_true, if_pos (show acc.length < 2932031007402 by omega)]
          have hsk2 := (skip_ev s (by omega) _ (i + t'.len) (Nat.le_refl _) (by omega))
          have hnx := ih (i + t'.len) (acc ++ [toS (t'.at_ i)]) (by omega) (by omega) (by simp only [List.length_append, List.length_cons, List.length_nil]; omega)
          rw [outL_push, show (s.data.toList.drop off).drop (sk false (s.data.toList.drop off) + t'.len) = s.data.toList.drop (i + t'.len) by rw [← List.drop_drop, hdr, List.drop_drop]]
          refine Ev.bind (g := fun k => lex_skip.f k s ((i + t'.len : Nat) : Int)) hsk2 ?_
          exact hnx
theorem lexes_ev (s : ByteArray) : Ev (fun k => lex_Lex.f k s) (outL [] (L.Lex s.data.toList)) := by
  unfold L.Lex
  rw [← size_len]
  by_cases h : s.size > 1048576
  · rw [if_pos h]
    refine Ev.congr (fun k => ?_) (Ev.now _)
    unfold lex_Lex.f
    rw [if_pos (by omega)]; rfl
  · rw [if_neg h]
    have h1 := skip_ev s (by omega) _ 0 (Nat.le_refl _) (by omega)
    have h2 := loop_ev s (by omega) _ 0 [] (Nat.le_refl _) (by omega) (Nat.le_refl _)
    rw [List.drop_zero] at h1 h2
    refine Ev.congr (f := fun k => (lex_skip.f k s 0).bind fun t132 => lex_Lex.l0 k s [] t132) (fun k => ?_) (Ev.bind (g := fun k => lex_skip.f k s 0) h1 h2)
    unfold lex_Lex.f
    rw [if_neg (by omega)]
theorem nums_app (l m : List UInt8) : nums l ++ nums m = nums (l ++ m) := by unfold nums; rw [List.map_append]
theorem lx_count : ∀ (d off : Nat) (l : List UInt8) (ts : List L.Tok), l.length ≤ d → lx off l = .toks ts → ts.length ≤ l.length + 1 := by
  intro d
  induction d with
  | zero =>
    intro off l ts hd h
    obtain rfl : l = [] := List.length_eq_zero_iff.1 (by omega)
    rw [lx_end rfl] at h; cases h; simp
  | succ d ih =>
    intro off l ts hd h
    rcases lx_cut off l with ⟨q, hq, e⟩ | ⟨g, w, r, t, rfl, hg, ht, hw, e⟩ | ⟨g, m, a, e, rfl, hg, hm, hne, ht, h2⟩
    · rw [e] at h; cases h; simp
    · have hl2 := tok_len ht
      rw [e] at h
      obtain ⟨l', h1, rfl⟩ := push_toks h
      simp only [List.length_append, List.length_cons] at hd ⊢
      have := ih _ r l' (by omega) h1
      omega
    · rw [h2] at h; cases h
theorem Lex_toks {l : List UInt8} {ts : List L.Tok} (h : L.Lex l = .toks ts) : l.length ≤ 1048576 ∧ lx 0 l = .toks ts ∧ ts.length ≤ l.length + 1 := by
  unfold L.Lex at h
  split at h
  · cases h
  · exact ⟨by omega, h, lx_count _ _ _ _ (Nat.le_refl _) h⟩
theorem Lex_bad {l : List UInt8} {a e : Nat} (h : L.Lex l = .bad a e) : (1048576 < l.length ∧ a = 0 ∧ e = 2) ∨ (l.length ≤ 1048576 ∧ lx 0 l = .bad a e ∧ a < l.length ∧ (e = 80 ∨ e = 81 ∨ e = 82 ∨ e = 111)) := by
  unfold L.Lex at h
  split at h
  · cases h; exact .inl ⟨by omega, rfl, rfl⟩
  · have := lx_faults [] _ _ _ _ _ (Nat.le_refl _) h
    exact .inr ⟨by omega, h, by omega, this.2.2.2.1⟩
theorem Lex_small {l : List UInt8} (h : l.length ≤ 1048576) : L.Lex l = lx 0 l := by
  unfold L.Lex; rw [if_neg (by omega)]
end Go.Proofs.Ytbdcndkafaajpaa.T
end
section
set_option linter.unusedVariables false
set_option linter.unusedSimpArgs false
namespace Go.Proofs.Ytbdcndkafaajpaa.P
open Go.Proofs.Ytbdcndkafaajpaa.X Go.Proofs.Ytbdcndkafaajpaa.T
inductive Out (α : Type) where
  | ok (a : α)
  | bad (e pl : Int)
def outO {α : Type} : Res α → Out α
  | .ok a _ => .ok a
  | .bad e p => .bad e p
def overLex {α : Type} (f : List Tk → Res α) (s : ByteArray) : Out α := match L.Lex s.data.toList with
  | .bad a e => .bad (e : Int) (a : Int)
  | .toks l => outO (f (l.map toS))
def schemaO (s : ByteArray) : Out (List EvD) := overLex schemaW s
def valueO (s : ByteArray) : Out (List Nd) := overLex valueW s
end Go.Proofs.Ytbdcndkafaajpaa.P
namespace Go.Proofs.Ytbdcndkafaajpaa.A
open Go.RowKit Go.Proofs.Ytbdcndkafaajpaa.X Go.Proofs.Ytbdcndkafaajpaa.L Go.Proofs.Ytbdcndkafaajpaa.T Go.Proofs.YtbdcndkafaajpaaW.PrintWords Go.Proofs.YtbdcndkafaajpaaW.PrintLast Go.Proofs.YtbdcndkafaajpaaW.PrintMore
open Go.Proofs.Ytbdcndkafaajpaa.P (Nd EO Res hd isT isM takeM mxl comb mk1 StD VeD EvD Out overLex schemaO valueO)
theorem lx_last : ∀ (d off : Nat) (l : List UInt8) (ts : List L.Tok), l.length ≤ d → lx off l = .toks ts → ∃ i e, ts = i ++ [e] ∧ e.kind = 0 := by
  intro d
  induction d with
  | zero =>
    intro off l ts hd h
    obtain rfl : l = [] := List.length_eq_zero_iff.1 (by omega)
    rw [lx_end rfl] at h; cases h; exact ⟨[], _, rfl, rfl⟩
  | succ d ih =>
    intro off l ts hd h
    rcases lx_cut off l with ⟨q, hq, e⟩ | ⟨g, w, r, t, rfl, hg, ht, hw, e⟩ | ⟨g, m, a, e, rfl, hg, hm, hne, ht, h2⟩
    · rw [e] at h; cases h; exact ⟨[], _, rfl, rfl⟩
    · have hl2 := tok_len ht
      rw [e] at h
      obtain ⟨l', h1, rfl⟩ := push_toks h
      simp only [List.length_append, List.length_cons] at hd
      obtain ⟨i, e', rfl, h0⟩ := ih _ r l' (by omega) h1
      exact ⟨_ :: i, e', rfl, h0⟩
    · rw [h2] at h; cases h
theorem good_of {l : List Tk} {i : List Tk} {e : Tk} (h : l = i ++ [e]) (h0 : e.f0 = 0) : Good l ∧ 0 < l.length := by
  subst h
  refine ⟨fun j hj hk => ?_, by rw [List.length_append, List.length_singleton]; omega⟩
  rw [List.length_append, List.length_singleton] at hj ⊢
  by_cases hji : j = i.length
  · subst hji
    exfalso
    apply hk
    unfold tk rd_T47
    rw [Int.toNat_natCast, List.getD_eq_getElem?_getD, List.getElem?_append_right (Nat.le_refl _), Nat.sub_self]
    exact h0
  · omega
theorem toks_good {l : List UInt8} {ts : List L.Tok} (h : L.Lex l = .toks ts) : Good (ts.map toS) ∧ 0 < (ts.map toS).length ∧ (ts.map toS).length ≤ 1048577 := by
  obtain ⟨h1, h2, h3⟩ := Lex_toks h
  obtain ⟨i, e, rfl, h0⟩ := lx_last _ _ _ _ (Nat.le_refl _) h2
  have := good_of (l := (i ++ [e]).map toS) (i := i.map toS) (e := toS e) (by simp) (by unfold toS; rw [h0]; rfl)
  exact ⟨this.1, this.2, by rw [List.length_map]; omega⟩
structure Begun (w w' : World) (A : Option Addr) (c : Nat) (L : List Tk) (g : Nat) : Prop where
  up : Up w' A c L g (.ok L)
  good : Good L
  len : L.length ≤ 33554432
  new : w.heap.size ≤ g
  bel : Below w.heap.size w w'
set_option maxHeartbeats 4000000 in
set_option maxRecDepth 100000 in
theorem begin_calls (w : World) (s : ByteArray) : Calls Try.prog 23 #[.string s] w fun e w' =>
    match L.Lex s.data.toList with
    | .bad a er => e = .returned (.tuple #[.pointer none, .int .i64 (a : Int), .int .i64 (er : Int)]) ∧ Below w.heap.size w w'
    | .toks l => ∃ A c g, e = .returned (.tuple #[.pointer (some ⟨g, 0, none⟩), .int .i64 0, .int .i64 0]) ∧ Begun w w' A c (l.map toS) g := by
  obtain ⟨k, hk⟩ := (lexes_ev s).rounds
  cases hx : L.Lex s.data.toList with
  | bad a er =>
    rw [hx] at hk
    have hne : (er : Int) ≠ 0 := by
      rcases Lex_bad hx with ⟨_, _, h⟩ | ⟨_, _, _, h⟩ <;> omega
    have d1 : ((er : Int) != 0) = true := bne_iff_ne.2 hne
    have HCL := Aside0.mk (lex_Lex.calls k s _ _ _ w hk)
    clear hk hx hne
    go_enter Try.func23, Try.ntmps23
    go_wp2_with fail
    refine HCL.out.mono ?_
    rintro e w1 ⟨v0, rfl, hr, hb⟩
    have HB := Aside0.mk hb
    clear hr hb
    go_wp2
    go_ret3
    exact ⟨rfl, HB.out⟩
  | toks l =>
    rw [hx] at hk
    obtain ⟨hg1, hg2, hg3⟩ := toks_good hx
    have HGD := Aside0.mk hg1
    have HG2 := Aside0.mk hg2
    have HG3 := Aside0.mk hg3
    have HCL := Aside0.mk (lex_Lex.calls k s _ _ _ w hk)
    clear hk hx hg1 hg2 hg3
    go_enter Try.func23, Try.ntmps23
    go_wp2_with fail
    refine HCL.out.mono ?_
    rintro e w1 ⟨v0, rfl, hr, hb⟩
    obtain ⟨A, c, rfl⟩ := Kd.R_slice hr
    have HR := Aside0.mk hr
    have HB := Aside0.mk hb
    clear hr hb
    go_wp2
    go_ret3
    have hlen : ([] ++ l.map toS).length = (l.map toS).length := by simp
    obtain ⟨W, hW⟩ : ∃ W, W = w1.alloc (.cells (pv A (l.map toS).length c ⟨0, 0, 0⟩ (.int .i64 0) (.slice none 0 0) (.slice none 0 0)) 68) := ⟨_, rfl⟩
    have hb1 : Below w1.heap.size w1 W := by rw [hW]; exact below_alloc (Below.refl _ _) _
    have hrow : Kd.R kt 47 w1 w.heap.size (fun _ => True) (.slice A (l.map toS).length c) (l.map toS) := by
      have := HR.out
      simpa using this
    refine ⟨A, c, w1.heap.size, rfl, ?_⟩
    have hgoal : Begun w W A c (l.map toS) w1.heap.size := ⟨⟨⟨0, 0, 0⟩, 0, _, _, ⟨rfl, rfl⟩, ⟨by rw [hW]; exact blk_new _ _, ?_, HG2.out, ?_⟩⟩, HGD.out, by have := HG3.out; omega, HB.out.size, HB.out.trans (hb1.mono HB.out.size)⟩
    · rw [hW] at hgoal
      simpa [pv] using hgoal
    · intro W' hW'
      exact (Kd.F_of_R rfl (Kd.R_below hrow hb1)) W' (fun k hk => hW' k (by have := Kd.R_lt hrow k hk; omega))
    · obtain ⟨A', c', he, hc, _⟩ := Kd.R_reads hrow
      injection he with _ _ he
      omega
end Go.Proofs.Ytbdcndkafaajpaa.A
end
section
set_option linter.unusedVariables false
set_option linter.unusedSimpArgs false
namespace Go.Proofs.Ytbdcndkafaajpaa.A
open Go.RowKit Go.Proofs.Ytbdcndkafaajpaa.X Go.Proofs.Ytbdcndkafaajpaa.L Go.Proofs.Ytbdcndkafaajpaa.T Go.Proofs.YtbdcndkafaajpaaW.PrintWords Go.Proofs.YtbdcndkafaajpaaW.PrintLast Go.Proofs.YtbdcndkafaajpaaW.PrintMore
open Go.Proofs.Ytbdcndkafaajpaa.P (Nd EO Res hd isT isM takeM mxl comb mk1 StD VeD EvD Out overLex schemaO valueO)
theorem Up.okc {w : World} {A : Option Addr} {c : Nat} {L : List Tk} {g : Nat} {ts : List Tk} (h : Up w A c L g (.ok ts)) : w.cell? ⟨g, 2, none⟩ = some (.int .i64 0) := by
  obtain ⟨q, lv, v5, v6, hq, hp⟩ := h
  rw [← hq.1]; exact hp.c2
theorem Up.badc {w : World} {A : Option Addr} {c : Nat} {L : List Tk} {g : Nat} {e p : Int} (h : Up w A c L g (.bad e p)) : w.cell? ⟨g, 2, none⟩ = some (.int .i64 e) ∧ w.cell? ⟨g, 3, none⟩ = some (.int .i64 p) ∧ e ≠ 0 := by
  obtain ⟨q, lv, v5, v6, hq, hp⟩ := h
  exact ⟨by rw [← hq.1]; exact hp.c2, by rw [← hq.2.1]; exact hp.c3, hq.2.2⟩
theorem Begun.below {w w1 w2 : World} {A : Option Addr} {c : Nat} {L : List Tk} {g : Nat} (h : Begun w w1 A c L g) (hg : w1.grownBy w2 (some g)) : Below w.heap.size w w2 :=
  h.bel.grown hg (by have := h.bel.size; omega) (fun k hk => by injection hk with hk; have := h.new; omega)
def Says {α : Type} (o : Out α) (v : Sl) (at_ er : Int) (P : α → Prop) : Prop := match o with
  | .ok a => at_ = 0 ∧ er = 0 ∧ P a
  | .bad e p => er = e ∧ at_ = p ∧ v = ⟨none, 0, 0⟩ ∧ e ≠ 0
set_option maxHeartbeats 8000000 in
set_option maxRecDepth 100000 in
theorem Value_calls (w : World) (s : ByteArray) : Calls Try.prog 15 #[.string s] w fun e w' => ∃ (v : Sl) (l : List Row) (at_ er : Int), e = .returned (.tuple #[.slice v.A v.n v.c, .int .i64 at_, .int .i64 er]) ∧ Rows w' w.heap.size l ∧ Below w.heap.size w w' ∧ Says (valueO s) v at_ er (fun ns => Row.n v ns ∈ l) := by
  have HBG := Aside0.mk (begin_calls w s)
  unfold valueO overLex
  cases hx : L.Lex s.data.toList with
  | bad a er =>
    rw [hx] at HBG
    have hne : (er : Int) ≠ 0 := by
      rcases Lex_bad hx with ⟨_, _, h⟩ | ⟨_, _, _, h⟩ <;> omega
    have d1 : ((er : Int) != 0) = true := bne_iff_ne.2 hne
    have HNE := Aside0.mk hne
    clear hx hne
    go_enter Try.func15, Try.ntmps15
    go_wp2_with fail
    refine HBG.out.mono ?_
    rintro e w1 ⟨rfl, hb⟩
    have HB := Aside0.mk hb
    clear hb
    go_wp2
    go_ret3
    exact ⟨⟨none, 0, 0⟩, [], _, _, rfl, Rows.nil _ _, HB.out, rfl, rfl, rfl, HNE.out⟩
  | toks l =>
    rw [hx] at HBG
    clear hx
    go_enter Try.func15, Try.ntmps15
    go_wp2_with fail
    refine HBG.out.mono ?_
    rintro e w1 ⟨A, c, g, rfl, hbg⟩
    have HBE := Aside0.mk hbg
    clear hbg
    obtain ⟨F, hF0, hFe⟩ := Co.start (.ok (l.map toS)) P.valueW
    have HF0 := Aside0.mk hF0
    have HFE := Aside0.mk hFe
    have HC1 := Aside0.mk (show Co F (fun ts => (P.exprW ts).bind fun v r => (P.endW r).bind fun _ r => .ok v.ns r) (.ok (l.map toS)) from hF0)
    clear hF0 hFe
    have HCL := Aside0.mk (whole_calls w1 A c _ g _ HBE.out.good HBE.out.len HBE.out.up)
    go_wp2_with fail
    refine HCL.out.mono ?_
    rintro e w2 ⟨v, ns, rfl, hrv, hnew, hu, hg, hval⟩
    clear HCL
    obtain ⟨Av, cv, hvv⟩ := Kd.R_slice hrv
    subst hvv
    have HC2 := Aside0.mk (Co.call (P := fun _ => True) (g' := fun r => (P.endW r).bind fun _ r => .ok ns r) HC1.out (fun ts a r h1 h2 => by rw [hval ts a r h1 h2]))
    have HU2 := Aside0.mk hu
    have HG2 := Aside0.mk hg
    have HN2 := Aside0.mk (R_flat (base' := w.heap.size) flat_n hrv (fun _ _ => rfl) (fun k hk => Nat.le_trans HBE.out.bel.size (hnew k hk)))
    have HOW : Aside0 (∀ k, (Value.slice Av ns.length cv).ownBlock = some k → w1.heap.size ≤ k) := ⟨hnew⟩
    clear hrv hnew hu hg hval
    go_wp2_with fail
    refine (unow_calls HU2.out).mono ?_
    rintro e w3 ⟨⟨k2, s2, n2, p2, e2⟩, hf2, rfl, hb⟩
    have HT2 := Aside0.mk hf2
    have HU3 := Aside0.mk (HU2.out.below hb)
    have HG3 := Aside0.mk (HG2.out.trans (grown_below hb _))
    have HB3 := Aside0.mk hb
    clear hb hf2
    obtain ⟨gd0, gd1, gd2, gd3⟩ := fld ⟨k2, s2, n2, p2, e2⟩
    have HCL := Aside0.mk (uend_calls HBE.out.good (k2 == 0) HU3.out (fun ts hs => by rw [← HT2.out ts hs]))
    go_wp2_with fail
    refine HCL.out.mono ?_
    rintro e w4 ⟨⟨⟨k4, s4, n4, p4, e4⟩, hfr, rfl⟩, hu, hg⟩
    clear HCL
    have HC4 := Aside0.mk (Co.call (P := fun _ => True) (g' := fun r => .ok ns r) HC2.out (fun _ _ _ _ _ => rfl))
    have HB4 := Aside0.mk (HBE.out.below (HG3.out.trans hg))
    have HN4 : Aside0 (Rows w4 w.heap.size [Row.n ⟨Av, ns.length, cv⟩ ns]) := ⟨⟨fun r hr => by
      rw [List.mem_singleton.1 hr]
      refine R_flat (d := kn) flat_n HN2.out (fun k hk => ?_) (fun k hk => Kd.R_base HN2.out k hk)
      have hlt := Kd.R_lt HN2.out k hk
      have hgk : k ≠ g := by have := HOW.out k hk; have := HBE.out.up.glt; omega
      rw [hg.block k (Nat.lt_of_lt_of_le hlt HB3.out.size) (fun e => by injection e with e; exact hgk e)]
      exact HB3.out.block k hlt, ⟨fun k hk hm => (by cases hm), trivial⟩⟩⟩
    have HU4 := Aside0.mk (show Up w4 A c _ g ((US.ok (l.map toS)).step P.valueW) from by
      rw [← HFE.out _ (Co.end_' HC4.out)]; exact hu)
    clear hu hg hfr
    cases hy : P.valueW (l.map toS) with
    | ok ds r =>
      have hd : ds = ns := Co.val HC4.out HF0.out _ _ _ rfl hy
      subst hd
      have y2 := (show Up w4 A c _ g (.ok r) from by have := HU4.out; rw [step_ok hy] at this; exact this).okc
      have HY := Aside0.mk hy
      clear hy
      go_wp2
      go_ret3
      rw [HY.out]
      exact ⟨⟨Av, ds.length, cv⟩, _, _, _, rfl, HN4.out, HB4.out, rfl, rfl, List.mem_singleton.2 rfl⟩
    | bad e p =>
      obtain ⟨y2, y3, hne⟩ := (show Up w4 A c _ g (.bad e p) from by have := HU4.out; rw [step_bad2 hy] at this; exact this).badc
      have d1 : (e != 0) = true := bne_iff_ne.2 hne
      have HNE := Aside0.mk hne
      have HY := Aside0.mk hy
      clear hy hne
      go_wp2_with fail
      go_quiet (fail)
      go_wp2
      go_ret3
      rw [HY.out]
      exact ⟨⟨none, 0, 0⟩, _, _, _, rfl, Rows.nil _ _, pw_below_drewN HB4.out _, rfl, rfl, rfl, HNE.out⟩
set_option maxHeartbeats 8000000 in
set_option maxRecDepth 100000 in
theorem Schema_calls (w : World) (s : ByteArray) : Calls Try.prog 12 #[.string s] w fun e w' => ∃ (v : Sl) (l : List Row) (at_ er : Int), e = .returned (.tuple #[.agg #[.slice v.A v.n v.c], .int .i64 at_, .int .i64 er]) ∧ Rows w' w.heap.size l ∧ Below w.heap.size w w' ∧ Says (schemaO s) v at_ er (fun ds => ∃ xs, Row.e v xs ∈ l ∧ All2 (EvT l) ds xs) := by
  obtain ⟨w0, hw0⟩ : ∃ w0, w0 = w.alloc (.cells #[.slice none 0 0] 27) := ⟨_, rfl⟩
  obtain ⟨b2, hb2⟩ : ∃ b2, b2 = w.heap.size := ⟨_, rfl⟩
  have hB0 : Below w.heap.size w w0 := by rw [hw0]; exact below_alloc (Below.refl _ _) _
  have HY0 := Aside0.mk (show w0.heap[b2]? = some (.cells #[.slice none 0 0] 27 (0, 0)) from by rw [hw0, hb2]; exact blk_new _ _)
  have HB0 := Aside0.mk hB0
  have HB2 := Aside0.mk hb2
  have HW0 := Aside0.mk hw0
  have HBG := Aside0.mk (begin_calls w0 s)
  clear hw0 hb2 hB0
  unfold schemaO overLex
  cases hx : L.Lex s.data.toList with
  | bad a er =>
    rw [hx] at HBG
    have hne : (er : Int) ≠ 0 := by
      rcases Lex_bad hx with ⟨_, _, h⟩ | ⟨_, _, _, h⟩ <;> omega
    have d1 : ((er : Int) != 0) = true := bne_iff_ne.2 hne
    have HNE := Aside0.mk hne
    clear hx hne
    go_enter Try.func12, Try.ntmps12
    go_wp2_with fail
    rw [← HW0.out, ← HB2.out]
    refine HBG.out.mono ?_
    rintro e w1 ⟨rfl, hb⟩
    have HB := Aside0.mk (HB0.out.trans (hb.mono HB0.out.size))
    have HY1 := Aside0.mk (blk_below HY0.out hb)
    have y0 := (blk_cell HY1.out 0).trans rfl
    have g0 := blk_frozen HY1.out 0
    clear hb
    go_wp2
    refine bodyPost_ret (results_ctt rfl _ _ b2 27 #[.slice none 0 0] (0, 0) _ rfl (blk_put HY1.out 0 _ rfl) Try.underlying27 rfl (by kernel_rfl)) rfl ?_
    exact ⟨⟨none, 0, 0⟩, [], _, _, rfl, Rows.nil _ _, HB.out.setCell (p := ⟨b2, 0, none⟩) (by rw [HB2.out]; exact Nat.le_refl _) _, rfl, rfl, rfl, HNE.out⟩
  | toks l =>
    rw [hx] at HBG
    clear hx
    go_enter Try.func12, Try.ntmps12
    go_wp2_with fail
    rw [← HW0.out, ← HB2.out]
    refine HBG.out.mono ?_
    rintro e w1 ⟨A, c, g, rfl, hbg⟩
    have HBE := Aside0.mk hbg
    have HY1 := Aside0.mk (blk_below HY0.out hbg.bel)
    clear hbg
    have NB2 : Aside0 (b2 ≠ g) := ⟨by have := HBE.out.new; have := blk_lt HY0.out; omega⟩
    have HCL := Aside0.mk (schema_calls w1 A c _ g _ HBE.out.good HBE.out.len HBE.out.up)
    go_wp2_with fail
    refine HCL.out.mono ?_
    rintro e w2 ⟨⟨Av, nv, cv⟩, lr, rfl, hrows, hu, hg, hval⟩
    clear HCL
    have HB2' := Aside0.mk (HB0.out.trans ((HBE.out.below hg).mono HB0.out.size))
    have HY2 := Aside0.mk (keepB hg HY1.out NB2.out)
    have HU2 := Aside0.mk hu
    have HR2 := Aside0.mk hrows
    have HVL := Aside0.mk hval
    have HS1 : Aside0 (b2 < w1.heap.size ∧ w.heap.size ≤ w1.heap.size) := ⟨blk_lt HY1.out, Nat.le_trans HB0.out.size HBE.out.bel.size⟩
    clear hrows hu hg hval
    obtain ⟨b8, hb8⟩ : ∃ b8, b8 = w2.heap.size := ⟨_, rfl⟩
    obtain ⟨w3, hw3⟩ : ∃ w3, w3 = w2.alloc (.cells #[.slice Av nv cv] 27) := ⟨_, rfl⟩
    have hb3 : Below w2.heap.size w2 w3 := by rw [hw3]; exact below_alloc (Below.refl _ _) _
    have hx3 : w3.heap[b8]? = some (.cells #[.slice Av nv cv] 27 (0, 0)) := by rw [hw3, hb8]; exact blk_new _ _
    have c8 := (blk_cell hx3 0).trans rfl
    have HU3 := Aside0.mk (HU2.out.below hb3)
    have HY3 := Aside0.mk (blk_below HY2.out hb3)
    have HR3 := Aside0.mk (HR2.out.keep (fun k _ hk => hb3.block k hk))
    have HB3 := Aside0.mk (HB2'.out.trans (hb3.mono HB2'.out.size))
    have y0 := (blk_cell HY3.out 0).trans rfl
    have g0 := blk_frozen HY3.out 0
    have HW3 := Aside0.mk hw3
    have HB8 := Aside0.mk hb8
    cases hy : P.schemaW (l.map toS) with
    | ok ds r =>
      have y2 := (show Up w3 A c _ g (.ok r) from by have := HU3.out; rw [step_ok hy] at this; exact this).okc
      have HV := Aside0.mk (HVL.out _ _ _ rfl hy)
      have HY := Aside0.mk hy
      rw [hw3] at y2 y0 g0 c8
      rw [hb8] at c8
      clear hy hw3 hb8 hb3 hx3
      go_wp2
      rw [← HW3.out]
      refine bodyPost_ret (results_ctt rfl _ _ b2 27 #[.slice Av nv cv] (0, 0) _ rfl (blk_put HY3.out 0 _ rfl) Try.underlying27 rfl (by kernel_rfl)) rfl ?_
      rw [HY.out]
      exact ⟨⟨Av, nv, cv⟩, lr, _, _, rfl, (HR3.out.far HS1.out.1).lower HS1.out.2, HB3.out.setCell (p := ⟨b2, 0, none⟩) (by rw [HB2.out]; exact Nat.le_refl _) _, rfl, rfl, HV.out⟩
    | bad e p =>
      obtain ⟨y2, y3, hne⟩ := (show Up w3 A c _ g (.bad e p) from by have := HU3.out; rw [step_bad2 hy] at this; exact this).badc
      have d1 : (e != 0) = true := bne_iff_ne.2 hne
      have HNE := Aside0.mk hne
      have HY := Aside0.mk hy
      clear hne hy
      rw [hw3] at y2 y3 y0 g0
      clear hw3 hb8 hb3 hx3 c8
      go_wp2_with fail
      rw [← HW3.out] at y2 y3 y0 g0 ⊢
      have z2 : (w3.setCell ⟨b2, 0, none⟩ (.slice none 0 0)).drew.cell? ⟨g, 2, none⟩ = some (.int .i64 e) := (World.cell?_of_block (a := ⟨g, 2, none⟩) (Below.heap_setCell w3 ⟨b2, 0, none⟩ _ g (fun h => NB2.out h.symm))).trans y2
      have z3 : (w3.setCell ⟨b2, 0, none⟩ (.slice none 0 0)).drew.cell? ⟨g, 3, none⟩ = some (.int .i64 p) := (World.cell?_of_block (a := ⟨g, 3, none⟩) (Below.heap_setCell w3 ⟨b2, 0, none⟩ _ g (fun h => NB2.out h.symm))).trans y3
      go_region_held3 (fun w' => w'.cell? ⟨g, 2, none⟩ = some (.int .i64 e) ∧ w'.cell? ⟨g, 3, none⟩ = some (.int .i64 p)) (first | exact ⟨y2, y3⟩ | exact ⟨z2, z3⟩) (fail)
      all_goals
        go_wp2
        refine bodyPost_ret (results_ctt rfl _ _ b2 27 #[.slice none 0 0] (0, 0) _ rfl (blk_put HY3.out 0 _ rfl) Try.underlying27 rfl (by kernel_rfl)) rfl ?_
        rw [HY.out]
        exact ⟨⟨none, 0, 0⟩, [], _, _, rfl, Rows.nil _ _, (pw_below_drewN HB3.out 1).setCell (p := ⟨b2, 0, none⟩) (by rw [HB2.out]; exact Nat.le_refl _) _, rfl, rfl, rfl, HNE.out⟩
end Go.Proofs.Ytbdcndkafaajpaa.A
end
section
set_option linter.unusedVariables false
set_option linter.unusedSimpArgs false
namespace Go.Proofs.Ytbdcndkafaajpaa.A
open Go.RowKit Go.Proofs.Ytbdcndkafaajpaa.X Go.Proofs.YtbdcndkafaajpaaW.PrintWords Go.Proofs.YtbdcndkafaajpaaW.PrintLast Go.Proofs.YtbdcndkafaajpaaW.PrintMore
open Go.Proofs.Ytbdcndkafaajpaa.P (Nd EO Res hd isT isM takeM mxl comb mk1 StD VeD EvD Out overLex schemaO valueO)
theorem eqN (d : Nat) (w : World) (x0 y0 : Int) (x1 y1 : Int) (x2 y2 : Int) (x3 y3 : ByteArray) (x4 y4 : Int) :
    (Op.equalIn (d + 2) 49 (.agg #[.int .i64 x0, .int .i64 x1, .int .u64 x2, .string x3, .int .i64 x4]) (.agg #[.int .i64 y0, .int .i64 y1, .int .u64 y2, .string y3, .int .i64 y4])).run Try.prog w = .ok (x0 == y0 && (x1 == y1 && (x2 == y2 && (x3.toList == y3.toList && (x4 == y4))))) w := by
  refine eqA_of Try.underlying49 (by kernel_rfl) ?_
  refine eqf_cons (by rfl) (by go_simp; rfl) (by go_simp; rfl) (by go_simp) ?_
  refine eqf_cons (by rfl) (by go_simp; rfl) (by go_simp; rfl) (by go_simp) ?_
  refine eqf_cons (by rfl) (by go_simp; rfl) (by go_simp; rfl) (by go_simp) ?_
  refine eqf_cons (by rfl) (by go_simp; rfl) (by go_simp; rfl) (by go_simp) ?_
  exact eqf_last (by rfl) (by go_simp; rfl) (by go_simp; rfl) (by go_simp)
def nodeB (more : Int) (pl : Bool) (x y : Nd) : Bool := x.f0 == y.f0 && (x.f1 == y.f1 && (x.f2 == y.f2 && (x.f3.toList == y.f3.toList && ((if pl then wrap64 (x.f4 + more) else y.f4) == y.f4))))
def allB {α : Type} (f : α → α → Bool) : List α → List α → Bool
  | [], [] => true
  | x :: l, y :: m => f x y && allB f l m
  | _, _ => false
def nodesB (more : Int) (pl : Bool) (xs ys : List Nd) : Bool := allB (nodeB more pl) xs ys
def zN : Nd := ⟨0, 0, 0, ⟨#[]⟩, 0⟩
theorem at_N {w : World} {A : Option Addr} {n : Nat} {xs : List Nd} (h : Kd.C kn w A n xs) (i : Nat) (h1 : i < n) : ∃ ad, A = some ad ∧ w.cell? (ad.add (i * 5)) = some (.int .i64 (xs.getD i zN).f0) ∧ w.cell? ⟨(ad.add (i * 5)).block, (ad.add (i * 5)).off + 1, none⟩ = some (.int .i64 (xs.getD i zN).f1) ∧ w.cell? ⟨(ad.add (i * 5)).block, (ad.add (i * 5)).off + 2, none⟩ = some (.int .u64 (xs.getD i zN).f2) ∧ w.cell? ⟨(ad.add (i * 5)).block, (ad.add (i * 5)).off + 3, none⟩ = some (.string (xs.getD i zN).f3) ∧ w.cell? ⟨(ad.add (i * 5)).block, (ad.add (i * 5)).off + 4, none⟩ = some (.int .i64 (xs.getD i zN).f4) := by
  obtain ⟨ad, c, e, _, hK, hc0⟩ := Kd.C_get h zN (i : Int) (by omega) (by omega)
  rw [Int.toNat_natCast] at hK hc0
  have hc : ∀ j u, c[j]? = some u → w.cell? (ad.add (i * 5 + j)) = some u := hc0
  obtain rfl := kn_open hK
  exact ⟨ad, e, hc 0 _ rfl, by rw [← add_field _ _ 1 (by omega)]; exact hc 1 _ rfl, by rw [← add_field _ _ 2 (by omega)]; exact hc 2 _ rfl, by rw [← add_field _ _ 3 (by omega)]; exact hc 3 _ rfl, by rw [← add_field _ _ 4 (by omega)]; exact hc 4 _ rfl⟩
theorem allB_step {α : Type} (f : α → α → Bool) (z : α) : ∀ (i : Nat) (l m : List α), i < l.length → i < m.length → allB f (l.drop i) (m.drop i) = (f (l.getD i z) (m.getD i z) && allB f (l.drop (i + 1)) (m.drop (i + 1)))
  | 0, x :: l, y :: m, _, _ => rfl
  | i + 1, x :: l, y :: m, h1, h2 => by
    have := allB_step f z i l m (by simpa using h1) (by simpa using h2)
    simpa using this
theorem allB_len {α : Type} (f : α → α → Bool) : ∀ (l m : List α), l.length ≠ m.length → allB f l m = false
  | [], [], h => absurd rfl h
  | [], _ :: _, _ => rfl
  | _ :: _, [], _ => rfl
  | x :: l, y :: m, h => by
    unfold allB
    rw [allB_len f l m (by simpa using h), Bool.and_false]
end Go.Proofs.Ytbdcndkafaajpaa.A
end
section
attribute [local go_sem high] Go.Proofs.Ytbdcndkafaajpaa.A.eqN
set_option linter.unusedVariables false
set_option linter.unusedSimpArgs false
namespace Go.Proofs.Ytbdcndkafaajpaa.A
open Go.RowKit Go.Proofs.Ytbdcndkafaajpaa.X Go.Proofs.YtbdcndkafaajpaaW.PrintWords Go.Proofs.YtbdcndkafaajpaaW.PrintLast Go.Proofs.YtbdcndkafaajpaaW.PrintMore
open Go.Proofs.Ytbdcndkafaajpaa.P (Nd EO Res hd isT isM takeM mxl comb mk1 StD VeD EvD Out overLex schemaO valueO)
set_option maxHeartbeats 8000000 in
set_option maxRecDepth 100000 in
theorem nodes_calls (w : World) (A1 A2 : Option Addr) (c1 c2 : Nat) (xs ys : List Nd) (more : Int) (pl : Bool) (h1 : Kd.C kn w A1 xs.length xs) (h2 : Kd.C kn w A2 ys.length ys) (hx : xs.length ≤ 9223372036854775807) :
    Calls Try.prog 17 #[.slice A1 xs.length c1, .slice A2 ys.length c2, .int .i64 more, .bool pl] w fun e w' => e = .returned (.bool (nodesB more pl xs ys)) ∧ Below w.heap.size w w' := by
  have H1 := Aside0.mk h1
  have H2 := Aside0.mk h2
  have HX := Aside0.mk hx
  clear h1 h2 hx
  by_cases hl : xs.length = ys.length
  · have d0 : ((xs.length : Int) != (ys.length : Int)) = false := by rw [hl]; simp
    have HLE := Aside0.mk hl
    clear hl
    go_enter Try.func17, Try.ntmps17
    go_wp2_with fail
    go_loopw [9] (fun ti wr => ∃ i : Nat, ti = .int .i64 (i : Int) ∧ Aside0 (i ≤ xs.length) ∧ Aside0 (allB (nodeB more pl) (xs.drop i) (ys.drop i) = nodesB more pl xs ys) ∧ Aside0 (Below w.heap.size w wr)) (fun ti _ => xs.length - left ti)
    case atStart => exact ⟨0, rfl, ⟨Nat.zero_le _⟩, ⟨rfl⟩, ⟨Below.refl _ _⟩⟩
    case round =>
      obtain ⟨i, rfl, hi, he, hb⟩ := hrel
      by_cases hlt : i < xs.length
      · have dl : ((i : Int) < (xs.length : Int)) := by omega
        have dl2 : decide ((i : Int) < (xs.length : Int)) = true := decide_eq_true dl
        have hi2 : (i : Int) < (ys.length : Int) := by rw [← HLE.out]; exact dl
        obtain ⟨ad1, hA1, x0, x1, x2, x3, x4⟩ := at_N (Kd.C_below H1.out hb.out) i hlt
        obtain ⟨ad2, hA2, _⟩ := at_N (Kd.C_below H2.out hb.out) i (by rw [← HLE.out]; exact hlt)
        have hst := he.out
        rw [allB_step (nodeB more pl) zN i xs ys hlt (by rw [← HLE.out]; exact hlt)] at hst
        obtain ⟨X, hX⟩ : ∃ X, X = xs.getD i zN := ⟨_, rfl⟩
        rw [← hX] at x0 x1 x2 x3 x4 hst
        obtain ⟨a0, a1, a2, a3, a4⟩ := X
        obtain ⟨Y, hY⟩ : ∃ Y, Y = ys.getD i zN := ⟨_, rfl⟩
        obtain ⟨V, hV⟩ : ∃ V, V = (if pl then wrap64 (a4 + more) else Y.f4) := ⟨_, rfl⟩
        obtain ⟨W1, hW1⟩ : ∃ W1, W1 = wr.alloc (.cells #[.int .i64 a0, .int .i64 a1, .int .u64 a2, .string a3, .int .i64 (wrap64 (a4 + more))] 49) := ⟨_, rfl⟩
        obtain ⟨W, hW⟩ : ∃ W, W = wr.alloc (.cells #[.int .i64 a0, .int .i64 a1, .int .u64 a2, .string a3, .int .i64 V] 49) := ⟨_, rfl⟩
        have hBW1 : Below wr.heap.size wr W1 := by rw [hW1]; exact below_alloc (Below.refl _ _) _
        have hBW : Below wr.heap.size wr W := by rw [hW]; exact below_alloc (Below.refl _ _) _
        have hbn : W.heap[wr.heap.size]? = some (.cells #[.int .i64 a0, .int .i64 a1, .int .u64 a2, .string a3, .int .i64 V] 49 (0, 0)) := by rw [hW]; exact blk_new _ _
        obtain ⟨z0, z1, z2, z3, z4⟩ := nodeBox (n := ⟨a0, a1, a2, a3, V⟩) hbn
        obtain ⟨_, e1, _, _, _, _, v4⟩ := at_N (Kd.C_below H2.out (below_step hb.out hBW1)) i (by rw [← HLE.out]; exact hlt)
        obtain ⟨_, e2, y0, y1, y2, y3, y4⟩ := at_N (Kd.C_below H2.out (below_step hb.out hBW)) i (by rw [← HLE.out]; exact hlt)
        rw [hA2] at e1 e2
        injection e1 with e1
        injection e2 with e2
        subst e1 e2 hA1 hA2
        rw [← hY] at v4 y0 y1 y2 y3 y4 hst
        obtain ⟨b0, b1, b2, b3, b4⟩ := Y
        have hnx := nextN i xs.length HX.out hlt
        have hls := lessN i xs.length HX.out hlt
        have HST := Aside0.mk hst
        have HLT := Aside0.mk hlt
        have HNX := Aside0.mk hnx
        have HLS := Aside0.mk hls
        have HBW := Aside0.mk (below_step hb.out hBW)
        have HW := Aside0.mk hW
        have HV := Aside0.mk hV
        rw [hW1] at v4
        clear hst hlt hnx hls hBW hBW1 hW1 hbn hX hY
        clear HV
        cases pl with
        | false =>
          simp only [if_true, Bool.false_eq_true, if_false] at hV
          subst hV
          rw [hW] at z0 z1 z2 z3 z4 y0 y1 y2 y3 y4
          clear hW
          go_wp2_with fail
          go_quiet (fail)
          obtain ⟨q, hq⟩ : ∃ q, q = (!(a0 == b0) || (!(a1 == b1) || (!(a2 == b2) || !(a3.toList == b3.toList)))) := ⟨_, rfl⟩
          rw [← hq]
          have HQ := Aside0.mk hq
          clear hq
          cases q with
          | true =>
            go_wp2
            go_ret
            refine ⟨?_, pw_below_drewN (by rw [← HW.out]; exact HBW.out) _⟩
            rw [← HST.out]
            have : nodeB more false ⟨a0, a1, a2, a3, a4⟩ ⟨b0, b1, b2, b3, V⟩ = false := by
              have h := HQ.out
              unfold nodeB
              revert h
              simp only [if_true, Bool.false_eq_true, if_false, beq_self_eq_true, Bool.and_true]
              cases (a0 == b0) <;> cases (a1 == b1) <;> cases (a2 == b2) <;> cases (a3.toList == b3.toList) <;> simp
            rw [this, Bool.false_and]
            rfl
          | false =>
            go_wp2
            rw [HNX.out]
            go_roundw
            case measure => have := HLS.out; have := HLT.out; simp only [left, Int.toNat_natCast]; omega
            case rel =>
              refine ⟨i + 1, rfl, ⟨HLT.out⟩, ⟨?_⟩, ⟨pw_below_drewN (by rw [← HW.out]; exact HBW.out) _⟩⟩
              rw [← HST.out]
              have : nodeB more false ⟨a0, a1, a2, a3, a4⟩ ⟨b0, b1, b2, b3, V⟩ = true := by
                have h := HQ.out
                unfold nodeB
                revert h
                simp only [if_true, Bool.false_eq_true, if_false, beq_self_eq_true, Bool.and_true]
                cases (a0 == b0) <;> cases (a1 == b1) <;> cases (a2 == b2) <;> cases (a3.toList == b3.toList) <;> simp
              rw [this, Bool.true_and]
        | true =>
          simp only [if_true, Bool.false_eq_true, if_false] at hV
          subst hV
          rw [hW] at z0 z1 z2 z3 z4 y0 y1 y2 y3 y4
          clear hW
          go_wp2_with fail
          go_quiet (fail)
          obtain ⟨q, hq⟩ : ∃ q, q = (!(a0 == b0) || (!(a1 == b1) || (!(a2 == b2) || (!(a3.toList == b3.toList) || !(wrap64 (a4 + more) == b4))))) := ⟨_, rfl⟩
          rw [← hq]
          have HQ := Aside0.mk hq
          clear hq
          cases q with
          | true =>
            go_wp2
            go_ret
            refine ⟨?_, pw_below_drewN (by rw [← HW.out]; exact HBW.out) _⟩
            rw [← HST.out]
            have : nodeB more true ⟨a0, a1, a2, a3, a4⟩ ⟨b0, b1, b2, b3, b4⟩ = false := by
              have h := HQ.out
              unfold nodeB
              revert h
              simp only [if_true, Bool.false_eq_true, if_false, beq_self_eq_true, Bool.and_true]
              cases (a0 == b0) <;> cases (a1 == b1) <;> cases (a2 == b2) <;> cases (a3.toList == b3.toList) <;> cases (wrap64 (a4 + more) == b4) <;> simp
            rw [this, Bool.false_and]
            rfl
          | false =>
            go_wp2
            rw [HNX.out]
            go_roundw
            case measure => have := HLS.out; have := HLT.out; simp only [left, Int.toNat_natCast]; omega
            case rel =>
              refine ⟨i + 1, rfl, ⟨HLT.out⟩, ⟨?_⟩, ⟨pw_below_drewN (by rw [← HW.out]; exact HBW.out) _⟩⟩
              rw [← HST.out]
              have : nodeB more true ⟨a0, a1, a2, a3, a4⟩ ⟨b0, b1, b2, b3, b4⟩ = true := by
                have h := HQ.out
                unfold nodeB
                revert h
                simp only [if_true, Bool.false_eq_true, if_false, beq_self_eq_true, Bool.and_true]
                cases (a0 == b0) <;> cases (a1 == b1) <;> cases (a2 == b2) <;> cases (a3.toList == b3.toList) <;> cases (wrap64 (a4 + more) == b4) <;> simp
              rw [this, Bool.true_and]
      · have dl2 : decide ((i : Int) < (xs.length : Int)) = false := decide_eq_false (by omega)
        have hie : i = xs.length := by have := hi.out; omega
        have he' := he.out
        rw [hie, List.drop_length, HLE.out, List.drop_length] at he'
        have HE := Aside0.mk he'
        clear he' hie
        go_wp2
        go_ret
        exact ⟨by rw [← HE.out]; rfl, hb.out⟩
  · have d0 : ((xs.length : Int) != (ys.length : Int)) = true := bne_iff_ne.2 (by omega)
    have HF := Aside0.mk (allB_len (nodeB more pl) xs ys hl)
    clear hl
    go_enter Try.func17, Try.ntmps17
    go_wp2
    go_ret
    exact ⟨by unfold nodesB; rw [HF.out]; rfl, Below.refl _ _⟩
end Go.Proofs.Ytbdcndkafaajpaa.A
end
section
set_option linter.unusedVariables false
set_option linter.unusedSimpArgs false
namespace Go.Proofs.Ytbdcndkafaajpaa.A
open Go.RowKit Go.Proofs.Ytbdcndkafaajpaa.X Go.Proofs.YtbdcndkafaajpaaW.PrintWords Go.Proofs.YtbdcndkafaajpaaW.PrintLast Go.Proofs.YtbdcndkafaajpaaW.PrintMore
open Go.Proofs.Ytbdcndkafaajpaa.P (Nd EO Res hd isT isM takeM mxl comb mk1 StD VeD EvD Out overLex schemaO valueO)
def stepB (more : Int) (pl : Bool) (x y : StD) : Bool := x.k == y.k && (x.a.toList == y.a.toList && (x.b.toList == y.b.toList && (x.c.toList == y.c.toList && (x.sep.toList == y.sep.toList && (x.ty.toList == y.ty.toList && ((!pl || wrap64 (x.pl + more) == y.pl) && nodesB more pl x.val y.val))))))
def stepsB (more : Int) (pl : Bool) (xs ys : List StD) : Bool := allB (stepB more pl) xs ys
structure RdN (w : World) (d : StD) (x : StV) : Prop where
  k : x.k = d.k
  a : x.a = d.a
  b : x.b = d.b
  c : x.c = d.c
  sep : x.sep = d.sep
  ty : x.ty = d.ty
  n : x.val.n = d.val.length
  pl : x.pl = d.pl
  v : Kd.C kn w x.val.A d.val.length d.val
  mx : d.val.length ≤ 9223372036854775807
theorem RdN.below {w w' : World} {d : StD} {x : StV} (h : RdN w d x) (hb : Below w.heap.size w w') : RdN w' d x := ⟨h.k, h.a, h.b, h.c, h.sep, h.ty, h.n, h.pl, Kd.C_below h.v hb, h.mx⟩
theorem kst_open {w : World} {x : StV} {cs : List Value} (h : kst.K w x cs) : cs = stCs x := by
  obtain ⟨_, _, rfl, rfl, ⟨_, _, rfl, rfl, ⟨_, _, rfl, rfl, ⟨_, _, rfl, rfl, ⟨_, _, rfl, rfl, ⟨_, _, rfl, rfl, ⟨_, _, rfl, rfl, rfl⟩⟩⟩⟩⟩⟩⟩ := h
  exact rfl
def zS : StV := ⟨0, ⟨#[]⟩, ⟨#[]⟩, ⟨#[]⟩, ⟨#[]⟩, ⟨#[]⟩, ⟨none, 0, 0⟩, 0⟩
def zD : StD := ⟨0, ⟨#[]⟩, ⟨#[]⟩, ⟨#[]⟩, ⟨#[]⟩, ⟨#[]⟩, [], 0⟩
theorem All2.get {α β : Type} {R : α → β → Prop} (za : α) (zb : β) : ∀ {l : List α} {m : List β} (i : Nat), All2 R l m → i < l.length → R (l.getD i za) (m.getD i zb)
  | a :: l, b :: m, 0, h, _ => h.1
  | a :: l, b :: m, i + 1, h, hi => by
    have := All2.get za zb (l := l) (m := m) i h.2 (by simpa using hi)
    simpa using this
theorem at_S {w : World} {A : Option Addr} {n : Nat} {xs : List StV} {ds : List StD} (h : Kd.C kst w A n xs) (hr : All2 (RdN w) ds xs) (i : Nat) (h1 : i < n) (h2 : i < ds.length) : ∃ ad va vc, A = some ad ∧ (∀ w' : World, Below w.heap.size w w' → w'.cell? (ad.add (i * 8)) = some (.int .i64 (ds.getD i zD).k) ∧ w'.cell? ⟨(ad.add (i * 8)).block, (ad.add (i * 8)).off + 1, none⟩ = some (.string (ds.getD i zD).a) ∧ w'.cell? ⟨(ad.add (i * 8)).block, (ad.add (i * 8)).off + 2, none⟩ = some (.string (ds.getD i zD).b) ∧ w'.cell? ⟨(ad.add (i * 8)).block, (ad.add (i * 8)).off + 3, none⟩ = some (.string (ds.getD i zD).c) ∧ w'.cell? ⟨(ad.add (i * 8)).block, (ad.add (i * 8)).off + 4, none⟩ = some (.string (ds.getD i zD).sep) ∧ w'.cell? ⟨(ad.add (i * 8)).block, (ad.add (i * 8)).off + 5, none⟩ = some (.string (ds.getD i zD).ty) ∧ w'.cell? ⟨(ad.add (i * 8)).block, (ad.add (i * 8)).off + 6, none⟩ = some (.slice va (ds.getD i zD).val.length vc) ∧ w'.cell? ⟨(ad.add (i * 8)).block, (ad.add (i * 8)).off + 7, none⟩ = some (.int .i64 (ds.getD i zD).pl)) ∧ Kd.C kn w va (ds.getD i zD).val.length (ds.getD i zD).val ∧ (ds.getD i zD).val.length ≤ 9223372036854775807 := by
  have hR := All2.get zD zS i hr h2
  have hA : ∃ ad, A = some ad := by
    obtain ⟨ad, c, e, _⟩ := Kd.C_get h zS (i : Int) (by omega) (by omega)
    exact ⟨ad, e⟩
  obtain ⟨ad, e⟩ := hA
  refine ⟨ad, (xs.getD i zS).val.A, (xs.getD i zS).val.c, e, fun w' hb => ?_, hR.v, hR.mx⟩
  obtain ⟨ad', c, e', _, hK, hc0⟩ := Kd.C_get (Kd.C_below h hb) zS (i : Int) (by omega) (by omega)
  rw [e] at e'
  injection e' with e'
  subst e'
  rw [Int.toNat_natCast] at hK hc0
  have hc : ∀ j u, c[j]? = some u → w'.cell? (ad.add (i * 8 + j)) = some u := hc0
  obtain rfl := kst_open hK
  obtain ⟨q0, q1, q2, q3, q4, q5, q6, q7, _, _⟩ := hR
  rw [← q0, ← q1, ← q2, ← q3, ← q4, ← q5, ← q6, ← q7]
  exact ⟨hc 0 _ rfl, by rw [← add_field _ _ 1 (by omega)]; exact hc 1 _ rfl, by rw [← add_field _ _ 2 (by omega)]; exact hc 2 _ rfl, by rw [← add_field _ _ 3 (by omega)]; exact hc 3 _ rfl, by rw [← add_field _ _ 4 (by omega)]; exact hc 4 _ rfl, by rw [← add_field _ _ 5 (by omega)]; exact hc 5 _ rfl, by rw [← add_field _ _ 6 (by omega)]; exact hc 6 _ rfl, by rw [← add_field _ _ 7 (by omega)]; exact hc 7 _ rfl⟩
theorem stBox {W : World} {b : Nat} {v0 v1 v2 v3 v4 v5 v6 v7 : Value} (h : W.heap[b]? = some (.cells #[v0, v1, v2, v3, v4, v5, v6, v7] 62 (0, 0))) : W.cell? ⟨b, 0, none⟩ = some v0 ∧ W.cell? ⟨b, 1, none⟩ = some v1 ∧ W.cell? ⟨b, 2, none⟩ = some v2 ∧ W.cell? ⟨b, 3, none⟩ = some v3 ∧ W.cell? ⟨b, 4, none⟩ = some v4 ∧ W.cell? ⟨b, 5, none⟩ = some v5 ∧ W.cell? ⟨b, 6, none⟩ = some v6 ∧ W.cell? ⟨b, 7, none⟩ = some v7 :=
  ⟨(blk_cell h 0).trans rfl, (blk_cell h 1).trans rfl, (blk_cell h 2).trans rfl, (blk_cell h 3).trans rfl, (blk_cell h 4).trans rfl, (blk_cell h 5).trans rfl, (blk_cell h 6).trans rfl, (blk_cell h 7).trans rfl⟩
set_option maxHeartbeats 16000000 in
set_option maxRecDepth 100000 in
theorem steps_calls (w : World) (A1 A2 : Option Addr) (c1 c2 : Nat) (xs ys : List StV) (ds es : List StD) (more : Int) (pl : Bool) (h1 : Kd.C kst w A1 xs.length xs) (h2 : Kd.C kst w A2 ys.length ys) (r1 : All2 (RdN w) ds xs) (r2 : All2 (RdN w) es ys) (hx : xs.length ≤ 9223372036854775807) :
    Calls Try.prog 29 #[.slice A1 xs.length c1, .slice A2 ys.length c2, .int .i64 more, .bool pl] w fun e w' => e = .returned (.bool (stepsB more pl ds es)) ∧ Below w.heap.size w w' := by
  have H1 := Aside0.mk h1
  have H2 := Aside0.mk h2
  have R1 := Aside0.mk r1
  have R2 := Aside0.mk r2
  have L1 := Aside0.mk r1.len
  have L2 := Aside0.mk r2.len
  have HX := Aside0.mk hx
  clear h1 h2 r1 r2 hx
  by_cases hl : xs.length = ys.length
  · have d0 : ((xs.length : Int) != (ys.length : Int)) = false := by rw [hl]; simp
    have HLE := Aside0.mk hl
    clear hl
    go_enter Try.func29, Try.ntmps29
    go_wp2_with fail
    go_loopw [9] (fun ti wr => ∃ i : Nat, ti = .int .i64 (i : Int) ∧ Aside0 (i ≤ xs.length) ∧ Aside0 (allB (stepB more pl) (ds.drop i) (es.drop i) = stepsB more pl ds es) ∧ Aside0 (Below w.heap.size w wr)) (fun ti _ => xs.length - left ti)
    case atStart => exact ⟨0, rfl, ⟨Nat.zero_le _⟩, ⟨rfl⟩, ⟨Below.refl _ _⟩⟩
    case round =>
      obtain ⟨i, rfl, hi, he, hb⟩ := hrel
      by_cases hlt : i < xs.length
      · have dl : ((i : Int) < (xs.length : Int)) := by omega
        have dl2 : decide ((i : Int) < (xs.length : Int)) = true := decide_eq_true dl
        have hi2 : (i : Int) < (ys.length : Int) := by rw [← HLE.out]; exact dl
        have i1 : i < ds.length := by rw [L1.out]; exact hlt
        have i2 : i < es.length := by rw [L2.out, ← HLE.out]; exact hlt
        obtain ⟨ad1, va1, vc1, hA1, K1, N1, M1⟩ := at_S H1.out R1.out i hlt i1
        obtain ⟨ad2, va2, vc2, hA2, K2, N2, M2⟩ := at_S H2.out R2.out i (by rw [← HLE.out]; exact hlt) i2
        subst hA1 hA2
        have hst := he.out
        rw [allB_step (stepB more pl) zD i ds es i1 i2] at hst
        obtain ⟨D, hD⟩ : ∃ D, D = ds.getD i zD := ⟨_, rfl⟩
        obtain ⟨E, hE⟩ : ∃ E, E = es.getD i zD := ⟨_, rfl⟩
        rw [← hD] at K1 N1 M1 hst
        rw [← hE] at K2 N2 M2 hst
        obtain ⟨W1, hW1⟩ : ∃ W1, W1 = wr.alloc (.cells #[.int .i64 D.k, .string D.a, .string D.b, .string D.c, .string D.sep, .string D.ty, .slice va1 D.val.length vc1, .int .i64 D.pl] 62) := ⟨_, rfl⟩
        obtain ⟨W2, hW2⟩ : ∃ W2, W2 = W1.alloc (.cells #[.int .i64 E.k, .string E.a, .string E.b, .string E.c, .string E.sep, .string E.ty, .slice va2 E.val.length vc2, .int .i64 E.pl] 62) := ⟨_, rfl⟩
        obtain ⟨bx, hbx⟩ : ∃ bx, bx = wr.heap.size := ⟨_, rfl⟩
        obtain ⟨bx2, hbx2⟩ : ∃ bx2, bx2 = W1.heap.size := ⟨_, rfl⟩
        have hB1 : Below wr.heap.size wr W1 := by rw [hW1]; exact below_alloc (Below.refl _ _) _
        have hB2 : Below W1.heap.size W1 W2 := by rw [hW2]; exact below_alloc (Below.refl _ _) _
        have hX1 : W1.heap[bx]? = some (.cells #[.int .i64 D.k, .string D.a, .string D.b, .string D.c, .string D.sep, .string D.ty, .slice va1 D.val.length vc1, .int .i64 D.pl] 62 (0, 0)) := by rw [hW1, hbx]; exact blk_new _ _
        have hX2 : W2.heap[bx2]? = some (.cells #[.int .i64 E.k, .string E.a, .string E.b, .string E.c, .string E.sep, .string E.ty, .slice va2 E.val.length vc2, .int .i64 E.pl] 62 (0, 0)) := by rw [hW2, hbx2]; exact blk_new _ _
        obtain ⟨x0, x1, x2, x3, x4, x5, x6, x7⟩ := K1 wr hb.out
        obtain ⟨y0, y1, y2, y3, y4, y5, y6, y7⟩ := K2 W1 (below_step hb.out hB1)
        obtain ⟨p0, p1, p2, p3, p4, p5, p6, p7⟩ := stBox (blk_below hX1 hB2)
        obtain ⟨q0, q1, q2, q3, q4, q5, q6, q7⟩ := stBox hX2
        have hs1 : W1.heap.size = wr.heap.size + 1 := by rw [hW1]; exact Array.size_push _
        have HNC := Aside0.mk (nodes_calls W2 va1 va2 vc1 vc2 D.val E.val more pl (Kd.C_below N1 (below_step (below_step hb.out hB1) hB2)) (Kd.C_below N2 (below_step (below_step hb.out hB1) hB2)) M1)
        have hnx := nextN i xs.length HX.out hlt
        have hls := lessN i xs.length HX.out hlt
        have HST := Aside0.mk hst
        have HLT := Aside0.mk hlt
        have HNX := Aside0.mk hnx
        have HLS := Aside0.mk hls
        have HBW := Aside0.mk (below_step (below_step hb.out hB1) hB2)
        have HW2 := Aside0.mk (show W2 = (wr.alloc (.cells #[.int .i64 D.k, .string D.a, .string D.b, .string D.c, .string D.sep, .string D.ty, .slice va1 D.val.length vc1, .int .i64 D.pl] 62)).alloc (.cells #[.int .i64 E.k, .string E.a, .string E.b, .string E.c, .string E.sep, .string E.ty, .slice va2 E.val.length vc2, .int .i64 E.pl] 62) from by rw [hW2, hW1])
        rw [hbx2, hs1] at q0 q1 q2 q3 q4 q5 q6 q7
        rw [hbx] at p0 p1 p2 p3 p4 p5 p6 p7
        rw [hW2] at p0 p1 p2 p3 p4 p5 p6 p7 q0 q1 q2 q3 q4 q5 q6 q7
        rw [hW1] at p0 p1 p2 p3 p4 p5 p6 p7 q0 q1 q2 q3 q4 q5 q6 q7 y0 y1 y2 y3 y4 y5 y6 y7
        clear hst hlt hnx hls hW1 hW2 hB1 hB2 hX1 hX2 hs1 hbx hbx2 K1 K2 N1 N2 M1 M2 i1 i2 hD hE
        have FIN0 : Aside0 (∀ w' : World, Below W2.heap.size W2 w' → stepB more pl D E = false → (Ending.returned (.bool false) : Ending) = .returned (.bool (stepsB more pl ds es)) ∧ Below w.heap.size w w') := ⟨fun w' hb' hq => ⟨by rw [← HST.out, hq, Bool.false_and], below_step HBW.out hb'⟩⟩
        obtain ⟨t0, e0⟩ : ∃ t0, t0 = (D.k == E.k) := ⟨_, rfl⟩
        cases t0 with
        | false =>
          have d1 : (D.k != E.k) = true := by unfold bne; rw [← e0]; rfl
          have HE0 := Aside0.mk e0.symm
          clear e0
          go_wp2_with fail
          go_ret
          exact FIN0.out _ (by rw [← HW2.out]; exact Below.refl _ _) (by unfold stepB; simp only [HE0.out, Bool.false_and, Bool.true_and, Bool.and_false])
        | true =>
          have d1 : (D.k != E.k) = false := by unfold bne; rw [← e0]; rfl
          have HE0 := Aside0.mk e0.symm
          clear e0
          obtain ⟨t1, e1⟩ : ∃ t1, t1 = (D.a.toList == E.a.toList) := ⟨_, rfl⟩
          cases t1 with
          | false =>
            have HE1 := Aside0.mk e1.symm
            have g1 := e1.symm
            clear e1
            go_wp2_with fail
            go_ret
            exact FIN0.out _ (by rw [← HW2.out]; exact Below.refl _ _) (by unfold stepB; simp only [HE0.out, HE1.out, Bool.false_and, Bool.true_and, Bool.and_false])
          | true =>
            have HE1 := Aside0.mk e1.symm
            have g1 := e1.symm
            clear e1
            obtain ⟨t2, e2⟩ : ∃ t2, t2 = (D.b.toList == E.b.toList) := ⟨_, rfl⟩
            cases t2 with
            | false =>
              have HE2 := Aside0.mk e2.symm
              have g2 := e2.symm
              clear e2
              go_wp2_with fail
              go_ret
              exact FIN0.out _ (by rw [← HW2.out]; exact Below.refl _ _) (by unfold stepB; simp only [HE0.out, HE1.out, HE2.out, Bool.false_and, Bool.true_and, Bool.and_false])
            | true =>
              have HE2 := Aside0.mk e2.symm
              have g2 := e2.symm
              clear e2
              obtain ⟨t3, e3⟩ : ∃ t3, t3 = (D.c.toList == E.c.toList) := ⟨_, rfl⟩
              cases t3 with
              | false =>
                have HE3 := Aside0.mk e3.symm
                have g3 := e3.symm
                clear e3
                go_wp2_with fail
                go_ret
                exact FIN0.out _ (by rw [← HW2.out]; exact Below.refl _ _) (by unfold stepB; simp only [HE0.out, HE1.out, HE2.out, HE3.out, Bool.false_and, Bool.true_and, Bool.and_false])
              | true =>
                have HE3 := Aside0.mk e3.symm
                have g3 := e3.symm
                clear e3
                obtain ⟨t4, e4⟩ : ∃ t4, t4 = (D.sep.toList == E.sep.toList) := ⟨_, rfl⟩
                cases t4 with
                | false =>
                  have HE4 := Aside0.mk e4.symm
                  have g4 := e4.symm
                  clear e4
                  go_wp2_with fail
                  go_ret
                  exact FIN0.out _ (by rw [← HW2.out]; exact Below.refl _ _) (by unfold stepB; simp only [HE0.out, HE1.out, HE2.out, HE3.out, HE4.out, Bool.false_and, Bool.true_and, Bool.and_false])
                | true =>
                  have HE4 := Aside0.mk e4.symm
                  have g4 := e4.symm
                  clear e4
                  obtain ⟨t5, e5⟩ : ∃ t5, t5 = (D.ty.toList == E.ty.toList) := ⟨_, rfl⟩
                  cases t5 with
                  | false =>
                    have HE5 := Aside0.mk e5.symm
                    have g5 := e5.symm
                    clear e5
                    go_wp2_with fail
                    go_ret
                    exact FIN0.out _ (by rw [← HW2.out]; exact Below.refl _ _) (by unfold stepB; simp only [HE0.out, HE1.out, HE2.out, HE3.out, HE4.out, HE5.out, Bool.false_and, Bool.true_and, Bool.and_false])
                  | true =>
                    have HE5 := Aside0.mk e5.symm
                    have g5 := e5.symm
                    clear e5
                    cases pl with
                    | true =>
                      obtain ⟨t6, e6⟩ : ∃ t6, t6 = (wrap64 (D.pl + more) == E.pl) := ⟨_, rfl⟩
                      cases t6 with
                      | false =>
                        have d6 : (wrap64 (D.pl + more) != E.pl) = true := by unfold bne; rw [← e6]; rfl
                        have HE6 := Aside0.mk e6.symm
                        clear e6
                        go_wp2_with fail
                        go_ret
                        exact FIN0.out _ (by rw [← HW2.out]; exact Below.refl _ _) (by unfold stepB; simp only [HE0.out, HE1.out, HE2.out, HE3.out, HE4.out, HE5.out, HE6.out, Bool.not_true, Bool.or_false, Bool.false_or, Bool.false_and, Bool.true_and, Bool.and_false])
                      | true =>
                        have d6 : (wrap64 (D.pl + more) != E.pl) = false := by unfold bne; rw [← e6]; rfl
                        have HE6 := Aside0.mk e6.symm
                        clear e6
                        go_wp2_with fail
                        rw [← HW2.out]
                        refine HNC.out.mono ?_
                        rintro e w7 ⟨rfl, hb7⟩
                        have HB7 := Aside0.mk hb7
                        clear hb7
                        obtain ⟨tn, en⟩ : ∃ tn, tn = nodesB more true D.val E.val := ⟨_, rfl⟩
                        rw [← en]
                        have HEN := Aside0.mk en.symm
                        clear en
                        cases tn with
                        | false =>
                          go_wp2
                          go_ret
                          exact FIN0.out _ HB7.out (by unfold stepB; simp only [HE0.out, HE1.out, HE2.out, HE3.out, HE4.out, HE5.out, HE6.out, HEN.out, Bool.and_false])
                        | true =>
                          go_wp2
                          rw [HNX.out]
                          go_roundw
                          case measure => have := HLS.out; have := HLT.out; simp only [left, Int.toNat_natCast]; omega
                          case rel =>
                            refine ⟨i + 1, rfl, ⟨HLT.out⟩, ⟨?_⟩, ⟨below_step HBW.out HB7.out⟩⟩
                            rw [← HST.out]
                            have : stepB more true D E = true := by unfold stepB; simp only [HE0.out, HE1.out, HE2.out, HE3.out, HE4.out, HE5.out, HE6.out, HEN.out, Bool.and_true, Bool.true_and, Bool.not_true, Bool.not_false, Bool.or_true, Bool.true_or, Bool.false_or]
                            rw [this, Bool.true_and]
                    | false =>
                      go_wp2_with fail
                      rw [← HW2.out]
                      refine HNC.out.mono ?_
                      rintro e w7 ⟨rfl, hb7⟩
                      have HB7 := Aside0.mk hb7
                      clear hb7
                      obtain ⟨tn, en⟩ : ∃ tn, tn = nodesB more false D.val E.val := ⟨_, rfl⟩
                      rw [← en]
                      have HEN := Aside0.mk en.symm
                      clear en
                      cases tn with
                      | false =>
                        go_wp2
                        go_ret
                        exact FIN0.out _ HB7.out (by unfold stepB; simp only [HE0.out, HE1.out, HE2.out, HE3.out, HE4.out, HE5.out, HEN.out, Bool.and_false])
                      | true =>
                        go_wp2
                        rw [HNX.out]
                        go_roundw
                        case measure => have := HLS.out; have := HLT.out; simp only [left, Int.toNat_natCast]; omega
                        case rel =>
                          refine ⟨i + 1, rfl, ⟨HLT.out⟩, ⟨?_⟩, ⟨below_step HBW.out HB7.out⟩⟩
                          rw [← HST.out]
                          have : stepB more false D E = true := by unfold stepB; simp only [HE0.out, HE1.out, HE2.out, HE3.out, HE4.out, HE5.out, HEN.out, Bool.and_true, Bool.true_and, Bool.not_true, Bool.not_false, Bool.or_true, Bool.true_or, Bool.false_or]
                          rw [this, Bool.true_and]
      · have dl2 : decide ((i : Int) < (xs.length : Int)) = false := decide_eq_false (by omega)
        have hie : i = xs.length := by have := hi.out; omega
        have he' := he.out
        have l3 : xs.length = es.length := by rw [L2.out]; exact HLE.out
        rw [hie, ← L1.out, List.drop_length, L1.out, l3, List.drop_length] at he'
        have HE := Aside0.mk he'
        clear he' hie l3
        go_wp2
        go_ret
        exact ⟨by rw [← HE.out]; rfl, hb.out⟩
  · have d0 : ((xs.length : Int) != (ys.length : Int)) = true := bne_iff_ne.2 (by omega)
    have HF := Aside0.mk (allB_len (stepB more pl) ds es (by rw [L1.out, L2.out]; exact hl))
    clear hl
    go_enter Try.func29, Try.ntmps29
    go_wp2
    go_ret
    exact ⟨by unfold stepsB; rw [HF.out]; rfl, Below.refl _ _⟩
end Go.Proofs.Ytbdcndkafaajpaa.A
end
section
set_option linter.unusedVariables false
set_option linter.unusedSimpArgs false
namespace Go.Proofs.Ytbdcndkafaajpaa.A
open Go.RowKit Go.Proofs.Ytbdcndkafaajpaa.X Go.Proofs.YtbdcndkafaajpaaW.PrintWords Go.Proofs.YtbdcndkafaajpaaW.PrintLast Go.Proofs.YtbdcndkafaajpaaW.PrintMore
open Go.Proofs.Ytbdcndkafaajpaa.P (Nd EO Res hd isT isM takeM mxl comb mk1 StD VeD EvD Out overLex schemaO valueO)
def verB (more : Int) (pl : Bool) (x y : VeD) : Bool := x.num == y.num && ((!pl || wrap64 (x.pl + more) == y.pl) && stepsB more pl x.steps y.steps)
def evB (more : Int) (pl : Bool) (x y : EvD) : Bool := x.name.toList == y.name.toList && (x.vers.length == y.vers.length && ((!pl || wrap64 (x.pl + more) == y.pl) && allB (verB more pl) x.vers y.vers))
def eventsB (more : Int) (pl : Bool) (xs ys : List EvD) : Bool := allB (evB more pl) xs ys
structure RdV (w : World) (d : VeD) (x : VeV) : Prop where
  num : x.num = d.num
  n : x.steps.n = d.steps.length
  pl : x.pl = d.pl
  v : ∃ xs, Kd.C kst w x.steps.A xs.length xs ∧ All2 (RdN w) d.steps xs
  mx : d.steps.length ≤ 9223372036854775807
structure RdE (w : World) (d : EvD) (x : EvV) : Prop where
  name : x.name = d.name
  n : x.vers.n = d.vers.length
  pl : x.pl = d.pl
  v : ∃ xs, Kd.C kve w x.vers.A xs.length xs ∧ All2 (RdV w) d.vers xs
  mx : d.vers.length ≤ 9223372036854775807
theorem RdV.below {w w' : World} {d : VeD} {x : VeV} (h : RdV w d x) (hb : Below w.heap.size w w') : RdV w' d x := by
  obtain ⟨xs, h1, h2⟩ := h.v
  exact ⟨h.num, h.n, h.pl, ⟨xs, Kd.C_below h1 hb, h2.imp (fun _ _ h => h.below hb)⟩, h.mx⟩
theorem RdE.below {w w' : World} {d : EvD} {x : EvV} (h : RdE w d x) (hb : Below w.heap.size w w') : RdE w' d x := by
  obtain ⟨xs, h1, h2⟩ := h.v
  exact ⟨h.name, h.n, h.pl, ⟨xs, Kd.C_below h1 hb, h2.imp (fun _ _ h => h.below hb)⟩, h.mx⟩
section
variable {w : World} {base : Nat} {l : List Row}
theorem R_max9 {α : Type} {d : Kd α} {e : Nat} {ok : Nat → Prop} {v : Value} {xs : List α} (h : d.R e w base ok v xs) : xs.length ≤ 9223372036854775807 := by
  obtain ⟨A, c, he, hl, hr⟩ := Kd.R_reads h
  exact Kd.C_max hr
theorem rdN_of (hl : Rows w base l) {d : StD} {x : StV} (h : StT l d x) : RdN w d x := by
  obtain ⟨h1, h2, h3, h4, h5, h6, h7, h8⟩ := h
  have hr : Kd.R kn 49 w base (fun _ => True) x.val.v d.val := hl.holds _ h7
  obtain ⟨e1, e2, e3⟩ := Kd.R_reads' hr
  exact ⟨h1, h2, h3, h4, h5, h6, e1, h8, e3, R_max9 hr⟩
theorem rdV_of (hl : Rows w base l) {d : VeD} {x : VeV} (h : VeT l d x) : RdV w d x := by
  obtain ⟨h1, ⟨xs, h2, h3⟩, h4⟩ := h
  have hr : Kd.R kst 62 w base (fun _ => True) x.steps.v xs := hl.holds _ h2
  obtain ⟨e1, e2, e3⟩ := Kd.R_reads' hr
  exact ⟨h1, by rw [h3.len]; exact e1, h4, ⟨xs, e3, h3.imp (fun _ _ h => rdN_of hl h)⟩, by rw [h3.len]; exact R_max9 hr⟩
theorem rdE_of (hl : Rows w base l) {d : EvD} {x : EvV} (h : EvT l d x) : RdE w d x := by
  obtain ⟨h1, ⟨xs, h2, h3⟩, h4⟩ := h
  have hr : Kd.R kve 60 w base (fun _ => True) x.vers.v xs := hl.holds _ h2
  obtain ⟨e1, e2, e3⟩ := Kd.R_reads' hr
  exact ⟨h1, by rw [h3.len]; exact e1, h4, ⟨xs, e3, h3.imp (fun _ _ h => rdV_of hl h)⟩, by rw [h3.len]; exact R_max9 hr⟩
def RdS (w : World) (v : Sl) (ds : List EvD) : Prop := v.n = ds.length ∧ (∃ xs, Kd.C kev w v.A xs.length xs ∧ All2 (RdE w) ds xs) ∧ ds.length ≤ 9223372036854775807
theorem rdS_of (hl : Rows w base l) {v : Sl} {ds : List EvD} {xs : List EvV} (h : Row.e v xs ∈ l) (ha : All2 (EvT l) ds xs) : RdS w v ds := by
  have hr : Kd.R kev 57 w base (fun _ => True) v.v xs := hl.holds _ h
  obtain ⟨e1, e2, e3⟩ := Kd.R_reads' hr
  exact ⟨by rw [ha.len]; exact e1, ⟨xs, e3, ha.imp (fun _ _ h => rdE_of hl h)⟩, by rw [ha.len]; exact R_max9 hr⟩
theorem RdS.below {w' : World} {v : Sl} {ds : List EvD} (h : RdS w v ds) (hb : Below w.heap.size w w') : RdS w' v ds := by
  obtain ⟨h1, ⟨xs, h2, h3⟩, h4⟩ := h
  exact ⟨h1, ⟨xs, Kd.C_below h2 hb, h3.imp (fun _ _ h => h.below hb)⟩, h4⟩
theorem RdS.nil (w : World) : RdS w ⟨none, 0, 0⟩ [] := ⟨rfl, ⟨[], (Kd.R_reads' (Kd.R_nil kev 0 w 0 (fun _ => True))).2.2, trivial⟩, Nat.zero_le _⟩
end
end Go.Proofs.Ytbdcndkafaajpaa.A
end
section
set_option linter.unusedVariables false
set_option linter.unusedSimpArgs false
namespace Go.Proofs.Ytbdcndkafaajpaa.P
open Go.Proofs.Ytbdcndkafaajpaa.X Go.Proofs.Ytbdcndkafaajpaa.L Go.Proofs.Ytbdcndkafaajpaa.T
theorem lexEnds {off : Nat} {s : List UInt8} {ts : List L.Tok} (h : lx off s = .toks ts) : ∃ i, ts = i ++ [⟨0, [], 0, off + s.length, off + s.length⟩] ∧ ∀ t ∈ i.map toS, t.f0 ≠ 0 := by
  obtain ⟨i, e, hk, _⟩ := lx_join [] _ off s ts (Nat.le_refl _) h
  refine ⟨i, e, fun t ht => ?_⟩
  obtain ⟨u, hu, rfl⟩ := List.mem_map.1 ht
  have := hk u hu
  show (u.kind : Int) ≠ 0
  omega
theorem ends_of {off : Nat} {s : List UInt8} {ts : List L.Tok} (h : lx off s = .toks ts) : Ends (ts.map toS) := by
  obtain ⟨i, rfl, hk⟩ := lexEnds h
  exact ⟨i.map toS, _, by rw [List.map_append]; rfl, rfl, hk⟩
theorem schemaW_ne (ts : List Tk) : ∀ p, schemaW ts ≠ .bad 0 p := by
  unfold schemaW
  refine bind_ne (eventsW_ne _ _ _ (Nat.lt_succ_self _)) fun l r _ => bind_ne (fun p h => ?_) fun t r _ => ok_ne _ _
  unfold endW at h
  split at h
  · cases h
  · cases h
theorem valueW_ne (ts : List Tk) : ∀ p, valueW ts ≠ .bad 0 p := by
  unfold valueW
  refine bind_ne (exprW_ne _) fun l r _ => bind_ne (fun p h => ?_) fun t r _ => ok_ne _ _
  unfold endW at h
  split at h
  · cases h
  · cases h
end Go.Proofs.Ytbdcndkafaajpaa.P
namespace Go.Proofs.Ytbdcndkafaajpaa.A
open Go Go.RowKit Go.Proofs.Ytbdcndkafaajpaa.X Go.Proofs.Ytbdcndkafaajpaa.L Go.Proofs.Ytbdcndkafaajpaa.T
open Go.Proofs.Ytbdcndkafaajpaa.P (Nd EO Res hd isT isM takeM mxl comb mk1 StD VeD EvD Out overLex schemaO valueO)
theorem allB_of {α : Type} {R : α → α → Prop} {f : α → α → Bool} (h : ∀ a b, R a b → f a b = true) : ∀ {l m : List α}, P.Pw R l m → allB f l m = true
  | [], [], _ => rfl
  | a :: l, b :: m, k => by unfold allB; rw [h a b k.1, allB_of h k.2]; rfl
section
variable {ρ : Int → Int → Prop} {more : Int} {pl : Bool} (hρ : pl = true → ∀ p q, ρ p q → wrap64 (p + more) = q)
include hρ
theorem nodeB_of (x y : Nd) (h : P.NR ρ x y) : nodeB more pl x y = true := by
  unfold nodeB
  rw [h.f0, h.f1, h.f2, h.f3]
  simp only [beq_self_eq_true, Bool.true_and]
  cases pl with
  | false => simp
  | true => simp only [if_true]; rw [hρ rfl _ _ h.p]; exact beq_self_eq_true _
theorem nodesB_of {xs ys : List Nd} (h : P.Pw (P.NR ρ) xs ys) : nodesB more pl xs ys = true := allB_of (nodeB_of hρ) h
theorem plB_of {p q : Int} (h : ρ p q) : (!pl || wrap64 (p + more) == q) = true := by
  cases pl with
  | false => rfl
  | true => rw [hρ rfl _ _ h]; simp
theorem stepB_of (x y : StD) (h : P.SR ρ x y) : stepB more pl x y = true := by
  unfold stepB
  rw [h.k, h.a, h.b, h.c, h.sep, h.ty, plB_of hρ h.p, nodesB_of hρ h.val]
  simp only [beq_self_eq_true, Bool.true_and]
theorem verB_of (x y : VeD) (h : P.VR ρ x y) : verB more pl x y = true := by
  unfold verB
  have : stepsB more pl x.steps y.steps = true := allB_of (stepB_of hρ) h.steps
  rw [h.num, plB_of hρ h.p, this]
  simp only [beq_self_eq_true, Bool.true_and]
theorem evB_of (x y : EvD) (h : P.WR ρ x y) : evB more pl x y = true := by
  unfold evB
  rw [h.name, h.vers.len, plB_of hρ h.p, allB_of (verB_of hρ) h.vers]
  simp only [beq_self_eq_true, Bool.true_and]
theorem eventsB_of {xs ys : List EvD} (h : P.Pw (P.WR ρ) xs ys) : eventsB more pl xs ys = true := allB_of (evB_of hρ) h
end
end Go.Proofs.Ytbdcndkafaajpaa.A
end
section
set_option linter.unusedVariables false
set_option linter.unusedSimpArgs false
namespace Go.Proofs.Ytbdcndkafaajpaa.P
open Go.Proofs.Ytbdcndkafaajpaa.X Go.Proofs.Ytbdcndkafaajpaa.L Go.Proofs.Ytbdcndkafaajpaa.T
def isOp (t : Tk) : Bool := (t.f0 == 1) || (isMt 40 t || isMt 45 t)
def opn (ts : List Tk) : Nat := (ts.filter isOp).length
section
variable {α β : Type} {b b' : Prop}
def LV (b : Prop) (x y : Res α) : Prop := ∀ a r, x = .ok a r → y = .ok a r ∨ (¬ b ∧ ∃ p, y = .bad 91 p)
theorem LV.same (x : Res α) : LV b x x := fun a r h => .inl h
theorem LV.bind {x y : Res α} {g g' : α → List Tk → Res β} (h : LV b x y) (hg : ∀ a r, x = .ok a r → LV b (g a r) (g' a r)) : LV b (x.bind g) (y.bind g') := by
  intro c s hx
  obtain ⟨a, r, h1, h2⟩ := bind_ok hx
  rcases h a r h1 with e | ⟨hn, p, e⟩
  · rw [e]; exact hg a r h1 c s h2
  · rw [e]; exact .inr ⟨hn, p, rfl⟩
theorem LV.ite {c : Prop} [Decidable c] {x y x' y' : Res α} (h1 : c → LV b x y) (h2 : ¬ c → LV b x' y') : LV b (if c then x else x') (if c then y else y') := by
  by_cases hc : c
  · rw [if_pos hc, if_pos hc]; exact h1 hc
  · rw [if_neg hc, if_neg hc]; exact h2 hc
theorem LV.lev {lev : Nat} {p : Int} {x y : Res α} (hb : b → lev + 1 < 100) (h : LV b x y) : LV b (if 100 ≤ lev then .bad 91 p else x) (if 100 ≤ lev + 1 then .bad 91 p else y) := by
  intro a r hx
  by_cases hl : 100 ≤ lev
  · rw [if_pos hl] at hx; cases hx
  · rw [if_neg hl] at hx
    by_cases hl2 : 100 ≤ lev + 1
    · rw [if_pos hl2]; exact .inr ⟨fun k => by have := hb k; omega, p, rfl⟩
    · rw [if_neg hl2]; exact h a r hx
theorem LV.bad (e p : Int) (y : Res α) : LV b (.bad e p) y := fun a r h => by cases h
end
end Go.Proofs.Ytbdcndkafaajpaa.P
end
