/- The texts of the law PrintLeaves, put together by a program of this workplace out of its own texts and of what the kit's print has written: walks of the functions, plain laws. No condition but those in the theorems. -/
import Derived.Lib.Bytealg
import Derived.KernelRfl
import Derived.Test.YtaijoghpfobdbaaDoorBPrintLeaves0
import Derived.Test.YtaijoghpfobdbaaDoorBPrintLeaves1
section
namespace Go.Proofs.YtaijoghpfobdbaaDoor.X
open Go.RowKit Go.Proofs.YtaijoghpfobdbaaDoorW.PrintWords Go.Proofs.YtaijoghpfobdbaaDoorW.PrintLast Go.Proofs.YtaijoghpfobdbaaDoorW.PrintMore
attribute [local go_sem] max2_int min2_int max_two min_two max_three min_three max_four min_four   -- for this text's walks alone
set_option linter.unusedVariables false
set_option linter.unusedSimpArgs false
def lex_token.f (k : Nat) (a0 : ByteArray) (a1 : Int) : Option (Int × ByteArray × Int × Int × Int × Int × Int) := if 0 ≤ a1 then (if a1 < (a0.size : Int) then ((lex_isLetter.f (bt a0 a1)).bind fun t118 => (if t118 = true then ((lex_run.f a0 a1 79).bind fun t119 => (if a1 ≤ t119 then (if t119 ≤ (a0.size : Int) then (if ((a0.extract (a1 : Int).toNat (t119 : Int).toNat).size : Int) > 64 then (some (1, a0.extract (a1 : Int).toNat (t119 : Int).toNat, 0, a1, t119, a1, 111)) else (some (1, a0.extract (a1 : Int).toNat (t119 : Int).toNat, 0, a1, t119, 0, 0))) else (none)) else (none))) else ((lex_isDigit.f (bt a0 a1)).bind fun t120 => (if t120 = true then ((lex_run.f a0 a1 80).bind fun t121 => (if a1 ≤ t121 then (if t121 ≤ (a0.size : Int) then ((lex_number.f (a0.extract (a1 : Int).toNat (t121 : Int).toNat)).bind fun bt122 => (if bt122.2 = true then (some (2, (⟨#[]⟩ : ByteArray), bt122.1, a1, t121, 0, 0)) else (some (2, (⟨#[]⟩ : ByteArray), 0, a1, t121, a1, 111)))) else (none)) else (none))) else (if (bt a0 a1) = 34 then ((lex_text.f k a0 a1).bind fun bt124 => (some (bt124.1, bt124.2.1, bt124.2.2.1, bt124.2.2.2.1, bt124.2.2.2.2.1, bt124.2.2.2.2.2.1, bt124.2.2.2.2.2.2))) else ((strings_IndexByte.f (⟨#[123, 125, 40, 41, 58, 59, 44, 61, 43, 45, 42]⟩ : ByteArray) (bt a0 a1)).bind fun t131 => (if t131 ≥ 0 then (if a1 ≤ (wrap64 (a1 + 1)) then (if (wrap64 (a1 + 1)) ≤ (a0.size : Int) then (some (4, a0.extract (a1 : Int).toNat ((wrap64 (a1 + 1)) : Int).toNat, 0, a1, wrap64 (a1 + 1), 0, 0)) else (none)) else (none)) else (some (0, (⟨#[]⟩ : ByteArray), 0, a1, 0, a1, 80))))))))) else (none)) else (none)
def lex_token.T20 : Bool × List (List Nat × List Nat) := (true, [([], []), ([], []), ([], []), ([2], [2]), ([0, 1, 3], [0, 1, 3]), ([], []), ([5], [5]), ([], []), ([7], [7]), ([0, 1, 2, 3, 4, 7, 8], []), ([9, 4, 8, 0, 1, 2, 3, 4, 7, 8], [4, 9]), ([0, 1, 2, 3, 4, 5, 6, 7, 8, 9, 10], []), ([11, 6, 10, 0, 1, 2, 3, 4, 5, 6, 7, 8, 9, 10], [6, 11])])
def lex_token.B20 : List Nat := [0, 0, 0, 4, 15, 0, 32, 0, 128, 415, 927, 2047, 4095]
theorem lex_token.tab20 : rtab .any (opsOf Tryd.f46 20) = lex_token.T20 := by kernel_rfl
theorem lex_token.bits20 : waitsOk lex_token.T20.2 lex_token.B20 = true := by kernel_rfl
set_option maxHeartbeats 8000000 in
set_option maxRecDepth 100000 in
theorem lex_token.calls (k : Nat) (a0 : ByteArray) (a1 : Int) (r1 : Int) (r2 : ByteArray) (r3 : Int) (r4 : Int) (r5 : Int) (r6 : Int) (r7 : Int) (w : World) (h : lex_token.f k a0 a1 = some (r1, r2, r3, r4, r5, r6, r7)) :
    Calls Tryd.prog 46 #[.string a0, .int .i64 a1] w fun e w' => e = .returned (.tuple #[.agg #[.int .i64 r1, .string r2, .int .u64 r3, .int .i64 r4, .int .i64 r5], .int .i64 r6, .int .i64 r7]) ∧ Below w.heap.size w w' := by
  have hu63 := Tryd.underlying63
  have HB := Aside0.mk (Below.refl w.heap.size w)
  have H : (if 0 ≤ a1 then (if a1 < (a0.size : Int) then ((lex_isLetter.f (bt a0 a1)).bind fun t118 => (if t118 = true then ((lex_run.f a0 a1 79).bind fun t119 => (if a1 ≤ t119 then (if t119 ≤ (a0.size : Int) then (if ((a0.extract (a1 : Int).toNat (t119 : Int).toNat).size : Int) > 64 then (some (1, a0.extract (a1 : Int).toNat (t119 : Int).toNat, 0, a1, t119, a1, 111)) else (some (1, a0.extract (a1 : Int).toNat (t119 : Int).toNat, 0, a1, t119, 0, 0))) else (none)) else (none))) else ((lex_isDigit.f (bt a0 a1)).bind fun t120 => (if t120 = true then ((lex_run.f a0 a1 80).bind fun t121 => (if a1 ≤ t121 then (if t121 ≤ (a0.size : Int) then ((lex_number.f (a0.extract (a1 : Int).toNat (t121 : Int).toNat)).bind fun bt122 => (if bt122.2 = true then (some (2, (⟨#[]⟩ : ByteArray), bt122.1, a1, t121, 0, 0)) else (some (2, (⟨#[]⟩ : ByteArray), 0, a1, t121, a1, 111)))) else (none)) else (none))) else (if (bt a0 a1) = 34 then ((lex_text.f k a0 a1).bind fun bt124 => (some (bt124.1, bt124.2.1, bt124.2.2.1, bt124.2.2.2.1, bt124.2.2.2.2.1, bt124.2.2.2.2.2.1, bt124.2.2.2.2.2.2))) else ((strings_IndexByte.f (⟨#[123, 125, 40, 41, 58, 59, 44, 61, 43, 45, 42]⟩ : ByteArray) (bt a0 a1)).bind fun t131 => (if t131 ≥ 0 then (if a1 ≤ (wrap64 (a1 + 1)) then (if (wrap64 (a1 + 1)) ≤ (a0.size : Int) then (some (4, a0.extract (a1 : Int).toNat ((wrap64 (a1 + 1)) : Int).toNat, 0, a1, wrap64 (a1 + 1), 0, 0)) else (none)) else (none)) else (some (0, (⟨#[]⟩ : ByteArray), 0, a1, 0, a1, 80))))))))) else (none)) else (none)) = some (r1, r2, r3, r4, r5, r6, r7) := h
  clear h
  by_cases c3 : 0 ≤ a1
  · rw [if_pos c3] at H
    have c3b0 : decide (0 ≤ a1) = true := decide_eq_true c3
    clear c3
    by_cases c4 : a1 < (a0.size : Int)
    · rw [if_pos c4] at H
      have c4b0 : decide (a1 < (a0.size : Int)) = true := decide_eq_true c4
      clear c4
      replace H := Option.bind_eq_some_iff.mp H
      obtain ⟨t118, A60, H⟩ := H
      replace H : (if t118 = true then ((lex_run.f a0 a1 79).bind fun t119 => (if a1 ≤ t119 then (if t119 ≤ (a0.size : Int) then (if ((a0.extract (a1 : Int).toNat (t119 : Int).toNat).size : Int) > 64 then (some (1, a0.extract (a1 : Int).toNat (t119 : Int).toNat, 0, a1, t119, a1, 111)) else (some (1, a0.extract (a1 : Int).toNat (t119 : Int).toNat, 0, a1, t119, 0, 0))) else (none)) else (none))) else ((lex_isDigit.f (bt a0 a1)).bind fun t120 => (if t120 = true then ((lex_run.f a0 a1 80).bind fun t121 => (if a1 ≤ t121 then (if t121 ≤ (a0.size : Int) then ((lex_number.f (a0.extract (a1 : Int).toNat (t121 : Int).toNat)).bind fun bt122 => (if bt122.2 = true then (some (2, (⟨#[]⟩ : ByteArray), bt122.1, a1, t121, 0, 0)) else (some (2, (⟨#[]⟩ : ByteArray), 0, a1, t121, a1, 111)))) else (none)) else (none))) else (if (bt a0 a1) = 34 then ((lex_text.f k a0 a1).bind fun bt124 => (some (bt124.1, bt124.2.1, bt124.2.2.1, bt124.2.2.2.1, bt124.2.2.2.2.1, bt124.2.2.2.2.2.1, bt124.2.2.2.2.2.2))) else ((strings_IndexByte.f (⟨#[123, 125, 40, 41, 58, 59, 44, 61, 43, 45, 42]⟩ : ByteArray) (bt a0 a1)).bind fun t131 => (if t131 ≥ 0 then (if a1 ≤ (wrap64 (a1 + 1)) then (if (wrap64 (a1 + 1)) ≤ (a0.size : Int) then (some (4, a0.extract (a1 : Int).toNat ((wrap64 (a1 + 1)) : Int).toNat, 0, a1, wrap64 (a1 + 1), 0, 0)) else (none)) else (none)) else (some (0, (⟨#[]⟩ : ByteArray), 0, a1, 0, a1, 80)))))))) = some (r1, r2, r3, r4, r5, r6, r7) := H
      have A6 := Aside0.mk A60
      clear A60
      by_cases c7 : t118 = true
      · subst c7
        have H1 : ((lex_run.f a0 a1 79).bind fun t119 => (if a1 ≤ t119 then (if t119 ≤ (a0.size : Int) then (if ((a0.extract (a1 : Int).toNat (t119 : Int).toNat).size : Int) > 64 then (some (1, a0.extract (a1 : Int).toNat (t119 : Int).toNat, 0, a1, t119, a1, 111)) else (some (1, a0.extract (a1 : Int).toNat (t119 : Int).toNat, 0, a1, t119, 0, 0))) else (none)) else (none))) = some (r1, r2, r3, r4, r5, r6, r7) := by rw [if_pos rfl] at H; exact H
        clear H
        have H := H1
        clear H1
        replace H := Option.bind_eq_some_iff.mp H
        obtain ⟨t119, A80, H⟩ := H
        replace H : (if a1 ≤ t119 then (if t119 ≤ (a0.size : Int) then (if ((a0.extract (a1 : Int).toNat (t119 : Int).toNat).size : Int) > 64 then (some (1, a0.extract (a1 : Int).toNat (t119 : Int).toNat, 0, a1, t119, a1, 111)) else (some (1, a0.extract (a1 : Int).toNat (t119 : Int).toNat, 0, a1, t119, 0, 0))) else (none)) else (none)) = some (r1, r2, r3, r4, r5, r6, r7) := H
        have A8 := Aside0.mk A80
        clear A80
        have c9b0 := eq_true (of_decide_eq_true (by first | (with_reducible assumption) | assumption) : 0 ≤ a1)
        by_cases c10 : a1 ≤ t119
        · rw [if_pos c10] at H
          have c10b0 := eq_true c10
          have c10b1 : decide (a1 ≤ t119) = true := decide_eq_true c10
          clear c10
          by_cases c11 : t119 ≤ (a0.size : Int)
          · rw [if_pos c11] at H
            have c11b0 := eq_true c11
            have c11b1 : decide (t119 ≤ (a0.size : Int)) = true := decide_eq_true c11
            clear c11
            by_cases c12 : ((a0.extract (a1 : Int).toNat (t119 : Int).toNat).size : Int) > 64
            · rw [if_pos c12] at H
              have c12b0 : decide (64 < ((a0.extract (a1 : Int).toNat (t119 : Int).toNat).size : Int)) = true := decide_eq_true c12
              have c12s : decide (64 < (((t119 : Int).toNat - (a1 : Int).toNat : Nat) : Int)) = true := by have z_ : (a0.extract (a1 : Int).toNat (t119 : Int).toNat).size = (t119 : Int).toNat - (a1 : Int).toNat := (by rw [ByteArray.size_extract]; have q_ : (t119 : Int) ≤ (a0.size : Int) := of_decide_eq_true (by first | (with_reducible assumption) | assumption); omega); rw [← z_]; exact c12b0
              have c12b1 : decide (64 < (a0.extract (a1 : Int).toNat (t119 : Int).toNat).size) = true := decide_eq_true (by omega)
              clear c12
              simp only [Option.some.injEq, Prod.mk.injEq] at H
              obtain ⟨rfl, rfl, rfl, rfl, rfl, rfl, rfl⟩ := H
              go_enter Tryd.func46, Tryd.ntmps46
              go_wp2_with (first | ((with_reducible refine gate_dst (N := 4) rfl ?_); refine box_event ?hg (N := 4) ?hd (cs := #[.int .i64 0, .string (⟨#[]⟩ : ByteArray), .int .u64 0, .int .i64 0, .int .i64 0]) (t := 63) ?hr ?_; (case hd => rfl); (case hg => rfl); (case hr => first | (go_simp; done) | (go_simp; rfl)); intro gb116 hg w13 hbox hb; have n0_ := Aside0.mk (below_step (by repeat (first | (with_reducible first | exact HB.out | apply below_alloc | apply pw_below_drewN | apply below_drew1) | exact HB.out)) hb); have n1_ := Aside0.mk (hbox); have n2_ := Aside0.mk ((by rw [hg]; exact (below_size (by repeat (first | (with_reducible first | exact HB.out | apply below_alloc | apply pw_below_drewN | apply below_drew1) | exact HB.out))) : w.heap.size ≤ gb116)); have n3_ := Aside0.mk ((by rw [hg]; exact (below_size (by repeat (first | (with_reducible first | exact HB.out | apply below_alloc | apply pw_below_drewN | apply below_drew1) | exact HB.out))) : w.heap.size ≤ gb116)); clear HB; have HB := n0_; have BK116 := n1_; have GW116 := n2_; have GE116 := n3_; clear n0_ n1_ n2_ n3_; clear hb hbox hg) | ((with_reducible refine gate_dst (N := 7) rfl ?_); refine box_event ?hg (N := 7) ?hd (cs := #[.int .i64 0, .string (⟨#[]⟩ : ByteArray), .int .u64 0, .int .i64 0, .int .i64 0]) (t := 63) ?hr ?_; (case hd => rfl); (case hg => rfl); (case hr => first | (go_simp; done) | (go_simp; rfl)); intro gb117 hg w14 hbox hb; have n0_ := Aside0.mk (blk_below (g := gb116) (o := .cells #[.int .i64 0, .string (⟨#[]⟩ : ByteArray), .int .u64 0, .int .i64 0, .int .i64 0] 63 (0, 0)) (by (with_reducible repeat (first | refine blk_drewN ?_ _ | refine blk_drew ?_ | refine blk_alloc ?_ _)); exact BK116.out) hb); have n1_ := Aside0.mk (below_step (by repeat (first | (with_reducible first | exact HB.out | apply below_alloc | apply pw_below_drewN | apply below_drew1 | refine below_set ?_ GE116.out) | exact HB.out)) hb); have n2_ := Aside0.mk (hbox); have n3_ := Aside0.mk ((by rw [hg]; exact (below_size (by repeat (first | (with_reducible first | exact HB.out | apply below_alloc | apply pw_below_drewN | apply below_drew1 | refine below_set ?_ GE116.out) | exact HB.out))) : w.heap.size ≤ gb117)); have n4_ := Aside0.mk ((by rw [hg]; exact (below_size (by repeat (first | (with_reducible first | exact HB.out | apply below_alloc | apply pw_below_drewN | apply below_drew1 | refine below_set ?_ GE116.out) | exact HB.out))) : w.heap.size ≤ gb117)); have n5_ := Aside0.mk ((by rw [hg]; exact Nat.ne_of_lt (blk_lt (g := gb116) (o := .cells #[.int .i64 0, .string (⟨#[]⟩ : ByteArray), .int .u64 0, .int .i64 0, .int .i64 0] 63 (0, 0)) (by (with_reducible repeat (first | refine blk_drewN ?_ _ | refine blk_drew ?_ | refine blk_alloc ?_ _)); exact BK116.out)) : gb116 ≠ gb117)); have n6_ := Aside0.mk ((by rw [hg]; exact Nat.ne_of_gt (blk_lt (g := gb116) (o := .cells #[.int .i64 0, .string (⟨#[]⟩ : ByteArray), .int .u64 0, .int .i64 0, .int .i64 0] 63 (0, 0)) (by (with_reducible repeat (first | refine blk_drewN ?_ _ | refine blk_drew ?_ | refine blk_alloc ?_ _)); exact BK116.out)) : gb117 ≠ gb116)); clear BK116; clear HB; have BK116 := n0_; have HB := n1_; have BK117 := n2_; have GW117 := n3_; have GE117 := n4_; have NB116_117 := n5_; have NB117_116 := n6_; clear n0_ n1_ n2_ n3_ n4_ n5_ n6_; clear hb hbox hg; have hnb15 := NB117_116.out; have hnc15 := NB116_117.out; have hcz16_0 : w14.cell? ⟨gb117, 0, none⟩ = some (.int .i64 0) := (blk_cell BK117.out 0).trans rfl; have hcz16_1 : w14.cell? ⟨gb117, 1, none⟩ = some (.string (⟨#[]⟩ : ByteArray)) := (blk_cell BK117.out 1).trans rfl; have hcz16_2 : w14.cell? ⟨gb117, 2, none⟩ = some (.int .u64 0) := (blk_cell BK117.out 2).trans rfl; have hcz16_3 : w14.cell? ⟨gb117, 3, none⟩ = some (.int .i64 0) := (blk_cell BK117.out 3).trans rfl; have hcz16_4 : w14.cell? ⟨gb117, 4, none⟩ = some (.int .i64 0) := (blk_cell BK117.out 4).trans rfl; have hfz16_0 := blk_frozen BK117.out 0; have hfz16_1 := blk_frozen BK117.out 1; have hfz16_2 := blk_frozen BK117.out 2; have hfz16_3 := blk_frozen BK117.out 3; have hfz16_4 := blk_frozen BK117.out 4; have p5 : 0 ≤ (a1 : Int) := of_decide_eq_true (by first | (with_reducible assumption) | assumption); have q5 : a1 < (a0.size : Int) := of_decide_eq_true (by first | (with_reducible assumption) | assumption); have hx5 := bt_at a0 a1; replace p5 := eq_true p5; replace q5 := eq_true q5) | ((with_reducible refine gate_callee (f := 77) rfl ?_); refine goesL_ (some 20) rfl rfl Tryd.func77 (by kernel_rfl) rfl #[.int .u8 (bt a0 a1)] rfl (by (try simp only [List.map_toArray, List.map_cons, List.map_nil]); first | done | rfl | (simp only [List.length_drop, List.length_take]; rfl)) ?_; (with_reducible refine (lex_isLetter.calls (bt a0 a1) true _ A6.out).mono ?_); rintro e w' ⟨rfl, ⟨nd, rfl⟩⟩; refine ⟨_, rfl, ?_⟩) | ((with_reducible refine gate_callee (f := 78) rfl ?_); refine goesL_ (some 24) rfl rfl Tryd.func78 (by kernel_rfl) rfl #[.string a0, .int .i64 a1, .func (.func 79) #[] #[]] rfl (by (try simp only [List.map_toArray, List.map_cons, List.map_nil]); first | done | rfl | (simp only [List.length_drop, List.length_take]; rfl)) ?_; (with_reducible refine (lex_run.calls a0 a1 79 t119 _ A8.out).mono ?_); rintro e w99 ⟨rfl, hd99⟩; refine ⟨_, rfl, ?_⟩; have b99 : w99.heap[gb117]? = some (.cells #[.int .i64 1, .string (⟨#[]⟩ : ByteArray), .int .u64 0, .int .i64 a1, .int .i64 0] 63 (0, 0)) := (by refine blk_d0 hd99 ?_; (with_reducible repeat (first | refine blk_drewN ?_ _ | refine blk_drew ?_ | refine blk_alloc ?_ _)); refine blk_put (cs := #[.int .i64 0, .string (⟨#[]⟩ : ByteArray), .int .u64 0, .int .i64 a1, .int .i64 0]) ?_ 0 _ rfl; (with_reducible repeat (first | refine blk_drewN ?_ _ | refine blk_drew ?_ | refine blk_alloc ?_ _)); refine blk_put (cs := #[.int .i64 0, .string (⟨#[]⟩ : ByteArray), .int .u64 0, .int .i64 a1, .int .i64 0]) ?_ 4 _ rfl; (with_reducible repeat (first | refine blk_drewN ?_ _ | refine blk_drew ?_ | refine blk_alloc ?_ _)); refine blk_put (cs := #[.int .i64 0, .string (⟨#[]⟩ : ByteArray), .int .u64 0, .int .i64 0, .int .i64 0]) ?_ 3 _ rfl; (with_reducible repeat (first | refine blk_drewN ?_ _ | refine blk_drew ?_ | refine blk_alloc ?_ _)); refine blk_put (cs := #[.int .i64 0, .string (⟨#[]⟩ : ByteArray), .int .u64 0, .int .i64 0, .int .i64 0]) ?_ 2 _ rfl; (with_reducible repeat (first | refine blk_drewN ?_ _ | refine blk_drew ?_ | refine blk_alloc ?_ _)); refine blk_put (cs := #[.int .i64 0, .string (⟨#[]⟩ : ByteArray), .int .u64 0, .int .i64 0, .int .i64 0]) ?_ 1 _ rfl; (with_reducible repeat (first | refine blk_drewN ?_ _ | refine blk_drew ?_ | refine blk_alloc ?_ _)); refine blk_put (cs := #[.int .i64 0, .string (⟨#[]⟩ : ByteArray), .int .u64 0, .int .i64 0, .int .i64 0]) ?_ 0 _ rfl; (with_reducible repeat (first | refine blk_drewN ?_ _ | refine blk_drew ?_ | refine blk_alloc ?_ _)); exact BK117.out); have a99 : w99.heap[gb116]? = some (.cells #[.int .i64 0, .string (⟨#[]⟩ : ByteArray), .int .u64 0, .int .i64 0, .int .i64 0] 63 (0, 0)) := (by refine blk_d0 hd99 ?_; repeat (first | (with_reducible exact BK116.out) | (with_reducible refine blk_drewN ?_ _) | (with_reducible refine blk_far ?_ NB116_117.out _))); have hb99 := below_step (show Below w.heap.size w _ from (by repeat (first | (with_reducible first | exact HB.out | apply below_alloc | apply pw_below_drewN | apply below_drew1 | refine below_set ?_ GE117.out) | exact HB.out))) hd99.below; (try clear hcz16_0 hcz16_1 hcz16_2 hcz16_3 hcz16_4 hfz16_0 hfz16_1 hfz16_2 hfz16_3 hfz16_4); clear BK116 BK117 HB hd99; have BK116 := Aside0.mk a99; have BK117 := Aside0.mk b99; have HB := Aside0.mk hb99; have hcy_0 : w99.cell? ⟨gb117, 0, none⟩ = some (.int .i64 1) := (blk_cell b99 0).trans rfl; have hfy_0 := blk_frozen b99 0; have hcx_0 : w99.cell? ⟨gb116, 0, none⟩ = some (.int .i64 0) := (blk_cell a99 0).trans rfl; have hfx_0 := blk_frozen a99 0; have hcy_1 : w99.cell? ⟨gb117, 1, none⟩ = some (.string (⟨#[]⟩ : ByteArray)) := (blk_cell b99 1).trans rfl; have hfy_1 := blk_frozen b99 1; have hcx_1 : w99.cell? ⟨gb116, 1, none⟩ = some (.string (⟨#[]⟩ : ByteArray)) := (blk_cell a99 1).trans rfl; have hfx_1 := blk_frozen a99 1; have hcy_2 : w99.cell? ⟨gb117, 2, none⟩ = some (.int .u64 0) := (blk_cell b99 2).trans rfl; have hfy_2 := blk_frozen b99 2; have hcx_2 : w99.cell? ⟨gb116, 2, none⟩ = some (.int .u64 0) := (blk_cell a99 2).trans rfl; have hfx_2 := blk_frozen a99 2; have hcy_3 : w99.cell? ⟨gb117, 3, none⟩ = some (.int .i64 a1) := (blk_cell b99 3).trans rfl; have hfy_3 := blk_frozen b99 3; have hcx_3 : w99.cell? ⟨gb116, 3, none⟩ = some (.int .i64 0) := (blk_cell a99 3).trans rfl; have hfx_3 := blk_frozen a99 3; have hcy_4 : w99.cell? ⟨gb117, 4, none⟩ = some (.int .i64 0) := (blk_cell b99 4).trans rfl; have hfy_4 := blk_frozen b99 4; have hcx_4 : w99.cell? ⟨gb116, 4, none⟩ = some (.int .i64 0) := (blk_cell a99 4).trans rfl; have hfx_4 := blk_frozen a99 4; clear a99 b99 hb99))
              refine bodyPost_ret (results_ctt rfl _ _ gb116 63 #[.int .i64 1, .string (a0.extract (a1 : Int).toNat (t119 : Int).toNat), .int .u64 0, .int .i64 a1, .int .i64 t119] (0, 0) _ rfl (by (with_reducible repeat (first | refine blk_drewN ?_ _ | refine blk_drew ?_ | refine blk_alloc ?_ _)); refine blk_put (cs := #[.int .i64 1, .string (a0.extract (a1 : Int).toNat (t119 : Int).toNat), .int .u64 0, .int .i64 a1, .int .i64 0]) ?_ 4 _ rfl; (with_reducible repeat (first | refine blk_drewN ?_ _ | refine blk_drew ?_ | refine blk_alloc ?_ _)); refine blk_put (cs := #[.int .i64 1, .string (a0.extract (a1 : Int).toNat (t119 : Int).toNat), .int .u64 0, .int .i64 0, .int .i64 0]) ?_ 3 _ rfl; (with_reducible repeat (first | refine blk_drewN ?_ _ | refine blk_drew ?_ | refine blk_alloc ?_ _)); refine blk_put (cs := #[.int .i64 1, .string (a0.extract (a1 : Int).toNat (t119 : Int).toNat), .int .u64 0, .int .i64 0, .int .i64 0]) ?_ 2 _ rfl; (with_reducible repeat (first | refine blk_drewN ?_ _ | refine blk_drew ?_ | refine blk_alloc ?_ _)); refine blk_put (cs := #[.int .i64 1, .string (⟨#[]⟩ : ByteArray), .int .u64 0, .int .i64 0, .int .i64 0]) ?_ 1 _ rfl; (with_reducible repeat (first | refine blk_drewN ?_ _ | refine blk_drew ?_ | refine blk_alloc ?_ _)); refine blk_put (cs := #[.int .i64 0, .string (⟨#[]⟩ : ByteArray), .int .u64 0, .int .i64 0, .int .i64 0]) ?_ 0 _ rfl; (with_reducible repeat (first | refine blk_drewN ?_ _ | refine blk_drew ?_ | refine blk_alloc ?_ _)); (repeat (first | (with_reducible exact BK116.out) | (refine blk_far ?_ NB116_117.out _; (with_reducible repeat (first | refine blk_drewN ?_ _ | refine blk_drew ?_ | refine blk_alloc ?_ _))))); done) Tryd.underlying63 rfl (by kernel_rfl)) rfl ?_
              exact ⟨by first | rfl | (simp [errW_none, errW_some] <;> rfl) | (simp [*, errW_none, errW_some] <;> rfl), by repeat (first | (with_reducible first | exact HB.out | apply below_alloc | apply pw_below_drewN | apply below_drew1 | refine below_set ?_ GE116.out | refine below_set ?_ GE117.out) | exact HB.out)⟩
            · rw [if_neg c12] at H
              have c12b0 : decide (64 < ((a0.extract (a1 : Int).toNat (t119 : Int).toNat).size : Int)) = false := decide_eq_false c12
              have c12s : decide (64 < (((t119 : Int).toNat - (a1 : Int).toNat : Nat) : Int)) = false := by have z_ : (a0.extract (a1 : Int).toNat (t119 : Int).toNat).size = (t119 : Int).toNat - (a1 : Int).toNat := (by rw [ByteArray.size_extract]; have q_ : (t119 : Int) ≤ (a0.size : Int) := of_decide_eq_true (by first | (with_reducible assumption) | assumption); omega); rw [← z_]; exact c12b0
              have c12b1 : decide (64 < (a0.extract (a1 : Int).toNat (t119 : Int).toNat).size) = false := decide_eq_false (by omega)
              clear c12
              simp only [Option.some.injEq, Prod.mk.injEq] at H
              obtain ⟨rfl, rfl, rfl, rfl, rfl, rfl, rfl⟩ := H
              go_enter Tryd.func46, Tryd.ntmps46
              go_wp2_with (first | ((with_reducible refine gate_dst (N := 4) rfl ?_); refine box_event ?hg (N := 4) ?hd (cs := #[.int .i64 0, .string (⟨#[]⟩ : ByteArray), .int .u64 0, .int .i64 0, .int .i64 0]) (t := 63) ?hr ?_; (case hd => rfl); (case hg => rfl); (case hr => first | (go_simp; done) | (go_simp; rfl)); intro gb116 hg w18 hbox hb; have n0_ := Aside0.mk (below_step (by repeat (first | (with_reducible first | exact HB.out | apply below_alloc | apply pw_below_drewN | apply below_drew1) | exact HB.out)) hb); have n1_ := Aside0.mk (hbox); have n2_ := Aside0.mk ((by rw [hg]; exact (below_size (by repeat (first | (with_reducible first | exact HB.out | apply below_alloc | apply pw_below_drewN | apply below_drew1) | exact HB.out))) : w.heap.size ≤ gb116)); have n3_ := Aside0.mk ((by rw [hg]; exact (below_size (by repeat (first | (with_reducible first | exact HB.out | apply below_alloc | apply pw_below_drewN | apply below_drew1) | exact HB.out))) : w.heap.size ≤ gb116)); clear HB; have HB := n0_; have BK116 := n1_; have GW116 := n2_; have GE116 := n3_; clear n0_ n1_ n2_ n3_; clear hb hbox hg) | ((with_reducible refine gate_dst (N := 7) rfl ?_); refine box_event ?hg (N := 7) ?hd (cs := #[.int .i64 0, .string (⟨#[]⟩ : ByteArray), .int .u64 0, .int .i64 0, .int .i64 0]) (t := 63) ?hr ?_; (case hd => rfl); (case hg => rfl); (case hr => first | (go_simp; done) | (go_simp; rfl)); intro gb117 hg w19 hbox hb; have n0_ := Aside0.mk (blk_below (g := gb116) (o := .cells #[.int .i64 0, .string (⟨#[]⟩ : ByteArray), .int .u64 0, .int .i64 0, .int .i64 0] 63 (0, 0)) (by (with_reducible repeat (first | refine blk_drewN ?_ _ | refine blk_drew ?_ | refine blk_alloc ?_ _)); exact BK116.out) hb); have n1_ := Aside0.mk (below_step (by repeat (first | (with_reducible first | exact HB.out | apply below_alloc | apply pw_below_drewN | apply below_drew1 | refine below_set ?_ GE116.out) | exact HB.out)) hb); have n2_ := Aside0.mk (hbox); have n3_ := Aside0.mk ((by rw [hg]; exact (below_size (by repeat (first | (with_reducible first | exact HB.out | apply below_alloc | apply pw_below_drewN | apply below_drew1 | refine below_set ?_ GE116.out) | exact HB.out))) : w.heap.size ≤ gb117)); have n4_ := Aside0.mk ((by rw [hg]; exact (below_size (by repeat (first | (with_reducible first | exact HB.out | apply below_alloc | apply pw_below_drewN | apply below_drew1 | refine below_set ?_ GE116.out) | exact HB.out))) : w.heap.size ≤ gb117)); have n5_ := Aside0.mk ((by rw [hg]; exact Nat.ne_of_lt (blk_lt (g := gb116) (o := .cells #[.int .i64 0, .string (⟨#[]⟩ : ByteArray), .int .u64 0, .int .i64 0, .int .i64 0] 63 (0, 0)) (by (with_reducible repeat (first | refine blk_drewN ?_ _ | refine blk_drew ?_ | refine blk_alloc ?_ _)); exact BK116.out)) : gb116 ≠ gb117)); have n6_ := Aside0.mk ((by rw [hg]; exact Nat.ne_of_gt (blk_lt (g := gb116) (o := .cells #[.int .i64 0, .string (⟨#[]⟩ : ByteArray), .int .u64 0, .int .i64 0, .int .i64 0] 63 (0, 0)) (by (with_reducible repeat (first | refine blk_drewN ?_ _ | refine blk_drew ?_ | refine blk_alloc ?_ _)); exact BK116.out)) : gb117 ≠ gb116)); clear BK116; clear HB; have BK116 := n0_; have HB := n1_; have BK117 := n2_; have GW117 := n3_; have GE117 := n4_; have NB116_117 := n5_; have NB117_116 := n6_; clear n0_ n1_ n2_ n3_ n4_ n5_ n6_; clear hb hbox hg; have hnb20 := NB117_116.out; have hnc20 := NB116_117.out; have hcz21_0 : w19.cell? ⟨gb117, 0, none⟩ = some (.int .i64 0) := (blk_cell BK117.out 0).trans rfl; have hcz21_1 : w19.cell? ⟨gb117, 1, none⟩ = some (.string (⟨#[]⟩ : ByteArray)) := (blk_cell BK117.out 1).trans rfl; have hcz21_2 : w19.cell? ⟨gb117, 2, none⟩ = some (.int .u64 0) := (blk_cell BK117.out 2).trans rfl; have hcz21_3 : w19.cell? ⟨gb117, 3, none⟩ = some (.int .i64 0) := (blk_cell BK117.out 3).trans rfl; have hcz21_4 : w19.cell? ⟨gb117, 4, none⟩ = some (.int .i64 0) := (blk_cell BK117.out 4).trans rfl; have hfz21_0 := blk_frozen BK117.out 0; have hfz21_1 := blk_frozen BK117.out 1; have hfz21_2 := blk_frozen BK117.out 2; have hfz21_3 := blk_frozen BK117.out 3; have hfz21_4 := blk_frozen BK117.out 4; have p5 : 0 ≤ (a1 : Int) := of_decide_eq_true (by first | (with_reducible assumption) | assumption); have q5 : a1 < (a0.size : Int) := of_decide_eq_true (by first | (with_reducible assumption) | assumption); have hx5 := bt_at a0 a1; replace p5 := eq_true p5; replace q5 := eq_true q5) | ((with_reducible refine gate_callee (f := 77) rfl ?_); refine goesL_ (some 20) rfl rfl Tryd.func77 (by kernel_rfl) rfl #[.int .u8 (bt a0 a1)] rfl (by (try simp only [List.map_toArray, List.map_cons, List.map_nil]); first | done | rfl | (simp only [List.length_drop, List.length_take]; rfl)) ?_; (with_reducible refine (lex_isLetter.calls (bt a0 a1) true _ A6.out).mono ?_); rintro e w' ⟨rfl, ⟨nd, rfl⟩⟩; refine ⟨_, rfl, ?_⟩) | ((with_reducible refine gate_callee (f := 78) rfl ?_); refine goesL_ (some 24) rfl rfl Tryd.func78 (by kernel_rfl) rfl #[.string a0, .int .i64 a1, .func (.func 79) #[] #[]] rfl (by (try simp only [List.map_toArray, List.map_cons, List.map_nil]); first | done | rfl | (simp only [List.length_drop, List.length_take]; rfl)) ?_; (with_reducible refine (lex_run.calls a0 a1 79 t119 _ A8.out).mono ?_); rintro e w99 ⟨rfl, hd99⟩; refine ⟨_, rfl, ?_⟩; have b99 : w99.heap[gb117]? = some (.cells #[.int .i64 1, .string (⟨#[]⟩ : ByteArray), .int .u64 0, .int .i64 a1, .int .i64 0] 63 (0, 0)) := (by refine blk_d0 hd99 ?_; (with_reducible repeat (first | refine blk_drewN ?_ _ | refine blk_drew ?_ | refine blk_alloc ?_ _)); refine blk_put (cs := #[.int .i64 0, .string (⟨#[]⟩ : ByteArray), .int .u64 0, .int .i64 a1, .int .i64 0]) ?_ 0 _ rfl; (with_reducible repeat (first | refine blk_drewN ?_ _ | refine blk_drew ?_ | refine blk_alloc ?_ _)); refine blk_put (cs := #[.int .i64 0, .string (⟨#[]⟩ : ByteArray), .int .u64 0, .int .i64 a1, .int .i64 0]) ?_ 4 _ rfl; (with_reducible repeat (first | refine blk_drewN ?_ _ | refine blk_drew ?_ | refine blk_alloc ?_ _)); refine blk_put (cs := #[.int .i64 0, .string (⟨#[]⟩ : ByteArray), .int .u64 0, .int .i64 0, .int .i64 0]) ?_ 3 _ rfl; (with_reducible repeat (first | refine blk_drewN ?_ _ | refine blk_drew ?_ | refine blk_alloc ?_ _)); refine blk_put (cs := #[.int .i64 0, .string (⟨#[]⟩ : ByteArray), .int .u64 0, .int .i64 0, .int .i64 0]) ?_ 2 _ rfl; (with_reducible repeat (first | refine blk_drewN ?_ _ | refine blk_drew ?_ | refine blk_alloc ?_ _)); refine blk_put (cs := #[.int .i64 0, .string (⟨#[]⟩ : ByteArray), .int .u64 0, .int .i64 0, .int .i64 0]) ?_ 1 _ rfl; (with_reducible repeat (first | refine blk_drewN ?_ _ | refine blk_drew ?_ | refine blk_alloc ?_ _)); refine blk_put (cs := #[.int .i64 0, .string (⟨#[]⟩ : ByteArray), .int .u64 0, .int .i64 0, .int .i64 0]) ?_ 0 _ rfl; (with_reducible repeat (first | refine blk_drewN ?_ _ | refine blk_drew ?_ | refine blk_alloc ?_ _)); exact BK117.out); have a99 : w99.heap[gb116]? = some (.cells #[.int .i64 0, .string (⟨#[]⟩ : ByteArray), .int .u64 0, .int .i64 0, .int .i64 0] 63 (0, 0)) := (by refine blk_d0 hd99 ?_; repeat (first | (with_reducible exact BK116.out) | (with_reducible refine blk_drewN ?_ _) | (with_reducible refine blk_far ?_ NB116_117.out _))); have hb99 := below_step (show Below w.heap.size w _ from (by repeat (first | (with_reducible first | exact HB.out | apply below_alloc | apply pw_below_drewN | apply below_drew1 | refine below_set ?_ GE117.out) | exact HB.out))) hd99.below; (try clear hcz16_0 hcz16_1 hcz16_2 hcz16_3 hcz16_4 hfz16_0 hfz16_1 hfz16_2 hfz16_3 hfz16_4); clear BK116 BK117 HB hd99; have BK116 := Aside0.mk a99; have BK117 := Aside0.mk b99; have HB := Aside0.mk hb99; have hcy_0 : w99.cell? ⟨gb117, 0, none⟩ = some (.int .i64 1) := (blk_cell b99 0).trans rfl; have hfy_0 := blk_frozen b99 0; have hcx_0 : w99.cell? ⟨gb116, 0, none⟩ = some (.int .i64 0) := (blk_cell a99 0).trans rfl; have hfx_0 := blk_frozen a99 0; have hcy_1 : w99.cell? ⟨gb117, 1, none⟩ = some (.string (⟨#[]⟩ : ByteArray)) := (blk_cell b99 1).trans rfl; have hfy_1 := blk_frozen b99 1; have hcx_1 : w99.cell? ⟨gb116, 1, none⟩ = some (.string (⟨#[]⟩ : ByteArray)) := (blk_cell a99 1).trans rfl; have hfx_1 := blk_frozen a99 1; have hcy_2 : w99.cell? ⟨gb117, 2, none⟩ = some (.int .u64 0) := (blk_cell b99 2).trans rfl; have hfy_2 := blk_frozen b99 2; have hcx_2 : w99.cell? ⟨gb116, 2, none⟩ = some (.int .u64 0) := (blk_cell a99 2).trans rfl; have hfx_2 := blk_frozen a99 2; have hcy_3 : w99.cell? ⟨gb117, 3, none⟩ = some (.int .i64 a1) := (blk_cell b99 3).trans rfl; have hfy_3 := blk_frozen b99 3; have hcx_3 : w99.cell? ⟨gb116, 3, none⟩ = some (.int .i64 0) := (blk_cell a99 3).trans rfl; have hfx_3 := blk_frozen a99 3; have hcy_4 : w99.cell? ⟨gb117, 4, none⟩ = some (.int .i64 0) := (blk_cell b99 4).trans rfl; have hfy_4 := blk_frozen b99 4; have hcx_4 : w99.cell? ⟨gb116, 4, none⟩ = some (.int .i64 0) := (blk_cell a99 4).trans rfl; have hfx_4 := blk_frozen a99 4; clear a99 b99 hb99))
              refine bodyPost_ret (results_ctt rfl _ _ gb116 63 #[.int .i64 1, .string (a0.extract (a1 : Int).toNat (t119 : Int).toNat), .int .u64 0, .int .i64 a1, .int .i64 t119] (0, 0) _ rfl (by (with_reducible repeat (first | refine blk_drewN ?_ _ | refine blk_drew ?_ | refine blk_alloc ?_ _)); refine blk_put (cs := #[.int .i64 1, .string (a0.extract (a1 : Int).toNat (t119 : Int).toNat), .int .u64 0, .int .i64 a1, .int .i64 0]) ?_ 4 _ rfl; (with_reducible repeat (first | refine blk_drewN ?_ _ | refine blk_drew ?_ | refine blk_alloc ?_ _)); refine blk_put (cs := #[.int .i64 1, .string (a0.extract (a1 : Int).toNat (t119 : Int).toNat), .int .u64 0, .int .i64 0, .int .i64 0]) ?_ 3 _ rfl; (with_reducible repeat (first | refine blk_drewN ?_ _ | refine blk_drew ?_ | refine blk_alloc ?_ _)); refine blk_put (cs := #[.int .i64 1, .string (a0.extract (a1 : Int).toNat (t119 : Int).toNat), .int .u64 0, .int .i64 0, .int .i64 0]) ?_ 2 _ rfl; (with_reducible repeat (first | refine blk_drewN ?_ _ | refine blk_drew ?_ | refine blk_alloc ?_ _)); refine blk_put (cs := #[.int .i64 1, .string (⟨#[]⟩ : ByteArray), .int .u64 0, .int .i64 0, .int .i64 0]) ?_ 1 _ rfl; (with_reducible repeat (first | refine blk_drewN ?_ _ | refine blk_drew ?_ | refine blk_alloc ?_ _)); refine blk_put (cs := #[.int .i64 0, .string (⟨#[]⟩ : ByteArray), .int .u64 0, .int .i64 0, .int .i64 0]) ?_ 0 _ rfl; (with_reducible repeat (first | refine blk_drewN ?_ _ | refine blk_drew ?_ | refine blk_alloc ?_ _)); (repeat (first | (with_reducible exact BK116.out) | (refine blk_far ?_ NB116_117.out _; (with_reducible repeat (first | refine blk_drewN ?_ _ | refine blk_drew ?_ | refine blk_alloc ?_ _))))); done) Tryd.underlying63 rfl (by kernel_rfl)) rfl ?_
              exact ⟨by first | rfl | (simp [errW_none, errW_some] <;> rfl) | (simp [*, errW_none, errW_some] <;> rfl), by repeat (first | (with_reducible first | exact HB.out | apply below_alloc | apply pw_below_drewN | apply below_drew1 | refine below_set ?_ GE116.out | refine below_set ?_ GE117.out) | exact HB.out)⟩
          · rw [if_neg c11] at H
            exact absurd H (by simp)
        · rw [if_neg c10] at H
          exact absurd H (by simp)
      · replace c7 := Bool.eq_false_iff.mpr c7
        subst c7
        have H1 : ((lex_isDigit.f (bt a0 a1)).bind fun t120 => (if t120 = true then ((lex_run.f a0 a1 80).bind fun t121 => (if a1 ≤ t121 then (if t121 ≤ (a0.size : Int) then ((lex_number.f (a0.extract (a1 : Int).toNat (t121 : Int).toNat)).bind fun bt122 => (if bt122.2 = true then (some (2, (⟨#[]⟩ : ByteArray), bt122.1, a1, t121, 0, 0)) else (some (2, (⟨#[]⟩ : ByteArray), 0, a1, t121, a1, 111)))) else (none)) else (none))) else (if (bt a0 a1) = 34 then ((lex_text.f k a0 a1).bind fun bt124 => (some (bt124.1, bt124.2.1, bt124.2.2.1, bt124.2.2.2.1, bt124.2.2.2.2.1, bt124.2.2.2.2.2.1, bt124.2.2.2.2.2.2))) else ((strings_IndexByte.f (⟨#[123, 125, 40, 41, 58, 59, 44, 61, 43, 45, 42]⟩ : ByteArray) (bt a0 a1)).bind fun t131 => (if t131 ≥ 0 then (if a1 ≤ (wrap64 (a1 + 1)) then (if (wrap64 (a1 + 1)) ≤ (a0.size : Int) then (some (4, a0.extract (a1 : Int).toNat ((wrap64 (a1 + 1)) : Int).toNat, 0, a1, wrap64 (a1 + 1), 0, 0)) else (none)) else (none)) else (some (0, (⟨#[]⟩ : ByteArray), 0, a1, 0, a1, 80))))))) = some (r1, r2, r3, r4, r5, r6, r7) := by rw [if_neg (show ¬ (false = true) by decide)] at H; exact H
        clear H
        have H := H1
        clear H1
        replace H := Option.bind_eq_some_iff.mp H
        obtain ⟨t120, A230, H⟩ := H
        replace H : (if t120 = true then ((lex_run.f a0 a1 80).bind fun t121 => (if a1 ≤ t121 then (if t121 ≤ (a0.size : Int) then ((lex_number.f (a0.extract (a1 : Int).toNat (t121 : Int).toNat)).bind fun bt122 => (if bt122.2 = true then (some (2, (⟨#[]⟩ : ByteArray), bt122.1, a1, t121, 0, 0)) else (some (2, (⟨#[]⟩ : ByteArray), 0, a1, t121, a1, 111)))) else (none)) else (none))) else (if (bt a0 a1) = 34 then ((lex_text.f k a0 a1).bind fun bt124 => (some (bt124.1, bt124.2.1, bt124.2.2.1, bt124.2.2.2.1, bt124.2.2.2.2.1, bt124.2.2.2.2.2.1, bt124.2.2.2.2.2.2))) else ((strings_IndexByte.f (⟨#[123, 125, 40, 41, 58, 59, 44, 61, 43, 45, 42]⟩ : ByteArray) (bt a0 a1)).bind fun t131 => (if t131 ≥ 0 then (if a1 ≤ (wrap64 (a1 + 1)) then (if (wrap64 (a1 + 1)) ≤ (a0.size : Int) then (some (4, a0.extract (a1 : Int).toNat ((wrap64 (a1 + 1)) : Int).toNat, 0, a1, wrap64 (a1 + 1), 0, 0)) else (none)) else (none)) else (some (0, (⟨#[]⟩ : ByteArray), 0, a1, 0, a1, 80)))))) = some (r1, r2, r3, r4, r5, r6, r7) := H
        have A23 := Aside0.mk A230
        clear A230
        by_cases c24 : t120 = true
        · subst c24
          have H1 : ((lex_run.f a0 a1 80).bind fun t121 => (if a1 ≤ t121 then (if t121 ≤ (a0.size : Int) then ((lex_number.f (a0.extract (a1 : Int).toNat (t121 : Int).toNat)).bind fun bt122 => (if bt122.2 = true then (some (2, (⟨#[]⟩ : ByteArray), bt122.1, a1, t121, 0, 0)) else (some (2, (⟨#[]⟩ : ByteArray), 0, a1, t121, a1, 111)))) else (none)) else (none))) = some (r1, r2, r3, r4, r5, r6, r7) := by rw [if_pos rfl] at H; exact H
          clear H
          have H := H1
          clear H1
          replace H := Option.bind_eq_some_iff.mp H
          obtain ⟨t121, A250, H⟩ := H
          replace H : (if a1 ≤ t121 then (if t121 ≤ (a0.size : Int) then ((lex_number.f (a0.extract (a1 : Int).toNat (t121 : Int).toNat)).bind fun bt122 => (if bt122.2 = true then (some (2, (⟨#[]⟩ : ByteArray), bt122.1, a1, t121, 0, 0)) else (some (2, (⟨#[]⟩ : ByteArray), 0, a1, t121, a1, 111)))) else (none)) else (none)) = some (r1, r2, r3, r4, r5, r6, r7) := H
          have A25 := Aside0.mk A250
          clear A250
          have c26b0 := eq_true (of_decide_eq_true (by first | (with_reducible assumption) | assumption) : 0 ≤ a1)
          by_cases c27 : a1 ≤ t121
          · rw [if_pos c27] at H
            have c27b0 := eq_true c27
            have c27b1 : decide (a1 ≤ t121) = true := decide_eq_true c27
            clear c27
            by_cases c28 : t121 ≤ (a0.size : Int)
            · rw [if_pos c28] at H
              have c28b0 := eq_true c28
              have c28b1 : decide (t121 ≤ (a0.size : Int)) = true := decide_eq_true c28
              clear c28
              replace H := Option.bind_eq_some_iff.mp H
              obtain ⟨⟨t122, t123⟩, A290, H⟩ := H
              replace H : (if t123 = true then (some (2, (⟨#[]⟩ : ByteArray), t122, a1, t121, 0, 0)) else (some (2, (⟨#[]⟩ : ByteArray), 0, a1, t121, a1, 111))) = some (r1, r2, r3, r4, r5, r6, r7) := H
              have A29 := Aside0.mk A290
              clear A290
              by_cases c30 : t123 = true
              · subst c30
                have H1 : (some (2, (⟨#[]⟩ : ByteArray), t122, a1, t121, 0, 0)) = some (r1, r2, r3, r4, r5, r6, r7) := by rw [if_pos rfl] at H; exact H
                clear H
                have H := H1
                clear H1
                simp only [Option.some.injEq, Prod.mk.injEq] at H
                obtain ⟨rfl, rfl, rfl, rfl, rfl, rfl, rfl⟩ := H
                go_enter Tryd.func46, Tryd.ntmps46
                go_wp2_with (first | ((with_reducible refine gate_dst (N := 4) rfl ?_); refine box_event ?hg (N := 4) ?hd (cs := #[.int .i64 0, .string (⟨#[]⟩ : ByteArray), .int .u64 0, .int .i64 0, .int .i64 0]) (t := 63) ?hr ?_; (case hd => rfl); (case hg => rfl); (case hr => first | (go_simp; done) | (go_simp; rfl)); intro gb116 hg w31 hbox hb; have n0_ := Aside0.mk (below_step (by repeat (first | (with_reducible first | exact HB.out | apply below_alloc | apply pw_below_drewN | apply below_drew1) | exact HB.out)) hb); have n1_ := Aside0.mk (hbox); have n2_ := Aside0.mk ((by rw [hg]; exact (below_size (by repeat (first | (with_reducible first | exact HB.out | apply below_alloc | apply pw_below_drewN | apply below_drew1) | exact HB.out))) : w.heap.size ≤ gb116)); have n3_ := Aside0.mk ((by rw [hg]; exact (below_size (by repeat (first | (with_reducible first | exact HB.out | apply below_alloc | apply pw_below_drewN | apply below_drew1) | exact HB.out))) : w.heap.size ≤ gb116)); clear HB; have HB := n0_; have BK116 := n1_; have GW116 := n2_; have GE116 := n3_; clear n0_ n1_ n2_ n3_; clear hb hbox hg) | ((with_reducible refine gate_dst (N := 7) rfl ?_); refine box_event ?hg (N := 7) ?hd (cs := #[.int .i64 0, .string (⟨#[]⟩ : ByteArray), .int .u64 0, .int .i64 0, .int .i64 0]) (t := 63) ?hr ?_; (case hd => rfl); (case hg => rfl); (case hr => first | (go_simp; done) | (go_simp; rfl)); intro gb117 hg w32 hbox hb; have n0_ := Aside0.mk (blk_below (g := gb116) (o := .cells #[.int .i64 0, .string (⟨#[]⟩ : ByteArray), .int .u64 0, .int .i64 0, .int .i64 0] 63 (0, 0)) (by (with_reducible repeat (first | refine blk_drewN ?_ _ | refine blk_drew ?_ | refine blk_alloc ?_ _)); exact BK116.out) hb); have n1_ := Aside0.mk (below_step (by repeat (first | (with_reducible first | exact HB.out | apply below_alloc | apply pw_below_drewN | apply below_drew1 | refine below_set ?_ GE116.out) | exact HB.out)) hb); have n2_ := Aside0.mk (hbox); have n3_ := Aside0.mk ((by rw [hg]; exact (below_size (by repeat (first | (with_reducible first | exact HB.out | apply below_alloc | apply pw_below_drewN | apply below_drew1 | refine below_set ?_ GE116.out) | exact HB.out))) : w.heap.size ≤ gb117)); have n4_ := Aside0.mk ((by rw [hg]; exact (below_size (by repeat (first | (with_reducible first | exact HB.out | apply below_alloc | apply pw_below_drewN | apply below_drew1 | refine below_set ?_ GE116.out) | exact HB.out))) : w.heap.size ≤ gb117)); have n5_ := Aside0.mk ((by rw [hg]; exact Nat.ne_of_lt (blk_lt (g := gb116) (o := .cells #[.int .i64 0, .string (⟨#[]⟩ : ByteArray), .int .u64 0, .int .i64 0, .int .i64 0] 63 (0, 0)) (by (with_reducible repeat (first | refine blk_drewN ?_ _ | refine blk_drew ?_ | refine blk_alloc ?_ _)); exact BK116.out)) : gb116 ≠ gb117)); have n6_ := Aside0.mk ((by rw [hg]; exact Nat.ne_of_gt (blk_lt (g := gb116) (o := .cells #[.int .i64 0, .string (⟨#[]⟩ : ByteArray), .int .u64 0, .int .i64 0, .int .i64 0] 63 (0, 0)) (by (with_reducible repeat (first | refine blk_drewN ?_ _ | refine blk_drew ?_ | refine blk_alloc ?_ _)); exact BK116.out)) : gb117 ≠ gb116)); clear BK116; clear HB; have BK116 := n0_; have HB := n1_; have BK117 := n2_; have GW117 := n3_; have GE117 := n4_; have NB116_117 := n5_; have NB117_116 := n6_; clear n0_ n1_ n2_ n3_ n4_ n5_ n6_; clear hb hbox hg; have hnb33 := NB117_116.out; have hnc33 := NB116_117.out; have hcz34_0 : w32.cell? ⟨gb117, 0, none⟩ = some (.int .i64 0) := (blk_cell BK117.out 0).trans rfl; have hcz34_1 : w32.cell? ⟨gb117, 1, none⟩ = some (.string (⟨#[]⟩ : ByteArray)) := (blk_cell BK117.out 1).trans rfl; have hcz34_2 : w32.cell? ⟨gb117, 2, none⟩ = some (.int .u64 0) := (blk_cell BK117.out 2).trans rfl; have hcz34_3 : w32.cell? ⟨gb117, 3, none⟩ = some (.int .i64 0) := (blk_cell BK117.out 3).trans rfl; have hcz34_4 : w32.cell? ⟨gb117, 4, none⟩ = some (.int .i64 0) := (blk_cell BK117.out 4).trans rfl; have hfz34_0 := blk_frozen BK117.out 0; have hfz34_1 := blk_frozen BK117.out 1; have hfz34_2 := blk_frozen BK117.out 2; have hfz34_3 := blk_frozen BK117.out 3; have hfz34_4 := blk_frozen BK117.out 4; have p5 : 0 ≤ (a1 : Int) := of_decide_eq_true (by first | (with_reducible assumption) | assumption); have q5 : a1 < (a0.size : Int) := of_decide_eq_true (by first | (with_reducible assumption) | assumption); have hx5 := bt_at a0 a1; replace p5 := eq_true p5; replace q5 := eq_true q5) | ((with_reducible refine gate_callee (f := 77) rfl ?_); refine goesL_ (some 20) rfl rfl Tryd.func77 (by kernel_rfl) rfl #[.int .u8 (bt a0 a1)] rfl (by (try simp only [List.map_toArray, List.map_cons, List.map_nil]); first | done | rfl | (simp only [List.length_drop, List.length_take]; rfl)) ?_; (with_reducible refine (lex_isLetter.calls (bt a0 a1) false _ A6.out).mono ?_); rintro e w' ⟨rfl, ⟨nd, rfl⟩⟩; refine ⟨_, rfl, ?_⟩) | ((with_reducible refine gate_callee (f := 80) rfl ?_); refine goesL_ (some 40) rfl rfl Tryd.func80 (by kernel_rfl) rfl #[.int .u8 (bt a0 a1)] rfl (by (try simp only [List.map_toArray, List.map_cons, List.map_nil]); first | done | rfl | (simp only [List.length_drop, List.length_take]; rfl)) ?_; (with_reducible refine (lex_isDigit.calls (bt a0 a1) true _ A23.out).mono ?_); rintro e w' ⟨rfl, ⟨nd, rfl⟩⟩; refine ⟨_, rfl, ?_⟩) | ((with_reducible refine gate_callee (f := 78) rfl ?_); refine goesL_ (some 44) rfl rfl Tryd.func78 (by kernel_rfl) rfl #[.string a0, .int .i64 a1, .func (.func 80) #[] #[]] rfl (by (try simp only [List.map_toArray, List.map_cons, List.map_nil]); first | done | rfl | (simp only [List.length_drop, List.length_take]; rfl)) ?_; (with_reducible refine (lex_run.calls a0 a1 80 t121 _ A25.out).mono ?_); rintro e w99 ⟨rfl, hd99⟩; refine ⟨_, rfl, ?_⟩; have b99 : w99.heap[gb117]? = some (.cells #[.int .i64 2, .string (⟨#[]⟩ : ByteArray), .int .u64 0, .int .i64 a1, .int .i64 0] 63 (0, 0)) := (by refine blk_d0 hd99 ?_; (with_reducible repeat (first | refine blk_drewN ?_ _ | refine blk_drew ?_ | refine blk_alloc ?_ _)); refine blk_put (cs := #[.int .i64 0, .string (⟨#[]⟩ : ByteArray), .int .u64 0, .int .i64 a1, .int .i64 0]) ?_ 0 _ rfl; (with_reducible repeat (first | refine blk_drewN ?_ _ | refine blk_drew ?_ | refine blk_alloc ?_ _)); refine blk_put (cs := #[.int .i64 0, .string (⟨#[]⟩ : ByteArray), .int .u64 0, .int .i64 a1, .int .i64 0]) ?_ 4 _ rfl; (with_reducible repeat (first | refine blk_drewN ?_ _ | refine blk_drew ?_ | refine blk_alloc ?_ _)); refine blk_put (cs := #[.int .i64 0, .string (⟨#[]⟩ : ByteArray), .int .u64 0, .int .i64 0, .int .i64 0]) ?_ 3 _ rfl; (with_reducible repeat (first | refine blk_drewN ?_ _ | refine blk_drew ?_ | refine blk_alloc ?_ _)); refine blk_put (cs := #[.int .i64 0, .string (⟨#[]⟩ : ByteArray), .int .u64 0, .int .i64 0, .int .i64 0]) ?_ 2 _ rfl; (with_reducible repeat (first | refine blk_drewN ?_ _ | refine blk_drew ?_ | refine blk_alloc ?_ _)); refine blk_put (cs := #[.int .i64 0, .string (⟨#[]⟩ : ByteArray), .int .u64 0, .int .i64 0, .int .i64 0]) ?_ 1 _ rfl; (with_reducible repeat (first | refine blk_drewN ?_ _ | refine blk_drew ?_ | refine blk_alloc ?_ _)); refine blk_put (cs := #[.int .i64 0, .string (⟨#[]⟩ : ByteArray), .int .u64 0, .int .i64 0, .int .i64 0]) ?_ 0 _ rfl; (with_reducible repeat (first | refine blk_drewN ?_ _ | refine blk_drew ?_ | refine blk_alloc ?_ _)); exact BK117.out); have a99 : w99.heap[gb116]? = some (.cells #[.int .i64 0, .string (⟨#[]⟩ : ByteArray), .int .u64 0, .int .i64 0, .int .i64 0] 63 (0, 0)) := (by refine blk_d0 hd99 ?_; repeat (first | (with_reducible exact BK116.out) | (with_reducible refine blk_drewN ?_ _) | (with_reducible refine blk_far ?_ NB116_117.out _))); have hb99 := below_step (show Below w.heap.size w _ from (by repeat (first | (with_reducible first | exact HB.out | apply below_alloc | apply pw_below_drewN | apply below_drew1 | refine below_set ?_ GE117.out) | exact HB.out))) hd99.below; (try clear hcz16_0 hcz16_1 hcz16_2 hcz16_3 hcz16_4 hfz16_0 hfz16_1 hfz16_2 hfz16_3 hfz16_4); clear BK116 BK117 HB hd99; have BK116 := Aside0.mk a99; have BK117 := Aside0.mk b99; have HB := Aside0.mk hb99; have hcy_0 : w99.cell? ⟨gb117, 0, none⟩ = some (.int .i64 2) := (blk_cell b99 0).trans rfl; have hfy_0 := blk_frozen b99 0; have hcx_0 : w99.cell? ⟨gb116, 0, none⟩ = some (.int .i64 0) := (blk_cell a99 0).trans rfl; have hfx_0 := blk_frozen a99 0; have hcy_1 : w99.cell? ⟨gb117, 1, none⟩ = some (.string (⟨#[]⟩ : ByteArray)) := (blk_cell b99 1).trans rfl; have hfy_1 := blk_frozen b99 1; have hcx_1 : w99.cell? ⟨gb116, 1, none⟩ = some (.string (⟨#[]⟩ : ByteArray)) := (blk_cell a99 1).trans rfl; have hfx_1 := blk_frozen a99 1; have hcy_2 : w99.cell? ⟨gb117, 2, none⟩ = some (.int .u64 0) := (blk_cell b99 2).trans rfl; have hfy_2 := blk_frozen b99 2; have hcx_2 : w99.cell? ⟨gb116, 2, none⟩ = some (.int .u64 0) := (blk_cell a99 2).trans rfl; have hfx_2 := blk_frozen a99 2; have hcy_3 : w99.cell? ⟨gb117, 3, none⟩ = some (.int .i64 a1) := (blk_cell b99 3).trans rfl; have hfy_3 := blk_frozen b99 3; have hcx_3 : w99.cell? ⟨gb116, 3, none⟩ = some (.int .i64 0) := (blk_cell a99 3).trans rfl; have hfx_3 := blk_frozen a99 3; have hcy_4 : w99.cell? ⟨gb117, 4, none⟩ = some (.int .i64 0) := (blk_cell b99 4).trans rfl; have hfy_4 := blk_frozen b99 4; have hcx_4 : w99.cell? ⟨gb116, 4, none⟩ = some (.int .i64 0) := (blk_cell a99 4).trans rfl; have hfx_4 := blk_frozen a99 4; clear a99 b99 hb99) | ((with_reducible refine gate_callee (f := 81) rfl ?_); refine goesL_ (some 52) rfl rfl Tryd.func81 (by kernel_rfl) rfl #[.string (a0.extract (a1 : Int).toNat (t121 : Int).toNat)] rfl (by (try simp only [List.map_toArray, List.map_cons, List.map_nil]); first | done | rfl | (simp only [List.length_drop, List.length_take]; rfl)) ?_; (with_reducible refine (lex_number.calls (a0.extract (a1 : Int).toNat (t121 : Int).toNat) t122 true _ A29.out).mono ?_); rintro e w' ⟨rfl, ⟨nd, rfl⟩⟩; refine ⟨_, rfl, ?_⟩; have hcz35_0 : w99.cell? ⟨gb116, 0, none⟩ = some (.int .i64 0) := (blk_cell BK116.out 0).trans rfl; have hcz35_1 : w99.cell? ⟨gb116, 1, none⟩ = some (.string (⟨#[]⟩ : ByteArray)) := (blk_cell BK116.out 1).trans rfl; have hcz35_2 : w99.cell? ⟨gb116, 2, none⟩ = some (.int .u64 0) := (blk_cell BK116.out 2).trans rfl; have hcz35_3 : w99.cell? ⟨gb116, 3, none⟩ = some (.int .i64 0) := (blk_cell BK116.out 3).trans rfl; have hcz35_4 : w99.cell? ⟨gb116, 4, none⟩ = some (.int .i64 0) := (blk_cell BK116.out 4).trans rfl; have hfz35_0 := blk_frozen BK116.out 0; have hfz35_1 := blk_frozen BK116.out 1; have hfz35_2 := blk_frozen BK116.out 2; have hfz35_3 := blk_frozen BK116.out 3; have hfz35_4 := blk_frozen BK116.out 4))
                refine bodyPost_ret (results_ctt rfl _ _ gb116 63 #[.int .i64 2, .string (⟨#[]⟩ : ByteArray), .int .u64 t122, .int .i64 a1, .int .i64 t121] (0, 0) _ rfl (by (with_reducible repeat (first | refine blk_drewN ?_ _ | refine blk_drew ?_ | refine blk_alloc ?_ _)); refine blk_put (cs := #[.int .i64 2, .string (⟨#[]⟩ : ByteArray), .int .u64 t122, .int .i64 a1, .int .i64 0]) ?_ 4 _ rfl; (with_reducible repeat (first | refine blk_drewN ?_ _ | refine blk_drew ?_ | refine blk_alloc ?_ _)); refine blk_put (cs := #[.int .i64 2, .string (⟨#[]⟩ : ByteArray), .int .u64 t122, .int .i64 0, .int .i64 0]) ?_ 3 _ rfl; (with_reducible repeat (first | refine blk_drewN ?_ _ | refine blk_drew ?_ | refine blk_alloc ?_ _)); refine blk_put (cs := #[.int .i64 2, .string (⟨#[]⟩ : ByteArray), .int .u64 0, .int .i64 0, .int .i64 0]) ?_ 2 _ rfl; (with_reducible repeat (first | refine blk_drewN ?_ _ | refine blk_drew ?_ | refine blk_alloc ?_ _)); refine blk_put (cs := #[.int .i64 2, .string (⟨#[]⟩ : ByteArray), .int .u64 0, .int .i64 0, .int .i64 0]) ?_ 1 _ rfl; (with_reducible repeat (first | refine blk_drewN ?_ _ | refine blk_drew ?_ | refine blk_alloc ?_ _)); refine blk_put (cs := #[.int .i64 0, .string (⟨#[]⟩ : ByteArray), .int .u64 0, .int .i64 0, .int .i64 0]) ?_ 0 _ rfl; (with_reducible repeat (first | refine blk_drewN ?_ _ | refine blk_drew ?_ | refine blk_alloc ?_ _)); (repeat (first | (with_reducible exact BK116.out) | (refine blk_far ?_ NB116_117.out _; (with_reducible repeat (first | refine blk_drewN ?_ _ | refine blk_drew ?_ | refine blk_alloc ?_ _))))); done) Tryd.underlying63 rfl (by kernel_rfl)) rfl ?_
                exact ⟨by first | rfl | (simp [errW_none, errW_some] <;> rfl) | (simp [*, errW_none, errW_some] <;> rfl), by repeat (first | (with_reducible first | exact HB.out | apply below_alloc | apply pw_below_drewN | apply below_drew1 | refine below_set ?_ GE116.out | refine below_set ?_ GE117.out) | exact HB.out)⟩
              · replace c30 := Bool.eq_false_iff.mpr c30
                subst c30
                have H1 : (some (2, (⟨#[]⟩ : ByteArray), 0, a1, t121, a1, 111)) = some (r1, r2, r3, r4, r5, r6, r7) := by rw [if_neg (show ¬ (false = true) by decide)] at H; exact H
                clear H
                have H := H1
                clear H1
                simp only [Option.some.injEq, Prod.mk.injEq] at H
                obtain ⟨rfl, rfl, rfl, rfl, rfl, rfl, rfl⟩ := H
                go_enter Tryd.func46, Tryd.ntmps46
                go_wp2_with (first | ((with_reducible refine gate_dst (N := 4) rfl ?_); refine box_event ?hg (N := 4) ?hd (cs := #[.int .i64 0, .string (⟨#[]⟩ : ByteArray), .int .u64 0, .int .i64 0, .int .i64 0]) (t := 63) ?hr ?_; (case hd => rfl); (case hg => rfl); (case hr => first | (go_simp; done) | (go_simp; rfl)); intro gb116 hg w36 hbox hb; have n0_ := Aside0.mk (below_step (by repeat (first | (with_reducible first | exact HB.out | apply below_alloc | apply pw_below_drewN | apply below_drew1) | exact HB.out)) hb); have n1_ := Aside0.mk (hbox); have n2_ := Aside0.mk ((by rw [hg]; exact (below_size (by repeat (first | (with_reducible first | exact HB.out | apply below_alloc | apply pw_below_drewN | apply below_drew1) | exact HB.out))) : w.heap.size ≤ gb116)); have n3_ := Aside0.mk ((by rw [hg]; exact (below_size (by repeat (first | (with_reducible first | exact HB.out | apply below_alloc | apply pw_below_drewN | apply below_drew1) | exact HB.out))) : w.heap.size ≤ gb116)); clear HB; have HB := n0_; have BK116 := n1_; have GW116 := n2_; have GE116 := n3_; clear n0_ n1_ n2_ n3_; clear hb hbox hg) | ((with_reducible refine gate_dst (N := 7) rfl ?_); refine box_event ?hg (N := 7) ?hd (cs := #[.int .i64 0, .string (⟨#[]⟩ : ByteArray), .int .u64 0, .int .i64 0, .int .i64 0]) (t := 63) ?hr ?_; (case hd => rfl); (case hg => rfl); (case hr => first | (go_simp; done) | (go_simp; rfl)); intro gb117 hg w37 hbox hb; have n0_ := Aside0.mk (blk_below (g := gb116) (o := .cells #[.int .i64 0, .string (⟨#[]⟩ : ByteArray), .int .u64 0, .int .i64 0, .int .i64 0] 63 (0, 0)) (by (with_reducible repeat (first | refine blk_drewN ?_ _ | refine blk_drew ?_ | refine blk_alloc ?_ _)); exact BK116.out) hb); have n1_ := Aside0.mk (below_step (by repeat (first | (with_reducible first | exact HB.out | apply below_alloc | apply pw_below_drewN | apply below_drew1 | refine below_set ?_ GE116.out) | exact HB.out)) hb); have n2_ := Aside0.mk (hbox); have n3_ := Aside0.mk ((by rw [hg]; exact (below_size (by repeat (first | (with_reducible first | exact HB.out | apply below_alloc | apply pw_below_drewN | apply below_drew1 | refine below_set ?_ GE116.out) | exact HB.out))) : w.heap.size ≤ gb117)); have n4_ := Aside0.mk ((by rw [hg]; exact (below_size (by repeat (first | (with_reducible first | exact HB.out | apply below_alloc | apply pw_below_drewN | apply below_drew1 | refine below_set ?_ GE116.out) | exact HB.out))) : w.heap.size ≤ gb117)); have n5_ := Aside0.mk ((by rw [hg]; exact Nat.ne_of_lt (blk_lt (g := gb116) (o := .cells #[.int .i64 0, .string (⟨#[]⟩ : ByteArray), .int .u64 0, .int .i64 0, .int .i64 0] 63 (0, 0)) (by (with_reducible repeat (first | refine blk_drewN ?_ _ | refine blk_drew ?_ | refine blk_alloc ?_ _)); exact BK116.out)) : gb116 ≠ gb117)); have n6_ := Aside0.mk ((by rw [hg]; exact Nat.ne_of_gt (blk_lt (g := gb116) (o := .cells #[.int .i64 0, .string (⟨#[]⟩ : ByteArray), .int .u64 0, .int .i64 0, .int .i64 0] 63 (0, 0)) (by (with_reducible repeat (first | refine blk_drewN ?_ _ | refine blk_drew ?_ | refine blk_alloc ?_ _)); exact BK116.out)) : gb117 ≠ gb116)); clear BK116; clear HB; have BK116 := n0_; have HB := n1_; have BK117 := n2_; have GW117 := n3_; have GE117 := n4_; have NB116_117 := n5_; have NB117_116 := n6_; clear n0_ n1_ n2_ n3_ n4_ n5_ n6_; clear hb hbox hg; have hnb38 := NB117_116.out; have hnc38 := NB116_117.out; have hcz39_0 : w37.cell? ⟨gb117, 0, none⟩ = some (.int .i64 0) := (blk_cell BK117.out 0).trans rfl; have hcz39_1 : w37.cell? ⟨gb117, 1, none⟩ = some (.string (⟨#[]⟩ : ByteArray)) := (blk_cell BK117.out 1).trans rfl; have hcz39_2 : w37.cell? ⟨gb117, 2, none⟩ = some (.int .u64 0) := (blk_cell BK117.out 2).trans rfl; have hcz39_3 : w37.cell? ⟨gb117, 3, none⟩ = some (.int .i64 0) := (blk_cell BK117.out 3).trans rfl; have hcz39_4 : w37.cell? ⟨gb117, 4, none⟩ = some (.int .i64 0) := (blk_cell BK117.out 4).trans rfl; have hfz39_0 := blk_frozen BK117.out 0; have hfz39_1 := blk_frozen BK117.out 1; have hfz39_2 := blk_frozen BK117.out 2; have hfz39_3 := blk_frozen BK117.out 3; have hfz39_4 := blk_frozen BK117.out 4; have p5 : 0 ≤ (a1 : Int) := of_decide_eq_true (by first | (with_reducible assumption) | assumption); have q5 : a1 < (a0.size : Int) := of_decide_eq_true (by first | (with_reducible assumption) | assumption); have hx5 := bt_at a0 a1; replace p5 := eq_true p5; replace q5 := eq_true q5) | ((with_reducible refine gate_callee (f := 77) rfl ?_); refine goesL_ (some 20) rfl rfl Tryd.func77 (by kernel_rfl) rfl #[.int .u8 (bt a0 a1)] rfl (by (try simp only [List.map_toArray, List.map_cons, List.map_nil]); first | done | rfl | (simp only [List.length_drop, List.length_take]; rfl)) ?_; (with_reducible refine (lex_isLetter.calls (bt a0 a1) false _ A6.out).mono ?_); rintro e w' ⟨rfl, ⟨nd, rfl⟩⟩; refine ⟨_, rfl, ?_⟩) | ((with_reducible refine gate_callee (f := 80) rfl ?_); refine goesL_ (some 40) rfl rfl Tryd.func80 (by kernel_rfl) rfl #[.int .u8 (bt a0 a1)] rfl (by (try simp only [List.map_toArray, List.map_cons, List.map_nil]); first | done | rfl | (simp only [List.length_drop, List.length_take]; rfl)) ?_; (with_reducible refine (lex_isDigit.calls (bt a0 a1) true _ A23.out).mono ?_); rintro e w' ⟨rfl, ⟨nd, rfl⟩⟩; refine ⟨_, rfl, ?_⟩) | ((with_reducible refine gate_callee (f := 78) rfl ?_); refine goesL_ (some 44) rfl rfl Tryd.func78 (by kernel_rfl) rfl #[.string a0, .int .i64 a1, .func (.func 80) #[] #[]] rfl (by (try simp only [List.map_toArray, List.map_cons, List.map_nil]); first | done | rfl | (simp only [List.length_drop, List.length_take]; rfl)) ?_; (with_reducible refine (lex_run.calls a0 a1 80 t121 _ A25.out).mono ?_); rintro e w99 ⟨rfl, hd99⟩; refine ⟨_, rfl, ?_⟩; have b99 : w99.heap[gb117]? = some (.cells #[.int .i64 2, .string (⟨#[]⟩ : ByteArray), .int .u64 0, .int .i64 a1, .int .i64 0] 63 (0, 0)) := (by refine blk_d0 hd99 ?_; (with_reducible repeat (first | refine blk_drewN ?_ _ | refine blk_drew ?_ | refine blk_alloc ?_ _)); refine blk_put (cs := #[.int .i64 0, .string (⟨#[]⟩ : ByteArray), .int .u64 0, .int .i64 a1, .int .i64 0]) ?_ 0 _ rfl; (with_reducible repeat (first | refine blk_drewN ?_ _ | refine blk_drew ?_ | refine blk_alloc ?_ _)); refine blk_put (cs := #[.int .i64 0, .string (⟨#[]⟩ : ByteArray), .int .u64 0, .int .i64 a1, .int .i64 0]) ?_ 4 _ rfl; (with_reducible repeat (first | refine blk_drewN ?_ _ | refine blk_drew ?_ | refine blk_alloc ?_ _)); refine blk_put (cs := #[.int .i64 0, .string (⟨#[]⟩ : ByteArray), .int .u64 0, .int .i64 0, .int .i64 0]) ?_ 3 _ rfl; (with_reducible repeat (first | refine blk_drewN ?_ _ | refine blk_drew ?_ | refine blk_alloc ?_ _)); refine blk_put (cs := #[.int .i64 0, .string (⟨#[]⟩ : ByteArray), .int .u64 0, .int .i64 0, .int .i64 0]) ?_ 2 _ rfl; (with_reducible repeat (first | refine blk_drewN ?_ _ | refine blk_drew ?_ | refine blk_alloc ?_ _)); refine blk_put (cs := #[.int .i64 0, .string (⟨#[]⟩ : ByteArray), .int .u64 0, .int .i64 0, .int .i64 0]) ?_ 1 _ rfl; (with_reducible repeat (first | refine blk_drewN ?_ _ | refine blk_drew ?_ | refine blk_alloc ?_ _)); refine blk_put (cs := #[.int .i64 0, .string (⟨#[]⟩ : ByteArray), .int .u64 0, .int .i64 0, .int .i64 0]) ?_ 0 _ rfl; (with_reducible repeat (first | refine blk_drewN ?_ _ | refine blk_drew ?_ | refine blk_alloc ?_ _)); exact BK117.out); have a99 : w99.heap[gb116]? = some (.cells #[.int .i64 0, .string (⟨#[]⟩ : ByteArray), .int .u64 0, .int .i64 0, .int .i64 0] 63 (0, 0)) := (by refine blk_d0 hd99 ?_; repeat (first | (with_reducible exact BK116.out) | (with_reducible refine blk_drewN ?_ _) | (with_reducible refine blk_far ?_ NB116_117.out _))); have hb99 := below_step (show Below w.heap.size w _ from (by repeat (first | (with_reducible first | exact HB.out | apply below_alloc | apply pw_below_drewN | apply below_drew1 | refine below_set ?_ GE117.out) | exact HB.out))) hd99.below; (try clear hcz16_0 hcz16_1 hcz16_2 hcz16_3 hcz16_4 hfz16_0 hfz16_1 hfz16_2 hfz16_3 hfz16_4); clear BK116 BK117 HB hd99; have BK116 := Aside0.mk a99; have BK117 := Aside0.mk b99; have HB := Aside0.mk hb99; have hcy_0 : w99.cell? ⟨gb117, 0, none⟩ = some (.int .i64 2) := (blk_cell b99 0).trans rfl; have hfy_0 := blk_frozen b99 0; have hcx_0 : w99.cell? ⟨gb116, 0, none⟩ = some (.int .i64 0) := (blk_cell a99 0).trans rfl; have hfx_0 := blk_frozen a99 0; have hcy_1 : w99.cell? ⟨gb117, 1, none⟩ = some (.string (⟨#[]⟩ : ByteArray)) := (blk_cell b99 1).trans rfl; have hfy_1 := blk_frozen b99 1; have hcx_1 : w99.cell? ⟨gb116, 1, none⟩ = some (.string (⟨#[]⟩ : ByteArray)) := (blk_cell a99 1).trans rfl; have hfx_1 := blk_frozen a99 1; have hcy_2 : w99.cell? ⟨gb117, 2, none⟩ = some (.int .u64 0) := (blk_cell b99 2).trans rfl; have hfy_2 := blk_frozen b99 2; have hcx_2 : w99.cell? ⟨gb116, 2, none⟩ = some (.int .u64 0) := (blk_cell a99 2).trans rfl; have hfx_2 := blk_frozen a99 2; have hcy_3 : w99.cell? ⟨gb117, 3, none⟩ = some (.int .i64 a1) := (blk_cell b99 3).trans rfl; have hfy_3 := blk_frozen b99 3; have hcx_3 : w99.cell? ⟨gb116, 3, none⟩ = some (.int .i64 0) := (blk_cell a99 3).trans rfl; have hfx_3 := blk_frozen a99 3; have hcy_4 : w99.cell? ⟨gb117, 4, none⟩ = some (.int .i64 0) := (blk_cell b99 4).trans rfl; have hfy_4 := blk_frozen b99 4; have hcx_4 : w99.cell? ⟨gb116, 4, none⟩ = some (.int .i64 0) := (blk_cell a99 4).trans rfl; have hfx_4 := blk_frozen a99 4; clear a99 b99 hb99) | ((with_reducible refine gate_callee (f := 81) rfl ?_); refine goesL_ (some 52) rfl rfl Tryd.func81 (by kernel_rfl) rfl #[.string (a0.extract (a1 : Int).toNat (t121 : Int).toNat)] rfl (by (try simp only [List.map_toArray, List.map_cons, List.map_nil]); first | done | rfl | (simp only [List.length_drop, List.length_take]; rfl)) ?_; (with_reducible refine (lex_number.calls (a0.extract (a1 : Int).toNat (t121 : Int).toNat) t122 false _ A29.out).mono ?_); rintro e w' ⟨rfl, ⟨nd, rfl⟩⟩; refine ⟨_, rfl, ?_⟩; have hcz40_0 : w99.cell? ⟨gb116, 0, none⟩ = some (.int .i64 0) := (blk_cell BK116.out 0).trans rfl; have hcz40_1 : w99.cell? ⟨gb116, 1, none⟩ = some (.string (⟨#[]⟩ : ByteArray)) := (blk_cell BK116.out 1).trans rfl; have hcz40_2 : w99.cell? ⟨gb116, 2, none⟩ = some (.int .u64 0) := (blk_cell BK116.out 2).trans rfl; have hcz40_3 : w99.cell? ⟨gb116, 3, none⟩ = some (.int .i64 0) := (blk_cell BK116.out 3).trans rfl; have hcz40_4 : w99.cell? ⟨gb116, 4, none⟩ = some (.int .i64 0) := (blk_cell BK116.out 4).trans rfl; have hfz40_0 := blk_frozen BK116.out 0; have hfz40_1 := blk_frozen BK116.out 1; have hfz40_2 := blk_frozen BK116.out 2; have hfz40_3 := blk_frozen BK116.out 3; have hfz40_4 := blk_frozen BK116.out 4))
                refine bodyPost_ret (results_ctt rfl _ _ gb116 63 #[.int .i64 2, .string (⟨#[]⟩ : ByteArray), .int .u64 0, .int .i64 a1, .int .i64 t121] (0, 0) _ rfl (by (with_reducible repeat (first | refine blk_drewN ?_ _ | refine blk_drew ?_ | refine blk_alloc ?_ _)); refine blk_put (cs := #[.int .i64 2, .string (⟨#[]⟩ : ByteArray), .int .u64 0, .int .i64 a1, .int .i64 0]) ?_ 4 _ rfl; (with_reducible repeat (first | refine blk_drewN ?_ _ | refine blk_drew ?_ | refine blk_alloc ?_ _)); refine blk_put (cs := #[.int .i64 2, .string (⟨#[]⟩ : ByteArray), .int .u64 0, .int .i64 0, .int .i64 0]) ?_ 3 _ rfl; (with_reducible repeat (first | refine blk_drewN ?_ _ | refine blk_drew ?_ | refine blk_alloc ?_ _)); refine blk_put (cs := #[.int .i64 2, .string (⟨#[]⟩ : ByteArray), .int .u64 0, .int .i64 0, .int .i64 0]) ?_ 2 _ rfl; (with_reducible repeat (first | refine blk_drewN ?_ _ | refine blk_drew ?_ | refine blk_alloc ?_ _)); refine blk_put (cs := #[.int .i64 2, .string (⟨#[]⟩ : ByteArray), .int .u64 0, .int .i64 0, .int .i64 0]) ?_ 1 _ rfl; (with_reducible repeat (first | refine blk_drewN ?_ _ | refine blk_drew ?_ | refine blk_alloc ?_ _)); refine blk_put (cs := #[.int .i64 0, .string (⟨#[]⟩ : ByteArray), .int .u64 0, .int .i64 0, .int .i64 0]) ?_ 0 _ rfl; (with_reducible repeat (first | refine blk_drewN ?_ _ | refine blk_drew ?_ | refine blk_alloc ?_ _)); (repeat (first | (with_reducible exact BK116.out) | (refine blk_far ?_ NB116_117.out _; (with_reducible repeat (first | refine blk_drewN ?_ _ | refine blk_drew ?_ | refine blk_alloc ?_ _))))); done) Tryd.underlying63 rfl (by kernel_rfl)) rfl ?_
                exact ⟨by first | rfl | (simp [errW_none, errW_some] <;> rfl) | (simp [*, errW_none, errW_some] <;> rfl), by repeat (first | (with_reducible first | exact HB.out | apply below_alloc | apply pw_below_drewN | apply below_drew1 | refine below_set ?_ GE116.out | refine below_set ?_ GE117.out) | exact HB.out)⟩
            · rw [if_neg c28] at H
              exact absurd H (by simp)
          · rw [if_neg c27] at H
            exact absurd H (by simp)
        · replace c24 := Bool.eq_false_iff.mpr c24
          subst c24
          have H1 : (if (bt a0 a1) = 34 then ((lex_text.f k a0 a1).bind fun bt124 => (some (bt124.1, bt124.2.1, bt124.2.2.1, bt124.2.2.2.1, bt124.2.2.2.2.1, bt124.2.2.2.2.2.1, bt124.2.2.2.2.2.2))) else ((strings_IndexByte.f (⟨#[123, 125, 40, 41, 58, 59, 44, 61, 43, 45, 42]⟩ : ByteArray) (bt a0 a1)).bind fun t131 => (if t131 ≥ 0 then (if a1 ≤ (wrap64 (a1 + 1)) then (if (wrap64 (a1 + 1)) ≤ (a0.size : Int) then (some (4, a0.extract (a1 : Int).toNat ((wrap64 (a1 + 1)) : Int).toNat, 0, a1, wrap64 (a1 + 1), 0, 0)) else (none)) else (none)) else (some (0, (⟨#[]⟩ : ByteArray), 0, a1, 0, a1, 80))))) = some (r1, r2, r3, r4, r5, r6, r7) := by rw [if_neg (show ¬ (false = true) by decide)] at H; exact H
          clear H
          have H := H1
          clear H1
          by_cases c41 : (bt a0 a1) = 34
          · rw [if_pos c41] at H
            have c41b0 : ((bt a0 a1) == 34) = true := beq_iff_eq.mpr c41
            have c41b1 : ((bt a0 a1) != 34) = false := bne_eq_false_iff_eq.mpr c41
            clear c41
            replace H := Option.bind_eq_some_iff.mp H
            obtain ⟨⟨t124, t125, t126, t127, t128, t129, t130⟩, A420, H⟩ := H
            replace H : (some (t124, t125, t126, t127, t128, t129, t130)) = some (r1, r2, r3, r4, r5, r6, r7) := H
            have A42 := Aside0.mk A420
            clear A420
            simp only [Option.some.injEq, Prod.mk.injEq] at H
            obtain ⟨rfl, rfl, rfl, rfl, rfl, rfl, rfl⟩ := H
            go_enter Tryd.func46, Tryd.ntmps46
            go_wp2_with (first | ((with_reducible refine gate_dst (N := 4) rfl ?_); refine box_event ?hg (N := 4) ?hd (cs := #[.int .i64 0, .string (⟨#[]⟩ : ByteArray), .int .u64 0, .int .i64 0, .int .i64 0]) (t := 63) ?hr ?_; (case hd => rfl); (case hg => rfl); (case hr => first | (go_simp; done) | (go_simp; rfl)); intro gb116 hg w43 hbox hb; have n0_ := Aside0.mk (below_step (by repeat (first | (with_reducible first | exact HB.out | apply below_alloc | apply pw_below_drewN | apply below_drew1) | exact HB.out)) hb); have n1_ := Aside0.mk (hbox); have n2_ := Aside0.mk ((by rw [hg]; exact (below_size (by repeat (first | (with_reducible first | exact HB.out | apply below_alloc | apply pw_below_drewN | apply below_drew1) | exact HB.out))) : w.heap.size ≤ gb116)); have n3_ := Aside0.mk ((by rw [hg]; exact (below_size (by repeat (first | (with_reducible first | exact HB.out | apply below_alloc | apply pw_below_drewN | apply below_drew1) | exact HB.out))) : w.heap.size ≤ gb116)); clear HB; have HB := n0_; have BK116 := n1_; have GW116 := n2_; have GE116 := n3_; clear n0_ n1_ n2_ n3_; clear hb hbox hg) | ((with_reducible refine gate_dst (N := 7) rfl ?_); refine box_event ?hg (N := 7) ?hd (cs := #[.int .i64 0, .string (⟨#[]⟩ : ByteArray), .int .u64 0, .int .i64 0, .int .i64 0]) (t := 63) ?hr ?_; (case hd => rfl); (case hg => rfl); (case hr => first | (go_simp; done) | (go_simp; rfl)); intro gb117 hg w44 hbox hb; have n0_ := Aside0.mk (blk_below (g := gb116) (o := .cells #[.int .i64 0, .string (⟨#[]⟩ : ByteArray), .int .u64 0, .int .i64 0, .int .i64 0] 63 (0, 0)) (by (with_reducible repeat (first | refine blk_drewN ?_ _ | refine blk_drew ?_ | refine blk_alloc ?_ _)); exact BK116.out) hb); have n1_ := Aside0.mk (below_step (by repeat (first | (with_reducible first | exact HB.out | apply below_alloc | apply pw_below_drewN | apply below_drew1 | refine below_set ?_ GE116.out) | exact HB.out)) hb); have n2_ := Aside0.mk (hbox); have n3_ := Aside0.mk ((by rw [hg]; exact (below_size (by repeat (first | (with_reducible first | exact HB.out | apply below_alloc | apply pw_below_drewN | apply below_drew1 | refine below_set ?_ GE116.out) | exact HB.out))) : w.heap.size ≤ gb117)); have n4_ := Aside0.mk ((by rw [hg]; exact (below_size (by repeat (first | (with_reducible first | exact HB.out | apply below_alloc | apply pw_below_drewN | apply below_drew1 | refine below_set ?_ GE116.out) | exact HB.out))) : w.heap.size ≤ gb117)); have n5_ := Aside0.mk ((by rw [hg]; exact Nat.ne_of_lt (blk_lt (g := gb116) (o := .cells #[.int .i64 0, .string (⟨#[]⟩ : ByteArray), .int .u64 0, .int .i64 0, .int .i64 0] 63 (0, 0)) (by (with_reducible repeat (first | refine blk_drewN ?_ _ | refine blk_drew ?_ | refine blk_alloc ?_ _)); exact BK116.out)) : gb116 ≠ gb117)); have n6_ := Aside0.mk ((by rw [hg]; exact Nat.ne_of_gt (blk_lt (g := gb116) (o := .cells #[.int .i64 0, .string (⟨#[]⟩ : ByteArray), .int .u64 0, .int .i64 0, .int .i64 0] 63 (0, 0)) (by (with_reducible repeat (first | refine blk_drewN ?_ _ | refine blk_drew ?_ | refine blk_alloc ?_ _)); exact BK116.out)) : gb117 ≠ gb116)); clear BK116; clear HB; have BK116 := n0_; have HB := n1_; have BK117 := n2_; have GW117 := n3_; have GE117 := n4_; have NB116_117 := n5_; have NB117_116 := n6_; clear n0_ n1_ n2_ n3_ n4_ n5_ n6_; clear hb hbox hg; have hnb45 := NB117_116.out; have hnc45 := NB116_117.out; have hcz46_0 : w44.cell? ⟨gb117, 0, none⟩ = some (.int .i64 0) := (blk_cell BK117.out 0).trans rfl; have hcz46_1 : w44.cell? ⟨gb117, 1, none⟩ = some (.string (⟨#[]⟩ : ByteArray)) := (blk_cell BK117.out 1).trans rfl; have hcz46_2 : w44.cell? ⟨gb117, 2, none⟩ = some (.int .u64 0) := (blk_cell BK117.out 2).trans rfl; have hcz46_3 : w44.cell? ⟨gb117, 3, none⟩ = some (.int .i64 0) := (blk_cell BK117.out 3).trans rfl; have hcz46_4 : w44.cell? ⟨gb117, 4, none⟩ = some (.int .i64 0) := (blk_cell BK117.out 4).trans rfl; have hfz46_0 := blk_frozen BK117.out 0; have hfz46_1 := blk_frozen BK117.out 1; have hfz46_2 := blk_frozen BK117.out 2; have hfz46_3 := blk_frozen BK117.out 3; have hfz46_4 := blk_frozen BK117.out 4; have p5 : 0 ≤ (a1 : Int) := of_decide_eq_true (by first | (with_reducible assumption) | assumption); have q5 : a1 < (a0.size : Int) := of_decide_eq_true (by first | (with_reducible assumption) | assumption); have hx5 := bt_at a0 a1; replace p5 := eq_true p5; replace q5 := eq_true q5) | ((with_reducible refine gate_callee (f := 77) rfl ?_); refine goesL_ (some 20) rfl rfl Tryd.func77 (by kernel_rfl) rfl #[.int .u8 (bt a0 a1)] rfl (by (try simp only [List.map_toArray, List.map_cons, List.map_nil]); first | done | rfl | (simp only [List.length_drop, List.length_take]; rfl)) ?_; (with_reducible refine (lex_isLetter.calls (bt a0 a1) false _ A6.out).mono ?_); rintro e w' ⟨rfl, ⟨nd, rfl⟩⟩; refine ⟨_, rfl, ?_⟩) | ((with_reducible refine gate_callee (f := 80) rfl ?_); refine goesL_ (some 40) rfl rfl Tryd.func80 (by kernel_rfl) rfl #[.int .u8 (bt a0 a1)] rfl (by (try simp only [List.map_toArray, List.map_cons, List.map_nil]); first | done | rfl | (simp only [List.length_drop, List.length_take]; rfl)) ?_; (with_reducible refine (lex_isDigit.calls (bt a0 a1) false _ A23.out).mono ?_); rintro e w' ⟨rfl, ⟨nd, rfl⟩⟩; refine ⟨_, rfl, ?_⟩) | ((with_reducible refine gate_callee (f := 82) rfl ?_); refine goesL_ (some 66) rfl rfl Tryd.func82 (by kernel_rfl) rfl #[.string a0, .int .i64 a1] rfl (by (try simp only [List.map_toArray, List.map_cons, List.map_nil]); first | done | rfl | (simp only [List.length_drop, List.length_take]; rfl)) ?_; (with_reducible refine (lex_text.calls k a0 a1 t124 t125 t126 t127 t128 t129 t130 _ A42.out).mono ?_); rintro e w47 ⟨rfl, hb⟩; refine ⟨_, rfl, ?_⟩; have n0_ := Aside0.mk (blk_below (g := gb116) (o := .cells #[.int .i64 0, .string (⟨#[]⟩ : ByteArray), .int .u64 0, .int .i64 0, .int .i64 0] 63 (0, 0)) (by (with_reducible repeat (first | refine blk_drewN ?_ _ | refine blk_drew ?_ | refine blk_alloc ?_ _)); refine blk_far ?_ NB116_117.out _; (with_reducible repeat (first | refine blk_drewN ?_ _ | refine blk_drew ?_ | refine blk_alloc ?_ _)); refine blk_far ?_ NB116_117.out _; (with_reducible repeat (first | refine blk_drewN ?_ _ | refine blk_drew ?_ | refine blk_alloc ?_ _)); refine blk_far ?_ NB116_117.out _; (with_reducible repeat (first | refine blk_drewN ?_ _ | refine blk_drew ?_ | refine blk_alloc ?_ _)); refine blk_far ?_ NB116_117.out _; (with_reducible repeat (first | refine blk_drewN ?_ _ | refine blk_drew ?_ | refine blk_alloc ?_ _)); refine blk_far ?_ NB116_117.out _; (with_reducible repeat (first | refine blk_drewN ?_ _ | refine blk_drew ?_ | refine blk_alloc ?_ _)); exact BK116.out) hb); have n1_ := Aside0.mk (blk_below (g := gb117) (o := .cells #[.int .i64 0, .string (⟨#[]⟩ : ByteArray), .int .u64 0, .int .i64 a1, .int .i64 0] 63 (0, 0)) (by (with_reducible repeat (first | refine blk_drewN ?_ _ | refine blk_drew ?_ | refine blk_alloc ?_ _)); refine blk_put (cs := #[.int .i64 0, .string (⟨#[]⟩ : ByteArray), .int .u64 0, .int .i64 a1, .int .i64 0]) ?_ 4 _ rfl; (with_reducible repeat (first | refine blk_drewN ?_ _ | refine blk_drew ?_ | refine blk_alloc ?_ _)); refine blk_put (cs := #[.int .i64 0, .string (⟨#[]⟩ : ByteArray), .int .u64 0, .int .i64 0, .int .i64 0]) ?_ 3 _ rfl; (with_reducible repeat (first | refine blk_drewN ?_ _ | refine blk_drew ?_ | refine blk_alloc ?_ _)); refine blk_put (cs := #[.int .i64 0, .string (⟨#[]⟩ : ByteArray), .int .u64 0, .int .i64 0, .int .i64 0]) ?_ 2 _ rfl; (with_reducible repeat (first | refine blk_drewN ?_ _ | refine blk_drew ?_ | refine blk_alloc ?_ _)); refine blk_put (cs := #[.int .i64 0, .string (⟨#[]⟩ : ByteArray), .int .u64 0, .int .i64 0, .int .i64 0]) ?_ 1 _ rfl; (with_reducible repeat (first | refine blk_drewN ?_ _ | refine blk_drew ?_ | refine blk_alloc ?_ _)); refine blk_put (cs := #[.int .i64 0, .string (⟨#[]⟩ : ByteArray), .int .u64 0, .int .i64 0, .int .i64 0]) ?_ 0 _ rfl; (with_reducible repeat (first | refine blk_drewN ?_ _ | refine blk_drew ?_ | refine blk_alloc ?_ _)); exact BK117.out) hb); have n2_ := Aside0.mk (below_step (by repeat (first | (with_reducible first | exact HB.out | apply below_alloc | apply pw_below_drewN | apply below_drew1 | refine below_set ?_ GE116.out | refine below_set ?_ GE117.out) | exact HB.out)) hb); clear BK116; clear BK117; clear HB; have BK116 := n0_; have BK117 := n1_; have HB := n2_; clear n0_ n1_ n2_; (try clear hb); (try clear hb2); (try clear hk); (try clear hi); have hcz48_0 : w47.cell? ⟨gb116, 0, none⟩ = some (.int .i64 0) := (blk_cell BK116.out 0).trans rfl; have hcz48_1 : w47.cell? ⟨gb116, 1, none⟩ = some (.string (⟨#[]⟩ : ByteArray)) := (blk_cell BK116.out 1).trans rfl; have hcz48_2 : w47.cell? ⟨gb116, 2, none⟩ = some (.int .u64 0) := (blk_cell BK116.out 2).trans rfl; have hcz48_3 : w47.cell? ⟨gb116, 3, none⟩ = some (.int .i64 0) := (blk_cell BK116.out 3).trans rfl; have hcz48_4 : w47.cell? ⟨gb116, 4, none⟩ = some (.int .i64 0) := (blk_cell BK116.out 4).trans rfl; have hfz48_0 := blk_frozen BK116.out 0; have hfz48_1 := blk_frozen BK116.out 1; have hfz48_2 := blk_frozen BK116.out 2; have hfz48_3 := blk_frozen BK116.out 3; have hfz48_4 := blk_frozen BK116.out 4))
            refine bodyPost_ret (results_ctt rfl _ _ gb116 63 #[.int .i64 t124, .string t125, .int .u64 t126, .int .i64 t127, .int .i64 t128] (0, 0) _ rfl (by (with_reducible repeat (first | refine blk_drewN ?_ _ | refine blk_drew ?_ | refine blk_alloc ?_ _)); refine blk_put (cs := #[.int .i64 t124, .string t125, .int .u64 t126, .int .i64 t127, .int .i64 0]) ?_ 4 _ rfl; (with_reducible repeat (first | refine blk_drewN ?_ _ | refine blk_drew ?_ | refine blk_alloc ?_ _)); refine blk_put (cs := #[.int .i64 t124, .string t125, .int .u64 t126, .int .i64 0, .int .i64 0]) ?_ 3 _ rfl; (with_reducible repeat (first | refine blk_drewN ?_ _ | refine blk_drew ?_ | refine blk_alloc ?_ _)); refine blk_put (cs := #[.int .i64 t124, .string t125, .int .u64 0, .int .i64 0, .int .i64 0]) ?_ 2 _ rfl; (with_reducible repeat (first | refine blk_drewN ?_ _ | refine blk_drew ?_ | refine blk_alloc ?_ _)); refine blk_put (cs := #[.int .i64 t124, .string (⟨#[]⟩ : ByteArray), .int .u64 0, .int .i64 0, .int .i64 0]) ?_ 1 _ rfl; (with_reducible repeat (first | refine blk_drewN ?_ _ | refine blk_drew ?_ | refine blk_alloc ?_ _)); refine blk_put (cs := #[.int .i64 0, .string (⟨#[]⟩ : ByteArray), .int .u64 0, .int .i64 0, .int .i64 0]) ?_ 0 _ rfl; (with_reducible repeat (first | refine blk_drewN ?_ _ | refine blk_drew ?_ | refine blk_alloc ?_ _)); exact BK116.out) Tryd.underlying63 rfl (by kernel_rfl)) rfl ?_
            exact ⟨by first | rfl | (simp [errW_none, errW_some] <;> rfl) | (simp [*, errW_none, errW_some] <;> rfl), by repeat (first | (with_reducible first | exact HB.out | apply below_alloc | apply pw_below_drewN | apply below_drew1 | refine below_set ?_ GE116.out | refine below_set ?_ GE117.out) | exact HB.out)⟩
          · rw [if_neg c41] at H
            have c41b0 : ((bt a0 a1) == 34) = false := beq_eq_false_iff_ne.mpr c41
            have c41b1 : ((bt a0 a1) != 34) = true := bne_iff_ne.mpr c41
            replace H := Option.bind_eq_some_iff.mp H
            obtain ⟨t131, A490, H⟩ := H
            replace H : (if t131 ≥ 0 then (if a1 ≤ (wrap64 (a1 + 1)) then (if (wrap64 (a1 + 1)) ≤ (a0.size : Int) then (some (4, a0.extract (a1 : Int).toNat ((wrap64 (a1 + 1)) : Int).toNat, 0, a1, wrap64 (a1 + 1), 0, 0)) else (none)) else (none)) else (some (0, (⟨#[]⟩ : ByteArray), 0, a1, 0, a1, 80))) = some (r1, r2, r3, r4, r5, r6, r7) := H
            have A49 := Aside0.mk A490
            clear A490
            by_cases c50 : t131 ≥ 0
            · rw [if_pos c50] at H
              have c50b0 : decide (0 ≤ t131) = true := decide_eq_true c50
              clear c50
              have c51b0 := eq_true (of_decide_eq_true (by first | (with_reducible assumption) | assumption) : 0 ≤ a1)
              by_cases c52 : a1 ≤ (wrap64 (a1 + 1))
              · rw [if_pos c52] at H
                have c52b0 := eq_true c52
                have c52b1 : decide (a1 ≤ (wrap64 (a1 + 1))) = true := decide_eq_true c52
                by_cases c53 : (wrap64 (a1 + 1)) ≤ (a0.size : Int)
                · rw [if_pos c53] at H
                  have c53b0 := eq_true c53
                  have c53b1 : decide ((wrap64 (a1 + 1)) ≤ (a0.size : Int)) = true := decide_eq_true c53
                  simp only [Option.some.injEq, Prod.mk.injEq] at H
                  obtain ⟨rfl, rfl, rfl, rfl, rfl, rfl, rfl⟩ := H
                  go_enter Tryd.func46, Tryd.ntmps46
                  try go_wp2_with (first | ((with_reducible refine gate_dst (N := 4) rfl ?_); refine box_event ?hg (N := 4) ?hd (cs := #[.int .i64 0, .string (⟨#[]⟩ : ByteArray), .int .u64 0, .int .i64 0, .int .i64 0]) (t := 63) ?hr ?_; (case hd => rfl); (case hg => rfl); (case hr => first | (go_simp; done) | (go_simp; rfl)); intro gb116 hg w54 hbox hb; have n0_ := Aside0.mk (below_step (by repeat (first | (with_reducible first | exact HB.out | apply below_alloc | apply pw_below_drewN | apply below_drew1) | exact HB.out)) hb); have n1_ := Aside0.mk (hbox); have n2_ := Aside0.mk ((by rw [hg]; exact (below_size (by repeat (first | (with_reducible first | exact HB.out | apply below_alloc | apply pw_below_drewN | apply below_drew1) | exact HB.out))) : w.heap.size ≤ gb116)); have n3_ := Aside0.mk ((by rw [hg]; exact (below_size (by repeat (first | (with_reducible first | exact HB.out | apply below_alloc | apply pw_below_drewN | apply below_drew1) | exact HB.out))) : w.heap.size ≤ gb116)); clear HB; have HB := n0_; have BK116 := n1_; have GW116 := n2_; have GE116 := n3_; clear n0_ n1_ n2_ n3_; clear hb hbox hg) | ((with_reducible refine gate_dst (N := 7) rfl ?_); refine box_event ?hg (N := 7) ?hd (cs := #[.int .i64 0, .string (⟨#[]⟩ : ByteArray), .int .u64 0, .int .i64 0, .int .i64 0]) (t := 63) ?hr ?_; (case hd => rfl); (case hg => rfl); (case hr => first | (go_simp; done) | (go_simp; rfl)); intro gb117 hg w55 hbox hb; have n0_ := Aside0.mk (blk_below (g := gb116) (o := .cells #[.int .i64 0, .string (⟨#[]⟩ : ByteArray), .int .u64 0, .int .i64 0, .int .i64 0] 63 (0, 0)) (by (with_reducible repeat (first | refine blk_drewN ?_ _ | refine blk_drew ?_ | refine blk_alloc ?_ _)); exact BK116.out) hb); have n1_ := Aside0.mk (below_step (by repeat (first | (with_reducible first | exact HB.out | apply below_alloc | apply pw_below_drewN | apply below_drew1 | refine below_set ?_ GE116.out) | exact HB.out)) hb); have n2_ := Aside0.mk (hbox); have n3_ := Aside0.mk ((by rw [hg]; exact (below_size (by repeat (first | (with_reducible first | exact HB.out | apply below_alloc | apply pw_below_drewN | apply below_drew1 | refine below_set ?_ GE116.out) | exact HB.out))) : w.heap.size ≤ gb117)); have n4_ := Aside0.mk ((by rw [hg]; exact (below_size (by repeat (first | (with_reducible first | exact HB.out | apply below_alloc | apply pw_below_drewN | apply below_drew1 | refine below_set ?_ GE116.out) | exact HB.out))) : w.heap.size ≤ gb117)); have n5_ := Aside0.mk ((by rw [hg]; exact Nat.ne_of_lt (blk_lt (g := gb116) (o := .cells #[.int .i64 0, .string (⟨#[]⟩ : ByteArray), .int .u64 0, .int .i64 0, .int .i64 0] 63 (0, 0)) (by (with_reducible repeat (first | refine blk_drewN ?_ _ | refine blk_drew ?_ | refine blk_alloc ?_ _)); exact BK116.out)) : gb116 ≠ gb117)); have n6_ := Aside0.mk ((by rw [hg]; exact Nat.ne_of_gt (blk_lt (g := gb116) (o := .cells #[.int .i64 0, .string (⟨#[]⟩ : ByteArray), .int .u64 0, .int .i64 0, .int .i64 0] 63 (0, 0)) (by (with_reducible repeat (first | refine blk_drewN ?_ _ | refine blk_drew ?_ | refine blk_alloc ?_ _)); exact BK116.out)) : gb117 ≠ gb116)); clear BK116; clear HB; have BK116 := n0_; have HB := n1_; have BK117 := n2_; have GW117 := n3_; have GE117 := n4_; have NB116_117 := n5_; have NB117_116 := n6_; clear n0_ n1_ n2_ n3_ n4_ n5_ n6_; clear hb hbox hg; have hnb56 := NB117_116.out; have hnc56 := NB116_117.out; have hcz57_0 : w55.cell? ⟨gb117, 0, none⟩ = some (.int .i64 0) := (blk_cell BK117.out 0).trans rfl; have hcz57_1 : w55.cell? ⟨gb117, 1, none⟩ = some (.string (⟨#[]⟩ : ByteArray)) := (blk_cell BK117.out 1).trans rfl; have hcz57_2 : w55.cell? ⟨gb117, 2, none⟩ = some (.int .u64 0) := (blk_cell BK117.out 2).trans rfl; have hcz57_3 : w55.cell? ⟨gb117, 3, none⟩ = some (.int .i64 0) := (blk_cell BK117.out 3).trans rfl; have hcz57_4 : w55.cell? ⟨gb117, 4, none⟩ = some (.int .i64 0) := (blk_cell BK117.out 4).trans rfl; have hfz57_0 := blk_frozen BK117.out 0; have hfz57_1 := blk_frozen BK117.out 1; have hfz57_2 := blk_frozen BK117.out 2; have hfz57_3 := blk_frozen BK117.out 3; have hfz57_4 := blk_frozen BK117.out 4; have p5 : 0 ≤ (a1 : Int) := of_decide_eq_true (by first | (with_reducible assumption) | assumption); have q5 : a1 < (a0.size : Int) := of_decide_eq_true (by first | (with_reducible assumption) | assumption); have hx5 := bt_at a0 a1; replace p5 := eq_true p5; replace q5 := eq_true q5) | ((with_reducible refine gate_callee (f := 77) rfl ?_); refine goesL_ (some 20) rfl rfl Tryd.func77 (by kernel_rfl) rfl #[.int .u8 (bt a0 a1)] rfl (by (try simp only [List.map_toArray, List.map_cons, List.map_nil]); first | done | rfl | (simp only [List.length_drop, List.length_take]; rfl)) ?_; (with_reducible refine (lex_isLetter.calls (bt a0 a1) false _ A6.out).mono ?_); rintro e w' ⟨rfl, ⟨nd, rfl⟩⟩; refine ⟨_, rfl, ?_⟩) | ((with_reducible refine gate_callee (f := 80) rfl ?_); refine goesL_ (some 40) rfl rfl Tryd.func80 (by kernel_rfl) rfl #[.int .u8 (bt a0 a1)] rfl (by (try simp only [List.map_toArray, List.map_cons, List.map_nil]); first | done | rfl | (simp only [List.length_drop, List.length_take]; rfl)) ?_; (with_reducible refine (lex_isDigit.calls (bt a0 a1) false _ A23.out).mono ?_); rintro e w' ⟨rfl, ⟨nd, rfl⟩⟩; refine ⟨_, rfl, ?_⟩) | ((with_reducible refine gate_callee (f := 76) rfl ?_); refine goesL_ (some 72) rfl rfl Tryd.func76 (by kernel_rfl) rfl #[.string (⟨#[123, 125, 40, 41, 58, 59, 44, 61, 43, 45, 42]⟩ : ByteArray), .int .u8 (bt a0 a1)] rfl (by (try simp only [List.map_toArray, List.map_cons, List.map_nil]); first | done | rfl | (simp only [List.length_drop, List.length_take]; rfl)) ?_; (with_reducible refine (strings_IndexByte.calls (⟨#[123, 125, 40, 41, 58, 59, 44, 61, 43, 45, 42]⟩ : ByteArray) (bt a0 a1) t131 _ A49.out).mono ?_); rintro e w' ⟨rfl, ⟨nd, rfl⟩⟩; refine ⟨_, rfl, ?_⟩))
                  have n0_ : Aside0 ((((((w55.setCell ⟨gb117, 0, none⟩ (.int .i64 0)).setCell ⟨gb117, 1, none⟩ (.string (⟨#[]⟩ : ByteArray))).setCell ⟨gb117, 2, none⟩ (.int .u64 0)).setCell ⟨gb117, 3, none⟩ (.int .i64 a1)).setCell ⟨gb117, 4, none⟩ (.int .i64 0)).heap[gb116]? = some (.cells #[.int .i64 0, .string (⟨#[]⟩ : ByteArray), .int .u64 0, .int .i64 0, .int .i64 0] 63 (0, 0))) := ⟨by (with_reducible repeat (first | refine blk_drewN ?_ _ | refine blk_drew ?_ | refine blk_alloc ?_ _)); refine blk_far ?_ NB116_117.out _; (with_reducible repeat (first | refine blk_drewN ?_ _ | refine blk_drew ?_ | refine blk_alloc ?_ _)); refine blk_far ?_ NB116_117.out _; (with_reducible repeat (first | refine blk_drewN ?_ _ | refine blk_drew ?_ | refine blk_alloc ?_ _)); refine blk_far ?_ NB116_117.out _; (with_reducible repeat (first | refine blk_drewN ?_ _ | refine blk_drew ?_ | refine blk_alloc ?_ _)); refine blk_far ?_ NB116_117.out _; (with_reducible repeat (first | refine blk_drewN ?_ _ | refine blk_drew ?_ | refine blk_alloc ?_ _)); refine blk_far ?_ NB116_117.out _; (with_reducible repeat (first | refine blk_drewN ?_ _ | refine blk_drew ?_ | refine blk_alloc ?_ _)); exact BK116.out⟩
                  have n1_ : Aside0 ((((((w55.setCell ⟨gb117, 0, none⟩ (.int .i64 0)).setCell ⟨gb117, 1, none⟩ (.string (⟨#[]⟩ : ByteArray))).setCell ⟨gb117, 2, none⟩ (.int .u64 0)).setCell ⟨gb117, 3, none⟩ (.int .i64 a1)).setCell ⟨gb117, 4, none⟩ (.int .i64 0)).heap[gb117]? = some (.cells #[.int .i64 0, .string (⟨#[]⟩ : ByteArray), .int .u64 0, .int .i64 a1, .int .i64 0] 63 (0, 0))) := ⟨by (with_reducible repeat (first | refine blk_drewN ?_ _ | refine blk_drew ?_ | refine blk_alloc ?_ _)); refine blk_put (cs := #[.int .i64 0, .string (⟨#[]⟩ : ByteArray), .int .u64 0, .int .i64 a1, .int .i64 0]) ?_ 4 _ rfl; (with_reducible repeat (first | refine blk_drewN ?_ _ | refine blk_drew ?_ | refine blk_alloc ?_ _)); refine blk_put (cs := #[.int .i64 0, .string (⟨#[]⟩ : ByteArray), .int .u64 0, .int .i64 0, .int .i64 0]) ?_ 3 _ rfl; (with_reducible repeat (first | refine blk_drewN ?_ _ | refine blk_drew ?_ | refine blk_alloc ?_ _)); refine blk_put (cs := #[.int .i64 0, .string (⟨#[]⟩ : ByteArray), .int .u64 0, .int .i64 0, .int .i64 0]) ?_ 2 _ rfl; (with_reducible repeat (first | refine blk_drewN ?_ _ | refine blk_drew ?_ | refine blk_alloc ?_ _)); refine blk_put (cs := #[.int .i64 0, .string (⟨#[]⟩ : ByteArray), .int .u64 0, .int .i64 0, .int .i64 0]) ?_ 1 _ rfl; (with_reducible repeat (first | refine blk_drewN ?_ _ | refine blk_drew ?_ | refine blk_alloc ?_ _)); refine blk_put (cs := #[.int .i64 0, .string (⟨#[]⟩ : ByteArray), .int .u64 0, .int .i64 0, .int .i64 0]) ?_ 0 _ rfl; (with_reducible repeat (first | refine blk_drewN ?_ _ | refine blk_drew ?_ | refine blk_alloc ?_ _)); exact BK117.out⟩
                  have n2_ : Aside0 (Below w.heap.size w (((((w55.setCell ⟨gb117, 0, none⟩ (.int .i64 0)).setCell ⟨gb117, 1, none⟩ (.string (⟨#[]⟩ : ByteArray))).setCell ⟨gb117, 2, none⟩ (.int .u64 0)).setCell ⟨gb117, 3, none⟩ (.int .i64 a1)).setCell ⟨gb117, 4, none⟩ (.int .i64 0))) := ⟨by repeat (first | (with_reducible first | exact HB.out | apply below_alloc | apply pw_below_drewN | apply below_drew1 | refine below_set ?_ GE116.out | refine below_set ?_ GE117.out) | exact HB.out)⟩
                  (try clear BK116)
                  (try clear BK117)
                  (try clear HB)
                  generalize (((((w55.setCell ⟨gb117, 0, none⟩ (.int .i64 0)).setCell ⟨gb117, 1, none⟩ (.string (⟨#[]⟩ : ByteArray))).setCell ⟨gb117, 2, none⟩ (.int .u64 0)).setCell ⟨gb117, 3, none⟩ (.int .i64 a1)).setCell ⟨gb117, 4, none⟩ (.int .i64 0)) = w58 at n0_ n1_ n2_ ⊢
                  have BK116 := n0_
                  have BK117 := n1_
                  have HB := n2_
                  clear n0_ n1_ n2_
                  (try (rw [drewN_self w58]; generalize hq_ : World.drewN w58 _ = w58; have n0_ : Aside0 (w58.heap[gb116]? = some (.cells #[.int .i64 0, .string (⟨#[]⟩ : ByteArray), .int .u64 0, .int .i64 0, .int .i64 0] 63 (0, 0))) := ⟨by rw [← hq_]; exact (by (with_reducible repeat (first | refine blk_drewN ?_ _ | refine blk_drew ?_ | refine blk_alloc ?_ _)); exact BK116.out)⟩; have n1_ : Aside0 (w58.heap[gb117]? = some (.cells #[.int .i64 0, .string (⟨#[]⟩ : ByteArray), .int .u64 0, .int .i64 a1, .int .i64 0] 63 (0, 0))) := ⟨by rw [← hq_]; exact (by (with_reducible repeat (first | refine blk_drewN ?_ _ | refine blk_drew ?_ | refine blk_alloc ?_ _)); exact BK117.out)⟩; have n2_ : Aside0 (Below w.heap.size w w58) := ⟨by rw [← hq_]; exact (by repeat (first | (with_reducible first | exact HB.out | apply below_alloc | apply pw_below_drewN | apply below_drew1 | refine below_set ?_ GE116.out | refine below_set ?_ GE117.out) | exact HB.out))⟩; clear BK116 BK117 HB hq_; have BK116 := n0_; have BK117 := n1_; have HB := n2_; clear n0_ n1_ n2_))
                  have n0_ := Aside0.mk (blk_drew BK116.out)
                  have n1_ := Aside0.mk (blk_drew BK117.out)
                  have n2_ := Aside0.mk (below_drew1 HB.out)
                  clear BK116
                  clear BK117
                  clear HB
                  have BK116 := n0_
                  have BK117 := n1_
                  have HB := n2_
                  clear n0_ n1_ n2_
                  refine start_ (n := 13) (S := fun w' => True) (ds := []) #[false, false, false, false, false, false, false, false, false, false, false, false, false] (by kernel_rfl) rfl rfl trivial (fun hHeld => ?_); refine with_tabW lex_token.tab20 lex_token.bits20 (fun HT_ HW_ => ?_)
                  generalize w58.drew = w59 at BK116 BK117 HB hHeld ⊢
                  refine pure_ (i := 0) (N := some 74) (v := ?_) (a' := ?_) #[true, false, false, false, false, false, false, false, false, false, false, false, false] rfl rfl (any_of HT_.out (by kernel_rfl)) (fun _ _ _ h => h) (Or.inl ⟨by rfl, ?_⟩) ?_ ?_
                  rotate_left
                  · intro w'
                    go_simp
                    with_reducible rfl
                  rotate_left
                  · simp only [Act.put, List.setIfInBounds_toArray, List.set_cons_zero, List.set_cons_succ, i64_w, i32_w]
                    rfl
                  refine pure_ (i := 1) (N := some 75) (v := ?_) (a' := ?_) #[true, true, false, false, false, false, false, false, false, false, false, false, false] rfl rfl (any_of HT_.out (by kernel_rfl)) (fun _ _ _ h => h) (Or.inl ⟨by rfl, ?_⟩) ?_ ?_
                  rotate_left
                  · intro w'
                    go_simp
                    with_reducible rfl
                  rotate_left
                  · simp only [Act.put, List.setIfInBounds_toArray, List.set_cons_zero, List.set_cons_succ, i64_w, i32_w]
                    rfl
                  refine pure_ (i := 2) (N := some 76) (v := ?_) (a' := ?_) #[true, true, true, false, false, false, false, false, false, false, false, false, false] rfl rfl (any_of HT_.out (by kernel_rfl)) (fun _ _ _ h => h) (Or.inl ⟨by rfl, ?_⟩) ?_ ?_
                  rotate_left
                  · intro w'
                    go_simp
                    with_reducible rfl
                  rotate_left
                  · simp only [Act.put, List.setIfInBounds_toArray, List.set_cons_zero, List.set_cons_succ, i64_w, i32_w]
                    rfl
                  refine pure_ (i := 3) (N := some 77) (v := ?_) (a' := ?_) #[true, true, true, true, false, false, false, false, false, false, false, false, false] rfl rfl (any_of HT_.out (by kernel_rfl)) (fun _ _ _ h => h) (Or.inl ⟨by rfl, ?_⟩) ?_ ?_
                  rotate_left
                  · intro w'
                    go_simp
                    with_reducible rfl
                  rotate_left
                  · simp only [Act.put, List.setIfInBounds_toArray, List.set_cons_zero, List.set_cons_succ, i64_w, i32_w]
                    rfl
                  refine pure_ (i := 4) (N := some 78) (v := ?_) (a' := ?_) #[true, true, true, true, true, false, false, false, false, false, false, false, false] rfl rfl (any_of HT_.out (by kernel_rfl)) (fun _ _ _ h => h) (Or.inl ⟨by rfl, ?_⟩) ?_ ?_
                  rotate_left
                  · intro w'
                    go_simp
                    with_reducible rfl
                  rotate_left
                  · simp only [Act.put, List.setIfInBounds_toArray, List.set_cons_zero, List.set_cons_succ, i64_w, i32_w]
                    rfl
                  refine pure_ (i := 5) (N := some 79) (v := ?_) (a' := ?_) #[true, true, true, true, true, true, false, false, false, false, false, false, false] rfl rfl (any_of HT_.out (by kernel_rfl)) (fun _ _ _ h => h) (Or.inl ⟨by rfl, ?_⟩) ?_ ?_
                  rotate_left
                  · intro w'
                    go_simp
                    with_reducible rfl
                  rotate_left
                  · simp only [Act.put, List.setIfInBounds_toArray, List.set_cons_zero, List.set_cons_succ, i64_w, i32_w]
                    rfl
                  refine pure_ (i := 6) (N := some 80) (v := ?_) (a' := ?_) #[true, true, true, true, true, true, true, false, false, false, false, false, false] rfl rfl (any_of HT_.out (by kernel_rfl)) (fun _ _ _ h => h) (Or.inl ⟨by rfl, ?_⟩) ?_ ?_
                  rotate_left
                  · intro w'
                    go_simp
                    with_reducible rfl
                  rotate_left
                  · simp only [Act.put, List.setIfInBounds_toArray, List.set_cons_zero, List.set_cons_succ, i64_w, i32_w]
                    rfl
                  refine pure_ (i := 7) (N := some 81) (v := ?_) (a' := ?_) #[true, true, true, true, true, true, true, true, false, false, false, false, false] rfl rfl (any_of HT_.out (by kernel_rfl)) (fun _ _ _ h => h) (Or.inl ⟨by rfl, ?_⟩) ?_ ?_
                  rotate_left
                  · intro w'
                    go_simp
                    with_reducible rfl
                  rotate_left
                  · simp only [Act.put, List.setIfInBounds_toArray, List.set_cons_zero, List.set_cons_succ, i64_w, i32_w]
                    rfl
                  refine one_ (i := 8) (N := none) #[true, true, true, true, true, true, true, true, true, false, false, false, false] rfl rfl (one_of HT_.out (by kernel_rfl)) (by decide) (fun K hK => ?_)
                  have hs60 : w59.cell? ⟨gb117, 0, none⟩ = some (.int .i64 0) := (blk_cell BK117.out 0).trans rfl
                  have hfs60 := blk_frozen BK117.out 0
                  have hns60_0 := NB116_117.out
                  have hms60_0 := NB117_116.out
                  refine skip_ (w1 := ?_) (by rfl) rfl ?_ ?_
                  rotate_left
                  · go_simp
                    rfl
                  refine hK.out _ _ trivial (fun hHeld => ?_)
                  clear hK K
                  refine pure_ (i := 9) (N := some 82) (v := ?_) (a' := ?_) #[true, true, true, true, true, true, true, true, true, true, false, false, false] rfl rfl (any_of HT_.out (by kernel_rfl)) (fun _ _ _ h => h) (Or.inl ⟨by rfl, ?_⟩) ?_ ?_
                  rotate_left
                  · intro w'
                    go_simp
                    with_reducible rfl
                  rotate_left
                  · simp only [Act.put, List.setIfInBounds_toArray, List.set_cons_zero, List.set_cons_succ, i64_w, i32_w]
                    rfl
                  refine one_ (i := 10) (N := none) #[true, true, true, true, true, true, true, true, true, true, true, false, false] rfl rfl (one_of HT_.out (by kernel_rfl)) (by decide) (fun K hK => ?_)
                  have hs61 : w59.cell? ⟨gb117, 1, none⟩ = some (.string (⟨#[]⟩ : ByteArray)) := (blk_cell BK117.out 1).trans rfl
                  have hfs61 := blk_frozen BK117.out 1
                  have hns61_0 := NB116_117.out
                  have hms61_0 := NB117_116.out
                  refine skip_ (w1 := ?_) (by rfl) rfl ?_ ?_
                  rotate_left
                  · go_simp
                    rfl
                  refine hK.out _ _ trivial (fun hHeld => ?_)
                  clear hK K
                  refine pure_ (i := 11) (N := some 83) (v := ?_) (a' := ?_) #[true, true, true, true, true, true, true, true, true, true, true, true, false] rfl rfl (any_of HT_.out (by kernel_rfl)) (fun _ _ _ h => h) (Or.inl ⟨by rfl, ?_⟩) ?_ ?_
                  rotate_left
                  · intro w'
                    go_simp
                    with_reducible rfl
                  rotate_left
                  · simp only [Act.put, List.setIfInBounds_toArray, List.set_cons_zero, List.set_cons_succ, i64_w, i32_w]
                    rfl
                  refine one_ (i := 12) (N := none) #[true, true, true, true, true, true, true, true, true, true, true, true, true] rfl rfl (one_of HT_.out (by kernel_rfl)) (by decide) (fun K hK => ?_)
                  have hs62 : w59.cell? ⟨gb117, 4, none⟩ = some (.int .i64 0) := (blk_cell BK117.out 4).trans rfl
                  have hfs62 := blk_frozen BK117.out 4
                  have hns62_0 := NB116_117.out
                  have hms62_0 := NB117_116.out
                  refine skip_ (w1 := ?_) (by rfl) rfl ?_ ?_
                  rotate_left
                  · go_simp
                    rfl
                  refine hK.out _ _ trivial (fun hHeld => ?_)
                  clear hK K
                  refine done_ (done_of HT_.out (by kernel_rfl)) ?_
                  have hcz63_0 : w59.cell? ⟨gb117, 0, none⟩ = some (.int .i64 0) := (blk_cell BK117.out 0).trans rfl
                  have hcz63_1 : w59.cell? ⟨gb117, 1, none⟩ = some (.string (⟨#[]⟩ : ByteArray)) := (blk_cell BK117.out 1).trans rfl
                  have hcz63_2 : w59.cell? ⟨gb117, 2, none⟩ = some (.int .u64 0) := (blk_cell BK117.out 2).trans rfl
                  have hcz63_3 : w59.cell? ⟨gb117, 3, none⟩ = some (.int .i64 a1) := (blk_cell BK117.out 3).trans rfl
                  have hcz63_4 : w59.cell? ⟨gb117, 4, none⟩ = some (.int .i64 0) := (blk_cell BK117.out 4).trans rfl
                  have hfz63_0 := blk_frozen BK117.out 0
                  have hfz63_1 := blk_frozen BK117.out 1
                  have hfz63_2 := blk_frozen BK117.out 2
                  have hfz63_3 := blk_frozen BK117.out 3
                  have hfz63_4 := blk_frozen BK117.out 4
                  have hcz64_0 : w59.cell? ⟨gb116, 0, none⟩ = some (.int .i64 0) := (blk_cell BK116.out 0).trans rfl
                  have hcz64_1 : w59.cell? ⟨gb116, 1, none⟩ = some (.string (⟨#[]⟩ : ByteArray)) := (blk_cell BK116.out 1).trans rfl
                  have hcz64_2 : w59.cell? ⟨gb116, 2, none⟩ = some (.int .u64 0) := (blk_cell BK116.out 2).trans rfl
                  have hcz64_3 : w59.cell? ⟨gb116, 3, none⟩ = some (.int .i64 0) := (blk_cell BK116.out 3).trans rfl
                  have hcz64_4 : w59.cell? ⟨gb116, 4, none⟩ = some (.int .i64 0) := (blk_cell BK116.out 4).trans rfl
                  have hfz64_0 := blk_frozen BK116.out 0
                  have hfz64_1 := blk_frozen BK116.out 1
                  have hfz64_2 := blk_frozen BK116.out 2
                  have hfz64_3 := blk_frozen BK116.out 3
                  have hfz64_4 := blk_frozen BK116.out 4
                  try go_wp2
                  refine bodyPost_ret (results_ctt rfl _ _ gb116 63 #[.int .i64 4, .string (a0.extract (a1 : Int).toNat ((wrap64 (a1 + 1)) : Int).toNat), .int .u64 0, .int .i64 a1, .int .i64 (wrap64 (a1 + 1))] (0, 0) _ rfl (by (with_reducible repeat (first | refine blk_drewN ?_ _ | refine blk_drew ?_ | refine blk_alloc ?_ _)); refine blk_put (cs := #[.int .i64 4, .string (a0.extract (a1 : Int).toNat ((wrap64 (a1 + 1)) : Int).toNat), .int .u64 0, .int .i64 a1, .int .i64 0]) ?_ 4 _ rfl; (with_reducible repeat (first | refine blk_drewN ?_ _ | refine blk_drew ?_ | refine blk_alloc ?_ _)); refine blk_put (cs := #[.int .i64 4, .string (a0.extract (a1 : Int).toNat ((wrap64 (a1 + 1)) : Int).toNat), .int .u64 0, .int .i64 0, .int .i64 0]) ?_ 3 _ rfl; (with_reducible repeat (first | refine blk_drewN ?_ _ | refine blk_drew ?_ | refine blk_alloc ?_ _)); refine blk_put (cs := #[.int .i64 4, .string (a0.extract (a1 : Int).toNat ((wrap64 (a1 + 1)) : Int).toNat), .int .u64 0, .int .i64 0, .int .i64 0]) ?_ 2 _ rfl; (with_reducible repeat (first | refine blk_drewN ?_ _ | refine blk_drew ?_ | refine blk_alloc ?_ _)); refine blk_put (cs := #[.int .i64 4, .string (⟨#[]⟩ : ByteArray), .int .u64 0, .int .i64 0, .int .i64 0]) ?_ 1 _ rfl; (with_reducible repeat (first | refine blk_drewN ?_ _ | refine blk_drew ?_ | refine blk_alloc ?_ _)); refine blk_put (cs := #[.int .i64 0, .string (⟨#[]⟩ : ByteArray), .int .u64 0, .int .i64 0, .int .i64 0]) ?_ 0 _ rfl; (with_reducible repeat (first | refine blk_drewN ?_ _ | refine blk_drew ?_ | refine blk_alloc ?_ _)); refine blk_far ?_ NB116_117.out _; (with_reducible repeat (first | refine blk_drewN ?_ _ | refine blk_drew ?_ | refine blk_alloc ?_ _)); refine blk_far ?_ NB116_117.out _; (with_reducible repeat (first | refine blk_drewN ?_ _ | refine blk_drew ?_ | refine blk_alloc ?_ _)); refine blk_far ?_ NB116_117.out _; (with_reducible repeat (first | refine blk_drewN ?_ _ | refine blk_drew ?_ | refine blk_alloc ?_ _)); exact BK116.out) Tryd.underlying63 rfl (by kernel_rfl)) rfl ?_
                  exact ⟨by first | rfl | (simp [errW_none, errW_some] <;> rfl) | (simp [*, errW_none, errW_some] <;> rfl), by repeat (first | (with_reducible first | exact HB.out | apply below_alloc | apply pw_below_drewN | apply below_drew1 | refine below_set ?_ GE116.out | refine below_set ?_ GE117.out) | exact HB.out)⟩
                · rw [if_neg c53] at H
                  exact absurd H (by simp)
              · rw [if_neg c52] at H
                exact absurd H (by simp)
            · rw [if_neg c50] at H
              have c50b0 : decide (0 ≤ t131) = false := decide_eq_false c50
              clear c50
              simp only [Option.some.injEq, Prod.mk.injEq] at H
              obtain ⟨rfl, rfl, rfl, rfl, rfl, rfl, rfl⟩ := H
              go_enter Tryd.func46, Tryd.ntmps46
              go_wp2_with (first | ((with_reducible refine gate_dst (N := 4) rfl ?_); refine box_event ?hg (N := 4) ?hd (cs := #[.int .i64 0, .string (⟨#[]⟩ : ByteArray), .int .u64 0, .int .i64 0, .int .i64 0]) (t := 63) ?hr ?_; (case hd => rfl); (case hg => rfl); (case hr => first | (go_simp; done) | (go_simp; rfl)); intro gb116 hg w65 hbox hb; have n0_ := Aside0.mk (below_step (by repeat (first | (with_reducible first | exact HB.out | apply below_alloc | apply pw_below_drewN | apply below_drew1) | exact HB.out)) hb); have n1_ := Aside0.mk (hbox); have n2_ := Aside0.mk ((by rw [hg]; exact (below_size (by repeat (first | (with_reducible first | exact HB.out | apply below_alloc | apply pw_below_drewN | apply below_drew1) | exact HB.out))) : w.heap.size ≤ gb116)); have n3_ := Aside0.mk ((by rw [hg]; exact (below_size (by repeat (first | (with_reducible first | exact HB.out | apply below_alloc | apply pw_below_drewN | apply below_drew1) | exact HB.out))) : w.heap.size ≤ gb116)); clear HB; have HB := n0_; have BK116 := n1_; have GW116 := n2_; have GE116 := n3_; clear n0_ n1_ n2_ n3_; clear hb hbox hg) | ((with_reducible refine gate_dst (N := 7) rfl ?_); refine box_event ?hg (N := 7) ?hd (cs := #[.int .i64 0, .string (⟨#[]⟩ : ByteArray), .int .u64 0, .int .i64 0, .int .i64 0]) (t := 63) ?hr ?_; (case hd => rfl); (case hg => rfl); (case hr => first | (go_simp; done) | (go_simp; rfl)); intro gb117 hg w66 hbox hb; have n0_ := Aside0.mk (blk_below (g := gb116) (o := .cells #[.int .i64 0, .string (⟨#[]⟩ : ByteArray), .int .u64 0, .int .i64 0, .int .i64 0] 63 (0, 0)) (by (with_reducible repeat (first | refine blk_drewN ?_ _ | refine blk_drew ?_ | refine blk_alloc ?_ _)); exact BK116.out) hb); have n1_ := Aside0.mk (below_step (by repeat (first | (with_reducible first | exact HB.out | apply below_alloc | apply pw_below_drewN | apply below_drew1 | refine below_set ?_ GE116.out) | exact HB.out)) hb); have n2_ := Aside0.mk (hbox); have n3_ := Aside0.mk ((by rw [hg]; exact (below_size (by repeat (first | (with_reducible first | exact HB.out | apply below_alloc | apply pw_below_drewN | apply below_drew1 | refine below_set ?_ GE116.out) | exact HB.out))) : w.heap.size ≤ gb117)); have n4_ := Aside0.mk ((by rw [hg]; exact (below_size (by repeat (first | (with_reducible first | exact HB.out | apply below_alloc | apply pw_below_drewN | apply below_drew1 | refine below_set ?_ GE116.out) | exact HB.out))) : w.heap.size ≤ gb117)); have n5_ := Aside0.mk ((by rw [hg]; exact Nat.ne_of_lt (blk_lt (g := gb116) (o := .cells #[.int .i64 0, .string (⟨#[]⟩ : ByteArray), .int .u64 0, .int .i64 0, .int .i64 0] 63 (0, 0)) (by (with_reducible repeat (first | refine blk_drewN ?_ _ | refine blk_drew ?_ | refine blk_alloc ?_ _)); exact BK116.out)) : gb116 ≠ gb117)); have n6_ := Aside0.mk ((by rw [hg]; exact Nat.ne_of_gt (blk_lt (g := gb116) (o := .cells #[.int .i64 0, .string (⟨#[]⟩ : ByteArray), .int .u64 0, .int .i64 0, .int .i64 0] 63 (0, 0)) (by (with_reducible repeat (first | refine blk_drewN ?_ _ | refine blk_drew ?_ | refine blk_alloc ?_ _)); exact BK116.out)) : gb117 ≠ gb116)); clear BK116; clear HB; have BK116 := n0_; have HB := n1_; have BK117 := n2_; have GW117 := n3_; have GE117 := n4_; have NB116_117 := n5_; have NB117_116 := n6_; clear n0_ n1_ n2_ n3_ n4_ n5_ n6_; clear hb hbox hg; have hnb67 := NB117_116.out; have hnc67 := NB116_117.out; have hcz68_0 : w66.cell? ⟨gb117, 0, none⟩ = some (.int .i64 0) := (blk_cell BK117.out 0).trans rfl; have hcz68_1 : w66.cell? ⟨gb117, 1, none⟩ = some (.string (⟨#[]⟩ : ByteArray)) := (blk_cell BK117.out 1).trans rfl; have hcz68_2 : w66.cell? ⟨gb117, 2, none⟩ = some (.int .u64 0) := (blk_cell BK117.out 2).trans rfl; have hcz68_3 : w66.cell? ⟨gb117, 3, none⟩ = some (.int .i64 0) := (blk_cell BK117.out 3).trans rfl; have hcz68_4 : w66.cell? ⟨gb117, 4, none⟩ = some (.int .i64 0) := (blk_cell BK117.out 4).trans rfl; have hfz68_0 := blk_frozen BK117.out 0; have hfz68_1 := blk_frozen BK117.out 1; have hfz68_2 := blk_frozen BK117.out 2; have hfz68_3 := blk_frozen BK117.out 3; have hfz68_4 := blk_frozen BK117.out 4; have p5 : 0 ≤ (a1 : Int) := of_decide_eq_true (by first | (with_reducible assumption) | assumption); have q5 : a1 < (a0.size : Int) := of_decide_eq_true (by first | (with_reducible assumption) | assumption); have hx5 := bt_at a0 a1; replace p5 := eq_true p5; replace q5 := eq_true q5) | ((with_reducible refine gate_callee (f := 77) rfl ?_); refine goesL_ (some 20) rfl rfl Tryd.func77 (by kernel_rfl) rfl #[.int .u8 (bt a0 a1)] rfl (by (try simp only [List.map_toArray, List.map_cons, List.map_nil]); first | done | rfl | (simp only [List.length_drop, List.length_take]; rfl)) ?_; (with_reducible refine (lex_isLetter.calls (bt a0 a1) false _ A6.out).mono ?_); rintro e w' ⟨rfl, ⟨nd, rfl⟩⟩; refine ⟨_, rfl, ?_⟩) | ((with_reducible refine gate_callee (f := 80) rfl ?_); refine goesL_ (some 40) rfl rfl Tryd.func80 (by kernel_rfl) rfl #[.int .u8 (bt a0 a1)] rfl (by (try simp only [List.map_toArray, List.map_cons, List.map_nil]); first | done | rfl | (simp only [List.length_drop, List.length_take]; rfl)) ?_; (with_reducible refine (lex_isDigit.calls (bt a0 a1) false _ A23.out).mono ?_); rintro e w' ⟨rfl, ⟨nd, rfl⟩⟩; refine ⟨_, rfl, ?_⟩) | ((with_reducible refine gate_callee (f := 76) rfl ?_); refine goesL_ (some 72) rfl rfl Tryd.func76 (by kernel_rfl) rfl #[.string (⟨#[123, 125, 40, 41, 58, 59, 44, 61, 43, 45, 42]⟩ : ByteArray), .int .u8 (bt a0 a1)] rfl (by (try simp only [List.map_toArray, List.map_cons, List.map_nil]); first | done | rfl | (simp only [List.length_drop, List.length_take]; rfl)) ?_; (with_reducible refine (strings_IndexByte.calls (⟨#[123, 125, 40, 41, 58, 59, 44, 61, 43, 45, 42]⟩ : ByteArray) (bt a0 a1) t131 _ A49.out).mono ?_); rintro e w' ⟨rfl, ⟨nd, rfl⟩⟩; refine ⟨_, rfl, ?_⟩; have hcz69_0 : w66.cell? ⟨gb116, 0, none⟩ = some (.int .i64 0) := (blk_cell BK116.out 0).trans rfl; have hcz69_1 : w66.cell? ⟨gb116, 1, none⟩ = some (.string (⟨#[]⟩ : ByteArray)) := (blk_cell BK116.out 1).trans rfl; have hcz69_2 : w66.cell? ⟨gb116, 2, none⟩ = some (.int .u64 0) := (blk_cell BK116.out 2).trans rfl; have hcz69_3 : w66.cell? ⟨gb116, 3, none⟩ = some (.int .i64 0) := (blk_cell BK116.out 3).trans rfl; have hcz69_4 : w66.cell? ⟨gb116, 4, none⟩ = some (.int .i64 0) := (blk_cell BK116.out 4).trans rfl; have hfz69_0 := blk_frozen BK116.out 0; have hfz69_1 := blk_frozen BK116.out 1; have hfz69_2 := blk_frozen BK116.out 2; have hfz69_3 := blk_frozen BK116.out 3; have hfz69_4 := blk_frozen BK116.out 4))
              refine bodyPost_ret (results_ctt rfl _ _ gb116 63 #[.int .i64 0, .string (⟨#[]⟩ : ByteArray), .int .u64 0, .int .i64 a1, .int .i64 0] (0, 0) _ rfl (by (with_reducible repeat (first | refine blk_drewN ?_ _ | refine blk_drew ?_ | refine blk_alloc ?_ _)); refine blk_put (cs := #[.int .i64 0, .string (⟨#[]⟩ : ByteArray), .int .u64 0, .int .i64 a1, .int .i64 0]) ?_ 4 _ rfl; (with_reducible repeat (first | refine blk_drewN ?_ _ | refine blk_drew ?_ | refine blk_alloc ?_ _)); refine blk_put (cs := #[.int .i64 0, .string (⟨#[]⟩ : ByteArray), .int .u64 0, .int .i64 0, .int .i64 0]) ?_ 3 _ rfl; (with_reducible repeat (first | refine blk_drewN ?_ _ | refine blk_drew ?_ | refine blk_alloc ?_ _)); refine blk_put (cs := #[.int .i64 0, .string (⟨#[]⟩ : ByteArray), .int .u64 0, .int .i64 0, .int .i64 0]) ?_ 2 _ rfl; (with_reducible repeat (first | refine blk_drewN ?_ _ | refine blk_drew ?_ | refine blk_alloc ?_ _)); refine blk_put (cs := #[.int .i64 0, .string (⟨#[]⟩ : ByteArray), .int .u64 0, .int .i64 0, .int .i64 0]) ?_ 1 _ rfl; (with_reducible repeat (first | refine blk_drewN ?_ _ | refine blk_drew ?_ | refine blk_alloc ?_ _)); refine blk_put (cs := #[.int .i64 0, .string (⟨#[]⟩ : ByteArray), .int .u64 0, .int .i64 0, .int .i64 0]) ?_ 0 _ rfl; (with_reducible repeat (first | refine blk_drewN ?_ _ | refine blk_drew ?_ | refine blk_alloc ?_ _)); refine blk_far ?_ NB116_117.out _; (with_reducible repeat (first | refine blk_drewN ?_ _ | refine blk_drew ?_ | refine blk_alloc ?_ _)); refine blk_far ?_ NB116_117.out _; (with_reducible repeat (first | refine blk_drewN ?_ _ | refine blk_drew ?_ | refine blk_alloc ?_ _)); refine blk_far ?_ NB116_117.out _; (with_reducible repeat (first | refine blk_drewN ?_ _ | refine blk_drew ?_ | refine blk_alloc ?_ _)); refine blk_far ?_ NB116_117.out _; (with_reducible repeat (first | refine blk_drewN ?_ _ | refine blk_drew ?_ | refine blk_alloc ?_ _)); refine blk_far ?_ NB116_117.out _; (with_reducible repeat (first | refine blk_drewN ?_ _ | refine blk_drew ?_ | refine blk_alloc ?_ _)); exact BK116.out) Tryd.underlying63 rfl (by kernel_rfl)) rfl ?_
              exact ⟨by first | rfl | (simp [errW_none, errW_some] <;> rfl) | (simp [*, errW_none, errW_some] <;> rfl), by repeat (first | (with_reducible first | exact HB.out | apply below_alloc | apply pw_below_drewN | apply below_drew1 | refine below_set ?_ GE116.out | refine below_set ?_ GE117.out) | exact HB.out)⟩
    · rw [if_neg c4] at H
      exact absurd H (by simp)
  · rw [if_neg c3] at H
    exact absurd H (by simp)
def lex_Lex.l0 : Nat → ByteArray → List (S63) → Int → Option ((List (S63)) × Int × Int)
  | 0, _, _, _ => none
  | k + 1, x0, x5, x6 => if x6 < (x0.size : Int) then ((lex_token.f k x0 x6).bind fun bt136 => (if bt136.2.2.2.2.2.2 = 0 then (if x5.length < 2932031007402 then ((lex_skip.f k x0 bt136.2.2.2.2.1).bind fun t147 => (lex_Lex.l0 k x0 (x5 ++ [(⟨bt136.1, bt136.2.1, bt136.2.2.1, bt136.2.2.2.1, bt136.2.2.2.2.1⟩ : S63)]) t147)) else (none)) else (some (([] : List (S63)), bt136.2.2.2.2.2.1, bt136.2.2.2.2.2.2)))) else (if x5.length < 2932031007402 then (some ((x5 ++ [(⟨0, (⟨#[]⟩ : ByteArray), 0, (x0.size : Int), (x0.size : Int)⟩ : S63)]), 0, 0)) else (none))
def lex_Lex.f (k : Nat) (a0 : ByteArray) : Option ((List (S63)) × Int × Int) := if (a0.size : Int) > 1048576 then (some (([] : List (S63)), 0, 2)) else ((lex_skip.f k a0 0).bind fun t132 => (lex_Lex.l0 k a0 ([] : List (S63)) t132))
set_option maxHeartbeats 8000000 in
set_option maxRecDepth 100000 in
theorem lex_Lex.calls (k : Nat) (a0 : ByteArray) (r1 : List (S63)) (r2 : Int) (r3 : Int) (w : World) (h : lex_Lex.f k a0 = some (r1, r2, r3)) :
    Calls Tryd.prog 21 #[.string a0] w fun e w' => ∃ v0_ : Value, e = .returned (.tuple #[v0_, .int .i64 r2, .int .i64 r3]) ∧ Kd.R k63 63 w' w.heap.size (fun _ => True) v0_ r1 ∧ Below w.heap.size w w' := by
  have hu63 := Tryd.underlying63
  have HB := Aside0.mk (Below.refl w.heap.size w)
  have H : (if (a0.size : Int) > 1048576 then (some (([] : List (S63)), 0, 2)) else ((lex_skip.f k a0 0).bind fun t132 => (lex_Lex.l0 k a0 ([] : List (S63)) t132))) = some (r1, r2, r3) := h
  clear h
  by_cases c2 : (a0.size : Int) > 1048576
  · rw [if_pos c2] at H
    have c2b0 : decide (1048576 < (a0.size : Int)) = true := decide_eq_true c2
    have c2b1 : decide (1048576 < a0.size) = true := decide_eq_true (by omega)
    clear c2
    simp only [Option.some.injEq, Prod.mk.injEq] at H
    obtain ⟨rfl, rfl, rfl⟩ := H
    go_enter Tryd.func21, Tryd.ntmps21
    go_wp2
    go_ret3
    exact ⟨_, by first | rfl | (simp [errW_none, errW_some] <;> rfl) | (simp [*, errW_none, errW_some] <;> rfl), by first | exact Kd.R_nil _ _ _ _ _ | exact Kd.N_nil _ _ _ _ _ | exact Kd.V_nil _ _ _ _ _ | exact Kd.Q_nil _ _ _ _ _ | exact Kd.S_nil _ _ _ _ _, by repeat (first | (with_reducible first | exact HB.out | apply below_alloc | apply pw_below_drewN | apply below_drew1) | exact HB.out)⟩
  · rw [if_neg c2] at H
    have c2b0 : decide (1048576 < (a0.size : Int)) = false := decide_eq_false c2
    have c2b1 : decide (1048576 < a0.size) = false := decide_eq_false (by omega)
    clear c2
    replace H := Option.bind_eq_some_iff.mp H
    obtain ⟨t132, A30, H⟩ := H
    replace H : (lex_Lex.l0 k a0 ([] : List (S63)) t132) = some (r1, r2, r3) := H
    have A3 := Aside0.mk A30
    clear A30
    have H' := Aside0.mk H
    clear H
    go_enter Tryd.func21, Tryd.ntmps21
    go_wp2_with (first | ((with_reducible refine gate_callee (f := 45) rfl ?_); refine goesL_ (some 14) rfl rfl Tryd.func45 (by kernel_rfl) rfl #[.string a0, .int .i64 0] rfl (by (try simp only [List.map_toArray, List.map_cons, List.map_nil]); first | done | rfl | (simp only [List.length_drop, List.length_take]; rfl)) ?_; (with_reducible refine (lex_skip.calls k a0 0 t132 _ A3.out).mono ?_); rintro e w' ⟨rfl, ⟨nd, rfl⟩⟩; refine ⟨_, rfl, ?_⟩))
    go_loopg [5, 6] k (fun kq v5 v6 w' => ∃ (x5_1 : List (S63)) (x6_1 : Int), v6 = .int .i64 x6_1 ∧ Aside0 (lex_Lex.l0 kq a0 x5_1 x6_1 = some (r1, r2, r3)) ∧ Aside0 (kq ≤ k) ∧ Aside0 (Kd.R k63 63 w' w.heap.size (fun _ => True) v5 x5_1) ∧ Aside0 (Below w.heap.size w w'))
    case atStart => exact ⟨(([] : List (S63))), (t132), (by first | rfl | (simp; done) | (simp [*]; done)), H', ⟨Nat.le_refl _⟩, ⟨by first | exact Kd.R_nil _ _ _ _ _ | exact Kd.N_nil _ _ _ _ _ | exact Kd.V_nil _ _ _ _ _ | exact Kd.Q_nil _ _ _ _ _ | exact Kd.S_nil _ _ _ _ _⟩, ⟨by repeat (first | (with_reducible first | exact HB.out | apply below_alloc | apply pw_below_drewN | apply below_drew1) | exact HB.out)⟩⟩
    case round =>
      clear H'
      try clear c2
      try clear c2b0
      try clear c2b1
      try clear p2
      obtain ⟨x5_1, x6_1, rfl, HA, HK1, HO_5, HB⟩ := hrel
      cases gk with
      | zero => exact absurd HA.out (by simp [lex_Lex.l0])
      | succ k1 =>
        have H := HA.out
        clear HA
        simp only [lex_Lex.l0] at H
        by_cases c4 : x6_1 < (a0.size : Int)
        · rw [if_pos c4] at H
          have c4b0 : decide (x6_1 < (a0.size : Int)) = true := decide_eq_true c4
          clear c4
          replace H := Option.bind_eq_some_iff.mp H
          obtain ⟨⟨t136, t137, t138, t139, t140, t141, t142⟩, A50, H⟩ := H
          replace H : (if t142 = 0 then (if x5_1.length < 2932031007402 then ((lex_skip.f k1 a0 t140).bind fun t147 => (lex_Lex.l0 k1 a0 (x5_1 ++ [(⟨t136, t137, t138, t139, t140⟩ : S63)]) t147)) else (none)) else (some (([] : List (S63)), t141, t142))) = some (r1, r2, r3) := H
          have A5 := Aside0.mk A50
          clear A50
          by_cases c6 : t142 = 0
          · rw [if_pos c6] at H
            have c6b0 : (t142 == 0) = true := beq_iff_eq.mpr c6
            have c6b1 : (t142 != 0) = false := bne_eq_false_iff_eq.mpr c6
            clear c6
            by_cases c7 : x5_1.length < 2932031007402
            · rw [if_pos c7] at H
              have LMc7 := Aside0.mk c7
              clear c7
              obtain ⟨y144, hy144⟩ : ∃ y_ : List (S63), y_ = (x5_1 ++ [(⟨t136, t137, t138, t139, t140⟩ : S63)]) := ⟨_, rfl⟩
              replace H : ((lex_skip.f k1 a0 t140).bind fun t147 => (lex_Lex.l0 k1 a0 y144 t147)) = some (r1, r2, r3) := by first | (rw [hy144]; with_reducible exact H) | (have H2_ := (Option.bind_some _ _).symm.trans H; rw [hy144]; with_reducible exact H2_) | (have H2_ := (Option.bind_some _ _).symm.trans H; with_reducible exact H2_) | with_reducible exact H | (rw [hy144]; exact H) | exact H
              have Ny144 := Aside0.mk hy144
              clear hy144
              replace H := Option.bind_eq_some_iff.mp H
              obtain ⟨t147, A80, H⟩ := H
              replace H : (lex_Lex.l0 k1 a0 y144 t147) = some (r1, r2, r3) := H
              have A8 := Aside0.mk A80
              clear A80
              have H' := Aside0.mk H
              clear H
              go_wp2_with (first | ((with_reducible refine gate_callee (f := 46) rfl ?_); refine goesL_ (some 22) rfl rfl Tryd.func46 (by kernel_rfl) rfl #[.string a0, .int .i64 x6_1] rfl (by (try simp only [List.map_toArray, List.map_cons, List.map_nil]); first | done | rfl | (simp only [List.length_drop, List.length_take]; rfl)) ?_; (with_reducible refine (lex_token.calls k1 a0 x6_1 t136 t137 t138 t139 t140 t141 t142 _ A5.out).mono ?_); rintro e w9 ⟨rfl, hb⟩; refine ⟨_, rfl, ?_⟩; have n0_ := Aside0.mk (Kd.R_below (by (with_reducible repeat (first | apply Kd.R_alloc | apply Kd.R_drewN | apply Kd.R_drew)); exact HO_5.out) hb); have n1_ := Aside0.mk (below_step (by repeat (first | (with_reducible first | exact HB.out | apply below_alloc | apply pw_below_drewN | apply below_drew1) | exact HB.out)) hb); clear HO_5; clear HB; have HO_5 := n0_; have HB := n1_; clear n0_ n1_; (try clear hb); (try clear hb2); (try clear hk); (try clear hi)) | ((with_reducible refine gate_dst (N := 7) rfl ?_); refine box_event ?hg (N := 7) ?hd (cs := #[.int .i64 0, .string (⟨#[]⟩ : ByteArray), .int .u64 0, .int .i64 0, .int .i64 0]) (t := 63) ?hr ?_; (case hd => rfl); (case hg => rfl); (case hr => first | (go_simp; done) | (go_simp; rfl)); intro gb143 hg w10 hbox hb; have n0_ := Aside0.mk (Kd.R_below (Kd.R_elderB (by (with_reducible repeat (first | apply Kd.R_alloc | apply Kd.R_drewN | apply Kd.R_drew)); exact HO_5.out) gb143 (Nat.le_of_eq hg.symm)) hb); have n1_ := Aside0.mk (below_step (by repeat (first | (with_reducible first | exact HB.out | apply below_alloc | apply pw_below_drewN | apply below_drew1) | exact HB.out)) hb); have n2_ := Aside0.mk (hbox); have n3_ := Aside0.mk ((by rw [hg]; exact (below_size (by repeat (first | (with_reducible first | exact HB.out | apply below_alloc | apply pw_below_drewN | apply below_drew1) | exact HB.out))) : w.heap.size ≤ gb143)); have n4_ := Aside0.mk ((by rw [hg]; exact (below_size (by repeat (first | (with_reducible first | exact HB.out | apply below_alloc | apply pw_below_drewN | apply below_drew1) | exact HB.out))) : w.heap.size ≤ gb143)); clear HO_5; clear HB; have HO_5 := n0_; have HB := n1_; have BK143 := n2_; have GW143 := n3_; have GE143 := n4_; clear n0_ n1_ n2_ n3_ n4_; clear hb hbox hg; have hcz11_0 : w10.cell? ⟨gb143, 0, none⟩ = some (.int .i64 0) := (blk_cell BK143.out 0).trans rfl; have hcz11_1 : w10.cell? ⟨gb143, 1, none⟩ = some (.string (⟨#[]⟩ : ByteArray)) := (blk_cell BK143.out 1).trans rfl; have hcz11_2 : w10.cell? ⟨gb143, 2, none⟩ = some (.int .u64 0) := (blk_cell BK143.out 2).trans rfl; have hcz11_3 : w10.cell? ⟨gb143, 3, none⟩ = some (.int .i64 0) := (blk_cell BK143.out 3).trans rfl; have hcz11_4 : w10.cell? ⟨gb143, 4, none⟩ = some (.int .i64 0) := (blk_cell BK143.out 4).trans rfl; have hfz11_0 := blk_frozen BK143.out 0; have hfz11_1 := blk_frozen BK143.out 1; have hfz11_2 := blk_frozen BK143.out 2; have hfz11_3 := blk_frozen BK143.out 3; have hfz11_4 := blk_frozen BK143.out 4) | ((with_reducible refine gate_builtin (b := .append) (xs := #[.tmp 30, .tmp 32]) rfl ?_); at_builtin; refine Kd.R_append k63 (w0 := w) w.heap.size rfl (.tmp 30) (.tmp 32) 59 63 (.agg #[(.int .i64 0), (.string ⟨#[]⟩), (.int .u64 0), (.int .i64 0), (.int .i64 0)]) 48 rfl Tryd.underlying59 info63 rfl (by decide) (by omega) u5 x5_1 (⟨t136, t137, t138, t139, t140⟩ : S63) [.int .i64 t136, .string t137, .int .u64 t138, .int .i64 t139, .int .i64 t140] (fun k_ => k_ ≠ gb143) (fun _ => False) rfl (by first | (go_simp; done) | (go_simp; rfl)) ?aP (fun _ hk => hk.elim) ?aF ?aO ?aB ?aS ?aL ?_; (case aP => exact k63_mkM _ _ _ (⟨t136, t137, t138, t139, t140⟩ : S63)); (case aB => exact (by repeat (first | (with_reducible first | exact HB.out | apply below_alloc | apply pw_below_drewN | apply below_drew1 | refine below_set ?_ GE143.out) | exact HB.out))); (case aF => exact (fun k_ hk => Kd.freshB (g := gb143) (o := .cells #[.int .i64 t136, .string t137, .int .u64 t138, .int .i64 t139, .int .i64 t140] 63 (0, 0)) (by (with_reducible repeat (first | refine blk_drewN ?_ _ | refine blk_drew ?_ | refine blk_alloc ?_ _)); refine blk_put (cs := #[.int .i64 t136, .string t137, .int .u64 t138, .int .i64 t139, .int .i64 0]) ?_ 4 _ rfl; (with_reducible repeat (first | refine blk_drewN ?_ _ | refine blk_drew ?_ | refine blk_alloc ?_ _)); refine blk_put (cs := #[.int .i64 t136, .string t137, .int .u64 t138, .int .i64 0, .int .i64 0]) ?_ 3 _ rfl; (with_reducible repeat (first | refine blk_drewN ?_ _ | refine blk_drew ?_ | refine blk_alloc ?_ _)); refine blk_put (cs := #[.int .i64 t136, .string t137, .int .u64 0, .int .i64 0, .int .i64 0]) ?_ 2 _ rfl; (with_reducible repeat (first | refine blk_drewN ?_ _ | refine blk_drew ?_ | refine blk_alloc ?_ _)); refine blk_put (cs := #[.int .i64 t136, .string (⟨#[]⟩ : ByteArray), .int .u64 0, .int .i64 0, .int .i64 0]) ?_ 1 _ rfl; (with_reducible repeat (first | refine blk_drewN ?_ _ | refine blk_drew ?_ | refine blk_alloc ?_ _)); refine blk_put (cs := #[.int .i64 0, .string (⟨#[]⟩ : ByteArray), .int .u64 0, .int .i64 0, .int .i64 0]) ?_ 0 _ rfl; (with_reducible repeat (first | refine blk_drewN ?_ _ | refine blk_drew ?_ | refine blk_alloc ?_ _)); exact BK143.out) k_ hk)); (case aO => exact (by (with_reducible repeat (first | apply Kd.R_alloc | apply Kd.R_drewN | apply Kd.R_drew)); exact Kd.R_mono (Kd.R_far (p := ⟨gb143, 4, none⟩) (Kd.R_far (p := ⟨gb143, 3, none⟩) (Kd.R_far (p := ⟨gb143, 2, none⟩) (Kd.R_far (p := ⟨gb143, 1, none⟩) (Kd.R_far (p := ⟨gb143, 0, none⟩) (Kd.R_mono HO_5.out (fun k_ hk => (⟨hk, hk.2⟩ : _ ∧ k_ ≠ gb143))) (fun _ hk => hk.2) (.int .i64 t136)) (fun _ hk => hk.2) (.string t137)) (fun _ hk => hk.2) (.int .u64 t138)) (fun _ hk => hk.2) (.int .i64 t139)) (fun _ hk => hk.2) (.int .i64 t140)) (fun _ hk => hk.1.2))); (case aS => exact (below_size (by repeat (first | (with_reducible first | exact HB.out | apply below_alloc | apply pw_below_drewN | apply below_drew1 | refine below_set ?_ GE143.out) | exact HB.out)))); (case aL => have := LMc7.out; omega); intro v145 w12 ho hb hg hat; rw [← Ny144.out] at ho; have n0_ := Aside0.mk (blk_grown (g := gb143) (o := .cells #[.int .i64 t136, .string t137, .int .u64 t138, .int .i64 t139, .int .i64 t140] 63 (0, 0)) (by (with_reducible repeat (first | refine blk_drewN ?_ _ | refine blk_drew ?_ | refine blk_alloc ?_ _)); refine blk_put (cs := #[.int .i64 t136, .string t137, .int .u64 t138, .int .i64 t139, .int .i64 0]) ?_ 4 _ rfl; (with_reducible repeat (first | refine blk_drewN ?_ _ | refine blk_drew ?_ | refine blk_alloc ?_ _)); refine blk_put (cs := #[.int .i64 t136, .string t137, .int .u64 t138, .int .i64 0, .int .i64 0]) ?_ 3 _ rfl; (with_reducible repeat (first | refine blk_drewN ?_ _ | refine blk_drew ?_ | refine blk_alloc ?_ _)); refine blk_put (cs := #[.int .i64 t136, .string t137, .int .u64 0, .int .i64 0, .int .i64 0]) ?_ 2 _ rfl; (with_reducible repeat (first | refine blk_drewN ?_ _ | refine blk_drew ?_ | refine blk_alloc ?_ _)); refine blk_put (cs := #[.int .i64 t136, .string (⟨#[]⟩ : ByteArray), .int .u64 0, .int .i64 0, .int .i64 0]) ?_ 1 _ rfl; (with_reducible repeat (first | refine blk_drewN ?_ _ | refine blk_drew ?_ | refine blk_alloc ?_ _)); refine blk_put (cs := #[.int .i64 0, .string (⟨#[]⟩ : ByteArray), .int .u64 0, .int .i64 0, .int .i64 0]) ?_ 0 _ rfl; (with_reducible repeat (first | refine blk_drewN ?_ _ | refine blk_drew ?_ | refine blk_alloc ?_ _)); exact BK143.out) hg (Kd.R_away HO_5.out (fun _ hk => hk.2))); have n1_ := Aside0.mk (hb); have n2_ := Aside0.mk (ho); clear BK143; clear HB; clear HO_5; have BK143 := n0_; have HB := n1_; have HO146 := n2_; clear n0_ n1_ n2_; clear ho hb hg hat; have hcz13_0 : w12.cell? ⟨gb143, 0, none⟩ = some (.int .i64 t136) := (blk_cell BK143.out 0).trans rfl; have hcz13_1 : w12.cell? ⟨gb143, 1, none⟩ = some (.string t137) := (blk_cell BK143.out 1).trans rfl; have hcz13_2 : w12.cell? ⟨gb143, 2, none⟩ = some (.int .u64 t138) := (blk_cell BK143.out 2).trans rfl; have hcz13_3 : w12.cell? ⟨gb143, 3, none⟩ = some (.int .i64 t139) := (blk_cell BK143.out 3).trans rfl; have hcz13_4 : w12.cell? ⟨gb143, 4, none⟩ = some (.int .i64 t140) := (blk_cell BK143.out 4).trans rfl; have hfz13_0 := blk_frozen BK143.out 0; have hfz13_1 := blk_frozen BK143.out 1; have hfz13_2 := blk_frozen BK143.out 2; have hfz13_3 := blk_frozen BK143.out 3; have hfz13_4 := blk_frozen BK143.out 4) | ((with_reducible refine gate_callee (f := 45) rfl ?_); refine goesL_ (some 37) rfl rfl Tryd.func45 (by kernel_rfl) rfl #[.string a0, .int .i64 t140] rfl (by (try simp only [List.map_toArray, List.map_cons, List.map_nil]); first | done | rfl | (simp only [List.length_drop, List.length_take]; rfl)) ?_; (with_reducible refine (lex_skip.calls k1 a0 t140 t147 _ A8.out).mono ?_); rintro e w' ⟨rfl, ⟨nd, rfl⟩⟩; refine ⟨_, rfl, ?_⟩))
              go_roundg k1
              case measure => have := HK1.out; omega
              case rel => exact ⟨(y144), (t147), (by first | rfl | (simp; done) | (simp [*]; done)), H', ⟨by have := HK1.out; omega⟩, ⟨by (with_reducible repeat (first | apply Kd.R_alloc | apply Kd.R_drewN | apply Kd.R_drew)); exact Kd.R_mono HO146.out (fun _ hk => trivial)⟩, ⟨by repeat (first | (with_reducible first | exact HB.out | apply below_alloc | apply pw_below_drewN | apply below_drew1 | refine below_set ?_ GE143.out) | exact HB.out)⟩⟩
            · rw [if_neg c7] at H
              exact absurd H (by simp)
          · rw [if_neg c6] at H
            have c6b0 : (t142 == 0) = false := beq_eq_false_iff_ne.mpr c6
            have c6b1 : (t142 != 0) = true := bne_iff_ne.mpr c6
            simp only [Option.some.injEq, Prod.mk.injEq] at H
            obtain ⟨rfl, rfl, rfl⟩ := H
            go_wp2_with (first | ((with_reducible refine gate_callee (f := 46) rfl ?_); refine goesL_ (some 22) rfl rfl Tryd.func46 (by kernel_rfl) rfl #[.string a0, .int .i64 x6_1] rfl (by (try simp only [List.map_toArray, List.map_cons, List.map_nil]); first | done | rfl | (simp only [List.length_drop, List.length_take]; rfl)) ?_; (with_reducible refine (lex_token.calls k1 a0 x6_1 t136 t137 t138 t139 t140 t141 t142 _ A5.out).mono ?_); rintro e w14 ⟨rfl, hb⟩; refine ⟨_, rfl, ?_⟩; have n0_ := Aside0.mk (Kd.R_below (by (with_reducible repeat (first | apply Kd.R_alloc | apply Kd.R_drewN | apply Kd.R_drew)); exact HO_5.out) hb); have n1_ := Aside0.mk (below_step (by repeat (first | (with_reducible first | exact HB.out | apply below_alloc | apply pw_below_drewN | apply below_drew1) | exact HB.out)) hb); clear HO_5; clear HB; have HO_5 := n0_; have HB := n1_; clear n0_ n1_; (try clear hb); (try clear hb2); (try clear hk); (try clear hi)) | ((with_reducible refine gate_dst (N := 7) rfl ?_); refine box_event ?hg (N := 7) ?hd (cs := #[.int .i64 0, .string (⟨#[]⟩ : ByteArray), .int .u64 0, .int .i64 0, .int .i64 0]) (t := 63) ?hr ?_; (case hd => rfl); (case hg => rfl); (case hr => first | (go_simp; done) | (go_simp; rfl)); intro gb143 hg w15 hbox hb; have n0_ := Aside0.mk (Kd.R_below (Kd.R_elderB (by (with_reducible repeat (first | apply Kd.R_alloc | apply Kd.R_drewN | apply Kd.R_drew)); exact HO_5.out) gb143 (Nat.le_of_eq hg.symm)) hb); have n1_ := Aside0.mk (below_step (by repeat (first | (with_reducible first | exact HB.out | apply below_alloc | apply pw_below_drewN | apply below_drew1) | exact HB.out)) hb); have n2_ := Aside0.mk (hbox); have n3_ := Aside0.mk ((by rw [hg]; exact (below_size (by repeat (first | (with_reducible first | exact HB.out | apply below_alloc | apply pw_below_drewN | apply below_drew1) | exact HB.out))) : w.heap.size ≤ gb143)); have n4_ := Aside0.mk ((by rw [hg]; exact (below_size (by repeat (first | (with_reducible first | exact HB.out | apply below_alloc | apply pw_below_drewN | apply below_drew1) | exact HB.out))) : w.heap.size ≤ gb143)); clear HO_5; clear HB; have HO_5 := n0_; have HB := n1_; have BK143 := n2_; have GW143 := n3_; have GE143 := n4_; clear n0_ n1_ n2_ n3_ n4_; clear hb hbox hg; have hcz16_0 : w15.cell? ⟨gb143, 0, none⟩ = some (.int .i64 0) := (blk_cell BK143.out 0).trans rfl; have hcz16_1 : w15.cell? ⟨gb143, 1, none⟩ = some (.string (⟨#[]⟩ : ByteArray)) := (blk_cell BK143.out 1).trans rfl; have hcz16_2 : w15.cell? ⟨gb143, 2, none⟩ = some (.int .u64 0) := (blk_cell BK143.out 2).trans rfl; have hcz16_3 : w15.cell? ⟨gb143, 3, none⟩ = some (.int .i64 0) := (blk_cell BK143.out 3).trans rfl; have hcz16_4 : w15.cell? ⟨gb143, 4, none⟩ = some (.int .i64 0) := (blk_cell BK143.out 4).trans rfl; have hfz16_0 := blk_frozen BK143.out 0; have hfz16_1 := blk_frozen BK143.out 1; have hfz16_2 := blk_frozen BK143.out 2; have hfz16_3 := blk_frozen BK143.out 3; have hfz16_4 := blk_frozen BK143.out 4))
            go_ret3
            exact ⟨_, by first | rfl | (simp [errW_none, errW_some] <;> rfl) | (simp [*, errW_none, errW_some] <;> rfl), by first | exact Kd.R_nil _ _ _ _ _ | exact Kd.N_nil _ _ _ _ _ | exact Kd.V_nil _ _ _ _ _ | exact Kd.Q_nil _ _ _ _ _ | exact Kd.S_nil _ _ _ _ _, by repeat (first | (with_reducible first | exact HB.out | apply below_alloc | apply pw_below_drewN | apply below_drew1 | refine below_set ?_ GE143.out) | exact HB.out)⟩
        · rw [if_neg c4] at H
          have c4b0 : decide (x6_1 < (a0.size : Int)) = false := decide_eq_false c4
          clear c4
          by_cases c17 : x5_1.length < 2932031007402
          · rw [if_pos c17] at H
            have LMc17 := Aside0.mk c17
            clear c17
            obtain ⟨y133, hy133⟩ : ∃ y_ : List (S63), y_ = (x5_1 ++ [(⟨0, (⟨#[]⟩ : ByteArray), 0, (a0.size : Int), (a0.size : Int)⟩ : S63)]) := ⟨_, rfl⟩
            replace H : (some (y133, 0, 0)) = some (r1, r2, r3) := by first | (rw [hy133]; with_reducible exact H) | (have H2_ := (Option.bind_some _ _).symm.trans H; rw [hy133]; with_reducible exact H2_) | (have H2_ := (Option.bind_some _ _).symm.trans H; with_reducible exact H2_) | with_reducible exact H | (rw [hy133]; exact H) | exact H
            have Ny133 := Aside0.mk hy133
            clear hy133
            simp only [Option.some.injEq, Prod.mk.injEq] at H
            obtain ⟨rfl, rfl, rfl⟩ := H
            go_wp2_with (first | ((with_reducible refine gate_builtin (b := .append) (xs := #[.tmp 38, .tmp 44]) rfl ?_); at_builtin; refine Kd.R_append k63 (w0 := w) w.heap.size rfl (.tmp 38) (.tmp 44) 59 63 (.agg #[(.int .i64 0), (.string ⟨#[]⟩), (.int .u64 0), (.int .i64 0), (.int .i64 0)]) 48 rfl Tryd.underlying59 info63 rfl (by decide) (by omega) u5 x5_1 (⟨0, (⟨#[]⟩ : ByteArray), 0, (a0.size : Int), (a0.size : Int)⟩ : S63) [.int .i64 0, .string (⟨#[]⟩ : ByteArray), .int .u64 0, .int .i64 (a0.size : Int), .int .i64 (a0.size : Int)] (fun _ => True) (fun _ => False) rfl rfl ?aP (fun _ hk => hk.elim) ?aF ?aO ?aB ?aS ?aL ?_; (case aP => exact k63_mkM _ _ _ (⟨0, (⟨#[]⟩ : ByteArray), 0, (a0.size : Int), (a0.size : Int)⟩ : S63)); (case aB => exact (by repeat (first | (with_reducible first | exact HB.out | apply below_alloc | apply pw_below_drewN | apply below_drew1) | exact HB.out))); (case aF => exact (fun _ _ => trivial)); (case aO => exact (by (with_reducible repeat (first | apply Kd.R_alloc | apply Kd.R_drewN | apply Kd.R_drew)); exact HO_5.out)); (case aS => exact (below_size (by repeat (first | (with_reducible first | exact HB.out | apply below_alloc | apply pw_below_drewN | apply below_drew1) | exact HB.out)))); (case aL => have := LMc17.out; omega); intro v134 w18 ho hb hg hat; rw [← Ny133.out] at ho; have n0_ := Aside0.mk (hb); have n1_ := Aside0.mk (ho); clear HB; clear HO_5; have HB := n0_; have HO135 := n1_; clear n0_ n1_; clear ho hb hg hat))
            go_ret3
            exact ⟨_, by first | rfl | (simp [errW_none, errW_some] <;> rfl) | (simp [*, errW_none, errW_some] <;> rfl), by (with_reducible repeat (first | apply Kd.R_alloc | apply Kd.R_drewN | apply Kd.R_drew)); exact HO135.out, by repeat (first | (with_reducible first | exact HB.out | apply below_alloc | apply pw_below_drewN | apply below_drew1) | exact HB.out)⟩
          · rw [if_neg c17] at H
            exact absurd H (by simp)
def lex_Name.f (a0 : ByteArray) : Option (Bool) := if (a0.size : Int) ≥ 1 then (if (a0.size : Int) ≤ 64 then (if 0 < (a0.size : Int) then ((lex_isLetter.f (bt a0 0)).bind fun t148 => (if t148 = true then ((lex_run.f a0 0 102).bind fun t149 => (some (t149 == (a0.size : Int)))) else (some false))) else (none)) else (some false)) else (some false)
set_option maxHeartbeats 8000000 in
set_option maxRecDepth 100000 in
theorem lex_Name.calls (a0 : ByteArray) (r : Bool) (w : World) (h : lex_Name.f a0 = some r) :
    Calls Tryd.prog 83 #[.string a0] w fun e w' => e = .returned (.bool r) ∧ Drawn0 w w' := by
  have H : (if (a0.size : Int) ≥ 1 then (if (a0.size : Int) ≤ 64 then (if 0 < (a0.size : Int) then ((lex_isLetter.f (bt a0 0)).bind fun t148 => (if t148 = true then ((lex_run.f a0 0 102).bind fun t149 => (some (t149 == (a0.size : Int)))) else (some false))) else (none)) else (some false)) else (some false)) = some r := h
  clear h
  by_cases c2 : (a0.size : Int) ≥ 1
  · rw [if_pos c2] at H
    have c2b0 : decide (1 ≤ (a0.size : Int)) = true := decide_eq_true c2
    have c2b1 : decide (1 ≤ a0.size) = true := decide_eq_true (by omega)
    clear c2
    by_cases c3 : (a0.size : Int) ≤ 64
    · rw [if_pos c3] at H
      have c3b0 : decide ((a0.size : Int) ≤ 64) = true := decide_eq_true c3
      have c3b1 : decide (a0.size ≤ 64) = true := decide_eq_true (by omega)
      clear c3
      by_cases c4 : 0 < (a0.size : Int)
      · rw [if_pos c4] at H
        have c4b0 : decide (0 < (a0.size : Int)) = true := decide_eq_true c4
        have c4b1 : decide (0 < a0.size) = true := decide_eq_true (by omega)
        clear c4
        replace H := Option.bind_eq_some_iff.mp H
        obtain ⟨t148, A60, H⟩ := H
        replace H : (if t148 = true then ((lex_run.f a0 0 102).bind fun t149 => (some (t149 == (a0.size : Int)))) else (some false)) = some r := H
        have A6 := Aside0.mk A60
        clear A60
        by_cases c7 : t148 = true
        · subst c7
          have H1 : ((lex_run.f a0 0 102).bind fun t149 => (some (t149 == (a0.size : Int)))) = some r := by rw [if_pos rfl] at H; exact H
          clear H
          have H := H1
          clear H1
          replace H := Option.bind_eq_some_iff.mp H
          obtain ⟨t149, A80, H⟩ := H
          replace H : (some (t149 == (a0.size : Int))) = some r := H
          have A8 := Aside0.mk A80
          clear A80
          obtain rfl := Option.some.inj H
          have p5 : 0 ≤ (0 : Int) := (by omega)
          have q5 : 0 < a0.size := (by have : (0 : Int) < (a0.size : Int) := of_decide_eq_true (by first | (with_reducible assumption) | assumption); omega)
          have hx5 : ∀ h : 0 < a0.size, ((a0[0]'h).toNat : Int) = bt a0 0 := bt_at a0 0
          clear p5
          have qi5 : (0 < (a0.size : Int)) = True := eq_true (of_decide_eq_true (by first | (with_reducible assumption) | assumption))
          replace q5 := eq_true q5
          go_enter Tryd.func83, Tryd.ntmps83
          go_wp2_with (first | (go_at_call 77; (with_reducible refine (lex_isLetter.calls (bt a0 0) true _ A6.out).mono ?_); rintro e w' ⟨rfl, ⟨nd, rfl⟩⟩) | (go_at_call 78; (with_reducible refine (lex_run.calls a0 0 102 t149 _ A8.out).mono ?_); rintro e w' ⟨rfl, ⟨nd, rfl⟩⟩))
          go_ret
          exact ⟨by first | rfl | (simp; done) | (simp [*]; done), by repeat (first | exact Drawn0.refl _ | apply Drawn0.step)⟩
        · replace c7 := Bool.eq_false_iff.mpr c7
          subst c7
          have H1 : (some false) = some r := by rw [if_neg (show ¬ (false = true) by decide)] at H; exact H
          clear H
          have H := H1
          clear H1
          obtain rfl := Option.some.inj H
          have p5 : 0 ≤ (0 : Int) := (by omega)
          have q5 : 0 < a0.size := (by have : (0 : Int) < (a0.size : Int) := of_decide_eq_true (by first | (with_reducible assumption) | assumption); omega)
          have hx5 : ∀ h : 0 < a0.size, ((a0[0]'h).toNat : Int) = bt a0 0 := bt_at a0 0
          clear p5
          have qi5 : (0 < (a0.size : Int)) = True := eq_true (of_decide_eq_true (by first | (with_reducible assumption) | assumption))
          replace q5 := eq_true q5
          go_enter Tryd.func83, Tryd.ntmps83
          go_wp2_with (first | (go_at_call 77; (with_reducible refine (lex_isLetter.calls (bt a0 0) false _ A6.out).mono ?_); rintro e w' ⟨rfl, ⟨nd, rfl⟩⟩))
          go_ret
          exact ⟨by first | rfl | (simp; done) | (simp [*]; done), by repeat (first | exact Drawn0.refl _ | apply Drawn0.step)⟩
      · rw [if_neg c4] at H
        exact absurd H (by simp)
    · rw [if_neg c3] at H
      have c3b0 : decide ((a0.size : Int) ≤ 64) = false := decide_eq_false c3
      have c3b1 : decide (a0.size ≤ 64) = false := decide_eq_false (by omega)
      clear c3
      obtain rfl := Option.some.inj H
      go_enter Tryd.func83, Tryd.ntmps83
      go_wp2
      go_ret
      exact ⟨by first | rfl | (simp; done) | (simp [*]; done), by repeat (first | exact Drawn0.refl _ | apply Drawn0.step)⟩
  · rw [if_neg c2] at H
    have c2b0 : decide (1 ≤ (a0.size : Int)) = false := decide_eq_false c2
    have c2b1 : decide (1 ≤ a0.size) = false := decide_eq_false (by omega)
    clear c2
    obtain rfl := Option.some.inj H
    go_enter Tryd.func83, Tryd.ntmps83
    go_wp2
    go_ret
    exact ⟨by first | rfl | (simp; done) | (simp [*]; done), by repeat (first | exact Drawn0.refl _ | apply Drawn0.step)⟩
end Go.Proofs.YtaijoghpfobdbaaDoor.X
end
section
namespace Go.Proofs.YtaijoghpfobdbaaDoor.X
open Go.RowKit Go.Proofs.YtaijoghpfobdbaaDoorW.PrintWords Go.Proofs.YtaijoghpfobdbaaDoorW.PrintLast Go.Proofs.YtaijoghpfobdbaaDoorW.PrintMore
attribute [local go_sem] max2_int min2_int max_two min_two max_three min_three max_four min_four   -- for this text's walks alone
set_option linter.unusedVariables false
set_option linter.unusedSimpArgs false
mutual
def lex_Quote.l0 : Nat → ByteArray → List Int → Int → Int → Option (ByteArray)
  | 0, _, _, _, _ => none
  | k + 1, x0, x3, x8, x9 => if x9 < x8 then (if 0 ≤ x9 then (if x9 < (x0.size : Int) then (if (bt x0 x9) = 92 then (lex_Quote.j1 k x0 x3 (bt x0 x9) x8 x9 true) else (lex_Quote.j1 k x0 x3 (bt x0 x9) x8 x9 ((bt x0 x9) == 34))) else (none)) else (none)) else (if x3.length < 140737488355328 then (some (strOfNums (x3 ++ [34]))) else (none))
def lex_Quote.j1 : Nat → ByteArray → List Int → Int → Int → Int → Bool → Option (ByteArray)
  | 0, _, _, _, _, _, _ => none
  | k + 1, x0, x3, x5, x8, x9, x24 => if x24 = true then ((some (([92, x5] : List Int) : List Int)).bind fun y156 => (if x3.length + y156.length < 140737488355328 then (lex_Quote.l0 k x0 (x3 ++ y156) x8 (wrap64 (x9 + 1))) else (none))) else (if x5 = 10 then ((some (([92, 110] : List Int) : List Int)).bind fun y162 => (if x3.length + y162.length < 140737488355328 then (lex_Quote.l0 k x0 (x3 ++ y162) x8 (wrap64 (x9 + 1))) else (none))) else (if x5 = 9 then ((some (([92, 116] : List Int) : List Int)).bind fun y168 => (if x3.length + y168.length < 140737488355328 then (lex_Quote.l0 k x0 (x3 ++ y168) x8 (wrap64 (x9 + 1))) else (none))) else (if x5 ≥ 32 then (if x5 ≤ 126 then (if x3.length < 140737488355328 then (lex_Quote.l0 k x0 (x3 ++ [x5]) x8 (wrap64 (x9 + 1))) else (none)) else (if 0 ≤ (x5 / 16) then (if (x5 / 16) < 16 then (if 0 ≤ (Go.bits .and .u8 x5 15) then (if (Go.bits .and .u8 x5 15) < 16 then ((some (([92, 120, bt (⟨#[48, 49, 50, 51, 52, 53, 54, 55, 56, 57, 97, 98, 99, 100, 101, 102]⟩ : ByteArray) (x5 / 16), bt (⟨#[48, 49, 50, 51, 52, 53, 54, 55, 56, 57, 97, 98, 99, 100, 101, 102]⟩ : ByteArray) (Go.bits .and .u8 x5 15)] : List Int) : List Int)).bind fun y177 => (if x3.length + y177.length < 140737488355328 then (lex_Quote.l0 k x0 (x3 ++ y177) x8 (wrap64 (x9 + 1))) else (none))) else (none)) else (none)) else (none)) else (none))) else (if 0 ≤ (x5 / 16) then (if (x5 / 16) < 16 then (if 0 ≤ (Go.bits .and .u8 x5 15) then (if (Go.bits .and .u8 x5 15) < 16 then ((some (([92, 120, bt (⟨#[48, 49, 50, 51, 52, 53, 54, 55, 56, 57, 97, 98, 99, 100, 101, 102]⟩ : ByteArray) (x5 / 16), bt (⟨#[48, 49, 50, 51, 52, 53, 54, 55, 56, 57, 97, 98, 99, 100, 101, 102]⟩ : ByteArray) (Go.bits .and .u8 x5 15)] : List Int) : List Int)).bind fun y183 => (if x3.length + y183.length < 140737488355328 then (lex_Quote.l0 k x0 (x3 ++ y183) x8 (wrap64 (x9 + 1))) else (none))) else (none)) else (none)) else (none)) else (none)))))
end
def lex_Quote.f (k : Nat) (a0 : ByteArray) : Option (ByteArray) := lex_Quote.l0 k a0 (([34] : List Int)) (a0.size : Int) 0
def lex_Quote.T6 : Bool × List (List Nat × List Nat) := (true, [([], []), ([], []), ([1], [1]), ([2], [2]), ([], []), ([4], [4]), ([5], [5]), ([3, 6], [3, 6]), ([0, 7], [0, 7]), ([8, 8, 0, 1, 2, 3, 4, 5, 6, 7, 8], [0, 8])])
def lex_Quote.B6 : List Nat := [0, 0, 2, 6, 0, 16, 48, 126, 255, 511]
theorem lex_Quote.tab6 : rtab .any (opsOf Tryd.f22 6) = lex_Quote.T6 := by kernel_rfl
theorem lex_Quote.bits6 : waitsOk lex_Quote.T6.2 lex_Quote.B6 = true := by kernel_rfl
set_option maxHeartbeats 8000000 in
set_option maxRecDepth 100000 in
theorem lex_Quote.calls (k : Nat) (a0 : ByteArray) (r : ByteArray) (w : World) (h : lex_Quote.f k a0 = some r) :
    Calls Tryd.prog 22 #[.string a0] w fun e w' => e = .returned (.string r) ∧ Below w.heap.size w w' := by
  have HB := Aside0.mk (Below.refl w.heap.size w)
  have H : (lex_Quote.l0 k a0 (([34] : List Int)) (a0.size : Int) 0) = some r := h
  clear h
  obtain ⟨y150, hy150⟩ : ∃ y_ : List Int, y_ = (([34] : List Int)) := ⟨_, rfl⟩
  replace H : (lex_Quote.l0 k a0 y150 (a0.size : Int) 0) = some r := by first | (rw [hy150]; with_reducible exact H) | (have H2_ := (Option.bind_some _ _).symm.trans H; rw [hy150]; with_reducible exact H2_) | (have H2_ := (Option.bind_some _ _).symm.trans H; with_reducible exact H2_) | with_reducible exact H | (rw [hy150]; exact H) | exact H
  have Ny150 := Aside0.mk hy150
  clear hy150
  have H' := Aside0.mk H
  clear H
  go_enter Tryd.func22, Tryd.ntmps22
  go_wp2_with (first | ((with_reducible refine gate_dst (N := 6) rfl ?_); refine Kd.R_lit (Kd.int .u8) _ 5 ?hg (N := 6) ?hd (xs := ([34] : List Int)) (inner := [.int .u8 34]) (ok := fun _ => True) (okp := fun _ => True) ?hr ?hp (fun _ hk => hk) trivial (Below.refl _ _) (Nat.le_refl _) (by simp) ?_; (case hd => rfl); (case hg => rfl); (case hr => first | (go_simp; done) | (go_simp; rfl)); (case hp => exact (Reps.one (show Kd.M (Kd.int .u8) _ _ _ 34 [.int .u8 34] from rfl) (Reps.none _ _))); intro v151 w2 ho3 hb hg_ hnew_; clear hg_ hnew_; (first | rw [← Ny150.out] at ho3 | (simp only [Int.reduceToNat] at ho3; rw [← Ny150.out] at ho3)); have n0_ := Aside0.mk (Kd.R_lower ho3 (below_size (by repeat (first | (with_reducible first | exact HB.out | apply below_alloc | apply pw_below_drewN | apply below_drew1) | exact HB.out)))); have n1_ := Aside0.mk (below_step (by repeat (first | (with_reducible first | exact HB.out | apply below_alloc | apply pw_below_drewN | apply below_drew1) | exact HB.out)) hb); clear HB; have HO152 := n0_; have HB := n1_; clear n0_ n1_; clear hb ho3))
  go_loopg [3, 9] k (fun kq v3 v9 w' => ∃ (x3_1 : List Int) (x9_1 : Int), v9 = .int .i64 x9_1 ∧ Aside0 (lex_Quote.l0 kq a0 x3_1 (a0.size : Int) x9_1 = some r) ∧ Aside0 (kq ≤ k) ∧ Aside0 (Kd.R (Kd.int .u8) 5 w' w.heap.size (fun _ => True) v3 x3_1) ∧ Aside0 (Below w.heap.size w w'))
  case atStart => exact ⟨(y150), (0), (by first | rfl | (simp; done) | (simp [*]; done)), H', ⟨Nat.le_refl _⟩, ⟨by (with_reducible repeat (first | apply Kd.R_alloc | apply Kd.R_drewN | apply Kd.R_drew)); exact HO152.out⟩, ⟨by repeat (first | (with_reducible first | exact HB.out | apply below_alloc | apply pw_below_drewN | apply below_drew1) | exact HB.out)⟩⟩
  case round =>
    clear H'
    try clear c2
    try clear p2
    obtain ⟨x3_1, x9_1, rfl, HA, HK1, HO_3, HB⟩ := hrel
    cases gk with
    | zero => exact absurd HA.out (by simp [lex_Quote.l0])
    | succ k1 =>
      have H := HA.out
      clear HA
      simp only [lex_Quote.l0] at H
      by_cases c4 : x9_1 < (a0.size : Int)
      · rw [if_pos c4] at H
        have c4b0 : decide (x9_1 < (a0.size : Int)) = true := decide_eq_true c4
        clear c4
        by_cases c5 : 0 ≤ x9_1
        · rw [if_pos c5] at H
          have c5b0 : decide (0 ≤ x9_1) = true := decide_eq_true c5
          clear c5
          by_cases c6 : x9_1 < (a0.size : Int)
          · rw [if_pos c6] at H
            have c6b0 : decide (x9_1 < (a0.size : Int)) = true := decide_eq_true c6
            clear c6
            have HC8 := Aside0.mk H
            clear H
            have p7 : 0 ≤ (x9_1 : Int) := of_decide_eq_true (by first | (with_reducible assumption) | assumption)
            have q7 : x9_1 < (a0.size : Int) := of_decide_eq_true (by first | (with_reducible assumption) | assumption)
            have hx7 := bt_at a0 x9_1
            replace p7 := eq_true p7
            replace q7 := eq_true q7
            go_upto_region 7 with (fail)
            go_cut [24] (fun v24 wc => ∃ (kq : Nat) (x24_7 : Bool), v24 = .bool x24_7 ∧ Aside0 (lex_Quote.j1 kq a0 x3_1 (bt a0 x9_1) (a0.size : Int) x9_1 x24_7 = some r) ∧ Aside0 (kq ≤ k1) ∧ Aside0 (Kd.R (Kd.int .u8) 5 wc w.heap.size (fun _ => True) u3 x3_1) ∧ Aside0 (Below w.heap.size w wc))
            case first =>
              have H := HC8.out
              clear HC8
              by_cases c9 : (bt a0 x9_1) = 92
              · rw [if_pos c9] at H
                have c9b0 : ((bt a0 x9_1) == 92) = true := beq_iff_eq.mpr c9
                have c9b1 : ((bt a0 x9_1) != 92) = false := bne_eq_false_iff_eq.mpr c9
                clear c9
                (first | rw [c9b0] | (simp only [i64_w, i32_w]; rw [c9b0]) | skip)
                have H' := Aside0.mk H
                clear H
                go_wp2
                go_meet
                case rel => exact ⟨_, (true), (by first | rfl | (simp; done) | (simp [*]; done)), H', ⟨by have := HK1.out; first | omega | exact Nat.le_refl _⟩, ⟨by (with_reducible repeat (first | apply Kd.R_alloc | apply Kd.R_drewN | apply Kd.R_drew)); exact HO_3.out⟩, ⟨by repeat (first | (with_reducible first | exact HB.out | apply below_alloc | apply pw_below_drewN | apply below_drew1) | exact HB.out)⟩⟩
              · rw [if_neg c9] at H
                have c9b0 : ((bt a0 x9_1) == 92) = false := beq_eq_false_iff_ne.mpr c9
                have c9b1 : ((bt a0 x9_1) != 92) = true := bne_iff_ne.mpr c9
                (first | rw [c9b0] | (simp only [i64_w, i32_w]; rw [c9b0]) | skip)
                have H' := Aside0.mk H
                clear H
                go_wp2
                go_meet
                case rel => exact ⟨_, (((bt a0 x9_1) == 34)), (by first | rfl | (simp; done) | (simp [*]; done)), H', ⟨by have := HK1.out; first | omega | exact Nat.le_refl _⟩, ⟨by (with_reducible repeat (first | apply Kd.R_alloc | apply Kd.R_drewN | apply Kd.R_drew)); exact HO_3.out⟩, ⟨by repeat (first | (with_reducible first | exact HB.out | apply below_alloc | apply pw_below_drewN | apply below_drew1) | exact HB.out)⟩⟩
            case rest =>
              clear HC8
              try clear c2
              try clear p2
              try clear c4
              try clear c4b0
              try clear c5
              try clear c5b0
              try clear c6
              try clear c6b0
              try clear p7
              try clear q7
              try clear hx7
              try clear c9
              try clear c9b0
              try clear c9b1
              try clear p2
              try clear p7
              try clear q7
              obtain ⟨kq, x24_7, rfl, HA, HJ7, HO_3, HB⟩ := hcut
              cases kq with
              | zero => exact absurd HA.out (by simp [lex_Quote.j1])
              | succ kj7 =>
                have H := HA.out
                clear HA
                simp only [lex_Quote.j1] at H
                by_cases c10 : x24_7 = true
                · subst c10
                  have H1 : ((some (([92, (bt a0 x9_1)] : List Int) : List Int)).bind fun y156 => (if x3_1.length + y156.length < 140737488355328 then (lex_Quote.l0 kj7 a0 (x3_1 ++ y156) (a0.size : Int) (wrap64 (x9_1 + 1))) else (none))) = some r := by rw [if_pos rfl] at H; exact H
                  clear H
                  have H := H1
                  clear H1
                  obtain ⟨y156, hy156⟩ : ∃ y_ : List Int, y_ = (([92, (bt a0 x9_1)] : List Int)) := ⟨_, rfl⟩
                  replace H : (if x3_1.length + y156.length < 140737488355328 then (lex_Quote.l0 kj7 a0 (x3_1 ++ y156) (a0.size : Int) (wrap64 (x9_1 + 1))) else (none)) = some r := by first | (rw [hy156]; with_reducible exact H) | (have H2_ := (Option.bind_some _ _).symm.trans H; rw [hy156]; with_reducible exact H2_) | (have H2_ := (Option.bind_some _ _).symm.trans H; with_reducible exact H2_) | with_reducible exact H | (rw [hy156]; exact H) | exact H
                  have Ny156 := Aside0.mk hy156
                  clear hy156
                  by_cases c11 : x3_1.length + y156.length < 140737488355328
                  · rw [if_pos c11] at H
                    have LMc11 := Aside0.mk c11
                    clear c11
                    obtain ⟨y159, hy159⟩ : ∃ y_ : List Int, y_ = (x3_1 ++ y156) := ⟨_, rfl⟩
                    replace H : (lex_Quote.l0 kj7 a0 y159 (a0.size : Int) (wrap64 (x9_1 + 1))) = some r := by first | (rw [hy159]; with_reducible exact H) | (have H2_ := (Option.bind_some _ _).symm.trans H; rw [hy159]; with_reducible exact H2_) | (have H2_ := (Option.bind_some _ _).symm.trans H; with_reducible exact H2_) | with_reducible exact H | (rw [hy159]; exact H) | exact H
                    have Ny159 := Aside0.mk hy159
                    clear hy159
                    have H' := Aside0.mk H
                    clear H
                    go_wp2_with (first | ((with_reducible refine gate_dst (N := 33) rfl ?_); refine Kd.R_lit (Kd.int .u8) _ 5 ?hg (N := 33) ?hd (xs := ([92, (bt a0 x9_1)] : List Int)) (inner := [.int .u8 92, .int .u8 (bt a0 x9_1)]) (ok := fun _ => True) (okp := fun _ => True) ?hr ?hp (fun _ hk => hk) trivial (Below.refl _ _) (Nat.le_refl _) (by simp) ?_; (case hd => rfl); (case hg => rfl); (case hr => first | (go_simp; done) | (go_simp; rfl)); (case hp => exact (Reps.one (show Kd.M (Kd.int .u8) _ _ _ 92 [.int .u8 92] from rfl) (Reps.one (show Kd.M (Kd.int .u8) _ _ _ (bt a0 x9_1) [.int .u8 (bt a0 x9_1)] from rfl) (Reps.none _ _)))); intro v157 w12 ho13 hb hg_ hnew_; clear hg_ hnew_; (first | rw [← Ny156.out] at ho13 | (simp only [Int.reduceToNat] at ho13; rw [← Ny156.out] at ho13)); have n0_ := Aside0.mk (Kd.R_elder' (by (with_reducible repeat (first | apply Kd.R_alloc | apply Kd.R_drewN | apply Kd.R_drew)); exact HO_3.out) (Kd.R_base ho13) hb); have n1_ := Aside0.mk (Kd.R_lower (Kd.R_new' ho13 (Kd.R_lt (by (with_reducible repeat (first | apply Kd.R_alloc | apply Kd.R_drewN | apply Kd.R_drew)); exact HO_3.out))) (below_size (by repeat (first | (with_reducible first | exact HB.out | apply below_alloc | apply pw_below_drewN | apply below_drew1) | exact HB.out)))); have n2_ := Aside0.mk (below_step (by repeat (first | (with_reducible first | exact HB.out | apply below_alloc | apply pw_below_drewN | apply below_drew1) | exact HB.out)) hb); clear HO_3; clear HB; have HO_3 := n0_; have HO158 := n1_; have HB := n2_; clear n0_ n1_ n2_; clear hb ho13; obtain ⟨Ao15, co15, eo15⟩ := Kd.R_slice HO158.out; subst eo15) | ((with_reducible refine gate_builtin (b := .append) (xs := #[.tmp 31, .tmp 33]) rfl ?_); at_builtin; refine Kd.R_append_rows (Kd.int .u8) (w0 := w) w.heap.size rfl (.tmp 31) (.tmp 33) 70 5 (.int .u8 0) 1 rfl Tryd.underlying70 info5 rfl (by decide) (by omega) u3 x3_1 y156 _ _ _ (fun k_ => some k_ ≠ (.slice Ao15 y156.length co15 : Value).ownBlock) (fun _ => False) rfl rfl ?aO ?aR (fun _ _ h => h) (fun _ h => h.elim) ?aF ?aB ?aS ?aL ?_; (case aR => repeat (first | exact (Kd.R_reads' HO158.out).2.2 | (with_reducible refine Kd.C_alloc ?_ _) | (with_reducible refine Kd.C_drewN ?_ _) | (with_reducible refine Kd.C_drew ?_))); (case aB => exact (by repeat (first | (with_reducible first | exact HB.out | apply below_alloc | apply pw_below_drewN | apply below_drew1) | exact HB.out))); (case aF => exact (fun k_ hk => Kd.fresh' (Kd.R_lt (by (with_reducible repeat (first | apply Kd.R_alloc | apply Kd.R_drewN | apply Kd.R_drew)); exact HO158.out)) k_ hk)); (case aO => exact (by (with_reducible repeat (first | apply Kd.R_alloc | apply Kd.R_drewN | apply Kd.R_drew)); exact Kd.R_mono HO_3.out (fun _ hk => hk.2))); (case aS => exact (below_size (by repeat (first | (with_reducible first | exact HB.out | apply below_alloc | apply pw_below_drewN | apply below_drew1) | exact HB.out)))); (case aL => have := LMc11.out; omega); intro v160 w14 ho hb hg hat; rw [← Ny159.out] at ho; have n0_ := Aside0.mk (Kd.R_after (ok := (fun _ => True)) (by (with_reducible repeat (first | apply Kd.R_alloc | apply Kd.R_drewN | apply Kd.R_drew)); exact HO158.out) hg hat); have n1_ := Aside0.mk (hb); have n2_ := Aside0.mk (ho); clear HO158; clear HB; clear HO_3; have HO158 := n0_; have HB := n1_; have HO161 := n2_; clear n0_ n1_ n2_; clear ho hb hg hat))
                    go_roundg kj7
                    case measure => have := HK1.out; have := HJ7.out; omega
                    case rel => exact ⟨(y159), (wrap64 (x9_1 + 1)), (by first | rfl | (simp; done) | (simp [*]; done)), H', ⟨by have := HK1.out; have := HJ7.out; omega⟩, ⟨by (with_reducible repeat (first | apply Kd.R_alloc | apply Kd.R_drewN | apply Kd.R_drew)); exact Kd.R_mono HO161.out (fun _ hk => trivial)⟩, ⟨by repeat (first | (with_reducible first | exact HB.out | apply below_alloc | apply pw_below_drewN | apply below_drew1) | exact HB.out)⟩⟩
                  · rw [if_neg c11] at H
                    exact absurd H (by simp)
                · replace c10 := Bool.eq_false_iff.mpr c10
                  subst c10
                  have H1 : (if (bt a0 x9_1) = 10 then ((some (([92, 110] : List Int) : List Int)).bind fun y162 => (if x3_1.length + y162.length < 140737488355328 then (lex_Quote.l0 kj7 a0 (x3_1 ++ y162) (a0.size : Int) (wrap64 (x9_1 + 1))) else (none))) else (if (bt a0 x9_1) = 9 then ((some (([92, 116] : List Int) : List Int)).bind fun y168 => (if x3_1.length + y168.length < 140737488355328 then (lex_Quote.l0 kj7 a0 (x3_1 ++ y168) (a0.size : Int) (wrap64 (x9_1 + 1))) else (none))) else (if (bt a0 x9_1) ≥ 32 then (if (bt a0 x9_1) ≤ 126 then (if x3_1.length < 140737488355328 then (lex_Quote.l0 kj7 a0 (x3_1 ++ [(bt a0 x9_1)]) (a0.size : Int) (wrap64 (x9_1 + 1))) else (none)) else (if 0 ≤ ((bt a0 x9_1) / 16) then (if ((bt a0 x9_1) / 16) < 16 then (if 0 ≤ (Go.bits .and .u8 (bt a0 x9_1) 15) then (if (Go.bits .and .u8 (bt a0 x9_1) 15) < 16 then ((some (([92, 120, bt (⟨#[48, 49, 50, 51, 52, 53, 54, 55, 56, 57, 97, 98, 99, 100, 101, 102]⟩ : ByteArray) ((bt a0 x9_1) / 16), bt (⟨#[48, 49, 50, 51, 52, 53, 54, 55, 56, 57, 97, 98, 99, 100, 101, 102]⟩ : ByteArray) (Go.bits .and .u8 (bt a0 x9_1) 15)] : List Int) : List Int)).bind fun y177 => (if x3_1.length + y177.length < 140737488355328 then (lex_Quote.l0 kj7 a0 (x3_1 ++ y177) (a0.size : Int) (wrap64 (x9_1 + 1))) else (none))) else (none)) else (none)) else (none)) else (none))) else (if 0 ≤ ((bt a0 x9_1) / 16) then (if ((bt a0 x9_1) / 16) < 16 then (if 0 ≤ (Go.bits .and .u8 (bt a0 x9_1) 15) then (if (Go.bits .and .u8 (bt a0 x9_1) 15) < 16 then ((some (([92, 120, bt (⟨#[48, 49, 50, 51, 52, 53, 54, 55, 56, 57, 97, 98, 99, 100, 101, 102]⟩ : ByteArray) ((bt a0 x9_1) / 16), bt (⟨#[48, 49, 50, 51, 52, 53, 54, 55, 56, 57, 97, 98, 99, 100, 101, 102]⟩ : ByteArray) (Go.bits .and .u8 (bt a0 x9_1) 15)] : List Int) : List Int)).bind fun y183 => (if x3_1.length + y183.length < 140737488355328 then (lex_Quote.l0 kj7 a0 (x3_1 ++ y183) (a0.size : Int) (wrap64 (x9_1 + 1))) else (none))) else (none)) else (none)) else (none)) else (none))))) = some r := by rw [if_neg (show ¬ (false = true) by decide)] at H; exact H
                  clear H
                  have H := H1
                  clear H1
                  by_cases c16 : (bt a0 x9_1) = 10
                  · rw [if_pos c16] at H
                    have c16b0 : ((bt a0 x9_1) == 10) = true := beq_iff_eq.mpr c16
                    have c16b1 : ((bt a0 x9_1) != 10) = false := bne_eq_false_iff_eq.mpr c16
                    clear c16
                    obtain ⟨y162, hy162⟩ : ∃ y_ : List Int, y_ = (([92, 110] : List Int)) := ⟨_, rfl⟩
                    replace H : (if x3_1.length + y162.length < 140737488355328 then (lex_Quote.l0 kj7 a0 (x3_1 ++ y162) (a0.size : Int) (wrap64 (x9_1 + 1))) else (none)) = some r := by first | (rw [hy162]; with_reducible exact H) | (have H2_ := (Option.bind_some _ _).symm.trans H; rw [hy162]; with_reducible exact H2_) | (have H2_ := (Option.bind_some _ _).symm.trans H; with_reducible exact H2_) | with_reducible exact H | (rw [hy162]; exact H) | exact H
                    have Ny162 := Aside0.mk hy162
                    clear hy162
                    by_cases c17 : x3_1.length + y162.length < 140737488355328
                    · rw [if_pos c17] at H
                      have LMc17 := Aside0.mk c17
                      clear c17
                      obtain ⟨y165, hy165⟩ : ∃ y_ : List Int, y_ = (x3_1 ++ y162) := ⟨_, rfl⟩
                      replace H : (lex_Quote.l0 kj7 a0 y165 (a0.size : Int) (wrap64 (x9_1 + 1))) = some r := by first | (rw [hy165]; with_reducible exact H) | (have H2_ := (Option.bind_some _ _).symm.trans H; rw [hy165]; with_reducible exact H2_) | (have H2_ := (Option.bind_some _ _).symm.trans H; with_reducible exact H2_) | with_reducible exact H | (rw [hy165]; exact H) | exact H
                      have Ny165 := Aside0.mk hy165
                      clear hy165
                      have H' := Aside0.mk H
                      clear H
                      go_wp2_with (first | ((with_reducible refine gate_dst (N := 39) rfl ?_); refine Kd.R_lit (Kd.int .u8) _ 5 ?hg (N := 39) ?hd (xs := ([92, 110] : List Int)) (inner := [.int .u8 92, .int .u8 110]) (ok := fun _ => True) (okp := fun _ => True) ?hr ?hp (fun _ hk => hk) trivial (Below.refl _ _) (Nat.le_refl _) (by simp) ?_; (case hd => rfl); (case hg => rfl); (case hr => first | (go_simp; done) | (go_simp; rfl)); (case hp => exact (Reps.one (show Kd.M (Kd.int .u8) _ _ _ 92 [.int .u8 92] from rfl) (Reps.one (show Kd.M (Kd.int .u8) _ _ _ 110 [.int .u8 110] from rfl) (Reps.none _ _)))); intro v163 w18 ho19 hb hg_ hnew_; clear hg_ hnew_; (first | rw [← Ny162.out] at ho19 | (simp only [Int.reduceToNat] at ho19; rw [← Ny162.out] at ho19)); have n0_ := Aside0.mk (Kd.R_elder' (by (with_reducible repeat (first | apply Kd.R_alloc | apply Kd.R_drewN | apply Kd.R_drew)); exact HO_3.out) (Kd.R_base ho19) hb); have n1_ := Aside0.mk (Kd.R_lower (Kd.R_new' ho19 (Kd.R_lt (by (with_reducible repeat (first | apply Kd.R_alloc | apply Kd.R_drewN | apply Kd.R_drew)); exact HO_3.out))) (below_size (by repeat (first | (with_reducible first | exact HB.out | apply below_alloc | apply pw_below_drewN | apply below_drew1) | exact HB.out)))); have n2_ := Aside0.mk (below_step (by repeat (first | (with_reducible first | exact HB.out | apply below_alloc | apply pw_below_drewN | apply below_drew1) | exact HB.out)) hb); clear HO_3; clear HB; have HO_3 := n0_; have HO164 := n1_; have HB := n2_; clear n0_ n1_ n2_; clear hb ho19; obtain ⟨Ao21, co21, eo21⟩ := Kd.R_slice HO164.out; subst eo21) | ((with_reducible refine gate_builtin (b := .append) (xs := #[.tmp 38, .tmp 39]) rfl ?_); at_builtin; refine Kd.R_append_rows (Kd.int .u8) (w0 := w) w.heap.size rfl (.tmp 38) (.tmp 39) 70 5 (.int .u8 0) 1 rfl Tryd.underlying70 info5 rfl (by decide) (by omega) u3 x3_1 y162 _ _ _ (fun k_ => some k_ ≠ (.slice Ao21 y162.length co21 : Value).ownBlock) (fun _ => False) rfl rfl ?aO ?aR (fun _ _ h => h) (fun _ h => h.elim) ?aF ?aB ?aS ?aL ?_; (case aR => repeat (first | exact (Kd.R_reads' HO164.out).2.2 | (with_reducible refine Kd.C_alloc ?_ _) | (with_reducible refine Kd.C_drewN ?_ _) | (with_reducible refine Kd.C_drew ?_))); (case aB => exact (by repeat (first | (with_reducible first | exact HB.out | apply below_alloc | apply pw_below_drewN | apply below_drew1) | exact HB.out))); (case aF => exact (fun k_ hk => Kd.fresh' (Kd.R_lt (by (with_reducible repeat (first | apply Kd.R_alloc | apply Kd.R_drewN | apply Kd.R_drew)); exact HO164.out)) k_ hk)); (case aO => exact (by (with_reducible repeat (first | apply Kd.R_alloc | apply Kd.R_drewN | apply Kd.R_drew)); exact Kd.R_mono HO_3.out (fun _ hk => hk.2))); (case aS => exact (below_size (by repeat (first | (with_reducible first | exact HB.out | apply below_alloc | apply pw_below_drewN | apply below_drew1) | exact HB.out)))); (case aL => have := LMc17.out; omega); intro v166 w20 ho hb hg hat; rw [← Ny165.out] at ho; have n0_ := Aside0.mk (Kd.R_after (ok := (fun _ => True)) (by (with_reducible repeat (first | apply Kd.R_alloc | apply Kd.R_drewN | apply Kd.R_drew)); exact HO164.out) hg hat); have n1_ := Aside0.mk (hb); have n2_ := Aside0.mk (ho); clear HO164; clear HB; clear HO_3; have HO164 := n0_; have HB := n1_; have HO167 := n2_; clear n0_ n1_ n2_; clear ho hb hg hat))
                      go_roundg kj7
                      case measure => have := HK1.out; have := HJ7.out; omega
                      case rel => exact ⟨(y165), (wrap64 (x9_1 + 1)), (by first | rfl | (simp; done) | (simp [*]; done)), H', ⟨by have := HK1.out; have := HJ7.out; omega⟩, ⟨by (with_reducible repeat (first | apply Kd.R_alloc | apply Kd.R_drewN | apply Kd.R_drew)); exact Kd.R_mono HO167.out (fun _ hk => trivial)⟩, ⟨by repeat (first | (with_reducible first | exact HB.out | apply below_alloc | apply pw_below_drewN | apply below_drew1) | exact HB.out)⟩⟩
                    · rw [if_neg c17] at H
                      exact absurd H (by simp)
                  · rw [if_neg c16] at H
                    have c16b0 : ((bt a0 x9_1) == 10) = false := beq_eq_false_iff_ne.mpr c16
                    have c16b1 : ((bt a0 x9_1) != 10) = true := bne_iff_ne.mpr c16
                    by_cases c22 : (bt a0 x9_1) = 9
                    · rw [if_pos c22] at H
                      have c22b0 : ((bt a0 x9_1) == 9) = true := beq_iff_eq.mpr c22
                      have c22b1 : ((bt a0 x9_1) != 9) = false := bne_eq_false_iff_eq.mpr c22
                      clear c22
                      obtain ⟨y168, hy168⟩ : ∃ y_ : List Int, y_ = (([92, 116] : List Int)) := ⟨_, rfl⟩
                      replace H : (if x3_1.length + y168.length < 140737488355328 then (lex_Quote.l0 kj7 a0 (x3_1 ++ y168) (a0.size : Int) (wrap64 (x9_1 + 1))) else (none)) = some r := by first | (rw [hy168]; with_reducible exact H) | (have H2_ := (Option.bind_some _ _).symm.trans H; rw [hy168]; with_reducible exact H2_) | (have H2_ := (Option.bind_some _ _).symm.trans H; with_reducible exact H2_) | with_reducible exact H | (rw [hy168]; exact H) | exact H
                      have Ny168 := Aside0.mk hy168
                      clear hy168
                      by_cases c23 : x3_1.length + y168.length < 140737488355328
                      · rw [if_pos c23] at H
                        have LMc23 := Aside0.mk c23
                        clear c23
                        obtain ⟨y171, hy171⟩ : ∃ y_ : List Int, y_ = (x3_1 ++ y168) := ⟨_, rfl⟩
                        replace H : (lex_Quote.l0 kj7 a0 y171 (a0.size : Int) (wrap64 (x9_1 + 1))) = some r := by first | (rw [hy171]; with_reducible exact H) | (have H2_ := (Option.bind_some _ _).symm.trans H; rw [hy171]; with_reducible exact H2_) | (have H2_ := (Option.bind_some _ _).symm.trans H; with_reducible exact H2_) | with_reducible exact H | (rw [hy171]; exact H) | exact H
                        have Ny171 := Aside0.mk hy171
                        clear hy171
                        have H' := Aside0.mk H
                        clear H
                        go_wp2_with (first | ((with_reducible refine gate_dst (N := 45) rfl ?_); refine Kd.R_lit (Kd.int .u8) _ 5 ?hg (N := 45) ?hd (xs := ([92, 116] : List Int)) (inner := [.int .u8 92, .int .u8 116]) (ok := fun _ => True) (okp := fun _ => True) ?hr ?hp (fun _ hk => hk) trivial (Below.refl _ _) (Nat.le_refl _) (by simp) ?_; (case hd => rfl); (case hg => rfl); (case hr => first | (go_simp; done) | (go_simp; rfl)); (case hp => exact (Reps.one (show Kd.M (Kd.int .u8) _ _ _ 92 [.int .u8 92] from rfl) (Reps.one (show Kd.M (Kd.int .u8) _ _ _ 116 [.int .u8 116] from rfl) (Reps.none _ _)))); intro v169 w24 ho25 hb hg_ hnew_; clear hg_ hnew_; (first | rw [← Ny168.out] at ho25 | (simp only [Int.reduceToNat] at ho25; rw [← Ny168.out] at ho25)); have n0_ := Aside0.mk (Kd.R_elder' (by (with_reducible repeat (first | apply Kd.R_alloc | apply Kd.R_drewN | apply Kd.R_drew)); exact HO_3.out) (Kd.R_base ho25) hb); have n1_ := Aside0.mk (Kd.R_lower (Kd.R_new' ho25 (Kd.R_lt (by (with_reducible repeat (first | apply Kd.R_alloc | apply Kd.R_drewN | apply Kd.R_drew)); exact HO_3.out))) (below_size (by repeat (first | (with_reducible first | exact HB.out | apply below_alloc | apply pw_below_drewN | apply below_drew1) | exact HB.out)))); have n2_ := Aside0.mk (below_step (by repeat (first | (with_reducible first | exact HB.out | apply below_alloc | apply pw_below_drewN | apply below_drew1) | exact HB.out)) hb); clear HO_3; clear HB; have HO_3 := n0_; have HO170 := n1_; have HB := n2_; clear n0_ n1_ n2_; clear hb ho25; obtain ⟨Ao27, co27, eo27⟩ := Kd.R_slice HO170.out; subst eo27) | ((with_reducible refine gate_builtin (b := .append) (xs := #[.tmp 44, .tmp 45]) rfl ?_); at_builtin; refine Kd.R_append_rows (Kd.int .u8) (w0 := w) w.heap.size rfl (.tmp 44) (.tmp 45) 70 5 (.int .u8 0) 1 rfl Tryd.underlying70 info5 rfl (by decide) (by omega) u3 x3_1 y168 _ _ _ (fun k_ => some k_ ≠ (.slice Ao27 y168.length co27 : Value).ownBlock) (fun _ => False) rfl rfl ?aO ?aR (fun _ _ h => h) (fun _ h => h.elim) ?aF ?aB ?aS ?aL ?_; (case aR => repeat (first | exact (Kd.R_reads' HO170.out).2.2 | (with_reducible refine Kd.C_alloc ?_ _) | (with_reducible refine Kd.C_drewN ?_ _) | (with_reducible refine Kd.C_drew ?_))); (case aB => exact (by repeat (first | (with_reducible first | exact HB.out | apply below_alloc | apply pw_below_drewN | apply below_drew1) | exact HB.out))); (case aF => exact (fun k_ hk => Kd.fresh' (Kd.R_lt (by (with_reducible repeat (first | apply Kd.R_alloc | apply Kd.R_drewN | apply Kd.R_drew)); exact HO170.out)) k_ hk)); (case aO => exact (by (with_reducible repeat (first | apply Kd.R_alloc | apply Kd.R_drewN | apply Kd.R_drew)); exact Kd.R_mono HO_3.out (fun _ hk => hk.2))); (case aS => exact (below_size (by repeat (first | (with_reducible first | exact HB.out | apply below_alloc | apply pw_below_drewN | apply below_drew1) | exact HB.out)))); (case aL => have := LMc23.out; omega); intro v172 w26 ho hb hg hat; rw [← Ny171.out] at ho; have n0_ := Aside0.mk (Kd.R_after (ok := (fun _ => True)) (by (with_reducible repeat (first | apply Kd.R_alloc | apply Kd.R_drewN | apply Kd.R_drew)); exact HO170.out) hg hat); have n1_ := Aside0.mk (hb); have n2_ := Aside0.mk (ho); clear HO170; clear HB; clear HO_3; have HO170 := n0_; have HB := n1_; have HO173 := n2_; clear n0_ n1_ n2_; clear ho hb hg hat))
                        go_roundg kj7
                        case measure => have := HK1.out; have := HJ7.out; omega
                        case rel => exact ⟨(y171), (wrap64 (x9_1 + 1)), (by first | rfl | (simp; done) | (simp [*]; done)), H', ⟨by have := HK1.out; have := HJ7.out; omega⟩, ⟨by (with_reducible repeat (first | apply Kd.R_alloc | apply Kd.R_drewN | apply Kd.R_drew)); exact Kd.R_mono HO173.out (fun _ hk => trivial)⟩, ⟨by repeat (first | (with_reducible first | exact HB.out | apply below_alloc | apply pw_below_drewN | apply below_drew1) | exact HB.out)⟩⟩
                      · rw [if_neg c23] at H
                        exact absurd H (by simp)
                    · rw [if_neg c22] at H
                      have c22b0 : ((bt a0 x9_1) == 9) = false := beq_eq_false_iff_ne.mpr c22
                      have c22b1 : ((bt a0 x9_1) != 9) = true := bne_iff_ne.mpr c22
                      by_cases c28 : (bt a0 x9_1) ≥ 32
                      · rw [if_pos c28] at H
                        have c28b0 : decide (32 ≤ (bt a0 x9_1)) = true := decide_eq_true c28
                        clear c28
                        by_cases c29 : (bt a0 x9_1) ≤ 126
                        · rw [if_pos c29] at H
                          have c29b0 : decide ((bt a0 x9_1) ≤ 126) = true := decide_eq_true c29
                          clear c29
                          by_cases c30 : x3_1.length < 140737488355328
                          · rw [if_pos c30] at H
                            have LMc30 := Aside0.mk c30
                            clear c30
                            obtain ⟨y174, hy174⟩ : ∃ y_ : List Int, y_ = (x3_1 ++ [(bt a0 x9_1)]) := ⟨_, rfl⟩
                            replace H : (lex_Quote.l0 kj7 a0 y174 (a0.size : Int) (wrap64 (x9_1 + 1))) = some r := by first | (rw [hy174]; with_reducible exact H) | (have H2_ := (Option.bind_some _ _).symm.trans H; rw [hy174]; with_reducible exact H2_) | (have H2_ := (Option.bind_some _ _).symm.trans H; with_reducible exact H2_) | with_reducible exact H | (rw [hy174]; exact H) | exact H
                            have Ny174 := Aside0.mk hy174
                            clear hy174
                            have H' := Aside0.mk H
                            clear H
                            go_wp2_with (first | ((with_reducible refine gate_builtin (b := .append) (xs := #[.tmp 54, .tmp 56]) rfl ?_); at_builtin; refine Kd.R_append (Kd.int .u8) (w0 := w) w.heap.size rfl (.tmp 54) (.tmp 56) 70 5 (.int .u8 0) 1 rfl Tryd.underlying70 info5 rfl (by decide) (by omega) u3 x3_1 (bt a0 x9_1) [.int .u8 (bt a0 x9_1)] (fun _ => True) (fun _ => False) rfl rfl ?aP (fun _ hk => hk.elim) ?aF ?aO ?aB ?aS ?aL ?_; (case aP => exact rfl); (case aB => exact (by repeat (first | (with_reducible first | exact HB.out | apply below_alloc | apply pw_below_drewN | apply below_drew1) | exact HB.out))); (case aF => exact (fun _ _ => trivial)); (case aO => exact (by (with_reducible repeat (first | apply Kd.R_alloc | apply Kd.R_drewN | apply Kd.R_drew)); exact HO_3.out)); (case aS => exact (below_size (by repeat (first | (with_reducible first | exact HB.out | apply below_alloc | apply pw_below_drewN | apply below_drew1) | exact HB.out)))); (case aL => have := LMc30.out; omega); intro v175 w31 ho hb hg hat; rw [← Ny174.out] at ho; have n0_ := Aside0.mk (hb); have n1_ := Aside0.mk (ho); clear HB; clear HO_3; have HB := n0_; have HO176 := n1_; clear n0_ n1_; clear ho hb hg hat))
                            go_roundg kj7
                            case measure => have := HK1.out; have := HJ7.out; omega
                            case rel => exact ⟨(y174), (wrap64 (x9_1 + 1)), (by first | rfl | (simp; done) | (simp [*]; done)), H', ⟨by have := HK1.out; have := HJ7.out; omega⟩, ⟨by (with_reducible repeat (first | apply Kd.R_alloc | apply Kd.R_drewN | apply Kd.R_drew)); exact HO176.out⟩, ⟨by repeat (first | (with_reducible first | exact HB.out | apply below_alloc | apply pw_below_drewN | apply below_drew1) | exact HB.out)⟩⟩
                          · rw [if_neg c30] at H
                            exact absurd H (by simp)
                        · rw [if_neg c29] at H
                          have c29b0 : decide ((bt a0 x9_1) ≤ 126) = false := decide_eq_false c29
                          clear c29
                          obtain ⟨ji32, hji32⟩ : ∃ j_ : Int, ((bt a0 x9_1) / 16) = j_ := ⟨_, rfl⟩
                          replace H : (if 0 ≤ (ji32) then (if (ji32) < 16 then (if 0 ≤ (Go.bits .and .u8 (bt a0 x9_1) 15) then (if (Go.bits .and .u8 (bt a0 x9_1) 15) < 16 then ((some (([92, 120, bt (⟨#[48, 49, 50, 51, 52, 53, 54, 55, 56, 57, 97, 98, 99, 100, 101, 102]⟩ : ByteArray) (ji32), bt (⟨#[48, 49, 50, 51, 52, 53, 54, 55, 56, 57, 97, 98, 99, 100, 101, 102]⟩ : ByteArray) (Go.bits .and .u8 (bt a0 x9_1) 15)] : List Int) : List Int)).bind fun y177 => (if x3_1.length + y177.length < 140737488355328 then (lex_Quote.l0 kj7 a0 (x3_1 ++ y177) (a0.size : Int) (wrap64 (x9_1 + 1))) else (none))) else (none)) else (none)) else (none)) else (none)) = some r := by first | (rw [hji32] at H; exact H) | (simp only [hji32] at H ⊢; exact H)
                          by_cases c33 : 0 ≤ (ji32)
                          · rw [if_pos c33] at H
                            have c33b0 : decide (0 ≤ (ji32)) = true := decide_eq_true c33
                            clear c33
                            by_cases c34 : (ji32) < 16
                            · rw [if_pos c34] at H
                              have c34b0 : decide ((ji32) < 16) = true := decide_eq_true c34
                              clear c34
                              by_cases c36 : 0 ≤ (Go.bits .and .u8 (bt a0 x9_1) 15)
                              · rw [if_pos c36] at H
                                have c36b0 : decide (0 ≤ (Go.bits .and .u8 (bt a0 x9_1) 15)) = true := decide_eq_true c36
                                clear c36
                                by_cases c37 : (Go.bits .and .u8 (bt a0 x9_1) 15) < 16
                                · rw [if_pos c37] at H
                                  have c37b0 : decide ((Go.bits .and .u8 (bt a0 x9_1) 15) < 16) = true := decide_eq_true c37
                                  clear c37
                                  obtain ⟨y177, hy177⟩ : ∃ y_ : List Int, y_ = (([92, 120, bt (⟨#[48, 49, 50, 51, 52, 53, 54, 55, 56, 57, 97, 98, 99, 100, 101, 102]⟩ : ByteArray) (ji32), bt (⟨#[48, 49, 50, 51, 52, 53, 54, 55, 56, 57, 97, 98, 99, 100, 101, 102]⟩ : ByteArray) (Go.bits .and .u8 (bt a0 x9_1) 15)] : List Int)) := ⟨_, rfl⟩
                                  replace H : (if x3_1.length + y177.length < 140737488355328 then (lex_Quote.l0 kj7 a0 (x3_1 ++ y177) (a0.size : Int) (wrap64 (x9_1 + 1))) else (none)) = some r := by first | (rw [hy177]; with_reducible exact H) | (have H2_ := (Option.bind_some _ _).symm.trans H; rw [hy177]; with_reducible exact H2_) | (have H2_ := (Option.bind_some _ _).symm.trans H; with_reducible exact H2_) | with_reducible exact H | (rw [hy177]; exact H) | exact H
                                  have Ny177 := Aside0.mk hy177
                                  clear hy177
                                  by_cases c39 : x3_1.length + y177.length < 140737488355328
                                  · rw [if_pos c39] at H
                                    have LMc39 := Aside0.mk c39
                                    clear c39
                                    obtain ⟨y180, hy180⟩ : ∃ y_ : List Int, y_ = (x3_1 ++ y177) := ⟨_, rfl⟩
                                    replace H : (lex_Quote.l0 kj7 a0 y180 (a0.size : Int) (wrap64 (x9_1 + 1))) = some r := by first | (rw [hy180]; with_reducible exact H) | (have H2_ := (Option.bind_some _ _).symm.trans H; rw [hy180]; with_reducible exact H2_) | (have H2_ := (Option.bind_some _ _).symm.trans H; with_reducible exact H2_) | with_reducible exact H | (rw [hy180]; exact H) | exact H
                                    have Ny180 := Aside0.mk hy180
                                    clear hy180
                                    have H' := Aside0.mk H
                                    clear H
                                    try go_wp2
                                    have n0_ := Aside0.mk (Kd.R_drew HO_3.out)
                                    have n1_ := Aside0.mk (below_drew1 HB.out)
                                    clear HO_3
                                    clear HB
                                    have HO_3 := n0_
                                    have HB := n1_
                                    clear n0_ n1_
                                    have p35 : 0 ≤ ((ji32) : Int) := of_decide_eq_true (by first | (with_reducible assumption) | assumption)
                                    have q35 : (ji32) < (16 : Int) := of_decide_eq_true (by first | (with_reducible assumption) | assumption)
                                    have hx35 := bt_at (⟨#[48, 49, 50, 51, 52, 53, 54, 55, 56, 57, 97, 98, 99, 100, 101, 102]⟩ : ByteArray) (ji32)
                                    replace p35 := eq_true p35
                                    replace q35 := eq_true q35
                                    have p38 : 0 ≤ ((Go.bits .and .u8 (bt a0 x9_1) 15) : Int) := of_decide_eq_true (by first | (with_reducible assumption) | assumption)
                                    have q38 : (Go.bits .and .u8 (bt a0 x9_1) 15) < (16 : Int) := of_decide_eq_true (by first | (with_reducible assumption) | assumption)
                                    have hx38 := bt_at (⟨#[48, 49, 50, 51, 52, 53, 54, 55, 56, 57, 97, 98, 99, 100, 101, 102]⟩ : ByteArray) (Go.bits .and .u8 (bt a0 x9_1) 15)
                                    replace p38 := eq_true p38
                                    replace q38 := eq_true q38
                                    refine start_ (n := 10) (S := fun w' => True) (ds := []) #[false, false, false, false, false, false, false, false, false, false] (by kernel_rfl) rfl rfl trivial (fun hHeld => ?_); refine with_tabW lex_Quote.tab6 lex_Quote.bits6 (fun HT_ HW_ => ?_)
                                    generalize wc.drew = w40 at HO_3 HB hHeld ⊢
                                    refine pure_ (i := 0) (N := some 15) (v := ?_) (a' := ?_) #[true, false, false, false, false, false, false, false, false, false] rfl rfl (any_of HT_.out (by kernel_rfl)) (fun _ _ _ h => h) (Or.inl ⟨by rfl, ?_⟩) ?_ ?_
                                    rotate_left
                                    · intro w'
                                      go_simp
                                      with_reducible rfl
                                    rotate_left
                                    · simp only [Act.put, List.setIfInBounds_toArray, List.set_cons_zero, List.set_cons_succ, i64_w, i32_w]
                                      rfl
                                    refine pure_ (i := 1) (N := some 16) (v := ?_) (a' := ?_) #[true, true, false, false, false, false, false, false, false, false] rfl rfl (any_of HT_.out (by kernel_rfl)) (fun _ _ _ h => h) (Or.inl ⟨by rfl, ?_⟩) ?_ ?_
                                    rotate_left
                                    · intro w'
                                      go_simp
                                      with_reducible rfl
                                    rotate_left
                                    · simp only [Act.put, List.setIfInBounds_toArray, List.set_cons_zero, List.set_cons_succ, i64_w, i32_w]
                                      rfl
                                    refine pure_ (i := 2) (N := some 17) (v := ?_) (a' := ?_) #[true, true, true, false, false, false, false, false, false, false] rfl rfl (any_of HT_.out (by kernel_rfl)) (fun _ _ _ h => h) (Or.inl ⟨by rfl, ?_⟩) ?_ ?_
                                    rotate_left
                                    · intro w'
                                      go_simp
                                      with_reducible rfl
                                    rotate_left
                                    · simp only [Act.put, List.setIfInBounds_toArray, List.set_cons_zero, List.set_cons_succ, i64_w, i32_w]
                                      rfl
                                    refine pure_ (i := 4) (N := some 19) (v := ?_) (a' := ?_) #[true, true, true, false, true, false, false, false, false, false] rfl rfl (any_of HT_.out (by kernel_rfl)) (fun _ _ _ h => h) (Or.inl ⟨by rfl, ?_⟩) ?_ ?_
                                    rotate_left
                                    · intro w'
                                      go_simp
                                      with_reducible rfl
                                    rotate_left
                                    · simp only [Act.put, List.setIfInBounds_toArray, List.set_cons_zero, List.set_cons_succ, i64_w, i32_w]
                                      rfl
                                    refine pure_ (i := 5) (N := some 20) (v := ?_) (a' := ?_) #[true, true, true, false, true, true, false, false, false, false] rfl rfl (any_of HT_.out (by kernel_rfl)) (fun _ _ _ h => h) (Or.inl ⟨by rfl, ?_⟩) ?_ ?_
                                    rotate_left
                                    · intro w'
                                      go_simp
                                      with_reducible rfl
                                    rotate_left
                                    · simp only [Act.put, List.setIfInBounds_toArray, List.set_cons_zero, List.set_cons_succ, i64_w, i32_w]
                                      rfl
                                    refine take_ (i := 3) (N := some 18) (v := ?_) (a' := ?_) #[true, true, true, true, true, true, false, false, false, false] rfl rfl (take_ofW HT_.out HW_.out (by kernel_rfl)) (fun _ _ _ h => h) (Or.inl ⟨by rfl, ?_⟩) hHeld ?_ ?_
                                    rotate_left
                                    · intro w' _
                                      go_simp
                                      with_reducible rfl
                                    rotate_left
                                    · simp only [Act.put, List.setIfInBounds_toArray, List.set_cons_zero, List.set_cons_succ, i64_w, i32_w]
                                      rfl
                                    refine take_ (i := 6) (N := some 21) (v := ?_) (a' := ?_) #[true, true, true, true, true, true, true, false, false, false] rfl rfl (take_ofW HT_.out HW_.out (by kernel_rfl)) (fun _ _ _ h => h) (Or.inl ⟨by rfl, ?_⟩) hHeld ?_ ?_
                                    rotate_left
                                    · intro w' _
                                      go_simp
                                      with_reducible rfl
                                    rotate_left
                                    · simp only [Act.put, List.setIfInBounds_toArray, List.set_cons_zero, List.set_cons_succ, i64_w, i32_w]
                                      rfl
                                    refine one_ (i := 7) (N := some 22) #[true, true, true, true, true, true, true, true, false, false] rfl rfl (one_of HT_.out (by kernel_rfl)) (by decide) (fun K hK => ?_)
                                    refine Kd.R_lit_step (Kd.int .u8) _ 5 ?hg (N := 22) ?hd (xs := ([92, 120, bt (⟨#[48, 49, 50, 51, 52, 53, 54, 55, 56, 57, 97, 98, 99, 100, 101, 102]⟩ : ByteArray) (ji32), bt (⟨#[48, 49, 50, 51, 52, 53, 54, 55, 56, 57, 97, 98, 99, 100, 101, 102]⟩ : ByteArray) (Go.bits .and .u8 (bt a0 x9_1) 15)] : List Int)) (inner := [.int .u8 92, .int .u8 120, .int .u8 (bt (⟨#[48, 49, 50, 51, 52, 53, 54, 55, 56, 57, 97, 98, 99, 100, 101, 102]⟩ : ByteArray) (ji32)), .int .u8 (bt (⟨#[48, 49, 50, 51, 52, 53, 54, 55, 56, 57, 97, 98, 99, 100, 101, 102]⟩ : ByteArray) (Go.bits .and .u8 (bt a0 x9_1) 15))]) (ok := fun _ => True) (okp := fun _ => True) ?hr ?hp (fun _ hk => hk) trivial (Below.refl _ _) (Nat.le_refl _) (by simp) ?_; (case hd => rfl); (case hg => rfl); (case hr => first | (go_simp; done) | (go_simp; rfl)); (case hp => exact (Reps.one (show Kd.M (Kd.int .u8) _ _ _ 92 [.int .u8 92] from rfl) (Reps.one (show Kd.M (Kd.int .u8) _ _ _ 120 [.int .u8 120] from rfl) (Reps.one (show Kd.M (Kd.int .u8) _ _ _ (bt (⟨#[48, 49, 50, 51, 52, 53, 54, 55, 56, 57, 97, 98, 99, 100, 101, 102]⟩ : ByteArray) (ji32)) [.int .u8 (bt (⟨#[48, 49, 50, 51, 52, 53, 54, 55, 56, 57, 97, 98, 99, 100, 101, 102]⟩ : ByteArray) (ji32))] from rfl) (Reps.one (show Kd.M (Kd.int .u8) _ _ _ (bt (⟨#[48, 49, 50, 51, 52, 53, 54, 55, 56, 57, 97, 98, 99, 100, 101, 102]⟩ : ByteArray) (Go.bits .and .u8 (bt a0 x9_1) 15)) [.int .u8 (bt (⟨#[48, 49, 50, 51, 52, 53, 54, 55, 56, 57, 97, 98, 99, 100, 101, 102]⟩ : ByteArray) (Go.bits .and .u8 (bt a0 x9_1) 15))] from rfl) (Reps.none _ _))))))
                                    intro v178 w41 ho42 hb hg_ hnew_
                                    clear hg_ hnew_
                                    (first | rw [← Ny177.out] at ho42 | (simp only [Int.reduceToNat] at ho42; rw [← Ny177.out] at ho42))
                                    have n0_ := Aside0.mk (Kd.R_elder' (by (with_reducible repeat (first | apply Kd.R_alloc | apply Kd.R_drewN | apply Kd.R_drew)); exact HO_3.out) (Kd.R_base ho42) hb)
                                    have n1_ := Aside0.mk (Kd.R_lower (Kd.R_new' ho42 (Kd.R_lt (by (with_reducible repeat (first | apply Kd.R_alloc | apply Kd.R_drewN | apply Kd.R_drew)); exact HO_3.out))) (below_size (by repeat (first | (with_reducible first | exact HB.out | apply below_alloc | apply pw_below_drewN | apply below_drew1) | exact HB.out))))
                                    have n2_ := Aside0.mk (below_step (by repeat (first | (with_reducible first | exact HB.out | apply below_alloc | apply pw_below_drewN | apply below_drew1) | exact HB.out)) hb)
                                    clear HO_3
                                    clear HB
                                    have HO_3 := n0_
                                    have HO179 := n1_
                                    have HB := n2_
                                    clear n0_ n1_ n2_
                                    clear hb ho42
                                    obtain ⟨Ao44, co44, eo44⟩ := Kd.R_slice HO179.out
                                    (first | subst eo44 | (injection eo44 with f1_ f2_ f3_; have f4_ := f1_.symm; have f5_ := f3_.symm; clear f1_ f2_ f3_; subst f4_; subst f5_))
                                    refine hK.out _ _ trivial (fun hHeld => ?_)
                                    clear hK K
                                    refine norm_ (a' := ?_) ?_ ?_
                                    rotate_left
                                    · show Act.put _ (some 22) _ = _
                                      simp only [Act.put, List.setIfInBounds_toArray, List.set_cons_zero, List.set_cons_succ, i64_w, i32_w]
                                      rfl
                                    refine one_ (i := 8) (N := some 23) #[true, true, true, true, true, true, true, true, true, false] rfl rfl (one_of HT_.out (by kernel_rfl)) (by decide) (fun K hK => ?_)
                                    refine Kd.R_append_rows_step (Kd.int .u8) (w0 := w) w.heap.size (by rfl) (.tmp 15) (.tmp 22) 70 5 (.int .u8 0) 1 rfl Tryd.underlying70 info5 rfl (by decide) (by omega) u3 x3_1 y177 _ _ _ (fun k_ => some k_ ≠ (.slice Ao44 y177.length co44 : Value).ownBlock) (fun _ => False) rfl rfl ?aO ?aR (fun _ _ h => h) (fun _ h => h.elim) ?aF ?aB ?aS ?aL ?_
                                    (case aR => repeat (first | exact (Kd.R_reads' HO179.out).2.2 | (with_reducible refine Kd.C_alloc ?_ _) | (with_reducible refine Kd.C_drewN ?_ _) | (with_reducible refine Kd.C_drew ?_)))
                                    (case aB => exact (by repeat (first | (with_reducible first | exact HB.out | apply below_alloc | apply pw_below_drewN | apply below_drew1) | exact HB.out)))
                                    (case aF => exact (fun k_ hk => Kd.fresh' (Kd.R_lt (by (with_reducible repeat (first | apply Kd.R_alloc | apply Kd.R_drewN | apply Kd.R_drew)); exact HO179.out)) k_ hk))
                                    (case aO => exact (by (with_reducible repeat (first | apply Kd.R_alloc | apply Kd.R_drewN | apply Kd.R_drew)); exact Kd.R_mono HO_3.out (fun _ hk => hk.2)))
                                    (case aS => exact (below_size (by repeat (first | (with_reducible first | exact HB.out | apply below_alloc | apply pw_below_drewN | apply below_drew1) | exact HB.out))))
                                    (case aL => have := LMc39.out; omega)
                                    intro v181 w43 ho hb hg hat
                                    rw [← Ny180.out] at ho
                                    have n0_ := Aside0.mk (Kd.R_after (ok := (fun _ => True)) (by (with_reducible repeat (first | apply Kd.R_alloc | apply Kd.R_drewN | apply Kd.R_drew)); exact HO179.out) hg hat)
                                    have n1_ := Aside0.mk (hb)
                                    have n2_ := Aside0.mk (ho)
                                    clear HO179
                                    clear HB
                                    clear HO_3
                                    have HO179 := n0_
                                    have HB := n1_
                                    have HO182 := n2_
                                    clear n0_ n1_ n2_
                                    clear ho hb hg hat
                                    refine hK.out _ _ trivial (fun hHeld => ?_)
                                    clear hK K
                                    refine norm_ (a' := ?_) ?_ ?_
                                    rotate_left
                                    · show Act.put _ (some 23) _ = _
                                      simp only [Act.put, List.setIfInBounds_toArray, List.set_cons_zero, List.set_cons_succ, i64_w, i32_w]
                                      rfl
                                    refine pure_ (i := 9) (N := some 3) (v := ?_) (a' := ?_) #[true, true, true, true, true, true, true, true, true, true] rfl rfl (any_of HT_.out (by kernel_rfl)) (fun _ _ _ h => h) (Or.inl ⟨by rfl, ?_⟩) ?_ ?_
                                    rotate_left
                                    · intro w'
                                      go_simp
                                      with_reducible rfl
                                    rotate_left
                                    · simp only [Act.put, List.setIfInBounds_toArray, List.set_cons_zero, List.set_cons_succ, i64_w, i32_w]
                                      rfl
                                    refine done_ (done_of HT_.out (by kernel_rfl)) ?_
                                    try go_wp2
                                    go_roundg kj7
                                    case measure => have := HK1.out; have := HJ7.out; omega
                                    case rel => exact ⟨(y180), (wrap64 (x9_1 + 1)), (by first | rfl | (simp; done) | (simp [*]; done)), H', ⟨by have := HK1.out; have := HJ7.out; omega⟩, ⟨by (with_reducible repeat (first | apply Kd.R_alloc | apply Kd.R_drewN | apply Kd.R_drew)); exact Kd.R_mono HO182.out (fun _ hk => trivial)⟩, ⟨by repeat (first | (with_reducible first | exact HB.out | apply below_alloc | apply pw_below_drewN | apply below_drew1) | exact HB.out)⟩⟩
                                  · rw [if_neg c39] at H
                                    exact absurd H (by simp)
                                · rw [if_neg c37] at H
                                  exact absurd H (by simp)
                              · rw [if_neg c36] at H
                                exact absurd H (by simp)
                            · rw [if_neg c34] at H
                              exact absurd H (by simp)
                          · rw [if_neg c33] at H
                            exact absurd H (by simp)
                      · rw [if_neg c28] at H
                        have c28b0 : decide (32 ≤ (bt a0 x9_1)) = false := decide_eq_false c28
                        clear c28
                        try clear hji32
                        try clear hji32w
                        obtain ⟨ji45, hji45⟩ : ∃ j_ : Int, ((bt a0 x9_1) / 16) = j_ := ⟨_, rfl⟩
                        replace H : (if 0 ≤ (ji45) then (if (ji45) < 16 then (if 0 ≤ (Go.bits .and .u8 (bt a0 x9_1) 15) then (if (Go.bits .and .u8 (bt a0 x9_1) 15) < 16 then ((some (([92, 120, bt (⟨#[48, 49, 50, 51, 52, 53, 54, 55, 56, 57, 97, 98, 99, 100, 101, 102]⟩ : ByteArray) (ji45), bt (⟨#[48, 49, 50, 51, 52, 53, 54, 55, 56, 57, 97, 98, 99, 100, 101, 102]⟩ : ByteArray) (Go.bits .and .u8 (bt a0 x9_1) 15)] : List Int) : List Int)).bind fun y183 => (if x3_1.length + y183.length < 140737488355328 then (lex_Quote.l0 kj7 a0 (x3_1 ++ y183) (a0.size : Int) (wrap64 (x9_1 + 1))) else (none))) else (none)) else (none)) else (none)) else (none)) = some r := by first | (rw [hji45] at H; exact H) | (simp only [hji45] at H ⊢; exact H)
                        by_cases c46 : 0 ≤ (ji45)
                        · rw [if_pos c46] at H
                          have c46b0 : decide (0 ≤ (ji45)) = true := decide_eq_true c46
                          clear c46
                          by_cases c47 : (ji45) < 16
                          · rw [if_pos c47] at H
                            have c47b0 : decide ((ji45) < 16) = true := decide_eq_true c47
                            clear c47
                            by_cases c49 : 0 ≤ (Go.bits .and .u8 (bt a0 x9_1) 15)
                            · rw [if_pos c49] at H
                              have c49b0 : decide (0 ≤ (Go.bits .and .u8 (bt a0 x9_1) 15)) = true := decide_eq_true c49
                              clear c49
                              by_cases c50 : (Go.bits .and .u8 (bt a0 x9_1) 15) < 16
                              · rw [if_pos c50] at H
                                have c50b0 : decide ((Go.bits .and .u8 (bt a0 x9_1) 15) < 16) = true := decide_eq_true c50
                                clear c50
                                obtain ⟨y183, hy183⟩ : ∃ y_ : List Int, y_ = (([92, 120, bt (⟨#[48, 49, 50, 51, 52, 53, 54, 55, 56, 57, 97, 98, 99, 100, 101, 102]⟩ : ByteArray) (ji45), bt (⟨#[48, 49, 50, 51, 52, 53, 54, 55, 56, 57, 97, 98, 99, 100, 101, 102]⟩ : ByteArray) (Go.bits .and .u8 (bt a0 x9_1) 15)] : List Int)) := ⟨_, rfl⟩
                                replace H : (if x3_1.length + y183.length < 140737488355328 then (lex_Quote.l0 kj7 a0 (x3_1 ++ y183) (a0.size : Int) (wrap64 (x9_1 + 1))) else (none)) = some r := by first | (rw [hy183]; with_reducible exact H) | (have H2_ := (Option.bind_some _ _).symm.trans H; rw [hy183]; with_reducible exact H2_) | (have H2_ := (Option.bind_some _ _).symm.trans H; with_reducible exact H2_) | with_reducible exact H | (rw [hy183]; exact H) | exact H
                                have Ny183 := Aside0.mk hy183
                                clear hy183
                                by_cases c52 : x3_1.length + y183.length < 140737488355328
                                · rw [if_pos c52] at H
                                  have LMc52 := Aside0.mk c52
                                  clear c52
                                  obtain ⟨y186, hy186⟩ : ∃ y_ : List Int, y_ = (x3_1 ++ y183) := ⟨_, rfl⟩
                                  replace H : (lex_Quote.l0 kj7 a0 y186 (a0.size : Int) (wrap64 (x9_1 + 1))) = some r := by first | (rw [hy186]; with_reducible exact H) | (have H2_ := (Option.bind_some _ _).symm.trans H; rw [hy186]; with_reducible exact H2_) | (have H2_ := (Option.bind_some _ _).symm.trans H; with_reducible exact H2_) | with_reducible exact H | (rw [hy186]; exact H) | exact H
                                  have Ny186 := Aside0.mk hy186
                                  clear hy186
                                  have H' := Aside0.mk H
                                  clear H
                                  try go_wp2
                                  have n0_ := Aside0.mk (Kd.R_drew HO_3.out)
                                  have n1_ := Aside0.mk (below_drew1 HB.out)
                                  clear HO_3
                                  clear HB
                                  have HO_3 := n0_
                                  have HB := n1_
                                  clear n0_ n1_
                                  have p48 : 0 ≤ ((ji45) : Int) := of_decide_eq_true (by first | (with_reducible assumption) | assumption)
                                  have q48 : (ji45) < (16 : Int) := of_decide_eq_true (by first | (with_reducible assumption) | assumption)
                                  have hx48 := bt_at (⟨#[48, 49, 50, 51, 52, 53, 54, 55, 56, 57, 97, 98, 99, 100, 101, 102]⟩ : ByteArray) (ji45)
                                  replace p48 := eq_true p48
                                  replace q48 := eq_true q48
                                  have p51 : 0 ≤ ((Go.bits .and .u8 (bt a0 x9_1) 15) : Int) := of_decide_eq_true (by first | (with_reducible assumption) | assumption)
                                  have q51 : (Go.bits .and .u8 (bt a0 x9_1) 15) < (16 : Int) := of_decide_eq_true (by first | (with_reducible assumption) | assumption)
                                  have hx51 := bt_at (⟨#[48, 49, 50, 51, 52, 53, 54, 55, 56, 57, 97, 98, 99, 100, 101, 102]⟩ : ByteArray) (Go.bits .and .u8 (bt a0 x9_1) 15)
                                  replace p51 := eq_true p51
                                  replace q51 := eq_true q51
                                  refine start_ (n := 10) (S := fun w' => True) (ds := []) #[false, false, false, false, false, false, false, false, false, false] (by kernel_rfl) rfl rfl trivial (fun hHeld => ?_); refine with_tabW lex_Quote.tab6 lex_Quote.bits6 (fun HT_ HW_ => ?_)
                                  generalize wc.drew = w53 at HO_3 HB hHeld ⊢
                                  refine pure_ (i := 0) (N := some 15) (v := ?_) (a' := ?_) #[true, false, false, false, false, false, false, false, false, false] rfl rfl (any_of HT_.out (by kernel_rfl)) (fun _ _ _ h => h) (Or.inl ⟨by rfl, ?_⟩) ?_ ?_
                                  rotate_left
                                  · intro w'
                                    go_simp
                                    with_reducible rfl
                                  rotate_left
                                  · simp only [Act.put, List.setIfInBounds_toArray, List.set_cons_zero, List.set_cons_succ, i64_w, i32_w]
                                    rfl
                                  refine pure_ (i := 1) (N := some 16) (v := ?_) (a' := ?_) #[true, true, false, false, false, false, false, false, false, false] rfl rfl (any_of HT_.out (by kernel_rfl)) (fun _ _ _ h => h) (Or.inl ⟨by rfl, ?_⟩) ?_ ?_
                                  rotate_left
                                  · intro w'
                                    go_simp
                                    with_reducible rfl
                                  rotate_left
                                  · simp only [Act.put, List.setIfInBounds_toArray, List.set_cons_zero, List.set_cons_succ, i64_w, i32_w]
                                    rfl
                                  refine pure_ (i := 2) (N := some 17) (v := ?_) (a' := ?_) #[true, true, true, false, false, false, false, false, false, false] rfl rfl (any_of HT_.out (by kernel_rfl)) (fun _ _ _ h => h) (Or.inl ⟨by rfl, ?_⟩) ?_ ?_
                                  rotate_left
                                  · intro w'
                                    go_simp
                                    with_reducible rfl
                                  rotate_left
                                  · simp only [Act.put, List.setIfInBounds_toArray, List.set_cons_zero, List.set_cons_succ, i64_w, i32_w]
                                    rfl
                                  refine pure_ (i := 4) (N := some 19) (v := ?_) (a' := ?_) #[true, true, true, false, true, false, false, false, false, false] rfl rfl (any_of HT_.out (by kernel_rfl)) (fun _ _ _ h => h) (Or.inl ⟨by rfl, ?_⟩) ?_ ?_
                                  rotate_left
                                  · intro w'
                                    go_simp
                                    with_reducible rfl
                                  rotate_left
                                  · simp only [Act.put, List.setIfInBounds_toArray, List.set_cons_zero, List.set_cons_succ, i64_w, i32_w]
                                    rfl
                                  refine pure_ (i := 5) (N := some 20) (v := ?_) (a' := ?_) #[true, true, true, false, true, true, false, false, false, false] rfl rfl (any_of HT_.out (by kernel_rfl)) (fun _ _ _ h => h) (Or.inl ⟨by rfl, ?_⟩) ?_ ?_
                                  rotate_left
                                  · intro w'
                                    go_simp
                                    with_reducible rfl
                                  rotate_left
                                  · simp only [Act.put, List.setIfInBounds_toArray, List.set_cons_zero, List.set_cons_succ, i64_w, i32_w]
                                    rfl
                                  refine take_ (i := 3) (N := some 18) (v := ?_) (a' := ?_) #[true, true, true, true, true, true, false, false, false, false] rfl rfl (take_ofW HT_.out HW_.out (by kernel_rfl)) (fun _ _ _ h => h) (Or.inl ⟨by rfl, ?_⟩) hHeld ?_ ?_
                                  rotate_left
                                  · intro w' _
                                    go_simp
                                    with_reducible rfl
                                  rotate_left
                                  · simp only [Act.put, List.setIfInBounds_toArray, List.set_cons_zero, List.set_cons_succ, i64_w, i32_w]
                                    rfl
                                  refine take_ (i := 6) (N := some 21) (v := ?_) (a' := ?_) #[true, true, true, true, true, true, true, false, false, false] rfl rfl (take_ofW HT_.out HW_.out (by kernel_rfl)) (fun _ _ _ h => h) (Or.inl ⟨by rfl, ?_⟩) hHeld ?_ ?_
                                  rotate_left
                                  · intro w' _
                                    go_simp
                                    with_reducible rfl
                                  rotate_left
                                  · simp only [Act.put, List.setIfInBounds_toArray, List.set_cons_zero, List.set_cons_succ, i64_w, i32_w]
                                    rfl
                                  refine one_ (i := 7) (N := some 22) #[true, true, true, true, true, true, true, true, false, false] rfl rfl (one_of HT_.out (by kernel_rfl)) (by decide) (fun K hK => ?_)
                                  refine Kd.R_lit_step (Kd.int .u8) _ 5 ?hg (N := 22) ?hd (xs := ([92, 120, bt (⟨#[48, 49, 50, 51, 52, 53, 54, 55, 56, 57, 97, 98, 99, 100, 101, 102]⟩ : ByteArray) (ji45), bt (⟨#[48, 49, 50, 51, 52, 53, 54, 55, 56, 57, 97, 98, 99, 100, 101, 102]⟩ : ByteArray) (Go.bits .and .u8 (bt a0 x9_1) 15)] : List Int)) (inner := [.int .u8 92, .int .u8 120, .int .u8 (bt (⟨#[48, 49, 50, 51, 52, 53, 54, 55, 56, 57, 97, 98, 99, 100, 101, 102]⟩ : ByteArray) (ji45)), .int .u8 (bt (⟨#[48, 49, 50, 51, 52, 53, 54, 55, 56, 57, 97, 98, 99, 100, 101, 102]⟩ : ByteArray) (Go.bits .and .u8 (bt a0 x9_1) 15))]) (ok := fun _ => True) (okp := fun _ => True) ?hr ?hp (fun _ hk => hk) trivial (Below.refl _ _) (Nat.le_refl _) (by simp) ?_; (case hd => rfl); (case hg => rfl); (case hr => first | (go_simp; done) | (go_simp; rfl)); (case hp => exact (Reps.one (show Kd.M (Kd.int .u8) _ _ _ 92 [.int .u8 92] from rfl) (Reps.one (show Kd.M (Kd.int .u8) _ _ _ 120 [.int .u8 120] from rfl) (Reps.one (show Kd.M (Kd.int .u8) _ _ _ (bt (⟨#[48, 49, 50, 51, 52, 53, 54, 55, 56, 57, 97, 98, 99, 100, 101, 102]⟩ : ByteArray) (ji45)) [.int .u8 (bt (⟨#[48, 49, 50, 51, 52, 53, 54, 55, 56, 57, 97, 98, 99, 100, 101, 102]⟩ : ByteArray) (ji45))] from rfl) (Reps.one (show Kd.M (Kd.int .u8) _ _ _ (bt (⟨#[48, 49, 50, 51, 52, 53, 54, 55, 56, 57, 97, 98, 99, 100, 101, 102]⟩ : ByteArray) (Go.bits .and .u8 (bt a0 x9_1) 15)) [.int .u8 (bt (⟨#[48, 49, 50, 51, 52, 53, 54, 55, 56, 57, 97, 98, 99, 100, 101, 102]⟩ : ByteArray) (Go.bits .and .u8 (bt a0 x9_1) 15))] from rfl) (Reps.none _ _))))))
                                  intro v184 w54 ho55 hb hg_ hnew_
                                  clear hg_ hnew_
                                  (first | rw [← Ny183.out] at ho55 | (simp only [Int.reduceToNat] at ho55; rw [← Ny183.out] at ho55))
                                  have n0_ := Aside0.mk (Kd.R_elder' (by (with_reducible repeat (first | apply Kd.R_alloc | apply Kd.R_drewN | apply Kd.R_drew)); exact HO_3.out) (Kd.R_base ho55) hb)
                                  have n1_ := Aside0.mk (Kd.R_lower (Kd.R_new' ho55 (Kd.R_lt (by (with_reducible repeat (first | apply Kd.R_alloc | apply Kd.R_drewN | apply Kd.R_drew)); exact HO_3.out))) (below_size (by repeat (first | (with_reducible first | exact HB.out | apply below_alloc | apply pw_below_drewN | apply below_drew1) | exact HB.out))))
                                  have n2_ := Aside0.mk (below_step (by repeat (first | (with_reducible first | exact HB.out | apply below_alloc | apply pw_below_drewN | apply below_drew1) | exact HB.out)) hb)
                                  clear HO_3
                                  clear HB
                                  have HO_3 := n0_
                                  have HO185 := n1_
                                  have HB := n2_
                                  clear n0_ n1_ n2_
                                  clear hb ho55
                                  obtain ⟨Ao57, co57, eo57⟩ := Kd.R_slice HO185.out
                                  (first | subst eo57 | (injection eo57 with f1_ f2_ f3_; have f4_ := f1_.symm; have f5_ := f3_.symm; clear f1_ f2_ f3_; subst f4_; subst f5_))
                                  refine hK.out _ _ trivial (fun hHeld => ?_)
                                  clear hK K
                                  refine norm_ (a' := ?_) ?_ ?_
                                  rotate_left
                                  · show Act.put _ (some 22) _ = _
                                    simp only [Act.put, List.setIfInBounds_toArray, List.set_cons_zero, List.set_cons_succ, i64_w, i32_w]
                                    rfl
                                  refine one_ (i := 8) (N := some 23) #[true, true, true, true, true, true, true, true, true, false] rfl rfl (one_of HT_.out (by kernel_rfl)) (by decide) (fun K hK => ?_)
                                  refine Kd.R_append_rows_step (Kd.int .u8) (w0 := w) w.heap.size (by rfl) (.tmp 15) (.tmp 22) 70 5 (.int .u8 0) 1 rfl Tryd.underlying70 info5 rfl (by decide) (by omega) u3 x3_1 y183 _ _ _ (fun k_ => some k_ ≠ (.slice Ao57 y183.length co57 : Value).ownBlock) (fun _ => False) rfl rfl ?aO ?aR (fun _ _ h => h) (fun _ h => h.elim) ?aF ?aB ?aS ?aL ?_
                                  (case aR => repeat (first | exact (Kd.R_reads' HO185.out).2.2 | (with_reducible refine Kd.C_alloc ?_ _) | (with_reducible refine Kd.C_drewN ?_ _) | (with_reducible refine Kd.C_drew ?_)))
                                  (case aB => exact (by repeat (first | (with_reducible first | exact HB.out | apply below_alloc | apply pw_below_drewN | apply below_drew1) | exact HB.out)))
                                  (case aF => exact (fun k_ hk => Kd.fresh' (Kd.R_lt (by (with_reducible repeat (first | apply Kd.R_alloc | apply Kd.R_drewN | apply Kd.R_drew)); exact HO185.out)) k_ hk))
                                  (case aO => exact (by (with_reducible repeat (first | apply Kd.R_alloc | apply Kd.R_drewN | apply Kd.R_drew)); exact Kd.R_mono HO_3.out (fun _ hk => hk.2)))
                                  (case aS => exact (below_size (by repeat (first | (with_reducible first | exact HB.out | apply below_alloc | apply pw_below_drewN | apply below_drew1) | exact HB.out))))
                                  (case aL => have := LMc52.out; omega)
                                  intro v187 w56 ho hb hg hat
                                  rw [← Ny186.out] at ho
                                  have n0_ := Aside0.mk (Kd.R_after (ok := (fun _ => True)) (by (with_reducible repeat (first | apply Kd.R_alloc | apply Kd.R_drewN | apply Kd.R_drew)); exact HO185.out) hg hat)
                                  have n1_ := Aside0.mk (hb)
                                  have n2_ := Aside0.mk (ho)
                                  clear HO185
                                  clear HB
                                  clear HO_3
                                  have HO185 := n0_
                                  have HB := n1_
                                  have HO188 := n2_
                                  clear n0_ n1_ n2_
                                  clear ho hb hg hat
                                  refine hK.out _ _ trivial (fun hHeld => ?_)
                                  clear hK K
                                  refine norm_ (a' := ?_) ?_ ?_
                                  rotate_left
                                  · show Act.put _ (some 23) _ = _
                                    simp only [Act.put, List.setIfInBounds_toArray, List.set_cons_zero, List.set_cons_succ, i64_w, i32_w]
                                    rfl
                                  refine pure_ (i := 9) (N := some 3) (v := ?_) (a' := ?_) #[true, true, true, true, true, true, true, true, true, true] rfl rfl (any_of HT_.out (by kernel_rfl)) (fun _ _ _ h => h) (Or.inl ⟨by rfl, ?_⟩) ?_ ?_
                                  rotate_left
                                  · intro w'
                                    go_simp
                                    with_reducible rfl
                                  rotate_left
                                  · simp only [Act.put, List.setIfInBounds_toArray, List.set_cons_zero, List.set_cons_succ, i64_w, i32_w]
                                    rfl
                                  refine done_ (done_of HT_.out (by kernel_rfl)) ?_
                                  try go_wp2
                                  go_roundg kj7
                                  case measure => have := HK1.out; have := HJ7.out; omega
                                  case rel => exact ⟨(y186), (wrap64 (x9_1 + 1)), (by first | rfl | (simp; done) | (simp [*]; done)), H', ⟨by have := HK1.out; have := HJ7.out; omega⟩, ⟨by (with_reducible repeat (first | apply Kd.R_alloc | apply Kd.R_drewN | apply Kd.R_drew)); exact Kd.R_mono HO188.out (fun _ hk => trivial)⟩, ⟨by repeat (first | (with_reducible first | exact HB.out | apply below_alloc | apply pw_below_drewN | apply below_drew1) | exact HB.out)⟩⟩
                                · rw [if_neg c52] at H
                                  exact absurd H (by simp)
                              · rw [if_neg c50] at H
                                exact absurd H (by simp)
                            · rw [if_neg c49] at H
                              exact absurd H (by simp)
                          · rw [if_neg c47] at H
                            exact absurd H (by simp)
                        · rw [if_neg c46] at H
                          exact absurd H (by simp)
          · rw [if_neg c6] at H
            exact absurd H (by simp)
        · rw [if_neg c5] at H
          exact absurd H (by simp)
      · rw [if_neg c4] at H
        have c4b0 : decide (x9_1 < (a0.size : Int)) = false := decide_eq_false c4
        clear c4
        by_cases c58 : x3_1.length < 140737488355328
        · rw [if_pos c58] at H
          have LMc58 := Aside0.mk c58
          clear c58
          obtain ⟨y153, hy153⟩ : ∃ y_ : List Int, y_ = (x3_1 ++ [34]) := ⟨_, rfl⟩
          replace H : (some (strOfNums y153)) = some r := by first | (rw [hy153]; with_reducible exact H) | (have H2_ := (Option.bind_some _ _).symm.trans H; rw [hy153]; with_reducible exact H2_) | (have H2_ := (Option.bind_some _ _).symm.trans H; with_reducible exact H2_) | with_reducible exact H | (rw [hy153]; exact H) | exact H
          have Ny153 := Aside0.mk hy153
          clear hy153
          obtain rfl := Option.some.inj H
          go_wp2_with (first | ((with_reducible refine gate_builtin (b := .append) (xs := #[.tmp 59, .tmp 60]) rfl ?_); at_builtin; refine Kd.R_append (Kd.int .u8) (w0 := w) w.heap.size rfl (.tmp 59) (.tmp 60) 70 5 (.int .u8 0) 1 rfl Tryd.underlying70 info5 rfl (by decide) (by omega) u3 x3_1 34 [.int .u8 34] (fun _ => True) (fun _ => False) rfl rfl ?aP (fun _ hk => hk.elim) ?aF ?aO ?aB ?aS ?aL ?_; (case aP => exact rfl); (case aB => exact (by repeat (first | (with_reducible first | exact HB.out | apply below_alloc | apply pw_below_drewN | apply below_drew1) | exact HB.out))); (case aF => exact (fun _ _ => trivial)); (case aO => exact (by (with_reducible repeat (first | apply Kd.R_alloc | apply Kd.R_drewN | apply Kd.R_drew)); exact HO_3.out)); (case aS => exact (below_size (by repeat (first | (with_reducible first | exact HB.out | apply below_alloc | apply pw_below_drewN | apply below_drew1) | exact HB.out)))); (case aL => have := LMc58.out; omega); intro v154 w59 ho hb hg hat; rw [← Ny153.out] at ho; have n0_ := Aside0.mk (hb); have n1_ := Aside0.mk (ho); clear HB; clear HO_3; have HB := n0_; have HO155 := n1_; clear n0_ n1_; clear ho hb hg hat; have hcv60 := own_string (P := Tryd.prog) Tryd.underlying70 Tryd.underlying5 Tryd.underlying9 (Kd.own_of_R HO155.out)))
          go_ret
          exact ⟨by first | rfl | (simp [errW_none, errW_some] <;> rfl) | (simp [*, errW_none, errW_some] <;> rfl), by repeat (first | (with_reducible first | exact HB.out | apply below_alloc | apply pw_below_drewN | apply below_drew1) | exact HB.out)⟩
        · rw [if_neg c58] at H
          exact absurd H (by simp)
end Go.Proofs.YtaijoghpfobdbaaDoor.X
end
section
set_option linter.unusedVariables false
set_option linter.unusedSimpArgs false
namespace Go.Proofs.YtaijoghpfobdbaaDoor.L
open Go.Proofs.YtaijoghpfobdbaaDoor
def isD (b : UInt8) : Bool := G.dig (b.toNat : Int)
def isL (b : UInt8) : Bool := G.letr (b.toNat : Int)
def isW (b : UInt8) : Bool := isL b || isD b
def blank (b : UInt8) : Bool := decide (b.toNat = 32 ∨ b.toNat = 9 ∨ b.toNat = 10 ∨ b.toNat = 13)
def lead (p : UInt8 → Bool) : List UInt8 → Nat
  | [] => 0
  | b :: t => if p b then lead p t + 1 else 0
def sk : Bool → List UInt8 → Nat
  | _, [] => 0
  | false, b :: t => if blank b then sk false t + 1 else if b.toNat = 35 then sk true t + 1 else 0
  | true, b :: t => sk (b.toNat != 10) t + 1
def hexv (b : UInt8) : Option Nat :=
  if 48 ≤ b.toNat ∧ b.toNat ≤ 57 then some (b.toNat - 48)
  else if 97 ≤ b.toNat ∧ b.toNat ≤ 102 then some (b.toNat - 87)
  else if 65 ≤ b.toNat ∧ b.toNat ≤ 70 then some (b.toNat - 55) else none
def escx : List UInt8 → Option (UInt8 × Nat)
  | a :: b :: _ => match hexv a, hexv b with
    | some x, some y => some ((16 * x + y).toUInt8, 3)
    | _, _ => none
  | _ => none
def esc : List UInt8 → Option (UInt8 × Nat)
  | [] => none
  | c :: t => if c.toNat = 92 ∨ c.toNat = 34 then some (c, 1) else if c.toNat = 110 then some (10, 1) else if c.toNat = 116 then some (9, 1)
    else if c.toNat = 120 then escx t
    else none
structure Tk where
  kind : Nat
  text : List UInt8
  num : Nat
  len : Nat
inductive R where
  | ok (t : Tk)
  | bad (off : Nat) (e : Nat)
def tx (off : Nat) (acc : List UInt8) (l : List UInt8) : R :=
  match l with
  | [] => .bad 0 81
  | b :: t =>
    if b.toNat = 10 then .bad 0 81
    else if b.toNat = 34 then .ok ⟨3, acc, 0, off + 1⟩
    else if b.toNat = 92 then
      match esc t with
      | none => .bad off 82
      | some (c, n) => tx (off + n + 1) (acc ++ [c]) (t.drop n)
    else tx (off + 1) (acc ++ [b]) t
termination_by l.length
decreasing_by all_goals (simp only [List.length_cons, List.length_drop]; omega)
def marks : List Nat := [123, 125, 40, 41, 58, 59, 44, 61, 43, 45, 42]
def tok : List UInt8 → R
  | [] => .bad 0 0
  | b :: t =>
    if isL b then (if lead isW (b :: t) > 64 then .bad 0 111 else .ok ⟨1, (b :: t).take (lead isW (b :: t)), 0, lead isW (b :: t)⟩)
    else if isD b then (match G.numv 0 ((b :: t).take (lead isD (b :: t))) with
      | none => .bad 0 111
      | some x => .ok ⟨2, [], x, lead isD (b :: t)⟩)
    else if b.toNat = 34 then tx 1 [] t
    else if b.toNat ∈ marks then .ok ⟨4, [b], 0, 1⟩
    else .bad 0 80
theorem lead_le (p : UInt8 → Bool) (l : List UInt8) : lead p l ≤ l.length := by
  induction l with
  | nil => exact Nat.le_refl _
  | cons b t ih => simp only [lead, List.length_cons]; split <;> omega
theorem escx_le {l : List UInt8} {c : UInt8} {n : Nat} (h : escx l = some (c, n)) : n = 3 ∧ 2 ≤ l.length := by
  match l, h with
  | a :: b :: t, h =>
    rw [escx] at h
    split at h
    · simp only [Option.some.injEq, Prod.mk.injEq] at h; exact ⟨h.2.symm, by simp only [List.length_cons]; omega⟩
    · cases h
theorem esc_le {l : List UInt8} {c : UInt8} {n : Nat} (h : esc l = some (c, n)) : 1 ≤ n ∧ n ≤ l.length := by
  cases l with
  | nil => simp [esc] at h
  | cons a t =>
    rw [esc] at h
    split at h
    · simp at h; simp; omega
    split at h
    · simp at h; simp; omega
    split at h
    · simp at h; simp; omega
    split at h
    · have := escx_le h; simp only [List.length_cons]; omega
    · simp at h
theorem tx_len {off : Nat} {acc l : List UInt8} {t : Tk} (h : tx off acc l = .ok t) : off + 1 ≤ t.len ∧ t.len ≤ off + l.length := by
  induction off, acc, l using tx.induct generalizing t with
  | case1 off acc => rw [tx] at h; cases h
  | case2 off acc b t' hb => rw [tx, if_pos hb] at h; cases h
  | case3 off acc b t' hb h34 => rw [tx, if_neg hb, if_pos h34] at h; cases h; simp only [List.length_cons]; omega
  | case4 off acc b t' hb h34 h92 he => rw [tx, if_neg hb, if_neg h34, if_pos h92, he] at h; cases h
  | case5 off acc b t' hb h34 h92 c n he ih =>
    rw [tx, if_neg hb, if_neg h34, if_pos h92, he] at h
    have := ih h; have := esc_le he
    rw [List.length_drop] at *; simp only [List.length_cons]; omega
  | case6 off acc b t' hb h34 h92 ih =>
    rw [tx, if_neg hb, if_neg h34, if_neg h92] at h
    have := ih h; simp only [List.length_cons]; omega
theorem lead_pos {p : UInt8 → Bool} {b : UInt8} {t : List UInt8} (h : p b = true) : 1 ≤ lead p (b :: t) := by
  rw [lead, if_pos h]; omega
theorem tok_len {l : List UInt8} {t : Tk} (h : tok l = .ok t) : 1 ≤ t.len ∧ t.len ≤ l.length := by
  cases l with
  | nil => cases h
  | cons b r =>
    have l1 := lead_le isW (b :: r)
    have l2 := lead_le isD (b :: r)
    rw [tok] at h
    split at h
    · rename_i hb
      have := @lead_pos isW b r (by unfold isW; rw [hb]; rfl)
      split at h
      · cases h
      · cases h; exact ⟨this, l1⟩
    split at h
    · rename_i hb
      have := @lead_pos isD b r hb
      split at h
      · cases h
      · cases h; exact ⟨this, l2⟩
    split at h
    · have := tx_len h; simp only [List.length_cons]; omega
    split at h
    · cases h; simp
    · cases h
structure Tok where
  kind : Nat
  text : List UInt8
  num : Nat
  at' : Nat
  fin : Nat
inductive LR where
  | toks (l : List Tok)
  | bad (at' : Nat) (e : Nat)
def LR.push (t : Tok) : LR → LR
  | .toks l => .toks (t :: l)
  | .bad a e => .bad a e
def Tk.at_ (t : Tk) (o : Nat) : Tok := ⟨t.kind, t.text, t.num, o, o + t.len⟩
theorem sk_le (r : Bool) (l : List UInt8) : sk r l ≤ l.length := by
  induction l generalizing r with
  | nil => cases r <;> exact Nat.le_refl _
  | cons b t ih =>
    have h1 := ih false; have h2 := ih true; have h3 := ih (b.toNat != 10)
    cases r
    · rw [sk, List.length_cons]; split
      · omega
      · split <;> omega
    · rw [sk, List.length_cons]; omega
def lx (off : Nat) (l : List UInt8) : LR :=
  if hz : sk false l = l.length then .toks [⟨0, [], 0, off + l.length, off + l.length⟩]
  else match ht : tok (l.drop (sk false l)) with
    | .bad a e => .bad (off + sk false l + a) e
    | .ok t => (lx (off + sk false l + t.len) (l.drop (sk false l + t.len))).push (t.at_ (off + sk false l))
termination_by l.length
decreasing_by
  have h1 := tok_len ht
  have h2 := sk_le false l
  rw [List.length_drop] at h1 ⊢; omega
theorem lx_end {off : Nat} {l : List UInt8} (h : sk false l = l.length) : lx off l = .toks [⟨0, [], 0, off + l.length, off + l.length⟩] := by
  rw [lx, dif_pos h]
theorem lx_bad {off : Nat} {l : List UInt8} {a e : Nat} (h : sk false l ≠ l.length) (ht : tok (l.drop (sk false l)) = .bad a e) : lx off l = .bad (off + sk false l + a) e := by
  rw [lx, dif_neg h]; split
  · rename_i h2; rw [ht] at h2; cases h2; rfl
  · rename_i h2; rw [ht] at h2; cases h2
theorem lx_ok {off : Nat} {l : List UInt8} {t : Tk} (h : sk false l ≠ l.length) (ht : tok (l.drop (sk false l)) = .ok t) : lx off l = (lx (off + sk false l + t.len) (l.drop (sk false l + t.len))).push (t.at_ (off + sk false l)) := by
  rw [lx, dif_neg h]; split
  · rename_i h2; rw [ht] at h2; cases h2
  · rename_i h2; rw [ht] at h2; cases h2; rfl
def Lex (l : List UInt8) : LR := if l.length > 1048576 then .bad 0 2 else lx 0 l
def Name (l : List UInt8) : Bool := match l with
  | [] => false
  | b :: t => decide (l.length ≤ 64) && isL b && decide (lead isW l = l.length)
def hx (n : Nat) : UInt8 := (if n < 10 then 48 + n else 87 + n).toUInt8
def qb (b : UInt8) : List UInt8 :=
  if b.toNat = 92 ∨ b.toNat = 34 then [92, b] else if b.toNat = 10 then [92, 110] else if b.toNat = 9 then [92, 116]
  else if 32 ≤ b.toNat ∧ b.toNat ≤ 126 then [b] else [92, 120, hx (b.toNat / 16), hx (b.toNat % 16)]
def qs : List UInt8 → List UInt8
  | [] => []
  | b :: t => qb b ++ qs t
def Quote (l : List UInt8) : List UInt8 := 34 :: (qs l ++ [34])
end Go.Proofs.YtaijoghpfobdbaaDoor.L
end
section
set_option linter.unusedVariables false
set_option linter.unusedSimpArgs false
namespace Go.Proofs.YtaijoghpfobdbaaDoor.L
open Go.Proofs.YtaijoghpfobdbaaDoor
def gs : Bool → List UInt8 → Option Bool
  | r, [] => some r
  | false, b :: t => if blank b then gs false t else if b.toNat = 35 then gs true t else none
  | true, b :: t => gs (b.toNat != 10) t
theorem gs_sk {r q : Bool} {g m : List UInt8} (h : gs r g = some q) : sk r (g ++ m) = g.length + sk q m := by
  induction g generalizing r with
  | nil => rw [gs] at h; cases h; simp
  | cons b t ih =>
    cases r
    · rw [gs] at h
      simp only [List.cons_append, sk, List.length_cons]
      split at h
      · rename_i h1; rw [if_pos h1, ih h]; omega
      · rename_i h1; rw [if_neg h1]
        split at h
        · rename_i h2; rw [if_pos h2, ih h]; omega
        · cases h
    · rw [gs] at h
      simp only [List.cons_append, sk, List.length_cons]
      rw [ih h]; omega
theorem tok_blank {b : UInt8} {t : List UInt8} (h : blank b = true ∨ b.toNat = 35) : tok (b :: t) = .bad 0 80 := by
  have hb : b.toNat = 32 ∨ b.toNat = 9 ∨ b.toNat = 10 ∨ b.toNat = 13 ∨ b.toNat = 35 := by
    rcases h with h | h
    · have := of_decide_eq_true h; omega
    · omega
  have h1 : isL b = false := decide_eq_false (by omega)
  have h2 : isD b = false := decide_eq_false (by omega)
  rw [tok, if_neg (by rw [h1]; decide), if_neg (by rw [h2]; decide), if_neg (by omega), if_neg]
  unfold marks
  simp only [List.mem_cons, List.not_mem_nil, or_false]
  omega
theorem tok_sk {m : List UInt8} {t : Tk} (h : tok m = .ok t) : sk false m = 0 := by
  cases m with
  | nil => rfl
  | cons b m =>
    by_cases h1 : blank b = true ∨ b.toNat = 35
    · rw [tok_blank h1] at h; cases h
    · rw [not_or] at h1
      rw [sk, if_neg h1.1, if_neg h1.2]
theorem lx_mk {off : Nat} {g w r : List UInt8} {t : Tk} (hg : gs false g = some false) (ht : tok (w ++ r) = .ok t) (hw : w.length = t.len) :
    lx off (g ++ (w ++ r)) = (lx (off + g.length + w.length) r).push (t.at_ (off + g.length)) := by
  have hl := tok_len ht
  have e : sk false (g ++ (w ++ r)) = g.length := by rw [gs_sk hg, tok_sk ht]; rfl
  have e2 : (g ++ (w ++ r)).drop (sk false (g ++ (w ++ r))) = w ++ r := by rw [e, List.drop_left]
  rw [lx_ok (t := t) (by rw [e]; simp only [List.length_append] at *; omega) (by rw [e2]; exact ht), e]
  congr 1
  rw [← hw]
  congr 1
  rw [← List.append_assoc, ← List.length_append, List.drop_left]
end Go.Proofs.YtaijoghpfobdbaaDoor.L
end
section
set_option linter.unusedVariables false
set_option linter.unusedSimpArgs false
namespace Go.Proofs.YtaijoghpfobdbaaDoor.L
open Go.Proofs.YtaijoghpfobdbaaDoor
def stripT (t : Tok) : Nat × List UInt8 × Nat × Nat := (t.kind, t.text, t.num, t.fin - t.at')
def st : LR → Option (List (Nat × List UInt8 × Nat × Nat))
  | .toks l => some (l.map stripT)
  | .bad _ _ => none
theorem lx_alone {w : List UInt8} {t : Tk} (h : tok w = .ok t) (hw : w.length = t.len) : lx 0 w = .toks [⟨t.kind, t.text, t.num, 0, t.len⟩, ⟨0, [], 0, t.len, t.len⟩] := by
  have := @lx_mk 0 [] w [] t rfl (by rw [List.append_nil]; exact h) hw
  rw [List.append_nil, List.nil_append] at this
  rw [this, lx_end rfl]
  simp [LR.push, Tk.at_, hw]
theorem qb_len (b : UInt8) : 1 ≤ (qb b).length ∧ (qb b).length ≤ 4 := by unfold qb; split; simp; split; simp; split; simp; split <;> simp
theorem qs_len (s : List UInt8) : s.length ≤ (qs s).length ∧ (qs s).length ≤ 4 * s.length := by
  induction s with
  | nil => simp [qs]
  | cons b t ih => have := qb_len b; rw [qs, List.length_append, List.length_cons]; omega
end Go.Proofs.YtaijoghpfobdbaaDoor.L
end
section
set_option linter.unusedVariables false
set_option linter.unusedSimpArgs false
namespace Go.Proofs.YtaijoghpfobdbaaDoor.T
open Go.RowKit Go.Proofs.YtaijoghpfobdbaaDoor Go.Proofs.YtaijoghpfobdbaaDoor.X Go.Proofs.YtaijoghpfobdbaaDoor.L Go.Proofs.YtaijoghpfobdbaaDoorW.PrintWords Go.Proofs.YtaijoghpfobdbaaDoorW.PrintLast Go.Proofs.YtaijoghpfobdbaaDoorW.PrintMore
theorem size_len (s : ByteArray) : s.size = s.data.toList.length := (data_length s).symm
theorem ext_list (s : ByteArray) (i j : Nat) : (s.extract i j).data.toList = (s.data.toList.drop i).take (j - i) := by
  rw [ByteArray.data_extract, Array.toList_extract, List.extract_eq_take_drop]
def ba (l : List UInt8) : ByteArray := ⟨l.toArray⟩
theorem ba_list (l : List UInt8) : (ba l).data.toList = l := rfl
theorem ba_of (s : ByteArray) : ba s.data.toList = s := rfl
theorem ba_eq {s : ByteArray} {l : List UInt8} (h : s.data.toList = l) : s = ba l := by rw [← h, ba_of]
theorem ba_ext (s : ByteArray) (i j : Nat) : s.extract i j = ba ((s.data.toList.drop i).take (j - i)) := ba_eq (ext_list s i j)
theorem w64s {x : Int} (h0 : -4611686018427387904 ≤ x) (h1 : x ≤ 4611686018427387904) : wrap64 x = x := by unfold wrap64; omega
theorem w1 {i : Nat} (n : Nat) (h : i + n ≤ 4611686018427387904) : wrap64 ((i : Int) + (n : Int)) = ((i + n : Nat) : Int) := by
  rw [w64s (by omega) (by omega)]; rfl
theorem drop_len {s : ByteArray} {i : Nat} {l : List UInt8} (h : s.data.toList.drop i = l) (hi : i ≤ s.size) : s.size = i + l.length := by
  rw [← h, List.length_drop, ← size_len]; omega
theorem drop_next {s : ByteArray} {i : Nat} {b : UInt8} {t : List UInt8} (h : s.data.toList.drop i = b :: t) : s.data.toList.drop (i + 1) = t := by
  rw [← List.drop_drop, h]; rfl
theorem drop_lt {s : ByteArray} {i : Nat} {b : UInt8} {t : List UInt8} (h : s.data.toList.drop i = b :: t) : i < s.size := by
  rw [size_len]
  have := congrArg List.length h
  rw [List.length_drop, List.length_cons] at this; omega
theorem bt_drop {s : ByteArray} {i : Nat} {b : UInt8} {t : List UInt8} (h : s.data.toList.drop i = b :: t) : bt s (i : Int) = (b.toNat : Int) := by
  have hi := drop_lt h
  have h2 : i < s.data.toList.length := by rw [← size_len]; exact hi
  have e := List.drop_eq_getElem_cons h2
  rw [h] at e
  injection e with e1 e2
  unfold bt
  rw [dif_pos (show ((i : Int)).toNat < s.size by rw [Int.toNat_natCast]; exact hi), e1]
  congr 2
theorem indexByte_cons (b : UInt8) (l : List UInt8) (c : UInt8) : Lib.indexByte (b :: l) c = if b == c then 0 else if Lib.indexByte l c == -1 then -1 else Lib.indexByte l c + 1 := rfl
theorem nl_sk (l : List UInt8) : (Lib.indexByte l 10 = -1 ∧ sk true l = l.length) ∨ ∃ n : Nat, Lib.indexByte l 10 = (n : Int) ∧ n < l.length ∧ sk true l = n + sk false (l.drop n) ∧ (l.drop n).head? = some 10 := by
  induction l with
  | nil => exact .inl ⟨rfl, rfl⟩
  | cons b t ih =>
    rw [indexByte_cons]
    by_cases hb : b = 10
    · subst hb
      exact .inr ⟨0, rfl, by simp, by rw [sk, List.drop_zero, sk, if_pos (by decide)]; show sk false t + 1 = 0 + (sk false t + 1); omega, rfl⟩
    · have h1 : (b == 10) = false := by simpa using hb
      have h2 : (b.toNat != 10) = true := by
        rw [bne_iff_ne]; intro h; exact hb (UInt8.toNat_inj.1 h)
      rw [h1, sk, h2]
      rcases ih with ⟨i1, i2⟩ | ⟨n, i1, i2, i3, i4⟩
      · exact .inl ⟨by rw [i1]; rfl, by rw [i2]; rfl⟩
      · refine .inr ⟨n + 1, ?_, by simp only [List.length_cons]; omega, by rw [i3, List.drop_succ_cons]; omega, by rw [List.drop_succ_cons]; exact i4⟩
        rw [i1]
        rw [if_neg (by decide), if_neg (by rw [beq_iff_eq]; omega)]
        rfl
theorem skip_ev (s : ByteArray) (hs : s.size ≤ 70368744177664) : ∀ (d i : Nat), s.size - i ≤ d → i ≤ s.size → Ev (fun k => lex_skip.l0 k s (i : Int)) ((i + sk false (s.data.toList.drop i) : Nat) : Int) := by
  intro d
  induction d with
  | zero =>
    intro i hd hi
    obtain rfl : i = s.size := by omega
    refine Ev.step (fun k => by simp only [lex_skip.l0]; rfl) ?_
    have e : s.data.toList.drop s.size = [] := List.drop_of_length_le (by rw [← size_len]; omega)
    simp only [Int.lt_irrefl, if_false, e, sk, Nat.add_zero]
    exact Ev.now _
  | succ d ih =>
    intro i hd hi
    cases hl : s.data.toList.drop i with
    | nil =>
      have := drop_len hl hi
      simp only [List.length_nil] at this
      have := ih i (by omega) hi
      rw [hl] at this; exact this
    | cons b t =>
      have hlt := drop_lt hl
      have hbt := bt_drop hl
      have hnx := drop_next hl
      have ihn := ih (i + 1) (by omega) (by omega)
      rw [hnx] at ihn
      have W : wrap64 ((i : Int) + 1) = ((i + 1 : Nat) : Int) := w1 1 (by omega)
      refine Ev.step (fun k => by simp only [lex_skip.l0]; rfl) ?_
      simp only [if_pos (show (i : Int) < (s.size : Int) by omega), if_pos (show (0 : Int) ≤ (i : Int) by omega), hbt]
      have hj : L.blank b = true → Ev (fun k => lex_skip.j1 k s (i : Int) (b.toNat : Int) true) ((i + sk false (b :: t) : Nat) : Int) := by
        intro hb
        refine Ev.step (fun k => by simp only [lex_skip.j1]; rfl) ?_
        simp only [if_true, W]
        rw [sk, if_pos hb, show i + (sk false t + 1) = i + 1 + sk false t by omega]
        exact ihn
      by_cases h1 : b.toNat = 32
      · simp only [if_pos (show (b.toNat : Int) = 32 by omega), show ((b.toNat : Int) == 32) = true by rw [beq_iff_eq]; omega]; exact hj (by unfold L.blank; rw [h1]; rfl)
      by_cases h2 : b.toNat = 9
      · simp only [if_neg (show ¬ (b.toNat : Int) = 32 by omega), if_pos (show (b.toNat : Int) = 9 by omega), show ((b.toNat : Int) == 9) = true by rw [beq_iff_eq]; omega]; exact hj (by unfold L.blank; rw [h2]; rfl)
      by_cases h3 : b.toNat = 10
      · simp only [if_neg (show ¬ (b.toNat : Int) = 32 by omega), if_neg (show ¬ (b.toNat : Int) = 9 by omega), if_pos (show (b.toNat : Int) = 10 by omega), show ((b.toNat : Int) == 10) = true by rw [beq_iff_eq]; omega]; exact hj (by unfold L.blank; rw [h3]; rfl)
      by_cases h4 : b.toNat = 13
      · simp only [if_neg (show ¬ (b.toNat : Int) = 32 by omega), if_neg (show ¬ (b.toNat : Int) = 9 by omega), if_neg (show ¬ (b.toNat : Int) = 10 by omega), show ((b.toNat : Int) == 13) = true by rw [beq_iff_eq]; omega]; exact hj (by unfold L.blank; rw [h4]; rfl)
      rw [show ((b.toNat : Int) == 13) = false by rw [beq_eq_false_iff_ne]; omega]
      simp only [if_neg (show ¬ (b.toNat : Int) = 32 by omega), if_neg (show ¬ (b.toNat : Int) = 9 by omega), if_neg (show ¬ (b.toNat : Int) = 10 by omega)]
      have hnb : L.blank b = false := decide_eq_false (by omega)
      refine Ev.step (fun k => by simp only [lex_skip.j1]; rfl) ?_
      rw [sk, hnb]
      simp only [Bool.false_eq_true, if_false]
      by_cases h5 : b.toNat = 35
      · have hix : strings_IndexByte.f (s.extract ((i : Int)).toNat s.size) 10 = some (Lib.indexByte (b :: t) 10) := by
          unfold strings_IndexByte.f
          rw [ext_list, Int.toNat_natCast, hl, List.take_of_length_le (by have := drop_len hl hi; omega)]
          rfl
        have hb10 : (b == 10) = false := by
          rw [beq_eq_false_iff_ne]; intro h; rw [h] at h5; exact absurd h5 (by decide)
        rw [if_pos h5]
        simp only [if_pos (show (b.toNat : Int) = 35 by omega), if_pos (show (0 : Int) ≤ (i : Int) by omega), if_pos (show (i : Int) ≤ (s.size : Int) by omega), hix, Option.bind_some]
        rw [indexByte_cons, hb10]
        have hsz := drop_len hl hi
        rw [List.length_cons] at hsz
        rcases nl_sk t with ⟨i1, i2⟩ | ⟨n, i1, i2, i3, i4⟩
        · rw [i1, i2]
          simp only [if_pos (show ((-1 : Int)) < 0 by omega), beq_self_eq_true, if_true, Bool.false_eq_true, if_false]
          rw [show ((i + (t.length + 1) : Nat) : Int) = (s.size : Int) by omega]
          exact Ev.now _
        · have hne : ((n : Int) == -1) = false := by rw [beq_eq_false_iff_ne]; omega
          have W2 : wrap64 ((i : Int) + ((n : Int) + 1)) = ((i + (n + 1) : Nat) : Int) := by rw [w64s (by omega) (by omega)]; rfl
          have ih2 := ih (i + (n + 1)) (by omega) (by omega)
          rw [show s.data.toList.drop (i + (n + 1)) = t.drop n by rw [show i + (n + 1) = i + 1 + n by omega, ← List.drop_drop, hnx]] at ih2
          rw [i1, i3]
          simp only [hne, Bool.false_eq_true, if_false, if_neg (show ¬ ((n : Int) + 1) < 0 by omega), W2]
          rw [show i + (n + sk false (t.drop n) + 1) = i + (n + 1) + sk false (t.drop n) by omega]
          exact ih2
      · rw [if_neg h5]
        simp only [if_neg (show ¬ (b.toNat : Int) = 35 by omega), Nat.add_zero]
        exact Ev.now _
def hexI (b : UInt8) : Int := match hexv b with | some n => (n : Int) | none => -1
theorem isD_eq (b : UInt8) : lex_isDigit.f (b.toNat : Int) = some (isD b) := by
  unfold lex_isDigit.f isD G.dig
  by_cases h : (b.toNat : Int) ≥ 48
  · rw [if_pos h]; congr 2; simp; omega
  · rw [if_neg h]; congr 1; symm; apply decide_eq_false; omega
theorem isL_eq (b : UInt8) : lex_isLetter.f (b.toNat : Int) = some (isL b) := by
  unfold lex_isLetter.f isL G.letr
  have e : ∀ x : Bool, (x = true ↔ ((97 ≤ (b.toNat : Int) ∧ (b.toNat : Int) ≤ 122) ∨ (65 ≤ (b.toNat : Int) ∧ (b.toNat : Int) ≤ 90) ∨ (b.toNat : Int) = 95)) → some x = some (decide ((97 ≤ (b.toNat : Int) ∧ (b.toNat : Int) ≤ 122) ∨ (65 ≤ (b.toNat : Int) ∧ (b.toNat : Int) ≤ 90) ∨ (b.toNat : Int) = 95)) := fun x h => by rw [Option.some.injEq, Bool.eq_iff_iff, decide_eq_true_iff]; exact h
  repeat' split
  all_goals refine e _ ?_
  all_goals first | (simp only [true_iff]; omega) | (rw [beq_iff_eq]; omega)
theorem isD_iff (b : UInt8) : isD b = true ↔ (48 ≤ b.toNat ∧ b.toNat ≤ 57) := by
  unfold isD G.dig; rw [decide_eq_true_iff]; omega
theorem isD_not {b : UInt8} (h : ¬ (48 ≤ b.toNat ∧ b.toNat ≤ 57)) : isD b = false := by
  rw [← Bool.not_eq_true, isD_iff]; exact h
theorem hex_ev (b : UInt8) : Ev (fun k => lex_hex.f k (b.toNat : Int)) (hexI b) := by
  unfold lex_hex.f hexI hexv
  simp only [isD_eq, Option.bind_some]
  by_cases h1 : 48 ≤ b.toNat ∧ b.toNat ≤ 57
  · simp only [(isD_iff b).2 h1, if_true, if_pos h1]
    rw [show (((b.toNat : Int) - 48) % 256) = ((b.toNat - 48 : Nat) : Int) by omega]
    exact Ev.now _
  · simp only [isD_not h1, Bool.false_eq_true, if_false, if_neg h1]
    by_cases h2 : 97 ≤ b.toNat ∧ b.toNat ≤ 102
    · simp only [if_pos h2, if_pos (show (b.toNat : Int) ≥ 97 by omega)]
      refine Ev.step (fun k => by simp only [lex_hex.j0]; rfl) ?_
      simp only [decide_eq_true (show (b.toNat : Int) ≤ 102 by omega), if_true]
      rw [show (((b.toNat : Int) - 97) % 256) + 10 = ((b.toNat - 87 : Nat) : Int) by omega]
      exact Ev.now _
    · simp only [if_neg h2]
      have key : Ev (fun k => lex_hex.j0 k (b.toNat : Int) false) (match (if 65 ≤ b.toNat ∧ b.toNat ≤ 70 then some (b.toNat - 55) else none : Option Nat) with | some n => (n : Int) | none => -1) := by
        refine Ev.step (fun k => by simp only [lex_hex.j0]; rfl) ?_
        simp only [Bool.false_eq_true, if_false]
        by_cases h3 : 65 ≤ b.toNat
        · simp only [if_pos (show (b.toNat : Int) ≥ 65 by omega)]
          by_cases h4 : b.toNat ≤ 70
          · simp only [if_pos (show (b.toNat : Int) ≤ 70 by omega), if_pos (And.intro h3 h4)]
            rw [show (((b.toNat : Int) - 65) % 256) + 10 = ((b.toNat - 55 : Nat) : Int) by omega]
            exact Ev.now _
          · simp only [if_neg (show ¬ (b.toNat : Int) ≤ 70 by omega), if_neg (show ¬ (65 ≤ b.toNat ∧ b.toNat ≤ 70) by omega)]
            exact Ev.now _
        · simp only [if_neg (show ¬ (b.toNat : Int) ≥ 65 by omega), if_neg (show ¬ (65 ≤ b.toNat ∧ b.toNat ≤ 70) by omega)]
          exact Ev.now _
      by_cases h5 : (b.toNat : Int) ≥ 97
      · simp only [if_pos h5, decide_eq_false (show ¬ (b.toNat : Int) ≤ 102 by omega)]; exact key
      · simp only [if_neg h5]; exact key
theorem hexv_lt {b : UInt8} {x : Nat} (h : hexv b = some x) : x < 16 := by
  unfold hexv at h
  split at h
  · cases h; omega
  split at h
  · cases h; omega
  split at h
  · cases h; omega
  · cases h
theorem u8_nat {n : Nat} (h : n < 256) : ((n.toUInt8).toNat : Int) = (n : Int) := by
  rw [show n.toUInt8 = UInt8.ofNat n from rfl, UInt8.toNat_ofNat']; omega
def escOut (p : Nat) (t : List UInt8) : Int × Int := match esc t with | some (c, n) => ((c.toNat : Int), ((p + 1 + n : Nat) : Int)) | none => (0, 0)
theorem escape_ev (s : ByteArray) (hs : s.size ≤ 70368744177664) (p : Nat) (b : UInt8) (t : List UInt8) (hp : s.data.toList.drop p = b :: t) : Ev (fun k => lex_escape.f k s (p : Int)) (escOut p t) := by
  have hlt := drop_lt hp
  have hn1 := drop_next hp
  have hsz := drop_len hp (by omega)
  rw [List.length_cons] at hsz
  have W1 : wrap64 ((p : Int) + 1) = ((p + 1 : Nat) : Int) := w1 1 (by omega)
  have W2 : wrap64 ((p : Int) + 2) = ((p + 2 : Nat) : Int) := w1 2 (by omega)
  have W3 : wrap64 ((p : Int) + 3) = ((p + 3 : Nat) : Int) := w1 3 (by omega)
  have W4 : wrap64 ((p : Int) + 4) = ((p + 4 : Nat) : Int) := w1 4 (by omega)
  unfold lex_escape.f escOut
  simp only [W1]
  cases t with
  | nil =>
    simp only [List.length_nil] at hsz
    simp only [if_pos (show ((p + 1 : Nat) : Int) ≥ (s.size : Int) by omega), esc]
    exact Ev.now _
  | cons c t =>
    have hb1 := bt_drop hn1
    have hn2 := drop_next hn1
    simp only [List.length_cons] at hsz
    simp only [if_neg (show ¬ ((p + 1 : Nat) : Int) ≥ (s.size : Int) by omega), if_pos (show (0 : Int) ≤ ((p + 1 : Nat) : Int) by omega), if_pos (show ((p + 1 : Nat) : Int) < (s.size : Int) by omega), hb1, esc]
    by_cases h1 : c.toNat = 92 ∨ c.toNat = 34
    · have key : Ev (fun k => lex_escape.j0 k s (p : Int) (c.toNat : Int) true) ((c.toNat : Int), ((p + 1 + 1 : Nat) : Int)) := by
        refine Ev.step (fun k => by simp only [lex_escape.j0]; rfl) ?_
        simp only [if_true, W1, W2, if_pos (show (0 : Int) ≤ ((p + 1 : Nat) : Int) by omega), if_pos (show ((p + 1 : Nat) : Int) < (s.size : Int) by omega), hb1]
        exact Ev.now _
      simp only [if_pos h1]
      by_cases h2 : c.toNat = 92
      · simp only [if_pos (show (c.toNat : Int) = 92 by omega), show ((c.toNat : Int) == 92) = true by rw [beq_iff_eq]; omega]; exact key
      · simp only [if_neg (show ¬ (c.toNat : Int) = 92 by omega), show ((c.toNat : Int) == 34) = true by rw [beq_iff_eq]; omega]; exact key
    · have h92 : ¬ (c.toNat : Int) = 92 := by omega
      have h34 : ((c.toNat : Int) == 34) = false := by rw [beq_eq_false_iff_ne]; omega
      simp only [if_neg h1, if_neg h92, h34]
      refine Ev.step (fun k => by simp only [lex_escape.j0]; rfl) ?_
      simp only [Bool.false_eq_true, if_false, W2, W3]
      by_cases h2 : c.toNat = 110
      · simp only [if_pos h2, if_pos (show (c.toNat : Int) = 110 by omega)]; exact Ev.now _
      simp only [if_neg h2, if_neg (show ¬ (c.toNat : Int) = 110 by omega)]
      by_cases h3 : c.toNat = 116
      · simp only [if_pos h3, if_pos (show (c.toNat : Int) = 116 by omega)]; exact Ev.now _
      simp only [if_neg h3, if_neg (show ¬ (c.toNat : Int) = 116 by omega)]
      by_cases h4 : c.toNat = 120
      · simp only [if_pos h4, if_pos (show (c.toNat : Int) = 120 by omega)]
        have jF : Ev (fun k => lex_escape.j1 k s (p : Int) false) ((0 : Int), (0 : Int)) := by
          refine Ev.step (fun k => by simp only [lex_escape.j1]; rfl) ?_
          simp only [Bool.false_eq_true, if_false]; exact Ev.now _
        match t, hn2, hsz with
        | [], _, hsz =>
          simp only [List.length_nil] at hsz
          simp only [if_neg (show ¬ ((p + 3 : Nat) : Int) < (s.size : Int) by omega), escx]; exact jF
        | [a], _, hsz =>
          simp only [List.length_nil, List.length_cons] at hsz
          simp only [if_neg (show ¬ ((p + 3 : Nat) : Int) < (s.size : Int) by omega), escx]; exact jF
        | a :: e :: t', hn2, hsz =>
          simp only [List.length_cons] at hsz
          have hba := bt_drop hn2
          have hbe := bt_drop (drop_next hn2)
          simp only [if_pos (show ((p + 3 : Nat) : Int) < (s.size : Int) by omega), if_pos (show (0 : Int) ≤ ((p + 2 : Nat) : Int) by omega), if_pos (show ((p + 2 : Nat) : Int) < (s.size : Int) by omega), if_pos (show (0 : Int) ≤ ((p + 3 : Nat) : Int) by omega), escx]
          rw [show bt s ((p + 2 : Nat) : Int) = (a.toNat : Int) from hba, show bt s ((p + 3 : Nat) : Int) = (e.toNat : Int) from hbe]
          refine Ev.bind (hex_ev a) ?_
          have hea := hex_ev a
          have hee := hex_ev e
          unfold hexI at hea hee ⊢
          cases hx : hexv a with
          | none =>
            simp only [if_neg (show ¬ ((-1 : Int)) ≥ 0 by omega)]
            exact jF
          | some x =>
            simp only [if_pos (show (x : Int) ≥ 0 by omega)]
            rw [hx] at hea; simp only at hea
            refine Ev.bind hee ?_
            cases hy : hexv e with
            | none =>
              simp only [decide_eq_false (show ¬ ((-1 : Int)) ≥ 0 by omega)]
              exact jF
            | some y =>
              rw [hy] at hee; simp only at hee
              have lx := hexv_lt hx
              have ly := hexv_lt hy
              simp only [decide_eq_true (show (y : Int) ≥ 0 by omega)]
              refine Ev.step (fun k => by simp only [lex_escape.j1]; rfl) ?_
              simp only [if_true, W2, W3, W4, if_pos (show ((p + 3 : Nat) : Int) < (s.size : Int) by omega), if_pos (show (0 : Int) ≤ ((p + 2 : Nat) : Int) by omega), if_pos (show ((p + 2 : Nat) : Int) < (s.size : Int) by omega), if_pos (show (0 : Int) ≤ ((p + 3 : Nat) : Int) by omega)]
              rw [show bt s ((p + 2 : Nat) : Int) = (a.toNat : Int) from hba, show bt s ((p + 3 : Nat) : Int) = (e.toNat : Int) from hbe]
              refine Ev.bind hea ?_
              refine Ev.bind hee ?_
              rw [w64s (x := 16 * (x : Int)) (by omega) (by omega), w64s (x := 16 * (x : Int) + (y : Int)) (by omega) (by omega), u8_nat (show 16 * x + y < 256 by omega),
                show (16 * (x : Int) + (y : Int)) % 256 = ((16 * x + y : Nat) : Int) by omega]
              exact Ev.now _
      · simp only [if_neg h4, if_neg (show ¬ (c.toNat : Int) = 120 by omega)]; exact Ev.now _
def nums (l : List UInt8) : List Int := l.map fun b => (b.toNat : Int)
theorem nums_snoc (l : List UInt8) (b : UInt8) : nums l ++ [(b.toNat : Int)] = nums (l ++ [b]) := by unfold nums; simp
theorem nums_len (l : List UInt8) : (nums l).length = l.length := by unfold nums; simp
theorem strOf (l : List UInt8) : strOfNums (nums l) = ba l := by
  unfold strOfNums nums ba
  rw [List.map_map]
  congr 2
  conv => rhs; rw [← List.map_id l]
  apply List.map_congr_left
  intro b hb
  simp
def TokOut (i : Nat) : R → Int × ByteArray × Int × Int × Int × Int × Int → Prop
  | .ok t, p => p = ((t.kind : Int), ba t.text, (t.num : Int), (i : Int), ((i + t.len : Nat) : Int), 0, 0)
  | .bad a e, p => p.2.2.2.2.2.1 = ((i + a : Nat) : Int) ∧ p.2.2.2.2.2.2 = (e : Int) ∧ e ≠ 0
theorem text_ev (s : ByteArray) (hs : s.size ≤ 70368744177664) (i : Nat) : ∀ (d off : Nat) (acc : List UInt8), s.size - (i + off) ≤ d → i + off ≤ s.size → acc.length ≤ off →
    ∃ p, Ev (fun k => lex_text.l0 k s (i : Int) (nums acc) ((i + off : Nat) : Int)) p ∧ TokOut i (tx off acc (s.data.toList.drop (i + off))) p := by
  have bad : ∀ (off : Nat) (acc : List UInt8), Ev (fun k => lex_text.j1 k s (i : Int) (nums acc) ((i + off : Nat) : Int) false) ((0 : Int), (⟨#[]⟩ : ByteArray), (0 : Int), (0 : Int), (0 : Int), (i : Int), (81 : Int)) := by
    intro off acc
    refine Ev.step (fun k => by simp only [lex_text.j1]; rfl) ?_
    simp only [Bool.false_eq_true, if_false]; exact Ev.now _
  intro d
  induction d with
  | zero =>
    intro off acc hd hi ha
    have e : s.data.toList.drop (i + off) = [] := List.drop_of_length_le (by rw [← size_len]; omega)
    refine ⟨((0 : Int), (⟨#[]⟩ : ByteArray), (0 : Int), (0 : Int), (0 : Int), (i : Int), (81 : Int)), Ev.step (fun k => by simp only [lex_text.l0]; rfl) ?_, ?_⟩
    · simp only [if_neg (show ¬ ((i + off : Nat) : Int) < (s.size : Int) by omega)]; exact bad off acc
    · rw [e, tx]; exact ⟨by simp, rfl, by decide⟩
  | succ d ih =>
    intro off acc hd hi ha
    cases hl : s.data.toList.drop (i + off) with
    | nil =>
      have := drop_len hl hi
      simp only [List.length_nil] at this
      have := ih off acc (by omega) hi ha
      rw [hl] at this; exact this
    | cons b t =>
      have hlt := drop_lt hl
      have hbt := bt_drop hl
      have hnx := drop_next hl
      have hsz := drop_len hl hi
      rw [List.length_cons] at hsz
      rw [tx]
      by_cases h1 : b.toNat = 10
      · rw [if_pos h1]
        refine ⟨((0 : Int), (⟨#[]⟩ : ByteArray), (0 : Int), (0 : Int), (0 : Int), (i : Int), (81 : Int)), Ev.step (fun k => by simp only [lex_text.l0]; rfl) ?_, ?_⟩
        · simp only [if_pos (show ((i + off : Nat) : Int) < (s.size : Int) by omega), if_pos (show (0 : Int) ≤ ((i + off : Nat) : Int) by omega), hbt, show ((b.toNat : Int) != 10) = false by rw [bne_eq_false_iff_eq]; omega]; exact bad off acc
        · exact ⟨by simp, rfl, by decide⟩
      rw [if_neg h1]
      have st : ∀ p, Ev (fun k => if (b.toNat : Int) = 34 then some ((3 : Int), strOfNums (nums acc), (0 : Int), (i : Int), wrap64 (((i + off : Nat) : Int) + 1), (0 : Int), (0 : Int))
          else if (b.toNat : Int) = 92 then (lex_escape.f k s ((i + off : Nat) : Int)).bind fun bt108 => if bt108.2 = 0 then some ((0 : Int), (⟨#[]⟩ : ByteArray), (0 : Int), (0 : Int), (0 : Int), ((i + off : Nat) : Int), (82 : Int)) else if (nums acc).length < 140737488355328 then lex_text.l0 k s (i : Int) (nums acc ++ [bt108.1]) bt108.2 else none
          else if (nums acc).length < 140737488355328 then lex_text.l0 k s (i : Int) (nums acc ++ [(b.toNat : Int)]) (wrap64 (((i + off : Nat) : Int) + 1)) else none) p →
          Ev (fun k => lex_text.l0 k s (i : Int) (nums acc) ((i + off : Nat) : Int)) p := by
        intro p hp
        refine Ev.step (fun k => by simp only [lex_text.l0]; rfl) ?_
        simp only [if_pos (show ((i + off : Nat) : Int) < (s.size : Int) by omega), if_pos (show (0 : Int) ≤ ((i + off : Nat) : Int) by omega), hbt, show ((b.toNat : Int) != 10) = true by rw [bne_iff_ne]; omega]
        refine Ev.step (fun k => by simp only [lex_text.j1]; rfl) ?_
        simp only [if_true, if_pos (show ((i + off : Nat) : Int) < (s.size : Int) by omega), if_pos (show (0 : Int) ≤ ((i + off : Nat) : Int) by omega), hbt]
        exact hp
      have W : wrap64 (((i + off : Nat) : Int) + 1) = ((i + (off + 1) : Nat) : Int) := w1 (i := i + off) 1 (by omega)
      by_cases h2 : b.toNat = 34
      · rw [if_pos h2]
        refine ⟨((3 : Int), ba acc, (0 : Int), (i : Int), ((i + (off + 1) : Nat) : Int), (0 : Int), (0 : Int)), st _ ?_, ?_⟩
        · simp only [if_pos (show (b.toNat : Int) = 34 by omega), strOf, W]; exact Ev.now _
        · rfl
      rw [if_neg h2]
      by_cases h3 : b.toNat = 92
      · rw [if_pos h3]
        have he := escape_ev s hs (i + off) b t hl
        unfold escOut at he
        cases hx : esc t with
        | none =>
          rw [hx] at he
          refine ⟨((0 : Int), (⟨#[]⟩ : ByteArray), (0 : Int), (0 : Int), (0 : Int), ((i + off : Nat) : Int), (82 : Int)), st _ ?_, ?_⟩
          · simp only [if_neg (show ¬ (b.toNat : Int) = 34 by omega), if_pos (show (b.toNat : Int) = 92 by omega)]
            refine Ev.bind he ?_
            exact Ev.now _
          · exact ⟨rfl, rfl, by decide⟩
        | some q =>
          obtain ⟨c, n⟩ := q
          rw [hx] at he; simp only at he ⊢
          have hn := (esc_le hx).2
          obtain ⟨p, hp1, hp2⟩ := ih (off + n + 1) (acc ++ [c]) (by omega) (by omega) (by simp only [List.length_append, List.length_cons, List.length_nil]; omega)
          have hdr : s.data.toList.drop (i + (off + n + 1)) = t.drop n := by
            rw [show i + (off + n + 1) = (i + off) + 1 + n by omega, ← List.drop_drop, hnx]
          rw [hdr] at hp2
          refine ⟨p, st _ ?_, hp2⟩
          simp only [if_neg (show ¬ (b.toNat : Int) = 34 by omega), if_pos (show (b.toNat : Int) = 92 by omega)]
          refine Ev.bind he ?_
          simp only [if_neg (show ¬ ((i + off + 1 + n : Nat) : Int) = 0 by omega), if_pos (show (nums acc).length < 140737488355328 by rw [nums_len]; omega), nums_snoc]
          rw [show i + off + 1 + n = i + (off + n + 1) by omega]
          exact hp1
      · rw [if_neg h3]
        obtain ⟨p, hp1, hp2⟩ := ih (off + 1) (acc ++ [b]) (by omega) (by omega) (by simp only [List.length_append, List.length_cons, List.length_nil]; omega)
        rw [show i + (off + 1) = i + off + 1 by omega, hnx] at hp2
        refine ⟨p, st _ ?_, hp2⟩
        simp only [if_neg (show ¬ (b.toNat : Int) = 34 by omega), if_neg (show ¬ (b.toNat : Int) = 92 by omega), if_pos (show (nums acc).length < 140737488355328 by rw [nums_len]; omega), nums_snoc, W]
        exact hp1
theorem tw_lead (n : Nat) (p : UInt8 → Bool) (hp : ∀ b : UInt8, G.okb n (b.toNat : Int) = p b) (l : List UInt8) : G.tw n l = lead p l := by
  induction l with
  | nil => rfl
  | cons b t ih => rw [G.tw_cons, lead, hp b, ih]
theorem run_eq {n : Nat} {p : UInt8 → Bool} (hn : n = 80 ∨ n = 102 ∨ n = 79) (hp : ∀ b : UInt8, G.okb n (b.toNat : Int) = p b) (s : ByteArray) (hs : s.size ≤ 70368744177664) (i : Nat) (hi : i ≤ s.size) :
    lex_run.f s (i : Int) n = some ((i + lead p (s.data.toList.drop i) : Nat) : Int) := by
  unfold lex_run.f
  rw [if_pos ⟨by omega, by omega, by omega, hn⟩, Int.toNat_natCast, tw_lead n p hp]
theorem mark_iff (b : UInt8) : Lib.indexByte [123, 125, 40, 41, 58, 59, 44, 61, 43, 45, 42] b ≥ 0 ↔ b.toNat ∈ marks := by
  have key : ∀ (l : List UInt8) (c : UInt8), Lib.indexByte l c ≥ 0 ↔ c ∈ l := by
    intro l c
    induction l with
    | nil => simp [Lib.indexByte]
    | cons a t ih =>
      rw [indexByte_cons, List.mem_cons, ← ih]
      by_cases h : a = c
      · subst h; simp
      · have h1 : (a == c) = false := by simpa using h
        have h2 : ¬ c = a := fun e => h e.symm
        rw [h1]
        have := Lib.indexByte_ge t c
        by_cases h3 : Lib.indexByte t c = -1
        · rw [h3]; simp [h2]
        · have h4 : (Lib.indexByte t c == -1) = false := by simpa using h3
          rw [h4]
          simp only [Bool.false_eq_true, if_false, h2, false_or]
          omega
  rw [key]
  unfold marks
  simp only [List.mem_cons, List.not_mem_nil, or_false, ← UInt8.toNat_inj]
  rfl
theorem token_ev (s : ByteArray) (hs : s.size ≤ 70368744177664) (i : Nat) (b : UInt8) (t : List UInt8) (hl : s.data.toList.drop i = b :: t) : ∃ p, Ev (fun k => lex_token.f k s (i : Int)) p ∧ TokOut i (L.tok (s.data.toList.drop i)) p := by
  have hlt := drop_lt hl
  have hbt := bt_drop hl
  have hnx := drop_next hl
  have hsz := drop_len hl (by omega)
  rw [List.length_cons] at hsz
  have c1 : (0 : Int) ≤ (i : Int) := by omega
  have c2 : (i : Int) < (s.size : Int) := by omega
  have W : wrap64 ((i : Int) + 1) = ((i + 1 : Nat) : Int) := w1 1 (by omega)
  unfold lex_token.f
  simp only [if_pos c1, if_pos c2, hbt, isL_eq, isD_eq, Option.bind_some]
  rw [hl, L.tok]
  have lw := lead_le isW (b :: t)
  have ld := lead_le isD (b :: t)
  rw [List.length_cons] at lw ld
  by_cases h1 : isL b = true
  · have hr := run_eq (n := 79) (p := isW) (.inr (.inr rfl)) (fun b => rfl) s hs i (by omega)
    rw [hl] at hr
    have hx := ba_ext s i (i + lead isW (b :: t))
    rw [Nat.add_sub_cancel_left, hl] at hx
    have hxs : ((s.extract i (i + lead isW (b :: t))).size : Int) = ((lead isW (b :: t) : Nat) : Int) := by
      rw [hx, size_len, ba_list, List.length_take]; simp only [List.length_cons]; omega
    rw [if_pos h1]
    simp only [h1, if_true, hr, Option.bind_some, if_pos (show (i : Int) ≤ ((i + lead isW (b :: t) : Nat) : Int) by omega), if_pos (show ((i + lead isW (b :: t) : Nat) : Int) ≤ (s.size : Int) by omega), Int.toNat_natCast, hxs]
    by_cases h64 : lead isW (b :: t) > 64
    · rw [if_pos h64]
      simp only [if_pos (show ((lead isW (b :: t) : Nat) : Int) > 64 by omega)]
      exact ⟨_, Ev.now _, rfl, rfl, by decide⟩
    · rw [if_neg h64]
      simp only [if_neg (show ¬ ((lead isW (b :: t) : Nat) : Int) > 64 by omega)]
      exact ⟨_, Ev.now _, by rw [hx]; rfl⟩
  have h1' : isL b = false := by simpa using h1
  rw [if_neg h1]
  simp only [h1', Bool.false_eq_true, if_false]
  by_cases h2 : isD b = true
  · have hr := run_eq (n := 80) (p := isD) (.inl rfl) (fun b => rfl) s hs i (by omega)
    rw [hl] at hr
    have hx := ba_ext s i (i + lead isD (b :: t))
    rw [Nat.add_sub_cancel_left, hl] at hx
    rw [if_pos h2]
    have hnum : lex_number.f (s.extract i (i + lead isD (b :: t))) = some (match G.numv 0 ((b :: t).take (lead isD (b :: t))) with | some x => ((x : Int), true) | none => (0, false)) := by
      unfold lex_number.f
      rw [hx, ba_list, if_pos (by rw [size_len, ba_list, List.length_take]; omega)]
      cases G.numv 0 ((b :: t).take (lead isD (b :: t))) <;> rfl
    simp only [h2, if_true, hr, Option.bind_some, if_pos (show (i : Int) ≤ ((i + lead isD (b :: t) : Nat) : Int) by omega), if_pos (show ((i + lead isD (b :: t) : Nat) : Int) ≤ (s.size : Int) by omega), Int.toNat_natCast, hnum]
    cases G.numv 0 ((b :: t).take (lead isD (b :: t))) with
    | none => simp only [Bool.false_eq_true, if_false]; exact ⟨_, Ev.now _, rfl, rfl, by decide⟩
    | some x => simp only [if_true]; exact ⟨_, Ev.now _, rfl⟩
  have h2' : isD b = false := by simpa using h2
  rw [if_neg h2]
  simp only [h2', Bool.false_eq_true, if_false]
  by_cases h3 : b.toNat = 34
  · rw [if_pos h3]
    simp only [if_pos (show (b.toNat : Int) = 34 by omega)]
    obtain ⟨p, hp1, hp2⟩ := text_ev s hs i (s.size) 1 [] (by omega) (by omega) (by simp)
    rw [hnx] at hp2
    refine ⟨p, ?_, hp2⟩
    have hp3 : Ev (fun k => lex_text.f k s (i : Int)) p := Ev.congr (fun k => by unfold lex_text.f; rw [W]; rfl) hp1
    exact Ev.bind hp3 (Ev.now _)
  rw [if_neg h3]
  simp only [if_neg (show ¬ (b.toNat : Int) = 34 by omega)]
  have hix : strings_IndexByte.f (⟨#[123, 125, 40, 41, 58, 59, 44, 61, 43, 45, 42]⟩ : ByteArray) (b.toNat : Int) = some (Lib.indexByte [123, 125, 40, 41, 58, 59, 44, 61, 43, 45, 42] b) := by
    unfold strings_IndexByte.f
    rw [Int.toNat_natCast, show b.toNat.toUInt8 = b from UInt8.ofNat_toNat]
  simp only [hix, Option.bind_some]
  by_cases h4 : b.toNat ∈ marks
  · rw [if_pos h4]
    have hx := ba_ext s i (i + 1)
    rw [Nat.add_sub_cancel_left, hl] at hx
    simp only [if_pos ((mark_iff b).2 h4), W, if_pos (show (i : Int) ≤ ((i + 1 : Nat) : Int) by omega), if_pos (show ((i + 1 : Nat) : Int) ≤ (s.size : Int) by omega), Int.toNat_natCast, hx]
    exact ⟨_, Ev.now _, rfl⟩
  · rw [if_neg h4]
    simp only [if_neg (fun h => h4 ((mark_iff b).1 h))]
    exact ⟨_, Ev.now _, rfl, rfl, by decide⟩
end Go.Proofs.YtaijoghpfobdbaaDoor.T
end
section
set_option linter.unusedVariables false
set_option linter.unusedSimpArgs false
namespace Go.Proofs.YtaijoghpfobdbaaDoor.T
open Go.RowKit Go.Proofs.YtaijoghpfobdbaaDoor Go.Proofs.YtaijoghpfobdbaaDoor.X Go.Proofs.YtaijoghpfobdbaaDoor.L Go.Proofs.YtaijoghpfobdbaaDoorW.PrintWords Go.Proofs.YtaijoghpfobdbaaDoorW.PrintLast Go.Proofs.YtaijoghpfobdbaaDoorW.PrintMore
def toS (t : L.Tok) : S63 := ⟨(t.kind : Int), ba t.text, (t.num : Int), (t.at' : Int), (t.fin : Int)⟩
def outL (acc : List S63) : LR → List S63 × Int × Int
  | .toks l => (acc ++ l.map toS, 0, 0)
  | .bad a e => ([], (a : Int), (e : Int))
theorem outL_push (acc : List S63) (t : L.Tok) (r : LR) : outL acc (r.push t) = outL (acc ++ [toS t]) r := by
  cases r with
  | toks l => simp [LR.push, outL]
  | bad a e => rfl
theorem loop_ev (s : ByteArray) (hs : s.size ≤ 1048576) : ∀ (d off : Nat) (acc : List S63), s.size - off ≤ d → off ≤ s.size → acc.length ≤ off →
    Ev (fun k => lex_Lex.l0 k s acc ((off + sk false (s.data.toList.drop off) : Nat) : Int)) (outL acc (lx off (s.data.toList.drop off))) := by
  intro d
  induction d with
  | zero =>
    intro off acc hd hi ha
    have e : s.data.toList.drop off = [] := List.drop_of_length_le (by rw [← size_len]; omega)
    refine Ev.step (fun k => by simp only [lex_Lex.l0]; rfl) ?_
    rw [e, lx_end rfl]
    simp only [sk, Nat.add_zero, if_neg (show ¬ (off : Int) < (s.size : Int) by omega), if_pos (show acc.length < 2932031007402 by omega), List.length_nil]
    obtain rfl : off = s.size := by omega
    exact Ev.now _
  | succ d ih =>
    intro off acc hd hi ha
    have hlen : (s.data.toList.drop off).length = s.size - off := by rw [List.length_drop, ← size_len]
    have hsk := sk_le false (s.data.toList.drop off)
    by_cases hz : sk false (s.data.toList.drop off) = (s.data.toList.drop off).length
    · refine Ev.step (fun k => by simp only [lex_Lex.l0]; rfl) ?_
      rw [lx_end hz, hz, hlen, show off + (s.size - off) = s.size by omega]
      simp only [Int.lt_irrefl, if_false, if_pos (show acc.length < 2932031007402 by omega)]
      exact Ev.now _
    · obtain ⟨i, hi2⟩ : ∃ i, i = off + sk false (s.data.toList.drop off) := ⟨_, rfl⟩
      have hdr : (s.data.toList.drop off).drop (sk false (s.data.toList.drop off)) = s.data.toList.drop i := by rw [List.drop_drop, hi2]
      have hil : i < s.size := by omega
      cases hl : s.data.toList.drop i with
      | nil => have := drop_len hl (by omega); simp only [List.length_nil] at this; omega
      | cons b t =>
        obtain ⟨p, hp1, hp2⟩ := token_ev s (by omega) i b t hl
        refine Ev.step (fun k => by simp only [lex_Lex.l0]; rfl) ?_
        simp only [← hi2, if_pos (show (i : Int) < (s.size : Int) by omega)]
        refine Ev.bind hp1 ?_
        cases ht : L.tok (s.data.toList.drop i) with
        | bad a e =>
          rw [ht] at hp2
          obtain ⟨h1, h2, h3⟩ := hp2
          rw [lx_bad (a := a) (e := e) hz (by rw [hdr]; exact ht), ← hi2]
          simp only [h1, h2, if_neg (show ¬ (e : Int) = 0 by omega)]
          exact Ev.now _
        | ok t' =>
          rw [ht] at hp2
          have hp2' : p = ((t'.kind : Int), ba t'.text, (t'.num : Int), (i : Int), ((i + t'.len : Nat) : Int), 0, 0) := hp2
          have htl := tok_len ht
          rw [List.length_drop, ← size_len] at htl
          subst hp2'
          rw [lx_ok (t := t') hz (by rw [hdr]; exact ht), ← hi2]
          simp only [if_true, if_pos (show acc.length < 2932031007402 by omega)]
          have hsk2 := (skip_ev s (by omega) _ (i + t'.len) (Nat.le_refl _) (by omega))
          have hnx := ih (i + t'.len) (acc ++ [toS (t'.at_ i)]) (by omega) (by omega) (by simp only [List.length_append, List.length_cons, List.length_nil]; omega)
          rw [outL_push, show (s.data.toList.drop off).drop (sk false (s.data.toList.drop off) + t'.len) = s.data.toList.drop (i + t'.len) by rw [← List.drop_drop, hdr, List.drop_drop]]
          refine Ev.bind (g := fun k => lex_skip.f k s ((i + t'.len : Nat) : Int)) hsk2 ?_
          exact hnx
theorem lexes_ev (s : ByteArray) : Ev (fun k => lex_Lex.f k s) (outL [] (L.Lex s.data.toList)) := by
  unfold L.Lex
  rw [← size_len]
  by_cases h : s.size > 1048576
  · rw [if_pos h]
    refine Ev.congr (fun k => ?_) (Ev.now _)
    unfold lex_Lex.f
    rw [if_pos (by omega)]; rfl
  · rw [if_neg h]
    have h1 := skip_ev s (by omega) _ 0 (Nat.le_refl _) (by omega)
    have h2 := loop_ev s (by omega) _ 0 [] (Nat.le_refl _) (by omega) (Nat.le_refl _)
    rw [List.drop_zero] at h1 h2
    refine Ev.congr (f := fun k => (lex_skip.f k s 0).bind fun t132 => lex_Lex.l0 k s [] t132) (fun k => ?_) (Ev.bind (g := fun k => lex_skip.f k s 0) h1 h2)
    unfold lex_Lex.f
    rw [if_neg (by omega)]
theorem name_eq (s : ByteArray) : lex_Name.f s = some (L.Name s.data.toList) := by
  unfold lex_Name.f
  cases hl : s.data.toList with
  | nil =>
    have : s.size = 0 := by rw [size_len, hl]; rfl
    rw [if_neg (by omega)]; rfl
  | cons b t =>
    have hsz : s.size = t.length + 1 := by rw [size_len, hl]; rfl
    rw [if_pos (by omega)]
    unfold L.Name
    simp only [List.length_cons]
    by_cases h1 : s.size ≤ 64
    · have hd : s.data.toList.drop 0 = b :: t := hl
      have hbt := bt_drop hd
      rw [if_pos (by omega), if_pos (by omega), show bt s 0 = (b.toNat : Int) from hbt, isL_eq, Option.bind_some, decide_eq_true (show t.length + 1 ≤ 64 by omega), Bool.true_and]
      by_cases h2 : isL b = true
      · have hr := run_eq (n := 102) (p := isW) (.inr (.inl rfl)) (fun b => rfl) s (by omega) 0 (by omega)
        rw [hd, Nat.zero_add] at hr
        rw [if_pos h2, show lex_run.f s 0 102 = _ from hr, Option.bind_some, h2, Bool.true_and]
        congr 1
        rw [Bool.eq_iff_iff, beq_iff_eq, decide_eq_true_iff]
        omega
      · rw [if_neg h2]; simp [h2]
    · rw [if_neg (by omega), decide_eq_false (show ¬ t.length + 1 ≤ 64 by omega)]; rfl
theorem ba_size (l : List UInt8) : (ba l).size = l.length := by rw [size_len, ba_list]
def digs : ByteArray := ⟨#[48, 49, 50, 51, 52, 53, 54, 55, 56, 57, 97, 98, 99, 100, 101, 102]⟩
theorem digs_hx : ∀ n : Nat, n < 16 → bt digs (n : Int) = ((L.hx n).toNat : Int) := by
  have : ∀ n : Fin 16, bt digs (n.val : Int) = ((L.hx n.val).toNat : Int) := by decide
  exact fun n h => this ⟨n, h⟩
theorem and15 (b : UInt8) : Go.bits .and .u8 (b.toNat : Int) 15 = ((b.toNat % 16 : Nat) : Int) := by
  have : ∀ n : Fin 256, Go.bits .and .u8 (n.val : Int) 15 = ((n.val % 16 : Nat) : Int) := by decide +kernel
  exact this ⟨b.toNat, b.toNat_lt⟩
theorem nums_app (l m : List UInt8) : nums l ++ nums m = nums (l ++ m) := by unfold nums; rw [List.map_append]
theorem quote_ev (s : ByteArray) (hs : s.size ≤ 4398046511104) : Ev (fun k => lex_Quote.f k s) (ba (L.Quote s.data.toList)) := by
  have key : ∀ (d i : Nat) (acc : List UInt8), s.size - i ≤ d → i ≤ s.size → acc.length ≤ 4 * i + 1 → Ev (fun k => lex_Quote.l0 k s (nums acc) (s.size : Int) (i : Int)) (ba (acc ++ (qs (s.data.toList.drop i) ++ [34]))) := by
    intro d
    induction d with
    | zero =>
      intro i acc hd hi ha
      have e : s.data.toList.drop i = [] := List.drop_of_length_le (by rw [← size_len]; omega)
      refine Ev.step (fun k => by simp only [lex_Quote.l0]; rfl) ?_
      rw [e]
      simp only [if_neg (show ¬ (i : Int) < (s.size : Int) by omega), if_pos (show (nums acc).length < 140737488355328 by rw [nums_len]; omega), qs, List.nil_append]
      rw [show nums acc ++ [34] = nums (acc ++ [34]) from nums_snoc acc 34, strOf]
      exact Ev.now _
    | succ d ih =>
      intro i acc hd hi ha
      cases hl : s.data.toList.drop i with
      | nil =>
        have := drop_len hl hi
        simp only [List.length_nil] at this
        have := ih i acc (by omega) hi ha
        rw [hl] at this; exact this
      | cons b t =>
        have hlt := drop_lt hl
        have hbt := bt_drop hl
        have hnx := drop_next hl
        have W : Aside0 (wrap64 ((i : Int) + 1) = ((i + 1 : Nat) : Int)) := ⟨w1 1 (by omega)⟩
        have hq := qb_len b
        have ihn := ih (i + 1) (acc ++ qb b) (by omega) (by omega) (by rw [List.length_append]; omega)
        rw [hnx] at ihn
        have hlen : (nums acc).length < 140737488355000 := by rw [nums_len]; omega
        have hb := b.toNat_lt
        have goal : acc ++ (qs (b :: t) ++ [34]) = acc ++ qb b ++ (qs t ++ [34]) := by rw [qs]; simp only [List.append_assoc]
        rw [goal]
        have fin : ∀ (e : List UInt8), qb b = e → Ev (fun k => lex_Quote.l0 k s (nums acc ++ nums e) (s.size : Int) ((i + 1 : Nat) : Int)) (ba (acc ++ qb b ++ (qs t ++ [34]))) := by
          intro e he; rw [← he, nums_app]; exact ihn
        have hj : ∀ x : Bool, (x = true ↔ (b.toNat = 92 ∨ b.toNat = 34)) → Ev (fun k => lex_Quote.j1 k s (nums acc) (b.toNat : Int) (s.size : Int) (i : Int) x) (ba (acc ++ qb b ++ (qs t ++ [34]))) := by
          intro x hxx
          refine Ev.step (fun k => by simp only [lex_Quote.j1]; rfl) ?_
          simp only [Option.bind_some, List.length_cons, List.length_nil, W.out]
          by_cases h1 : b.toNat = 92 ∨ b.toNat = 34
          · simp only [hxx.2 h1, if_true, if_pos (show (nums acc).length + (0 + 1 + 1) < 140737488355328 by omega)]
            exact fin [92, b] (by unfold qb; rw [if_pos h1])
          have hxf : ¬ x = true := fun h => h1 (hxx.1 h)
          simp only [if_neg hxf]
          by_cases h2 : b.toNat = 10
          · simp only [if_pos (show (b.toNat : Int) = 10 by omega), if_pos (show (nums acc).length + (0 + 1 + 1) < 140737488355328 by omega)]
            exact fin [92, 110] (by unfold qb; rw [if_neg h1, if_pos h2])
          simp only [if_neg (show ¬ (b.toNat : Int) = 10 by omega)]
          by_cases h3 : b.toNat = 9
          · simp only [if_pos (show (b.toNat : Int) = 9 by omega), if_pos (show (nums acc).length + (0 + 1 + 1) < 140737488355328 by omega)]
            exact fin [92, 116] (by unfold qb; rw [if_neg h1, if_neg h2, if_pos h3])
          simp only [if_neg (show ¬ (b.toNat : Int) = 9 by omega)]
          by_cases h4 : 32 ≤ b.toNat ∧ b.toNat ≤ 126
          · simp only [if_pos (show (b.toNat : Int) ≥ 32 by omega), if_pos (show (b.toNat : Int) ≤ 126 by omega), if_pos (show (nums acc).length < 140737488355328 by omega)]
            exact fin [b] (by unfold qb; rw [if_neg h1, if_neg h2, if_neg h3, if_pos h4])
          have d16 : (b.toNat : Int) / 16 = ((b.toNat / 16 : Nat) : Int) := rfl
          have dg1 : bt (⟨#[48, 49, 50, 51, 52, 53, 54, 55, 56, 57, 97, 98, 99, 100, 101, 102]⟩ : ByteArray) ((b.toNat / 16 : Nat) : Int) = ((L.hx (b.toNat / 16)).toNat : Int) := digs_hx _ (by omega)
          have dg2 : bt (⟨#[48, 49, 50, 51, 52, 53, 54, 55, 56, 57, 97, 98, 99, 100, 101, 102]⟩ : ByteArray) ((b.toNat % 16 : Nat) : Int) = ((L.hx (b.toNat % 16)).toNat : Int) := digs_hx _ (by omega)
          have last := fin [92, 120, L.hx (b.toNat / 16), L.hx (b.toNat % 16)] (by unfold qb; rw [if_neg h1, if_neg h2, if_neg h3, if_neg h4])
          by_cases h5 : (b.toNat : Int) ≥ 32
          · simp only [if_pos h5, if_neg (show ¬ (b.toNat : Int) ≤ 126 by omega), and15, d16, dg1, dg2, if_pos (show (0 : Int) ≤ ((b.toNat / 16 : Nat) : Int) by omega), if_pos (show ((b.toNat / 16 : Nat) : Int) < 16 by omega), if_pos (show (0 : Int) ≤ ((b.toNat % 16 : Nat) : Int) by omega), if_pos (show ((b.toNat % 16 : Nat) : Int) < 16 by omega), if_pos (show (nums acc).length + (0 + 1 + 1 + 1 + 1) < 140737488355328 by omega)]
            exact last
          · simp only [if_neg h5, and15, d16, dg1, dg2, if_pos (show (0 : Int) ≤ ((b.toNat / 16 : Nat) : Int) by omega), if_pos (show ((b.toNat / 16 : Nat) : Int) < 16 by omega), if_pos (show (0 : Int) ≤ ((b.toNat % 16 : Nat) : Int) by omega), if_pos (show ((b.toNat % 16 : Nat) : Int) < 16 by omega), if_pos (show (nums acc).length + (0 + 1 + 1 + 1 + 1) < 140737488355328 by omega)]
            exact last
        refine Ev.step (fun k => by simp only [lex_Quote.l0]; rfl) ?_
        simp only [if_pos (show (i : Int) < (s.size : Int) by omega), if_pos (show (0 : Int) ≤ (i : Int) by omega), hbt]
        by_cases h0 : b.toNat = 92
        · simp only [if_pos (show (b.toNat : Int) = 92 by omega)]
          exact hj true (by simp [h0])
        · simp only [if_neg (show ¬ (b.toNat : Int) = 92 by omega)]
          exact hj _ (by rw [beq_iff_eq]; omega)
  have := key s.size 0 [34] (by omega) (by omega) (by simp)
  rw [List.drop_zero] at this
  exact Ev.congr (fun k => rfl) this
theorem Lex_small {l : List UInt8} (h : l.length ≤ 1048576) : L.Lex l = lx 0 l := by
  unfold L.Lex; rw [if_neg (by omega)]
end Go.Proofs.YtaijoghpfobdbaaDoor.T
end
section
set_option linter.unusedVariables false
set_option linter.unusedSimpArgs false
namespace Go.Proofs.YtaijoghpfobdbaaDoor.P
open Go.RowKit Go.Proofs.YtaijoghpfobdbaaDoor.X Go.Proofs.YtaijoghpfobdbaaDoorW.PrintWords Go.Proofs.YtaijoghpfobdbaaDoorW.PrintLast
mutual
def dep : Tr → Nat
  | .mk _ ks => dmx ks + 1
/-- The greatest depth. -/
def dmx : List Tr → Nat
  | [] => 0
  | t :: ts => max (dep t) (dmx ts)
end
theorem mx_app (a b : List Tr) : dmx (a ++ b) = max (dmx a) (dmx b) := by
  induction a with
  | nil => simp [dmx]
  | cons t a ih => rw [List.cons_append, dmx, dmx, ih]; omega
theorem dep_le_mx {t : Tr} {l : List Tr} (h : t ∈ l) : dep t ≤ dmx l := by
  induction l with
  | nil => cases h
  | cons x l ih =>
    rw [dmx]
    rcases List.mem_cons.1 h with rfl | h
    · omega
    · have := ih h; omega
theorem mx_split (st : List Tr) (k : Nat) : dmx st = max (dmx (st.take k)) (dmx (st.drop k)) := by rw [← mx_app, List.take_append_drop]
def sg (st : List Tr) (n : Nd) : Option (List Tr) :=
  match kd n with
  | none => none
  | some k => if k ≤ st.length then some (st.take (st.length - k) ++ [.mk n (st.drop (st.length - k))]) else none
def build : List Nd → List Tr → Option (List Tr)
  | [], st => some st
  | n :: ns, st => (sg st n).bind (build ns)
theorem sg_some {st st' : List Tr} {n : Nd} (h : sg st n = some st') : ∃ k, kd n = some k ∧ k ≤ st.length ∧ st' = st.take (st.length - k) ++ [.mk n (st.drop (st.length - k))] := by
  unfold sg at h
  split at h
  · cases h
  · split at h
    · rename_i k hk hl
      cases h
      exact ⟨k, hk, hl, rfl⟩
    · cases h
theorem sg_len {st st' : List Tr} {n : Nd} (h : sg st n = some st') : 1 ≤ st'.length ∧ st'.length ≤ st.length + 1 := by
  obtain ⟨k, _, hl, rfl⟩ := sg_some h
  rw [List.length_append, List.length_take, List.length_singleton]; omega
theorem sg_mx {st st' : List Tr} {n : Nd} (h : sg st n = some st') : dmx st' ≤ dmx st + 1 ∧ dmx st ≤ dmx st' := by
  obtain ⟨k, _, hl, rfl⟩ := sg_some h
  have := mx_split st (st.length - k)
  rw [mx_app, dmx, dmx, dep]
  omega
def judgeE (ns : List Nd) : Int :=
  match build ns [] with
  | some [t] => if 100 < dep t then 91 else 0
  | _ => 1
def pile (st : List Tr) : List Int := st.map fun t => (dep t : Int)
theorem pile_len (st : List Tr) : (pile st).length = st.length := List.length_map _
theorem pile_rd (st : List Tr) (j : Nat) (hj : j < st.length) : rd (pile st) (j : Int) = (dep st[j] : Int) := by
  unfold rd pile
  rw [Int.toNat_natCast, List.getD_eq_getElem?_getD, List.getElem?_map, List.getElem?_eq_getElem hj]; rfl
def kr (n : Nd) : Int :=
  if n.f0 = 1 ∨ n.f0 = 2 ∨ n.f0 = 3 ∨ n.f0 = 4 then 0 else if n.f0 = 5 ∨ n.f0 = 11 ∨ n.f0 = 12 then 1
  else if n.f0 = 6 ∨ n.f0 = 7 ∨ n.f0 = 8 ∨ n.f0 = 10 then 2 else if n.f0 = 9 then (if n.f1 ≥ 1 then n.f1 else -1) else -1
theorem kd_kr (n : Nd) : kd n = if kr n < 0 ∨ badF n then none else some (kr n).toNat := by
  unfold kd kv kr
  by_cases hb : badF n
  · simp [hb]
  · simp only [if_neg hb]
    by_cases h1 : n.f0 = 1 ∨ n.f0 = 2 ∨ n.f0 = 3 ∨ n.f0 = 4
    · simp [h1, hb]
    by_cases h2 : n.f0 = 5 ∨ n.f0 = 11 ∨ n.f0 = 12
    · simp [h1, h2, hb]
    by_cases h3 : n.f0 = 6 ∨ n.f0 = 7 ∨ n.f0 = 8 ∨ n.f0 = 10
    · simp [h1, h2, h3, hb]
    by_cases h4 : n.f0 = 9
    · by_cases h5 : n.f1 ≥ 1
      · simp only [if_neg h1, if_neg h2, if_neg h3, if_pos h4, if_pos h5, decide_eq_true h5, if_true]
        rw [if_neg (by rintro (h | h); omega; exact hb h)]
      · simp only [if_neg h1, if_neg h2, if_neg h3, if_pos h4, if_neg h5, decide_eq_false h5]
        rw [if_neg (by decide), if_pos (.inl (by omega))]
    · simp [h1, h2, h3, h4]
theorem rd_nd (ns : List Nd) (i : Nat) (n : Nd) (t : List Nd) (h : ns.drop i = n :: t) : rd_T46 ns (i : Int) = n := by
  unfold rd_T46
  rw [Int.toNat_natCast, List.getD_eq_getElem?_getD]
  have : (ns.drop i)[0]? = some n := by rw [h]; rfl
  rw [List.getElem?_drop, Nat.add_zero] at this
  rw [this]; rfl
end Go.Proofs.YtaijoghpfobdbaaDoor.P
end
