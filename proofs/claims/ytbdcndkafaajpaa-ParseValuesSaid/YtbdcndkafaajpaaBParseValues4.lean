/- Walks and plain laws behind ParseValues. Conditions: those in the theorems. -/
import Derived.Lib.Bytealg
import Derived.KernelRfl
import Derived.Test.YtbdcndkafaajpaaBParseValues0
import Derived.Test.YtbdcndkafaajpaaBParseValues1
import Derived.Test.YtbdcndkafaajpaaBParseValues2
import Derived.Test.YtbdcndkafaajpaaBParseValues3
set_option linter.unusedVariables false
set_option linter.unusedSimpArgs false
set_option maxHeartbeats 16000000
set_option maxRecDepth 100000
section
namespace Go.Proofs.Ytbdcndkafaajpaa.X
open Go.RowKit YtbdcndkafaajpaaW.PrintWords YtbdcndkafaajpaaW.PrintLast YtbdcndkafaajpaaW.PrintMore
attribute [local go_sem] Qdl Qdj Qef Qee Qc9 Qc8 Qdk Qdi
def Qbt.f (k : Nat) (a0 : ByteArray) (a1 : Int) : Option (Int × ByteArray × Int × Int × Int × Int × Int) := if 0 ≤ a1 then (if a1 < (a0.size : Int) then ((Qbk.f (bt a0 a1)).bind fun t118 => (if t118 = true then ((Qc2.f a0 a1 55).bind fun t119 => (if a1 ≤ t119 then (if t119 ≤ (a0.size : Int) then (if ((a0.extract (a1 : Int).toNat (t119 : Int).toNat).size : Int) > 64 then (some (1, a0.extract (a1 : Int).toNat (t119 : Int).toNat, 0, a1, t119, a1, 111)) else (some (1, a0.extract (a1 : Int).toNat (t119 : Int).toNat, 0, a1, t119, 0, 0))) else (none)) else (none))) else ((Qbj.f (bt a0 a1)).bind fun t120 => (if t120 = true then ((Qc2.f a0 a1 56).bind fun t121 => (if a1 ≤ t121 then (if t121 ≤ (a0.size : Int) then ((Qce.f (a0.extract (a1 : Int).toNat (t121 : Int).toNat)).bind fun bt122 => (if bt122.2 = true then (some (2, (⟨#[]⟩ : ByteArray), bt122.1, a1, t121, 0, 0)) else (some (2, (⟨#[]⟩ : ByteArray), 0, a1, t121, a1, 111)))) else (none)) else (none))) else (if (bt a0 a1) = 34 then ((Qa3.f k a0 a1).bind fun bt124 => (some (bt124.1, bt124.2.1, bt124.2.2.1, bt124.2.2.2.1, bt124.2.2.2.2.1, bt124.2.2.2.2.2.1, bt124.2.2.2.2.2.2))) else ((strings_IndexByte.f (⟨#[123, 125, 40, 41, 58, 59, 44, 61, 43, 45, 42]⟩ : ByteArray) (bt a0 a1)).bind fun t131 => (if t131 ≥ 0 then (if a1 ≤ (wrap64 (a1 + 1)) then (if (wrap64 (a1 + 1)) ≤ (a0.size : Int) then (some (4, a0.extract (a1 : Int).toNat ((wrap64 (a1 + 1)) : Int).toNat, 0, a1, wrap64 (a1 + 1), 0, 0)) else (none)) else (none)) else (some (0, (⟨#[]⟩ : ByteArray), 0, a1, 0, a1, 80))))))))) else (none)) else (none)
theorem Qbt.mono : ∀ a0 a1 k, LeO (Qbt.f k a0 a1) (Qbt.f (k + 1) a0 a1) := by
 intro a0 a1 k
 unfold Qbt.f
 repeat' first
   | (with_reducible exact Qa3.mono _ _ _)
   | (with_reducible exact LeO.refl _)
   | (with_reducible exact LeO.none _)
   | (with_reducible refine LeO.ite ?_ ?_)
   | (with_reducible refine LeO.bind ?_ (fun _ => ?_))
   | exact Qa3.mono _ _ _
   | exact LeO.none _
   | refine LeO.ite ?_ ?_
   | refine LeO.bind ?_ (fun _ => ?_)
def Qbt.T20 : Bool × List (List Nat × List Nat) := (true, [([], []), ([], []), ([], []), ([2], [2]), ([0, 1, 3], [0, 1, 3]), ([], []), ([5], [5]), ([], []), ([7], [7]), ([0, 1, 2, 3, 4, 7, 8], []), ([9, 4, 8, 0, 1, 2, 3, 4, 7, 8], [4, 9]), ([0, 1, 2, 3, 4, 5, 6, 7, 8, 9, 10], []), ([11, 6, 10, 0, 1, 2, 3, 4, 5, 6, 7, 8, 9, 10], [6, 11])])
def Qbt.B20 : List Nat := [0, 0, 0, 4, 15, 0, 32, 0, 128, 415, 927, 2047, 4095]
theorem Qbt.tab20 : rtab .any (opsOf Try.f35 20) = Qbt.T20 := by kernel_rfl
theorem Qbt.bits20 : Qjz Qbt.T20.2 Qbt.B20 = true := by kernel_rfl
theorem Qbt.calls (k : Nat) (a0 : ByteArray) (a1 : Int) (r1 : Int) (r2 : ByteArray) (r3 : Int) (r4 : Int) (r5 : Int) (r6 : Int) (r7 : Int) (w : World) (h : Qbt.f k a0 a1 = some (r1, r2, r3, r4, r5, r6, r7)) :
  Calls Try.prog 35 #[.string a0, .int .i64 a1] w fun e w' => e = .returned (.tuple #[.agg #[.int .i64 r1, .string r2, .int .u64 r3, .int .i64 r4, .int .i64 r5], .int .i64 r6, .int .i64 r7]) ∧ Below w.heap.size w w' := by
 have hu47 := Try.underlying47
 have HB := J0.m (Below.refl w.heap.size w)
 have H : (if 0 ≤ a1 then (if a1 < (a0.size : Int) then ((Qbk.f (bt a0 a1)).bind fun t118 => (if t118 = true then ((Qc2.f a0 a1 55).bind fun t119 => (if a1 ≤ t119 then (if t119 ≤ (a0.size : Int) then (if ((a0.extract (a1 : Int).toNat (t119 : Int).toNat).size : Int) > 64 then (some (1, a0.extract (a1 : Int).toNat (t119 : Int).toNat, 0, a1, t119, a1, 111)) else (some (1, a0.extract (a1 : Int).toNat (t119 : Int).toNat, 0, a1, t119, 0, 0))) else (none)) else (none))) else ((Qbj.f (bt a0 a1)).bind fun t120 => (if t120 = true then ((Qc2.f a0 a1 56).bind fun t121 => (if a1 ≤ t121 then (if t121 ≤ (a0.size : Int) then ((Qce.f (a0.extract (a1 : Int).toNat (t121 : Int).toNat)).bind fun bt122 => (if bt122.2 = true then (some (2, (⟨#[]⟩ : ByteArray), bt122.1, a1, t121, 0, 0)) else (some (2, (⟨#[]⟩ : ByteArray), 0, a1, t121, a1, 111)))) else (none)) else (none))) else (if (bt a0 a1) = 34 then ((Qa3.f k a0 a1).bind fun bt124 => (some (bt124.1, bt124.2.1, bt124.2.2.1, bt124.2.2.2.1, bt124.2.2.2.2.1, bt124.2.2.2.2.2.1, bt124.2.2.2.2.2.2))) else ((strings_IndexByte.f (⟨#[123, 125, 40, 41, 58, 59, 44, 61, 43, 45, 42]⟩ : ByteArray) (bt a0 a1)).bind fun t131 => (if t131 ≥ 0 then (if a1 ≤ (wrap64 (a1 + 1)) then (if (wrap64 (a1 + 1)) ≤ (a0.size : Int) then (some (4, a0.extract (a1 : Int).toNat ((wrap64 (a1 + 1)) : Int).toNat, 0, a1, wrap64 (a1 + 1), 0, 0)) else (none)) else (none)) else (some (0, (⟨#[]⟩ : ByteArray), 0, a1, 0, a1, 80))))))))) else (none)) else (none)) = some (r1, r2, r3, r4, r5, r6, r7) := h
 clear h
 by_cases c3 : 0 ≤ a1
 ·rw [if_pos c3] at H
  have c3b0 : decide (0 ≤ a1) = true := decide_eq_true c3
  clear c3
  by_cases c4 : a1 < (a0.size : Int)
  ·rw [if_pos c4] at H
   have c4b0 : decide (a1 < (a0.size : Int)) = true := decide_eq_true c4
   clear c4
   replace H := Option.bind_eq_some_iff.mp H
   obtain ⟨t118, A60, H⟩ := H
   replace H : (if t118 = true then ((Qc2.f a0 a1 55).bind fun t119 => (if a1 ≤ t119 then (if t119 ≤ (a0.size : Int) then (if ((a0.extract (a1 : Int).toNat (t119 : Int).toNat).size : Int) > 64 then (some (1, a0.extract (a1 : Int).toNat (t119 : Int).toNat, 0, a1, t119, a1, 111)) else (some (1, a0.extract (a1 : Int).toNat (t119 : Int).toNat, 0, a1, t119, 0, 0))) else (none)) else (none))) else ((Qbj.f (bt a0 a1)).bind fun t120 => (if t120 = true then ((Qc2.f a0 a1 56).bind fun t121 => (if a1 ≤ t121 then (if t121 ≤ (a0.size : Int) then ((Qce.f (a0.extract (a1 : Int).toNat (t121 : Int).toNat)).bind fun bt122 => (if bt122.2 = true then (some (2, (⟨#[]⟩ : ByteArray), bt122.1, a1, t121, 0, 0)) else (some (2, (⟨#[]⟩ : ByteArray), 0, a1, t121, a1, 111)))) else (none)) else (none))) else (if (bt a0 a1) = 34 then ((Qa3.f k a0 a1).bind fun bt124 => (some (bt124.1, bt124.2.1, bt124.2.2.1, bt124.2.2.2.1, bt124.2.2.2.2.1, bt124.2.2.2.2.2.1, bt124.2.2.2.2.2.2))) else ((strings_IndexByte.f (⟨#[123, 125, 40, 41, 58, 59, 44, 61, 43, 45, 42]⟩ : ByteArray) (bt a0 a1)).bind fun t131 => (if t131 ≥ 0 then (if a1 ≤ (wrap64 (a1 + 1)) then (if (wrap64 (a1 + 1)) ≤ (a0.size : Int) then (some (4, a0.extract (a1 : Int).toNat ((wrap64 (a1 + 1)) : Int).toNat, 0, a1, wrap64 (a1 + 1), 0, 0)) else (none)) else (none)) else (some (0, (⟨#[]⟩ : ByteArray), 0, a1, 0, a1, 80)))))))) = some (r1, r2, r3, r4, r5, r6, r7) := H
   have A6 := J0.m A60
   clear A60
   by_cases c7 : t118 = true
   ·subst c7
    have H1 : ((Qc2.f a0 a1 55).bind fun t119 => (if a1 ≤ t119 then (if t119 ≤ (a0.size : Int) then (if ((a0.extract (a1 : Int).toNat (t119 : Int).toNat).size : Int) > 64 then (some (1, a0.extract (a1 : Int).toNat (t119 : Int).toNat, 0, a1, t119, a1, 111)) else (some (1, a0.extract (a1 : Int).toNat (t119 : Int).toNat, 0, a1, t119, 0, 0))) else (none)) else (none))) = some (r1, r2, r3, r4, r5, r6, r7) := by rw [if_pos rfl] at H; exact H
    clear H
    have H := H1
    clear H1
    replace H := Option.bind_eq_some_iff.mp H
    obtain ⟨t119, A80, H⟩ := H
    replace H : (if a1 ≤ t119 then (if t119 ≤ (a0.size : Int) then (if ((a0.extract (a1 : Int).toNat (t119 : Int).toNat).size : Int) > 64 then (some (1, a0.extract (a1 : Int).toNat (t119 : Int).toNat, 0, a1, t119, a1, 111)) else (some (1, a0.extract (a1 : Int).toNat (t119 : Int).toNat, 0, a1, t119, 0, 0))) else (none)) else (none)) = some (r1, r2, r3, r4, r5, r6, r7) := H
    have A8 := J0.m A80
    clear A80
    have c9b0 := eq_true (dQ : 0 ≤ a1)
    by_cases c10 : a1 ≤ t119
    ·rw [if_pos c10] at H
     have c10b0 := eq_true c10
     have c10b1 : decide (a1 ≤ t119) = true := decide_eq_true c10
     clear c10
     by_cases c11 : t119 ≤ (a0.size : Int)
     ·rw [if_pos c11] at H
      have c11b0 := eq_true c11
      have c11b1 : decide (t119 ≤ (a0.size : Int)) = true := decide_eq_true c11
      clear c11
      by_cases c12 : ((a0.extract (a1 : Int).toNat (t119 : Int).toNat).size : Int) > 64
      ·rw [if_pos c12] at H
       have c12b0 : decide (64 < ((a0.extract (a1 : Int).toNat (t119 : Int).toNat).size : Int)) = true := decide_eq_true c12
       have c12s : decide (64 < (((t119 : Int).toNat - (a1 : Int).toNat : Nat) : Int)) = true := by have z_ : (a0.extract (a1 : Int).toNat (t119 : Int).toNat).size = (t119 : Int).toNat - (a1 : Int).toNat := (by rw [ByteArray.size_extract]; have q_ : (t119 : Int) ≤ (a0.size : Int) := dQ; omega); rw [← z_]; exact c12b0
       have c12b1 : decide (64 < (a0.extract (a1 : Int).toNat (t119 : Int).toNat).size) = true := decide_eq_true (by omega)
       clear c12
       simp only [Option.some.injEq, Prod.mk.injEq] at H
       obtain ⟨rfl, rfl, rfl, rfl, rfl, rfl, rfl⟩ := H
       go_enter Try.func35, Try.ntmps35
       go_wp2_with (first | ((with_reducible refine Qbv (N := 4) rfl ?_); refine Qbn ?hg (N := 4) ?hd (cs := zT0) (t := 47) ?hr ?_; (case hd => rfl); (case hg => rfl); (case hr => first | (go_simp; done) | (go_simp; rfl)); intro gb116 hg w13 hbox hb; have n0_ := J0.m (Qap bR hb); have n1_ := J0.m (hbox); have n2_ := J0.m ((by rw [hg]; exact (Qa8 bR) : w.heap.size ≤ gb116)); have n3_ := n2_; clear HB; have HB := n0_; have BK116 := n1_; have GW116 := n2_; have GE116 := n3_; clear n0_ n1_ n2_ n3_; clear hb hbox hg) | ((with_reducible refine Qbv (N := 7) rfl ?_); refine Qbn ?hg (N := 7) ?hd (cs := zT0) (t := 47) ?hr ?_; (case hd => rfl); (case hg => rfl); (case hr => first | (go_simp; done) | (go_simp; rfl)); intro gb117 hg w14 hbox hb; have n0_ := J0.m (Qai (g := gb116) (o := .cells #[.int .i64 0, .string ⟨#[]⟩, .int .u64 0, .int .i64 0, .int .i64 0] 47 (0, 0)) (by (with_reducible repeat (first | apply Qae | apply Qah | apply Qag)); exact BK116.o) hb); have n1_ := J0.m (Qap (by repeat (first | (with_reducible first | exact HB.o | apply Qab | apply Qac | apply Qad | refine Qal ?_ GE116.o) | exact HB.o)) hb); have n2_ := J0.m (hbox); have n3_ := J0.m ((by rw [hg]; exact (Qa8 (by repeat (first | (with_reducible first | exact HB.o | apply Qab | apply Qac | apply Qad | refine Qal ?_ GE116.o) | exact HB.o))) : w.heap.size ≤ gb117)); have n4_ := n3_; have n5_ := J0.m ((by rw [hg]; exact Nat.ne_of_lt (Qcc (g := gb116) (o := .cells #[.int .i64 0, .string ⟨#[]⟩, .int .u64 0, .int .i64 0, .int .i64 0] 47 (0, 0)) (by (with_reducible repeat (first | apply Qae | apply Qah | apply Qag)); exact BK116.o)) : gb116 ≠ gb117)); have n6_ := J0.m ((by rw [hg]; exact Nat.ne_of_gt (Qcc (g := gb116) (o := .cells #[.int .i64 0, .string ⟨#[]⟩, .int .u64 0, .int .i64 0, .int .i64 0] 47 (0, 0)) (by (with_reducible repeat (first | apply Qae | apply Qah | apply Qag)); exact BK116.o)) : gb117 ≠ gb116)); clear BK116; clear HB; have BK116 := n0_; have HB := n1_; have BK117 := n2_; have GW117 := n3_; have GE117 := n4_; have NB116_117 := n5_; have NB117_116 := n6_; clear n0_ n1_ n2_ n3_ n4_ n5_ n6_; clear hb hbox hg; have hnb15 := NB117_116.o; have hnc15 := NB116_117.o; obtain ⟨hcz16_0, hcz16_1, hcz16_2, hcz16_3, hcz16_4⟩ := (bx5 BK117.o); have hfz16_0 := Qaa BK117.o 0; have hfz16_1 := Qaa BK117.o 1; have hfz16_2 := Qaa BK117.o 2; have hfz16_3 := Qaa BK117.o 3; have hfz16_4 := Qaa BK117.o 4; have p5 : 0 ≤ (a1 : Int) := dQ; have q5 : a1 < (a0.size : Int) := dQ; have hx5 := Qbx a0 a1; replace p5 := eq_true p5; replace q5 := eq_true q5) | ((with_reducible refine Qas (f := 53) rfl ?_); refine Qbm (some 20) rfl rfl Try.func53 (by kernel_rfl) rfl #[.int .u8 (bt a0 a1)] rfl mQ ?_; (with_reducible refine (Qbk.calls (bt a0 a1) true _ A6.o).mono ?_); rintro e w' ⟨rfl, ⟨nd, rfl⟩⟩; refine ⟨_, rfl, ?_⟩) | ((with_reducible refine Qas (f := 54) rfl ?_); refine Qbm (some 24) rfl rfl Try.func54 (by kernel_rfl) rfl #[.string a0, .int .i64 a1, .func (.func 55) #[] #[]] rfl mQ ?_; (with_reducible refine (Qc2.calls a0 a1 55 t119 _ A8.o).mono ?_); rintro e w99 ⟨rfl, hd99⟩; refine ⟨_, rfl, ?_⟩; have b99 : w99.heap[gb117]? = some (.cells #[.int .i64 1, .string ⟨#[]⟩, .int .u64 0, .int .i64 a1, .int .i64 0] 47 (0, 0)) := (by refine Qgm hd99 ?_; (with_reducible repeat (first | apply Qae | apply Qah | apply Qag)); refine Qb4 (cs := #[.int .i64 0, .string ⟨#[]⟩, .int .u64 0, .int .i64 a1, .int .i64 0]) ?_ 0 _ rfl; (with_reducible repeat (first | apply Qae | apply Qah | apply Qag)); apply sv5; (with_reducible repeat (first | apply Qae | apply Qah | apply Qag)); exact BK117.o); have a99 : w99.heap[gb116]? = some (.cells #[.int .i64 0, .string ⟨#[]⟩, .int .u64 0, .int .i64 0, .int .i64 0] 47 (0, 0)) := (by refine Qgm hd99 ?_; repeat (first | (with_reducible exact BK116.o) | (with_reducible refine Qae ?_ _) | (with_reducible refine Qb9 ?_ NB116_117.o _))); have hb99 := Qap (show Below w.heap.size w _ from (by repeat (first | (with_reducible first | exact HB.o | apply Qab | apply Qac | apply Qad | refine Qal ?_ GE117.o) | exact HB.o))) hd99.below; (try clear hcz16_0 hcz16_1 hcz16_2 hcz16_3 hcz16_4 hfz16_0 hfz16_1 hfz16_2 hfz16_3 hfz16_4); clear BK116 BK117 HB hd99; have BK116 := J0.m a99; have BK117 := J0.m b99; have HB := J0.m hb99; have hfy_0 := Qaa b99 0; have hfx_0 := Qaa a99 0; have hfy_1 := Qaa b99 1; have hfx_1 := Qaa a99 1; have hfy_2 := Qaa b99 2; have hfx_2 := Qaa a99 2; have hfy_3 := Qaa b99 3; have hfx_3 := Qaa a99 3; obtain ⟨hcy_0, hcy_1, hcy_2, hcy_3, hcy_4⟩ := (bx5 b99); have hfy_4 := Qaa b99 4; obtain ⟨hcx_0, hcx_1, hcx_2, hcx_3, hcx_4⟩ := (bx5 a99); have hfx_4 := Qaa a99 4; clear a99 b99 hb99))
       refine bodyPost_ret (Qbf rfl _ _ gb116 47 #[.int .i64 1, .string (a0.extract (a1 : Int).toNat (t119 : Int).toNat), .int .u64 0, .int .i64 a1, .int .i64 t119] (0, 0) _ rfl (by (with_reducible repeat (first | apply Qae | apply Qah | apply Qag)); apply sv5; (with_reducible repeat (first | apply Qae | apply Qah | apply Qag)); (repeat (first | (with_reducible exact BK116.o) | (refine Qb9 ?_ NB116_117.o _; (with_reducible repeat (first | apply Qae | apply Qah | apply Qag))))); done) Try.underlying47 rfl (by kernel_rfl)) rfl ?_
       exact ⟨by first | rfl | (simp [Qav, Qau] <;> rfl) | (simp [*, Qav, Qau] <;> rfl), by repeat (first | (with_reducible first | exact HB.o | apply Qab | apply Qac | apply Qad | refine Qal ?_ GE116.o | refine Qal ?_ GE117.o) | exact HB.o)⟩
      ·rw [if_neg c12] at H
       have c12b0 : decide (64 < ((a0.extract (a1 : Int).toNat (t119 : Int).toNat).size : Int)) = false := decide_eq_false c12
       have c12s : decide (64 < (((t119 : Int).toNat - (a1 : Int).toNat : Nat) : Int)) = false := by have z_ : (a0.extract (a1 : Int).toNat (t119 : Int).toNat).size = (t119 : Int).toNat - (a1 : Int).toNat := (by rw [ByteArray.size_extract]; have q_ : (t119 : Int) ≤ (a0.size : Int) := dQ; omega); rw [← z_]; exact c12b0
       have c12b1 : decide (64 < (a0.extract (a1 : Int).toNat (t119 : Int).toNat).size) = false := decide_eq_false (by omega)
       clear c12
       simp only [Option.some.injEq, Prod.mk.injEq] at H
       obtain ⟨rfl, rfl, rfl, rfl, rfl, rfl, rfl⟩ := H
       go_enter Try.func35, Try.ntmps35
       go_wp2_with (first | ((with_reducible refine Qbv (N := 4) rfl ?_); refine Qbn ?hg (N := 4) ?hd (cs := zT0) (t := 47) ?hr ?_; (case hd => rfl); (case hg => rfl); (case hr => first | (go_simp; done) | (go_simp; rfl)); intro gb116 hg w18 hbox hb; have n0_ := J0.m (Qap bR hb); have n1_ := J0.m (hbox); have n2_ := J0.m ((by rw [hg]; exact (Qa8 bR) : w.heap.size ≤ gb116)); have n3_ := n2_; clear HB; have HB := n0_; have BK116 := n1_; have GW116 := n2_; have GE116 := n3_; clear n0_ n1_ n2_ n3_; clear hb hbox hg) | ((with_reducible refine Qbv (N := 7) rfl ?_); refine Qbn ?hg (N := 7) ?hd (cs := zT0) (t := 47) ?hr ?_; (case hd => rfl); (case hg => rfl); (case hr => first | (go_simp; done) | (go_simp; rfl)); intro gb117 hg w19 hbox hb; have n0_ := J0.m (Qai (g := gb116) (o := .cells #[.int .i64 0, .string ⟨#[]⟩, .int .u64 0, .int .i64 0, .int .i64 0] 47 (0, 0)) (by (with_reducible repeat (first | apply Qae | apply Qah | apply Qag)); exact BK116.o) hb); have n1_ := J0.m (Qap (by repeat (first | (with_reducible first | exact HB.o | apply Qab | apply Qac | apply Qad | refine Qal ?_ GE116.o) | exact HB.o)) hb); have n2_ := J0.m (hbox); have n3_ := J0.m ((by rw [hg]; exact (Qa8 (by repeat (first | (with_reducible first | exact HB.o | apply Qab | apply Qac | apply Qad | refine Qal ?_ GE116.o) | exact HB.o))) : w.heap.size ≤ gb117)); have n4_ := n3_; have n5_ := J0.m ((by rw [hg]; exact Nat.ne_of_lt (Qcc (g := gb116) (o := .cells #[.int .i64 0, .string ⟨#[]⟩, .int .u64 0, .int .i64 0, .int .i64 0] 47 (0, 0)) (by (with_reducible repeat (first | apply Qae | apply Qah | apply Qag)); exact BK116.o)) : gb116 ≠ gb117)); have n6_ := J0.m ((by rw [hg]; exact Nat.ne_of_gt (Qcc (g := gb116) (o := .cells #[.int .i64 0, .string ⟨#[]⟩, .int .u64 0, .int .i64 0, .int .i64 0] 47 (0, 0)) (by (with_reducible repeat (first | apply Qae | apply Qah | apply Qag)); exact BK116.o)) : gb117 ≠ gb116)); clear BK116; clear HB; have BK116 := n0_; have HB := n1_; have BK117 := n2_; have GW117 := n3_; have GE117 := n4_; have NB116_117 := n5_; have NB117_116 := n6_; clear n0_ n1_ n2_ n3_ n4_ n5_ n6_; clear hb hbox hg; have hnb20 := NB117_116.o; have hnc20 := NB116_117.o; obtain ⟨hcz21_0, hcz21_1, hcz21_2, hcz21_3, hcz21_4⟩ := (bx5 BK117.o); have hfz21_0 := Qaa BK117.o 0; have hfz21_1 := Qaa BK117.o 1; have hfz21_2 := Qaa BK117.o 2; have hfz21_3 := Qaa BK117.o 3; have hfz21_4 := Qaa BK117.o 4; have p5 : 0 ≤ (a1 : Int) := dQ; have q5 : a1 < (a0.size : Int) := dQ; have hx5 := Qbx a0 a1; replace p5 := eq_true p5; replace q5 := eq_true q5) | ((with_reducible refine Qas (f := 53) rfl ?_); refine Qbm (some 20) rfl rfl Try.func53 (by kernel_rfl) rfl #[.int .u8 (bt a0 a1)] rfl mQ ?_; (with_reducible refine (Qbk.calls (bt a0 a1) true _ A6.o).mono ?_); rintro e w' ⟨rfl, ⟨nd, rfl⟩⟩; refine ⟨_, rfl, ?_⟩) | ((with_reducible refine Qas (f := 54) rfl ?_); refine Qbm (some 24) rfl rfl Try.func54 (by kernel_rfl) rfl #[.string a0, .int .i64 a1, .func (.func 55) #[] #[]] rfl mQ ?_; (with_reducible refine (Qc2.calls a0 a1 55 t119 _ A8.o).mono ?_); rintro e w99 ⟨rfl, hd99⟩; refine ⟨_, rfl, ?_⟩; have b99 : w99.heap[gb117]? = some (.cells #[.int .i64 1, .string ⟨#[]⟩, .int .u64 0, .int .i64 a1, .int .i64 0] 47 (0, 0)) := (by refine Qgm hd99 ?_; (with_reducible repeat (first | apply Qae | apply Qah | apply Qag)); refine Qb4 (cs := #[.int .i64 0, .string ⟨#[]⟩, .int .u64 0, .int .i64 a1, .int .i64 0]) ?_ 0 _ rfl; (with_reducible repeat (first | apply Qae | apply Qah | apply Qag)); apply sv5; (with_reducible repeat (first | apply Qae | apply Qah | apply Qag)); exact BK117.o); have a99 : w99.heap[gb116]? = some (.cells #[.int .i64 0, .string ⟨#[]⟩, .int .u64 0, .int .i64 0, .int .i64 0] 47 (0, 0)) := (by refine Qgm hd99 ?_; repeat (first | (with_reducible exact BK116.o) | (with_reducible refine Qae ?_ _) | (with_reducible refine Qb9 ?_ NB116_117.o _))); have hb99 := Qap (show Below w.heap.size w _ from (by repeat (first | (with_reducible first | exact HB.o | apply Qab | apply Qac | apply Qad | refine Qal ?_ GE117.o) | exact HB.o))) hd99.below; (try clear hcz16_0 hcz16_1 hcz16_2 hcz16_3 hcz16_4 hfz16_0 hfz16_1 hfz16_2 hfz16_3 hfz16_4); clear BK116 BK117 HB hd99; have BK116 := J0.m a99; have BK117 := J0.m b99; have HB := J0.m hb99; have hfy_0 := Qaa b99 0; have hfx_0 := Qaa a99 0; have hfy_1 := Qaa b99 1; have hfx_1 := Qaa a99 1; have hfy_2 := Qaa b99 2; have hfx_2 := Qaa a99 2; have hfy_3 := Qaa b99 3; have hfx_3 := Qaa a99 3; obtain ⟨hcy_0, hcy_1, hcy_2, hcy_3, hcy_4⟩ := (bx5 b99); have hfy_4 := Qaa b99 4; obtain ⟨hcx_0, hcx_1, hcx_2, hcx_3, hcx_4⟩ := (bx5 a99); have hfx_4 := Qaa a99 4; clear a99 b99 hb99))
       refine bodyPost_ret (Qbf rfl _ _ gb116 47 #[.int .i64 1, .string (a0.extract (a1 : Int).toNat (t119 : Int).toNat), .int .u64 0, .int .i64 a1, .int .i64 t119] (0, 0) _ rfl (by (with_reducible repeat (first | apply Qae | apply Qah | apply Qag)); apply sv5; (with_reducible repeat (first | apply Qae | apply Qah | apply Qag)); (repeat (first | (with_reducible exact BK116.o) | (refine Qb9 ?_ NB116_117.o _; (with_reducible repeat (first | apply Qae | apply Qah | apply Qag))))); done) Try.underlying47 rfl (by kernel_rfl)) rfl ?_
       exact ⟨by first | rfl | (simp [Qav, Qau] <;> rfl) | (simp [*, Qav, Qau] <;> rfl), by repeat (first | (with_reducible first | exact HB.o | apply Qab | apply Qac | apply Qad | refine Qal ?_ GE116.o | refine Qal ?_ GE117.o) | exact HB.o)⟩
     ·rw [if_neg c11] at H
      exact absurd H (by simp)
    ·rw [if_neg c10] at H
     exact absurd H (by simp)
   ·replace c7 := Bool.eq_false_iff.mpr c7
    subst c7
    have H1 : ((Qbj.f (bt a0 a1)).bind fun t120 => (if t120 = true then ((Qc2.f a0 a1 56).bind fun t121 => (if a1 ≤ t121 then (if t121 ≤ (a0.size : Int) then ((Qce.f (a0.extract (a1 : Int).toNat (t121 : Int).toNat)).bind fun bt122 => (if bt122.2 = true then (some (2, (⟨#[]⟩ : ByteArray), bt122.1, a1, t121, 0, 0)) else (some (2, (⟨#[]⟩ : ByteArray), 0, a1, t121, a1, 111)))) else (none)) else (none))) else (if (bt a0 a1) = 34 then ((Qa3.f k a0 a1).bind fun bt124 => (some (bt124.1, bt124.2.1, bt124.2.2.1, bt124.2.2.2.1, bt124.2.2.2.2.1, bt124.2.2.2.2.2.1, bt124.2.2.2.2.2.2))) else ((strings_IndexByte.f (⟨#[123, 125, 40, 41, 58, 59, 44, 61, 43, 45, 42]⟩ : ByteArray) (bt a0 a1)).bind fun t131 => (if t131 ≥ 0 then (if a1 ≤ (wrap64 (a1 + 1)) then (if (wrap64 (a1 + 1)) ≤ (a0.size : Int) then (some (4, a0.extract (a1 : Int).toNat ((wrap64 (a1 + 1)) : Int).toNat, 0, a1, wrap64 (a1 + 1), 0, 0)) else (none)) else (none)) else (some (0, (⟨#[]⟩ : ByteArray), 0, a1, 0, a1, 80))))))) = some (r1, r2, r3, r4, r5, r6, r7) := by rw [if_neg (show ¬ (false = true) by decide)] at H; exact H
    clear H
    have H := H1
    clear H1
    replace H := Option.bind_eq_some_iff.mp H
    obtain ⟨t120, A230, H⟩ := H
    replace H : (if t120 = true then ((Qc2.f a0 a1 56).bind fun t121 => (if a1 ≤ t121 then (if t121 ≤ (a0.size : Int) then ((Qce.f (a0.extract (a1 : Int).toNat (t121 : Int).toNat)).bind fun bt122 => (if bt122.2 = true then (some (2, (⟨#[]⟩ : ByteArray), bt122.1, a1, t121, 0, 0)) else (some (2, (⟨#[]⟩ : ByteArray), 0, a1, t121, a1, 111)))) else (none)) else (none))) else (if (bt a0 a1) = 34 then ((Qa3.f k a0 a1).bind fun bt124 => (some (bt124.1, bt124.2.1, bt124.2.2.1, bt124.2.2.2.1, bt124.2.2.2.2.1, bt124.2.2.2.2.2.1, bt124.2.2.2.2.2.2))) else ((strings_IndexByte.f (⟨#[123, 125, 40, 41, 58, 59, 44, 61, 43, 45, 42]⟩ : ByteArray) (bt a0 a1)).bind fun t131 => (if t131 ≥ 0 then (if a1 ≤ (wrap64 (a1 + 1)) then (if (wrap64 (a1 + 1)) ≤ (a0.size : Int) then (some (4, a0.extract (a1 : Int).toNat ((wrap64 (a1 + 1)) : Int).toNat, 0, a1, wrap64 (a1 + 1), 0, 0)) else (none)) else (none)) else (some (0, (⟨#[]⟩ : ByteArray), 0, a1, 0, a1, 80)))))) = some (r1, r2, r3, r4, r5, r6, r7) := H
    have A23 := J0.m A230
    clear A230
    by_cases c24 : t120 = true
    ·subst c24
     have H1 : ((Qc2.f a0 a1 56).bind fun t121 => (if a1 ≤ t121 then (if t121 ≤ (a0.size : Int) then ((Qce.f (a0.extract (a1 : Int).toNat (t121 : Int).toNat)).bind fun bt122 => (if bt122.2 = true then (some (2, (⟨#[]⟩ : ByteArray), bt122.1, a1, t121, 0, 0)) else (some (2, (⟨#[]⟩ : ByteArray), 0, a1, t121, a1, 111)))) else (none)) else (none))) = some (r1, r2, r3, r4, r5, r6, r7) := by rw [if_pos rfl] at H; exact H
     clear H
     have H := H1
     clear H1
     replace H := Option.bind_eq_some_iff.mp H
     obtain ⟨t121, A250, H⟩ := H
     replace H : (if a1 ≤ t121 then (if t121 ≤ (a0.size : Int) then ((Qce.f (a0.extract (a1 : Int).toNat (t121 : Int).toNat)).bind fun bt122 => (if bt122.2 = true then (some (2, (⟨#[]⟩ : ByteArray), bt122.1, a1, t121, 0, 0)) else (some (2, (⟨#[]⟩ : ByteArray), 0, a1, t121, a1, 111)))) else (none)) else (none)) = some (r1, r2, r3, r4, r5, r6, r7) := H
     have A25 := J0.m A250
     clear A250
     have c26b0 := eq_true (dQ : 0 ≤ a1)
     by_cases c27 : a1 ≤ t121
     ·rw [if_pos c27] at H
      have c27b0 := eq_true c27
      have c27b1 : decide (a1 ≤ t121) = true := decide_eq_true c27
      clear c27
      by_cases c28 : t121 ≤ (a0.size : Int)
      ·rw [if_pos c28] at H
       have c28b0 := eq_true c28
       have c28b1 : decide (t121 ≤ (a0.size : Int)) = true := decide_eq_true c28
       clear c28
       replace H := Option.bind_eq_some_iff.mp H
       obtain ⟨⟨t122, t123⟩, A290, H⟩ := H
       replace H : (if t123 = true then (some (2, (⟨#[]⟩ : ByteArray), t122, a1, t121, 0, 0)) else (some (2, (⟨#[]⟩ : ByteArray), 0, a1, t121, a1, 111))) = some (r1, r2, r3, r4, r5, r6, r7) := H
       have A29 := J0.m A290
       clear A290
       by_cases c30 : t123 = true
       ·subst c30
        have H1 : (some (2, (⟨#[]⟩ : ByteArray), t122, a1, t121, 0, 0)) = some (r1, r2, r3, r4, r5, r6, r7) := by rw [if_pos rfl] at H; exact H
        clear H
        have H := H1
        clear H1
        simp only [Option.some.injEq, Prod.mk.injEq] at H
        obtain ⟨rfl, rfl, rfl, rfl, rfl, rfl, rfl⟩ := H
        go_enter Try.func35, Try.ntmps35
        go_wp2_with (first | ((with_reducible refine Qbv (N := 4) rfl ?_); refine Qbn ?hg (N := 4) ?hd (cs := zT0) (t := 47) ?hr ?_; (case hd => rfl); (case hg => rfl); (case hr => first | (go_simp; done) | (go_simp; rfl)); intro gb116 hg w31 hbox hb; have n0_ := J0.m (Qap bR hb); have n1_ := J0.m (hbox); have n2_ := J0.m ((by rw [hg]; exact (Qa8 bR) : w.heap.size ≤ gb116)); have n3_ := n2_; clear HB; have HB := n0_; have BK116 := n1_; have GW116 := n2_; have GE116 := n3_; clear n0_ n1_ n2_ n3_; clear hb hbox hg) | ((with_reducible refine Qbv (N := 7) rfl ?_); refine Qbn ?hg (N := 7) ?hd (cs := zT0) (t := 47) ?hr ?_; (case hd => rfl); (case hg => rfl); (case hr => first | (go_simp; done) | (go_simp; rfl)); intro gb117 hg w32 hbox hb; have n0_ := J0.m (Qai (g := gb116) (o := .cells #[.int .i64 0, .string ⟨#[]⟩, .int .u64 0, .int .i64 0, .int .i64 0] 47 (0, 0)) (by (with_reducible repeat (first | apply Qae | apply Qah | apply Qag)); exact BK116.o) hb); have n1_ := J0.m (Qap (by repeat (first | (with_reducible first | exact HB.o | apply Qab | apply Qac | apply Qad | refine Qal ?_ GE116.o) | exact HB.o)) hb); have n2_ := J0.m (hbox); have n3_ := J0.m ((by rw [hg]; exact (Qa8 (by repeat (first | (with_reducible first | exact HB.o | apply Qab | apply Qac | apply Qad | refine Qal ?_ GE116.o) | exact HB.o))) : w.heap.size ≤ gb117)); have n4_ := n3_; have n5_ := J0.m ((by rw [hg]; exact Nat.ne_of_lt (Qcc (g := gb116) (o := .cells #[.int .i64 0, .string ⟨#[]⟩, .int .u64 0, .int .i64 0, .int .i64 0] 47 (0, 0)) (by (with_reducible repeat (first | apply Qae | apply Qah | apply Qag)); exact BK116.o)) : gb116 ≠ gb117)); have n6_ := J0.m ((by rw [hg]; exact Nat.ne_of_gt (Qcc (g := gb116) (o := .cells #[.int .i64 0, .string ⟨#[]⟩, .int .u64 0, .int .i64 0, .int .i64 0] 47 (0, 0)) (by (with_reducible repeat (first | apply Qae | apply Qah | apply Qag)); exact BK116.o)) : gb117 ≠ gb116)); clear BK116; clear HB; have BK116 := n0_; have HB := n1_; have BK117 := n2_; have GW117 := n3_; have GE117 := n4_; have NB116_117 := n5_; have NB117_116 := n6_; clear n0_ n1_ n2_ n3_ n4_ n5_ n6_; clear hb hbox hg; have hnb33 := NB117_116.o; have hnc33 := NB116_117.o; obtain ⟨hcz34_0, hcz34_1, hcz34_2, hcz34_3, hcz34_4⟩ := (bx5 BK117.o); have hfz34_0 := Qaa BK117.o 0; have hfz34_1 := Qaa BK117.o 1; have hfz34_2 := Qaa BK117.o 2; have hfz34_3 := Qaa BK117.o 3; have hfz34_4 := Qaa BK117.o 4; have p5 : 0 ≤ (a1 : Int) := dQ; have q5 : a1 < (a0.size : Int) := dQ; have hx5 := Qbx a0 a1; replace p5 := eq_true p5; replace q5 := eq_true q5) | ((with_reducible refine Qas (f := 53) rfl ?_); refine Qbm (some 20) rfl rfl Try.func53 (by kernel_rfl) rfl #[.int .u8 (bt a0 a1)] rfl mQ ?_; (with_reducible refine (Qbk.calls (bt a0 a1) false _ A6.o).mono ?_); rintro e w' ⟨rfl, ⟨nd, rfl⟩⟩; refine ⟨_, rfl, ?_⟩) | ((with_reducible refine Qas (f := 56) rfl ?_); refine Qbm (some 40) rfl rfl Try.func56 (by kernel_rfl) rfl #[.int .u8 (bt a0 a1)] rfl mQ ?_; (with_reducible refine (Qbj.calls (bt a0 a1) true _ A23.o).mono ?_); rintro e w' ⟨rfl, ⟨nd, rfl⟩⟩; refine ⟨_, rfl, ?_⟩) | ((with_reducible refine Qas (f := 54) rfl ?_); refine Qbm (some 44) rfl rfl Try.func54 (by kernel_rfl) rfl #[.string a0, .int .i64 a1, .func (.func 56) #[] #[]] rfl mQ ?_; (with_reducible refine (Qc2.calls a0 a1 56 t121 _ A25.o).mono ?_); rintro e w99 ⟨rfl, hd99⟩; refine ⟨_, rfl, ?_⟩; have b99 : w99.heap[gb117]? = some (.cells #[.int .i64 2, .string ⟨#[]⟩, .int .u64 0, .int .i64 a1, .int .i64 0] 47 (0, 0)) := (by refine Qgm hd99 ?_; (with_reducible repeat (first | apply Qae | apply Qah | apply Qag)); refine Qb4 (cs := #[.int .i64 0, .string ⟨#[]⟩, .int .u64 0, .int .i64 a1, .int .i64 0]) ?_ 0 _ rfl; (with_reducible repeat (first | apply Qae | apply Qah | apply Qag)); apply sv5; (with_reducible repeat (first | apply Qae | apply Qah | apply Qag)); exact BK117.o); have a99 : w99.heap[gb116]? = some (.cells #[.int .i64 0, .string ⟨#[]⟩, .int .u64 0, .int .i64 0, .int .i64 0] 47 (0, 0)) := (by refine Qgm hd99 ?_; repeat (first | (with_reducible exact BK116.o) | (with_reducible refine Qae ?_ _) | (with_reducible refine Qb9 ?_ NB116_117.o _))); have hb99 := Qap (show Below w.heap.size w _ from (by repeat (first | (with_reducible first | exact HB.o | apply Qab | apply Qac | apply Qad | refine Qal ?_ GE117.o) | exact HB.o))) hd99.below; (try clear hcz16_0 hcz16_1 hcz16_2 hcz16_3 hcz16_4 hfz16_0 hfz16_1 hfz16_2 hfz16_3 hfz16_4); clear BK116 BK117 HB hd99; have BK116 := J0.m a99; have BK117 := J0.m b99; have HB := J0.m hb99; have hfy_0 := Qaa b99 0; have hfx_0 := Qaa a99 0; have hfy_1 := Qaa b99 1; have hfx_1 := Qaa a99 1; have hfy_2 := Qaa b99 2; have hfx_2 := Qaa a99 2; have hfy_3 := Qaa b99 3; have hfx_3 := Qaa a99 3; obtain ⟨hcy_0, hcy_1, hcy_2, hcy_3, hcy_4⟩ := (bx5 b99); have hfy_4 := Qaa b99 4; obtain ⟨hcx_0, hcx_1, hcx_2, hcx_3, hcx_4⟩ := (bx5 a99); have hfx_4 := Qaa a99 4; clear a99 b99 hb99) | ((with_reducible refine Qas (f := 57) rfl ?_); refine Qbm (some 52) rfl rfl Try.func57 (by kernel_rfl) rfl #[.string (a0.extract (a1 : Int).toNat (t121 : Int).toNat)] rfl mQ ?_; (with_reducible refine (Qce.calls (a0.extract (a1 : Int).toNat (t121 : Int).toNat) t122 true _ A29.o).mono ?_); rintro e w' ⟨rfl, ⟨nd, rfl⟩⟩; refine ⟨_, rfl, ?_⟩; obtain ⟨hcz35_0, hcz35_1, hcz35_2, hcz35_3, hcz35_4⟩ := (bx5 BK116.o); have hfz35_0 := Qaa BK116.o 0; have hfz35_1 := Qaa BK116.o 1; have hfz35_2 := Qaa BK116.o 2; have hfz35_3 := Qaa BK116.o 3; have hfz35_4 := Qaa BK116.o 4))
        refine bodyPost_ret (Qbf rfl _ _ gb116 47 #[.int .i64 2, .string ⟨#[]⟩, .int .u64 t122, .int .i64 a1, .int .i64 t121] (0, 0) _ rfl (by (with_reducible repeat (first | apply Qae | apply Qah | apply Qag)); apply sv5; (with_reducible repeat (first | apply Qae | apply Qah | apply Qag)); (repeat (first | (with_reducible exact BK116.o) | (refine Qb9 ?_ NB116_117.o _; (with_reducible repeat (first | apply Qae | apply Qah | apply Qag))))); done) Try.underlying47 rfl (by kernel_rfl)) rfl ?_
        exact ⟨by first | rfl | (simp [Qav, Qau] <;> rfl) | (simp [*, Qav, Qau] <;> rfl), by repeat (first | (with_reducible first | exact HB.o | apply Qab | apply Qac | apply Qad | refine Qal ?_ GE116.o | refine Qal ?_ GE117.o) | exact HB.o)⟩
       ·replace c30 := Bool.eq_false_iff.mpr c30
        subst c30
        have H1 : (some (2, (⟨#[]⟩ : ByteArray), 0, a1, t121, a1, 111)) = some (r1, r2, r3, r4, r5, r6, r7) := by rw [if_neg (show ¬ (false = true) by decide)] at H; exact H
        clear H
        have H := H1
        clear H1
        simp only [Option.some.injEq, Prod.mk.injEq] at H
        obtain ⟨rfl, rfl, rfl, rfl, rfl, rfl, rfl⟩ := H
        go_enter Try.func35, Try.ntmps35
        go_wp2_with (first | ((with_reducible refine Qbv (N := 4) rfl ?_); refine Qbn ?hg (N := 4) ?hd (cs := zT0) (t := 47) ?hr ?_; (case hd => rfl); (case hg => rfl); (case hr => first | (go_simp; done) | (go_simp; rfl)); intro gb116 hg w36 hbox hb; have n0_ := J0.m (Qap bR hb); have n1_ := J0.m (hbox); have n2_ := J0.m ((by rw [hg]; exact (Qa8 bR) : w.heap.size ≤ gb116)); have n3_ := n2_; clear HB; have HB := n0_; have BK116 := n1_; have GW116 := n2_; have GE116 := n3_; clear n0_ n1_ n2_ n3_; clear hb hbox hg) | ((with_reducible refine Qbv (N := 7) rfl ?_); refine Qbn ?hg (N := 7) ?hd (cs := zT0) (t := 47) ?hr ?_; (case hd => rfl); (case hg => rfl); (case hr => first | (go_simp; done) | (go_simp; rfl)); intro gb117 hg w37 hbox hb; have n0_ := J0.m (Qai (g := gb116) (o := .cells #[.int .i64 0, .string ⟨#[]⟩, .int .u64 0, .int .i64 0, .int .i64 0] 47 (0, 0)) (by (with_reducible repeat (first | apply Qae | apply Qah | apply Qag)); exact BK116.o) hb); have n1_ := J0.m (Qap (by repeat (first | (with_reducible first | exact HB.o | apply Qab | apply Qac | apply Qad | refine Qal ?_ GE116.o) | exact HB.o)) hb); have n2_ := J0.m (hbox); have n3_ := J0.m ((by rw [hg]; exact (Qa8 (by repeat (first | (with_reducible first | exact HB.o | apply Qab | apply Qac | apply Qad | refine Qal ?_ GE116.o) | exact HB.o))) : w.heap.size ≤ gb117)); have n4_ := n3_; have n5_ := J0.m ((by rw [hg]; exact Nat.ne_of_lt (Qcc (g := gb116) (o := .cells #[.int .i64 0, .string ⟨#[]⟩, .int .u64 0, .int .i64 0, .int .i64 0] 47 (0, 0)) (by (with_reducible repeat (first | apply Qae | apply Qah | apply Qag)); exact BK116.o)) : gb116 ≠ gb117)); have n6_ := J0.m ((by rw [hg]; exact Nat.ne_of_gt (Qcc (g := gb116) (o := .cells #[.int .i64 0, .string ⟨#[]⟩, .int .u64 0, .int .i64 0, .int .i64 0] 47 (0, 0)) (by (with_reducible repeat (first | apply Qae | apply Qah | apply Qag)); exact BK116.o)) : gb117 ≠ gb116)); clear BK116; clear HB; have BK116 := n0_; have HB := n1_; have BK117 := n2_; have GW117 := n3_; have GE117 := n4_; have NB116_117 := n5_; have NB117_116 := n6_; clear n0_ n1_ n2_ n3_ n4_ n5_ n6_; clear hb hbox hg; have hnb38 := NB117_116.o; have hnc38 := NB116_117.o; obtain ⟨hcz39_0, hcz39_1, hcz39_2, hcz39_3, hcz39_4⟩ := (bx5 BK117.o); have hfz39_0 := Qaa BK117.o 0; have hfz39_1 := Qaa BK117.o 1; have hfz39_2 := Qaa BK117.o 2; have hfz39_3 := Qaa BK117.o 3; have hfz39_4 := Qaa BK117.o 4; have p5 : 0 ≤ (a1 : Int) := dQ; have q5 : a1 < (a0.size : Int) := dQ; have hx5 := Qbx a0 a1; replace p5 := eq_true p5; replace q5 := eq_true q5) | ((with_reducible refine Qas (f := 53) rfl ?_); refine Qbm (some 20) rfl rfl Try.func53 (by kernel_rfl) rfl #[.int .u8 (bt a0 a1)] rfl mQ ?_; (with_reducible refine (Qbk.calls (bt a0 a1) false _ A6.o).mono ?_); rintro e w' ⟨rfl, ⟨nd, rfl⟩⟩; refine ⟨_, rfl, ?_⟩) | ((with_reducible refine Qas (f := 56) rfl ?_); refine Qbm (some 40) rfl rfl Try.func56 (by kernel_rfl) rfl #[.int .u8 (bt a0 a1)] rfl mQ ?_; (with_reducible refine (Qbj.calls (bt a0 a1) true _ A23.o).mono ?_); rintro e w' ⟨rfl, ⟨nd, rfl⟩⟩; refine ⟨_, rfl, ?_⟩) | ((with_reducible refine Qas (f := 54) rfl ?_); refine Qbm (some 44) rfl rfl Try.func54 (by kernel_rfl) rfl #[.string a0, .int .i64 a1, .func (.func 56) #[] #[]] rfl mQ ?_; (with_reducible refine (Qc2.calls a0 a1 56 t121 _ A25.o).mono ?_); rintro e w99 ⟨rfl, hd99⟩; refine ⟨_, rfl, ?_⟩; have b99 : w99.heap[gb117]? = some (.cells #[.int .i64 2, .string ⟨#[]⟩, .int .u64 0, .int .i64 a1, .int .i64 0] 47 (0, 0)) := (by refine Qgm hd99 ?_; (with_reducible repeat (first | apply Qae | apply Qah | apply Qag)); refine Qb4 (cs := #[.int .i64 0, .string ⟨#[]⟩, .int .u64 0, .int .i64 a1, .int .i64 0]) ?_ 0 _ rfl; (with_reducible repeat (first | apply Qae | apply Qah | apply Qag)); apply sv5; (with_reducible repeat (first | apply Qae | apply Qah | apply Qag)); exact BK117.o); have a99 : w99.heap[gb116]? = some (.cells #[.int .i64 0, .string ⟨#[]⟩, .int .u64 0, .int .i64 0, .int .i64 0] 47 (0, 0)) := (by refine Qgm hd99 ?_; repeat (first | (with_reducible exact BK116.o) | (with_reducible refine Qae ?_ _) | (with_reducible refine Qb9 ?_ NB116_117.o _))); have hb99 := Qap (show Below w.heap.size w _ from (by repeat (first | (with_reducible first | exact HB.o | apply Qab | apply Qac | apply Qad | refine Qal ?_ GE117.o) | exact HB.o))) hd99.below; (try clear hcz16_0 hcz16_1 hcz16_2 hcz16_3 hcz16_4 hfz16_0 hfz16_1 hfz16_2 hfz16_3 hfz16_4); clear BK116 BK117 HB hd99; have BK116 := J0.m a99; have BK117 := J0.m b99; have HB := J0.m hb99; have hfy_0 := Qaa b99 0; have hfx_0 := Qaa a99 0; have hfy_1 := Qaa b99 1; have hfx_1 := Qaa a99 1; have hfy_2 := Qaa b99 2; have hfx_2 := Qaa a99 2; have hfy_3 := Qaa b99 3; have hfx_3 := Qaa a99 3; obtain ⟨hcy_0, hcy_1, hcy_2, hcy_3, hcy_4⟩ := (bx5 b99); have hfy_4 := Qaa b99 4; obtain ⟨hcx_0, hcx_1, hcx_2, hcx_3, hcx_4⟩ := (bx5 a99); have hfx_4 := Qaa a99 4; clear a99 b99 hb99) | ((with_reducible refine Qas (f := 57) rfl ?_); refine Qbm (some 52) rfl rfl Try.func57 (by kernel_rfl) rfl #[.string (a0.extract (a1 : Int).toNat (t121 : Int).toNat)] rfl mQ ?_; (with_reducible refine (Qce.calls (a0.extract (a1 : Int).toNat (t121 : Int).toNat) t122 false _ A29.o).mono ?_); rintro e w' ⟨rfl, ⟨nd, rfl⟩⟩; refine ⟨_, rfl, ?_⟩; obtain ⟨hcz40_0, hcz40_1, hcz40_2, hcz40_3, hcz40_4⟩ := (bx5 BK116.o); have hfz40_0 := Qaa BK116.o 0; have hfz40_1 := Qaa BK116.o 1; have hfz40_2 := Qaa BK116.o 2; have hfz40_3 := Qaa BK116.o 3; have hfz40_4 := Qaa BK116.o 4))
        refine bodyPost_ret (Qbf rfl _ _ gb116 47 #[.int .i64 2, .string ⟨#[]⟩, .int .u64 0, .int .i64 a1, .int .i64 t121] (0, 0) _ rfl (by (with_reducible repeat (first | apply Qae | apply Qah | apply Qag)); apply sv5; (with_reducible repeat (first | apply Qae | apply Qah | apply Qag)); (repeat (first | (with_reducible exact BK116.o) | (refine Qb9 ?_ NB116_117.o _; (with_reducible repeat (first | apply Qae | apply Qah | apply Qag))))); done) Try.underlying47 rfl (by kernel_rfl)) rfl ?_
        exact ⟨by first | rfl | (simp [Qav, Qau] <;> rfl) | (simp [*, Qav, Qau] <;> rfl), by repeat (first | (with_reducible first | exact HB.o | apply Qab | apply Qac | apply Qad | refine Qal ?_ GE116.o | refine Qal ?_ GE117.o) | exact HB.o)⟩
      ·rw [if_neg c28] at H
       exact absurd H (by simp)
     ·rw [if_neg c27] at H
      exact absurd H (by simp)
    ·replace c24 := Bool.eq_false_iff.mpr c24
     subst c24
     have H1 : (if (bt a0 a1) = 34 then ((Qa3.f k a0 a1).bind fun bt124 => (some (bt124.1, bt124.2.1, bt124.2.2.1, bt124.2.2.2.1, bt124.2.2.2.2.1, bt124.2.2.2.2.2.1, bt124.2.2.2.2.2.2))) else ((strings_IndexByte.f (⟨#[123, 125, 40, 41, 58, 59, 44, 61, 43, 45, 42]⟩ : ByteArray) (bt a0 a1)).bind fun t131 => (if t131 ≥ 0 then (if a1 ≤ (wrap64 (a1 + 1)) then (if (wrap64 (a1 + 1)) ≤ (a0.size : Int) then (some (4, a0.extract (a1 : Int).toNat ((wrap64 (a1 + 1)) : Int).toNat, 0, a1, wrap64 (a1 + 1), 0, 0)) else (none)) else (none)) else (some (0, (⟨#[]⟩ : ByteArray), 0, a1, 0, a1, 80))))) = some (r1, r2, r3, r4, r5, r6, r7) := by rw [if_neg (show ¬ (false = true) by decide)] at H; exact H
     clear H
     have H := H1
     clear H1
     by_cases c41 : (bt a0 a1) = 34
     ·rw [if_pos c41] at H
      have c41b0 : ((bt a0 a1) == 34) = true := beq_iff_eq.mpr c41
      have c41b1 : ((bt a0 a1) != 34) = false := bne_eq_false_iff_eq.mpr c41
      clear c41
      replace H := Option.bind_eq_some_iff.mp H
      obtain ⟨⟨t124, t125, t126, t127, t128, t129, t130⟩, A420, H⟩ := H
      replace H : (some (t124, t125, t126, t127, t128, t129, t130)) = some (r1, r2, r3, r4, r5, r6, r7) := H
      have A42 := J0.m A420
      clear A420
      simp only [Option.some.injEq, Prod.mk.injEq] at H
      obtain ⟨rfl, rfl, rfl, rfl, rfl, rfl, rfl⟩ := H
      go_enter Try.func35, Try.ntmps35
      go_wp2_with (first | ((with_reducible refine Qbv (N := 4) rfl ?_); refine Qbn ?hg (N := 4) ?hd (cs := zT0) (t := 47) ?hr ?_; (case hd => rfl); (case hg => rfl); (case hr => first | (go_simp; done) | (go_simp; rfl)); intro gb116 hg w43 hbox hb; have n0_ := J0.m (Qap bR hb); have n1_ := J0.m (hbox); have n2_ := J0.m ((by rw [hg]; exact (Qa8 bR) : w.heap.size ≤ gb116)); have n3_ := n2_; clear HB; have HB := n0_; have BK116 := n1_; have GW116 := n2_; have GE116 := n3_; clear n0_ n1_ n2_ n3_; clear hb hbox hg) | ((with_reducible refine Qbv (N := 7) rfl ?_); refine Qbn ?hg (N := 7) ?hd (cs := zT0) (t := 47) ?hr ?_; (case hd => rfl); (case hg => rfl); (case hr => first | (go_simp; done) | (go_simp; rfl)); intro gb117 hg w44 hbox hb; have n0_ := J0.m (Qai (g := gb116) (o := .cells #[.int .i64 0, .string ⟨#[]⟩, .int .u64 0, .int .i64 0, .int .i64 0] 47 (0, 0)) (by (with_reducible repeat (first | apply Qae | apply Qah | apply Qag)); exact BK116.o) hb); have n1_ := J0.m (Qap (by repeat (first | (with_reducible first | exact HB.o | apply Qab | apply Qac | apply Qad | refine Qal ?_ GE116.o) | exact HB.o)) hb); have n2_ := J0.m (hbox); have n3_ := J0.m ((by rw [hg]; exact (Qa8 (by repeat (first | (with_reducible first | exact HB.o | apply Qab | apply Qac | apply Qad | refine Qal ?_ GE116.o) | exact HB.o))) : w.heap.size ≤ gb117)); have n4_ := n3_; have n5_ := J0.m ((by rw [hg]; exact Nat.ne_of_lt (Qcc (g := gb116) (o := .cells #[.int .i64 0, .string ⟨#[]⟩, .int .u64 0, .int .i64 0, .int .i64 0] 47 (0, 0)) (by (with_reducible repeat (first | apply Qae | apply Qah | apply Qag)); exact BK116.o)) : gb116 ≠ gb117)); have n6_ := J0.m ((by rw [hg]; exact Nat.ne_of_gt (Qcc (g := gb116) (o := .cells #[.int .i64 0, .string ⟨#[]⟩, .int .u64 0, .int .i64 0, .int .i64 0] 47 (0, 0)) (by (with_reducible repeat (first | apply Qae | apply Qah | apply Qag)); exact BK116.o)) : gb117 ≠ gb116)); clear BK116; clear HB; have BK116 := n0_; have HB := n1_; have BK117 := n2_; have GW117 := n3_; have GE117 := n4_; have NB116_117 := n5_; have NB117_116 := n6_; clear n0_ n1_ n2_ n3_ n4_ n5_ n6_; clear hb hbox hg; have hnb45 := NB117_116.o; have hnc45 := NB116_117.o; obtain ⟨hcz46_0, hcz46_1, hcz46_2, hcz46_3, hcz46_4⟩ := (bx5 BK117.o); have hfz46_0 := Qaa BK117.o 0; have hfz46_1 := Qaa BK117.o 1; have hfz46_2 := Qaa BK117.o 2; have hfz46_3 := Qaa BK117.o 3; have hfz46_4 := Qaa BK117.o 4; have p5 : 0 ≤ (a1 : Int) := dQ; have q5 : a1 < (a0.size : Int) := dQ; have hx5 := Qbx a0 a1; replace p5 := eq_true p5; replace q5 := eq_true q5) | ((with_reducible refine Qas (f := 53) rfl ?_); refine Qbm (some 20) rfl rfl Try.func53 (by kernel_rfl) rfl #[.int .u8 (bt a0 a1)] rfl mQ ?_; (with_reducible refine (Qbk.calls (bt a0 a1) false _ A6.o).mono ?_); rintro e w' ⟨rfl, ⟨nd, rfl⟩⟩; refine ⟨_, rfl, ?_⟩) | ((with_reducible refine Qas (f := 56) rfl ?_); refine Qbm (some 40) rfl rfl Try.func56 (by kernel_rfl) rfl #[.int .u8 (bt a0 a1)] rfl mQ ?_; (with_reducible refine (Qbj.calls (bt a0 a1) false _ A23.o).mono ?_); rintro e w' ⟨rfl, ⟨nd, rfl⟩⟩; refine ⟨_, rfl, ?_⟩) | ((with_reducible refine Qas (f := 58) rfl ?_); refine Qbm (some 66) rfl rfl Try.func58 (by kernel_rfl) rfl #[.string a0, .int .i64 a1] rfl mQ ?_; (with_reducible refine (Qa3.calls k a0 a1 t124 t125 t126 t127 t128 t129 t130 _ A42.o).mono ?_); rintro e w47 ⟨rfl, hb⟩; refine ⟨_, rfl, ?_⟩; have n0_ := J0.m (Qai (g := gb116) (o := .cells #[.int .i64 0, .string ⟨#[]⟩, .int .u64 0, .int .i64 0, .int .i64 0] 47 (0, 0)) (by (with_reducible repeat (first | apply Qae | apply Qah | apply Qag)); refine Qb9 ?_ NB116_117.o _; (with_reducible repeat (first | apply Qae | apply Qah | apply Qag)); refine Qb9 ?_ NB116_117.o _; (with_reducible repeat (first | apply Qae | apply Qah | apply Qag)); refine Qb9 ?_ NB116_117.o _; (with_reducible repeat (first | apply Qae | apply Qah | apply Qag)); refine Qb9 ?_ NB116_117.o _; (with_reducible repeat (first | apply Qae | apply Qah | apply Qag)); refine Qb9 ?_ NB116_117.o _; (with_reducible repeat (first | apply Qae | apply Qah | apply Qag)); exact BK116.o) hb); have n1_ := J0.m (Qai (g := gb117) (o := .cells #[.int .i64 0, .string ⟨#[]⟩, .int .u64 0, .int .i64 a1, .int .i64 0] 47 (0, 0)) (by (with_reducible repeat (first | apply Qae | apply Qah | apply Qag)); apply sv5; (with_reducible repeat (first | apply Qae | apply Qah | apply Qag)); exact BK117.o) hb); have n2_ := J0.m (Qap (by repeat (first | (with_reducible first | exact HB.o | apply Qab | apply Qac | apply Qad | refine Qal ?_ GE116.o | refine Qal ?_ GE117.o) | exact HB.o)) hb); clear BK116; clear BK117; clear HB; have BK116 := n0_; have BK117 := n1_; have HB := n2_; clear n0_ n1_ n2_; (try clear hb); (try clear hb2); (try clear hk); (try clear hi); obtain ⟨hcz48_0, hcz48_1, hcz48_2, hcz48_3, hcz48_4⟩ := (bx5 BK116.o); have hfz48_0 := Qaa BK116.o 0; have hfz48_1 := Qaa BK116.o 1; have hfz48_2 := Qaa BK116.o 2; have hfz48_3 := Qaa BK116.o 3; have hfz48_4 := Qaa BK116.o 4))
      refine bodyPost_ret (Qbf rfl _ _ gb116 47 #[.int .i64 t124, .string t125, .int .u64 t126, .int .i64 t127, .int .i64 t128] (0, 0) _ rfl (by (with_reducible repeat (first | apply Qae | apply Qah | apply Qag)); apply sv5; (with_reducible repeat (first | apply Qae | apply Qah | apply Qag)); exact BK116.o) Try.underlying47 rfl (by kernel_rfl)) rfl ?_
      exact ⟨by first | rfl | (simp [Qav, Qau] <;> rfl) | (simp [*, Qav, Qau] <;> rfl), by repeat (first | (with_reducible first | exact HB.o | apply Qab | apply Qac | apply Qad | refine Qal ?_ GE116.o | refine Qal ?_ GE117.o) | exact HB.o)⟩
     ·rw [if_neg c41] at H
      have c41b0 : ((bt a0 a1) == 34) = false := beq_eq_false_iff_ne.mpr c41
      have c41b1 : ((bt a0 a1) != 34) = true := bne_iff_ne.mpr c41
      replace H := Option.bind_eq_some_iff.mp H
      obtain ⟨t131, A490, H⟩ := H
      replace H : (if t131 ≥ 0 then (if a1 ≤ (wrap64 (a1 + 1)) then (if (wrap64 (a1 + 1)) ≤ (a0.size : Int) then (some (4, a0.extract (a1 : Int).toNat ((wrap64 (a1 + 1)) : Int).toNat, 0, a1, wrap64 (a1 + 1), 0, 0)) else (none)) else (none)) else (some (0, (⟨#[]⟩ : ByteArray), 0, a1, 0, a1, 80))) = some (r1, r2, r3, r4, r5, r6, r7) := H
      have A49 := J0.m A490
      clear A490
      by_cases c50 : t131 ≥ 0
      ·rw [if_pos c50] at H
       have c50b0 : decide (0 ≤ t131) = true := decide_eq_true c50
       clear c50
       have c51b0 := eq_true (dQ : 0 ≤ a1)
       by_cases c52 : a1 ≤ (wrap64 (a1 + 1))
       ·rw [if_pos c52] at H
        have c52b0 := eq_true c52
        have c52b1 : decide (a1 ≤ (wrap64 (a1 + 1))) = true := decide_eq_true c52
        by_cases c53 : (wrap64 (a1 + 1)) ≤ (a0.size : Int)
        ·rw [if_pos c53] at H
         have c53b0 := eq_true c53
         have c53b1 : decide ((wrap64 (a1 + 1)) ≤ (a0.size : Int)) = true := decide_eq_true c53
         simp only [Option.some.injEq, Prod.mk.injEq] at H
         obtain ⟨rfl, rfl, rfl, rfl, rfl, rfl, rfl⟩ := H
         go_enter Try.func35, Try.ntmps35
         try go_wp2_with (first | ((with_reducible refine Qbv (N := 4) rfl ?_); refine Qbn ?hg (N := 4) ?hd (cs := zT0) (t := 47) ?hr ?_; (case hd => rfl); (case hg => rfl); (case hr => first | (go_simp; done) | (go_simp; rfl)); intro gb116 hg w54 hbox hb; have n0_ := J0.m (Qap bR hb); have n1_ := J0.m (hbox); have n2_ := J0.m ((by rw [hg]; exact (Qa8 bR) : w.heap.size ≤ gb116)); have n3_ := n2_; clear HB; have HB := n0_; have BK116 := n1_; have GW116 := n2_; have GE116 := n3_; clear n0_ n1_ n2_ n3_; clear hb hbox hg) | ((with_reducible refine Qbv (N := 7) rfl ?_); refine Qbn ?hg (N := 7) ?hd (cs := zT0) (t := 47) ?hr ?_; (case hd => rfl); (case hg => rfl); (case hr => first | (go_simp; done) | (go_simp; rfl)); intro gb117 hg w55 hbox hb; have n0_ := J0.m (Qai (g := gb116) (o := .cells #[.int .i64 0, .string ⟨#[]⟩, .int .u64 0, .int .i64 0, .int .i64 0] 47 (0, 0)) (by (with_reducible repeat (first | apply Qae | apply Qah | apply Qag)); exact BK116.o) hb); have n1_ := J0.m (Qap (by repeat (first | (with_reducible first | exact HB.o | apply Qab | apply Qac | apply Qad | refine Qal ?_ GE116.o) | exact HB.o)) hb); have n2_ := J0.m (hbox); have n3_ := J0.m ((by rw [hg]; exact (Qa8 (by repeat (first | (with_reducible first | exact HB.o | apply Qab | apply Qac | apply Qad | refine Qal ?_ GE116.o) | exact HB.o))) : w.heap.size ≤ gb117)); have n4_ := n3_; have n5_ := J0.m ((by rw [hg]; exact Nat.ne_of_lt (Qcc (g := gb116) (o := .cells #[.int .i64 0, .string ⟨#[]⟩, .int .u64 0, .int .i64 0, .int .i64 0] 47 (0, 0)) (by (with_reducible repeat (first | apply Qae | apply Qah | apply Qag)); exact BK116.o)) : gb116 ≠ gb117)); have n6_ := J0.m ((by rw [hg]; exact Nat.ne_of_gt (Qcc (g := gb116) (o := .cells #[.int .i64 0, .string ⟨#[]⟩, .int .u64 0, .int .i64 0, .int .i64 0] 47 (0, 0)) (by (with_reducible repeat (first | apply Qae | apply Qah | apply Qag)); exact BK116.o)) : gb117 ≠ gb116)); clear BK116; clear HB; have BK116 := n0_; have HB := n1_; have BK117 := n2_; have GW117 := n3_; have GE117 := n4_; have NB116_117 := n5_; have NB117_116 := n6_; clear n0_ n1_ n2_ n3_ n4_ n5_ n6_; clear hb hbox hg; have hnb56 := NB117_116.o; have hnc56 := NB116_117.o; obtain ⟨hcz57_0, hcz57_1, hcz57_2, hcz57_3, hcz57_4⟩ := (bx5 BK117.o); have hfz57_0 := Qaa BK117.o 0; have hfz57_1 := Qaa BK117.o 1; have hfz57_2 := Qaa BK117.o 2; have hfz57_3 := Qaa BK117.o 3; have hfz57_4 := Qaa BK117.o 4; have p5 : 0 ≤ (a1 : Int) := dQ; have q5 : a1 < (a0.size : Int) := dQ; have hx5 := Qbx a0 a1; replace p5 := eq_true p5; replace q5 := eq_true q5) | ((with_reducible refine Qas (f := 53) rfl ?_); refine Qbm (some 20) rfl rfl Try.func53 (by kernel_rfl) rfl #[.int .u8 (bt a0 a1)] rfl mQ ?_; (with_reducible refine (Qbk.calls (bt a0 a1) false _ A6.o).mono ?_); rintro e w' ⟨rfl, ⟨nd, rfl⟩⟩; refine ⟨_, rfl, ?_⟩) | ((with_reducible refine Qas (f := 56) rfl ?_); refine Qbm (some 40) rfl rfl Try.func56 (by kernel_rfl) rfl #[.int .u8 (bt a0 a1)] rfl mQ ?_; (with_reducible refine (Qbj.calls (bt a0 a1) false _ A23.o).mono ?_); rintro e w' ⟨rfl, ⟨nd, rfl⟩⟩; refine ⟨_, rfl, ?_⟩) | ((with_reducible refine Qas (f := 52) rfl ?_); refine Qbm (some 72) rfl rfl Try.func52 (by kernel_rfl) rfl #[.string (⟨#[123, 125, 40, 41, 58, 59, 44, 61, 43, 45, 42]⟩ : ByteArray), .int .u8 (bt a0 a1)] rfl mQ ?_; (with_reducible refine (strings_IndexByte.calls (⟨#[123, 125, 40, 41, 58, 59, 44, 61, 43, 45, 42]⟩ : ByteArray) (bt a0 a1) t131 _ A49.o).mono ?_); rintro e w' ⟨rfl, ⟨nd, rfl⟩⟩; refine ⟨_, rfl, ?_⟩))
         have n0_ : J0 ((((((w55.setCell ⟨gb117, 0, none⟩ (.int .i64 0)).setCell ⟨gb117, 1, none⟩ (.string ⟨#[]⟩)).setCell ⟨gb117, 2, none⟩ (.int .u64 0)).setCell ⟨gb117, 3, none⟩ (.int .i64 a1)).setCell ⟨gb117, 4, none⟩ (.int .i64 0)).heap[gb116]? = some (.cells #[.int .i64 0, .string ⟨#[]⟩, .int .u64 0, .int .i64 0, .int .i64 0] 47 (0, 0))) := ⟨by (with_reducible repeat (first | apply Qae | apply Qah | apply Qag)); refine Qb9 ?_ NB116_117.o _; (with_reducible repeat (first | apply Qae | apply Qah | apply Qag)); refine Qb9 ?_ NB116_117.o _; (with_reducible repeat (first | apply Qae | apply Qah | apply Qag)); refine Qb9 ?_ NB116_117.o _; (with_reducible repeat (first | apply Qae | apply Qah | apply Qag)); refine Qb9 ?_ NB116_117.o _; (with_reducible repeat (first | apply Qae | apply Qah | apply Qag)); refine Qb9 ?_ NB116_117.o _; (with_reducible repeat (first | apply Qae | apply Qah | apply Qag)); exact BK116.o⟩
         have n1_ : J0 ((((((w55.setCell ⟨gb117, 0, none⟩ (.int .i64 0)).setCell ⟨gb117, 1, none⟩ (.string ⟨#[]⟩)).setCell ⟨gb117, 2, none⟩ (.int .u64 0)).setCell ⟨gb117, 3, none⟩ (.int .i64 a1)).setCell ⟨gb117, 4, none⟩ (.int .i64 0)).heap[gb117]? = some (.cells #[.int .i64 0, .string ⟨#[]⟩, .int .u64 0, .int .i64 a1, .int .i64 0] 47 (0, 0))) := ⟨by (with_reducible repeat (first | apply Qae | apply Qah | apply Qag)); apply sv5; (with_reducible repeat (first | apply Qae | apply Qah | apply Qag)); exact BK117.o⟩
         have n2_ : J0 (Below w.heap.size w (((((w55.setCell ⟨gb117, 0, none⟩ (.int .i64 0)).setCell ⟨gb117, 1, none⟩ (.string ⟨#[]⟩)).setCell ⟨gb117, 2, none⟩ (.int .u64 0)).setCell ⟨gb117, 3, none⟩ (.int .i64 a1)).setCell ⟨gb117, 4, none⟩ (.int .i64 0))) := ⟨by repeat (first | (with_reducible first | exact HB.o | apply Qab | apply Qac | apply Qad | refine Qal ?_ GE116.o | refine Qal ?_ GE117.o) | exact HB.o)⟩
         (try clear BK116)
         (try clear BK117)
         (try clear HB)
         generalize (((((w55.setCell ⟨gb117, 0, none⟩ (.int .i64 0)).setCell ⟨gb117, 1, none⟩ (.string ⟨#[]⟩)).setCell ⟨gb117, 2, none⟩ (.int .u64 0)).setCell ⟨gb117, 3, none⟩ (.int .i64 a1)).setCell ⟨gb117, 4, none⟩ (.int .i64 0)) = w58 at n0_ n1_ n2_ ⊢
         have BK116 := n0_
         have BK117 := n1_
         have HB := n2_
         clear n0_ n1_ n2_
         (try (rw [Qbz w58]; generalize hq_ : World.drewN w58 _ = w58; have n0_ : J0 (w58.heap[gb116]? = some (.cells #[.int .i64 0, .string ⟨#[]⟩, .int .u64 0, .int .i64 0, .int .i64 0] 47 (0, 0))) := ⟨by rw [← hq_]; exact (by (with_reducible repeat (first | apply Qae | apply Qah | apply Qag)); exact BK116.o)⟩; have n1_ : J0 (w58.heap[gb117]? = some (.cells #[.int .i64 0, .string ⟨#[]⟩, .int .u64 0, .int .i64 a1, .int .i64 0] 47 (0, 0))) := ⟨by rw [← hq_]; exact (by (with_reducible repeat (first | apply Qae | apply Qah | apply Qag)); exact BK117.o)⟩; have n2_ : J0 (Below w.heap.size w w58) := ⟨by rw [← hq_]; exact (by repeat (first | (with_reducible first | exact HB.o | apply Qab | apply Qac | apply Qad | refine Qal ?_ GE116.o | refine Qal ?_ GE117.o) | exact HB.o))⟩; clear BK116 BK117 HB hq_; have BK116 := n0_; have BK117 := n1_; have HB := n2_; clear n0_ n1_ n2_))
         have n0_ := J0.m (Qah BK116.o)
         have n1_ := J0.m (Qah BK117.o)
         have n2_ := J0.m (Qad HB.o)
         clear BK116
         clear BK117
         clear HB
         have BK116 := n0_
         have BK117 := n1_
         have HB := n2_
         clear n0_ n1_ n2_
         refine Qg7 (n := 13) (S := fun w' => True) (ds := []) #[false, false, false, false, false, false, false, false, false, false, false, false, false] (by kernel_rfl) rfl rfl trivial (fun hHeld => ?_); refine Qlz Qbt.tab20 Qbt.bits20 (fun HT_ HW_ => ?_)
         generalize w58.drew = w59 at BK116 BK117 HB hHeld ⊢
         refine Qck (i := 0) (N := some 74) (v := ?_) (a' := ?_) #[true, false, false, false, false, false, false, false, false, false, false, false, false] rfl rfl (Qfr HT_.o (by kernel_rfl)) (fun _ _ _ h => h) (Or.inl ⟨by rfl, ?_⟩) ?_ ?_
         rotate_left
         ·intro w'
          go_simp
          with_reducible rfl
         rotate_left
         ·simp only [Act.put, List.setIfInBounds_toArray, List.set_cons_zero, List.set_cons_succ, Qbg, Qbs]
          rfl
         refine Qck (i := 1) (N := some 75) (v := ?_) (a' := ?_) #[true, true, false, false, false, false, false, false, false, false, false, false, false] rfl rfl (Qfr HT_.o (by kernel_rfl)) (fun _ _ _ h => h) (Or.inl ⟨by rfl, ?_⟩) ?_ ?_
         rotate_left
         ·intro w'
          go_simp
          with_reducible rfl
         rotate_left
         ·simp only [Act.put, List.setIfInBounds_toArray, List.set_cons_zero, List.set_cons_succ, Qbg, Qbs]
          rfl
         refine Qck (i := 2) (N := some 76) (v := ?_) (a' := ?_) #[true, true, true, false, false, false, false, false, false, false, false, false, false] rfl rfl (Qfr HT_.o (by kernel_rfl)) (fun _ _ _ h => h) (Or.inl ⟨by rfl, ?_⟩) ?_ ?_
         rotate_left
         ·intro w'
          go_simp
          with_reducible rfl
         rotate_left
         ·simp only [Act.put, List.setIfInBounds_toArray, List.set_cons_zero, List.set_cons_succ, Qbg, Qbs]
          rfl
         refine Qck (i := 3) (N := some 77) (v := ?_) (a' := ?_) #[true, true, true, true, false, false, false, false, false, false, false, false, false] rfl rfl (Qfr HT_.o (by kernel_rfl)) (fun _ _ _ h => h) (Or.inl ⟨by rfl, ?_⟩) ?_ ?_
         rotate_left
         ·intro w'
          go_simp
          with_reducible rfl
         rotate_left
         ·simp only [Act.put, List.setIfInBounds_toArray, List.set_cons_zero, List.set_cons_succ, Qbg, Qbs]
          rfl
         refine Qck (i := 4) (N := some 78) (v := ?_) (a' := ?_) #[true, true, true, true, true, false, false, false, false, false, false, false, false] rfl rfl (Qfr HT_.o (by kernel_rfl)) (fun _ _ _ h => h) (Or.inl ⟨by rfl, ?_⟩) ?_ ?_
         rotate_left
         ·intro w'
          go_simp
          with_reducible rfl
         rotate_left
         ·simp only [Act.put, List.setIfInBounds_toArray, List.set_cons_zero, List.set_cons_succ, Qbg, Qbs]
          rfl
         refine Qck (i := 5) (N := some 79) (v := ?_) (a' := ?_) #[true, true, true, true, true, true, false, false, false, false, false, false, false] rfl rfl (Qfr HT_.o (by kernel_rfl)) (fun _ _ _ h => h) (Or.inl ⟨by rfl, ?_⟩) ?_ ?_
         rotate_left
         ·intro w'
          go_simp
          with_reducible rfl
         rotate_left
         ·simp only [Act.put, List.setIfInBounds_toArray, List.set_cons_zero, List.set_cons_succ, Qbg, Qbs]
          rfl
         refine Qck (i := 6) (N := some 80) (v := ?_) (a' := ?_) #[true, true, true, true, true, true, true, false, false, false, false, false, false] rfl rfl (Qfr HT_.o (by kernel_rfl)) (fun _ _ _ h => h) (Or.inl ⟨by rfl, ?_⟩) ?_ ?_
         rotate_left
         ·intro w'
          go_simp
          with_reducible rfl
         rotate_left
         ·simp only [Act.put, List.setIfInBounds_toArray, List.set_cons_zero, List.set_cons_succ, Qbg, Qbs]
          rfl
         refine Qck (i := 7) (N := some 81) (v := ?_) (a' := ?_) #[true, true, true, true, true, true, true, true, false, false, false, false, false] rfl rfl (Qfr HT_.o (by kernel_rfl)) (fun _ _ _ h => h) (Or.inl ⟨by rfl, ?_⟩) ?_ ?_
         rotate_left
         ·intro w'
          go_simp
          with_reducible rfl
         rotate_left
         ·simp only [Act.put, List.setIfInBounds_toArray, List.set_cons_zero, List.set_cons_succ, Qbg, Qbs]
          rfl
         refine one_ (i := 8) (N := none) #[true, true, true, true, true, true, true, true, true, false, false, false, false] rfl rfl (Qmh HT_.o (by kernel_rfl)) (by decide) (fun K hK => ?_)
         have hs60 : w59.cell? ⟨gb117, 0, none⟩ = some (.int .i64 0) := (Qaf BK117.o 0).trans rfl
         have hfs60 := Qaa BK117.o 0
         have hns60_0 := NB116_117.o
         have hms60_0 := NB117_116.o
         refine Qij (w1 := ?_) (by rfl) rfl ?_ ?_
         rotate_left
         ·go_simp
          rfl
         refine hK.out _ _ trivial (fun hHeld => ?_)
         clear hK K
         refine Qck (i := 9) (N := some 82) (v := ?_) (a' := ?_) #[true, true, true, true, true, true, true, true, true, true, false, false, false] rfl rfl (Qfr HT_.o (by kernel_rfl)) (fun _ _ _ h => h) (Or.inl ⟨by rfl, ?_⟩) ?_ ?_
         rotate_left
         ·intro w'
          go_simp
          with_reducible rfl
         rotate_left
         ·simp only [Act.put, List.setIfInBounds_toArray, List.set_cons_zero, List.set_cons_succ, Qbg, Qbs]
          rfl
         refine one_ (i := 10) (N := none) #[true, true, true, true, true, true, true, true, true, true, true, false, false] rfl rfl (Qmh HT_.o (by kernel_rfl)) (by decide) (fun K hK => ?_)
         have hs61 : w59.cell? ⟨gb117, 1, none⟩ = some (.string ⟨#[]⟩) := (Qaf BK117.o 1).trans rfl
         have hfs61 := Qaa BK117.o 1
         have hns61_0 := NB116_117.o
         have hms61_0 := NB117_116.o
         refine Qij (w1 := ?_) (by rfl) rfl ?_ ?_
         rotate_left
         ·go_simp
          rfl
         refine hK.out _ _ trivial (fun hHeld => ?_)
         clear hK K
         refine Qck (i := 11) (N := some 83) (v := ?_) (a' := ?_) #[true, true, true, true, true, true, true, true, true, true, true, true, false] rfl rfl (Qfr HT_.o (by kernel_rfl)) (fun _ _ _ h => h) (Or.inl ⟨by rfl, ?_⟩) ?_ ?_
         rotate_left
         ·intro w'
          go_simp
          with_reducible rfl
         rotate_left
         ·simp only [Act.put, List.setIfInBounds_toArray, List.set_cons_zero, List.set_cons_succ, Qbg, Qbs]
          rfl
         refine one_ (i := 12) (N := none) #[true, true, true, true, true, true, true, true, true, true, true, true, true] rfl rfl (Qmh HT_.o (by kernel_rfl)) (by decide) (fun K hK => ?_)
         have hs62 : w59.cell? ⟨gb117, 4, none⟩ = some (.int .i64 0) := (Qaf BK117.o 4).trans rfl
         have hfs62 := Qaa BK117.o 4
         have hns62_0 := NB116_117.o
         have hms62_0 := NB117_116.o
         refine Qij (w1 := ?_) (by rfl) rfl ?_ ?_
         rotate_left
         ·go_simp
          rfl
         refine hK.out _ _ trivial (fun hHeld => ?_)
         clear hK K
         refine Qkm (Qqm HT_.o (by kernel_rfl)) ?_
         have hcz63_0 : w59.cell? ⟨gb117, 0, none⟩ = some (.int .i64 0) := (Qaf BK117.o 0).trans rfl
         have hcz63_1 : w59.cell? ⟨gb117, 1, none⟩ = some (.string ⟨#[]⟩) := (Qaf BK117.o 1).trans rfl
         have hcz63_2 : w59.cell? ⟨gb117, 2, none⟩ = some (.int .u64 0) := (Qaf BK117.o 2).trans rfl
         have hcz63_3 : w59.cell? ⟨gb117, 3, none⟩ = some (.int .i64 a1) := (Qaf BK117.o 3).trans rfl
         have hcz63_4 : w59.cell? ⟨gb117, 4, none⟩ = some (.int .i64 0) := (Qaf BK117.o 4).trans rfl
         have hfz63_0 := Qaa BK117.o 0
         have hfz63_1 := Qaa BK117.o 1
         have hfz63_2 := Qaa BK117.o 2
         have hfz63_3 := Qaa BK117.o 3
         have hfz63_4 := Qaa BK117.o 4
         have hcz64_0 : w59.cell? ⟨gb116, 0, none⟩ = some (.int .i64 0) := (Qaf BK116.o 0).trans rfl
         have hcz64_1 : w59.cell? ⟨gb116, 1, none⟩ = some (.string ⟨#[]⟩) := (Qaf BK116.o 1).trans rfl
         have hcz64_2 : w59.cell? ⟨gb116, 2, none⟩ = some (.int .u64 0) := (Qaf BK116.o 2).trans rfl
         have hcz64_3 : w59.cell? ⟨gb116, 3, none⟩ = some (.int .i64 0) := (Qaf BK116.o 3).trans rfl
         have hcz64_4 : w59.cell? ⟨gb116, 4, none⟩ = some (.int .i64 0) := (Qaf BK116.o 4).trans rfl
         have hfz64_0 := Qaa BK116.o 0
         have hfz64_1 := Qaa BK116.o 1
         have hfz64_2 := Qaa BK116.o 2
         have hfz64_3 := Qaa BK116.o 3
         have hfz64_4 := Qaa BK116.o 4
         try go_wp2
         refine bodyPost_ret (Qbf rfl _ _ gb116 47 #[.int .i64 4, .string (a0.extract (a1 : Int).toNat ((wrap64 (a1 + 1)) : Int).toNat), .int .u64 0, .int .i64 a1, .int .i64 (wrap64 (a1 + 1))] (0, 0) _ rfl (by (with_reducible repeat (first | apply Qae | apply Qah | apply Qag)); apply sv5; (with_reducible repeat (first | apply Qae | apply Qah | apply Qag)); refine Qb9 ?_ NB116_117.o _; (with_reducible repeat (first | apply Qae | apply Qah | apply Qag)); refine Qb9 ?_ NB116_117.o _; (with_reducible repeat (first | apply Qae | apply Qah | apply Qag)); refine Qb9 ?_ NB116_117.o _; (with_reducible repeat (first | apply Qae | apply Qah | apply Qag)); exact BK116.o) Try.underlying47 rfl (by kernel_rfl)) rfl ?_
         exact ⟨by first | rfl | (simp [Qav, Qau] <;> rfl) | (simp [*, Qav, Qau] <;> rfl), by repeat (first | (with_reducible first | exact HB.o | apply Qab | apply Qac | apply Qad | refine Qal ?_ GE116.o | refine Qal ?_ GE117.o) | exact HB.o)⟩
        ·rw [if_neg c53] at H
         exact absurd H (by simp)
       ·rw [if_neg c52] at H
        exact absurd H (by simp)
      ·rw [if_neg c50] at H
       have c50b0 : decide (0 ≤ t131) = false := decide_eq_false c50
       clear c50
       simp only [Option.some.injEq, Prod.mk.injEq] at H
       obtain ⟨rfl, rfl, rfl, rfl, rfl, rfl, rfl⟩ := H
       go_enter Try.func35, Try.ntmps35
       go_wp2_with (first | ((with_reducible refine Qbv (N := 4) rfl ?_); refine Qbn ?hg (N := 4) ?hd (cs := zT0) (t := 47) ?hr ?_; (case hd => rfl); (case hg => rfl); (case hr => first | (go_simp; done) | (go_simp; rfl)); intro gb116 hg w65 hbox hb; have n0_ := J0.m (Qap bR hb); have n1_ := J0.m (hbox); have n2_ := J0.m ((by rw [hg]; exact (Qa8 bR) : w.heap.size ≤ gb116)); have n3_ := n2_; clear HB; have HB := n0_; have BK116 := n1_; have GW116 := n2_; have GE116 := n3_; clear n0_ n1_ n2_ n3_; clear hb hbox hg) | ((with_reducible refine Qbv (N := 7) rfl ?_); refine Qbn ?hg (N := 7) ?hd (cs := zT0) (t := 47) ?hr ?_; (case hd => rfl); (case hg => rfl); (case hr => first | (go_simp; done) | (go_simp; rfl)); intro gb117 hg w66 hbox hb; have n0_ := J0.m (Qai (g := gb116) (o := .cells #[.int .i64 0, .string ⟨#[]⟩, .int .u64 0, .int .i64 0, .int .i64 0] 47 (0, 0)) (by (with_reducible repeat (first | apply Qae | apply Qah | apply Qag)); exact BK116.o) hb); have n1_ := J0.m (Qap (by repeat (first | (with_reducible first | exact HB.o | apply Qab | apply Qac | apply Qad | refine Qal ?_ GE116.o) | exact HB.o)) hb); have n2_ := J0.m (hbox); have n3_ := J0.m ((by rw [hg]; exact (Qa8 (by repeat (first | (with_reducible first | exact HB.o | apply Qab | apply Qac | apply Qad | refine Qal ?_ GE116.o) | exact HB.o))) : w.heap.size ≤ gb117)); have n4_ := n3_; have n5_ := J0.m ((by rw [hg]; exact Nat.ne_of_lt (Qcc (g := gb116) (o := .cells #[.int .i64 0, .string ⟨#[]⟩, .int .u64 0, .int .i64 0, .int .i64 0] 47 (0, 0)) (by (with_reducible repeat (first | apply Qae | apply Qah | apply Qag)); exact BK116.o)) : gb116 ≠ gb117)); have n6_ := J0.m ((by rw [hg]; exact Nat.ne_of_gt (Qcc (g := gb116) (o := .cells #[.int .i64 0, .string ⟨#[]⟩, .int .u64 0, .int .i64 0, .int .i64 0] 47 (0, 0)) (by (with_reducible repeat (first | apply Qae | apply Qah | apply Qag)); exact BK116.o)) : gb117 ≠ gb116)); clear BK116; clear HB; have BK116 := n0_; have HB := n1_; have BK117 := n2_; have GW117 := n3_; have GE117 := n4_; have NB116_117 := n5_; have NB117_116 := n6_; clear n0_ n1_ n2_ n3_ n4_ n5_ n6_; clear hb hbox hg; have hnb67 := NB117_116.o; have hnc67 := NB116_117.o; obtain ⟨hcz68_0, hcz68_1, hcz68_2, hcz68_3, hcz68_4⟩ := (bx5 BK117.o); have hfz68_0 := Qaa BK117.o 0; have hfz68_1 := Qaa BK117.o 1; have hfz68_2 := Qaa BK117.o 2; have hfz68_3 := Qaa BK117.o 3; have hfz68_4 := Qaa BK117.o 4; have p5 : 0 ≤ (a1 : Int) := dQ; have q5 : a1 < (a0.size : Int) := dQ; have hx5 := Qbx a0 a1; replace p5 := eq_true p5; replace q5 := eq_true q5) | ((with_reducible refine Qas (f := 53) rfl ?_); refine Qbm (some 20) rfl rfl Try.func53 (by kernel_rfl) rfl #[.int .u8 (bt a0 a1)] rfl mQ ?_; (with_reducible refine (Qbk.calls (bt a0 a1) false _ A6.o).mono ?_); rintro e w' ⟨rfl, ⟨nd, rfl⟩⟩; refine ⟨_, rfl, ?_⟩) | ((with_reducible refine Qas (f := 56) rfl ?_); refine Qbm (some 40) rfl rfl Try.func56 (by kernel_rfl) rfl #[.int .u8 (bt a0 a1)] rfl mQ ?_; (with_reducible refine (Qbj.calls (bt a0 a1) false _ A23.o).mono ?_); rintro e w' ⟨rfl, ⟨nd, rfl⟩⟩; refine ⟨_, rfl, ?_⟩) | ((with_reducible refine Qas (f := 52) rfl ?_); refine Qbm (some 72) rfl rfl Try.func52 (by kernel_rfl) rfl #[.string (⟨#[123, 125, 40, 41, 58, 59, 44, 61, 43, 45, 42]⟩ : ByteArray), .int .u8 (bt a0 a1)] rfl mQ ?_; (with_reducible refine (strings_IndexByte.calls (⟨#[123, 125, 40, 41, 58, 59, 44, 61, 43, 45, 42]⟩ : ByteArray) (bt a0 a1) t131 _ A49.o).mono ?_); rintro e w' ⟨rfl, ⟨nd, rfl⟩⟩; refine ⟨_, rfl, ?_⟩; obtain ⟨hcz69_0, hcz69_1, hcz69_2, hcz69_3, hcz69_4⟩ := (bx5 BK116.o); have hfz69_0 := Qaa BK116.o 0; have hfz69_1 := Qaa BK116.o 1; have hfz69_2 := Qaa BK116.o 2; have hfz69_3 := Qaa BK116.o 3; have hfz69_4 := Qaa BK116.o 4))
       refine bodyPost_ret (Qbf rfl _ _ gb116 47 #[.int .i64 0, .string ⟨#[]⟩, .int .u64 0, .int .i64 a1, .int .i64 0] (0, 0) _ rfl (by (with_reducible repeat (first | apply Qae | apply Qah | apply Qag)); apply sv5; (with_reducible repeat (first | apply Qae | apply Qah | apply Qag)); refine Qb9 ?_ NB116_117.o _; (with_reducible repeat (first | apply Qae | apply Qah | apply Qag)); refine Qb9 ?_ NB116_117.o _; (with_reducible repeat (first | apply Qae | apply Qah | apply Qag)); refine Qb9 ?_ NB116_117.o _; (with_reducible repeat (first | apply Qae | apply Qah | apply Qag)); refine Qb9 ?_ NB116_117.o _; (with_reducible repeat (first | apply Qae | apply Qah | apply Qag)); refine Qb9 ?_ NB116_117.o _; (with_reducible repeat (first | apply Qae | apply Qah | apply Qag)); exact BK116.o) Try.underlying47 rfl (by kernel_rfl)) rfl ?_
       exact ⟨by first | rfl | (simp [Qav, Qau] <;> rfl) | (simp [*, Qav, Qau] <;> rfl), by repeat (first | (with_reducible first | exact HB.o | apply Qab | apply Qac | apply Qad | refine Qal ?_ GE116.o | refine Qal ?_ GE117.o) | exact HB.o)⟩
  ·rw [if_neg c4] at H
   exact absurd H (by simp)
 ·rw [if_neg c3] at H
  exact absurd H (by simp)
def Qbr.l0 : Nat → ByteArray → List (S47) → Int → Option ((List (S47)) × Int × Int)
 | 0, _, _, _ => none
 | k + 1, x0, x5, x6 => if x6 < (x0.size : Int) then ((Qbt.f k x0 x6).bind fun bt136 => (if bt136.2.2.2.2.2.2 = 0 then (if x5.length < 2932031007402 then ((Qa4.f k x0 bt136.2.2.2.2.1).bind fun t147 => (Qbr.l0 k x0 (x5 ++ [(⟨bt136.1, bt136.2.1, bt136.2.2.1, bt136.2.2.2.1, bt136.2.2.2.2.1⟩ : S47)]) t147)) else (none)) else (some (([] : List (S47)), bt136.2.2.2.2.2.1, bt136.2.2.2.2.2.2)))) else (if x5.length < 2932031007402 then (some ((x5 ++ [(⟨0, (⟨#[]⟩ : ByteArray), 0, (x0.size : Int), (x0.size : Int)⟩ : S47)]), 0, 0)) else (none))
def Qbr.f (k : Nat) (a0 : ByteArray) : Option ((List (S47)) × Int × Int) := if (a0.size : Int) > 1048576 then (some (([] : List (S47)), 0, 2)) else ((Qa4.f k a0 0).bind fun t132 => (Qbr.l0 k a0 ([] : List (S47)) t132))
theorem Qbr.Qel : ∀ k, (∀ y0 y1 y2, LeO (Qbr.l0 k y0 y1 y2) (Qbr.l0 (k + 1) y0 y1 y2))
 | 0 => fun _ _ _ r h => by simp [Qbr.l0] at h
 | k + 1 => by
  have ih0 := Qbr.Qel k
  ·intro y0 y1 y2
   unfold Qbr.l0
   repeat' first
   | (with_reducible exact ih0 _ _ _)
   | (with_reducible exact Qa4.mono _ _ _)
   | (with_reducible exact Qbt.mono _ _ _)
   | (with_reducible exact LeO.refl _)
   | (with_reducible exact LeO.none _)
   | (with_reducible refine LeO.ite ?_ ?_)
   | (with_reducible refine LeO.bind ?_ (fun _ => ?_))
   | exact ih0 _ _ _
   | exact Qa4.mono _ _ _
   | exact Qbt.mono _ _ _
   | exact LeO.none _
   | refine LeO.ite ?_ ?_
   | refine LeO.bind ?_ (fun _ => ?_)
theorem Qbr.mono : ∀ a0 k, LeO (Qbr.f k a0) (Qbr.f (k + 1) a0) := by
 intro a0 k
 have ih0 := Qbr.Qel k
 unfold Qbr.f
 repeat' first
   | (with_reducible exact ih0 _ _ _)
   | (with_reducible exact Qa4.mono _ _ _)
   | (with_reducible exact Qbt.mono _ _ _)
   | (with_reducible exact LeO.refl _)
   | (with_reducible exact LeO.none _)
   | (with_reducible refine LeO.ite ?_ ?_)
   | (with_reducible refine LeO.bind ?_ (fun _ => ?_))
   | exact ih0 _ _ _
   | exact Qa4.mono _ _ _
   | exact Qbt.mono _ _ _
   | exact LeO.none _
   | refine LeO.ite ?_ ?_
   | refine LeO.bind ?_ (fun _ => ?_)
theorem Qbr.calls (k : Nat) (a0 : ByteArray) (r1 : List (S47)) (r2 : Int) (r3 : Int) (w : World) (h : Qbr.f k a0 = some (r1, r2, r3)) :
  Calls Try.prog 18 #[.string a0] w fun e w' => ∃ v0_ : Value, e = .returned (.tuple #[v0_, .int .i64 r2, .int .i64 r3]) ∧ Kd.R k47 47 w' w.heap.size (fun _ => True) v0_ r1 ∧ Below w.heap.size w w' := by
 have hu47 := Try.underlying47
 have HB := J0.m (Below.refl w.heap.size w)
 have H : (if (a0.size : Int) > 1048576 then (some (([] : List (S47)), 0, 2)) else ((Qa4.f k a0 0).bind fun t132 => (Qbr.l0 k a0 ([] : List (S47)) t132))) = some (r1, r2, r3) := h
 clear h
 by_cases c2 : (a0.size : Int) > 1048576
 ·rw [if_pos c2] at H
  have c2b0 : decide (1048576 < (a0.size : Int)) = true := decide_eq_true c2
  have c2b1 : decide (1048576 < a0.size) = true := decide_eq_true (by omega)
  clear c2
  simp only [Option.some.injEq, Prod.mk.injEq] at H
  obtain ⟨rfl, rfl, rfl⟩ := H
  go_enter Try.func18, Try.ntmps18
  go_wp2
  go_ret3
  exact ⟨_, by first | rfl | (simp [Qav, Qau] <;> rfl) | (simp [*, Qav, Qau] <;> rfl), by first | exact Kd.Qdq _ _ _ _ _ | exact Kd.Qju _ _ _ _ _ | exact Kd.Qjo _ _ _ _ _ | exact Kd.Qjt _ _ _ _ _ | exact Kd.Qjq _ _ _ _ _, bR⟩
 ·rw [if_neg c2] at H
  have c2b0 : decide (1048576 < (a0.size : Int)) = false := decide_eq_false c2
  have c2b1 : decide (1048576 < a0.size) = false := decide_eq_false (by omega)
  clear c2
  replace H := Option.bind_eq_some_iff.mp H
  obtain ⟨t132, A30, H⟩ := H
  replace H : (Qbr.l0 k a0 ([] : List (S47)) t132) = some (r1, r2, r3) := H
  have A3 := J0.m A30
  clear A30
  have H' := J0.m H
  clear H
  go_enter Try.func18, Try.ntmps18
  go_wp2_with (first | ((with_reducible refine Qas (f := 34) rfl ?_); refine Qbm (some 14) rfl rfl Try.func34 (by kernel_rfl) rfl #[.string a0, .int .i64 0] rfl mQ ?_; (with_reducible refine (Qa4.calls k a0 0 t132 _ A3.o).mono ?_); rintro e w' ⟨rfl, ⟨nd, rfl⟩⟩; refine ⟨_, rfl, ?_⟩))
  go_loopg [5, 6] k (fun kq v5 v6 w' => ∃ (x5_1 : List (S47)) (x6_1 : Int), v6 = .int .i64 x6_1 ∧ J0 (Qbr.l0 kq a0 x5_1 x6_1 = some (r1, r2, r3)) ∧ J0 (kq ≤ k) ∧ J0 (Kd.R k47 47 w' w.heap.size (fun _ => True) v5 x5_1) ∧ J0 (Below w.heap.size w w'))
  case atStart => exact ⟨(([] : List (S47))), (t132), (by first | rfl | (simp; done) | (simp [*]; done)), H', ⟨Nat.le_refl _⟩, ⟨by first | exact Kd.Qdq _ _ _ _ _ | exact Kd.Qju _ _ _ _ _ | exact Kd.Qjo _ _ _ _ _ | exact Kd.Qjt _ _ _ _ _ | exact Kd.Qjq _ _ _ _ _⟩, ⟨bR⟩⟩
  case round =>
   clear H'
   try clear c1
   try clear c2
   try clear c2b0
   try clear c2b1
   try clear p2
   try clear c3
   obtain ⟨x5_1, x6_1, rfl, HA, HK1, HO_5, HB⟩ := hrel
   cases gk with
   | zero => exact absurd HA.o (by simp [Qbr.l0])
   | succ k1 =>
    have H := HA.o
    clear HA
    simp only [Qbr.l0] at H
    by_cases c4 : x6_1 < (a0.size : Int)
    ·rw [if_pos c4] at H
     have c4b0 : decide (x6_1 < (a0.size : Int)) = true := decide_eq_true c4
     clear c4
     replace H := Option.bind_eq_some_iff.mp H
     obtain ⟨⟨t136, t137, t138, t139, t140, t141, t142⟩, A50, H⟩ := H
     replace H : (if t142 = 0 then (if x5_1.length < 2932031007402 then ((Qa4.f k1 a0 t140).bind fun t147 => (Qbr.l0 k1 a0 (x5_1 ++ [(⟨t136, t137, t138, t139, t140⟩ : S47)]) t147)) else (none)) else (some (([] : List (S47)), t141, t142))) = some (r1, r2, r3) := H
     have A5 := J0.m A50
     clear A50
     by_cases c6 : t142 = 0
     ·rw [if_pos c6] at H
      have c6b0 : (t142 == 0) = true := beq_iff_eq.mpr c6
      have c6b1 : (t142 != 0) = false := bne_eq_false_iff_eq.mpr c6
      clear c6
      by_cases c7 : x5_1.length < 2932031007402
      ·rw [if_pos c7] at H
       have LMc7 := J0.m c7
       clear c7
       obtain ⟨y144, hy144⟩ : ∃ y_ : List (S47), y_ = (x5_1 ++ [(⟨t136, t137, t138, t139, t140⟩ : S47)]) := ⟨_, rfl⟩
       replace H : ((Qa4.f k1 a0 t140).bind fun t147 => (Qbr.l0 k1 a0 y144 t147)) = some (r1, r2, r3) := by first | (rw [hy144]; with_reducible exact H) | (have H2_ := (Option.bind_some _ _).symm.trans H; rw [hy144]; with_reducible exact H2_) | (have H2_ := (Option.bind_some _ _).symm.trans H; with_reducible exact H2_) | with_reducible exact H | (rw [hy144]; exact H) | exact H
       have Ny144 := J0.m hy144
       clear hy144
       replace H := Option.bind_eq_some_iff.mp H
       obtain ⟨t147, A80, H⟩ := H
       replace H : (Qbr.l0 k1 a0 y144 t147) = some (r1, r2, r3) := H
       have A8 := J0.m A80
       clear A80
       have H' := J0.m H
       clear H
       go_wp2_with (first | ((with_reducible refine Qas (f := 35) rfl ?_); refine Qbm (some 22) rfl rfl Try.func35 (by kernel_rfl) rfl #[.string a0, .int .i64 x6_1] rfl mQ ?_; (with_reducible refine (Qbt.calls k1 a0 x6_1 t136 t137 t138 t139 t140 t141 t142 _ A5.o).mono ?_); rintro e w9 ⟨rfl, hb⟩; refine ⟨_, rfl, ?_⟩; have n0_ := J0.m (Kd.Qb8 (by (with_reducible repeat (first | apply Kd.Qb2 | apply Kd.Qb1 | apply Kd.Qcg)); exact HO_5.o) hb); have n1_ := J0.m (Qap bR hb); clear HO_5; clear HB; have HO_5 := n0_; have HB := n1_; clear n0_ n1_; (try clear hb); (try clear hb2); (try clear hk); (try clear hi)) | ((with_reducible refine Qbv (N := 7) rfl ?_); refine Qbn ?hg (N := 7) ?hd (cs := zT0) (t := 47) ?hr ?_; (case hd => rfl); (case hg => rfl); (case hr => first | (go_simp; done) | (go_simp; rfl)); intro gb143 hg w10 hbox hb; have n0_ := J0.m (Kd.Qb8 (Kd.Qgw (by (with_reducible repeat (first | apply Kd.Qb2 | apply Kd.Qb1 | apply Kd.Qcg)); exact HO_5.o) gb143 (Nat.le_of_eq hg.symm)) hb); have n1_ := J0.m (Qap bR hb); have n2_ := J0.m (hbox); have n3_ := J0.m ((by rw [hg]; exact (Qa8 bR) : w.heap.size ≤ gb143)); have n4_ := n3_; clear HO_5; clear HB; have HO_5 := n0_; have HB := n1_; have BK143 := n2_; have GW143 := n3_; have GE143 := n4_; clear n0_ n1_ n2_ n3_ n4_; clear hb hbox hg; have hcz11_0 : w10.cell? ⟨gb143, 0, none⟩ = some (.int .i64 0) := (Qaf BK143.o 0).trans rfl; have hcz11_1 : w10.cell? ⟨gb143, 1, none⟩ = some (.string ⟨#[]⟩) := (Qaf BK143.o 1).trans rfl; have hcz11_2 : w10.cell? ⟨gb143, 2, none⟩ = some (.int .u64 0) := (Qaf BK143.o 2).trans rfl; have hcz11_3 : w10.cell? ⟨gb143, 3, none⟩ = some (.int .i64 0) := (Qaf BK143.o 3).trans rfl; have hcz11_4 : w10.cell? ⟨gb143, 4, none⟩ = some (.int .i64 0) := (Qaf BK143.o 4).trans rfl; have hfz11_0 := Qaa BK143.o 0; have hfz11_1 := Qaa BK143.o 1; have hfz11_2 := Qaa BK143.o 2; have hfz11_3 := Qaa BK143.o 3; have hfz11_4 := Qaa BK143.o 4) | ((with_reducible refine Qcm (b := .append) (xs := #[.tmp 30, .tmp 32]) rfl ?_); at_builtin; refine Kd.Qd9 k47 (w0 := w) w.heap.size rfl (.tmp 30) (.tmp 32) 37 47 (.agg #[(.int .i64 0), (.string ⟨#[]⟩), (.int .u64 0), (.int .i64 0), (.int .i64 0)]) 48 rfl Try.underlying37 Qk9 rfl (by decide) (by omega) u5 x5_1 (⟨t136, t137, t138, t139, t140⟩ : S47) [.int .i64 t136, .string t137, .int .u64 t138, .int .i64 t139, .int .i64 t140] (fun k_ => k_ ≠ gb143) (fun _ => False) rfl (by first | (go_simp; done) | (go_simp; rfl)) ?aP (fun _ hk => hk.elim) ?aF ?aO ?aB ?aS ?aL ?_; (case aP => exact Qip _ _ _ (⟨t136, t137, t138, t139, t140⟩ : S47)); (case aB => exact (by repeat (first | (with_reducible first | exact HB.o | apply Qab | apply Qac | apply Qad | refine Qal ?_ GE143.o) | exact HB.o))); (case aF => exact (fun k_ hk => Kd.Qo7 (g := gb143) (o := .cells #[.int .i64 t136, .string t137, .int .u64 t138, .int .i64 t139, .int .i64 t140] 47 (0, 0)) (by (with_reducible repeat (first | apply Qae | apply Qah | apply Qag)); apply sv5; (with_reducible repeat (first | apply Qae | apply Qah | apply Qag)); exact BK143.o) k_ hk)); (case aO => exact (by (with_reducible repeat (first | apply Kd.Qb2 | apply Kd.Qb1 | apply Kd.Qcg)); exact Kd.Qep (Kd.Qhh (p := ⟨gb143, 4, none⟩) (Kd.Qhh (p := ⟨gb143, 3, none⟩) (Kd.Qhh (p := ⟨gb143, 2, none⟩) (Kd.Qhh (p := ⟨gb143, 1, none⟩) (Kd.Qhh (p := ⟨gb143, 0, none⟩) (Kd.Qep HO_5.o (fun k_ hk => (⟨hk, hk.2⟩ : _ ∧ k_ ≠ gb143))) (fun _ hk => hk.2) (.int .i64 t136)) (fun _ hk => hk.2) (.string t137)) (fun _ hk => hk.2) (.int .u64 t138)) (fun _ hk => hk.2) (.int .i64 t139)) (fun _ hk => hk.2) (.int .i64 t140)) (fun _ hk => hk.1.2))); (case aS => exact (Qa8 (by repeat (first | (with_reducible first | exact HB.o | apply Qab | apply Qac | apply Qad | refine Qal ?_ GE143.o) | exact HB.o)))); (case aL => have := LMc7.o; omega); intro v145 w12 ho hb hg hat; rw [← Ny144.o] at ho; have n0_ := J0.m (Qbh (g := gb143) (o := .cells #[.int .i64 t136, .string t137, .int .u64 t138, .int .i64 t139, .int .i64 t140] 47 (0, 0)) (by (with_reducible repeat (first | apply Qae | apply Qah | apply Qag)); apply sv5; (with_reducible repeat (first | apply Qae | apply Qah | apply Qag)); exact BK143.o) hg (Kd.Qpe HO_5.o (fun _ hk => hk.2))); have n1_ := J0.m (hb); have n2_ := J0.m (ho); clear BK143; clear HB; clear HO_5; have BK143 := n0_; have HB := n1_; have HO146 := n2_; clear n0_ n1_ n2_; clear ho hb hg hat; obtain ⟨hcz13_0, hcz13_1, hcz13_2, hcz13_3, hcz13_4⟩ := (bx5 BK143.o); have hfz13_0 := Qaa BK143.o 0; have hfz13_1 := Qaa BK143.o 1; have hfz13_2 := Qaa BK143.o 2; have hfz13_3 := Qaa BK143.o 3; have hfz13_4 := Qaa BK143.o 4) | ((with_reducible refine Qas (f := 34) rfl ?_); refine Qbm (some 37) rfl rfl Try.func34 (by kernel_rfl) rfl #[.string a0, .int .i64 t140] rfl mQ ?_; (with_reducible refine (Qa4.calls k1 a0 t140 t147 _ A8.o).mono ?_); rintro e w' ⟨rfl, ⟨nd, rfl⟩⟩; refine ⟨_, rfl, ?_⟩))
       go_roundg k1
       case measure => have := HK1.o; omega
       case rel => exact ⟨(y144), (t147), (by first | rfl | (simp; done) | (simp [*]; done)), H', ⟨by have := HK1.o; omega⟩, ⟨by (with_reducible repeat (first | apply Kd.Qb2 | apply Kd.Qb1 | apply Kd.Qcg)); exact Kd.Qep HO146.o (fun _ hk => trivial)⟩, ⟨by repeat (first | (with_reducible first | exact HB.o | apply Qab | apply Qac | apply Qad | refine Qal ?_ GE143.o) | exact HB.o)⟩⟩
      ·rw [if_neg c7] at H
       exact absurd H (by simp)
     ·rw [if_neg c6] at H
      have c6b0 : (t142 == 0) = false := beq_eq_false_iff_ne.mpr c6
      have c6b1 : (t142 != 0) = true := bne_iff_ne.mpr c6
      simp only [Option.some.injEq, Prod.mk.injEq] at H
      obtain ⟨rfl, rfl, rfl⟩ := H
      go_wp2_with (first | ((with_reducible refine Qas (f := 35) rfl ?_); refine Qbm (some 22) rfl rfl Try.func35 (by kernel_rfl) rfl #[.string a0, .int .i64 x6_1] rfl mQ ?_; (with_reducible refine (Qbt.calls k1 a0 x6_1 t136 t137 t138 t139 t140 t141 t142 _ A5.o).mono ?_); rintro e w14 ⟨rfl, hb⟩; refine ⟨_, rfl, ?_⟩; have n0_ := J0.m (Kd.Qb8 (by (with_reducible repeat (first | apply Kd.Qb2 | apply Kd.Qb1 | apply Kd.Qcg)); exact HO_5.o) hb); have n1_ := J0.m (Qap bR hb); clear HO_5; clear HB; have HO_5 := n0_; have HB := n1_; clear n0_ n1_; (try clear hb); (try clear hb2); (try clear hk); (try clear hi)) | ((with_reducible refine Qbv (N := 7) rfl ?_); refine Qbn ?hg (N := 7) ?hd (cs := zT0) (t := 47) ?hr ?_; (case hd => rfl); (case hg => rfl); (case hr => first | (go_simp; done) | (go_simp; rfl)); intro gb143 hg w15 hbox hb; have n0_ := J0.m (Kd.Qb8 (Kd.Qgw (by (with_reducible repeat (first | apply Kd.Qb2 | apply Kd.Qb1 | apply Kd.Qcg)); exact HO_5.o) gb143 (Nat.le_of_eq hg.symm)) hb); have n1_ := J0.m (Qap bR hb); have n2_ := J0.m (hbox); have n3_ := J0.m ((by rw [hg]; exact (Qa8 bR) : w.heap.size ≤ gb143)); have n4_ := n3_; clear HO_5; clear HB; have HO_5 := n0_; have HB := n1_; have BK143 := n2_; have GW143 := n3_; have GE143 := n4_; clear n0_ n1_ n2_ n3_ n4_; clear hb hbox hg; obtain ⟨hcz16_0, hcz16_1, hcz16_2, hcz16_3, hcz16_4⟩ := (bx5 BK143.o); have hfz16_0 := Qaa BK143.o 0; have hfz16_1 := Qaa BK143.o 1; have hfz16_2 := Qaa BK143.o 2; have hfz16_3 := Qaa BK143.o 3; have hfz16_4 := Qaa BK143.o 4))
      go_ret3
      exact ⟨_, by first | rfl | (simp [Qav, Qau] <;> rfl) | (simp [*, Qav, Qau] <;> rfl), by first | exact Kd.Qdq _ _ _ _ _ | exact Kd.Qju _ _ _ _ _ | exact Kd.Qjo _ _ _ _ _ | exact Kd.Qjt _ _ _ _ _ | exact Kd.Qjq _ _ _ _ _, by repeat (first | (with_reducible first | exact HB.o | apply Qab | apply Qac | apply Qad | refine Qal ?_ GE143.o) | exact HB.o)⟩
    ·rw [if_neg c4] at H
     have c4b0 : decide (x6_1 < (a0.size : Int)) = false := decide_eq_false c4
     clear c4
     by_cases c17 : x5_1.length < 2932031007402
     ·rw [if_pos c17] at H
      have LMc17 := J0.m c17
      clear c17
      obtain ⟨y133, hy133⟩ : ∃ y_ : List (S47), y_ = (x5_1 ++ [(⟨0, (⟨#[]⟩ : ByteArray), 0, (a0.size : Int), (a0.size : Int)⟩ : S47)]) := ⟨_, rfl⟩
      replace H : (some (y133, 0, 0)) = some (r1, r2, r3) := by first | (rw [hy133]; with_reducible exact H) | (have H2_ := (Option.bind_some _ _).symm.trans H; rw [hy133]; with_reducible exact H2_) | (have H2_ := (Option.bind_some _ _).symm.trans H; with_reducible exact H2_) | with_reducible exact H | (rw [hy133]; exact H) | exact H
      have Ny133 := J0.m hy133
      clear hy133
      simp only [Option.some.injEq, Prod.mk.injEq] at H
      obtain ⟨rfl, rfl, rfl⟩ := H
      go_wp2_with (first | ((with_reducible refine Qcm (b := .append) (xs := #[.tmp 38, .tmp 44]) rfl ?_); at_builtin; refine Kd.Qd9 k47 (w0 := w) w.heap.size rfl (.tmp 38) (.tmp 44) 37 47 (.agg #[(.int .i64 0), (.string ⟨#[]⟩), (.int .u64 0), (.int .i64 0), (.int .i64 0)]) 48 rfl Try.underlying37 Qk9 rfl (by decide) (by omega) u5 x5_1 (⟨0, (⟨#[]⟩ : ByteArray), 0, (a0.size : Int), (a0.size : Int)⟩ : S47) [.int .i64 0, .string ⟨#[]⟩, .int .u64 0, .int .i64 (a0.size : Int), .int .i64 (a0.size : Int)] (fun _ => True) (fun _ => False) rfl rfl ?aP (fun _ hk => hk.elim) ?aF ?aO ?aB ?aS ?aL ?_; (case aP => exact Qip _ _ _ (⟨0, (⟨#[]⟩ : ByteArray), 0, (a0.size : Int), (a0.size : Int)⟩ : S47)); (case aB => exact bR); (case aF => exact (fun _ _ => trivial)); (case aO => exact (by (with_reducible repeat (first | apply Kd.Qb2 | apply Kd.Qb1 | apply Kd.Qcg)); exact HO_5.o)); (case aS => exact (Qa8 bR)); (case aL => have := LMc17.o; omega); intro v134 w18 ho hb hg hat; rw [← Ny133.o] at ho; have n0_ := J0.m (hb); have n1_ := J0.m (ho); clear HB; clear HO_5; have HB := n0_; have HO135 := n1_; clear n0_ n1_; clear ho hb hg hat))
      go_ret3
      exact ⟨_, by first | rfl | (simp [Qav, Qau] <;> rfl) | (simp [*, Qav, Qau] <;> rfl), by (with_reducible repeat (first | apply Kd.Qb2 | apply Kd.Qb1 | apply Kd.Qcg)); exact HO135.o, bR⟩
     ·rw [if_neg c17] at H
      exact absurd H (by simp)
def Qby.f (a0 : Int) : Option (Bool) := if a0 = 32 then (some true) else (if a0 = 9 then (some true) else (if a0 = 10 then (some true) else (some (a0 == 13))))
theorem Qby.calls (a0 : Int) (r : Bool) (w : World) (h : Qby.f a0 = some r) :
  Calls Try.prog 63 #[.int .u8 a0] w fun e w' => e = .returned (.bool r) ∧ Qa9 w w' := by
 have H : (if a0 = 32 then (some true) else (if a0 = 9 then (some true) else (if a0 = 10 then (some true) else (some (a0 == 13))))) = some r := h
 clear h
 by_cases c2 : a0 = 32
 ·rw [if_pos c2] at H
  have c2b0 : (a0 == 32) = true := beq_iff_eq.mpr c2
  have c2b1 : (a0 != 32) = false := bne_eq_false_iff_eq.mpr c2
  clear c2
  obtain rfl := Option.some.inj H
  go_enter Try.func63, Try.ntmps63
  go_wp2
  go_ret
  exact eQ
 ·rw [if_neg c2] at H
  have c2b0 : (a0 == 32) = false := beq_eq_false_iff_ne.mpr c2
  have c2b1 : (a0 != 32) = true := bne_iff_ne.mpr c2
  by_cases c3 : a0 = 9
  ·rw [if_pos c3] at H
   have c3b0 : (a0 == 9) = true := beq_iff_eq.mpr c3
   have c3b1 : (a0 != 9) = false := bne_eq_false_iff_eq.mpr c3
   clear c3
   obtain rfl := Option.some.inj H
   go_enter Try.func63, Try.ntmps63
   go_wp2
   go_ret
   exact eQ
  ·rw [if_neg c3] at H
   have c3b0 : (a0 == 9) = false := beq_eq_false_iff_ne.mpr c3
   have c3b1 : (a0 != 9) = true := bne_iff_ne.mpr c3
   by_cases c4 : a0 = 10
   ·rw [if_pos c4] at H
    have c4b0 : (a0 == 10) = true := beq_iff_eq.mpr c4
    have c4b1 : (a0 != 10) = false := bne_eq_false_iff_eq.mpr c4
    clear c4
    obtain rfl := Option.some.inj H
    go_enter Try.func63, Try.ntmps63
    go_wp2
    go_ret
    exact eQ
   ·rw [if_neg c4] at H
    have c4b0 : (a0 == 10) = false := beq_eq_false_iff_ne.mpr c4
    have c4b1 : (a0 != 10) = true := bne_iff_ne.mpr c4
    obtain rfl := Option.some.inj H
    go_enter Try.func63, Try.ntmps63
    go_wp2
    go_ret
    exact eQ
mutual
def Qan.l0 : Nat → ByteArray → Int → Option (Int)
 | 0, _, _ => none
 | k + 1, x0, x1 => if x1 < (x0.size : Int) then (if 0 ≤ x1 then ((Qby.f (bt x0 x1)).bind fun t148 => (if t148 = true then (Qan.l0 k x0 (wrap64 (x1 + 1))) else (if (bt x0 x1) = 35 then (Qan.l1 k x0 x1) else (some x1)))) else (none)) else (some x1)
def Qan.l1 : Nat → ByteArray → Int → Option (Int)
 | 0, _, _ => none
 | k + 1, x0, x1 => if x1 < (x0.size : Int) then (if 0 ≤ x1 then (if (bt x0 x1) = 10 then (Qan.l0 k x0 x1) else (Qan.l1 k x0 (wrap64 (x1 + 1)))) else (none)) else (Qan.l0 k x0 x1)
end
def Qan.f (k : Nat) (a0 : ByteArray) (a1 : Int) : Option (Int) := Qan.l0 k a0 a1
theorem Qan.calls (k : Nat) (a0 : ByteArray) (a1 : Int) (r : Int) (w : World) (h : Qan.f k a0 a1 = some r) :
  Calls Try.prog 41 #[.string a0, .int .i64 a1] w fun e w' => e = .returned (.int .i64 r) ∧ Qa9 w w' := by
 have H : (Qan.l0 k a0 a1) = some r := h
 clear h
 have H' := J0.m H
 clear H
 go_enter Try.func41, Try.ntmps41
 go_wp2
 go_loopg [1] k (fun kq v1 w' => ∃ (x1_1 : Int), v1 = .int .i64 x1_1 ∧ J0 (Qan.l0 kq a0 x1_1 = some r) ∧ J0 (kq ≤ k) ∧ Qa9 w w')
 case atStart => exact ⟨(a1), (by first | rfl | (simp; done) | (simp [*]; done)), H', ⟨Nat.le_refl _⟩, dR⟩
 case round =>
  clear H'
  try clear p2
  obtain ⟨x1_1, rfl, HA, HK1, ⟨m1, rfl⟩⟩ := hrel
  cases gk with
  | zero => exact absurd HA.o (by simp [Qan.l0])
  | succ k1 =>
   have H := HA.o
   clear HA
   simp only [Qan.l0] at H
   by_cases c3 : x1_1 < (a0.size : Int)
   ·rw [if_pos c3] at H
    have c3b0 : decide (x1_1 < (a0.size : Int)) = true := decide_eq_true c3
    clear c3
    by_cases c4 : 0 ≤ x1_1
    ·rw [if_pos c4] at H
     have c4b0 : decide (0 ≤ x1_1) = true := decide_eq_true c4
     clear c4
     replace H := Option.bind_eq_some_iff.mp H
     obtain ⟨t148, A60, H⟩ := H
     replace H : (if t148 = true then (Qan.l0 k1 a0 (wrap64 (x1_1 + 1))) else (if (bt a0 x1_1) = 35 then (Qan.l1 k1 a0 x1_1) else (some x1_1))) = some r := H
     have A6 := J0.m A60
     clear A60
     by_cases c7 : t148 = true
     ·subst c7
      have H1 : (Qan.l0 k1 a0 (wrap64 (x1_1 + 1))) = some r := by rw [if_pos rfl] at H; exact H
      clear H
      have H := H1
      clear H1
      have H' := J0.m H
      clear H
      have p5 : 0 ≤ (x1_1 : Int) := dQ
      have q5 : x1_1 < (a0.size : Int) := dQ
      have hx5 := Qbx a0 x1_1
      replace p5 := eq_true p5
      replace q5 := eq_true q5
      go_wp2_with (first | ((with_reducible refine Qas (f := 63) rfl ?_); refine Qbm (some 14) rfl rfl Try.func63 (by kernel_rfl) rfl #[.int .u8 (bt a0 x1_1)] rfl mQ ?_; (with_reducible refine (Qby.calls (bt a0 x1_1) true _ A6.o).mono ?_); rintro e w' ⟨rfl, ⟨nd, rfl⟩⟩; refine ⟨_, rfl, ?_⟩))
      go_roundg k1
      case measure => have := HK1.o; omega
      case rel => exact ⟨(wrap64 (x1_1 + 1)), (by first | rfl | (simp; done) | (simp [*]; done)), H', ⟨by have := HK1.o; omega⟩, dR⟩
     ·replace c7 := Bool.eq_false_iff.mpr c7
      subst c7
      have H1 : (if (bt a0 x1_1) = 35 then (Qan.l1 k1 a0 x1_1) else (some x1_1)) = some r := by rw [if_neg (show ¬ (false = true) by decide)] at H; exact H
      clear H
      have H := H1
      clear H1
      by_cases c9 : (bt a0 x1_1) = 35
      ·rw [if_pos c9] at H
       have c9b0 : ((bt a0 x1_1) == 35) = true := beq_iff_eq.mpr c9
       have c9b1 : ((bt a0 x1_1) != 35) = false := bne_eq_false_iff_eq.mpr c9
       clear c9
       have H' := J0.m H
       clear H
       have p5 : 0 ≤ (x1_1 : Int) := dQ
       have q5 : x1_1 < (a0.size : Int) := dQ
       have hx5 := Qbx a0 x1_1
       replace p5 := eq_true p5
       replace q5 := eq_true q5
       go_wp2_with (first | ((with_reducible refine Qas (f := 63) rfl ?_); refine Qbm (some 14) rfl rfl Try.func63 (by kernel_rfl) rfl #[.int .u8 (bt a0 x1_1)] rfl mQ ?_; (with_reducible refine (Qby.calls (bt a0 x1_1) false _ A6.o).mono ?_); rintro e w' ⟨rfl, ⟨nd, rfl⟩⟩; refine ⟨_, rfl, ?_⟩; have p8 : 0 ≤ (x1_1 : Int) := dQ; have q8 : x1_1 < (a0.size : Int) := dQ; have hx8 := Qbx a0 x1_1; replace p8 := eq_true p8; replace q8 := eq_true q8))
       go_loopg [1] k1 (fun kq v1 w' => ∃ (x1_2 : Int), v1 = .int .i64 x1_2 ∧ J0 (Qan.l1 kq a0 x1_2 = some r) ∧ J0 (kq ≤ k1) ∧ Qa9 w w')
       case atStart => exact ⟨(x1_1), (by first | rfl | (simp; done) | (simp [*]; done)), H', ⟨Nat.le_refl _⟩, dR⟩
       case round =>
        clear H'
        try clear p2
        try clear c3
        try clear c3b0
        try clear c4
        try clear c4b0
        try clear p5
        try clear q5
        try clear hx5
        try clear c6
        try clear p6
        try clear c7
        try clear p8
        try clear q8
        try clear hx8
        try clear c9
        try clear c9b0
        try clear c9b1
        try clear p2
        try clear p5
        try clear p8
        try clear q5
        try clear q8
        obtain ⟨x1_2, rfl, HA, HK2, ⟨m2, rfl⟩⟩ := hrel
        cases gk with
        | zero => exact absurd HA.o (by simp [Qan.l1])
        | succ k2 =>
         have H := HA.o
         clear HA
         simp only [Qan.l1] at H
         by_cases c10 : x1_2 < (a0.size : Int)
         ·rw [if_pos c10] at H
          have c10b0 : decide (x1_2 < (a0.size : Int)) = true := decide_eq_true c10
          clear c10
          by_cases c11 : 0 ≤ x1_2
          ·rw [if_pos c11] at H
           have c11b0 : decide (0 ≤ x1_2) = true := decide_eq_true c11
           clear c11
           by_cases c13 : (bt a0 x1_2) = 10
           ·rw [if_pos c13] at H
            have c13b0 : ((bt a0 x1_2) == 10) = true := beq_iff_eq.mpr c13
            have c13b1 : ((bt a0 x1_2) != 10) = false := bne_eq_false_iff_eq.mpr c13
            clear c13
            have H' := J0.m H
            clear H
            have p12 : 0 ≤ (x1_2 : Int) := dQ
            have q12 : x1_2 < (a0.size : Int) := dQ
            have hx12 := Qbx a0 x1_2
            replace p12 := eq_true p12
            replace q12 := eq_true q12
            go_wp2
            go_roundg k2
            case measure => have := HK1.o; have := HK2.o; omega
            case rel => exact ⟨(x1_2), (by first | rfl | (simp; done) | (simp [*]; done)), H', ⟨by have := HK1.o; have := HK2.o; omega⟩, dR⟩
           ·rw [if_neg c13] at H
            have c13b0 : ((bt a0 x1_2) == 10) = false := beq_eq_false_iff_ne.mpr c13
            have c13b1 : ((bt a0 x1_2) != 10) = true := bne_iff_ne.mpr c13
            have H' := J0.m H
            clear H
            have p12 : 0 ≤ (x1_2 : Int) := dQ
            have q12 : x1_2 < (a0.size : Int) := dQ
            have hx12 := Qbx a0 x1_2
            replace p12 := eq_true p12
            replace q12 := eq_true q12
            go_wp2
            go_roundg k2
            case measure => have := HK1.o; have := HK2.o; omega
            case rel => exact ⟨(wrap64 (x1_2 + 1)), (by first | rfl | (simp; done) | (simp [*]; done)), H', ⟨by have := HK1.o; have := HK2.o; omega⟩, dR⟩
          ·rw [if_neg c11] at H
           exact absurd H (by simp)
         ·rw [if_neg c10] at H
          have c10b0 : decide (x1_2 < (a0.size : Int)) = false := decide_eq_false c10
          clear c10
          have H' := J0.m H
          clear H
          go_wp2
          go_roundg k2
          case measure => have := HK1.o; have := HK2.o; omega
          case rel => exact ⟨(x1_2), (by first | rfl | (simp; done) | (simp [*]; done)), H', ⟨by have := HK1.o; have := HK2.o; omega⟩, dR⟩
      ·rw [if_neg c9] at H
       have c9b0 : ((bt a0 x1_1) == 35) = false := beq_eq_false_iff_ne.mpr c9
       have c9b1 : ((bt a0 x1_1) != 35) = true := bne_iff_ne.mpr c9
       obtain rfl := Option.some.inj H
       have p5 : 0 ≤ (x1_1 : Int) := dQ
       have q5 : x1_1 < (a0.size : Int) := dQ
       have hx5 := Qbx a0 x1_1
       replace p5 := eq_true p5
       replace q5 := eq_true q5
       go_wp2_with (first | ((with_reducible refine Qas (f := 63) rfl ?_); refine Qbm (some 14) rfl rfl Try.func63 (by kernel_rfl) rfl #[.int .u8 (bt a0 x1_1)] rfl mQ ?_; (with_reducible refine (Qby.calls (bt a0 x1_1) false _ A6.o).mono ?_); rintro e w' ⟨rfl, ⟨nd, rfl⟩⟩; refine ⟨_, rfl, ?_⟩; have p8 : 0 ≤ (x1_1 : Int) := dQ; have q8 : x1_1 < (a0.size : Int) := dQ; have hx8 := Qbx a0 x1_1; replace p8 := eq_true p8; replace q8 := eq_true q8))
       go_ret
       exact eQ
    ·rw [if_neg c4] at H
     exact absurd H (by simp)
   ·rw [if_neg c3] at H
    have c3b0 : decide (x1_1 < (a0.size : Int)) = false := decide_eq_false c3
    clear c3
    obtain rfl := Option.some.inj H
    go_wp2
    go_ret
    exact eQ
def Qa7.f (a0 : Int) : Option (Bool) := if a0 = 95 then (some true) else (if a0 ≥ 97 then (if a0 ≤ 122 then (some true) else (if a0 ≥ 65 then (some (decide (a0 ≤ 90))) else (some false))) else (if a0 ≥ 65 then (some (decide (a0 ≤ 90))) else (some false)))
theorem Qa7.calls (a0 : Int) (r : Bool) (w : World) (h : Qa7.f a0 = some r) :
  Calls Try.prog 64 #[.int .u8 a0] w fun e w' => e = .returned (.bool r) ∧ Qa9 w w' := by
 have H : (if a0 = 95 then (some true) else (if a0 ≥ 97 then (if a0 ≤ 122 then (some true) else (if a0 ≥ 65 then (some (decide (a0 ≤ 90))) else (some false))) else (if a0 ≥ 65 then (some (decide (a0 ≤ 90))) else (some false)))) = some r := h
 clear h
 by_cases c2 : a0 = 95
 ·rw [if_pos c2] at H
  have c2b0 : (a0 == 95) = true := beq_iff_eq.mpr c2
  have c2b1 : (a0 != 95) = false := bne_eq_false_iff_eq.mpr c2
  clear c2
  obtain rfl := Option.some.inj H
  go_enter Try.func64, Try.ntmps64
  go_wp2
  go_ret
  exact eQ
 ·rw [if_neg c2] at H
  have c2b0 : (a0 == 95) = false := beq_eq_false_iff_ne.mpr c2
  have c2b1 : (a0 != 95) = true := bne_iff_ne.mpr c2
  by_cases c3 : a0 ≥ 97
  ·rw [if_pos c3] at H
   have c3b0 : decide (97 ≤ a0) = true := decide_eq_true c3
   clear c3
   by_cases c4 : a0 ≤ 122
   ·rw [if_pos c4] at H
    have c4b0 : decide (a0 ≤ 122) = true := decide_eq_true c4
    clear c4
    obtain rfl := Option.some.inj H
    go_enter Try.func64, Try.ntmps64
    go_wp2
    go_ret
    exact eQ
   ·rw [if_neg c4] at H
    have c4b0 : decide (a0 ≤ 122) = false := decide_eq_false c4
    clear c4
    by_cases c5 : a0 ≥ 65
    ·rw [if_pos c5] at H
     have c5b0 : decide (65 ≤ a0) = true := decide_eq_true c5
     clear c5
     obtain rfl := Option.some.inj H
     go_enter Try.func64, Try.ntmps64
     go_wp2
     go_ret
     exact eQ
    ·rw [if_neg c5] at H
     have c5b0 : decide (65 ≤ a0) = false := decide_eq_false c5
     clear c5
     obtain rfl := Option.some.inj H
     go_enter Try.func64, Try.ntmps64
     go_wp2
     go_ret
     exact eQ
  ·rw [if_neg c3] at H
   have c3b0 : decide (97 ≤ a0) = false := decide_eq_false c3
   clear c3
   by_cases c6 : a0 ≥ 65
   ·rw [if_pos c6] at H
    have c6b0 : decide (65 ≤ a0) = true := decide_eq_true c6
    clear c6
    obtain rfl := Option.some.inj H
    go_enter Try.func64, Try.ntmps64
    go_wp2
    go_ret
    exact eQ
   ·rw [if_neg c6] at H
    have c6b0 : decide (65 ≤ a0) = false := decide_eq_false c6
    clear c6
    obtain rfl := Option.some.inj H
    go_enter Try.func64, Try.ntmps64
    go_wp2
    go_ret
    exact eQ
end Go.Proofs.Ytbdcndkafaajpaa.X
end
section
namespace Go.Proofs.Ytbdcndkafaajpaa.L
open Ytbdcndkafaajpaa
def isD (b : UInt8) : Bool := G.dig (b.toNat : Int)
def isL (b : UInt8) : Bool := G.letr (b.toNat : Int)
def isW (b : UInt8) : Bool := isL b || isD b
def blank (b : UInt8) : Bool := decide (b.toNat = 32 ∨ b.toNat = 9 ∨ b.toNat = 10 ∨ b.toNat = 13)
def lead (p : UInt8 → Bool) : List UInt8 → Nat
 | [] => 0
 | b :: t => if p b then lead p t + 1 else 0
def sk : Bool → List UInt8 → Nat
 | _, [] => 0
 | false, b :: t => if blank b then sk false t + 1 else if b.toNat = 35 then sk true t + 1 else 0
 | true, b :: t => sk (b.toNat != 10) t + 1
def hexv (b : UInt8) : Option Nat :=
 if 48 ≤ b.toNat ∧ b.toNat ≤ 57 then some (b.toNat - 48)
 else if 97 ≤ b.toNat ∧ b.toNat ≤ 102 then some (b.toNat - 87)
 else if 65 ≤ b.toNat ∧ b.toNat ≤ 70 then some (b.toNat - 55) else none
def escx : List UInt8 → Option (UInt8 × Nat)
 | a :: b :: _ => match hexv a, hexv b with
  | some x, some y => some ((16 * x + y).toUInt8, 3)
  | _, _ => none
 | _ => none
def esc : List UInt8 → Option (UInt8 × Nat)
 | [] => none
 | c :: t => if c.toNat = 92 ∨ c.toNat = 34 then some (c, 1) else if c.toNat = 110 then some (10, 1) else if c.toNat = 116 then some (9, 1)
  else if c.toNat = 120 then escx t
  else none
structure Tk where
 kind : Nat
 text : List UInt8
 num : Nat
 len : Nat
inductive R where
 | ok (t : Tk)
 | bad (off : Nat) (e : Nat)
def tx (off : Nat) (acc : List UInt8) (l : List UInt8) : R :=
 match l with
 | [] => .bad 0 81
 | b :: t =>
  if b.toNat = 10 then .bad 0 81
  else if b.toNat = 34 then .ok ⟨3, acc, 0, off + 1⟩
  else if b.toNat = 92 then
   match esc t with
   | none => .bad off 82
   | some (c, n) => tx (off + n + 1) (acc ++ [c]) (t.drop n)
  else tx (off + 1) (acc ++ [b]) t
termination_by l.length
decreasing_by all_goals (simp only [List.length_cons, List.length_drop]; omega)
def marks : List Nat := [123, 125, 40, 41, 58, 59, 44, 61, 43, 45, 42]
def tok : List UInt8 → R
 | [] => .bad 0 0
 | b :: t =>
  if isL b then (if lead isW (b :: t) > 64 then .bad 0 111 else .ok ⟨1, (b :: t).take (lead isW (b :: t)), 0, lead isW (b :: t)⟩)
  else if isD b then (match G.numv 0 ((b :: t).take (lead isD (b :: t))) with
   | none => .bad 0 111
   | some x => .ok ⟨2, [], x, lead isD (b :: t)⟩)
  else if b.toNat = 34 then tx 1 [] t
  else if b.toNat ∈ marks then .ok ⟨4, [b], 0, 1⟩
  else .bad 0 80
theorem Qe6 (p : UInt8 → Bool) (l : List UInt8) : lead p l ≤ l.length := by
 induction l with
 | nil => exact Nat.le_refl _
 | cons b t ih => simp only [lead, List.length_cons]; split <;> omega
theorem Qm0 {l : List UInt8} {c : UInt8} {n : Nat} (h : escx l = some (c, n)) : n = 3 ∧ 2 ≤ l.length := by
 match l, h with
 | a :: b :: t, h =>
  rw [escx] at h
  split at h
  ·simp only [Option.some.injEq, Prod.mk.injEq] at h; exact ⟨h.2.symm, by simp only [List.length_cons]; omega⟩
  ·cases h
theorem Qoj {w r r' : List UInt8} (h : 2 ≤ w.length) : escx (w ++ r) = escx (w ++ r') := by
 match w, h with
 | a :: b :: t, _ => rfl
theorem Qia {l : List UInt8} {c : UInt8} {n : Nat} (h : esc l = some (c, n)) : 1 ≤ n ∧ n ≤ l.length := by
 cases l with
 | nil => simp [esc] at h
 | cons a t =>
  rw [esc] at h
  split at h
  ·simp at h; simp; omega
  split at h
  ·simp at h; simp; omega
  split at h
  ·simp at h; simp; omega
  split at h
  ·have := Qm0 h; simp only [List.length_cons]; omega
  ·simp at h
theorem Qkt {off : Nat} {acc l : List UInt8} {t : Tk} (h : tx off acc l = .ok t) : off + 1 ≤ t.len ∧ t.len ≤ off + l.length := by
 induction off, acc, l using tx.induct generalizing t with
 | case1 off acc => rw [tx] at h; cases h
 | case2 off acc b t' hb => rw [tx, if_pos hb] at h; cases h
 | case3 off acc b t' hb h34 => rw [tx, if_neg hb, if_pos h34] at h; cases h; simp only [List.length_cons]; omega
 | case4 off acc b t' hb h34 h92 he => rw [tx, if_neg hb, if_neg h34, if_pos h92, he] at h; cases h
 | case5 off acc b t' hb h34 h92 c n he ih =>
  rw [tx, if_neg hb, if_neg h34, if_pos h92, he] at h
  have := ih h; have := Qia he
  rw [List.length_drop] at *; simp only [List.length_cons]; omega
 | case6 off acc b t' hb h34 h92 ih =>
  rw [tx, if_neg hb, if_neg h34, if_neg h92] at h
  have := ih h; simp only [List.length_cons]; omega
theorem Qk8 {p : UInt8 → Bool} {b : UInt8} {t : List UInt8} (h : p b = true) : 1 ≤ lead p (b :: t) := by
 rw [lead, if_pos h]; omega
theorem Qds {l : List UInt8} {t : Tk} (h : tok l = .ok t) : 1 ≤ t.len ∧ t.len ≤ l.length := by
 cases l with
 | nil => cases h
 | cons b r =>
  have l1 := Qe6 isW (b :: r)
  have l2 := Qe6 isD (b :: r)
  rw [tok] at h
  split at h
  ·rename_i hb
   have := @Qk8 isW b r (by unfold isW; rw [hb]; rfl)
   split at h
   ·cases h
   ·cases h; exact ⟨this, l1⟩
  split at h
  ·rename_i hb
   have := @Qk8 isD b r hb
   split at h
   ·cases h
   ·cases h; exact ⟨this, l2⟩
  split at h
  ·have := Qkt h; simp only [List.length_cons]; omega
  split at h
  ·cases h; simp
  ·cases h
structure Tok where
 kind : Nat
 text : List UInt8
 num : Nat
 at' : Nat
 fin : Nat
inductive LR where
 | toks (l : List Tok)
 | bad (at' : Nat) (e : Nat)
def LR.push (t : Tok) : LR → LR
 | .toks l => .toks (t :: l)
 | .bad a e => .bad a e
def Tk.at_ (t : Tk) (o : Nat) : Tok := ⟨t.kind, t.text, t.num, o, o + t.len⟩
theorem Qnp (r : Bool) (l : List UInt8) : sk r l ≤ l.length := by
 induction l generalizing r with
 | nil => cases r <;> exact Nat.le_refl _
 | cons b t ih =>
  have h1 := ih false; have h2 := ih true; have h3 := ih (b.toNat != 10)
  cases r
  ·rw [sk, List.length_cons]; split
   ·omega
   ·split <;> omega
  ·rw [sk, List.length_cons]; omega
def lx (off : Nat) (l : List UInt8) : LR :=
 if hz : sk false l = l.length then .toks [⟨0, [], 0, off + l.length, off + l.length⟩]
 else match ht : tok (l.drop (sk false l)) with
  | .bad a e => .bad (off + sk false l + a) e
  | .ok t => (lx (off + sk false l + t.len) (l.drop (sk false l + t.len))).push (t.at_ (off + sk false l))
termination_by l.length
decreasing_by
 have h1 := Qds ht
 have h2 := Qnp false l
 rw [List.length_drop] at h1 ⊢; omega
theorem Qem {off : Nat} {l : List UInt8} (h : sk false l = l.length) : lx off l = .toks [⟨0, [], 0, off + l.length, off + l.length⟩] := by
 rw [lx, dif_pos h]
theorem Qk6 {off : Nat} {l : List UInt8} {a e : Nat} (h : sk false l ≠ l.length) (ht : tok (l.drop (sk false l)) = .bad a e) : lx off l = .bad (off + sk false l + a) e := by
 rw [lx, dif_neg h]; split
 ·rename_i h2; rw [ht] at h2; cases h2; rfl
 ·rename_i h2; rw [ht] at h2; cases h2
theorem Qn8 {off : Nat} {l : List UInt8} {t : Tk} (h : sk false l ≠ l.length) (ht : tok (l.drop (sk false l)) = .ok t) : lx off l = (lx (off + sk false l + t.len) (l.drop (sk false l + t.len))).push (t.at_ (off + sk false l)) := by
 rw [lx, dif_neg h]; split
 ·rename_i h2; rw [ht] at h2; cases h2
 ·rename_i h2; rw [ht] at h2; cases h2; rfl
def Lex (l : List UInt8) : LR := if l.length > 1048576 then .bad 0 2 else lx 0 l
def hx (n : Nat) : UInt8 := (if n < 10 then 48 + n else 87 + n).toUInt8
def Qei (p : UInt8 → Bool) (r : List UInt8) : Prop := ∀ b t, r = b :: t → p b = false
theorem Qf5 (p : UInt8 → Bool) : Qei p [] := by intro b t h; cases h
theorem Qdw {p : UInt8 → Bool} {b : UInt8} {t : List UInt8} (h : p b = false) : Qei p (b :: t) := by intro c u e; cases e; exact h
theorem Qen (p : UInt8 → Bool) (w r : List UInt8) : lead p (w ++ r) = w.length ↔ (∀ b ∈ w, p b = true) ∧ Qei p r := by
 induction w with
 | nil =>
  cases r with
  | nil => simp [lead, Qf5]
  | cons b t =>
   simp only [List.nil_append, lead, List.length_nil, List.not_mem_nil, false_imp_iff, implies_true, true_and]
   cases hb : p b with
   | true =>
    simp only [if_true]; constructor
    ·intro h; omega
    ·intro h; rw [h b t rfl] at hb; cases hb
   | false => simp only [Bool.false_eq_true, if_false, true_iff]; exact Qdw hb
 | cons b t ih =>
  simp only [List.cons_append, lead, List.length_cons, List.mem_cons]
  cases hb : p b with
  | true =>
   simp only [if_true, Nat.add_right_cancel_iff, ih]
   constructor
   ·rintro ⟨h1, h2⟩; exact ⟨fun c hc => hc.elim (fun e => e ▸ hb) (h1 c), h2⟩
   ·rintro ⟨h1, h2⟩; exact ⟨fun c hc => h1 c (.inr hc), h2⟩
  | false =>
   simp only [Bool.false_eq_true, if_false]
   constructor
   ·intro h; omega
   ·rintro ⟨h1, h2⟩; rw [h1 b (.inl rfl)] at hb; cases hb
theorem Qmr (p : UInt8 → Bool) (l : List UInt8) : (∀ b ∈ l.take (lead p l), p b = true) ∧ Qei p (l.drop (lead p l)) := by
 have h := Qen p (l.take (lead p l)) (l.drop (lead p l))
 rw [List.take_append_drop, List.length_take] at h
 exact h.1 (by have := Qe6 p l; omega)
def stop (kind : Nat) (r : List UInt8) : Prop := (kind = 1 → Qei isW r) ∧ (kind = 2 → Qei isD r)
theorem isW_D {b : UInt8} (h : isW b = false) : isD b = false := by unfold isW at h; rw [Bool.or_eq_false_iff] at h; exact h.2
theorem Qpn {kind : Nat} {r : List UInt8} (h : Qei isW r) : stop kind r := ⟨fun _ => h, fun _ b t e => isW_D (h b t e)⟩
theorem Qkj {w r r' : List UInt8} {c : UInt8} {n : Nat} (h : esc (w ++ r) = some (c, n)) (hn : n ≤ w.length) : esc (w ++ r') = some (c, n) := by
 cases w with
 | nil => have := Qia h; simp only [List.length_nil] at hn; omega
 | cons a t =>
  simp only [List.cons_append] at h ⊢
  rw [esc] at h ⊢
  split at h
  ·rename_i h1; rw [if_pos h1]; exact h
  rename_i h1; rw [if_neg h1]
  split at h
  ·rename_i h2; rw [if_pos h2]; exact h
  rename_i h2; rw [if_neg h2]
  split at h
  ·rename_i h3; rw [if_pos h3]; exact h
  rename_i h3; rw [if_neg h3]
  split at h
  ·rename_i h4; rw [if_pos h4]
   have := Qm0 h
   simp only [List.length_cons] at hn
   rw [← h]; exact (Qoj (by omega)).symm
  ·cases h
theorem tx_loc {r r' : List UInt8} {t : Tk} : ∀ (d : Nat) (w : List UInt8) (off : Nat) (acc : List UInt8), w.length ≤ d → tx off acc (w ++ r) = .ok t → w.length + off = t.len → tx off acc (w ++ r') = .ok t := by
 intro d
 induction d with
 | zero =>
  intro w off acc hd h hw
  have := Qkt h; omega
 | succ d ih =>
  intro w off acc hd h hw
  cases w with
  | nil => have := Qkt h; simp only [List.length_nil] at hw; omega
  | cons b w =>
   simp only [List.cons_append, List.length_cons] at h hw hd ⊢
   rw [tx] at h ⊢
   split at h
   ·cases h
   rename_i h1; rw [if_neg h1]
   split at h
   ·rename_i h2; rw [if_pos h2]; exact h
   rename_i h2; rw [if_neg h2]
   split at h
   ·rename_i h3; rw [if_pos h3]
    cases he : esc (w ++ r) with
    | none => rw [he] at h; cases h
    | some p =>
     obtain ⟨c, n⟩ := p
     rw [he] at h; simp only at h
     have hl := Qkt h
     have hn : n ≤ w.length := by omega
     rw [Qkj he hn]; simp only
     rw [List.drop_append_of_le_length hn] at h ⊢
     exact ih _ _ _ (by rw [List.length_drop]; omega) h (by rw [List.length_drop]; omega)
   ·rename_i h3; rw [if_neg h3]
    exact ih _ _ _ (by omega) h (by omega)
theorem Ql0 {off : Nat} {acc l : List UInt8} {t : Tk} (h : tx off acc l = .ok t) : t.kind = 3 := by
 induction off, acc, l using tx.induct generalizing t with
 | case1 off acc => rw [tx] at h; cases h
 | case2 off acc b t' hb => rw [tx, if_pos hb] at h; cases h
 | case3 off acc b t' hb h34 => rw [tx, if_neg hb, if_pos h34] at h; cases h; rfl
 | case4 off acc b t' hb h34 h92 he => rw [tx, if_neg hb, if_neg h34, if_pos h92, he] at h; cases h
 | case5 off acc b t' hb h34 h92 c n he ih => rw [tx, if_neg hb, if_neg h34, if_pos h92, he] at h; exact ih h
 | case6 off acc b t' hb h34 h92 ih => rw [tx, if_neg hb, if_neg h34, if_neg h92] at h; exact ih h
theorem Qkv {l : List UInt8} {t : Tk} (h : tok l = .ok t) : 1 ≤ t.kind ∧ t.kind ≤ 4 := by
 cases l with
 | nil => cases h
 | cons b r =>
  rw [tok] at h
  split at h
  ·split at h
   ·cases h
   ·cases h; simp
  split at h
  ·split at h
   ·cases h
   ·cases h; simp
  split at h
  ·rw [Ql0 h]; decide
  split at h
  ·cases h; simp
  ·cases h
theorem Qku {w r : List UInt8} {t : Tk} (h : tok (w ++ r) = .ok t) (hw : w.length = t.len) : stop t.kind r := by
 have hl := Qds h
 cases w with
 | nil => simp only [List.length_nil] at hw; omega
 | cons b w =>
  simp only [List.cons_append] at h
  rw [tok] at h
  split at h
  ·split at h
   ·cases h
   ·injection h with h; subst h
    have := (Qen isW (b :: w) r).1 (by simpa using hw.symm)
    exact ⟨fun _ => this.2, (fun h => by simp at h)⟩
  split at h
  ·split at h
   ·cases h
   ·injection h with h; subst h
    have := (Qen isD (b :: w) r).1 (by simpa using hw.symm)
    exact ⟨(fun h => by simp at h), fun _ => this.2⟩
  split at h
  ·have := Ql0 h; exact ⟨fun h => by omega, fun h => by omega⟩
  split at h
  ·injection h with h; subst h; exact ⟨(fun h => by simp at h), (fun h => by simp at h)⟩
  ·cases h
theorem Qg5 {w r r' : List UInt8} {t : Tk} (h : tok (w ++ r) = .ok t) (hw : w.length = t.len) (hs : stop t.kind r') : tok (w ++ r') = .ok t := by
 have hl := Qds h
 cases w with
 | nil => simp only [List.length_nil] at hw; omega
 | cons b w =>
  simp only [List.cons_append] at h ⊢
  rw [tok] at h ⊢
  split at h
  ·rename_i h1; rw [if_pos h1]
   split at h
   ·cases h
   ·rename_i h2
    injection h with h; subst h
    have e := (Qen isW (b :: w) r).1 (by simpa using hw.symm)
    have e2 := (Qen isW (b :: w) r').2 ⟨e.1, hs.1 rfl⟩
    simp only at hw
    rw [List.cons_append] at e2
    rw [← hw] at h2 ⊢
    rw [e2, if_neg h2, ← List.cons_append, ← List.cons_append, List.take_left, List.take_left]
  rename_i h1; rw [if_neg h1]
  split at h
  ·rename_i h2; rw [if_pos h2]
   split at h
   ·cases h
   ·rename_i x hx
    injection h with h; subst h
    have e := (Qen isD (b :: w) r).1 (by simpa using hw.symm)
    have e2 := (Qen isD (b :: w) r').2 ⟨e.1, hs.2 rfl⟩
    simp only at hw
    rw [List.cons_append] at e2
    rw [← hw, ← List.cons_append, List.take_left] at hx
    rw [e2, ← List.cons_append, List.take_left, hx, hw]
  rename_i h2; rw [if_neg h2]
  split at h
  ·rename_i h3; rw [if_pos h3]
   exact tx_loc _ _ _ _ (Nat.le_refl _) h (by simpa using hw)
  rename_i h3; rw [if_neg h3]
  split at h
  ·rename_i h4; rw [if_pos h4]; exact h
  ·cases h
def gs : Bool → List UInt8 → Option Bool
 | r, [] => some r
 | false, b :: t => if blank b then gs false t else if b.toNat = 35 then gs true t else none
 | true, b :: t => gs (b.toNat != 10) t
theorem Qqe {r q : Bool} {g m : List UInt8} (h : gs r g = some q) : sk r (g ++ m) = g.length + sk q m := by
 induction g generalizing r with
 | nil => rw [gs] at h; cases h; simp
 | cons b t ih =>
  cases r
  ·rw [gs] at h
   simp only [List.cons_append, sk, List.length_cons]
   split at h
   ·rename_i h1; rw [if_pos h1, ih h]; omega
   ·rename_i h1; rw [if_neg h1]
    split at h
    ·rename_i h2; rw [if_pos h2, ih h]; omega
    ·cases h
  ·rw [gs] at h
   simp only [List.cons_append, sk, List.length_cons]
   rw [ih h]; omega
theorem sk_gs {r : Bool} {l : List UInt8} (h : sk r l < l.length) : gs r (l.take (sk r l)) = some false ∧ sk false (l.drop (sk r l)) = 0 := by
 induction l generalizing r with
 | nil => simp at h
 | cons b t ih =>
  cases r
  ·rw [sk] at h ⊢
   split at h
   ·rename_i h1; simp only [List.length_cons] at h
    rw [if_pos h1, List.take_succ_cons, gs, if_pos h1, List.drop_succ_cons]
    exact ih (by omega)
   ·rename_i h1; rw [if_neg h1]
    split at h
    ·rename_i h2; simp only [List.length_cons] at h
     rw [if_pos h2, List.take_succ_cons, gs, if_neg h1, if_pos h2, List.drop_succ_cons]
     exact ih (by omega)
    ·rename_i h2; rw [if_neg h2, List.take_zero, gs, List.drop_zero, sk, if_neg h1, if_neg h2]; exact ⟨rfl, rfl⟩
  ·rw [sk] at h ⊢
   simp only [List.length_cons] at h
   rw [List.take_succ_cons, gs, List.drop_succ_cons]
   exact ih (by omega)
theorem sk_all {r : Bool} {l : List UInt8} (h : sk r l = l.length) : ∃ q, gs r l = some q := by
 induction l generalizing r with
 | nil => exact ⟨r, by rw [gs]⟩
 | cons b t ih =>
  cases r
  ·rw [sk] at h
   rw [gs]
   split at h
   ·rename_i h1; rw [if_pos h1]; exact ih (by simpa using h)
   ·rename_i h1; rw [if_neg h1]
    split at h
    ·rename_i h2; rw [if_pos h2]; exact ih (by simpa using h)
    ·simp at h
  ·rw [sk] at h
   rw [gs]
   exact ih (by simpa using h)
theorem Qo5 {r q : Bool} {l : List UInt8} (h : gs r l = some q) : sk r l = l.length := by
 have := Qqe (m := []) h
 rw [List.append_nil] at this
 cases q <;> simpa [sk] using this
theorem Ql3 {b : UInt8} {t : List UInt8} (h : blank b = true ∨ b.toNat = 35) : tok (b :: t) = .bad 0 80 := by
 have hb : b.toNat = 32 ∨ b.toNat = 9 ∨ b.toNat = 10 ∨ b.toNat = 13 ∨ b.toNat = 35 := by
  rcases h with h | h
  ·have := of_decide_eq_true h; omega
  ·omega
 have h1 : isL b = false := decide_eq_false (by omega)
 have h2 : isD b = false := decide_eq_false (by omega)
 rw [tok, if_neg (by rw [h1]; decide), if_neg (by rw [h2]; decide), if_neg (by omega), if_neg]
 unfold marks
 simp only [List.mem_cons, List.not_mem_nil, or_false]
 omega
theorem tok_sk {m : List UInt8} {t : Tk} (h : tok m = .ok t) : sk false m = 0 := by
 cases m with
 | nil => rfl
 | cons b m =>
  by_cases h1 : blank b = true ∨ b.toNat = 35
  ·rw [Ql3 h1] at h; cases h
  ·rw [not_or] at h1
   rw [sk, if_neg h1.1, if_neg h1.2]
theorem Qls {off : Nat} {g w r : List UInt8} {t : Tk} (hg : gs false g = some false) (ht : tok (w ++ r) = .ok t) (hw : w.length = t.len) :
  lx off (g ++ (w ++ r)) = (lx (off + g.length + w.length) r).push (t.at_ (off + g.length)) := by
 have hl := Qds ht
 have e : sk false (g ++ (w ++ r)) = g.length := by rw [Qqe hg, tok_sk ht]; rfl
 have e2 : (g ++ (w ++ r)).drop (sk false (g ++ (w ++ r))) = w ++ r := by rw [e, List.drop_left]
 rw [Qn8 (t := t) (by rw [e]; simp only [List.length_append] at *; omega) (by rw [e2]; exact ht), e]
 congr 1
 rw [← hw]
 congr 1
 rw [← List.append_assoc, ← List.length_append, List.drop_left]
theorem Qio {off : Nat} {g m : List UInt8} {a e : Nat} (hg : gs false g = some false) (hm : sk false m = 0) (hne : m ≠ []) (ht : tok m = .bad a e) :
  lx off (g ++ m) = .bad (off + g.length + a) e := by
 have e1 : sk false (g ++ m) = g.length := by rw [Qqe hg, hm]; rfl
 have hl : 0 < m.length := by cases m with | nil => exact absurd rfl hne | cons a t => simp
 rw [Qk6 (a := a) (e := e) (by rw [e1, List.length_append]; omega) (by rw [e1, List.drop_left]; exact ht), e1]
inductive Cut (off : Nat) (l : List UInt8) : Prop where
 | all (q : Bool) (h : gs false l = some q) (e : lx off l = .toks [⟨0, [], 0, off + l.length, off + l.length⟩])
 | one (g w r : List UInt8) (t : Tk) (hl : l = g ++ (w ++ r)) (hg : gs false g = some false) (ht : tok (w ++ r) = .ok t) (hw : w.length = t.len)
   (e : lx off l = (lx (off + g.length + w.length) r).push (t.at_ (off + g.length)))
 | bad (g m : List UInt8) (a e : Nat) (hl : l = g ++ m) (hg : gs false g = some false) (hm : sk false m = 0) (hne : m ≠ []) (ht : tok m = .bad a e)
   (h : lx off l = .bad (off + g.length + a) e)
theorem Qhc (off : Nat) (l : List UInt8) : Cut off l := by
 by_cases hz : sk false l = l.length
 ·obtain ⟨q, hq⟩ := sk_all hz
  exact .all q hq (Qem hz)
 ·have hlt : sk false l < l.length := by have := Qnp false l; omega
  have hg := sk_gs hlt
  have hlen : (l.take (sk false l)).length = sk false l := by rw [List.length_take]; omega
  have hsp : l = l.take (sk false l) ++ l.drop (sk false l) := (List.take_append_drop _ _).symm
  cases ht : tok (l.drop (sk false l)) with
  | bad a e =>
   refine .bad _ _ a e hsp hg.1 hg.2 ?_ ht ?_
   ·intro h; have := congrArg List.length h; rw [List.length_drop] at this; simp at this; omega
   ·rw [hlen]; exact Qk6 hz ht
  | ok t =>
   have hl := Qds ht
   have hsp2 : l.drop (sk false l) = (l.drop (sk false l)).take t.len ++ (l.drop (sk false l)).drop t.len := (List.take_append_drop _ _).symm
   have hwl : ((l.drop (sk false l)).take t.len).length = t.len := by rw [List.length_take]; omega
   refine .one _ _ _ t (by rw [← hsp2]; exact hsp) hg.1 (by rw [← hsp2]; exact ht) hwl ?_
   rw [hlen, hwl, List.drop_drop]; exact Qn8 hz ht
theorem Qlb {r q : Bool} {g m : List UInt8} (h : gs r g = some q) : gs r (g ++ m) = gs q m := by
 induction g generalizing r with
 | nil => rw [gs] at h; cases h; rfl
 | cons b t ih =>
  cases r
  ·rw [gs] at h
   rw [List.cons_append, gs]
   split at h
   ·rename_i h1; rw [if_pos h1, ih h]
   ·rename_i h1; rw [if_neg h1]
    split at h
    ·rename_i h2; rw [if_pos h2, ih h]
    ·cases h
  ·rw [gs] at h
   rw [List.cons_append, gs, ih h]
def stripT (t : Tok) : Nat × List UInt8 × Nat × Nat := (t.kind, t.text, t.num, t.fin - t.at')
def st : LR → Option (List (Nat × List UInt8 × Nat × Nat))
 | .toks l => some (l.map stripT)
 | .bad _ _ => none
theorem Qhe {p : UInt8 → Bool} {r z : List UInt8} (h : Qei p r) (hz : Qei p z) : Qei p (r ++ z) := by
 cases r with
 | nil => exact hz
 | cons b t => exact Qdw (h b t rfl)
theorem Qky {k : Nat} {r z : List UInt8} (h : stop k r) (hz : Qei isW z) : stop k (r ++ z) :=
 ⟨fun e => Qhe (h.1 e) hz, fun e => Qhe (h.2 e) fun b t e => isW_D (hz b t e)⟩
theorem Qlw {p : UInt8 → Bool} {r m : List UInt8} {c : Nat} (h : Qei p r) (hm : c = 0 → Qei p m) (hr : r = [] → Qei p m) : Qei p (r.take c ++ m) := by
 cases r with
 | nil => simpa using hr rfl
 | cons b t =>
  cases c with
  | zero => simpa using hm rfl
  | succ c => rw [List.take_succ_cons]; exact Qdw (h b t rfl)
theorem Qfe {t : Tok} {r : LR} {l : List Tok} (h : r.push t = .toks l) : ∃ l', r = .toks l' ∧ l = t :: l' := by
 cases r with
 | toks l' => cases h; exact ⟨l', rfl, rfl⟩
 | bad a e => cases h
theorem Qny {t : Tok} {r : LR} {a e : Nat} (h : r.push t = .bad a e) : r = .bad a e := by
 cases r with
 | toks l' => cases h
 | bad a e => exact h
inductive Good (s : List UInt8) : Nat → List Tok → Prop where
 | last (e : Nat) (q : Bool) (he : e ≤ s.length) (hg : gs false (s.drop e) = some q) : Good s e [⟨0, [], 0, s.length, s.length⟩]
 | more (e : Nat) (t : Tok) (ts : List Tok) (q : Bool) (h1 : e ≤ t.at') (h2 : t.at' < t.fin) (h3 : t.fin ≤ s.length) (hk : 1 ≤ t.kind ∧ t.kind ≤ 4)
   (hg : gs false ((s.drop e).take (t.at' - e)) = some q)
   (ho : lx 0 ((s.drop t.at').take (t.fin - t.at')) = .toks [⟨t.kind, t.text, t.num, 0, t.fin - t.at'⟩, ⟨0, [], 0, t.fin - t.at', t.fin - t.at'⟩])
   (hm : Good s t.fin ts) : Good s e (t :: ts)
theorem Qoa {w : List UInt8} {t : Tk} (h : tok w = .ok t) (hw : w.length = t.len) : lx 0 w = .toks [⟨t.kind, t.text, t.num, 0, t.len⟩, ⟨0, [], 0, t.len, t.len⟩] := by
 have := @Qls 0 [] w [] t rfl (by rw [List.append_nil]; exact h) hw
 rw [List.append_nil, List.nil_append] at this
 rw [this, Qem rfl]
 simp [LR.push, Tk.at_, hw]
theorem good : ∀ (d : Nat) (p l : List UInt8) (ts : List Tok), l.length ≤ d → lx p.length l = .toks ts → Good (p ++ l) p.length ts := by
 intro d
 induction d with
 | zero =>
  intro p l ts hd h
  obtain rfl : l = [] := List.length_eq_zero_iff.1 (by omega)
  rw [Qem rfl] at h; cases h
  have := Good.last (s := p ++ []) p.length false (by simp) (by simp [gs])
  simpa using this
 | succ d ih =>
  intro p l ts hd h
  rcases Qhc p.length l with ⟨q, hq, e⟩ | ⟨g, w, r, t0, rfl, hg, ht0, hw, e⟩ | ⟨g, m, a, e, rfl, hg, hm, hne, ht0, h2⟩
  ·rw [e] at h; cases h
   have := Good.last (s := p ++ l) p.length q (by simp) (by rw [List.drop_left]; exact hq)
   simpa using this
  ·have hl2 := Qds ht0
   rw [e] at h
   obtain ⟨l', h1, rfl⟩ := Qfe h
   have ha : (t0.at_ (p.length + g.length)).at' = p.length + g.length := rfl
   have hf : (t0.at_ (p.length + g.length)).fin = p.length + g.length + t0.len := rfl
   have sp : p ++ (g ++ (w ++ r)) = (p ++ g ++ w) ++ r := by simp only [List.append_assoc]
   have lp : (p ++ g ++ w).length = p.length + g.length + w.length := by simp only [List.length_append]
   have hgood := ih (p ++ g ++ w) r l' (by simp only [List.length_append] at hd; omega) (by rw [lp]; exact h1)
   refine Good.more _ _ _ false (by rw [ha]; omega) (by rw [ha, hf]; omega) (by rw [hf]; simp only [List.length_append]; omega) (Qkv ht0) ?_ ?_ ?_
   ·rw [List.drop_left, ha, Nat.add_sub_cancel_left, List.take_left]; exact hg
   ·have e1 : (p ++ (g ++ (w ++ r))).drop (p.length + g.length) = w ++ r := by
     rw [← List.append_assoc, ← List.length_append, List.drop_left]
    rw [ha, hf, Nat.add_sub_cancel_left, e1, ← hw, List.take_left, hw]
    exact Qoa (by have := Qg5 (r' := []) ht0 hw (Qpn (Qf5 _)); rwa [List.append_nil] at this) hw
   ·rw [hf, sp, ← hw, ← lp]; exact hgood
  ·rw [h2] at h; cases h
theorem Qok {t m : List UInt8} (h : esc t = none) : esc (t ++ 10 :: m) = none := by
 have h10 : hexv 10 = none := by decide
 cases t with
 | nil => simp [esc]
 | cons c t =>
  rw [esc] at h
  rw [List.cons_append, esc]
  split at h
  ·cases h
  rename_i h1; rw [if_neg h1]
  split at h
  ·cases h
  rename_i h2; rw [if_neg h2]
  split at h
  ·cases h
  rename_i h3; rw [if_neg h3]
  split at h
  ·rename_i h4; rw [if_pos h4]
   match t, h with
   | [], _ =>
    cases m with
    | nil => rfl
    | cons x y => rw [List.nil_append, escx, h10]
   | [a], _ => rw [List.cons_append, List.nil_append, escx, h10]; split <;> simp_all
   | a :: b :: t', h => exact h
  ·rename_i h4; rw [if_neg h4]
theorem tx_bad {l : List UInt8} {off : Nat} {acc : List UInt8} {a e : Nat} (h : tx off acc l = .bad a e) (m : List UInt8) : tx off acc (l ++ 10 :: m) = .bad a e := by
 induction off, acc, l using tx.induct generalizing a e with
 | case1 off acc => rw [tx] at h; cases h; rw [List.nil_append, tx, if_pos (by decide)]
 | case2 off acc b t' hb => rw [tx, if_pos hb] at h; cases h; rw [List.cons_append, tx, if_pos hb]
 | case3 off acc b t' hb h34 => rw [tx, if_neg hb, if_pos h34] at h; cases h
 | case4 off acc b t' hb h34 h92 he => rw [tx, if_neg hb, if_neg h34, if_pos h92, he] at h; cases h; rw [List.cons_append, tx, if_neg hb, if_neg h34, if_pos h92, Qok he]
 | case5 off acc b t' hb h34 h92 c n he ih =>
  rw [tx, if_neg hb, if_neg h34, if_pos h92, he] at h
  have hn := (Qia he).2
  have := @Qkj t' [] (10 :: m) c n (by rw [List.append_nil]; exact he) hn
  rw [List.cons_append, tx, if_neg hb, if_neg h34, if_pos h92, this]
  simp only
  rw [List.drop_append_of_le_length hn]
  exact ih h
 | case6 off acc b t' hb h34 h92 ih =>
  rw [tx, if_neg hb, if_neg h34, if_neg h92] at h
  rw [List.cons_append, tx, if_neg hb, if_neg h34, if_neg h92]; exact ih h
theorem Ql1 {l : List UInt8} {off : Nat} {acc : List UInt8} {a e : Nat} (h : tx off acc l = .bad a e) : (e = 81 ∧ a = 0) ∨ (e = 82 ∧ off ≤ a ∧ a < off + l.length ∧ tx off acc (l.take (a - off)) = .bad 0 81) := by
 induction off, acc, l using tx.induct generalizing a e with
 | case1 off acc => rw [tx] at h; cases h; exact .inl ⟨rfl, rfl⟩
 | case2 off acc b t' hb => rw [tx, if_pos hb] at h; cases h; exact .inl ⟨rfl, rfl⟩
 | case3 off acc b t' hb h34 => rw [tx, if_neg hb, if_pos h34] at h; cases h
 | case4 off acc b t' hb h34 h92 he =>
  rw [tx, if_neg hb, if_neg h34, if_pos h92, he] at h; cases h
  exact .inr ⟨rfl, Nat.le_refl _, by simp, by rw [Nat.sub_self, List.take_zero, tx]⟩
 | case5 off acc b t' hb h34 h92 c n he ih =>
  rw [tx, if_neg hb, if_neg h34, if_pos h92, he] at h
  have hn := (Qia he).2
  rcases ih h with h1 | ⟨h1, h2, h3, h4⟩
  ·exact .inl h1
  ·rw [List.length_drop] at h3
   refine .inr ⟨h1, by omega, by simp only [List.length_cons]; omega, ?_⟩
   obtain ⟨d, hd⟩ : ∃ d, d = a - (off + n + 1) := ⟨_, rfl⟩
   rw [← hd] at h4
   rw [show a - off = (n + d) + 1 by omega, List.take_succ_cons, tx, if_neg hb, if_neg h34, if_pos h92]
   have e1 : t'.take (n + d) = t'.take n ++ (t'.drop n).take d := by rw [List.take_add]
   have := @Qkj (t'.take n) (t'.drop n) ((t'.drop n).take d) c n (by rw [List.take_append_drop]; exact he) (by rw [List.length_take]; omega)
   rw [e1, this]
   simp only
   rw [List.drop_append_of_le_length (by rw [List.length_take]; omega), List.drop_eq_nil_of_le (by rw [List.length_take]; omega), List.nil_append]
   exact h4
 | case6 off acc b t' hb h34 h92 ih =>
  rw [tx, if_neg hb, if_neg h34, if_neg h92] at h
  rcases ih h with h1 | ⟨h1, h2, h3, h4⟩
  ·exact .inl h1
  ·refine .inr ⟨h1, by omega, by simp only [List.length_cons]; omega, ?_⟩
   rw [show a - off = (a - (off + 1)) + 1 by omega, List.take_succ_cons, tx, if_neg hb, if_neg h34, if_neg h92]
   exact h4
theorem Qpj {l : List UInt8} {a e : Nat} (hne : l ≠ []) (h : tok l = .bad a e) (m : List UInt8) : tok (l ++ 10 :: m) = .bad a e ∧ ((a = 0 ∧ (e = 80 ∨ e = 81 ∨ e = 111)) ∨ (e = 82 ∧ 1 ≤ a ∧ a < l.length ∧ tok (l.take a) = .bad 0 81)) := by
 have w10 : Qei isW (10 :: m) := Qdw (by decide)
 have d10 : Qei isD (10 :: m) := Qdw (by decide)
 have ext : ∀ p : UInt8 → Bool, Qei p (10 :: m) → lead p (l ++ 10 :: m) = lead p l := by
  intro p hp
  have h1 := Qmr p l
  have := (Qen p (l.take (lead p l)) (l.drop (lead p l) ++ 10 :: m)).2 ⟨h1.1, Qhe h1.2 hp⟩
  rw [← List.append_assoc, List.take_append_drop, List.length_take] at this
  rw [this]; have := Qe6 p l; omega
 have e1 := ext isW w10
 have e2 := ext isD d10
 have l2 := Qe6 isD l
 cases l with
 | nil => exact absurd rfl hne
 | cons b t =>
  rw [List.cons_append] at e1 e2 ⊢
  rw [tok] at h
  rw [tok]
  split at h
  ·rename_i h1; rw [if_pos h1]
   split at h
   ·rename_i h2; rw [e1, if_pos h2]; cases h; exact ⟨rfl, .inl ⟨rfl, by simp⟩⟩
   ·cases h
  rename_i h1; rw [if_neg h1]
  split at h
  ·rename_i h2; rw [if_pos h2]
   split at h
   ·rename_i hx; cases h
    rw [e2, ← List.cons_append, List.take_append_of_le_length l2, hx]; exact ⟨rfl, .inl ⟨rfl, by simp⟩⟩
   ·cases h
  rename_i h2; rw [if_neg h2]
  split at h
  ·rename_i h3; rw [if_pos h3]
   refine ⟨tx_bad h m, ?_⟩
   rcases Ql1 h with ⟨h4, h5⟩ | ⟨h4, h5, h6, h7⟩
   ·exact .inl ⟨h5, by omega⟩
   ·refine .inr ⟨h4, h5, by simp only [List.length_cons]; omega, ?_⟩
    rw [show a = (a - 1) + 1 by omega, List.take_succ_cons, tok, if_neg h1, if_neg h2, if_pos h3]; exact h7
  rename_i h3; rw [if_neg h3]
  split at h
  ·cases h
  ·rename_i h4; rw [if_neg h4]; cases h; exact ⟨rfl, .inl ⟨rfl, by simp⟩⟩
theorem Qpo {l m : List UInt8} (h : sk false l = 0) (hne : l ≠ []) : sk false (l ++ m) = 0 := by
 cases l with
 | nil => exact absurd rfl hne
 | cons b t =>
  rw [sk] at h
  rw [List.cons_append, sk]
  split at h
  ·omega
  rename_i h1; rw [if_neg h1]
  split at h
  ·omega
  rename_i h2; rw [if_neg h2]
theorem Qmq (m : List UInt8) : ∀ (d : Nat) (off : Nat) (s : List UInt8) (a e : Nat), s.length ≤ d → lx off s = .bad a e →
  lx off (s ++ 10 :: m) = .bad a e ∧ off ≤ a ∧ a < off + s.length ∧ (e = 80 ∨ e = 81 ∨ e = 82 ∨ e = 111) ∧ (e = 82 → ∃ j, lx off (s.take (a - off)) = .bad j 81 ∧ j < a) ∧ (e ≠ 82 → ∃ ts, lx off (s.take (a - off)) = .toks ts) := by
 have w10 : Qei isW (10 :: m) := Qdw (by decide)
 intro d
 induction d with
 | zero =>
  intro off s a e hd h
  obtain rfl : s = [] := List.length_eq_zero_iff.1 (by omega)
  rw [Qem rfl] at h; cases h
 | succ d ih =>
  intro off s a e hd h
  rcases Qhc off s with ⟨q, hq, e1⟩ | ⟨g, w, r, t0, rfl, hg, ht0, hw, e1⟩ | ⟨g, m0, a0, e0, rfl, hg, hm, hne, ht0, h2⟩
  ·rw [e1] at h; cases h
  ·have hl2 := Qds ht0
   have hst := Qku ht0 hw
   rw [e1] at h
   have h1 := Qny h
   simp only [List.length_append] at hd
   obtain ⟨i1, i2, i3, i4, i5, i6⟩ := ih _ r a e (by omega) h1
   have hst2 : stop t0.kind (r.take (a - (off + g.length + w.length))) := by
    have k1 : ∀ p : UInt8 → Bool, Qei p r → Qei p (r.take (a - (off + g.length + w.length))) := fun p hp => by
     have := Qlw (c := a - (off + g.length + w.length)) (m := []) hp (fun _ => Qf5 p) (fun _ => Qf5 p)
     rwa [List.append_nil] at this
    exact ⟨fun e => k1 _ (hst.1 e), fun e => k1 _ (hst.2 e)⟩
   have tk : (g ++ (w ++ r)).take (a - off) = g ++ (w ++ r.take (a - (off + g.length + w.length))) := by
    rw [show a - off = (g ++ w).length + (a - (off + g.length + w.length)) by rw [List.length_append]; omega, ← List.append_assoc, List.take_length_add_append, List.append_assoc]
   refine ⟨?_, by omega, by simp only [List.length_append]; omega, i4, ?_, ?_⟩
   ·rw [List.append_assoc, List.append_assoc, Qls hg (Qg5 ht0 hw (Qky hst w10)) hw, i1]; rfl
   ·intro e82
    obtain ⟨j, hj, hj2⟩ := i5 e82
    exact ⟨j, by rw [tk, Qls hg (Qg5 ht0 hw hst2) hw, hj]; rfl, hj2⟩
   ·intro e82
    obtain ⟨ts, hts⟩ := i6 e82
    exact ⟨_, by rw [tk, Qls hg (Qg5 ht0 hw hst2) hw, hts]; rfl⟩
  ·rw [h2] at h
   injection h with ha he
   subst he
   have hb := Qpj hne ht0 m
   have hpos : 0 < m0.length := by
    cases m0 with
    | nil => exact absurd rfl hne
    | cons x y => simp
   have tk : ∀ n, (g ++ m0).take (g.length + n) = g ++ m0.take n := fun n => List.take_length_add_append n
   have ha0 : a - off = g.length + a0 := by omega
   refine ⟨?_, by omega, ?_, ?_, ?_, ?_⟩
   ·rw [List.append_assoc, Qio hg (Qpo hm hne) (by simp) hb.1, ha]
   ·simp only [List.length_append]; rcases hb.2 with hb | hb <;> omega
   ·rcases hb.2 with hb | hb <;> omega
   ·intro e82
    rcases hb.2 with hb | ⟨_, k1, k2, k3⟩
    ·omega
    ·have hne2 : m0.take a0 ≠ [] := by
      intro hh; have := congrArg List.length hh; rw [List.length_take, List.length_nil] at this; omega
     have hsk : sk false (m0.take a0) = 0 := by
      cases m0 with
      | nil => exact absurd rfl hne
      | cons x y =>
       rw [show a0 = (a0 - 1) + 1 by omega, List.take_succ_cons]
       rw [sk] at hm ⊢
       split at hm
       ·omega
       rename_i h1; rw [if_neg h1]
       split at hm
       ·omega
       rename_i h2; rw [if_neg h2]
     exact ⟨off + g.length + 0, by rw [ha0, tk, Qio hg hsk hne2 k3], by omega⟩
   ·intro e82
    rcases hb.2 with ⟨k1, _⟩ | hb
    ·rw [ha0, k1, tk, List.take_zero, List.append_nil]
     exact ⟨_, Qem (Qo5 hg)⟩
    ·omega
end Go.Proofs.Ytbdcndkafaajpaa.L
end
section
namespace Go.Proofs.Ytbdcndkafaajpaa.T
open Go.RowKit Ytbdcndkafaajpaa Ytbdcndkafaajpaa.X Ytbdcndkafaajpaa.L YtbdcndkafaajpaaW.PrintWords YtbdcndkafaajpaaW.PrintLast YtbdcndkafaajpaaW.PrintMore
theorem Qcd (s : ByteArray) : s.size = s.data.toList.length := (Qe7 s).symm
theorem ext_list (s : ByteArray) (i j : Nat) : (s.extract i j).data.toList = (s.data.toList.drop i).take (j - i) := by
 rw [ByteArray.data_extract, Array.toList_extract, List.extract_eq_take_drop]
def ba (l : List UInt8) : ByteArray := ⟨l.toArray⟩
theorem Qkp (l : List UInt8) : (ba l).data.toList = l := rfl
theorem ba_of (s : ByteArray) : ba s.data.toList = s := rfl
theorem ba_eq {s : ByteArray} {l : List UInt8} (h : s.data.toList = l) : s = ba l := by rw [← h, ba_of]
theorem Qjm (s : ByteArray) (i j : Nat) : s.extract i j = ba ((s.data.toList.drop i).take (j - i)) := ba_eq (ext_list s i j)
theorem w64s {x : Int} (h0 : -4611686018427387904 ≤ x) (h1 : x ≤ 4611686018427387904) : wrap64 x = x := by unfold wrap64; omega
theorem w1 {i : Nat} (n : Nat) (h : i + n ≤ 4611686018427387904) : wrap64 ((i : Int) + (n : Int)) = ((i + n : Nat) : Int) := by
 rw [w64s (by omega) (by omega)]; rfl
theorem Qcj {s : ByteArray} {i : Nat} {l : List UInt8} (h : s.data.toList.drop i = l) (hi : i ≤ s.size) : s.size = i + l.length := by
 rw [← h, List.length_drop, ← Qcd]; omega
theorem Qci {s : ByteArray} {i : Nat} {b : UInt8} {t : List UInt8} (h : s.data.toList.drop i = b :: t) : s.data.toList.drop (i + 1) = t := by
 rw [← List.drop_drop, h]; rfl
theorem Qdx {s : ByteArray} {i : Nat} {b : UInt8} {t : List UInt8} (h : s.data.toList.drop i = b :: t) : i < s.size := by
 rw [Qcd]
 have := congrArg List.length h
 rw [List.length_drop, List.length_cons] at this; omega
theorem Qdd {s : ByteArray} {i : Nat} {b : UInt8} {t : List UInt8} (h : s.data.toList.drop i = b :: t) : bt s (i : Int) = (b.toNat : Int) := by
 have hi := Qdx h
 have h2 : i < s.data.toList.length := by rw [← Qcd]; exact hi
 have e := List.drop_eq_getElem_cons h2
 rw [h] at e
 injection e with e1 e2
 unfold bt
 rw [dif_pos (show ((i : Int)).toNat < s.size by rw [Int.toNat_natCast]; exact hi), e1]
 congr 2
theorem Qet (b : UInt8) (l : List UInt8) (c : UInt8) : Lib.indexByte (b :: l) c = if b == c then 0 else if Lib.indexByte l c == -1 then -1 else Lib.indexByte l c + 1 := rfl
theorem nl_sk (l : List UInt8) : (Lib.indexByte l 10 = -1 ∧ sk true l = l.length) ∨ ∃ n : Nat, Lib.indexByte l 10 = (n : Int) ∧ n < l.length ∧ sk true l = n + sk false (l.drop n) ∧ (l.drop n).head? = some 10 := by
 induction l with
 | nil => exact .inl ⟨rfl, rfl⟩
 | cons b t ih =>
  rw [Qet]
  by_cases hb : b = 10
  ·subst hb
   exact .inr ⟨0, rfl, by simp, by rw [sk, List.drop_zero, sk, if_pos (by decide)]; show sk false t + 1 = 0 + (sk false t + 1); omega, rfl⟩
  ·have h1 : (b == 10) = false := by simpa using hb
   have h2 : (b.toNat != 10) = true := by
    rw [bne_iff_ne]; intro h; exact hb (UInt8.toNat_inj.1 h)
   rw [h1, sk, h2]
   rcases ih with ⟨i1, i2⟩ | ⟨n, i1, i2, i3, i4⟩
   ·exact .inl ⟨by rw [i1]; rfl, by rw [i2]; rfl⟩
   ·refine .inr ⟨n + 1, ?_, by simp only [List.length_cons]; omega, by rw [i3, List.drop_succ_cons]; omega, by rw [List.drop_succ_cons]; exact i4⟩
    rw [i1]
    rw [if_neg (by decide), if_neg (by rw [beq_iff_eq]; omega)]
    rfl
theorem Ql6 (s : ByteArray) (hs : s.size ≤ 70368744177664) : ∀ (d i : Nat), s.size - i ≤ d → i ≤ s.size → Ev (fun k => Qa4.l0 k s (i : Int)) ((i + sk false (s.data.toList.drop i) : Nat) : Int) := by
 intro d
 induction d with
 | zero =>
  intro i hd hi
  obtain rfl : i = s.size := by omega
  refine Ev.step (fun k => by simp only [Qa4.l0]; rfl) ?_
  have e : s.data.toList.drop s.size = [] := List.drop_of_length_le (by rw [← Qcd]; omega)
  simp only [Int.lt_irrefl, if_false, e, sk, Nat.add_zero]
  exact Ev.now _
 | succ d ih =>
  intro i hd hi
  cases hl : s.data.toList.drop i with
  | nil =>
   have := Qcj hl hi
   simp only [List.length_nil] at this
   have := ih i (by omega) hi
   rw [hl] at this; exact this
  | cons b t =>
   have hlt := Qdx hl
   have hbt := Qdd hl
   have hnx := Qci hl
   have ihn := ih (i + 1) (by omega) (by omega)
   rw [hnx] at ihn
   have W : wrap64 ((i : Int) + 1) = ((i + 1 : Nat) : Int) := w1 1 (by omega)
   refine Ev.step (fun k => by simp only [Qa4.l0]; rfl) ?_
   simp only [if_pos (show (i : Int) < (s.size : Int) by omega), if_pos (show (0 : Int) ≤ (i : Int) by omega), hbt]
   have hj : L.blank b = true → Ev (fun k => Qa4.j1 k s (i : Int) (b.toNat : Int) true) ((i + sk false (b :: t) : Nat) : Int) := by
    intro hb
    refine Ev.step (fun k => by simp only [Qa4.j1]; rfl) ?_
    simp only [if_true, W]
    rw [sk, if_pos hb, show i + (sk false t + 1) = i + 1 + sk false t by omega]
    exact ihn
   by_cases h1 : b.toNat = 32
   ·simp only [if_pos (show (b.toNat : Int) = 32 by omega), show ((b.toNat : Int) == 32) = true by rw [beq_iff_eq]; omega]; exact hj (by unfold L.blank; rw [h1]; rfl)
   by_cases h2 : b.toNat = 9
   ·simp only [if_neg (show ¬ (b.toNat : Int) = 32 by omega), if_pos (show (b.toNat : Int) = 9 by omega), show ((b.toNat : Int) == 9) = true by rw [beq_iff_eq]; omega]; exact hj (by unfold L.blank; rw [h2]; rfl)
   by_cases h3 : b.toNat = 10
   ·simp only [if_neg (show ¬ (b.toNat : Int) = 32 by omega), if_neg (show ¬ (b.toNat : Int) = 9 by omega), if_pos (show (b.toNat : Int) = 10 by omega), show ((b.toNat : Int) == 10) = true by rw [beq_iff_eq]; omega]; exact hj (by unfold L.blank; rw [h3]; rfl)
   by_cases h4 : b.toNat = 13
   ·simp only [if_neg (show ¬ (b.toNat : Int) = 32 by omega), if_neg (show ¬ (b.toNat : Int) = 9 by omega), if_neg (show ¬ (b.toNat : Int) = 10 by omega), show ((b.toNat : Int) == 13) = true by rw [beq_iff_eq]; omega]; exact hj (by unfold L.blank; rw [h4]; rfl)
   rw [show ((b.toNat : Int) == 13) = false by rw [beq_eq_false_iff_ne]; omega]
   simp only [if_neg (show ¬ (b.toNat : Int) = 32 by omega), if_neg (show ¬ (b.toNat : Int) = 9 by omega), if_neg (show ¬ (b.toNat : Int) = 10 by omega)]
   have hnb : L.blank b = false := decide_eq_false (by omega)
   refine Ev.step (fun k => by simp only [Qa4.j1]; rfl) ?_
   rw [sk, hnb]
   simp only [Bool.false_eq_true, if_false]
   by_cases h5 : b.toNat = 35
   ·have hix : strings_IndexByte.f (s.extract ((i : Int)).toNat s.size) 10 = some (Lib.indexByte (b :: t) 10) := by
     unfold strings_IndexByte.f
     rw [ext_list, Int.toNat_natCast, hl, List.take_of_length_le (by have := Qcj hl hi; omega)]
     rfl
    have hb10 : (b == 10) = false := by
     rw [beq_eq_false_iff_ne]; intro h; rw [h] at h5; exact absurd h5 (by decide)
    rw [if_pos h5]
    simp only [if_pos (show (b.toNat : Int) = 35 by omega), if_pos (show (0 : Int) ≤ (i : Int) by omega), if_pos (show (i : Int) ≤ (s.size : Int) by omega), hix, Option.bind_some]
    rw [Qet, hb10]
    have hsz := Qcj hl hi
    rw [List.length_cons] at hsz
    rcases nl_sk t with ⟨i1, i2⟩ | ⟨n, i1, i2, i3, i4⟩
    ·rw [i1, i2]
     simp only [if_pos (show ((-1 : Int)) < 0 by omega), beq_self_eq_true, if_true, Bool.false_eq_true, if_false]
     rw [show ((i + (t.length + 1) : Nat) : Int) = (s.size : Int) by omega]
     exact Ev.now _
    ·have hne : ((n : Int) == -1) = false := by rw [beq_eq_false_iff_ne]; omega
     have W2 : wrap64 ((i : Int) + ((n : Int) + 1)) = ((i + (n + 1) : Nat) : Int) := by rw [w64s (by omega) (by omega)]; rfl
     have ih2 := ih (i + (n + 1)) (by omega) (by omega)
     rw [show s.data.toList.drop (i + (n + 1)) = t.drop n by rw [show i + (n + 1) = i + 1 + n by omega, ← List.drop_drop, hnx]] at ih2
     rw [i1, i3]
     simp only [hne, Bool.false_eq_true, if_false, if_neg (show ¬ ((n : Int) + 1) < 0 by omega), W2]
     rw [show i + (n + sk false (t.drop n) + 1) = i + (n + 1) + sk false (t.drop n) by omega]
     exact ih2
   ·rw [if_neg h5]
    simp only [if_neg (show ¬ (b.toNat : Int) = 35 by omega), Nat.add_zero]
    exact Ev.now _
def hexI (b : UInt8) : Int := match hexv b with | some n => (n : Int) | none => -1
theorem Qmu (b : UInt8) : Qbj.f (b.toNat : Int) = some (isD b) := by
 unfold Qbj.f isD G.dig
 by_cases h : (b.toNat : Int) ≥ 48
 ·rw [if_pos h]; congr 2; simp; omega
 ·rw [if_neg h]; congr 1; symm; apply decide_eq_false; omega
theorem isL_eq (b : UInt8) : Qbk.f (b.toNat : Int) = some (isL b) := by
 unfold Qbk.f isL G.letr
 have e : ∀ x : Bool, (x = true ↔ ((97 ≤ (b.toNat : Int) ∧ (b.toNat : Int) ≤ 122) ∨ (65 ≤ (b.toNat : Int) ∧ (b.toNat : Int) ≤ 90) ∨ (b.toNat : Int) = 95)) → some x = some (decide ((97 ≤ (b.toNat : Int) ∧ (b.toNat : Int) ≤ 122) ∨ (65 ≤ (b.toNat : Int) ∧ (b.toNat : Int) ≤ 90) ∨ (b.toNat : Int) = 95)) := fun x h => by rw [Option.some.injEq, Bool.eq_iff_iff, decide_eq_true_iff]; exact h
 repeat' split
 all_goals refine e _ ?_
 all_goals first | (simp only [true_iff]; omega) | (rw [beq_iff_eq]; omega)
theorem Qiq (b : UInt8) : isD b = true ↔ (48 ≤ b.toNat ∧ b.toNat ≤ 57) := by
 unfold isD G.dig; rw [decide_eq_true_iff]; omega
theorem Qqb {b : UInt8} (h : ¬ (48 ≤ b.toNat ∧ b.toNat ≤ 57)) : isD b = false := by
 rw [← Bool.not_eq_true, Qiq]; exact h
theorem Qla (b : UInt8) : Ev (fun k => Qa6.f k (b.toNat : Int)) (hexI b) := by
 unfold Qa6.f hexI hexv
 simp only [Qmu, Option.bind_some]
 by_cases h1 : 48 ≤ b.toNat ∧ b.toNat ≤ 57
 ·simp only [(Qiq b).2 h1, if_true, if_pos h1]
  rw [show (((b.toNat : Int) - 48) % 256) = ((b.toNat - 48 : Nat) : Int) by omega]
  exact Ev.now _
 ·simp only [Qqb h1, Bool.false_eq_true, if_false, if_neg h1]
  by_cases h2 : 97 ≤ b.toNat ∧ b.toNat ≤ 102
  ·simp only [if_pos h2, if_pos (show (b.toNat : Int) ≥ 97 by omega)]
   refine Ev.step (fun k => by simp only [Qa6.j0]; rfl) ?_
   simp only [decide_eq_true (show (b.toNat : Int) ≤ 102 by omega), if_true]
   rw [show (((b.toNat : Int) - 97) % 256) + 10 = ((b.toNat - 87 : Nat) : Int) by omega]
   exact Ev.now _
  ·simp only [if_neg h2]
   have key : Ev (fun k => Qa6.j0 k (b.toNat : Int) false) (match (if 65 ≤ b.toNat ∧ b.toNat ≤ 70 then some (b.toNat - 55) else none : Option Nat) with | some n => (n : Int) | none => -1) := by
    refine Ev.step (fun k => by simp only [Qa6.j0]; rfl) ?_
    simp only [Bool.false_eq_true, if_false]
    by_cases h3 : 65 ≤ b.toNat
    ·simp only [if_pos (show (b.toNat : Int) ≥ 65 by omega)]
     by_cases h4 : b.toNat ≤ 70
     ·simp only [if_pos (show (b.toNat : Int) ≤ 70 by omega), if_pos (And.intro h3 h4)]
      rw [show (((b.toNat : Int) - 65) % 256) + 10 = ((b.toNat - 55 : Nat) : Int) by omega]
      exact Ev.now _
     ·simp only [if_neg (show ¬ (b.toNat : Int) ≤ 70 by omega), if_neg (show ¬ (65 ≤ b.toNat ∧ b.toNat ≤ 70) by omega)]
      exact Ev.now _
    ·simp only [if_neg (show ¬ (b.toNat : Int) ≥ 65 by omega), if_neg (show ¬ (65 ≤ b.toNat ∧ b.toNat ≤ 70) by omega)]
     exact Ev.now _
   by_cases h5 : (b.toNat : Int) ≥ 97
   ·simp only [if_pos h5, decide_eq_false (show ¬ (b.toNat : Int) ≤ 102 by omega)]; exact key
   ·simp only [if_neg h5]; exact key
theorem Qir {b : UInt8} {x : Nat} (h : hexv b = some x) : x < 16 := by
 unfold hexv at h
 split at h
 ·cases h; omega
 split at h
 ·cases h; omega
 split at h
 ·cases h; omega
 ·cases h
theorem Qov {n : Nat} (h : n < 256) : ((n.toUInt8).toNat : Int) = (n : Int) := by
 rw [show n.toUInt8 = UInt8.ofNat n from rfl, UInt8.toNat_ofNat']; omega
def Qm2 (p : Nat) (t : List UInt8) : Int × Int := match esc t with | some (c, n) => ((c.toNat : Int), ((p + 1 + n : Nat) : Int)) | none => (0, 0)
theorem Qm1 (s : ByteArray) (hs : s.size ≤ 70368744177664) (p : Nat) (b : UInt8) (t : List UInt8) (hp : s.data.toList.drop p = b :: t) : Ev (fun k => Qat.f k s (p : Int)) (Qm2 p t) := by
 have hlt := Qdx hp
 have hn1 := Qci hp
 have hsz := Qcj hp (by omega)
 rw [List.length_cons] at hsz
 have W1 : wrap64 ((p : Int) + 1) = ((p + 1 : Nat) : Int) := w1 1 (by omega)
 have W2 : wrap64 ((p : Int) + 2) = ((p + 2 : Nat) : Int) := w1 2 (by omega)
 have W3 : wrap64 ((p : Int) + 3) = ((p + 3 : Nat) : Int) := w1 3 (by omega)
 have W4 : wrap64 ((p : Int) + 4) = ((p + 4 : Nat) : Int) := w1 4 (by omega)
 unfold Qat.f Qm2
 simp only [W1]
 cases t with
 | nil =>
  simp only [List.length_nil] at hsz
  simp only [if_pos (show ((p + 1 : Nat) : Int) ≥ (s.size : Int) by omega), esc]
  exact Ev.now _
 | cons c t =>
  have hb1 := Qdd hn1
  have hn2 := Qci hn1
  simp only [List.length_cons] at hsz
  simp only [if_neg (show ¬ ((p + 1 : Nat) : Int) ≥ (s.size : Int) by omega), if_pos (show (0 : Int) ≤ ((p + 1 : Nat) : Int) by omega), if_pos (show ((p + 1 : Nat) : Int) < (s.size : Int) by omega), hb1, esc]
  by_cases h1 : c.toNat = 92 ∨ c.toNat = 34
  ·have key : Ev (fun k => Qat.j0 k s (p : Int) (c.toNat : Int) true) ((c.toNat : Int), ((p + 1 + 1 : Nat) : Int)) := by
    refine Ev.step (fun k => by simp only [Qat.j0]; rfl) ?_
    simp only [if_true, W1, W2, if_pos (show (0 : Int) ≤ ((p + 1 : Nat) : Int) by omega), if_pos (show ((p + 1 : Nat) : Int) < (s.size : Int) by omega), hb1]
    exact Ev.now _
   simp only [if_pos h1]
   by_cases h2 : c.toNat = 92
   ·simp only [if_pos (show (c.toNat : Int) = 92 by omega), show ((c.toNat : Int) == 92) = true by rw [beq_iff_eq]; omega]; exact key
   ·simp only [if_neg (show ¬ (c.toNat : Int) = 92 by omega), show ((c.toNat : Int) == 34) = true by rw [beq_iff_eq]; omega]; exact key
  ·have h92 : ¬ (c.toNat : Int) = 92 := by omega
   have h34 : ((c.toNat : Int) == 34) = false := by rw [beq_eq_false_iff_ne]; omega
   simp only [if_neg h1, if_neg h92, h34]
   refine Ev.step (fun k => by simp only [Qat.j0]; rfl) ?_
   simp only [Bool.false_eq_true, if_false, W2, W3]
   by_cases h2 : c.toNat = 110
   ·simp only [if_pos h2, if_pos (show (c.toNat : Int) = 110 by omega)]; exact Ev.now _
   simp only [if_neg h2, if_neg (show ¬ (c.toNat : Int) = 110 by omega)]
   by_cases h3 : c.toNat = 116
   ·simp only [if_pos h3, if_pos (show (c.toNat : Int) = 116 by omega)]; exact Ev.now _
   simp only [if_neg h3, if_neg (show ¬ (c.toNat : Int) = 116 by omega)]
   by_cases h4 : c.toNat = 120
   ·simp only [if_pos h4, if_pos (show (c.toNat : Int) = 120 by omega)]
    have jF : Ev (fun k => Qat.j1 k s (p : Int) false) ((0 : Int), (0 : Int)) := by
     refine Ev.step (fun k => by simp only [Qat.j1]; rfl) ?_
     simp only [Bool.false_eq_true, if_false]; exact Ev.now _
    match t, hn2, hsz with
    | [], _, hsz =>
     simp only [List.length_nil] at hsz
     simp only [if_neg (show ¬ ((p + 3 : Nat) : Int) < (s.size : Int) by omega), escx]; exact jF
    | [a], _, hsz =>
     simp only [List.length_nil, List.length_cons] at hsz
     simp only [if_neg (show ¬ ((p + 3 : Nat) : Int) < (s.size : Int) by omega), escx]; exact jF
    | a :: e :: t', hn2, hsz =>
     simp only [List.length_cons] at hsz
     have hba := Qdd hn2
     have hbe := Qdd (Qci hn2)
     simp only [if_pos (show ((p + 3 : Nat) : Int) < (s.size : Int) by omega), if_pos (show (0 : Int) ≤ ((p + 2 : Nat) : Int) by omega), if_pos (show ((p + 2 : Nat) : Int) < (s.size : Int) by omega), if_pos (show (0 : Int) ≤ ((p + 3 : Nat) : Int) by omega), escx]
     rw [show bt s ((p + 2 : Nat) : Int) = (a.toNat : Int) from hba, show bt s ((p + 3 : Nat) : Int) = (e.toNat : Int) from hbe]
     refine Ev.bind (Qla a) ?_
     have hea := Qla a
     have hee := Qla e
     unfold hexI at hea hee ⊢
     cases hx : hexv a with
     | none =>
      simp only [if_neg (show ¬ ((-1 : Int)) ≥ 0 by omega)]
      exact jF
     | some x =>
      simp only [if_pos (show (x : Int) ≥ 0 by omega)]
      rw [hx] at hea; simp only at hea
      refine Ev.bind hee ?_
      cases hy : hexv e with
      | none =>
       simp only [decide_eq_false (show ¬ ((-1 : Int)) ≥ 0 by omega)]
       exact jF
      | some y =>
       rw [hy] at hee; simp only at hee
       have lx := Qir hx
       have ly := Qir hy
       simp only [decide_eq_true (show (y : Int) ≥ 0 by omega)]
       refine Ev.step (fun k => by simp only [Qat.j1]; rfl) ?_
       simp only [if_true, W2, W3, W4, if_pos (show ((p + 3 : Nat) : Int) < (s.size : Int) by omega), if_pos (show (0 : Int) ≤ ((p + 2 : Nat) : Int) by omega), if_pos (show ((p + 2 : Nat) : Int) < (s.size : Int) by omega), if_pos (show (0 : Int) ≤ ((p + 3 : Nat) : Int) by omega)]
       rw [show bt s ((p + 2 : Nat) : Int) = (a.toNat : Int) from hba, show bt s ((p + 3 : Nat) : Int) = (e.toNat : Int) from hbe]
       refine Ev.bind hea ?_
       refine Ev.bind hee ?_
       rw [w64s (x := 16 * (x : Int)) (by omega) (by omega), w64s (x := 16 * (x : Int) + (y : Int)) (by omega) (by omega), Qov (show 16 * x + y < 256 by omega),
        show (16 * (x : Int) + (y : Int)) % 256 = ((16 * x + y : Nat) : Int) by omega]
       exact Ev.now _
   ·simp only [if_neg h4, if_neg (show ¬ (c.toNat : Int) = 120 by omega)]; exact Ev.now _
def nums (l : List UInt8) : List Int := l.map fun b => (b.toNat : Int)
theorem Qf2 (l : List UInt8) (b : UInt8) : nums l ++ [(b.toNat : Int)] = nums (l ++ [b]) := by unfold nums; simp
theorem Qgr (l : List UInt8) : (nums l).length = l.length := by unfold nums; simp
theorem strOf (l : List UInt8) : strOfNums (nums l) = ba l := by
 unfold strOfNums nums ba
 rw [List.map_map]
 congr 2
 conv => rhs; rw [← List.map_id l]
 apply List.map_congr_left
 intro b hb
 simp
def Qlf (i : Nat) : R → Int × ByteArray × Int × Int × Int × Int × Int → Prop
 | .ok t, p => p = ((t.kind : Int), ba t.text, (t.num : Int), (i : Int), ((i + t.len : Nat) : Int), 0, 0)
 | .bad a e, p => p.2.2.2.2.2.1 = ((i + a : Nat) : Int) ∧ p.2.2.2.2.2.2 = (e : Int) ∧ e ≠ 0
theorem Qpl (s : ByteArray) (hs : s.size ≤ 70368744177664) (i : Nat) : ∀ (d off : Nat) (acc : List UInt8), s.size - (i + off) ≤ d → i + off ≤ s.size → acc.length ≤ off →
  ∃ p, Ev (fun k => Qa3.l0 k s (i : Int) (nums acc) ((i + off : Nat) : Int)) p ∧ Qlf i (tx off acc (s.data.toList.drop (i + off))) p := by
 have bad : ∀ (off : Nat) (acc : List UInt8), Ev (fun k => Qa3.j1 k s (i : Int) (nums acc) ((i + off : Nat) : Int) false) ((0 : Int), (⟨#[]⟩ : ByteArray), (0 : Int), (0 : Int), (0 : Int), (i : Int), (81 : Int)) := by
  intro off acc
  refine Ev.step (fun k => by simp only [Qa3.j1]; rfl) ?_
  simp only [Bool.false_eq_true, if_false]; exact Ev.now _
 intro d
 induction d with
 | zero =>
  intro off acc hd hi ha
  have e : s.data.toList.drop (i + off) = [] := List.drop_of_length_le (by rw [← Qcd]; omega)
  refine ⟨((0 : Int), (⟨#[]⟩ : ByteArray), (0 : Int), (0 : Int), (0 : Int), (i : Int), (81 : Int)), Ev.step (fun k => by simp only [Qa3.l0]; rfl) ?_, ?_⟩
  ·simp only [if_neg (show ¬ ((i + off : Nat) : Int) < (s.size : Int) by omega)]; exact bad off acc
  ·rw [e, tx]; exact ⟨by simp, rfl, by decide⟩
 | succ d ih =>
  intro off acc hd hi ha
  cases hl : s.data.toList.drop (i + off) with
  | nil =>
   have := Qcj hl hi
   simp only [List.length_nil] at this
   have := ih off acc (by omega) hi ha
   rw [hl] at this; exact this
  | cons b t =>
   have hlt := Qdx hl
   have hbt := Qdd hl
   have hnx := Qci hl
   have hsz := Qcj hl hi
   rw [List.length_cons] at hsz
   rw [tx]
   by_cases h1 : b.toNat = 10
   ·rw [if_pos h1]
    refine ⟨((0 : Int), (⟨#[]⟩ : ByteArray), (0 : Int), (0 : Int), (0 : Int), (i : Int), (81 : Int)), Ev.step (fun k => by simp only [Qa3.l0]; rfl) ?_, ?_⟩
    ·simp only [if_pos (show ((i + off : Nat) : Int) < (s.size : Int) by omega), if_pos (show (0 : Int) ≤ ((i + off : Nat) : Int) by omega), hbt, show ((b.toNat : Int) != 10) = false by rw [bne_eq_false_iff_eq]; omega]; exact bad off acc
    ·exact ⟨by simp, rfl, by decide⟩
   rw [if_neg h1]
   have st : ∀ p, Ev (fun k => if (b.toNat : Int) = 34 then some ((3 : Int), strOfNums (nums acc), (0 : Int), (i : Int), wrap64 (((i + off : Nat) : Int) + 1), (0 : Int), (0 : Int))
     else if (b.toNat : Int) = 92 then (Qat.f k s ((i + off : Nat) : Int)).bind fun bt108 => if bt108.2 = 0 then some ((0 : Int), (⟨#[]⟩ : ByteArray), (0 : Int), (0 : Int), (0 : Int), ((i + off : Nat) : Int), (82 : Int)) else if (nums acc).length < 140737488355328 then Qa3.l0 k s (i : Int) (nums acc ++ [bt108.1]) bt108.2 else none
     else if (nums acc).length < 140737488355328 then Qa3.l0 k s (i : Int) (nums acc ++ [(b.toNat : Int)]) (wrap64 (((i + off : Nat) : Int) + 1)) else none) p →
     Ev (fun k => Qa3.l0 k s (i : Int) (nums acc) ((i + off : Nat) : Int)) p := by
    intro p hp
    refine Ev.step (fun k => by simp only [Qa3.l0]; rfl) ?_
    simp only [if_pos (show ((i + off : Nat) : Int) < (s.size : Int) by omega), if_pos (show (0 : Int) ≤ ((i + off : Nat) : Int) by omega), hbt, show ((b.toNat : Int) != 10) = true by rw [bne_iff_ne]; omega]
    refine Ev.step (fun k => by simp only [Qa3.j1]; rfl) ?_
    simp only [if_true, if_pos (show ((i + off : Nat) : Int) < (s.size : Int) by omega), if_pos (show (0 : Int) ≤ ((i + off : Nat) : Int) by omega), hbt]
    exact hp
   have W : wrap64 (((i + off : Nat) : Int) + 1) = ((i + (off + 1) : Nat) : Int) := w1 (i := i + off) 1 (by omega)
   by_cases h2 : b.toNat = 34
   ·rw [if_pos h2]
    refine ⟨((3 : Int), ba acc, (0 : Int), (i : Int), ((i + (off + 1) : Nat) : Int), (0 : Int), (0 : Int)), st _ ?_, ?_⟩
    ·simp only [if_pos (show (b.toNat : Int) = 34 by omega), strOf, W]; exact Ev.now _
    ·rfl
   rw [if_neg h2]
   by_cases h3 : b.toNat = 92
   ·rw [if_pos h3]
    have he := Qm1 s hs (i + off) b t hl
    unfold Qm2 at he
    cases hx : esc t with
    | none =>
     rw [hx] at he
     refine ⟨((0 : Int), (⟨#[]⟩ : ByteArray), (0 : Int), (0 : Int), (0 : Int), ((i + off : Nat) : Int), (82 : Int)), st _ ?_, ?_⟩
     ·simp only [if_neg (show ¬ (b.toNat : Int) = 34 by omega), if_pos (show (b.toNat : Int) = 92 by omega)]
      refine Ev.bind he ?_
      exact Ev.now _
     ·exact ⟨rfl, rfl, by decide⟩
    | some q =>
     obtain ⟨c, n⟩ := q
     rw [hx] at he; simp only at he ⊢
     have hn := (Qia hx).2
     obtain ⟨p, hp1, hp2⟩ := ih (off + n + 1) (acc ++ [c]) (by omega) (by omega) (by simp only [List.length_append, List.length_cons, List.length_nil]; omega)
     have hdr : s.data.toList.drop (i + (off + n + 1)) = t.drop n := by
      rw [show i + (off + n + 1) = (i + off) + 1 + n by omega, ← List.drop_drop, hnx]
     rw [hdr] at hp2
     refine ⟨p, st _ ?_, hp2⟩
     simp only [if_neg (show ¬ (b.toNat : Int) = 34 by omega), if_pos (show (b.toNat : Int) = 92 by omega)]
     refine Ev.bind he ?_
     simp only [if_neg (show ¬ ((i + off + 1 + n : Nat) : Int) = 0 by omega), if_pos (show (nums acc).length < 140737488355328 by rw [Qgr]; omega), Qf2]
     rw [show i + off + 1 + n = i + (off + n + 1) by omega]
     exact hp1
   ·rw [if_neg h3]
    obtain ⟨p, hp1, hp2⟩ := ih (off + 1) (acc ++ [b]) (by omega) (by omega) (by simp only [List.length_append, List.length_cons, List.length_nil]; omega)
    rw [show i + (off + 1) = i + off + 1 by omega, hnx] at hp2
    refine ⟨p, st _ ?_, hp2⟩
    simp only [if_neg (show ¬ (b.toNat : Int) = 34 by omega), if_neg (show ¬ (b.toNat : Int) = 92 by omega), if_pos (show (nums acc).length < 140737488355328 by rw [Qgr]; omega), Qf2, W]
    exact hp1
theorem Qpi (n : Nat) (p : UInt8 → Bool) (hp : ∀ b : UInt8, G.okb n (b.toNat : Int) = p b) (l : List UInt8) : G.tw n l = lead p l := by
 induction l with
 | nil => rfl
 | cons b t ih => rw [G.Qg4, lead, hp b, ih]
theorem Qoy {n : Nat} {p : UInt8 → Bool} (hn : n = 56 ∨ n = 55) (hp : ∀ b : UInt8, G.okb n (b.toNat : Int) = p b) (s : ByteArray) (hs : s.size ≤ 70368744177664) (i : Nat) (hi : i ≤ s.size) :
  Qc2.f s (i : Int) n = some ((i + lead p (s.data.toList.drop i) : Nat) : Int) := by
 unfold Qc2.f
 rw [if_pos ⟨by omega, by omega, by omega, hn⟩, Int.toNat_natCast, Qpi n p hp]
theorem Qk5 (b : UInt8) : Lib.indexByte [123, 125, 40, 41, 58, 59, 44, 61, 43, 45, 42] b ≥ 0 ↔ b.toNat ∈ marks := by
 have key : ∀ (l : List UInt8) (c : UInt8), Lib.indexByte l c ≥ 0 ↔ c ∈ l := by
  intro l c
  induction l with
  | nil => simp [Lib.indexByte]
  | cons a t ih =>
   rw [Qet, List.mem_cons, ← ih]
   by_cases h : a = c
   ·subst h; simp
   ·have h1 : (a == c) = false := by simpa using h
    have h2 : ¬ c = a := fun e => h e.symm
    rw [h1]
    have := Lib.indexByte_ge t c
    by_cases h3 : Lib.indexByte t c = -1
    ·rw [h3]; simp [h2]
    ·have h4 : (Lib.indexByte t c == -1) = false := by simpa using h3
     rw [h4]
     simp only [Bool.false_eq_true, if_false, h2, false_or]
     omega
 rw [key]
 unfold marks
 simp only [List.mem_cons, List.not_mem_nil, or_false, ← UInt8.toNat_inj]
 rfl
theorem Qnm (s : ByteArray) (hs : s.size ≤ 70368744177664) (i : Nat) (b : UInt8) (t : List UInt8) (hl : s.data.toList.drop i = b :: t) : ∃ p, Ev (fun k => Qbt.f k s (i : Int)) p ∧ Qlf i (L.tok (s.data.toList.drop i)) p := by
 have hlt := Qdx hl
 have hbt := Qdd hl
 have hnx := Qci hl
 have hsz := Qcj hl (by omega)
 rw [List.length_cons] at hsz
 have c1 : (0 : Int) ≤ (i : Int) := by omega
 have c2 : (i : Int) < (s.size : Int) := by omega
 have W : wrap64 ((i : Int) + 1) = ((i + 1 : Nat) : Int) := w1 1 (by omega)
 unfold Qbt.f
 simp only [if_pos c1, if_pos c2, hbt, isL_eq, Qmu, Option.bind_some]
 rw [hl, L.tok]
 have lw := Qe6 isW (b :: t)
 have ld := Qe6 isD (b :: t)
 rw [List.length_cons] at lw ld
 by_cases h1 : isL b = true
 ·have hr := Qoy (n := 55) (p := isW) (.inr rfl) (fun b => rfl) s hs i (by omega)
  rw [hl] at hr
  have hx := Qjm s i (i + lead isW (b :: t))
  rw [Nat.add_sub_cancel_left, hl] at hx
  have hxs : ((s.extract i (i + lead isW (b :: t))).size : Int) = ((lead isW (b :: t) : Nat) : Int) := by
   rw [hx, Qcd, Qkp, List.length_take]; simp only [List.length_cons]; omega
  rw [if_pos h1]
  simp only [h1, if_true, hr, Option.bind_some, if_pos (show (i : Int) ≤ ((i + lead isW (b :: t) : Nat) : Int) by omega), if_pos (show ((i + lead isW (b :: t) : Nat) : Int) ≤ (s.size : Int) by omega), Int.toNat_natCast, hxs]
  by_cases h64 : lead isW (b :: t) > 64
  ·rw [if_pos h64]
   simp only [if_pos (show ((lead isW (b :: t) : Nat) : Int) > 64 by omega)]
   exact ⟨_, Ev.now _, rfl, rfl, by decide⟩
  ·rw [if_neg h64]
   simp only [if_neg (show ¬ ((lead isW (b :: t) : Nat) : Int) > 64 by omega)]
   exact ⟨_, Ev.now _, by rw [hx]; rfl⟩
 have h1' : isL b = false := by simpa using h1
 rw [if_neg h1]
 simp only [h1', Bool.false_eq_true, if_false]
 by_cases h2 : isD b = true
 ·have hr := Qoy (n := 56) (p := isD) (.inl rfl) (fun b => rfl) s hs i (by omega)
  rw [hl] at hr
  have hx := Qjm s i (i + lead isD (b :: t))
  rw [Nat.add_sub_cancel_left, hl] at hx
  rw [if_pos h2]
  have hnum : Qce.f (s.extract i (i + lead isD (b :: t))) = some (match G.numv 0 ((b :: t).take (lead isD (b :: t))) with | some x => ((x : Int), true) | none => (0, false)) := by
   unfold Qce.f
   rw [hx, Qkp, if_pos (by rw [Qcd, Qkp, List.length_take]; omega)]
   try (cases G.numv 0 ((b :: t).take (lead isD (b :: t))) <;> rfl)
  simp only [h2, if_true, hr, Option.bind_some, if_pos (show (i : Int) ≤ ((i + lead isD (b :: t) : Nat) : Int) by omega), if_pos (show ((i + lead isD (b :: t) : Nat) : Int) ≤ (s.size : Int) by omega), Int.toNat_natCast, hnum]
  cases G.numv 0 ((b :: t).take (lead isD (b :: t))) with
  | none => simp only [Bool.false_eq_true, if_false]; exact ⟨_, Ev.now _, rfl, rfl, by decide⟩
  | some x => simp only [if_true]; exact ⟨_, Ev.now _, rfl⟩
 have h2' : isD b = false := by simpa using h2
 rw [if_neg h2]
 simp only [h2', Bool.false_eq_true, if_false]
 by_cases h3 : b.toNat = 34
 ·rw [if_pos h3]
  simp only [if_pos (show (b.toNat : Int) = 34 by omega)]
  obtain ⟨p, hp1, hp2⟩ := Qpl s hs i (s.size) 1 [] (by omega) (by omega) (by simp)
  rw [hnx] at hp2
  refine ⟨p, ?_, hp2⟩
  have hp3 : Ev (fun k => Qa3.f k s (i : Int)) p := Ev.congr (fun k => by unfold Qa3.f; rw [W]; rfl) hp1
  exact Ev.bind hp3 (Ev.now _)
 rw [if_neg h3]
 simp only [if_neg (show ¬ (b.toNat : Int) = 34 by omega)]
 have hix : strings_IndexByte.f (⟨#[123, 125, 40, 41, 58, 59, 44, 61, 43, 45, 42]⟩ : ByteArray) (b.toNat : Int) = some (Lib.indexByte [123, 125, 40, 41, 58, 59, 44, 61, 43, 45, 42] b) := by
  unfold strings_IndexByte.f
  rw [Int.toNat_natCast, show b.toNat.toUInt8 = b from UInt8.ofNat_toNat]
 simp only [hix, Option.bind_some]
 by_cases h4 : b.toNat ∈ marks
 ·rw [if_pos h4]
  have hx := Qjm s i (i + 1)
  rw [Nat.add_sub_cancel_left, hl] at hx
  simp only [if_pos ((Qk5 b).2 h4), W, if_pos (show (i : Int) ≤ ((i + 1 : Nat) : Int) by omega), if_pos (show ((i + 1 : Nat) : Int) ≤ (s.size : Int) by omega), Int.toNat_natCast, hx]
  exact ⟨_, Ev.now _, rfl⟩
 ·rw [if_neg h4]
  simp only [if_neg (fun h => h4 ((Qk5 b).1 h))]
  exact ⟨_, Ev.now _, rfl, rfl, by decide⟩
def toS (t : L.Tok) : S47 := ⟨(t.kind : Int), ba t.text, (t.num : Int), (t.at' : Int), (t.fin : Int)⟩
def outL (acc : List S47) : LR → List S47 × Int × Int
 | .toks l => (acc ++ l.map toS, 0, 0)
 | .bad a e => ([], (a : Int), (e : Int))
theorem Qja (acc : List S47) (t : L.Tok) (r : LR) : outL acc (r.push t) = outL (acc ++ [toS t]) r := by
 cases r with
 | toks l => simp [LR.push, outL]
 | bad a e => rfl
theorem Qp1 (s : ByteArray) (hs : s.size ≤ 1048576) : ∀ (d off : Nat) (acc : List S47), s.size - off ≤ d → off ≤ s.size → acc.length ≤ off →
  Ev (fun k => Qbr.l0 k s acc ((off + sk false (s.data.toList.drop off) : Nat) : Int)) (outL acc (lx off (s.data.toList.drop off))) := by
 intro d
 induction d with
 | zero =>
  intro off acc hd hi ha
  have e : s.data.toList.drop off = [] := List.drop_of_length_le (by rw [← Qcd]; omega)
  refine Ev.step (fun k => by simp only [Qbr.l0]; rfl) ?_
  rw [e, Qem rfl]
  simp only [sk, Nat.add_zero, if_neg (show ¬ (off : Int) < (s.size : Int) by omega), if_pos (show acc.length < 2932031007402 by omega), List.length_nil]
  obtain rfl : off = s.size := by omega
  exact Ev.now _
 | succ d ih =>
  intro off acc hd hi ha
  have hlen : (s.data.toList.drop off).length = s.size - off := by rw [List.length_drop, ← Qcd]
  have hsk := Qnp false (s.data.toList.drop off)
  by_cases hz : sk false (s.data.toList.drop off) = (s.data.toList.drop off).length
  ·refine Ev.step (fun k => by simp only [Qbr.l0]; rfl) ?_
   rw [Qem hz, hz, hlen, show off + (s.size - off) = s.size by omega]
   simp only [Int.lt_irrefl, if_false, if_pos (show acc.length < 2932031007402 by omega)]
   exact Ev.now _
  ·obtain ⟨i, hi2⟩ : ∃ i, i = off + sk false (s.data.toList.drop off) := ⟨_, rfl⟩
   have hdr : (s.data.toList.drop off).drop (sk false (s.data.toList.drop off)) = s.data.toList.drop i := by rw [List.drop_drop, hi2]
   have hil : i < s.size := by omega
   cases hl : s.data.toList.drop i with
   | nil => have := Qcj hl (by omega); simp only [List.length_nil] at this; omega
   | cons b t =>
    obtain ⟨p, hp1, hp2⟩ := Qnm s (by omega) i b t hl
    refine Ev.step (fun k => by simp only [Qbr.l0]; rfl) ?_
    simp only [← hi2, if_pos (show (i : Int) < (s.size : Int) by omega)]
    refine Ev.bind hp1 ?_
    cases ht : L.tok (s.data.toList.drop i) with
    | bad a e =>
     rw [ht] at hp2
     obtain ⟨h1, h2, h3⟩ := hp2
     rw [Qk6 (a := a) (e := e) hz (by rw [hdr]; exact ht), ← hi2]
     simp only [h1, h2, if_neg (show ¬ (e : Int) = 0 by omega)]
     exact Ev.now _
    | ok t' =>
     rw [ht] at hp2
     have hp2' : p = ((t'.kind : Int), ba t'.text, (t'.num : Int), (i : Int), ((i + t'.len : Nat) : Int), 0, 0) := hp2
     have htl := Qds ht
     rw [List.length_drop, ← Qcd] at htl
     subst hp2'
     rw [Qn8 (t := t') hz (by rw [hdr]; exact ht), ← hi2]
     simp only [if_true, if_pos (show acc.length < 2932031007402 by omega)]
     have hsk2 := (Ql6 s (by omega) _ (i + t'.len) (Nat.le_refl _) (by omega))
     have hnx := ih (i + t'.len) (acc ++ [toS (t'.at_ i)]) (by omega) (by omega) (by simp only [List.length_append, List.length_cons, List.length_nil]; omega)
     rw [Qja, show (s.data.toList.drop off).drop (sk false (s.data.toList.drop off) + t'.len) = s.data.toList.drop (i + t'.len) by rw [← List.drop_drop, hdr, List.drop_drop]]
     refine Ev.bind (g := fun k => Qa4.f k s ((i + t'.len : Nat) : Int)) hsk2 ?_
     exact hnx
theorem Qk7 (s : ByteArray) : Ev (fun k => Qbr.f k s) (outL [] (L.Lex s.data.toList)) := by
 unfold L.Lex
 rw [← Qcd]
 by_cases h : s.size > 1048576
 ·rw [if_pos h]
  refine Ev.congr (fun k => ?_) (Ev.now _)
  unfold Qbr.f
  rw [if_pos (by omega)]; rfl
 ·rw [if_neg h]
  have h1 := Ql6 s (by omega) _ 0 (Nat.le_refl _) (by omega)
  have h2 := Qp1 s (by omega) _ 0 [] (Nat.le_refl _) (by omega) (Nat.le_refl _)
  rw [List.drop_zero] at h1 h2
  refine Ev.congr (f := fun k => (Qa4.f k s 0).bind fun t132 => Qbr.l0 k s [] t132) (fun k => ?_) (Ev.bind (g := fun k => Qa4.f k s 0) h1 h2)
  unfold Qbr.f
  rw [if_neg (by omega)]
theorem Qn9 : ∀ (d off : Nat) (l : List UInt8) (ts : List L.Tok), l.length ≤ d → lx off l = .toks ts → ts.length ≤ l.length + 1 := by
 intro d
 induction d with
 | zero =>
  intro off l ts hd h
  obtain rfl : l = [] := List.length_eq_zero_iff.1 (by omega)
  rw [Qem rfl] at h; cases h; simp
 | succ d ih =>
  intro off l ts hd h
  rcases Qhc off l with ⟨q, hq, e⟩ | ⟨g, w, r, t, rfl, hg, ht, hw, e⟩ | ⟨g, m, a, e, rfl, hg, hm, hne, ht, h2⟩
  ·rw [e] at h; cases h; simp
  ·have hl2 := Qds ht
   rw [e] at h
   obtain ⟨l', h1, rfl⟩ := Qfe h
   simp only [List.length_append, List.length_cons] at hd ⊢
   have := ih _ r l' (by omega) h1
   omega
  ·rw [h2] at h; cases h
theorem Qlh {l : List UInt8} {ts : List L.Tok} (h : L.Lex l = .toks ts) : l.length ≤ 1048576 ∧ lx 0 l = .toks ts ∧ ts.length ≤ l.length + 1 := by
 unfold L.Lex at h
 split at h
 ·cases h
 ·exact ⟨by omega, h, Qn9 _ _ _ _ (Nat.le_refl _) h⟩
theorem Qhj {l : List UInt8} {a e : Nat} (h : L.Lex l = .bad a e) : (1048576 < l.length ∧ a = 0 ∧ e = 2) ∨ (l.length ≤ 1048576 ∧ lx 0 l = .bad a e ∧ a < l.length ∧ (e = 80 ∨ e = 81 ∨ e = 82 ∨ e = 111)) := by
 unfold L.Lex at h
 split at h
 ·cases h; exact .inl ⟨by omega, rfl, rfl⟩
 ·have := Qmq [] _ _ _ _ _ (Nat.le_refl _) h
  exact .inr ⟨by omega, h, by omega, this.2.2.2.1⟩
end Go.Proofs.Ytbdcndkafaajpaa.T
end
section
namespace Go.Proofs.Ytbdcndkafaajpaa.P
open Ytbdcndkafaajpaa.X Ytbdcndkafaajpaa.T
inductive Out (α : Type) where
 | ok (a : α)
 | bad (e pl : Int)
def outO {α : Type} : Res α → Out α
 | .ok a _ => .ok a
 | .bad e p => .bad e p
def Qc6 {α : Type} (f : List Tk → Res α) (s : ByteArray) : Out α := match L.Lex s.data.toList with
 | .bad a e => .bad (e : Int) (a : Int)
 | .toks l => outO (f (l.map toS))
def Qdu (s : ByteArray) : Out (List EvD) := Qc6 Qes s
def Qdr (s : ByteArray) : Out (List Nd) := Qc6 Qeb s
end Go.Proofs.Ytbdcndkafaajpaa.P
namespace Go.Proofs.Ytbdcndkafaajpaa.A
open Go.RowKit Ytbdcndkafaajpaa.X Ytbdcndkafaajpaa.L Ytbdcndkafaajpaa.T YtbdcndkafaajpaaW.PrintWords YtbdcndkafaajpaaW.PrintLast YtbdcndkafaajpaaW.PrintMore
open Ytbdcndkafaajpaa.P (Nd EO Res hd isT isM Qar mxl comb mk1 StD VeD EvD Out Qc6 Qdu Qdr)
theorem Qpz : ∀ (d off : Nat) (l : List UInt8) (ts : List L.Tok), l.length ≤ d → lx off l = .toks ts → ∃ i e, ts = i ++ [e] ∧ e.kind = 0 := by
 intro d
 induction d with
 | zero =>
  intro off l ts hd h
  obtain rfl : l = [] := List.length_eq_zero_iff.1 (by omega)
  rw [Qem rfl] at h; cases h; exact ⟨[], _, rfl, rfl⟩
 | succ d ih =>
  intro off l ts hd h
  rcases Qhc off l with ⟨q, hq, e⟩ | ⟨g, w, r, t, rfl, hg, ht, hw, e⟩ | ⟨g, m, a, e, rfl, hg, hm, hne, ht, h2⟩
  ·rw [e] at h; cases h; exact ⟨[], _, rfl, rfl⟩
  ·have hl2 := Qds ht
   rw [e] at h
   obtain ⟨l', h1, rfl⟩ := Qfe h
   simp only [List.length_append, List.length_cons] at hd
   obtain ⟨i, e', rfl, h0⟩ := ih _ r l' (by omega) h1
   exact ⟨_ :: i, e', rfl, h0⟩
  ·rw [h2] at h; cases h
theorem Qqf {l : List Tk} {i : List Tk} {e : Tk} (h : l = i ++ [e]) (h0 : e.f0 = 0) : Good l ∧ 0 < l.length := by
 subst h
 refine ⟨fun j hj hk => ?_, by rw [List.length_append, List.length_singleton]; omega⟩
 rw [List.length_append, List.length_singleton] at hj ⊢
 by_cases hji : j = i.length
 ·subst hji
  exfalso
  apply hk
  unfold tk Qfq
  rw [Int.toNat_natCast, List.getD_eq_getElem?_getD, List.getElem?_append_right (Nat.le_refl _), Nat.sub_self]
  exact h0
 ·omega
theorem Qiz {l : List UInt8} {ts : List L.Tok} (h : L.Lex l = .toks ts) : Good (ts.map toS) ∧ 0 < (ts.map toS).length ∧ (ts.map toS).length ≤ 1048577 := by
 obtain ⟨h1, h2, h3⟩ := Qlh h
 obtain ⟨i, e, rfl, h0⟩ := Qpz _ _ _ _ (Nat.le_refl _) h2
 have := Qqf (l := (i ++ [e]).map toS) (i := i.map toS) (e := toS e) (by simp) (by unfold toS; rw [h0]; rfl)
 exact ⟨this.1, this.2, by rw [List.length_map]; omega⟩
structure Qjw (w w' : World) (A : Option Addr) (c : Nat) (L : List Tk) (g : Nat) : Prop where
 up : Up w' A c L g (.ok L)
 good : Good L
 len : L.length ≤ 33554432
 new : w.heap.size ≤ g
 bel : Below w.heap.size w w'
theorem Qhg (w : World) (s : ByteArray) : Calls Try.prog 23 #[.string s] w fun e w' =>
  match L.Lex s.data.toList with
  | .bad a er => e = .returned (.tuple #[.pointer none, .int .i64 (a : Int), .int .i64 (er : Int)]) ∧ Below w.heap.size w w'
  | .toks l => ∃ A c g, e = .returned (.tuple #[.pointer (some ⟨g, 0, none⟩), .int .i64 0, .int .i64 0]) ∧ Qjw w w' A c (l.map toS) g := by
 obtain ⟨k, hk⟩ := (Qk7 s).rounds
 cases hx : L.Lex s.data.toList with
 | bad a er =>
  rw [hx] at hk
  have hne : (er : Int) ≠ 0 := by
   rcases Qhj hx with ⟨_, _, h⟩ | ⟨_, _, _, h⟩ <;> omega
  have d1 : ((er : Int) != 0) = true := bne_iff_ne.2 hne
  have HCL := J0.m (Qbr.calls k s _ _ _ w hk)
  clear hk hx hne
  go_enter Try.func23, Try.ntmps23
  go_wp2_with fail
  refine HCL.o.mono ?_
  rintro e w1 ⟨v0, rfl, hr, hb⟩
  have HB := J0.m hb
  clear hr hb
  go_wp2
  go_ret3
  exact ⟨rfl, HB.o⟩
 | toks l =>
  rw [hx] at hk
  obtain ⟨hg1, hg2, hg3⟩ := Qiz hx
  have HGD := J0.m hg1
  have HG2 := J0.m hg2
  have HG3 := J0.m hg3
  have HCL := J0.m (Qbr.calls k s _ _ _ w hk)
  clear hk hx hg1 hg2 hg3
  go_enter Try.func23, Try.ntmps23
  go_wp2_with fail
  refine HCL.o.mono ?_
  rintro e w1 ⟨v0, rfl, hr, hb⟩
  obtain ⟨A, c, rfl⟩ := Kd.Qc4 hr
  have HR := J0.m hr
  have HB := J0.m hb
  clear hr hb
  go_wp2
  go_ret3
  have hlen : ([] ++ l.map toS).length = (l.map toS).length := by simp
  obtain ⟨W, hW⟩ : ∃ W, W = w1.alloc (.cells (pv A (l.map toS).length c ⟨0, 0, 0⟩ (.int .i64 0) (.slice none 0 0) (.slice none 0 0)) 68) := ⟨_, rfl⟩
  have hb1 : Below w1.heap.size w1 W := by rw [hW]; exact Qab (Below.refl _ _) _
  have hrow : Kd.R kt 47 w1 w.heap.size (fun _ => True) (.slice A (l.map toS).length c) (l.map toS) := by
   have := HR.o
   simpa using this
  refine ⟨A, c, w1.heap.size, rfl, ?_⟩
  have hgoal : Qjw w W A c (l.map toS) w1.heap.size := ⟨⟨⟨0, 0, 0⟩, 0, _, _, ⟨rfl, rfl⟩, ⟨by rw [hW]; exact Qa1 _ _, ?_, HG2.o, ?_⟩⟩, HGD.o, by have := HG3.o; omega, HB.o.size, HB.o.trans (hb1.mono HB.o.size)⟩
  ·rw [hW] at hgoal
   simpa [pv] using hgoal
  ·intro W' hW'
   exact (Kd.Qpg rfl (Kd.Qb8 hrow hb1)) W' (fun k hk => hW' k (by have := Kd.R_lt hrow k hk; omega))
  ·obtain ⟨A', c', he, hc, _⟩ := Kd.Qgj hrow
   injection he with _ _ he
   omega
end Go.Proofs.Ytbdcndkafaajpaa.A
end
section
namespace Go.Proofs.Ytbdcndkafaajpaa.A
open Go.RowKit Ytbdcndkafaajpaa.X Ytbdcndkafaajpaa.L Ytbdcndkafaajpaa.T YtbdcndkafaajpaaW.PrintWords YtbdcndkafaajpaaW.PrintLast YtbdcndkafaajpaaW.PrintMore
open Ytbdcndkafaajpaa.P (Nd EO Res hd isT isM Qar mxl comb mk1 StD VeD EvD Out Qc6 Qdu Qdr)
theorem Up.okc {w : World} {A : Option Addr} {c : Nat} {L : List Tk} {g : Nat} {ts : List Tk} (h : Up w A c L g (.ok ts)) : w.cell? ⟨g, 2, none⟩ = some (.int .i64 0) := by
 obtain ⟨q, lv, v5, v6, hq, hp⟩ := h
 rw [← hq.1]; exact hp.c2
theorem Up.badc {w : World} {A : Option Addr} {c : Nat} {L : List Tk} {g : Nat} {e p : Int} (h : Up w A c L g (.bad e p)) : w.cell? ⟨g, 2, none⟩ = some (.int .i64 e) ∧ w.cell? ⟨g, 3, none⟩ = some (.int .i64 p) ∧ e ≠ 0 := by
 obtain ⟨q, lv, v5, v6, hq, hp⟩ := h
 exact ⟨by rw [← hq.1]; exact hp.c2, by rw [← hq.2.1]; exact hp.c3, hq.2.2⟩
theorem Qjw.below {w w1 w2 : World} {A : Option Addr} {c : Nat} {L : List Tk} {g : Nat} (h : Qjw w w1 A c L g) (hg : w1.grownBy w2 (some g)) : Below w.heap.size w w2 :=
 h.bel.grown hg (by have := h.bel.size; omega) (fun k hk => by injection hk with hk; have := h.new; omega)
def Says {α : Type} (o : Out α) (v : Sl) (at_ er : Int) (P : α → Prop) : Prop := match o with
 | .ok a => at_ = 0 ∧ er = 0 ∧ P a
 | .bad e p => er = e ∧ at_ = p ∧ v = ⟨none, 0, 0⟩ ∧ e ≠ 0
theorem Qfz (w : World) (s : ByteArray) : Calls Try.prog 15 #[.string s] w fun e w' => ∃ (v : Sl) (l : List Row) (at_ er : Int), e = .returned (.tuple #[.slice v.A v.n v.c, .int .i64 at_, .int .i64 er]) ∧ Rows w' w.heap.size l ∧ Below w.heap.size w w' ∧ Says (Qdr s) v at_ er (fun ns => Row.n v ns ∈ l) := by
 have HBG := J0.m (Qhg w s)
 unfold Qdr Qc6
 cases hx : L.Lex s.data.toList with
 | bad a er =>
  rw [hx] at HBG
  have hne : (er : Int) ≠ 0 := by
   rcases Qhj hx with ⟨_, _, h⟩ | ⟨_, _, _, h⟩ <;> omega
  have d1 : ((er : Int) != 0) = true := bne_iff_ne.2 hne
  have HNE := J0.m hne
  clear hx hne
  go_enter Try.func15, Try.ntmps15
  go_wp2_with fail
  refine HBG.o.mono ?_
  rintro e w1 ⟨rfl, hb⟩
  have HB := J0.m hb
  clear hb
  go_wp2
  go_ret3
  exact ⟨⟨none, 0, 0⟩, [], _, _, rfl, Rows.nil _ _, HB.o, rfl, rfl, rfl, HNE.o⟩
 | toks l =>
  rw [hx] at HBG
  clear hx
  go_enter Try.func15, Try.ntmps15
  go_wp2_with fail
  refine HBG.o.mono ?_
  rintro e w1 ⟨A, c, g, rfl, hbg⟩
  have HBE := J0.m hbg
  clear hbg
  obtain ⟨F, hF0, hFe⟩ := Co.start (.ok (l.map toS)) P.Qeb
  have HF0 := J0.m hF0
  have HFE := J0.m hFe
  have HC1 := J0.m (show Co F (fun ts => (P.Qda ts).bind fun v r => (P.endW r).bind fun _ r => .ok v.ns r) (.ok (l.map toS)) from hF0)
  clear hF0 hFe
  have HCL := J0.m (Qg0 w1 A c _ g _ HBE.o.good HBE.o.len HBE.o.up)
  go_wp2_with fail
  refine HCL.o.mono ?_
  rintro e w2 ⟨v, ns, rfl, hrv, hnew, hu, hg, hval⟩
  clear HCL
  obtain ⟨Av, cv, hvv⟩ := Kd.Qc4 hrv
  subst hvv
  have HC2 := J0.m (Co.call (P := fun _ => True) (g' := fun r => (P.endW r).bind fun _ r => .ok ns r) HC1.o (fun ts a r h1 h2 => by rw [hval ts a r h1 h2]))
  have HU2 := J0.m hu
  have HG2 := J0.m hg
  have HN2 := J0.m (Qfs (base' := w.heap.size) Qh8 hrv (fun _ _ => rfl) (fun k hk => Nat.le_trans HBE.o.bel.size (hnew k hk)))
  have HOW : J0 (∀ k, (Value.slice Av ns.length cv).ownBlock = some k → w1.heap.size ≤ k) := ⟨hnew⟩
  clear hrv hnew hu hg hval
  go_wp2_with fail
  refine (Qea HU2.o).mono ?_
  rintro e w3 ⟨⟨k2, s2, n2, p2, e2⟩, hf2, rfl, hb⟩
  have HT2 := J0.m hf2
  have HU3 := J0.m (HU2.o.below hb)
  have HG3 := J0.m (HG2.o.trans (Qaq hb _))
  have HB3 := J0.m hb
  clear hb hf2
  obtain ⟨gd0, gd1, gd2, gd3⟩ := fld ⟨k2, s2, n2, p2, e2⟩
  have HCL := J0.m (Qh0 HBE.o.good (k2 == 0) HU3.o (fun ts hs => by rw [← HT2.o ts hs]))
  go_wp2_with fail
  refine HCL.o.mono ?_
  rintro e w4 ⟨⟨⟨k4, s4, n4, p4, e4⟩, hfr, rfl⟩, hu, hg⟩
  clear HCL
  have HC4 := J0.m (Co.call (P := fun _ => True) (g' := fun r => .ok ns r) HC2.o (fun _ _ _ _ _ => rfl))
  have HB4 := J0.m (HBE.o.below (HG3.o.trans hg))
  have HN4 : J0 (Rows w4 w.heap.size [Row.n ⟨Av, ns.length, cv⟩ ns]) := ⟨⟨fun r hr => by
   rw [List.mem_singleton.1 hr]
   refine Qfs (d := kn) Qh8 HN2.o (fun k hk => ?_) (fun k hk => Kd.Qeq HN2.o k hk)
   have hlt := Kd.R_lt HN2.o k hk
   have hgk : k ≠ g := by have := HOW.o k hk; have := HBE.o.up.glt; omega
   rw [hg.block k (Nat.lt_of_lt_of_le hlt HB3.o.size) (fun e => by injection e with e; exact hgk e)]
   exact HB3.o.block k hlt, ⟨fun k hk hm => (by cases hm), trivial⟩⟩⟩
  have HU4 := J0.m (show Up w4 A c _ g ((US.ok (l.map toS)).step P.Qeb) from by
   rw [← HFE.o _ (Co.Qfw HC4.o)]; exact hu)
  clear hu hg hfr
  cases hy : P.Qeb (l.map toS) with
  | ok ds r =>
   have hd : ds = ns := Co.val HC4.o HF0.o _ _ _ rfl hy
   subst hd
   have y2 := (show Up w4 A c _ g (.ok r) from by have := HU4.o; rw [step_ok hy] at this; exact this).okc
   have HY := J0.m hy
   clear hy
   go_wp2
   go_ret3
   rw [HY.o]
   exact ⟨⟨Av, ds.length, cv⟩, _, _, _, rfl, HN4.o, HB4.o, rfl, rfl, List.mem_singleton.2 rfl⟩
  | bad e p =>
   obtain ⟨y2, y3, hne⟩ := (show Up w4 A c _ g (.bad e p) from by have := HU4.o; rw [Qew hy] at this; exact this).badc
   have d1 : (e != 0) = true := bne_iff_ne.2 hne
   have HNE := J0.m hne
   have HY := J0.m hy
   clear hy hne
   go_wp2_with fail
   go_quiet (fail)
   go_wp2
   go_ret3
   rw [HY.o]
   exact ⟨⟨none, 0, 0⟩, _, _, _, rfl, Rows.nil _ _, Qac HB4.o _, rfl, rfl, rfl, HNE.o⟩
theorem Qjp (w : World) (s : ByteArray) : Calls Try.prog 12 #[.string s] w fun e w' => ∃ (v : Sl) (l : List Row) (at_ er : Int), e = .returned (.tuple #[.agg #[.slice v.A v.n v.c], .int .i64 at_, .int .i64 er]) ∧ Rows w' w.heap.size l ∧ Below w.heap.size w w' ∧ Says (Qdu s) v at_ er (fun ds => ∃ xs, Row.e v xs ∈ l ∧ All2 (EvT l) ds xs) := by
 obtain ⟨w0, hw0⟩ : ∃ w0, w0 = w.alloc (.cells #[.slice none 0 0] 27) := ⟨_, rfl⟩
 obtain ⟨b2, hb2⟩ : ∃ b2, b2 = w.heap.size := ⟨_, rfl⟩
 have hB0 : Below w.heap.size w w0 := by rw [hw0]; exact Qab (Below.refl _ _) _
 have HY0 := J0.m (show w0.heap[b2]? = some (.cells #[.slice none 0 0] 27 (0, 0)) from by rw [hw0, hb2]; exact Qa1 _ _)
 have HB0 := J0.m hB0
 have HB2 := J0.m hb2
 have HW0 := J0.m hw0
 have HBG := J0.m (Qhg w0 s)
 clear hw0 hb2 hB0
 unfold Qdu Qc6
 cases hx : L.Lex s.data.toList with
 | bad a er =>
  rw [hx] at HBG
  have hne : (er : Int) ≠ 0 := by
   rcases Qhj hx with ⟨_, _, h⟩ | ⟨_, _, _, h⟩ <;> omega
  have d1 : ((er : Int) != 0) = true := bne_iff_ne.2 hne
  have HNE := J0.m hne
  clear hx hne
  go_enter Try.func12, Try.ntmps12
  go_wp2_with fail
  rw [← HW0.o, ← HB2.o]
  refine HBG.o.mono ?_
  rintro e w1 ⟨rfl, hb⟩
  have HB := J0.m (HB0.o.trans (hb.mono HB0.o.size))
  have HY1 := J0.m (Qai HY0.o hb)
  have y0 := (Qaf HY1.o 0).trans rfl
  have g0 := Qaa HY1.o 0
  clear hb
  go_wp2
  refine bodyPost_ret (Qbf rfl _ _ b2 27 #[.slice none 0 0] (0, 0) _ rfl (Qb4 HY1.o 0 _ rfl) Try.underlying27 rfl (by kernel_rfl)) rfl ?_
  exact ⟨⟨none, 0, 0⟩, [], _, _, rfl, Rows.nil _ _, HB.o.setCell (p := ⟨b2, 0, none⟩) (by rw [HB2.o]; exact Nat.le_refl _) _, rfl, rfl, rfl, HNE.o⟩
 | toks l =>
  rw [hx] at HBG
  clear hx
  go_enter Try.func12, Try.ntmps12
  go_wp2_with fail
  rw [← HW0.o, ← HB2.o]
  refine HBG.o.mono ?_
  rintro e w1 ⟨A, c, g, rfl, hbg⟩
  have HBE := J0.m hbg
  have HY1 := J0.m (Qai HY0.o hbg.bel)
  clear hbg
  have NB2 : J0 (b2 ≠ g) := ⟨by have := HBE.o.new; have := Qcc HY0.o; omega⟩
  have HCL := J0.m (Qi0 w1 A c _ g _ HBE.o.good HBE.o.len HBE.o.up)
  go_wp2_with fail
  refine HCL.o.mono ?_
  rintro e w2 ⟨⟨Av, nv, cv⟩, lr, rfl, hrows, hu, hg, hval⟩
  clear HCL
  have HB2' := J0.m (HB0.o.trans ((HBE.o.below hg).mono HB0.o.size))
  have HY2 := J0.m (Qbb hg HY1.o NB2.o)
  have HU2 := J0.m hu
  have HR2 := J0.m hrows
  have HVL := J0.m hval
  have HS1 : J0 (b2 < w1.heap.size ∧ w.heap.size ≤ w1.heap.size) := ⟨Qcc HY1.o, Nat.le_trans HB0.o.size HBE.o.bel.size⟩
  clear hrows hu hg hval
  obtain ⟨b8, hb8⟩ : ∃ b8, b8 = w2.heap.size := ⟨_, rfl⟩
  obtain ⟨w3, hw3⟩ : ∃ w3, w3 = w2.alloc (.cells #[.slice Av nv cv] 27) := ⟨_, rfl⟩
  have hb3 : Below w2.heap.size w2 w3 := by rw [hw3]; exact Qab (Below.refl _ _) _
  have hx3 : w3.heap[b8]? = some (.cells #[.slice Av nv cv] 27 (0, 0)) := by rw [hw3, hb8]; exact Qa1 _ _
  have c8 := (Qaf hx3 0).trans rfl
  have HU3 := J0.m (HU2.o.below hb3)
  have HY3 := J0.m (Qai HY2.o hb3)
  have HR3 := J0.m (HR2.o.keep (fun k _ hk => hb3.block k hk))
  have HB3 := J0.m (HB2'.o.trans (hb3.mono HB2'.o.size))
  have y0 := (Qaf HY3.o 0).trans rfl
  have g0 := Qaa HY3.o 0
  have HW3 := J0.m hw3
  have HB8 := J0.m hb8
  cases hy : P.Qes (l.map toS) with
  | ok ds r =>
   have y2 := (show Up w3 A c _ g (.ok r) from by have := HU3.o; rw [step_ok hy] at this; exact this).okc
   have HV := J0.m (HVL.o _ _ _ rfl hy)
   have HY := J0.m hy
   rw [hw3] at y2 y0 g0 c8
   rw [hb8] at c8
   clear hy hw3 hb8 hb3 hx3
   go_wp2
   rw [← HW3.o]
   refine bodyPost_ret (Qbf rfl _ _ b2 27 #[.slice Av nv cv] (0, 0) _ rfl (Qb4 HY3.o 0 _ rfl) Try.underlying27 rfl (by kernel_rfl)) rfl ?_
   rw [HY.o]
   exact ⟨⟨Av, nv, cv⟩, lr, _, _, rfl, (HR3.o.far HS1.o.1).lower HS1.o.2, HB3.o.setCell (p := ⟨b2, 0, none⟩) (by rw [HB2.o]; exact Nat.le_refl _) _, rfl, rfl, HV.o⟩
  | bad e p =>
   obtain ⟨y2, y3, hne⟩ := (show Up w3 A c _ g (.bad e p) from by have := HU3.o; rw [Qew hy] at this; exact this).badc
   have d1 : (e != 0) = true := bne_iff_ne.2 hne
   have HNE := J0.m hne
   have HY := J0.m hy
   clear hne hy
   rw [hw3] at y2 y3 y0 g0
   clear hw3 hb8 hb3 hx3 c8
   go_wp2_with fail
   rw [← HW3.o] at y2 y3 y0 g0 ⊢
   have z2 : (w3.setCell ⟨b2, 0, none⟩ (.slice none 0 0)).drew.cell? ⟨g, 2, none⟩ = some (.int .i64 e) := (World.cell?_of_block (a := ⟨g, 2, none⟩) (Below.heap_setCell w3 ⟨b2, 0, none⟩ _ g (fun h => NB2.o h.symm))).trans y2
   have z3 : (w3.setCell ⟨b2, 0, none⟩ (.slice none 0 0)).drew.cell? ⟨g, 3, none⟩ = some (.int .i64 p) := (World.cell?_of_block (a := ⟨g, 3, none⟩) (Below.heap_setCell w3 ⟨b2, 0, none⟩ _ g (fun h => NB2.o h.symm))).trans y3
   go_region_held3 (fun w' => w'.cell? ⟨g, 2, none⟩ = some (.int .i64 e) ∧ w'.cell? ⟨g, 3, none⟩ = some (.int .i64 p)) (first | exact ⟨y2, y3⟩ | exact ⟨z2, z3⟩) (fail)
   all_goals
    go_wp2
    refine bodyPost_ret (Qbf rfl _ _ b2 27 #[.slice none 0 0] (0, 0) _ rfl (Qb4 HY3.o 0 _ rfl) Try.underlying27 rfl (by kernel_rfl)) rfl ?_
    rw [HY.o]
    exact ⟨⟨none, 0, 0⟩, [], _, _, rfl, Rows.nil _ _, (Qac HB3.o 1).setCell (p := ⟨b2, 0, none⟩) (by rw [HB2.o]; exact Nat.le_refl _) _, rfl, rfl, rfl, HNE.o⟩
end Go.Proofs.Ytbdcndkafaajpaa.A
end
section
namespace Go.Proofs.Ytbdcndkafaajpaa.X
open Go.RowKit YtbdcndkafaajpaaW.PrintWords YtbdcndkafaajpaaW.PrintLast YtbdcndkafaajpaaW.PrintMore
attribute [local go_sem] Qdl Qdj Qef Qee Qc9 Qc8 Qdk Qdi
def Qay.f (a0 : Int) : Option (Bool) := if a0 ≥ 48 then (some (decide (a0 ≤ 57))) else (some false)
theorem Qay.calls (a0 : Int) (r : Bool) (w : World) (h : Qay.f a0 = some r) :
  Calls Try.prog 66 #[.int .u8 a0] w fun e w' => e = .returned (.bool r) ∧ Qa9 w w' := by
 have H : (if a0 ≥ 48 then (some (decide (a0 ≤ 57))) else (some false)) = some r := h
 clear h
 by_cases c2 : a0 ≥ 48
 ·rw [if_pos c2] at H
  have c2b0 : decide (48 ≤ a0) = true := decide_eq_true c2
  clear c2
  obtain rfl := Option.some.inj H
  go_enter Try.func66, Try.ntmps66
  go_wp2
  go_ret
  exact eQ
 ·rw [if_neg c2] at H
  have c2b0 : decide (48 ≤ a0) = false := decide_eq_false c2
  clear c2
  obtain rfl := Option.some.inj H
  go_enter Try.func66, Try.ntmps66
  go_wp2
  go_ret
  exact eQ
def Qax.l0 : Nat → ByteArray → Int → Int → Option (Int × ByteArray × Int × Int × Int × Int × Int)
 | 0, _, _, _ => none
 | k + 1, x0, x1, x7 => if x7 < (x0.size : Int) then (if 0 ≤ x7 then ((Qa7.f (bt x0 x7)).bind fun t150 => (if t150 = true then (Qax.l0 k x0 x1 (wrap64 (x7 + 1))) else ((Qay.f (bt x0 x7)).bind fun t151 => (if t151 = true then (Qax.l0 k x0 x1 (wrap64 (x7 + 1))) else (if (wrap64 (x7 - x1)) > 64 then (some (0, (⟨#[]⟩ : ByteArray), 0, 0, 0, x1, 111)) else (if 0 ≤ x1 then (if x1 ≤ x7 then (if x7 ≤ (x0.size : Int) then (some (1, x0.extract (x1 : Int).toNat (x7 : Int).toNat, 0, x1, x7, 0, 0)) else (none)) else (none)) else (none))))))) else (none)) else (if (wrap64 (x7 - x1)) > 64 then (some (0, (⟨#[]⟩ : ByteArray), 0, 0, 0, x1, 111)) else (if 0 ≤ x1 then (if x1 ≤ x7 then (if x7 ≤ (x0.size : Int) then (some (1, x0.extract (x1 : Int).toNat (x7 : Int).toNat, 0, x1, x7, 0, 0)) else (none)) else (none)) else (none)))
def Qax.f (k : Nat) (a0 : ByteArray) (a1 : Int) : Option (Int × ByteArray × Int × Int × Int × Int × Int) := Qax.l0 k a0 a1 a1
theorem Qax.calls (k : Nat) (a0 : ByteArray) (a1 : Int) (r1 : Int) (r2 : ByteArray) (r3 : Int) (r4 : Int) (r5 : Int) (r6 : Int) (r7 : Int) (w : World) (h : Qax.f k a0 a1 = some (r1, r2, r3, r4, r5, r6, r7)) :
  Calls Try.prog 65 #[.string a0, .int .i64 a1] w fun e w' => e = .returned (.tuple #[.agg #[.int .i64 r1, .string r2, .int .u64 r3, .int .i64 r4, .int .i64 r5], .int .i64 r6, .int .i64 r7]) ∧ Below w.heap.size w w' := by
 have hu47 := Try.underlying47
 have HB := J0.m (Below.refl w.heap.size w)
 have H : (Qax.l0 k a0 a1 a1) = some (r1, r2, r3, r4, r5, r6, r7) := h
 clear h
 have H' := J0.m H
 clear H
 go_enter Try.func65, Try.ntmps65
 go_wp2_with (first | ((with_reducible refine Qbv (N := 4) rfl ?_); refine Qbn ?hg (N := 4) ?hd (cs := zT0) (t := 47) ?hr ?_; (case hd => rfl); (case hg => rfl); (case hr => first | (go_simp; done) | (go_simp; rfl)); intro gb149 hg w3 hbox hb; have n0_ := J0.m (Qap bR hb); have n1_ := J0.m (hbox); have n2_ := J0.m ((by rw [hg]; exact (Qa8 bR) : w.heap.size ≤ gb149)); have n3_ := n2_; clear HB; have HB := n0_; have BK149 := n1_; have GW149 := n2_; have GE149 := n3_; clear n0_ n1_ n2_ n3_; clear hb hbox hg))
 go_loopg [7] k (fun kq v7 w' => ∃ (x7_1 : Int), v7 = .int .i64 x7_1 ∧ J0 (Qax.l0 kq a0 a1 x7_1 = some (r1, r2, r3, r4, r5, r6, r7)) ∧ J0 (kq ≤ k) ∧ J0 (w'.heap[gb149]? = some (.cells #[.int .i64 0, .string ⟨#[]⟩, .int .u64 0, .int .i64 0, .int .i64 0] 47 (0, 0))) ∧ J0 (Below w.heap.size w w'))
 case atStart => exact ⟨(a1), (by first | rfl | (simp; done) | (simp [*]; done)), H', ⟨Nat.le_refl _⟩, ⟨by (with_reducible repeat (first | apply Qae | apply Qah | apply Qag)); exact BK149.o⟩, ⟨by repeat (first | (with_reducible first | exact HB.o | apply Qab | apply Qac | apply Qad | refine Qal ?_ GE149.o) | exact HB.o)⟩⟩
 case round =>
  clear H'
  try clear p2
  obtain ⟨x7_1, rfl, HA, HK1, BK149, HB⟩ := hrel
  cases gk with
  | zero => exact absurd HA.o (by simp [Qax.l0])
  | succ k1 =>
   have H := HA.o
   clear HA
   simp only [Qax.l0] at H
   by_cases c4 : x7_1 < (a0.size : Int)
   ·rw [if_pos c4] at H
    have c4b0 : decide (x7_1 < (a0.size : Int)) = true := decide_eq_true c4
    clear c4
    by_cases c5 : 0 ≤ x7_1
    ·rw [if_pos c5] at H
     have c5b0 : decide (0 ≤ x7_1) = true := decide_eq_true c5
     clear c5
     replace H := Option.bind_eq_some_iff.mp H
     obtain ⟨t150, A70, H⟩ := H
     replace H : (if t150 = true then (Qax.l0 k1 a0 a1 (wrap64 (x7_1 + 1))) else ((Qay.f (bt a0 x7_1)).bind fun t151 => (if t151 = true then (Qax.l0 k1 a0 a1 (wrap64 (x7_1 + 1))) else (if (wrap64 (x7_1 - a1)) > 64 then (some (0, (⟨#[]⟩ : ByteArray), 0, 0, 0, a1, 111)) else (if 0 ≤ a1 then (if a1 ≤ x7_1 then (if x7_1 ≤ (a0.size : Int) then (some (1, a0.extract (a1 : Int).toNat (x7_1 : Int).toNat, 0, a1, x7_1, 0, 0)) else (none)) else (none)) else (none)))))) = some (r1, r2, r3, r4, r5, r6, r7) := H
     have A7 := J0.m A70
     clear A70
     by_cases c8 : t150 = true
     ·subst c8
      have H1 : (Qax.l0 k1 a0 a1 (wrap64 (x7_1 + 1))) = some (r1, r2, r3, r4, r5, r6, r7) := by rw [if_pos rfl] at H; exact H
      clear H
      have H := H1
      clear H1
      have H' := J0.m H
      clear H
      have p6 : 0 ≤ (x7_1 : Int) := dQ
      have q6 : x7_1 < (a0.size : Int) := dQ
      have hx6 := Qbx a0 x7_1
      replace p6 := eq_true p6
      replace q6 := eq_true q6
      go_wp2_with (first | (go_at_call 64; (with_reducible refine (Qa7.calls (bt a0 x7_1) true _ A7.o).mono ?_); rintro e w' ⟨rfl, ⟨nd, rfl⟩⟩))
      go_roundg k1
      case measure => have := HK1.o; omega
      case rel => exact ⟨(wrap64 (x7_1 + 1)), (by first | rfl | (simp; done) | (simp [*]; done)), H', ⟨by have := HK1.o; omega⟩, ⟨by (with_reducible repeat (first | apply Qae | apply Qah | apply Qag)); exact BK149.o⟩, ⟨by repeat (first | (with_reducible first | exact HB.o | apply Qab | apply Qac | apply Qad | refine Qal ?_ GE149.o) | exact HB.o)⟩⟩
     ·replace c8 := Bool.eq_false_iff.mpr c8
      subst c8
      have H1 : ((Qay.f (bt a0 x7_1)).bind fun t151 => (if t151 = true then (Qax.l0 k1 a0 a1 (wrap64 (x7_1 + 1))) else (if (wrap64 (x7_1 - a1)) > 64 then (some (0, (⟨#[]⟩ : ByteArray), 0, 0, 0, a1, 111)) else (if 0 ≤ a1 then (if a1 ≤ x7_1 then (if x7_1 ≤ (a0.size : Int) then (some (1, a0.extract (a1 : Int).toNat (x7_1 : Int).toNat, 0, a1, x7_1, 0, 0)) else (none)) else (none)) else (none))))) = some (r1, r2, r3, r4, r5, r6, r7) := by rw [if_neg (show ¬ (false = true) by decide)] at H; exact H
      clear H
      have H := H1
      clear H1
      replace H := Option.bind_eq_some_iff.mp H
      obtain ⟨t151, A100, H⟩ := H
      replace H : (if t151 = true then (Qax.l0 k1 a0 a1 (wrap64 (x7_1 + 1))) else (if (wrap64 (x7_1 - a1)) > 64 then (some (0, (⟨#[]⟩ : ByteArray), 0, 0, 0, a1, 111)) else (if 0 ≤ a1 then (if a1 ≤ x7_1 then (if x7_1 ≤ (a0.size : Int) then (some (1, a0.extract (a1 : Int).toNat (x7_1 : Int).toNat, 0, a1, x7_1, 0, 0)) else (none)) else (none)) else (none)))) = some (r1, r2, r3, r4, r5, r6, r7) := H
      have A10 := J0.m A100
      clear A100
      by_cases c11 : t151 = true
      ·subst c11
       have H1 : (Qax.l0 k1 a0 a1 (wrap64 (x7_1 + 1))) = some (r1, r2, r3, r4, r5, r6, r7) := by rw [if_pos rfl] at H; exact H
       clear H
       have H := H1
       clear H1
       have H' := J0.m H
       clear H
       have p6 : 0 ≤ (x7_1 : Int) := dQ
       have q6 : x7_1 < (a0.size : Int) := dQ
       have hx6 := Qbx a0 x7_1
       replace p6 := eq_true p6
       replace q6 := eq_true q6
       go_wp2_with (first | (go_at_call 64; (with_reducible refine (Qa7.calls (bt a0 x7_1) false _ A7.o).mono ?_); rintro e w' ⟨rfl, ⟨nd, rfl⟩⟩; have p9 : 0 ≤ (x7_1 : Int) := dQ; have q9 : x7_1 < (a0.size : Int) := dQ; have hx9 := Qbx a0 x7_1; replace p9 := eq_true p9; replace q9 := eq_true q9) | (go_at_call 66; (with_reducible refine (Qay.calls (bt a0 x7_1) true _ A10.o).mono ?_); rintro e w' ⟨rfl, ⟨nd, rfl⟩⟩))
       go_roundg k1
       case measure => have := HK1.o; omega
       case rel => exact ⟨(wrap64 (x7_1 + 1)), (by first | rfl | (simp; done) | (simp [*]; done)), H', ⟨by have := HK1.o; omega⟩, ⟨by (with_reducible repeat (first | apply Qae | apply Qah | apply Qag)); exact BK149.o⟩, ⟨by repeat (first | (with_reducible first | exact HB.o | apply Qab | apply Qac | apply Qad | refine Qal ?_ GE149.o) | exact HB.o)⟩⟩
      ·replace c11 := Bool.eq_false_iff.mpr c11
       subst c11
       have H1 : (if (wrap64 (x7_1 - a1)) > 64 then (some (0, (⟨#[]⟩ : ByteArray), 0, 0, 0, a1, 111)) else (if 0 ≤ a1 then (if a1 ≤ x7_1 then (if x7_1 ≤ (a0.size : Int) then (some (1, a0.extract (a1 : Int).toNat (x7_1 : Int).toNat, 0, a1, x7_1, 0, 0)) else (none)) else (none)) else (none))) = some (r1, r2, r3, r4, r5, r6, r7) := by rw [if_neg (show ¬ (false = true) by decide)] at H; exact H
       clear H
       have H := H1
       clear H1
       by_cases c12 : (wrap64 (x7_1 - a1)) > 64
       ·rw [if_pos c12] at H
        have c12b0 : decide (64 < (wrap64 (x7_1 - a1))) = true := decide_eq_true c12
        clear c12
        simp only [Option.some.injEq, Prod.mk.injEq] at H
        obtain ⟨rfl, rfl, rfl, rfl, rfl, rfl, rfl⟩ := H
        have p6 : 0 ≤ (x7_1 : Int) := dQ
        have q6 : x7_1 < (a0.size : Int) := dQ
        have hx6 := Qbx a0 x7_1
        replace p6 := eq_true p6
        replace q6 := eq_true q6
        go_wp2_with (first | (go_at_call 64; (with_reducible refine (Qa7.calls (bt a0 x7_1) false _ A7.o).mono ?_); rintro e w' ⟨rfl, ⟨nd, rfl⟩⟩; (try (rw [Qbz wr]; generalize hq_ : World.drewN wr _ = wr; have n0_ : J0 (wr.heap[gb149]? = some (.cells #[.int .i64 0, .string ⟨#[]⟩, .int .u64 0, .int .i64 0, .int .i64 0] 47 (0, 0))) := ⟨by rw [← hq_]; exact (by (with_reducible repeat (first | apply Qae | apply Qah | apply Qag)); exact BK149.o)⟩; have n1_ : J0 (Below w.heap.size w wr) := ⟨by rw [← hq_]; exact (by repeat (first | (with_reducible first | exact HB.o | apply Qab | apply Qac | apply Qad | refine Qal ?_ GE149.o) | exact HB.o))⟩; clear BK149 HB hq_; have BK149 := n0_; have HB := n1_; clear n0_ n1_)); have p9 : 0 ≤ (x7_1 : Int) := dQ; have q9 : x7_1 < (a0.size : Int) := dQ; have hx9 := Qbx a0 x7_1; replace p9 := eq_true p9; replace q9 := eq_true q9) | (go_at_call 66; (with_reducible refine (Qay.calls (bt a0 x7_1) false _ A10.o).mono ?_); rintro e w' ⟨rfl, ⟨nd, rfl⟩⟩; (try (rw [Qbz wr]; generalize hq_ : World.drewN wr _ = wr; have n0_ : J0 (wr.heap[gb149]? = some (.cells #[.int .i64 0, .string ⟨#[]⟩, .int .u64 0, .int .i64 0, .int .i64 0] 47 (0, 0))) := ⟨by rw [← hq_]; exact (by (with_reducible repeat (first | apply Qae | apply Qah | apply Qag)); exact BK149.o)⟩; have n1_ : J0 (Below w.heap.size w wr) := ⟨by rw [← hq_]; exact (by repeat (first | (with_reducible first | exact HB.o | apply Qab | apply Qac | apply Qad | refine Qal ?_ GE149.o) | exact HB.o))⟩; clear BK149 HB hq_; have BK149 := n0_; have HB := n1_; clear n0_ n1_)); obtain ⟨hcz13_0, hcz13_1, hcz13_2, hcz13_3, hcz13_4⟩ := (bx5 BK149.o); have hfz13_0 := Qaa BK149.o 0; have hfz13_1 := Qaa BK149.o 1; have hfz13_2 := Qaa BK149.o 2; have hfz13_3 := Qaa BK149.o 3; have hfz13_4 := Qaa BK149.o 4))
        refine bodyPost_ret (Qbf rfl _ _ gb149 47 #[.int .i64 0, .string ⟨#[]⟩, .int .u64 0, .int .i64 0, .int .i64 0] (0, 0) _ rfl (by (with_reducible repeat (first | apply Qae | apply Qah | apply Qag)); apply sv5; (with_reducible repeat (first | apply Qae | apply Qah | apply Qag)); exact BK149.o) Try.underlying47 rfl (by kernel_rfl)) rfl ?_
        exact ⟨by first | rfl | (simp [Qav, Qau] <;> rfl) | (simp [*, Qav, Qau] <;> rfl), by repeat (first | (with_reducible first | exact HB.o | apply Qab | apply Qac | apply Qad | refine Qal ?_ GE149.o) | exact HB.o)⟩
       ·rw [if_neg c12] at H
        have c12b0 : decide (64 < (wrap64 (x7_1 - a1))) = false := decide_eq_false c12
        clear c12
        by_cases c14 : 0 ≤ a1
        ·rw [if_pos c14] at H
         have c14b0 := eq_true c14
         have c14b1 : decide (0 ≤ a1) = true := decide_eq_true c14
         clear c14
         by_cases c15 : a1 ≤ x7_1
         ·rw [if_pos c15] at H
          have c15b0 := eq_true c15
          have c15b1 : decide (a1 ≤ x7_1) = true := decide_eq_true c15
          clear c15
          by_cases c16 : x7_1 ≤ (a0.size : Int)
          ·rw [if_pos c16] at H
           have c16b0 := eq_true c16
           have c16b1 : decide (x7_1 ≤ (a0.size : Int)) = true := decide_eq_true c16
           clear c16
           simp only [Option.some.injEq, Prod.mk.injEq] at H
           obtain ⟨rfl, rfl, rfl, rfl, rfl, rfl, rfl⟩ := H
           have p6 : 0 ≤ (x7_1 : Int) := dQ
           have q6 : x7_1 < (a0.size : Int) := dQ
           have hx6 := Qbx a0 x7_1
           replace p6 := eq_true p6
           replace q6 := eq_true q6
           go_wp2_with (first | (go_at_call 64; (with_reducible refine (Qa7.calls (bt a0 x7_1) false _ A7.o).mono ?_); rintro e w' ⟨rfl, ⟨nd, rfl⟩⟩; (try (rw [Qbz wr]; generalize hq_ : World.drewN wr _ = wr; have n0_ : J0 (wr.heap[gb149]? = some (.cells #[.int .i64 0, .string ⟨#[]⟩, .int .u64 0, .int .i64 0, .int .i64 0] 47 (0, 0))) := ⟨by rw [← hq_]; exact (by (with_reducible repeat (first | apply Qae | apply Qah | apply Qag)); exact BK149.o)⟩; have n1_ : J0 (Below w.heap.size w wr) := ⟨by rw [← hq_]; exact (by repeat (first | (with_reducible first | exact HB.o | apply Qab | apply Qac | apply Qad | refine Qal ?_ GE149.o) | exact HB.o))⟩; clear BK149 HB hq_; have BK149 := n0_; have HB := n1_; clear n0_ n1_)); have p9 : 0 ≤ (x7_1 : Int) := dQ; have q9 : x7_1 < (a0.size : Int) := dQ; have hx9 := Qbx a0 x7_1; replace p9 := eq_true p9; replace q9 := eq_true q9) | (go_at_call 66; (with_reducible refine (Qay.calls (bt a0 x7_1) false _ A10.o).mono ?_); rintro e w' ⟨rfl, ⟨nd, rfl⟩⟩; (try (rw [Qbz wr]; generalize hq_ : World.drewN wr _ = wr; have n0_ : J0 (wr.heap[gb149]? = some (.cells #[.int .i64 0, .string ⟨#[]⟩, .int .u64 0, .int .i64 0, .int .i64 0] 47 (0, 0))) := ⟨by rw [← hq_]; exact (by (with_reducible repeat (first | apply Qae | apply Qah | apply Qag)); exact BK149.o)⟩; have n1_ : J0 (Below w.heap.size w wr) := ⟨by rw [← hq_]; exact (by repeat (first | (with_reducible first | exact HB.o | apply Qab | apply Qac | apply Qad | refine Qal ?_ GE149.o) | exact HB.o))⟩; clear BK149 HB hq_; have BK149 := n0_; have HB := n1_; clear n0_ n1_)); obtain ⟨hcz17_0, hcz17_1, hcz17_2, hcz17_3, hcz17_4⟩ := (bx5 BK149.o); have hfz17_0 := Qaa BK149.o 0; have hfz17_1 := Qaa BK149.o 1; have hfz17_2 := Qaa BK149.o 2; have hfz17_3 := Qaa BK149.o 3; have hfz17_4 := Qaa BK149.o 4))
           refine bodyPost_ret (Qbf rfl _ _ gb149 47 #[.int .i64 1, .string (a0.extract (a1 : Int).toNat (x7_1 : Int).toNat), .int .u64 0, .int .i64 a1, .int .i64 x7_1] (0, 0) _ rfl (by (with_reducible repeat (first | apply Qae | apply Qah | apply Qag)); apply sv5; (with_reducible repeat (first | apply Qae | apply Qah | apply Qag)); exact BK149.o) Try.underlying47 rfl (by kernel_rfl)) rfl ?_
           exact ⟨by first | rfl | (simp [Qav, Qau] <;> rfl) | (simp [*, Qav, Qau] <;> rfl), by repeat (first | (with_reducible first | exact HB.o | apply Qab | apply Qac | apply Qad | refine Qal ?_ GE149.o) | exact HB.o)⟩
          ·rw [if_neg c16] at H
           exact absurd H (by simp)
         ·rw [if_neg c15] at H
          exact absurd H (by simp)
        ·rw [if_neg c14] at H
         exact absurd H (by simp)
    ·rw [if_neg c5] at H
     exact absurd H (by simp)
   ·rw [if_neg c4] at H
    have c4b0 : decide (x7_1 < (a0.size : Int)) = false := decide_eq_false c4
    clear c4
    by_cases c18 : (wrap64 (x7_1 - a1)) > 64
    ·rw [if_pos c18] at H
     have c18b0 : decide (64 < (wrap64 (x7_1 - a1))) = true := decide_eq_true c18
     clear c18
     simp only [Option.some.injEq, Prod.mk.injEq] at H
     obtain ⟨rfl, rfl, rfl, rfl, rfl, rfl, rfl⟩ := H
     have hcz19_0 : wr.cell? ⟨gb149, 0, none⟩ = some (.int .i64 0) := (Qaf BK149.o 0).trans rfl
     have hcz19_1 : wr.cell? ⟨gb149, 1, none⟩ = some (.string ⟨#[]⟩) := (Qaf BK149.o 1).trans rfl
     have hcz19_2 : wr.cell? ⟨gb149, 2, none⟩ = some (.int .u64 0) := (Qaf BK149.o 2).trans rfl
     have hcz19_3 : wr.cell? ⟨gb149, 3, none⟩ = some (.int .i64 0) := (Qaf BK149.o 3).trans rfl
     have hcz19_4 : wr.cell? ⟨gb149, 4, none⟩ = some (.int .i64 0) := (Qaf BK149.o 4).trans rfl
     have hfz19_0 := Qaa BK149.o 0
     have hfz19_1 := Qaa BK149.o 1
     have hfz19_2 := Qaa BK149.o 2
     have hfz19_3 := Qaa BK149.o 3
     have hfz19_4 := Qaa BK149.o 4
     go_wp2
     refine bodyPost_ret (Qbf rfl _ _ gb149 47 #[.int .i64 0, .string ⟨#[]⟩, .int .u64 0, .int .i64 0, .int .i64 0] (0, 0) _ rfl (by (with_reducible repeat (first | apply Qae | apply Qah | apply Qag)); apply sv5; (with_reducible repeat (first | apply Qae | apply Qah | apply Qag)); exact BK149.o) Try.underlying47 rfl (by kernel_rfl)) rfl ?_
     exact ⟨by first | rfl | (simp [Qav, Qau] <;> rfl) | (simp [*, Qav, Qau] <;> rfl), by repeat (first | (with_reducible first | exact HB.o | apply Qab | apply Qac | apply Qad | refine Qal ?_ GE149.o) | exact HB.o)⟩
    ·rw [if_neg c18] at H
     have c18b0 : decide (64 < (wrap64 (x7_1 - a1))) = false := decide_eq_false c18
     clear c18
     by_cases c20 : 0 ≤ a1
     ·rw [if_pos c20] at H
      have c20b0 := eq_true c20
      have c20b1 : decide (0 ≤ a1) = true := decide_eq_true c20
      clear c20
      by_cases c21 : a1 ≤ x7_1
      ·rw [if_pos c21] at H
       have c21b0 := eq_true c21
       have c21b1 : decide (a1 ≤ x7_1) = true := decide_eq_true c21
       clear c21
       by_cases c22 : x7_1 ≤ (a0.size : Int)
       ·rw [if_pos c22] at H
        have c22b0 := eq_true c22
        have c22b1 : decide (x7_1 ≤ (a0.size : Int)) = true := decide_eq_true c22
        clear c22
        simp only [Option.some.injEq, Prod.mk.injEq] at H
        obtain ⟨rfl, rfl, rfl, rfl, rfl, rfl, rfl⟩ := H
        have hcz23_0 : wr.cell? ⟨gb149, 0, none⟩ = some (.int .i64 0) := (Qaf BK149.o 0).trans rfl
        have hcz23_1 : wr.cell? ⟨gb149, 1, none⟩ = some (.string ⟨#[]⟩) := (Qaf BK149.o 1).trans rfl
        have hcz23_2 : wr.cell? ⟨gb149, 2, none⟩ = some (.int .u64 0) := (Qaf BK149.o 2).trans rfl
        have hcz23_3 : wr.cell? ⟨gb149, 3, none⟩ = some (.int .i64 0) := (Qaf BK149.o 3).trans rfl
        have hcz23_4 : wr.cell? ⟨gb149, 4, none⟩ = some (.int .i64 0) := (Qaf BK149.o 4).trans rfl
        have hfz23_0 := Qaa BK149.o 0
        have hfz23_1 := Qaa BK149.o 1
        have hfz23_2 := Qaa BK149.o 2
        have hfz23_3 := Qaa BK149.o 3
        have hfz23_4 := Qaa BK149.o 4
        go_wp2
        refine bodyPost_ret (Qbf rfl _ _ gb149 47 #[.int .i64 1, .string (a0.extract (a1 : Int).toNat (x7_1 : Int).toNat), .int .u64 0, .int .i64 a1, .int .i64 x7_1] (0, 0) _ rfl (by (with_reducible repeat (first | apply Qae | apply Qah | apply Qag)); apply sv5; (with_reducible repeat (first | apply Qae | apply Qah | apply Qag)); exact BK149.o) Try.underlying47 rfl (by kernel_rfl)) rfl ?_
        exact ⟨by first | rfl | (simp [Qav, Qau] <;> rfl) | (simp [*, Qav, Qau] <;> rfl), by repeat (first | (with_reducible first | exact HB.o | apply Qab | apply Qac | apply Qad | refine Qal ?_ GE149.o) | exact HB.o)⟩
       ·rw [if_neg c22] at H
        exact absurd H (by simp)
      ·rw [if_neg c21] at H
       exact absurd H (by simp)
     ·rw [if_neg c20] at H
      exact absurd H (by simp)
mutual
def Qaj.l0 : Nat → ByteArray → Int → Int → Int → Bool → Option (Int × ByteArray × Int × Int × Int × Int × Int)
 | 0, _, _, _, _, _ => none
 | k + 1, x0, x1, x7, x8, x9 => if x7 < (x0.size : Int) then (if 0 ≤ x7 then ((Qay.f (bt x0 x7)).bind fun t153 => (Qaj.j1 k x0 x1 x7 x8 x9 t153)) else (none)) else (Qaj.j1 k x0 x1 x7 x8 x9 false)
def Qaj.j1 : Nat → ByteArray → Int → Int → Int → Bool → Bool → Option (Int × ByteArray × Int × Int × Int × Int × Int)
 | 0, _, _, _, _, _, _ => none
 | k + 1, x0, x1, x7, x8, x9, x21 => if x21 = true then (if 0 ≤ x7 then (if x7 < (x0.size : Int) then (if x8 > 1844674407370955161 then (Qaj.l0 k x0 x1 (wrap64 (x7 + 1)) (IntKind.u64.wrap ((IntKind.u64.wrap (x8 * 10)) + (((bt x0 x7) - 48) % 256))) true) else (if (IntKind.u64.wrap (x8 * 10)) > (18446744073709551615 - (((bt x0 x7) - 48) % 256)) then (Qaj.l0 k x0 x1 (wrap64 (x7 + 1)) (IntKind.u64.wrap ((IntKind.u64.wrap (x8 * 10)) + (((bt x0 x7) - 48) % 256))) true) else (Qaj.l0 k x0 x1 (wrap64 (x7 + 1)) (IntKind.u64.wrap ((IntKind.u64.wrap (x8 * 10)) + (((bt x0 x7) - 48) % 256))) x9))) else (none)) else (none)) else (if x9 = true then (some (0, (⟨#[]⟩ : ByteArray), 0, 0, 0, x1, 111)) else (some (2, (⟨#[]⟩ : ByteArray), x8, x1, x7, 0, 0)))
end
def Qaj.f (k : Nat) (a0 : ByteArray) (a1 : Int) : Option (Int × ByteArray × Int × Int × Int × Int × Int) := Qaj.l0 k a0 a1 a1 0 false
theorem Qaj.calls (k : Nat) (a0 : ByteArray) (a1 : Int) (r1 : Int) (r2 : ByteArray) (r3 : Int) (r4 : Int) (r5 : Int) (r6 : Int) (r7 : Int) (w : World) (h : Qaj.f k a0 a1 = some (r1, r2, r3, r4, r5, r6, r7)) :
  Calls Try.prog 67 #[.string a0, .int .i64 a1] w fun e w' => e = .returned (.tuple #[.agg #[.int .i64 r1, .string r2, .int .u64 r3, .int .i64 r4, .int .i64 r5], .int .i64 r6, .int .i64 r7]) ∧ Below w.heap.size w w' := by
 have hu47 := Try.underlying47
 have HB := J0.m (Below.refl w.heap.size w)
 have H : (Qaj.l0 k a0 a1 a1 0 false) = some (r1, r2, r3, r4, r5, r6, r7) := h
 clear h
 have H' := J0.m H
 clear H
 go_enter Try.func67, Try.ntmps67
 go_wp2_with (first | ((with_reducible refine Qbv (N := 4) rfl ?_); refine Qbn ?hg (N := 4) ?hd (cs := zT0) (t := 47) ?hr ?_; (case hd => rfl); (case hg => rfl); (case hr => first | (go_simp; done) | (go_simp; rfl)); intro gb152 hg w3 hbox hb; have n0_ := J0.m (Qap bR hb); have n1_ := J0.m (hbox); have n2_ := J0.m ((by rw [hg]; exact (Qa8 bR) : w.heap.size ≤ gb152)); have n3_ := n2_; clear HB; have HB := n0_; have BK152 := n1_; have GW152 := n2_; have GE152 := n3_; clear n0_ n1_ n2_ n3_; clear hb hbox hg))
 go_loopg [7, 8, 9] k (fun kq v7 v8 v9 w' => ∃ (x7_1 : Int) (x8_1 : Int) (x9_1 : Bool), v7 = .int .i64 x7_1 ∧ v8 = .int .u64 x8_1 ∧ v9 = .bool x9_1 ∧ J0 (Qaj.l0 kq a0 a1 x7_1 x8_1 x9_1 = some (r1, r2, r3, r4, r5, r6, r7)) ∧ J0 (kq ≤ k) ∧ J0 (w'.heap[gb152]? = some (.cells #[.int .i64 0, .string ⟨#[]⟩, .int .u64 0, .int .i64 0, .int .i64 0] 47 (0, 0))) ∧ J0 (Below w.heap.size w w'))
 case atStart => exact ⟨(a1), (0), (false), (by first | rfl | (simp; done) | (simp [*]; done)), (by first | rfl | (simp; done) | (simp [*]; done)), (by first | rfl | (simp; done) | (simp [*]; done)), H', ⟨Nat.le_refl _⟩, ⟨by (with_reducible repeat (first | apply Qae | apply Qah | apply Qag)); exact BK152.o⟩, ⟨by repeat (first | (with_reducible first | exact HB.o | apply Qab | apply Qac | apply Qad | refine Qal ?_ GE152.o) | exact HB.o)⟩⟩
 case round =>
  clear H'
  try clear p2
  obtain ⟨x7_1, x8_1, x9_1, rfl, rfl, rfl, HA, HK1, BK152, HB⟩ := hrel
  cases gk with
  | zero => exact absurd HA.o (by simp [Qaj.l0])
  | succ k1 =>
   have H := HA.o
   clear HA
   simp only [Qaj.l0] at H
   have HC4 := J0.m H
   clear H
   go_upto_region 4 with (fail)
   go_cut [21] (fun v21 wc => ∃ (kq : Nat) (x21_3 : Bool), v21 = .bool x21_3 ∧ J0 (Qaj.j1 kq a0 a1 x7_1 x8_1 x9_1 x21_3 = some (r1, r2, r3, r4, r5, r6, r7)) ∧ J0 (kq ≤ k1) ∧ J0 (wc.heap[gb152]? = some (.cells #[.int .i64 0, .string ⟨#[]⟩, .int .u64 0, .int .i64 0, .int .i64 0] 47 (0, 0))) ∧ J0 (Below w.heap.size w wc))
   case first =>
    have H := HC4.o
    clear HC4
    by_cases c5 : x7_1 < (a0.size : Int)
    ·rw [if_pos c5] at H
     have c5b0 : decide (x7_1 < (a0.size : Int)) = true := decide_eq_true c5
     clear c5
     (first | rw [c5b0] | (simp only [Qbg, Qbs]; rw [c5b0]) | skip)
     by_cases c6 : 0 ≤ x7_1
     ·rw [if_pos c6] at H
      have c6b0 : decide (0 ≤ x7_1) = true := decide_eq_true c6
      clear c6
      replace H := Option.bind_eq_some_iff.mp H
      obtain ⟨t153, A80, H⟩ := H
      replace H : (Qaj.j1 k1 a0 a1 x7_1 x8_1 x9_1 t153) = some (r1, r2, r3, r4, r5, r6, r7) := H
      have A8 := J0.m A80
      clear A80
      have H' := J0.m H
      clear H
      have p7 : 0 ≤ (x7_1 : Int) := dQ
      have q7 : x7_1 < (a0.size : Int) := dQ
      have hx7 := Qbx a0 x7_1
      replace p7 := eq_true p7
      replace q7 := eq_true q7
      go_wp2_with (first | (go_at_call 66; (with_reducible refine (Qay.calls (bt a0 x7_1) t153 _ A8.o).mono ?_); rintro e w' ⟨rfl, ⟨nd, rfl⟩⟩))
      go_meet
      case rel => exact ⟨_, (t153), (by first | rfl | (simp; done) | (simp [*]; done)), H', ⟨by have := HK1.o; first | omega | exact Nat.le_refl _⟩, ⟨by (with_reducible repeat (first | apply Qae | apply Qah | apply Qag)); exact BK152.o⟩, ⟨by repeat (first | (with_reducible first | exact HB.o | apply Qab | apply Qac | apply Qad | refine Qal ?_ GE152.o) | exact HB.o)⟩⟩
     ·rw [if_neg c6] at H
      exact absurd H (by simp)
    ·rw [if_neg c5] at H
     have c5b0 : decide (x7_1 < (a0.size : Int)) = false := decide_eq_false c5
     clear c5
     (first | rw [c5b0] | (simp only [Qbg, Qbs]; rw [c5b0]) | skip)
     have H' := J0.m H
     clear H
     go_wp2
     go_meet
     case rel => exact ⟨_, (false), (by first | rfl | (simp; done) | (simp [*]; done)), H', ⟨by have := HK1.o; first | omega | exact Nat.le_refl _⟩, ⟨by (with_reducible repeat (first | apply Qae | apply Qah | apply Qag)); exact BK152.o⟩, ⟨by repeat (first | (with_reducible first | exact HB.o | apply Qab | apply Qac | apply Qad | refine Qal ?_ GE152.o) | exact HB.o)⟩⟩
   case rest =>
    clear HC4
    try clear p2
    try clear c5
    try clear c5b0
    try clear c6
    try clear c6b0
    try clear p7
    try clear q7
    try clear hx7
    try clear p2
    try clear p7
    try clear q7
    obtain ⟨kq, x21_3, rfl, HA, HJ3, BK152, HB⟩ := hcut
    cases kq with
    | zero => exact absurd HA.o (by simp [Qaj.j1])
    | succ kj3 =>
     have H := HA.o
     clear HA
     simp only [Qaj.j1] at H
     by_cases c9 : x21_3 = true
     ·subst c9
      have H1 : (if 0 ≤ x7_1 then (if x7_1 < (a0.size : Int) then (if x8_1 > 1844674407370955161 then (Qaj.l0 kj3 a0 a1 (wrap64 (x7_1 + 1)) (IntKind.u64.wrap ((IntKind.u64.wrap (x8_1 * 10)) + (((bt a0 x7_1) - 48) % 256))) true) else (if (IntKind.u64.wrap (x8_1 * 10)) > (18446744073709551615 - (((bt a0 x7_1) - 48) % 256)) then (Qaj.l0 kj3 a0 a1 (wrap64 (x7_1 + 1)) (IntKind.u64.wrap ((IntKind.u64.wrap (x8_1 * 10)) + (((bt a0 x7_1) - 48) % 256))) true) else (Qaj.l0 kj3 a0 a1 (wrap64 (x7_1 + 1)) (IntKind.u64.wrap ((IntKind.u64.wrap (x8_1 * 10)) + (((bt a0 x7_1) - 48) % 256))) x9_1))) else (none)) else (none)) = some (r1, r2, r3, r4, r5, r6, r7) := by rw [if_pos rfl] at H; exact H
      clear H
      have H := H1
      clear H1
      by_cases c10 : 0 ≤ x7_1
      ·rw [if_pos c10] at H
       have c10b0 : decide (0 ≤ x7_1) = true := decide_eq_true c10
       clear c10
       by_cases c11 : x7_1 < (a0.size : Int)
       ·rw [if_pos c11] at H
        have c11b0 : decide (x7_1 < (a0.size : Int)) = true := decide_eq_true c11
        clear c11
        by_cases c13 : x8_1 > 1844674407370955161
        ·rw [if_pos c13] at H
         have c13b0 : decide (1844674407370955161 < x8_1) = true := decide_eq_true c13
         clear c13
         have H' := J0.m H
         clear H
         have p12 : 0 ≤ (x7_1 : Int) := dQ
         have q12 : x7_1 < (a0.size : Int) := dQ
         have hx12 := Qbx a0 x7_1
         replace p12 := eq_true p12
         replace q12 := eq_true q12
         go_wp2
         go_roundg kj3
         case measure => have := HK1.o; have := HJ3.o; omega
         case rel => exact ⟨(wrap64 (x7_1 + 1)), (IntKind.u64.wrap ((IntKind.u64.wrap (x8_1 * 10)) + (((bt a0 x7_1) - 48) % 256))), (true), (by first | rfl | (simp; done) | (simp [*]; done)), (by first | rfl | (simp; done) | (simp [*]; done)), (by first | rfl | (simp; done) | (simp [*]; done)), H', ⟨by have := HK1.o; have := HJ3.o; omega⟩, ⟨by (with_reducible repeat (first | apply Qae | apply Qah | apply Qag)); exact BK152.o⟩, ⟨by repeat (first | (with_reducible first | exact HB.o | apply Qab | apply Qac | apply Qad | refine Qal ?_ GE152.o) | exact HB.o)⟩⟩
        ·rw [if_neg c13] at H
         have c13b0 : decide (1844674407370955161 < x8_1) = false := decide_eq_false c13
         clear c13
         by_cases c14 : (IntKind.u64.wrap (x8_1 * 10)) > (18446744073709551615 - (((bt a0 x7_1) - 48) % 256))
         ·rw [if_pos c14] at H
          have c14b0 : decide ((18446744073709551615 - (((bt a0 x7_1) - 48) % 256)) < (IntKind.u64.wrap (x8_1 * 10))) = true := decide_eq_true c14
          clear c14
          have H' := J0.m H
          clear H
          have p12 : 0 ≤ (x7_1 : Int) := dQ
          have q12 : x7_1 < (a0.size : Int) := dQ
          have hx12 := Qbx a0 x7_1
          replace p12 := eq_true p12
          replace q12 := eq_true q12
          go_wp2
          go_roundg kj3
          case measure => have := HK1.o; have := HJ3.o; omega
          case rel => exact ⟨(wrap64 (x7_1 + 1)), (IntKind.u64.wrap ((IntKind.u64.wrap (x8_1 * 10)) + (((bt a0 x7_1) - 48) % 256))), (true), (by first | rfl | (simp; done) | (simp [*]; done)), (by first | rfl | (simp; done) | (simp [*]; done)), (by first | rfl | (simp; done) | (simp [*]; done)), H', ⟨by have := HK1.o; have := HJ3.o; omega⟩, ⟨by (with_reducible repeat (first | apply Qae | apply Qah | apply Qag)); exact BK152.o⟩, ⟨by repeat (first | (with_reducible first | exact HB.o | apply Qab | apply Qac | apply Qad | refine Qal ?_ GE152.o) | exact HB.o)⟩⟩
         ·rw [if_neg c14] at H
          have c14b0 : decide ((18446744073709551615 - (((bt a0 x7_1) - 48) % 256)) < (IntKind.u64.wrap (x8_1 * 10))) = false := decide_eq_false c14
          clear c14
          have H' := J0.m H
          clear H
          have p12 : 0 ≤ (x7_1 : Int) := dQ
          have q12 : x7_1 < (a0.size : Int) := dQ
          have hx12 := Qbx a0 x7_1
          replace p12 := eq_true p12
          replace q12 := eq_true q12
          go_wp2
          go_roundg kj3
          case measure => have := HK1.o; have := HJ3.o; omega
          case rel => exact ⟨(wrap64 (x7_1 + 1)), (IntKind.u64.wrap ((IntKind.u64.wrap (x8_1 * 10)) + (((bt a0 x7_1) - 48) % 256))), (x9_1), (by first | rfl | (simp; done) | (simp [*]; done)), (by first | rfl | (simp; done) | (simp [*]; done)), (by first | rfl | (simp; done) | (simp [*]; done)), H', ⟨by have := HK1.o; have := HJ3.o; omega⟩, ⟨by (with_reducible repeat (first | apply Qae | apply Qah | apply Qag)); exact BK152.o⟩, ⟨by repeat (first | (with_reducible first | exact HB.o | apply Qab | apply Qac | apply Qad | refine Qal ?_ GE152.o) | exact HB.o)⟩⟩
       ·rw [if_neg c11] at H
        exact absurd H (by simp)
      ·rw [if_neg c10] at H
       exact absurd H (by simp)
     ·replace c9 := Bool.eq_false_iff.mpr c9
      subst c9
      have H1 : (if x9_1 = true then (some (0, (⟨#[]⟩ : ByteArray), 0, 0, 0, a1, 111)) else (some (2, (⟨#[]⟩ : ByteArray), x8_1, a1, x7_1, 0, 0))) = some (r1, r2, r3, r4, r5, r6, r7) := by rw [if_neg (show ¬ (false = true) by decide)] at H; exact H
      clear H
      have H := H1
      clear H1
      by_cases c15 : x9_1 = true
      ·subst c15
       have H1 : (some (0, (⟨#[]⟩ : ByteArray), 0, 0, 0, a1, 111)) = some (r1, r2, r3, r4, r5, r6, r7) := by rw [if_pos rfl] at H; exact H
       clear H
       have H := H1
       clear H1
       simp only [Option.some.injEq, Prod.mk.injEq] at H
       obtain ⟨rfl, rfl, rfl, rfl, rfl, rfl, rfl⟩ := H
       have hcz16_0 : wc.cell? ⟨gb152, 0, none⟩ = some (.int .i64 0) := (Qaf BK152.o 0).trans rfl
       have hcz16_1 : wc.cell? ⟨gb152, 1, none⟩ = some (.string ⟨#[]⟩) := (Qaf BK152.o 1).trans rfl
       have hcz16_2 : wc.cell? ⟨gb152, 2, none⟩ = some (.int .u64 0) := (Qaf BK152.o 2).trans rfl
       have hcz16_3 : wc.cell? ⟨gb152, 3, none⟩ = some (.int .i64 0) := (Qaf BK152.o 3).trans rfl
       have hcz16_4 : wc.cell? ⟨gb152, 4, none⟩ = some (.int .i64 0) := (Qaf BK152.o 4).trans rfl
       have hfz16_0 := Qaa BK152.o 0
       have hfz16_1 := Qaa BK152.o 1
       have hfz16_2 := Qaa BK152.o 2
       have hfz16_3 := Qaa BK152.o 3
       have hfz16_4 := Qaa BK152.o 4
       go_wp2
       refine bodyPost_ret (Qbf rfl _ _ gb152 47 #[.int .i64 0, .string ⟨#[]⟩, .int .u64 0, .int .i64 0, .int .i64 0] (0, 0) _ rfl (by (with_reducible repeat (first | apply Qae | apply Qah | apply Qag)); apply sv5; (with_reducible repeat (first | apply Qae | apply Qah | apply Qag)); exact BK152.o) Try.underlying47 rfl (by kernel_rfl)) rfl ?_
       exact ⟨by first | rfl | (simp [Qav, Qau] <;> rfl) | (simp [*, Qav, Qau] <;> rfl), by repeat (first | (with_reducible first | exact HB.o | apply Qab | apply Qac | apply Qad | refine Qal ?_ GE152.o) | exact HB.o)⟩
      ·replace c15 := Bool.eq_false_iff.mpr c15
       subst c15
       have H1 : (some (2, (⟨#[]⟩ : ByteArray), x8_1, a1, x7_1, 0, 0)) = some (r1, r2, r3, r4, r5, r6, r7) := by rw [if_neg (show ¬ (false = true) by decide)] at H; exact H
       clear H
       have H := H1
       clear H1
       simp only [Option.some.injEq, Prod.mk.injEq] at H
       obtain ⟨rfl, rfl, rfl, rfl, rfl, rfl, rfl⟩ := H
       have hcz17_0 : wc.cell? ⟨gb152, 0, none⟩ = some (.int .i64 0) := (Qaf BK152.o 0).trans rfl
       have hcz17_1 : wc.cell? ⟨gb152, 1, none⟩ = some (.string ⟨#[]⟩) := (Qaf BK152.o 1).trans rfl
       have hcz17_2 : wc.cell? ⟨gb152, 2, none⟩ = some (.int .u64 0) := (Qaf BK152.o 2).trans rfl
       have hcz17_3 : wc.cell? ⟨gb152, 3, none⟩ = some (.int .i64 0) := (Qaf BK152.o 3).trans rfl
       have hcz17_4 : wc.cell? ⟨gb152, 4, none⟩ = some (.int .i64 0) := (Qaf BK152.o 4).trans rfl
       have hfz17_0 := Qaa BK152.o 0
       have hfz17_1 := Qaa BK152.o 1
       have hfz17_2 := Qaa BK152.o 2
       have hfz17_3 := Qaa BK152.o 3
       have hfz17_4 := Qaa BK152.o 4
       go_wp2
       refine bodyPost_ret (Qbf rfl _ _ gb152 47 #[.int .i64 2, .string ⟨#[]⟩, .int .u64 x8_1, .int .i64 a1, .int .i64 x7_1] (0, 0) _ rfl (by (with_reducible repeat (first | apply Qae | apply Qah | apply Qag)); apply sv5; (with_reducible repeat (first | apply Qae | apply Qah | apply Qag)); exact BK152.o) Try.underlying47 rfl (by kernel_rfl)) rfl ?_
       exact ⟨by first | rfl | (simp [Qav, Qau] <;> rfl) | (simp [*, Qav, Qau] <;> rfl), by repeat (first | (with_reducible first | exact HB.o | apply Qab | apply Qac | apply Qad | refine Qal ?_ GE152.o) | exact HB.o)⟩
def Qam.j0 : Nat → Int → Bool → Option (Int)
 | 0, _, _ => none
 | k + 1, x0, x9 => if x9 = true then (some (((x0 - 97) % 256) + 10)) else (if x0 ≥ 65 then (if x0 ≤ 70 then (some (((x0 - 65) % 256) + 10)) else (some (-1))) else (some (-1)))
def Qam.f (k : Nat) (a0 : Int) : Option (Int) := (Qay.f a0).bind fun t154 => (if t154 = true then (some ((a0 - 48) % 256)) else (if a0 ≥ 97 then (Qam.j0 k a0 (decide (a0 ≤ 102))) else (Qam.j0 k a0 false)))
theorem Qam.calls (k : Nat) (a0 : Int) (r : Int) (w : World) (h : Qam.f k a0 = some r) :
  Calls Try.prog 92 #[.int .u8 a0] w fun e w' => e = .returned (.int .i64 r) ∧ Qa9 w w' := by
 have H : ((Qay.f a0).bind fun t154 => (if t154 = true then (some ((a0 - 48) % 256)) else (if a0 ≥ 97 then (Qam.j0 k a0 (decide (a0 ≤ 102))) else (Qam.j0 k a0 false)))) = some r := h
 clear h
 replace H := Option.bind_eq_some_iff.mp H
 obtain ⟨t154, A20, H⟩ := H
 replace H : (if t154 = true then (some ((a0 - 48) % 256)) else (if a0 ≥ 97 then (Qam.j0 k a0 (decide (a0 ≤ 102))) else (Qam.j0 k a0 false))) = some r := H
 have A2 := J0.m A20
 clear A20
 by_cases c3 : t154 = true
 ·subst c3
  have H1 : (some ((a0 - 48) % 256)) = some r := by rw [if_pos rfl] at H; exact H
  clear H
  have H := H1
  clear H1
  obtain rfl := Option.some.inj H
  go_enter Try.func92, Try.ntmps92
  go_wp2_with (first | ((with_reducible refine Qas (f := 66) rfl ?_); refine Qbm (some 5) rfl rfl Try.func66 (by kernel_rfl) rfl #[.int .u8 a0] rfl mQ ?_; (with_reducible refine (Qay.calls a0 true _ A2.o).mono ?_); rintro e w' ⟨rfl, ⟨nd, rfl⟩⟩; refine ⟨_, rfl, ?_⟩))
  go_ret
  exact eQ
 ·replace c3 := Bool.eq_false_iff.mpr c3
  subst c3
  have H1 : (if a0 ≥ 97 then (Qam.j0 k a0 (decide (a0 ≤ 102))) else (Qam.j0 k a0 false)) = some r := by rw [if_neg (show ¬ (false = true) by decide)] at H; exact H
  clear H
  have H := H1
  clear H1
  have HC4 := J0.m H
  clear H
  go_enter Try.func92, Try.ntmps92
  go_upto_region 3 with (first | ((with_reducible refine Qas (f := 66) rfl ?_); refine Qbm (some 5) rfl rfl Try.func66 (by kernel_rfl) rfl #[.int .u8 a0] rfl mQ ?_; (with_reducible refine (Qay.calls a0 false _ A2.o).mono ?_); rintro e w' ⟨rfl, ⟨nd, rfl⟩⟩; refine ⟨_, rfl, ?_⟩))
  (try simp only [Act.put, List.setIfInBounds_toArray, List.set_cons_zero, List.set_cons_succ])
  go_cut [9] (fun v9 wc => ∃ (kq : Nat) (x9_3 : Bool), v9 = .bool x9_3 ∧ J0 (Qam.j0 kq a0 x9_3 = some r) ∧ J0 (kq ≤ k) ∧ Qa9 w wc)
  case first =>
   have H := HC4.o
   clear HC4
   by_cases c5 : a0 ≥ 97
   ·rw [if_pos c5] at H
    have c5b0 : decide (97 ≤ a0) = true := decide_eq_true c5
    clear c5
    (first | rw [c5b0] | (simp only [Qbg, Qbs]; rw [c5b0]) | skip)
    have H' := J0.m H
    clear H
    go_wp2
    go_meet
    case rel => exact ⟨_, (decide (a0 ≤ 102)), (by first | rfl | (simp; done) | (simp [*]; done)), H', ⟨by first | omega | exact Nat.le_refl _⟩, dR⟩
   ·rw [if_neg c5] at H
    have c5b0 : decide (97 ≤ a0) = false := decide_eq_false c5
    clear c5
    (first | rw [c5b0] | (simp only [Qbg, Qbs]; rw [c5b0]) | skip)
    have H' := J0.m H
    clear H
    go_wp2
    go_meet
    case rel => exact ⟨_, (false), (by first | rfl | (simp; done) | (simp [*]; done)), H', ⟨by first | omega | exact Nat.le_refl _⟩, dR⟩
  case rest =>
   clear HC4
   try clear p2
   try clear c3
   try clear c5
   try clear c5b0
   obtain ⟨kq, x9_3, rfl, HA, HJ3, ⟨mc3, rfl⟩⟩ := hcut
   cases kq with
   | zero => exact absurd HA.o (by simp [Qam.j0])
   | succ kj3 =>
    have H := HA.o
    clear HA
    simp only [Qam.j0] at H
    by_cases c6 : x9_3 = true
    ·subst c6
     have H1 : (some (((a0 - 97) % 256) + 10)) = some r := by rw [if_pos rfl] at H; exact H
     clear H
     have H := H1
     clear H1
     obtain rfl := Option.some.inj H
     go_wp2
     go_ret
     exact eQ
    ·replace c6 := Bool.eq_false_iff.mpr c6
     subst c6
     have H1 : (if a0 ≥ 65 then (if a0 ≤ 70 then (some (((a0 - 65) % 256) + 10)) else (some (-1))) else (some (-1))) = some r := by rw [if_neg (show ¬ (false = true) by decide)] at H; exact H
     clear H
     have H := H1
     clear H1
     by_cases c7 : a0 ≥ 65
     ·rw [if_pos c7] at H
      have c7b0 : decide (65 ≤ a0) = true := decide_eq_true c7
      clear c7
      by_cases c8 : a0 ≤ 70
      ·rw [if_pos c8] at H
       have c8b0 : decide (a0 ≤ 70) = true := decide_eq_true c8
       clear c8
       obtain rfl := Option.some.inj H
       go_wp2
       go_ret
       exact eQ
      ·rw [if_neg c8] at H
       have c8b0 : decide (a0 ≤ 70) = false := decide_eq_false c8
       clear c8
       obtain rfl := Option.some.inj H
       go_wp2
       go_ret
       exact eQ
     ·rw [if_neg c7] at H
      have c7b0 : decide (65 ≤ a0) = false := decide_eq_false c7
      clear c7
      obtain rfl := Option.some.inj H
      go_wp2
      go_ret
      exact eQ
end Go.Proofs.Ytbdcndkafaajpaa.X
end
