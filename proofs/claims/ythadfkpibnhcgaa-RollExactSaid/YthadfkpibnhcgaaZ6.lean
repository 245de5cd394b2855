/- One call on no book at all, program's and reference's: the same answers. No conditions. -/
import Derived.Test.YthadfkpibnhcgaaZ5
set_option linter.unusedVariables false
set_option linter.unusedSimpArgs false
namespace Go.Proofs.Ythadfkpibnhcgaa.B
open Go.RowKit Go.Proofs.Ythadfkpibnhcgaa.X Go.Proofs.YthadfkpibnhcgaaW.PrintWords Go.Proofs.YthadfkpibnhcgaaW.PrintLast Go.Proofs.YthadfkpibnhcgaaW.PrintMore

structure Hn (w0 : World) (b : Nat) (x : S27) (w' : World) : Prop where
  op : OpAt w' b x
  be : Below w0.heap.size w0 w'
theorem Hn.drew {w0 : World} {b : Nat} {x : S27} {w' : World} (h : Hn w0 b x w') : Hn w0 b x w'.drew := ⟨h.op.drew, below_drew1 h.be⟩
theorem Hn.below {w0 : World} {b : Nat} {x : S27} {w' w2 : World} (h : Hn w0 b x w') (k : Below w'.heap.size w' w2) : Hn w0 b x w2 := ⟨h.op.below k, below_step h.be k⟩
set_option maxHeartbeats 4000000 in
set_option maxRecDepth 100000 in
theorem right_nil (w : World) (x : S27) :
    Calls Try.prog 17 #[.pointer none, .pointer none, .agg #[.int .i64 x.f0, .int .i64 x.f1, .int .i64 x.f2, .string x.f3, .int .i64 x.f4]] w fun e w' => e = .returned (.bool true) ∧ Below w.heap.size w w' := by
  have hu44 := Try.underlying44
  have HB0 := Aside0.mk (below_alloc (Below.refl w.heap.size w) (.cells #[.int .i64 x.f0, .int .i64 x.f1, .int .i64 x.f2, .string x.f3, .int .i64 x.f4] 27))
  have HOPL : Aside0 (OpAt (w.alloc (.cells #[.int .i64 x.f0, .int .i64 x.f1, .int .i64 x.f2, .string x.f3, .int .i64 x.f4] 27)) w.heap.size x) := ⟨blk_new _ _⟩
  by_cases k1 : x.f0 = 1
  · have c1 : (x.f0 == 1) = true := beq_iff_eq.2 k1
    clear k1
    have HE : Aside0 (∀ W, Calls Try.prog 11 #[.pointer none, .int .i64 x.f2, .string x.f3, .int .i64 x.f4] W fun e w' => e = .returned (.tuple #[.int .i64 0, .int .i64 4]) ∧ W = w') := ⟨fun W => enter_nil x.f2 x.f3 x.f4 W⟩
    have HE2 : Aside0 (∀ W, Calls Try.prog 27 #[.pointer none, .int .i64 x.f2, .string x.f3, .int .i64 x.f4] W fun e w' => e = .returned (.tuple #[.int .i64 0, .int .i64 4]) ∧ W = w') := ⟨fun W => renter_nil x.f2 x.f3 x.f4 W⟩
    go_enter Try.func17, Try.ntmps17
    go_wp2_with (first | (go_at_call 27; (with_reducible refine (HE2.out _).mono ?_); rintro e w2 ⟨rfl, rfl⟩) | (go_at_call 11; (with_reducible refine (HE.out _).mono ?_); rintro e w1 ⟨rfl, rfl⟩))
    go_ret
    exact ⟨by simp, HB0.out⟩
  have c1 : (x.f0 == 1) = false := beq_eq_false_iff_ne.2 k1
  by_cases k2 : x.f0 = 2
  · have c2 : (x.f0 == 2) = true := beq_iff_eq.2 k2
    clear k1 k2
    have HE : Aside0 (∀ W, Calls Try.prog 10 #[.pointer none, .int .i64 x.f2] W fun e w' => e = .returned (.tuple #[]) ∧ W = w') := ⟨fun W => close_nil x.f2 W⟩
    have HE2 : Aside0 (∀ W, Calls Try.prog 28 #[.pointer none, .int .i64 x.f2] W fun e w' => e = .returned (.tuple #[]) ∧ W = w') := ⟨fun W => rclose_nil x.f2 W⟩
    go_enter Try.func17, Try.ntmps17
    go_wp2_with (first | (go_at_call 28; (with_reducible refine (HE2.out _).mono ?_); rintro e w2 ⟨rfl, rfl⟩) | (go_at_call 10; (with_reducible refine (HE.out _).mono ?_); rintro e w1 ⟨rfl, rfl⟩))
    go_ret
    exact ⟨rfl, HB0.out⟩
  have c2 : (x.f0 == 2) = false := beq_eq_false_iff_ne.2 k2
  by_cases k3 : x.f0 = 3
  · have c3 : (x.f0 == 3) = true := beq_iff_eq.2 k3
    clear k1 k2 k3
    have HO1 : Aside0 (∀ W n, Calls Try.prog 12 #[.pointer none, .int .i64 x.f2] (World.drewN W n) fun e w' => e = .returned (.bool false) ∧ w' = World.drewN W n) := ⟨fun W n => (open_nil x.f2 _).mono fun e w' ⟨he, hw⟩ => ⟨he, hw.symm⟩⟩
    have HO2 : Aside0 (∀ W n, Calls Try.prog 20 #[.pointer none, .int .i64 x.f2] (World.drewN W n) fun e w' => e = .returned (.bool false) ∧ w' = World.drewN W n) := ⟨fun W n => (ropen_nil x.f2 _).mono fun e w' ⟨he, hw⟩ => ⟨he, hw.symm⟩⟩
    go_enter Try.func17, Try.ntmps17
    go_wp2
    go_quiet (first | (go_at_call 12; exact Calls.quiet_of_same (HO1.out _ _)) | (go_at_call 20; exact Calls.quiet_of_same (HO2.out _ _)))
    go_wp2
    go_ret
    exact ⟨by simp, pw_below_drewN HB0.out _⟩
  have c3 : (x.f0 == 3) = false := beq_eq_false_iff_ne.2 k3
  by_cases k4 : x.f0 = 4
  · have c4 : (x.f0 == 4) = true := beq_iff_eq.2 k4
    clear k1 k2 k3 k4
    have HA1 : Aside0 (∀ W, Calls Try.prog 14 #[.pointer none] W fun e w' => e = .returned (.slice none 0 0) ∧ W = w') := ⟨all_nil⟩
    have HA2 : Aside0 (∀ w, Calls Try.prog 19 #[.pointer none] w fun e w' => ∃ A c, e = .returned (.slice A 0 c) ∧ Kd.C k44 w' A 0 [] ∧ Below w.heap.size w w') := ⟨rall_nil⟩
    go_enter Try.func17, Try.ntmps17
    go_wp2_with (first | (go_at_call 18; (with_reducible refine HSAME.out.mono ?_); rintro e w3 ⟨rfl, hb⟩; have HB3 := Aside0.mk (below_step HB2.out hb); clear hb) | (go_at_call 19; (with_reducible refine (HA2.out _).mono ?_); rintro e w2 ⟨Ab, cb, rfl, hr, hb⟩; have HB2 := Aside0.mk (below_step HB0.out hb); have HSAME : Aside0 (Calls Try.prog 18 #[.slice none 0 0, .slice Ab 0 cb] w2 fun e w' => e = .returned (.bool true) ∧ Below w2.heap.size w2 w') := ⟨same_calls w2 none Ab 0 cb [] (by simp) (Kd.C_nil _ _) (by simp) hr (by simp)⟩; clear hr hb) | (go_at_call 14; (with_reducible refine (HA1.out _).mono ?_); rintro e w1 ⟨rfl, rfl⟩))
    go_ret
    exact ⟨rfl, HB3.out⟩
  have c4 : (x.f0 == 4) = false := beq_eq_false_iff_ne.2 k4
  by_cases k6 : x.f0 = 6
  · have c5 : (x.f0 == 5) = false := beq_eq_false_iff_ne.2 (by omega)
    have c6 : (x.f0 == 6) = true := beq_iff_eq.2 k6
    clear k1 k2 k3 k4 k6
    have HA1 : Aside0 (∀ W, Calls Try.prog 23 #[.pointer none, .int .i64 x.f2, .int .i64 x.f4] W fun e w' => e = .returned (.tuple #[.agg #[.int .i64 0, .int .i64 0, .string ⟨#[]⟩, .int .i64 0], .bool false]) ∧ Below W.heap.size W w') := ⟨fun W => at_nil x.f2 x.f4 W⟩
    have HA2 : Aside0 (∀ W, Below w.heap.size w W → Calls Try.prog 30 #[.pointer none, .int .i64 x.f2, .int .i64 x.f4] W fun e w' => e = .returned (.tuple #[.agg #[.int .i64 0, .int .i64 0, .string ⟨#[]⟩, .int .i64 0], .bool false]) ∧ Below W.heap.size W w') := ⟨fun W _ => rat_nil W x.f2 x.f4⟩
    go_enter Try.func17, Try.ntmps17
    go_wp2_with (first | (go_at_call 30; (with_reducible refine (HA2.out _ HB1.out).mono ?_); rintro e w2 ⟨rfl, hb⟩; have HX2 := Aside0.mk (blk_below (blk_below HX1.out hb) (below_alloc (Below.refl _ _) (.cells #[.int .i64 0, .int .i64 0, .string ⟨#[]⟩, .int .i64 0] 44))); have HB2 := Aside0.mk (below_alloc (below_step HB1.out hb) (.cells #[.int .i64 0, .int .i64 0, .string ⟨#[]⟩, .int .i64 0] 44)); have x0 : (w2.alloc (.cells #[.int .i64 0, .int .i64 0, .string ⟨#[]⟩, .int .i64 0] 44)).cell? ⟨w1.heap.size, 0, none⟩ = some (.int .i64 0) := (blk_cell HX2.out 0).trans rfl; have x1 : (w2.alloc (.cells #[.int .i64 0, .int .i64 0, .string ⟨#[]⟩, .int .i64 0] 44)).cell? ⟨w1.heap.size, 1, none⟩ = some (.int .i64 0) := (blk_cell HX2.out 1).trans rfl; have x2 : (w2.alloc (.cells #[.int .i64 0, .int .i64 0, .string ⟨#[]⟩, .int .i64 0] 44)).cell? ⟨w1.heap.size, 2, none⟩ = some (.string ⟨#[]⟩) := (blk_cell HX2.out 2).trans rfl; have x3 : (w2.alloc (.cells #[.int .i64 0, .int .i64 0, .string ⟨#[]⟩, .int .i64 0] 44)).cell? ⟨w1.heap.size, 3, none⟩ = some (.int .i64 0) := (blk_cell HX2.out 3).trans rfl; clear hb) | (go_at_call 23; (with_reducible refine (HA1.out _).mono ?_); rintro e w1 ⟨rfl, hb⟩; have HX1 := Aside0.mk (blk_new w1 (.cells #[.int .i64 0, .int .i64 0, .string ⟨#[]⟩, .int .i64 0] 44)); have HB1 := Aside0.mk (below_alloc (below_step HB0.out hb) (.cells #[.int .i64 0, .int .i64 0, .string ⟨#[]⟩, .int .i64 0] 44)); have HOP1 := Aside0.mk ((HOPL.out.below hb).below (below_alloc (Below.refl _ _) (.cells #[.int .i64 0, .int .i64 0, .string ⟨#[]⟩, .int .i64 0] 44))); have hop2 := HOP1.out.c2; have hop4 := HOP1.out.c4; clear hb))
    go_ret
    exact ⟨by simp, HB2.out⟩
  have c6 : (x.f0 == 6) = false := beq_eq_false_iff_ne.2 k6
  by_cases k5 : x.f0 = 5
  · have c5 : (x.f0 == 5) = true := beq_iff_eq.2 k5
    clear k1 k2 k3 k4 k6 k5
    have HF1 : Aside0 (∀ W, Hn w w.heap.size x W → Calls Try.prog 22 #[.pointer none, .int .i64 x.f2, .string x.f3] W fun e w' => e = .returned (.int .i64 0) ∧ Hn w w.heap.size x w') := ⟨fun W h => (find_nil x.f2 x.f3 W).mono fun e w' ⟨he, hb⟩ => ⟨he, hb ▸ h⟩⟩
    have HF2 : Aside0 (∀ W, Hn w w.heap.size x W → Calls Try.prog 29 #[.pointer none, .int .i64 x.f2, .string x.f3] W fun e w' => e = .returned (.int .i64 0) ∧ Hn w w.heap.size x w') := ⟨fun W h => (rfind_nil W x.f2 x.f3).mono fun e w' ⟨he, hb⟩ => ⟨he, h.below hb⟩⟩
    have hhS : Hn w w.heap.size x (w.alloc (.cells #[.int .i64 x.f0, .int .i64 x.f1, .int .i64 x.f2, .string x.f3, .int .i64 x.f4] 27)).drew := Hn.drew ⟨HOPL.out, HB0.out⟩
    have hh2 := hhS.op.c2
    have hh3 := hhS.op.c3
    go_enter Try.func17, Try.ntmps17
    go_wp2
    go_region_held3 (fun w' => w'.cell? ⟨w.heap.size, 2, none⟩ = some (.int .i64 x.f2) ∧ w'.cell? ⟨w.heap.size, 3, none⟩ = some (.string x.f3) ∧ Hn w w.heap.size x w') (exact ⟨hh2, hh3, hhS⟩) (first | (go_at_call 22; (with_reducible refine (HF1.out _ hhS).mono ?_); rintro e w1 ⟨rfl, hhS⟩; have hh2 := hhS.op.c2; have hh3 := hhS.op.c3) | (go_at_call 29; (with_reducible refine (HF2.out _ hhS).mono ?_); rintro e w1 ⟨rfl, hhS⟩; have hh2 := hhS.op.c2; have hh3 := hhS.op.c3))
    all_goals
      go_wp2
      go_ret
      exact ⟨by simp, hhS.be⟩
  have c5 : (x.f0 == 5) = false := beq_eq_false_iff_ne.2 k5
  by_cases k7 : x.f0 = 7
  · have c7 : (x.f0 == 7) = true := beq_iff_eq.2 k7
    clear k1 k2 k3 k4 k6 k5 k7
    have HF1 : Aside0 (∀ W, Hn w w.heap.size x W → Calls Try.prog 13 #[.pointer none, .int .i64 x.f2] W fun e w' => e = .returned (.int .i64 0) ∧ Hn w w.heap.size x w') := ⟨fun W h => (count_nil x.f2 W).mono fun e w' ⟨he, hb⟩ => ⟨he, hb ▸ h⟩⟩
    have HF2 : Aside0 (∀ W, Hn w w.heap.size x W → Calls Try.prog 21 #[.pointer none, .int .i64 x.f2] W fun e w' => e = .returned (.int .i64 0) ∧ Hn w w.heap.size x w') := ⟨fun W h => (rcount_nil W x.f2).mono fun e w' ⟨he, hb⟩ => ⟨he, h.below hb⟩⟩
    have hhS : Hn w w.heap.size x (w.alloc (.cells #[.int .i64 x.f0, .int .i64 x.f1, .int .i64 x.f2, .string x.f3, .int .i64 x.f4] 27)).drew := Hn.drew ⟨HOPL.out, HB0.out⟩
    have hh2 := hhS.op.c2
    have hh3 := hhS.op.c3
    go_enter Try.func17, Try.ntmps17
    go_wp2
    go_region_held3 (fun w' => w'.cell? ⟨w.heap.size, 2, none⟩ = some (.int .i64 x.f2) ∧ Hn w w.heap.size x w') (exact ⟨hh2, hhS⟩) (first | (go_at_call 13; (with_reducible refine (HF1.out _ hhS).mono ?_); rintro e w1 ⟨rfl, hhS⟩; have hh2 := hhS.op.c2) | (go_at_call 21; (with_reducible refine (HF2.out _ hhS).mono ?_); rintro e w1 ⟨rfl, hhS⟩; have hh2 := hhS.op.c2))
    all_goals
      go_wp2
      go_ret
      exact ⟨by simp, hhS.be⟩
  · have c7 : (x.f0 == 7) = false := beq_eq_false_iff_ne.2 k7
    clear k1 k2 k3 k4 k5 k6 k7
    go_enter Try.func17, Try.ntmps17
    go_wp2
    go_ret
    exact ⟨rfl, HB0.out⟩
end Go.Proofs.Ythadfkpibnhcgaa.B
