/- Calls of the reference without a book; one call on no book at all. No conditions. -/
import Derived.Test.YthadfkpibnhcgaaZ4
set_option linter.unusedVariables false
set_option linter.unusedSimpArgs false
namespace Go.Proofs.Ythadfkpibnhcgaa.B
open Go.RowKit Go.Proofs.Ythadfkpibnhcgaa.X Go.Proofs.YthadfkpibnhcgaaW.PrintWords Go.Proofs.YthadfkpibnhcgaaW.PrintLast Go.Proofs.YthadfkpibnhcgaaW.PrintMore

set_option maxHeartbeats 1000000 in
set_option maxRecDepth 100000 in
theorem rcount_of (w : World) (p : Value) (es : List S44) (f : Int) (hA : ∀ w, Calls Try.prog 19 #[p] w fun e w' => ∃ A c, e = .returned (.slice A es.length c) ∧ Kd.C k44 w' A es.length es ∧ Below w.heap.size w w') (hn : es.length ≤ 64) :
    Calls Try.prog 21 #[p, .int .i64 f] w fun e w' => e = .returned (.int .i64 (cnt es f : Int)) ∧ Below w.heap.size w w' := by
  have HALL := Aside0.mk (hA w)
  have HN := Aside0.mk hn
  clear hA hn
  go_enter Try.func21, Try.ntmps21
  go_wp2_with (go_at_call 19; (with_reducible refine HALL.out.mono ?_); rintro e w1 ⟨A, c, rfl, hr, hb⟩; have HR := Aside0.mk hr; have HB := Aside0.mk hb; clear hr hb)
  go_loopw [5, 7] (fun tn ti wr => ∃ i : Nat, ti = .int .i64 (i : Int) ∧ tn = .int .i64 ((cnt (es.take i) f : Nat) : Int) ∧ Aside0 (i ≤ es.length) ∧ Aside0 (wr = w1)) (fun _ ti _ => es.length - left ti)
  case atStart => exact ⟨0, rfl, rfl, ⟨Nat.zero_le _⟩, ⟨rfl⟩⟩
  case round =>
    obtain ⟨i, rfl, rfl, hi, ⟨hw⟩⟩ := hrel
    subst hw
    by_cases ci : i < es.length
    · have c1 : decide ((i : Int) < (es.length : Int)) = true := decide_eq_true (by omega)
      have c2 : decide (i < es.length) = true := decide_eq_true ci
      obtain ⟨ad, rfl, hx0, hx1, hx2, hx3⟩ := at_T44 HR.out (i : Int) (by omega) (by omega)
      rw [Int.toNat_natCast] at hx0 hx1 hx2 hx3
      obtain ⟨f0, hf0⟩ : ∃ f0, f0 = (rd_T44 es (i : Int)).f0 := ⟨_, rfl⟩
      have HF := Aside0.mk hf0
      rw [← hf0] at hx0
      clear hf0
      have HS := Aside0.mk (cnt_snoc es i f ci)
      have W1 : Aside0 (wrap64 ((i : Int) + 1) = ((i + 1 : Nat) : Int)) := ⟨next1 i es.length (by have := HN.out; omega) ci⟩
      have W2 : Aside0 (wrap64 (((cnt (es.take i) f : Nat) : Int) + 1) = ((cnt (es.take i) f + 1 : Nat) : Int)) := ⟨by have := HN.out; have := cnt_le (es.take i) f; rw [List.length_take] at this; rw [w64s (by omega) (by omega)]; rfl⟩
      have ML := Aside0.mk (less i es.length (by have := HN.out; omega) ci)
      by_cases ce : f0 = f
      all_goals
        first
        | (have c3 : (f0 == f) = true := beq_iff_eq.2 ce)
        | (have c3 : (f0 == f) = false := beq_eq_false_iff_ne.2 ce)
        clear ce
        go_wp2
        refine ⟨⟨i + 1, by rw [W1.out], ?_, ⟨by omega⟩, ⟨by trivial⟩⟩, ML.out⟩
        rw [HS.out, ← HF.out, c3]
        first | rw [W2.out]; rfl | rfl
    · have c1 : decide ((i : Int) < (es.length : Int)) = false := decide_eq_false (by omega)
      have c2 : decide (i < es.length) = false := decide_eq_false ci
      have HI : Aside0 (es.take i = es) := ⟨List.take_of_length_le (by omega)⟩
      go_wp2
      go_ret
      exact ⟨by rw [HI.out]; rfl, HB.out⟩
set_option maxHeartbeats 1000000 in
set_option maxRecDepth 100000 in
theorem rfind_of (w : World) (p : Value) (es : List S44) (f : Int) (nm : ByteArray) (hA : ∀ w, Calls Try.prog 19 #[p] w fun e w' => ∃ A c, e = .returned (.slice A es.length c) ∧ Kd.C k44 w' A es.length es ∧ Below w.heap.size w w') (hn : es.length ≤ 64) :
    Calls Try.prog 29 #[p, .int .i64 f, .string nm] w fun e w' => e = .returned (.int .i64 (fnd es f nm)) ∧ Below w.heap.size w w' := by
  have HALL := Aside0.mk (hA w)
  have HN := Aside0.mk hn
  clear hA hn
  go_enter Try.func29, Try.ntmps29
  go_wp2_with (go_at_call 19; (with_reducible refine HALL.out.mono ?_); rintro e w1 ⟨A, c, rfl, hr, hb⟩; have HR := Aside0.mk hr; have HB := Aside0.mk hb; clear hr hb)
  go_loopw [8] (fun ti wr => ∃ i : Nat, ti = .int .i64 (i : Int) ∧ Aside0 (fnd (es.drop i) f nm = fnd es f nm) ∧ Aside0 (i ≤ es.length) ∧ Aside0 (wr = w1)) (fun ti _ => es.length - left ti)
  case atStart => exact ⟨0, rfl, ⟨rfl⟩, ⟨Nat.zero_le _⟩, ⟨rfl⟩⟩
  case round =>
    obtain ⟨i, rfl, HX, hi, ⟨hw⟩⟩ := hrel
    subst hw
    by_cases ci : i < es.length
    · have c1 : decide ((i : Int) < (es.length : Int)) = true := decide_eq_true (by omega)
      have c2 : decide (i < es.length) = true := decide_eq_true ci
      obtain ⟨ad, rfl, hx0, hx1, hx2, hx3⟩ := at_T44 HR.out (i : Int) (by omega) (by omega)
      rw [Int.toNat_natCast] at hx0 hx1 hx2 hx3
      have HS := Aside0.mk (drop_rd es i ci)
      obtain ⟨x, hx⟩ : ∃ x, x = rd_T44 es (i : Int) := ⟨_, rfl⟩
      rw [← hx] at hx0 hx1 hx2 hx3 HS
      clear hx
      have W1 : Aside0 (wrap64 ((i : Int) + 1) = ((i + 1 : Nat) : Int)) := ⟨next1 i es.length (by have := HN.out; omega) ci⟩
      have ML := Aside0.mk (less i es.length (by have := HN.out; omega) ci)
      by_cases ce : x.f0 = f
      · have c3 : (x.f0 == f) = true := beq_iff_eq.2 ce
        by_cases cn : x.f2 = nm
        · have c4 : (x.f2.toList == nm.toList) = true := by rw [cn]; exact beq_self_eq_true _
          have HE : Aside0 (fnd es f nm = x.f1) := ⟨by rw [← HX.out, HS.out, fnd, if_pos ⟨ce, cn⟩]⟩
          clear ce cn
          go_wp2
          go_ret
          exact ⟨ret_int HE.out.symm, HB.out⟩
        · have c4 : (x.f2.toList == nm.toList) = false := by rw [beq_eq_false_iff_ne]; intro h; exact cn (ByteArray.ext (Array.toList_inj.1 (by rwa [ByteArray.toList_eq, ByteArray.toList_eq] at h)))
          have HE : Aside0 (fnd (es.drop (i + 1)) f nm = fnd es f nm) := ⟨by rw [← HX.out, HS.out, fnd, if_neg (fun h => cn h.2)]⟩
          clear ce cn
          go_wp2
          exact ⟨⟨i + 1, by rw [W1.out], HE, ⟨by omega⟩, ⟨by trivial⟩⟩, ML.out⟩
      · have c3 : (x.f0 == f) = false := beq_eq_false_iff_ne.2 ce
        have HE : Aside0 (fnd (es.drop (i + 1)) f nm = fnd es f nm) := ⟨by rw [← HX.out, HS.out, fnd, if_neg (fun h => ce h.1)]⟩
        clear ce
        go_wp2
        exact ⟨⟨i + 1, by rw [W1.out], HE, ⟨by omega⟩, ⟨by trivial⟩⟩, ML.out⟩
    · have c1 : decide ((i : Int) < (es.length : Int)) = false := decide_eq_false (by omega)
      have c2 : decide (i < es.length) = false := decide_eq_false ci
      have HE : Aside0 (fnd es f nm = 0) := ⟨by rw [← HX.out, List.drop_of_length_le (by omega)]; rfl⟩
      go_wp2
      go_ret
      exact ⟨ret_int HE.out.symm, HB.out⟩
set_option maxHeartbeats 1000000 in
set_option maxRecDepth 100000 in
theorem rat_of (w : World) (p : Value) (es : List S44) (f n : Int) (hA : ∀ w, Calls Try.prog 19 #[p] w fun e w' => ∃ A c, e = .returned (.slice A es.length c) ∧ Kd.C k44 w' A es.length es ∧ Below w.heap.size w w') (hn : es.length ≤ 64) :
    Calls Try.prog 30 #[p, .int .i64 f, .int .i64 n] w fun e w' => e = .returned (atOut (att es f n)) ∧ Below w.heap.size w w' := by
  have hu44 := Try.underlying44
  have HX0 := Aside0.mk (below_alloc (Below.refl w.heap.size w) (.cells #[.int .i64 0, .int .i64 0, .string ⟨#[]⟩, .int .i64 0] 44))
  have HALL := Aside0.mk (hA (w.alloc (.cells #[.int .i64 0, .int .i64 0, .string ⟨#[]⟩, .int .i64 0] 44)))
  have HN := Aside0.mk hn
  clear hA hn
  go_enter Try.func30, Try.ntmps30
  go_wp2_with (go_at_call 19; (with_reducible refine HALL.out.mono ?_); rintro e w1 ⟨A, c, rfl, hr, hb⟩; have HR := Aside0.mk hr; have HB := Aside0.mk (below_step HX0.out hb); have HK := Aside0.mk (blk_below (blk_new w (.cells #[.int .i64 0, .int .i64 0, .string ⟨#[]⟩, .int .i64 0] 44)) hb); clear hr hb)
  go_loopw [9] (fun ti wr => ∃ i : Nat, ti = .int .i64 (i : Int) ∧ Aside0 (att (es.drop i) f n = att es f n) ∧ Aside0 (i ≤ es.length) ∧ Aside0 (wr = w1)) (fun ti _ => es.length - left ti)
  case atStart => exact ⟨0, rfl, ⟨rfl⟩, ⟨Nat.zero_le _⟩, ⟨rfl⟩⟩
  case round =>
    obtain ⟨i, rfl, HX, hi, ⟨hw⟩⟩ := hrel
    subst hw
    have hk0 : wr.cell? ⟨w.heap.size, 0, none⟩ = some (.int .i64 0) := (blk_cell HK.out 0).trans rfl
    have hk1 : wr.cell? ⟨w.heap.size, 1, none⟩ = some (.int .i64 0) := (blk_cell HK.out 1).trans rfl
    have hk2 : wr.cell? ⟨w.heap.size, 2, none⟩ = some (.string ⟨#[]⟩) := (blk_cell HK.out 2).trans rfl
    have hk3 : wr.cell? ⟨w.heap.size, 3, none⟩ = some (.int .i64 0) := (blk_cell HK.out 3).trans rfl
    have hq0 := blk_frozen HK.out 0
    have hq1 := blk_frozen HK.out 1
    have hq2 := blk_frozen HK.out 2
    have hq3 := blk_frozen HK.out 3
    by_cases ci : i < es.length
    · have c1 : decide ((i : Int) < (es.length : Int)) = true := decide_eq_true (by omega)
      have c2 : decide (i < es.length) = true := decide_eq_true ci
      obtain ⟨ad, rfl, hx0, hx1, hx2, hx3⟩ := at_T44 HR.out (i : Int) (by omega) (by omega)
      rw [Int.toNat_natCast] at hx0 hx1 hx2 hx3
      have HS := Aside0.mk (drop_rd es i ci)
      obtain ⟨x, hx⟩ : ∃ x, x = rd_T44 es (i : Int) := ⟨_, rfl⟩
      rw [← hx] at hx0 hx1 hx2 hx3 HS
      clear hx
      have W1 : Aside0 (wrap64 ((i : Int) + 1) = ((i + 1 : Nat) : Int)) := ⟨next1 i es.length (by have := HN.out; omega) ci⟩
      have ML := Aside0.mk (less i es.length (by have := HN.out; omega) ci)
      by_cases ce : x.f0 = f
      · have c3 : (x.f0 == f) = true := beq_iff_eq.2 ce
        by_cases cn : x.f1 = n
        · have c4 : (x.f1 == n) = true := beq_iff_eq.2 cn
          have HE : Aside0 (att es f n = some x) := ⟨by rw [← HX.out, HS.out, att, if_pos ⟨ce, cn⟩]⟩
          clear ce cn
          go_wp2
          refine bodyPost_ret (results_ct rfl _ _ w.heap.size 44 #[.int .i64 x.f0, .int .i64 x.f1, .string x.f2, .int .i64 x.f3] (0, 0) _ rfl (set4 HK.out) Try.underlying44 rfl (by kernel_rfl)) rfl ?_
          exact ⟨by rw [HE.out]; rfl, below4 HB.out (Nat.le_refl _)⟩
        · have c4 : (x.f1 == n) = false := beq_eq_false_iff_ne.2 cn
          have HE : Aside0 (att (es.drop (i + 1)) f n = att es f n) := ⟨by rw [← HX.out, HS.out, att, if_neg (fun h => cn h.2)]⟩
          clear ce cn
          go_wp2
          exact ⟨⟨i + 1, by rw [W1.out], HE, ⟨by omega⟩, ⟨by trivial⟩⟩, ML.out⟩
      · have c3 : (x.f0 == f) = false := beq_eq_false_iff_ne.2 ce
        have HE : Aside0 (att (es.drop (i + 1)) f n = att es f n) := ⟨by rw [← HX.out, HS.out, att, if_neg (fun h => ce h.1)]⟩
        clear ce
        go_wp2
        exact ⟨⟨i + 1, by rw [W1.out], HE, ⟨by omega⟩, ⟨by trivial⟩⟩, ML.out⟩
    · have c1 : decide ((i : Int) < (es.length : Int)) = false := decide_eq_false (by omega)
      have c2 : decide (i < es.length) = false := decide_eq_false ci
      have HE : Aside0 (att es f n = none) := ⟨by rw [← HX.out, List.drop_of_length_le (by omega)]; rfl⟩
      go_wp2
      refine bodyPost_ret (results_ct rfl _ _ w.heap.size 44 #[.int .i64 0, .int .i64 0, .string ⟨#[]⟩, .int .i64 0] (0, 0) _ rfl (set4 HK.out) Try.underlying44 rfl (by kernel_rfl)) rfl ?_
      exact ⟨by rw [HE.out]; rfl, below4 HB.out (Nat.le_refl _)⟩
theorem rall_nil (w : World) : Calls Try.prog 19 #[.pointer none] w fun e w' => ∃ A c, e = .returned (.slice A ([] : List S44).length c) ∧ Kd.C k44 w' A ([] : List S44).length [] ∧ Below w.heap.size w w' := by
  go_enter Try.func19, Try.ntmps19
  go_wp2
  go_ret
  exact ⟨_, _, rfl, ⟨rfl, by simp, fun h => absurd h (Nat.lt_irrefl 0)⟩, below_alloc (Below.refl _ _) _⟩
theorem rcount_nil (w : World) (f : Int) : Calls Try.prog 21 #[.pointer none, .int .i64 f] w fun e w' => e = .returned (.int .i64 0) ∧ Below w.heap.size w w' := rcount_of w (.pointer none) [] f rall_nil (by simp)
theorem rfind_nil (w : World) (f : Int) (nm : ByteArray) : Calls Try.prog 29 #[.pointer none, .int .i64 f, .string nm] w fun e w' => e = .returned (.int .i64 0) ∧ Below w.heap.size w w' := rfind_of w (.pointer none) [] f nm rall_nil (by simp)
theorem rat_nil (w : World) (f n : Int) : Calls Try.prog 30 #[.pointer none, .int .i64 f, .int .i64 n] w fun e w' => e = .returned (atOut none) ∧ Below w.heap.size w w' := rat_of w (.pointer none) [] f n rall_nil (by simp)
theorem renter_nil (f : Int) (nm : ByteArray) (sz : Int) (w : World) : Calls Try.prog 27 #[.pointer none, .int .i64 f, .string nm, .int .i64 sz] w fun e w' => e = .returned (.tuple #[.int .i64 0, .int .i64 4]) ∧ w = w' := by
  go_enter Try.func27, Try.ntmps27
  go_wp2
  go_ret2
  exact ⟨rfl, rfl⟩
theorem ropen_nil (f : Int) (w : World) : Calls Try.prog 20 #[.pointer none, .int .i64 f] w fun e w' => e = .returned (.bool false) ∧ w = w' := by
  go_enter Try.func20, Try.ntmps20
  go_wp2
  go_ret
  exact ⟨rfl, rfl⟩
theorem rclose_nil (f : Int) (w : World) : Calls Try.prog 28 #[.pointer none, .int .i64 f] w fun e w' => e = .returned (.tuple #[]) ∧ w = w' := by
  have HO := Aside0.mk (ropen_nil f w)
  go_enter Try.func28, Try.ntmps28
  go_wp2_with (go_at_call 20; (with_reducible refine HO.out.mono ?_); rintro e w1 ⟨rfl, rfl⟩)
  go_end0
  exact ⟨rfl, rfl⟩
end Go.Proofs.Ythadfkpibnhcgaa.B
