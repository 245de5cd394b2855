/- One call on a book and on the reference's: the same answers. Conditions: those in the theorems. -/
import Derived.Test.YthadfkpibnhcgaaZ3
import Derived.Test.YthadfkpibnhcgaaF1
import Derived.Deep.RegionWith
import Derived.Deep.RegionHeld3
set_option linter.unusedVariables false
set_option linter.unusedSimpArgs false
namespace Go.Proofs.Ythadfkpibnhcgaa.B
open Go.RowKit Go.Proofs.Ythadfkpibnhcgaa.X Go.Proofs.YthadfkpibnhcgaaW.PrintWords Go.Proofs.YthadfkpibnhcgaaW.PrintLast Go.Proofs.YthadfkpibnhcgaaW.PrintMore

def opV (x : S27) : Value := .agg #[.int .i64 x.f0, .int .i64 x.f1, .int .i64 x.f2, .string x.f3, .int .i64 x.f4]
theorem Pr.drew {w : World} {base g gr : Nat} {v v2 u2 : Value} {es es2 : List S44} {cl : Nat → Bool} {cs : List Int} (h : Pr w base g gr v v2 u2 es es2 cl cs) : Pr w.drew base g gr v v2 u2 es es2 cl cs := h.below (below_drew1 (Below.refl _ _))
theorem OpAt.drew {w : World} {b : Nat} {x : S27} (h : OpAt w b x) : OpAt w.drew b x := h
structure Hd (W0 : World) (b : Nat) (x : S27) (base g gr : Nat) (v v2 u2 : Value) (es : List S44) (cl : Nat → Bool) (cs : List Int) (w' : World) : Prop where
  op : OpAt w' b x
  pr : Pr w' base g gr v v2 u2 es es cl cs
  be : Below W0.heap.size W0 w'
theorem Hd.drew {W0 : World} {b : Nat} {x : S27} {base g gr : Nat} {v v2 u2 : Value} {es : List S44} {cl : Nat → Bool} {cs : List Int} {w' : World} (h : Hd W0 b x base g gr v v2 u2 es cl cs w') : Hd W0 b x base g gr v v2 u2 es cl cs w'.drew := ⟨h.op.drew, h.pr.drew, below_drew1 h.be⟩
theorem Hd.below {W0 : World} {b : Nat} {x : S27} {base g gr : Nat} {v v2 u2 : Value} {es : List S44} {cl : Nat → Bool} {cs : List Int} {w' w2 : World} (h : Hd W0 b x base g gr v v2 u2 es cl cs w') (k : Below w'.heap.size w' w2) : Hd W0 b x base g gr v v2 u2 es cl cs w2 := ⟨h.op.below k, h.pr.below k, below_step h.be k⟩
set_option maxHeartbeats 4000000 in
set_option maxRecDepth 100000 in
theorem right_calls (w : World) (base g gr : Nat) (v v2 u2 : Value) (es : List S44) (cl : Nat → Bool) (cs : List Int) (x : S27) (hP : Pr w base g gr v v2 u2 es es cl cs) (hc : CC cl cs) (hl : es.length ≤ 64) :
    Calls Try.prog 17 #[.pointer (some ⟨g, 0, none⟩), .pointer (some ⟨gr, 0, none⟩), .agg #[.int .i64 x.f0, .int .i64 x.f1, .int .i64 x.f2, .string x.f3, .int .i64 x.f4]] w fun e w' => e = .returned (.bool true) ∧ Pt w w' base g gr v v2 u2 := by
  have hu44 := Try.underlying44
  obtain ⟨W0, hW0⟩ : ∃ W0, W0 = w.alloc (.cells #[.int .i64 x.f0, .int .i64 x.f1, .int .i64 x.f2, .string x.f3, .int .i64 x.f4] 27) := ⟨_, rfl⟩
  have HW0 := Aside0.mk hW0
  have HB0 : Aside0 (Below w.heap.size w W0) := ⟨by rw [hW0]; exact below_alloc (Below.refl _ _) _⟩
  have HOP : Aside0 (OpAt W0 w.heap.size x) := ⟨by rw [hW0]; exact blk_new _ _⟩
  have HP0 : Aside0 (Pr W0 base g gr v v2 u2 es es cl cs) := ⟨hP.below HB0.out⟩
  have HBS : Aside0 (base ≤ w.heap.size) := ⟨by have := hP.b.le; have := blk_lt hP.b.blk; omega⟩
  have HC := Aside0.mk hc
  have HL := Aside0.mk hl
  clear hP hc hl hW0
  by_cases k1 : x.f0 = 1
  · have c1 : (x.f0 == 1) = true := beq_iff_eq.2 k1
    clear k1
    have HE := Aside0.mk (enter_calls W0 base g v es cl x.f2 x.f3 x.f4 HP0.out.b HL.out)
    rw [HW0.out] at HE
    have HE2 : Aside0 (∀ w1 v', Pr w1 base g gr v' v2 u2 (enterS es cl x.f2 x.f3 x.f4) es cl cs → Calls Try.prog 27 #[.pointer (some ⟨gr, 0, none⟩), .int .i64 x.f2, .string x.f3, .int .i64 x.f4] w1 fun e w' => e = .returned (.tuple #[.int .i64 (enterN es cl x.f2 x.f3 x.f4), .int .i64 (enterE es cl x.f2 x.f3 x.f4)]) ∧ TurnedR w1 w' base gr v2 u2 (enterS es cl x.f2 x.f3 x.f4) cs) := ⟨fun w1 v' h => renter_calls w1 base gr v2 u2 es cs cl x.f2 x.f3 x.f4 h.r HL.out HC.out.len (HC.out.1 x.f2)⟩
    go_enter Try.func17, Try.ntmps17
    go_wp2_with (first | (go_at_call 27; (with_reducible refine (HE2.out _ _ HP1.out).mono ?_); rintro e w2 ⟨rfl, ht⟩; have HT2 := Aside0.mk ht; clear ht) | (go_at_call 11; (with_reducible refine HE.out.mono ?_); rintro e w1 ⟨rfl, ht⟩; rw [← HW0.out] at ht; have HT := Aside0.mk ht; obtain ⟨v1, hi, hb, hk, hat⟩ := ht; have HP1 := Aside0.mk (HP0.out.enter1 hi hk hat); have HOP1 := Aside0.mk (HOP.out.keep HP0.out.b (.inr rfl) hk); have hop2 := HOP1.out.c2; have hop3 := HOP1.out.c3; have hop4 := HOP1.out.c4; clear hi hb hk hat))
    go_ret
    exact ⟨by simp, Pt.from_below HBS.out HB0.out (Pt.enter HP0.out HC.out (enterS_len _ _ _ _ _ HL.out) HT.out fun _ _ => HT2.out)⟩
  have c1 : (x.f0 == 1) = false := beq_eq_false_iff_ne.2 k1
  by_cases k2 : x.f0 = 2
  · have c2 : (x.f0 == 2) = true := beq_iff_eq.2 k2
    clear k1 k2
    have HE := Aside0.mk (close_calls W0 base g v es cl x.f2 HP0.out.b)
    rw [HW0.out] at HE
    have HE2 : Aside0 (∀ w1, Pr w1 base g gr v v2 u2 es es (cloF cl x.f2) cs → Calls Try.prog 28 #[.pointer (some ⟨gr, 0, none⟩), .int .i64 x.f2] w1 fun e w' => e = .returned (.tuple #[]) ∧ B.Shut w1 w' base gr v2 u2 es (rcl cs x.f2)) := ⟨fun w1 h => rclose_calls w1 base gr v2 u2 es cs x.f2 h.r HC.out.len⟩
    go_enter Try.func17, Try.ntmps17
    go_wp2_with (first | (go_at_call 28; (with_reducible refine (HE2.out _ HP1.out).mono ?_); rintro e w2 ⟨rfl, ht⟩; have HT2 := Aside0.mk ht; clear ht) | (go_at_call 10; (with_reducible refine HE.out.mono ?_); rintro e w1 ⟨rfl, hi, hb, hk⟩; rw [← HW0.out] at hb hk; have HI1 := Aside0.mk hi; have HBb := Aside0.mk hb; have HK := Aside0.mk hk; have HP1 : Aside0 (Pr w1 base g gr v v2 u2 es es (cloF cl x.f2) cs) := ⟨⟨hi, HP0.out.r.keepB HP0.out.b HP0.out.ap (.inl rfl) hk, HP0.out.ap⟩⟩; have HOP1 := Aside0.mk (HOP.out.keep HP0.out.b (.inl rfl) hk); have hop2 := HOP1.out.c2; clear hi hb hk))
    go_ret
    exact ⟨rfl, Pt.from_below HBS.out HB0.out (Pt.close HP0.out HC.out HL.out HI1.out HBb.out HK.out fun _ => HT2.out)⟩
  have c2 : (x.f0 == 2) = false := beq_eq_false_iff_ne.2 k2
  have HQ0 := HP0
  rw [HW0.out] at HQ0
  by_cases k3 : x.f0 = 3
  · have c3 : (x.f0 == 3) = true := beq_iff_eq.2 k3
    clear k1 k2 k3
    obtain ⟨o, ho⟩ : ∃ o, o = (isF x.f2 && !cl x.f2.toNat) := ⟨_, rfl⟩
    have HO1 : Aside0 (∀ W n, Pr W base g gr v v2 u2 es es cl cs → Calls Try.prog 12 #[.pointer (some ⟨g, 0, none⟩), .int .i64 x.f2] (W.drewN n) fun e w' => e = .returned (.bool o) ∧ w' = W.drewN n) := ⟨fun W n h => (open_calls (W.drewN n) base g v es cl x.f2 (h.b.below (pw_below_drewN (Below.refl _ _) n))).mono fun e w' ⟨he, hw⟩ => ⟨by rw [he, ho], hw.symm⟩⟩
    have HO2 : Aside0 (∀ W n, Pr W base g gr v v2 u2 es es cl cs → Calls Try.prog 20 #[.pointer (some ⟨gr, 0, none⟩), .int .i64 x.f2] (W.drewN n) fun e w' => e = .returned (.bool o) ∧ w' = W.drewN n) := ⟨fun W n h => (ropen_calls (W.drewN n) base gr v2 u2 es cs x.f2 (h.r.below (pw_below_drewN (Below.refl _ _) n)) HC.out.len).mono fun e w' ⟨he, hw⟩ => ⟨by rw [he, ho, HC.out.opn], hw.symm⟩⟩
    clear ho
    go_enter Try.func17, Try.ntmps17
    go_wp2
    go_quiet (first | (go_at_call 12; exact Calls.quiet_of_same (HO1.out _ _ HQ0.out)) | (go_at_call 20; exact Calls.quiet_of_same (HO2.out _ _ HQ0.out)))
    go_wp2
    go_ret
    exact ⟨by simp, Pt.from_below HBS.out HB0.out (by rw [HW0.out]; exact Pt.of_below HQ0.out HC.out HL.out (pw_below_drewN (Below.refl _ _) _))⟩
  have c3 : (x.f0 == 3) = false := beq_eq_false_iff_ne.2 k3
  by_cases k4 : x.f0 = 4
  · have c4 : (x.f0 == 4) = true := beq_iff_eq.2 k4
    clear k1 k2 k3 k4
    have HA1 := Aside0.mk (all_calls W0 base g v es cl HP0.out.b HL.out)
    rw [HW0.out] at HA1
    have HA2 : Aside0 (∀ w1, Pr w1 base g gr v v2 u2 es es cl cs → Calls Try.prog 19 #[.pointer (some ⟨gr, 0, none⟩)] w1 fun e w' => ∃ v', e = .returned v' ∧ Kd.R k44 44 w' w1.heap.size (fun _ => True) v' es ∧ Below w1.heap.size w1 w') := ⟨fun w1 h => rall_calls w1 base gr v2 u2 es cs h.r HL.out⟩
    go_enter Try.func17, Try.ntmps17
    go_wp2_with (first | (go_at_call 18; (with_reducible refine HSAME.out.mono ?_); rintro e w3 ⟨rfl, hb⟩; have HB3 := Aside0.mk (below_step HB2.out hb); clear hb) | (go_at_call 19; (with_reducible refine (HA2.out _ HP1.out).mono ?_); rintro e w2 ⟨vb, rfl, ho, hb⟩; obtain ⟨Ab, cb, hvb, hlb, hrb⟩ := Kd.R_reads ho; subst hvb; have HB2 := Aside0.mk (below_step HB1.out hb); have HSAME := Aside0.mk (same_calls w2 Aa Ab ca cb es HL.out (Kd.C_below HRa.out hb) HLa.out hrb hlb); clear ho hb hlb hrb) | (go_at_call 14; (with_reducible refine HA1.out.mono ?_); rintro e w1 ⟨va, rfl, ho, hb⟩; rw [← HW0.out] at hb; obtain ⟨Aa, ca, hva, hla, hra⟩ := Kd.R_reads ho; subst hva; have HB1 := Aside0.mk hb; have HP1 := Aside0.mk (HP0.out.below hb); have HRa := Aside0.mk hra; have HLa := Aside0.mk hla; clear ho hb hla hra))
    go_ret
    exact ⟨rfl, Pt.from_below HBS.out HB0.out (Pt.of_below HP0.out HC.out HL.out HB3.out)⟩
  have c4 : (x.f0 == 4) = false := beq_eq_false_iff_ne.2 k4
  by_cases k6 : x.f0 = 6
  · have c5 : (x.f0 == 5) = false := beq_eq_false_iff_ne.2 (by omega)
    have c6 : (x.f0 == 6) = true := beq_iff_eq.2 k6
    clear k1 k2 k3 k4 k6
    obtain ⟨a0, a1, a2, a3, ok, hat⟩ : ∃ a0 a1 a2 a3 ok, atOut (att es x.f2 x.f4) = .tuple #[.agg #[.int .i64 a0, .int .i64 a1, .string a2, .int .i64 a3], .bool ok] := by
      cases att es x.f2 x.f4 with
      | none => exact ⟨0, 0, ⟨#[]⟩, 0, false, rfl⟩
      | some y => exact ⟨y.f0, y.f1, y.f2, y.f3, true, rfl⟩
    have HA1 := Aside0.mk (at_calls W0 base g v es cl x.f2 x.f4 HP0.out.b (by have := HL.out; omega))
    rw [hat, HW0.out] at HA1
    have HA2 : Aside0 (∀ w1, Pr w1 base g gr v v2 u2 es es cl cs → Calls Try.prog 30 #[.pointer (some ⟨gr, 0, none⟩), .int .i64 x.f2, .int .i64 x.f4] w1 fun e w' => e = .returned (.tuple #[.agg #[.int .i64 a0, .int .i64 a1, .string a2, .int .i64 a3], .bool ok]) ∧ Below w1.heap.size w1 w') := ⟨fun w1 h => by have := rat_calls w1 base gr v2 u2 es cs x.f2 x.f4 h.r HL.out; rw [hat] at this; exact this⟩
    clear hat
    go_enter Try.func17, Try.ntmps17
    go_wp2_with (first | (go_at_call 30; (with_reducible refine (HA2.out _ HP1.out).mono ?_); rintro e w2 ⟨rfl, hb⟩; have HX2 := Aside0.mk ((HX1.out.below hb).below (below_alloc (Below.refl _ _) (.cells #[.int .i64 a0, .int .i64 a1, .string a2, .int .i64 a3] 44))); have HB2 := Aside0.mk (below_alloc (below_step HB1.out hb) (.cells #[.int .i64 a0, .int .i64 a1, .string a2, .int .i64 a3] 44)); have x0 := HX2.out.c0; have x1 := HX2.out.c1; have x2 := HX2.out.c2; have x3 := HX2.out.c3; clear hb) | (go_at_call 23; (with_reducible refine HA1.out.mono ?_); rintro e w1 ⟨rfl, hb⟩; rw [← HW0.out] at hb; have HP1' := Aside0.mk (HP0.out.below hb); have HP1 := Aside0.mk (HP1'.out.below (below_alloc (Below.refl _ _) (.cells #[.int .i64 a0, .int .i64 a1, .string a2, .int .i64 a3] 44))); have HX1 := Aside0.mk (Et.new (a0 := a0) (a1 := a1) (a2 := a2) (a3 := a3) HP1'.out.b); have HB1 := Aside0.mk (below_alloc hb (.cells #[.int .i64 a0, .int .i64 a1, .string a2, .int .i64 a3] 44)); have HOP1 := Aside0.mk ((HOP.out.below hb).below (below_alloc (Below.refl _ _) (.cells #[.int .i64 a0, .int .i64 a1, .string a2, .int .i64 a3] 44))); have hop2 := HOP1.out.c2; have hop4 := HOP1.out.c4; clear hb))
    go_ret
    exact ⟨by simp, Pt.from_below HBS.out HB0.out (Pt.of_below HP0.out HC.out HL.out HB2.out)⟩
  have c6 : (x.f0 == 6) = false := beq_eq_false_iff_ne.2 k6
  have hz := HOP.out
  rw [HW0.out] at hz
  have hop2 := hz.c2
  have hop3 := hz.c3
  have HOPL := Aside0.mk hz
  clear hz
  by_cases k5 : x.f0 = 5
  · have c5 : (x.f0 == 5) = true := beq_iff_eq.2 k5
    clear k1 k2 k3 k4 k6 k5
    have HF1 : Aside0 (∀ W, Hd W0 w.heap.size x base g gr v v2 u2 es cl cs W → Calls Try.prog 22 #[.pointer (some ⟨g, 0, none⟩), .int .i64 x.f2, .string x.f3] W fun e w' => e = .returned (.int .i64 (fnd es x.f2 x.f3)) ∧ Hd W0 w.heap.size x base g gr v v2 u2 es cl cs w') := ⟨fun W h => (find_calls W base g v es cl x.f2 x.f3 h.pr.b (by have := HL.out; omega)).mono fun e w' ⟨he, hb⟩ => ⟨he, h.below hb⟩⟩
    have HF2 : Aside0 (∀ W, Hd W0 w.heap.size x base g gr v v2 u2 es cl cs W → Calls Try.prog 29 #[.pointer (some ⟨gr, 0, none⟩), .int .i64 x.f2, .string x.f3] W fun e w' => e = .returned (.int .i64 (fnd es x.f2 x.f3)) ∧ Hd W0 w.heap.size x base g gr v v2 u2 es cl cs w') := ⟨fun W h => (rfind_calls W base gr v2 u2 es cs x.f2 x.f3 h.pr.r HL.out).mono fun e w' ⟨he, hb⟩ => ⟨he, h.below hb⟩⟩
    have hhS : Hd W0 w.heap.size x base g gr v v2 u2 es cl cs (w.alloc (.cells #[.int .i64 x.f0, .int .i64 x.f1, .int .i64 x.f2, .string x.f3, .int .i64 x.f4] 27)).drew := Hd.drew ⟨HOPL.out, HQ0.out, by rw [HW0.out]; exact Below.refl _ _⟩
    have hh2 := hhS.op.c2
    have hh3 := hhS.op.c3
    obtain ⟨n, hn⟩ : ∃ n : Int, n = (fnd es x.f2 x.f3) := ⟨_, rfl⟩
    rw [← hn] at HF1 HF2
    clear hn
    go_enter Try.func17, Try.ntmps17
    go_wp2
    go_region_held3 (fun w' => w'.cell? ⟨w.heap.size, 2, none⟩ = some (.int .i64 x.f2) ∧ w'.cell? ⟨w.heap.size, 3, none⟩ = some (.string x.f3) ∧ Hd W0 w.heap.size x base g gr v v2 u2 es cl cs w') (exact ⟨hh2, hh3, hhS⟩) (first | (go_at_call 22; (with_reducible refine (HF1.out _ hhS).mono ?_); rintro e w1 ⟨rfl, hhS⟩; have hh2 := hhS.op.c2; have hh3 := hhS.op.c3) | (go_at_call 29; (with_reducible refine (HF2.out _ hhS).mono ?_); rintro e w1 ⟨rfl, hhS⟩; have hh2 := hhS.op.c2; have hh3 := hhS.op.c3))
    all_goals
      go_wp2
      go_ret
      exact ⟨by simp, Pt.from_below HBS.out HB0.out (Pt.of_below HP0.out HC.out HL.out hhS.be)⟩
  have c5 : (x.f0 == 5) = false := beq_eq_false_iff_ne.2 k5
  by_cases k7 : x.f0 = 7
  · have c7 : (x.f0 == 7) = true := beq_iff_eq.2 k7
    clear k1 k2 k3 k4 k6 k5 k7
    have HF1 : Aside0 (∀ W, Hd W0 w.heap.size x base g gr v v2 u2 es cl cs W → Calls Try.prog 13 #[.pointer (some ⟨g, 0, none⟩), .int .i64 x.f2] W fun e w' => e = .returned (.int .i64 (cnt es x.f2 : Int)) ∧ Hd W0 w.heap.size x base g gr v v2 u2 es cl cs w') := ⟨fun W h => (count_calls W base g v es cl x.f2 h.pr.b (by have := HL.out; omega)).mono fun e w' ⟨he, hb⟩ => ⟨he, h.below hb⟩⟩
    have HF2 : Aside0 (∀ W, Hd W0 w.heap.size x base g gr v v2 u2 es cl cs W → Calls Try.prog 21 #[.pointer (some ⟨gr, 0, none⟩), .int .i64 x.f2] W fun e w' => e = .returned (.int .i64 (cnt es x.f2 : Int)) ∧ Hd W0 w.heap.size x base g gr v v2 u2 es cl cs w') := ⟨fun W h => (rcount_calls W base gr v2 u2 es cs x.f2 h.pr.r HL.out).mono fun e w' ⟨he, hb⟩ => ⟨he, h.below hb⟩⟩
    have hhS : Hd W0 w.heap.size x base g gr v v2 u2 es cl cs (w.alloc (.cells #[.int .i64 x.f0, .int .i64 x.f1, .int .i64 x.f2, .string x.f3, .int .i64 x.f4] 27)).drew := Hd.drew ⟨HOPL.out, HQ0.out, by rw [HW0.out]; exact Below.refl _ _⟩
    have hh2 := hhS.op.c2
    have hh3 := hhS.op.c3
    obtain ⟨n, hn⟩ : ∃ n : Int, n = (cnt es x.f2 : Int) := ⟨_, rfl⟩
    rw [← hn] at HF1 HF2
    clear hn
    go_enter Try.func17, Try.ntmps17
    go_wp2
    go_region_held3 (fun w' => w'.cell? ⟨w.heap.size, 2, none⟩ = some (.int .i64 x.f2) ∧ Hd W0 w.heap.size x base g gr v v2 u2 es cl cs w') (exact ⟨hh2, hhS⟩) (first | (go_at_call 13; (with_reducible refine (HF1.out _ hhS).mono ?_); rintro e w1 ⟨rfl, hhS⟩; have hh2 := hhS.op.c2) | (go_at_call 21; (with_reducible refine (HF2.out _ hhS).mono ?_); rintro e w1 ⟨rfl, hhS⟩; have hh2 := hhS.op.c2))
    all_goals
      go_wp2
      go_ret
      exact ⟨by simp, Pt.from_below HBS.out HB0.out (Pt.of_below HP0.out HC.out HL.out hhS.be)⟩
  · have c7 : (x.f0 == 7) = false := beq_eq_false_iff_ne.2 k7
    clear k1 k2 k3 k4 k5 k6 k7
    go_enter Try.func17, Try.ntmps17
    go_wp2
    go_ret
    exact ⟨rfl, Pt.from_below HBS.out HB0.out (by rw [HW0.out]; exact Pt.of_below HQ0.out HC.out HL.out (Below.refl _ _))⟩
end Go.Proofs.Ythadfkpibnhcgaa.B
