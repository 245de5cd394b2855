/- RollNumbers: its walk. Condition: the script reads as one. -/
import Derived.Test.YthadfkpibnhcgaaE0
import Derived.Deep.RegionWith
set_option linter.unusedVariables false
set_option linter.unusedSimpArgs false
namespace Go.Proofs.Ythadfkpibnhcgaa.B
open Go.RowKit Go.Proofs.Ythadfkpibnhcgaa.X Go.Proofs.YthadfkpibnhcgaaW.PrintWords Go.Proofs.YthadfkpibnhcgaaW.PrintLast Go.Proofs.YthadfkpibnhcgaaW.PrintMore

theorem IsB.drew {w : World} {base g : Nat} {v : Value} {es : List S44} {cl : Nat → Bool} (h : IsB w base g v es cl) : IsB w.drew base g v es cl := h.below (below_drew1 (Below.refl _ _))
theorem NumAt.drew {w : World} {b : Nat} {c : Nat → Int} (h : NumAt w b c) : NumAt w.drew b c := h
set_option maxHeartbeats 4000000 in
set_option maxRecDepth 100000 in
theorem numbers_calls (w : World) (A : Option Addr) (c : Nat) (l : List S27) (hr : Kd.C k27 w A l.length l) (hn : l.length ≤ 4611686018427387903) :
    Calls Try.prog 6 #[.slice A l.length c] w fun e w' => e = .returned (.bool true) ∧ Below w.heap.size w w' := by
  have hu44 := Try.underlying44
  have HR := Aside0.mk hr
  have HN := Aside0.mk hn
  have HAW := Aside0.mk (awake_calls w)
  have HNEW : Aside0 (∀ w1, Below w.heap.size w w1 → Calls Try.prog 9 #[] w1 fun e w' => ∃ g, e = .returned (.pointer (some ⟨g, 0, none⟩)) ∧ IsB w' w.heap.size g (.slice none 0 0) [] none_ ∧ Below w1.heap.size w1 w' ∧ w1.heap.size ≤ g) := ⟨fun w1 h => new_calls w1 w.heap.size h.size⟩
  clear hr hn
  go_enter Try.func6, Try.ntmps6
  go_wp2_with (first | (go_at_call 8; refine HAW.out.mono ?_; rintro e w1 ⟨rfl, hb⟩; have HB1 := Aside0.mk hb; clear hb) | (go_at_call 9; refine (HNEW.out _ HB1.out).mono ?_; rintro e w2 ⟨g, rfl, hi, hb, hge⟩; have HIA := Aside0.mk hi; have HB2 := Aside0.mk (below_step HB1.out hb); clear hi hb hge))
  obtain ⟨gc, hgc⟩ : ∃ gc, gc = w2.heap.size := ⟨_, rfl⟩
  have HGC := Aside0.mk hgc
  rw [← hgc]
  clear hgc
  have HNUM0 : Aside0 (NumAt (w2.alloc (.cells #[.int .i64 0, .int .i64 0, .int .i64 0, .int .i64 0, .int .i64 0, .int .i64 0] 45)) gc (cnts [])) := ⟨by rw [HGC.out]; exact blk_new _ _⟩
  have HIB0 := Aside0.mk (HIA.out.below (below_alloc (Below.refl w2.heap.size w2) (.cells #[.int .i64 0, .int .i64 0, .int .i64 0, .int .i64 0, .int .i64 0, .int .i64 0] 45)))
  have HB3 := Aside0.mk (below_alloc HB2.out (.cells #[.int .i64 0, .int .i64 0, .int .i64 0, .int .i64 0, .int .i64 0, .int .i64 0] 45))
  go_loopw [4, 6] (fun te ti wr => ∃ (i : Nat) (v : Value) (es : List S44) (cl : Nat → Bool), ti = .int .i64 (i : Int) ∧ te = .int .i64 (es.length : Int) ∧ Aside0 (i ≤ l.length) ∧ Aside0 (IsB wr w.heap.size g v es cl) ∧ Aside0 (es.length ≤ 64) ∧ Aside0 (Inv es) ∧ Aside0 (NumAt wr gc (cnts es)) ∧ Aside0 (Below w.heap.size w wr)) (fun _ ti _ => l.length - left ti)
  case atStart => exact ⟨0, _, [], _, rfl, rfl, ⟨Nat.zero_le _⟩, HIB0, ⟨by simp⟩, ⟨Inv.nil⟩, HNUM0, HB3⟩
  case round =>
    obtain ⟨i, v, es, cl, rfl, rfl, hi, HA, HL, HI, HQ, HB⟩ := hrel
    by_cases ci : i < l.length
    · have c1 : decide ((i : Int) < (l.length : Int)) = true := decide_eq_true (by omega)
      have c2 : decide (i < l.length) = true := decide_eq_true ci
      obtain ⟨ad, rfl, hx0, hx1, hx2, hx3, hx4⟩ := at27 (Kd.C_below HR.out HB.out) i ci
      obtain ⟨x, hx⟩ : ∃ x, x = rd27 l (i : Int) := ⟨_, rfl⟩
      rw [← hx] at hx0 hx1 hx2 hx3 hx4
      clear hx
      have W1 : Aside0 (wrap64 ((i : Int) + 1) = ((i + 1 : Nat) : Int)) := ⟨next1 i _ HN.out ci⟩
      have ML := Aside0.mk (less i l.length HN.out ci)
      -- the world in which the call of the script is laid
      obtain ⟨W0, hW0⟩ : ∃ W0, W0 = wr.alloc (.cells #[.int .i64 x.f0, .int .i64 x.f1, .int .i64 x.f2, .string x.f3, .int .i64 x.f4] 27) := ⟨_, rfl⟩
      have HW0 := Aside0.mk hW0
      have HOP : Aside0 (OpAt W0 wr.heap.size x) := ⟨by rw [hW0]; exact blk_new _ _⟩
      have HA0 : Aside0 (IsB W0 w.heap.size g v es cl) := ⟨by rw [hW0]; exact HA.out.below (below_alloc (Below.refl _ _) _)⟩
      have HQ0 : Aside0 (NumAt W0 gc (cnts es)) := ⟨by rw [hW0]; exact HQ.out.below (below_alloc (Below.refl _ _) _)⟩
      have HB0 : Aside0 (Below w.heap.size w W0) := ⟨by rw [hW0]; exact below_alloc HB.out _⟩
      clear hW0
      by_cases ce : x.f0 = 2
      · have c3 : (x.f0 == 2) = true := beq_iff_eq.2 ce
        clear ce
        have HCL : Aside0 (Calls Try.prog 10 #[.pointer (some ⟨g, 0, none⟩), .int .i64 x.f2] W0 fun e w' => e = .returned (.tuple #[]) ∧ IsB w' w.heap.size g v es (cloF cl x.f2) ∧ Below w.heap.size W0 w' ∧ KeepBut W0 w' g none) := ⟨close_calls W0 _ g v es cl x.f2 HA0.out⟩
        rw [HW0.out] at HCL
        have HNO : Aside0 ((isF x.f2 && !(cloF cl x.f2) x.f2.toNat) = false) := ⟨by
          unfold cloF clo
          cases isF x.f2 <;> simp⟩
        go_wp2_with (first | (go_at_call 10; (with_reducible refine HCL.out.mono ?_); rintro e w1 ⟨rfl, hi1, hb, hk⟩; rw [← HW0.out] at hb hk; have HA1 := Aside0.mk hi1; have HB1 := Aside0.mk (blw HB0.out hb); have HQ1 := Aside0.mk (HQ0.out.keep HA0.out (.inl rfl) hk); have hop2 := (HOP.out.keep HA0.out (.inl rfl) hk).c2; have HOPN : Aside0 (Calls Try.prog 12 #[.pointer (some ⟨g, 0, none⟩), .int .i64 x.f2] w1 fun e w' => e = .returned (.bool false) ∧ w1 = w') := ⟨by have := open_calls w1 _ g v es (cloF cl x.f2) x.f2 hi1; rw [HNO.out] at this; exact this⟩; clear hi1 hb hk) | (go_at_call 12; (with_reducible refine HOPN.out.mono ?_); rintro e w2 ⟨rfl, rfl⟩))
        exact ⟨⟨i + 1, v, es, cloF cl x.f2, by rw [W1.out], rfl, ⟨by omega⟩, HA1, HL, HI, HQ1, HB1⟩, ML.out⟩
      · have c3 : (x.f0 == 2) = false := beq_eq_false_iff_ne.2 ce
        clear ce
        by_cases hE : enterE es cl x.f2 x.f3 x.f4 = 0
        · obtain ⟨hf, hcl, hf0, hlt⟩ := enter_ok hE
          have hfr := of_decide_eq_true hf
          have d1 : decide (x.f2 < 1) = false := decide_eq_false (by omega)
          have d2 : decide (5 < x.f2) = false := decide_eq_false (by omega)
          have b1 : (0 ≤ x.f2) = True := eq_true (by omega)
          have b2 : (x.f2 < 6) = True := eq_true (by omega)
          have HF := Aside0.mk hf
          have HLT := Aside0.mk hlt
          have HK6 : Aside0 (x.f2.toNat < 6) := ⟨by omega⟩
          obtain ⟨q, hq⟩ : ∃ q : Nat, q = cnt es x.f2 := ⟨_, rfl⟩
          obtain ⟨n, hn⟩ : ∃ n : Int, n = ((cnt es x.f2 + 1 : Nat) : Int) := ⟨_, rfl⟩
          have HNE := Aside0.mk hn
          obtain ⟨es', hes'⟩ : ∃ es', es' = es ++ [(⟨x.f2, n, x.f3, x.f4⟩ : S44)] := ⟨_, rfl⟩
          have HES := Aside0.mk hes'
          have HI' : Aside0 (Inv es') := ⟨by rw [hes', hn]; exact HI.out.snoc hf⟩
          have HL' : Aside0 (es'.length = es.length + 1) := ⟨by rw [hes']; simp⟩
          have HCN : Aside0 ((fun k => if k = x.f2.toNat then n else cnts es k) = cnts es') := ⟨by rw [hes', hn]; exact cnts_snoc es x.f2 x.f3 x.f4 _ hf⟩
          have HF1 : Aside0 (Calls Try.prog 22 #[.pointer (some ⟨g, 0, none⟩), .int .i64 x.f2, .string x.f3] W0 fun e w' => e = .returned (.int .i64 0) ∧ Below W0.heap.size W0 w') := ⟨by have := find_calls W0 _ g v es cl x.f2 x.f3 HA0.out (by have := HL.out; omega); rw [hf0] at this; exact this⟩
          rw [HW0.out] at HF1
          have HO1 : Aside0 (∀ w1, IsB w1 w.heap.size g v es cl → Calls Try.prog 12 #[.pointer (some ⟨g, 0, none⟩), .int .i64 x.f2] w1 fun e w' => e = .returned (.bool true) ∧ w1 = w') := ⟨fun w1 h => by have := open_calls w1 _ g v es cl x.f2 h; rw [hf, hcl] at this; exact this⟩
          have HE1 : Aside0 (∀ w1, IsB w1 w.heap.size g v es cl → Calls Try.prog 11 #[.pointer (some ⟨g, 0, none⟩), .int .i64 x.f2, .string x.f3, .int .i64 x.f4] w1 fun e w' => e = .returned (.tuple #[.int .i64 n, .int .i64 0]) ∧ Turned w1 w' w.heap.size g v es' cl) := ⟨fun w1 h => by
            have := enter_calls w1 _ g v es cl x.f2 x.f3 x.f4 h HL.out
            unfold enterN enterS at this
            rw [hE, if_pos rfl, if_pos rfl, ← hn, ← hes'] at this; exact this⟩
          have HA1 : Aside0 (∀ w1 v', IsB w1 w.heap.size g v' es' cl → Calls Try.prog 23 #[.pointer (some ⟨g, 0, none⟩), .int .i64 x.f2, .int .i64 n] w1 fun e w' => e = .returned (.tuple #[.agg #[.int .i64 x.f2, .int .i64 n, .string x.f3, .int .i64 x.f4], .bool true]) ∧ Below w1.heap.size w1 w') := ⟨fun w1 v' h => by
            have := at_calls w1 _ g v' es' cl x.f2 n h (by have := HL'.out; omega)
            rw [hes', hn, HI.out.at_new] at this; rw [hn]; exact this⟩
          have HF2 : Aside0 (∀ w1 v', IsB w1 w.heap.size g v' es' cl → Calls Try.prog 22 #[.pointer (some ⟨g, 0, none⟩), .int .i64 x.f2, .string x.f3] w1 fun e w' => e = .returned (.int .i64 n) ∧ Below w1.heap.size w1 w') := ⟨fun w1 v' h => by
            have := find_calls w1 _ g v' es' cl x.f2 x.f3 h (by have := HL'.out; omega)
            rw [hes', hn, HI.out.found hf0] at this; rw [hn]; exact this⟩
          have WQ0 : Aside0 ((q : Int) + 1 = n) := ⟨by rw [hq, hn]; rfl⟩
          have WQ : Aside0 (wrap64 ((q : Int) + 1) = n) := ⟨by have := cnt_le es x.f2; rw [w64s (by omega) (by omega), WQ0.out]⟩
          have eq1 : ∀ [Inhabited Unit], wrap64 n = n := fun {_} => by rw [← WQ0.out]; rw [WQ.out, WQ0.out]
          have eq2 : ∀ [Inhabited Unit], (q : Int) + 1 = n := fun {_} => WQ0.out
          have hgl := blk_lt HQ.out
          have ne1 : (wr.heap.size = gc) = False := eq_false (by omega)
          have ne2 : (gc = wr.heap.size) = False := eq_false (by omega)
          have HNE2 : Aside0 (wr.heap.size ≠ gc) := ⟨by omega⟩
          have HGE : Aside0 (w.heap.size ≤ gc) := ⟨by have := HB2.out.size; have := HGC.out; omega⟩
          have HC4 : Aside0 (cnts es' x.f2.toNat = n) := ⟨by rw [← HCN.out]; exact if_pos rfl⟩
          clear hgl
          have WL : Aside0 (wrap64 ((es.length : Int) + 1) = (es'.length : Int)) := ⟨by have h1 := HL'.out; rw [w64s (by omega) (by omega), h1]; rfl⟩
          have HCQ : Aside0 (cnts es x.f2.toNat = (q : Int)) := ⟨by unfold cnts; rw [hq, show ((x.f2.toNat : Nat) : Int) = x.f2 by omega]⟩
          clear hE hf hcl hf0 hlt hfr hq hes' hn
          go_wp2_with (first | (go_at_call 23; (with_reducible refine (HA1.out _ _ HA4.out).mono ?_); rintro e w5 ⟨rfl, hb⟩; have HA5' := Aside0.mk (HA4.out.below hb); have HA5 := Aside0.mk (HA5'.out.below (below_alloc (Below.refl _ _) (.cells #[.int .i64 x.f2, .int .i64 n, .string x.f3, .int .i64 x.f4] 44))); have HQ5' := Aside0.mk (HQ4.out.below hb); have HQ5 := Aside0.mk (HQ5'.out.below (below_alloc (Below.refl _ _) (.cells #[.int .i64 x.f2, .int .i64 n, .string x.f3, .int .i64 x.f4] 44))); have HB5' := Aside0.mk (below_step HB4.out hb); have HB5 := Aside0.mk (below_alloc HB5'.out (.cells #[.int .i64 x.f2, .int .i64 n, .string x.f3, .int .i64 x.f4] 44)); have HOP5' := Aside0.mk (HOP4.out.below hb); have HOP5 := Aside0.mk (HOP5'.out.below (below_alloc (Below.refl _ _) (.cells #[.int .i64 x.f2, .int .i64 n, .string x.f3, .int .i64 x.f4] 44))); have hop52 := HOP5.out.c2; have hop53 := HOP5.out.c3; have hop54 := HOP5.out.c4; have hnc5 := HQ5.out.cell _ HK6.out; rw [HC4.out] at hnc5; have HX5 : Aside0 ((w5.alloc (.cells #[.int .i64 x.f2, .int .i64 n, .string x.f3, .int .i64 x.f4] 44)).heap[w5.heap.size]? = some (.cells #[.int .i64 x.f2, .int .i64 n, .string x.f3, .int .i64 x.f4] 44 (0, 0))) := ⟨blk_new _ _⟩; clear hb) | (go_at_call 22; (with_reducible refine (HF2.out _ _ HA5.out).mono ?_); rintro e w6 ⟨rfl, hb⟩; have HA6 := Aside0.mk (HA5.out.below hb); have HQ6 := Aside0.mk (HQ5.out.below hb); have HB6 := Aside0.mk (below_step HB5.out hb); have HOP6 := Aside0.mk (HOP5.out.below hb); have hop62 := HOP6.out.c2; have hop63 := HOP6.out.c3; have hop64 := HOP6.out.c4; have HX6 := Aside0.mk (blk_below HX5.out hb); have hx60 := (blk_cell HX6.out 0).trans rfl; have hx61 := (blk_cell HX6.out 1).trans rfl; have hx62 := (blk_cell HX6.out 2).trans rfl; have hx63 := (blk_cell HX6.out 3).trans rfl; clear hb) | (go_at_call 22; (with_reducible refine HF1.out.mono ?_); rintro e w1 ⟨rfl, hb⟩; rw [← HW0.out] at hb; have HA1' := Aside0.mk (HA0.out.below hb); have HQ1 := Aside0.mk (HQ0.out.below hb); have HB1 := Aside0.mk (below_step HB0.out hb); have HOP1 := Aside0.mk (HOP.out.below hb); have hop12 := HOP1.out.c2; have hop13 := HOP1.out.c3; have hop14 := HOP1.out.c4; clear hb) | (go_at_call 12; (with_reducible refine (HO1.out _ HA1'.out).mono ?_); rintro e w2 ⟨rfl, rfl⟩) | (go_at_call 11; (with_reducible refine (HE1.out _ HA1'.out).mono ?_); rintro e w3 ⟨rfl, v3, hi3, hb, hk, _⟩; have HA3 := Aside0.mk hi3; have HB3' := Aside0.mk (blw HB1.out hb); have HQ3 := Aside0.mk (HQ1.out.keep HA1'.out (.inr rfl) hk); have HOP3 := Aside0.mk (HOP1.out.keep HA1'.out (.inr rfl) hk); have hop32 := HOP3.out.c2; have hop33 := HOP3.out.c3; have hop34 := HOP3.out.c4; have hnc := HQ3.out.cell _ HK6.out; rw [HCQ.out] at hnc; have hnz := blk_frozen HQ3.out x.f2.toNat; have HA4 := Aside0.mk (hi3.far HQ3.out (by decide) (by decide) x.f2.toNat (.int .i64 n)); have HQ4 : Aside0 (NumAt (w3.setCell ⟨gc, x.f2.toNat, none⟩ (.int .i64 n)) gc (cnts es')) := ⟨by have := blk_set HQ3.out x.f2.toNat (.int .i64 n); rw [a6_set _ _ _ HK6.out, HCN.out] at this; exact this⟩; have HB4 := Aside0.mk (below_set (j := x.f2.toNat) (v := .int .i64 n) HB3'.out HGE.out); have HOP4 : Aside0 (OpAt (w3.setCell ⟨gc, x.f2.toNat, none⟩ (.int .i64 n)) wr.heap.size x) := ⟨blk_far HOP3.out HNE2.out _⟩; clear hi3 hb hk))
          exact ⟨⟨i + 1, _, es', cl, by rw [W1.out], by rw [WL.out], ⟨by omega⟩, HA6, ⟨by have := HL'.out; have := HLT.out; omega⟩, HI', HQ6, HB6⟩, ML.out⟩
        · obtain ⟨p, hp⟩ : ∃ p, p = fnd es x.f2 x.f3 := ⟨_, rfl⟩
          obtain ⟨o, ho⟩ : ∃ o, o = (isF x.f2 && !cl x.f2.toNat) := ⟨_, rfl⟩
          obtain ⟨q, hq⟩ : ∃ q, q = enterE es cl x.f2 x.f3 x.f4 := ⟨_, rfl⟩
          have HFI : Aside0 (∀ w1 v', IsB w1 w.heap.size g v' es cl → Calls Try.prog 22 #[.pointer (some ⟨g, 0, none⟩), .int .i64 x.f2, .string x.f3] w1 fun e w' => e = .returned (.int .i64 p) ∧ Below w1.heap.size w1 w') := ⟨fun w1 v' h => by have := find_calls w1 _ g v' es cl x.f2 x.f3 h (by have := HL.out; omega); rw [← hp] at this; exact this⟩
          have HF1 := Aside0.mk (HFI.out W0 v HA0.out)
          rw [HW0.out] at HF1
          have HO1 : Aside0 (∀ w1, IsB w1 w.heap.size g v es cl → Calls Try.prog 12 #[.pointer (some ⟨g, 0, none⟩), .int .i64 x.f2] w1 fun e w' => e = .returned (.bool o) ∧ w1 = w') := ⟨fun w1 h => by have := open_calls w1 _ g v es cl x.f2 h; rw [← ho] at this; exact this⟩
          have HE1 : Aside0 (∀ w1, IsB w1 w.heap.size g v es cl → Calls Try.prog 11 #[.pointer (some ⟨g, 0, none⟩), .int .i64 x.f2, .string x.f3, .int .i64 x.f4] w1 fun e w' => e = .returned (.tuple #[.int .i64 0, .int .i64 q]) ∧ Turned w1 w' w.heap.size g v es cl) := ⟨fun w1 h => by
            have := enter_calls w1 _ g v es cl x.f2 x.f3 x.f4 h HL.out
            unfold enterN enterS at this
            rw [if_neg hE, if_neg hE, ← hq] at this; exact this⟩
          rw [← hq] at hE
          have d1 : (q == 0) = false := beq_eq_false_iff_ne.2 hE
          have d2 : (q != 0) = true := bne_iff_ne.2 hE
          clear hE hp ho hq
          go_wp2_with (first | (go_at_call 22; (with_reducible refine (HFI.out _ _ HA3.out).mono ?_); rintro e w4 ⟨rfl, hb⟩; have HA4 := Aside0.mk (HA3.out.below hb); have HQ4 := Aside0.mk (HQ3.out.below hb); have HB4 := Aside0.mk (below_step HB3'.out hb); clear hb) | (go_at_call 22; (with_reducible refine HF1.out.mono ?_); rintro e w1 ⟨rfl, hb⟩; rw [← HW0.out] at hb; have HA1' := Aside0.mk (HA0.out.below hb); have HQ1 := Aside0.mk (HQ0.out.below hb); have HB1 := Aside0.mk (below_step HB0.out hb); have HOP1 := Aside0.mk (HOP.out.below hb); have hop12 := HOP1.out.c2; have hop13 := HOP1.out.c3; have hop14 := HOP1.out.c4; clear hb) | (go_at_call 12; (with_reducible refine (HO1.out _ HA1'.out).mono ?_); rintro e w2 ⟨rfl, rfl⟩) | (go_at_call 11; (with_reducible refine (HE1.out _ HA1'.out).mono ?_); rintro e w3 ⟨rfl, v3, hi3, hb, hk, _⟩; have HA3 := Aside0.mk hi3; have HB3' := Aside0.mk (blw HB1.out hb); have HQ3 := Aside0.mk (HQ1.out.keep HA1'.out (.inr rfl) hk); have HOP3 := Aside0.mk (HOP1.out.keep HA1'.out (.inr rfl) hk); have hop32 := HOP3.out.c2; have hop33 := HOP3.out.c3; have hop34 := HOP3.out.c4; clear hi3 hb hk))
          exact ⟨⟨i + 1, _, es, cl, by rw [W1.out], rfl, ⟨by omega⟩, HA4, HL, HI, HQ4, HB4⟩, ML.out⟩
    · have c1 : decide ((i : Int) < (l.length : Int)) = false := decide_eq_false (by omega)
      have c2 : decide (i < l.length) = false := decide_eq_false ci
      have HALL := Aside0.mk (all_calls wr _ g v es cl HA.out HL.out)
      have c3 : decide ((64 : Int) < (es.length : Int)) = false := decide_eq_false (by have := HL.out; omega)
      have c4 : decide (64 < es.length) = false := decide_eq_false (by have := HL.out; omega)
      go_wp2_with (go_at_call 14; refine HALL.out.mono ?_; rintro e w1 ⟨v1, rfl, ho, hb⟩; obtain ⟨A1, cc1, rfl⟩ := Kd.R_slice ho; have HO1 := Aside0.mk (Kd.R_lower ho HB.out.size); have HB1 := Aside0.mk (below_step HB.out hb); have HA1 := Aside0.mk (HA.out.below hb); have HQ1 := Aside0.mk (HQ.out.below hb); clear ho hb)
      obtain ⟨gs, hgs⟩ : ∃ gs, gs = w1.heap.size := ⟨_, rfl⟩
      have HGS := Aside0.mk hgs
      rw [← hgs]
      clear hgs
      have HNS : Aside0 (gc ≠ gs) := ⟨by have := blk_lt HQ1.out; have := HGS.out; omega⟩
      have HGE : Aside0 (w.heap.size ≤ gs) := ⟨by have := HB1.out.size; have := HGS.out; omega⟩
      have HS0 : Aside0 (NumAt (w1.alloc (.cells #[.int .i64 0, .int .i64 0, .int .i64 0, .int .i64 0, .int .i64 0, .int .i64 0] 45)) gs (cnts (es.take 0))) := ⟨by rw [HGS.out]; exact blk_new _ _⟩
      have HB2' := Aside0.mk (below_alloc HB1.out (.cells #[.int .i64 0, .int .i64 0, .int .i64 0, .int .i64 0, .int .i64 0, .int .i64 0] 45))
      have HA2 := Aside0.mk (HA1.out.below (below_alloc (Below.refl _ _) (.cells #[.int .i64 0, .int .i64 0, .int .i64 0, .int .i64 0, .int .i64 0, .int .i64 0] 45)))
      have HQ2 := Aside0.mk (HQ1.out.below (below_alloc (Below.refl _ _) (.cells #[.int .i64 0, .int .i64 0, .int .i64 0, .int .i64 0, .int .i64 0, .int .i64 0] 45)))
      have HO2 := Aside0.mk (Kd.R_below HO1.out (below_alloc (Below.refl _ _) (.cells #[.int .i64 0, .int .i64 0, .int .i64 0, .int .i64 0, .int .i64 0, .int .i64 0] 45)))
      go_loopw [16] (fun tj wr2 => ∃ j : Nat, tj = .int .i64 (j : Int) ∧ Aside0 (j ≤ es.length) ∧ Aside0 (NumAt wr2 gs (cnts (es.take j))) ∧ Aside0 (IsB wr2 w.heap.size g v es cl) ∧ Aside0 (NumAt wr2 gc (cnts es)) ∧ Aside0 (Kd.R k44 44 wr2 w.heap.size (fun _ => True) (.slice A1 es.length cc1) es) ∧ Aside0 (Below w.heap.size w wr2)) (fun tj _ => es.length - left tj)
      case atStart => exact ⟨0, rfl, ⟨Nat.zero_le _⟩, HS0, HA2, HQ2, HO2, HB2'⟩
      case round =>
        obtain ⟨j, rfl, hj, HS, HA3, HQ3, HO3, HB3'⟩ := hrel
        by_cases cj : j < es.length
        · have d1 : decide ((j : Int) < (es.length : Int)) = true := decide_eq_true (by omega)
          have d2 : decide (j < es.length) = true := decide_eq_true cj
          obtain ⟨x, hx⟩ : ∃ x, x = rd_T44 es (j : Int) := ⟨_, rfl⟩
          have hxe : x = es[j] := by rw [hx, rd_at es j cj]
          have hinv := HI.out j cj
          rw [← hxe] at hinv
          obtain ⟨hf, hnum⟩ := hinv
          have hfr := of_decide_eq_true hf
          have d3 : decide (x.f0 < 1) = false := decide_eq_false (by omega)
          have d4 : decide (5 < x.f0) = false := decide_eq_false (by omega)
          have b1 : (0 ≤ x.f0) = True := eq_true (by omega)
          have b2 : (x.f0 < 6) = True := eq_true (by omega)
          have HK6 : Aside0 (x.f0.toNat < 6) := ⟨by omega⟩
          obtain ⟨q, hq⟩ : ∃ q : Nat, q = cnt (es.take j) x.f0 := ⟨_, rfl⟩
          have hsn := cnt_snoc es j x.f0 cj
          rw [← hx, beq_self_eq_true, if_pos rfl, ← hq] at hsn
          obtain ⟨n, hn⟩ : ∃ n : Int, n = ((q + 1 : Nat) : Int) := ⟨_, rfl⟩
          have hxn : x.f1 = n := by rw [hnum, hsn, hn]
          have HCQ : Aside0 (cnts (es.take j) x.f0.toNat = (q : Int)) := ⟨by unfold cnts; rw [hq, show ((x.f0.toNat : Nat) : Int) = x.f0 by omega]⟩
          have HCN : Aside0 ((fun k => if k = x.f0.toNat then n else cnts (es.take j) k) = cnts (es.take (j + 1))) := ⟨by
            funext k
            have ck := cnt_snoc es j (k : Int) cj
            rw [← hx] at ck
            unfold cnts
            by_cases hk : k = x.f0.toNat
            · have hk2 : ((k : Nat) : Int) = x.f0 := by omega
              rw [if_pos hk, hk2, hsn, hn]
            · have hk2 : (x.f0 == (k : Int)) = false := beq_eq_false_iff_ne.2 (by omega)
              rw [hk2] at ck
              rw [if_neg hk, ck]; rfl⟩
          have WQ0 : Aside0 ((q : Int) + 1 = n) := ⟨by rw [hn]; rfl⟩
          have WQ : Aside0 (wrap64 ((q : Int) + 1) = n) := ⟨by have h1 := cnt_le (es.take j) x.f0; rw [List.length_take] at h1; have := HL.out; rw [w64s (by omega) (by omega), WQ0.out]⟩
          have eq1 : ∀ [Inhabited Unit], wrap64 n = n := fun {_} => by rw [← WQ0.out]; rw [WQ.out, WQ0.out]
          have eq2 : ∀ [Inhabited Unit], (q : Int) + 1 = n := fun {_} => WQ0.out
          have hnc := HS.out.cell _ HK6.out
          rw [HCQ.out] at hnc
          have hnz := blk_frozen HS.out x.f0.toNat
          obtain ⟨ad, e0, hx0, hx1, hx2, hx3⟩ := at_T44 (Kd.R_reads' HO3.out).2.2 (j : Int) (by omega) (by omega)
          -- behind the store
          have HS4 : Aside0 (NumAt (wr.setCell ⟨gs, x.f0.toNat, none⟩ (.int .i64 n)) gs (cnts (es.take (j + 1)))) := ⟨by have := blk_set HS.out x.f0.toNat (.int .i64 n); rw [a6_set _ _ _ HK6.out, HCN.out] at this; exact this⟩
          have HA4 := Aside0.mk (HA3.out.far HS.out (by decide) (by decide) x.f0.toNat (.int .i64 n))
          have HQ4 : Aside0 (NumAt (wr.setCell ⟨gs, x.f0.toNat, none⟩ (.int .i64 n)) gc (cnts es)) := ⟨blk_far HQ3.out HNS.out _⟩
          have HO4 : Aside0 (Kd.R k44 44 (wr.setCell ⟨gs, x.f0.toNat, none⟩ (.int .i64 n)) w.heap.size (fun _ => True) (.slice A1 es.length cc1) es) := ⟨Kd.R_set HO3.out HS.out (fun q hq => by have : k44.E = [] := rfl; rw [this] at hq; simp at hq; omega) _ _⟩
          have HB4 := Aside0.mk (below_set (j := x.f0.toNat) (v := .int .i64 n) HB3'.out HGE.out)
          obtain ⟨ad4, e4, _, hy1, _, _⟩ := at_T44 (Kd.R_reads' HO4.out).2.2 (j : Int) (by omega) (by omega)
          subst e0
          obtain rfl : ad = ad4 := by injection e4
          rw [Int.toNat_natCast] at hx0 hx1 hx2 hx3 hy1
          rw [← hx] at hx0 hx1 hx2 hx3 hy1
          rw [hxn] at hx1 hy1
          have HN4 : Aside0 (cnts (es.take (j + 1)) x.f0.toNat = n) := ⟨by rw [← HCN.out]; exact if_pos rfl⟩
          have hnc4 := HS4.out.cell _ HK6.out
          rw [HN4.out] at hnc4
          have W1 : Aside0 (wrap64 ((j : Int) + 1) = ((j + 1 : Nat) : Int)) := ⟨next1 j es.length (by have := HL.out; omega) cj⟩
          have ML := Aside0.mk (less j es.length (by have := HL.out; omega) cj)
          clear hx hxe hf hnum hfr hq hsn hn hxn e4
          go_wp2
          go_quiet (fail)
          go_wp2
          exact ⟨⟨j + 1, by rw [W1.out], ⟨by omega⟩, ⟨HS4.out.below (pw_below_drewN (Below.refl _ _) _)⟩, ⟨HA4.out.below (pw_below_drewN (Below.refl _ _) _)⟩, ⟨HQ4.out.below (pw_below_drewN (Below.refl _ _) _)⟩, ⟨Kd.R_below HO4.out (pw_below_drewN (Below.refl _ _) _)⟩, ⟨pw_below_drewN HB4.out _⟩⟩, ML.out⟩
        · have d1 : decide ((j : Int) < (es.length : Int)) = false := decide_eq_false (by omega)
          have d2 : decide (j < es.length) = false := decide_eq_false cj
          have HS' : Aside0 (NumAt wr gs (cnts es)) := ⟨by have := HS.out; rwa [List.take_of_length_le (by omega)] at this⟩
          go_wp2
          go_loopw [18] (fun tf wr3 => ∃ f : Nat, tf = .int .i64 (f : Int) ∧ Aside0 (1 ≤ f ∧ f ≤ 6) ∧ Aside0 (NumAt wr3 gs (cnts es)) ∧ Aside0 (IsB wr3 w.heap.size g v es cl) ∧ Aside0 (NumAt wr3 gc (cnts es)) ∧ Aside0 (Below w.heap.size w wr3)) (fun tf _ => 6 - left tf)
          case atStart => exact ⟨1, rfl, ⟨by omega⟩, HS', HA3, HQ3, HB3'⟩
          case round =>
            obtain ⟨f, rfl, hf, HS5, HA5, HQ5, HB5⟩ := hrel
            by_cases cf : f < 6
            · have d3 : decide ((f : Int) < 6) = true := decide_eq_true (by omega)
              have d4 : decide (f < 6) = true := decide_eq_true cf
              obtain ⟨n, hn⟩ : ∃ n : Nat, n = cnt es (f : Int) := ⟨_, rfl⟩
              have HCF : Aside0 (cnts es f = (n : Int)) := ⟨by unfold cnts; rw [hn]⟩
              have hs0 := HS5.out.cell _ cf
              have hc0 := HQ5.out.cell _ cf
              rw [HCF.out] at hs0 hc0
              have HCO : Aside0 (∀ w1, IsB w1 w.heap.size g v es cl → Calls Try.prog 13 #[.pointer (some ⟨g, 0, none⟩), .int .i64 (f : Int)] w1 fun e w' => e = .returned (.int .i64 (n : Int)) ∧ Below w1.heap.size w1 w') := ⟨fun w1 h => by have := count_calls w1 _ g v es cl (f : Int) h (by have := HL.out; omega); rw [← hn] at this; exact this⟩
              have HAT : Aside0 (∀ w1, IsB w1 w.heap.size g v es cl → Calls Try.prog 23 #[.pointer (some ⟨g, 0, none⟩), .int .i64 (f : Int), .int .i64 ((n : Int) + 1)] w1 fun e w' => e = .returned (.tuple #[.agg #[.int .i64 0, .int .i64 0, .string ⟨#[]⟩, .int .i64 0], .bool false]) ∧ Below w1.heap.size w1 w') := ⟨fun w1 h => by have := at_calls w1 _ g v es cl (f : Int) ((n : Int) + 1) h (by have := HL.out; omega); rw [HI.out.beyond (f : Int) (by rw [← hn]; omega)] at this; exact this⟩
              have WN : Aside0 (wrap64 ((n : Int) + 1) = (n : Int) + 1) := ⟨by have := cnt_le es (f : Int); have := HL.out; rw [w64s (by omega) (by omega)]⟩
              have eqn : ∀ [Inhabited Unit], wrap64 ((n : Int) + 1) = (n : Int) + 1 := fun {_} => WN.out
              have HF6 : Aside0 (f < 6) := ⟨cf⟩
              clear hn
              go_wp2
              go_region_with ((go_at_call 13; (refine (HCO.out _ (by repeat (first | (with_reducible exact HA5.out) | (with_reducible apply IsB.drew)))).mono ?_); rintro e w6 ⟨rfl, hb⟩; have HA6 := Aside0.mk (IsB.below (by repeat (first | (with_reducible exact HA5.out) | (with_reducible apply IsB.drew))) hb); have HS6 := Aside0.mk (NumAt.below (b := gs) (c := cnts es) (by repeat (first | (with_reducible exact HS5.out) | (with_reducible apply NumAt.drew))) hb); have HQ6 := Aside0.mk (NumAt.below (b := gc) (c := cnts es) (by repeat (first | (with_reducible exact HQ5.out) | (with_reducible apply NumAt.drew))) hb); have HB6 := Aside0.mk (below_step (by repeat (first | (with_reducible exact HB5.out) | (with_reducible apply below_drew1))) hb); have hs6 := HS6.out.cell _ HF6.out; have hc6 := HQ6.out.cell _ HF6.out; rw [HCF.out] at hs6 hc6; clear hb))
              all_goals
                go_wp2_with (go_at_call 23; (refine (HAT.out _ (by repeat (first | (with_reducible exact HA6.out) | (with_reducible apply IsB.drew)))).mono ?_); rintro e w7 ⟨rfl, hb⟩; have HA7 := Aside0.mk (IsB.below (by repeat (first | (with_reducible exact HA6.out) | (with_reducible apply IsB.drew))) hb); have HS7 := Aside0.mk (NumAt.below (b := gs) (c := cnts es) (by repeat (first | (with_reducible exact HS6.out) | (with_reducible apply NumAt.drew))) hb); have HQ7 := Aside0.mk (NumAt.below (b := gc) (c := cnts es) (by repeat (first | (with_reducible exact HQ6.out) | (with_reducible apply NumAt.drew))) hb); have HB7 := Aside0.mk (below_step (by repeat (first | (with_reducible exact HB6.out) | (with_reducible apply below_drew1))) hb); clear hb)
                exact ⟨⟨f + 1, rfl, ⟨by have := hf.out; omega⟩, ⟨HS7.out.below (below_alloc (Below.refl _ _) _)⟩, ⟨HA7.out.below (below_alloc (Below.refl _ _) _)⟩, ⟨HQ7.out.below (below_alloc (Below.refl _ _) _)⟩, ⟨below_alloc HB7.out _⟩⟩, by show 6 - ((f : Int) + 1).toNat < 6 - ((f : Nat) : Int).toNat; omega⟩
            · have d3 : decide ((f : Int) < 6) = false := decide_eq_false (by omega)
              have d4 : decide (f < 6) = false := decide_eq_false cf
              go_wp2
              go_ret
              exact ⟨rfl, HB5.out⟩
end Go.Proofs.Ythadfkpibnhcgaa.B
