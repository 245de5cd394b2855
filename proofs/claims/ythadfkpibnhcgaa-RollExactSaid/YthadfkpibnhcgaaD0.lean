/- RollApart: its walk. Condition: the script reads as one. -/
import Derived.Test.YthadfkpibnhcgaaC0
set_option linter.unusedVariables false
set_option linter.unusedSimpArgs false
namespace Go.Proofs.Ythadfkpibnhcgaa.B
open Go.RowKit Go.Proofs.Ythadfkpibnhcgaa.X Go.Proofs.YthadfkpibnhcgaaW.PrintWords Go.Proofs.YthadfkpibnhcgaaW.PrintLast Go.Proofs.YthadfkpibnhcgaaW.PrintMore

structure S27 where
  f0 : Int
  f1 : Int
  f2 : Int
  f3 : ByteArray
  f4 : Int
def z27 : S27 := ⟨0, 0, 0, ⟨#[]⟩, 0⟩
def k27 : Kd S27 := Kd.iso (Kd.pair (Kd.int .i64) (Kd.pair (Kd.int .i64) (Kd.pair (Kd.int .i64) (Kd.pair Kd.string (Kd.int .i64))))) (fun x : S27 => (x.f0, x.f1, x.f2, x.f3, x.f4))
theorem k27_open {w : World} {x : S27} {cs : List Value} (h : k27.K w x cs) : cs = [.int .i64 x.f0, .int .i64 x.f1, .int .i64 x.f2, .string x.f3, .int .i64 x.f4] := by
  obtain ⟨_, _, rfl, rfl, ⟨_, _, rfl, rfl, ⟨_, _, rfl, rfl, ⟨_, _, rfl, rfl, rfl⟩⟩⟩⟩ := h
  exact rfl
theorem k27_mk (w : World) (x : S27) : k27.K w x [.int .i64 x.f0, .int .i64 x.f1, .int .i64 x.f2, .string x.f3, .int .i64 x.f4] :=
  ⟨[.int .i64 x.f0], [.int .i64 x.f1, .int .i64 x.f2, .string x.f3, .int .i64 x.f4], rfl, rfl, ⟨[.int .i64 x.f1], [.int .i64 x.f2, .string x.f3, .int .i64 x.f4], rfl, rfl, ⟨[.int .i64 x.f2], [.string x.f3, .int .i64 x.f4], rfl, rfl, ⟨[.string x.f3], [.int .i64 x.f4], rfl, rfl, rfl⟩⟩⟩⟩
def rd27 (xs : List S27) (i : Int) : S27 := xs.getD i.toNat z27
theorem at27 {w : World} {A : Option Addr} {n : Nat} {xs : List S27} (h : Kd.C k27 w A n xs) (i : Nat) (h1 : i < n) : ∃ ad, A = some ad ∧ w.cell? (ad.add (i * 5)) = some (.int .i64 (rd27 xs i).f0) ∧ w.cell? ⟨(ad.add (i * 5)).block, (ad.add (i * 5)).off + 1, none⟩ = some (.int .i64 (rd27 xs i).f1) ∧ w.cell? ⟨(ad.add (i * 5)).block, (ad.add (i * 5)).off + 2, none⟩ = some (.int .i64 (rd27 xs i).f2) ∧ w.cell? ⟨(ad.add (i * 5)).block, (ad.add (i * 5)).off + 3, none⟩ = some (.string (rd27 xs i).f3) ∧ w.cell? ⟨(ad.add (i * 5)).block, (ad.add (i * 5)).off + 4, none⟩ = some (.int .i64 (rd27 xs i).f4) := by
  obtain ⟨ad, c, e, _, hK, hc0⟩ := Kd.C_get h z27 (i : Int) (by omega) (by omega)
  have hc : ∀ j u, c[j]? = some u → w.cell? (ad.add (i * 5 + j)) = some u := hc0
  obtain rfl := k27_open hK
  exact ⟨ad, e, hc 0 _ rfl, by rw [← add_field _ _ 1 (by omega)]; exact hc 1 _ rfl, by rw [← add_field _ _ 2 (by omega)]; exact hc 2 _ rfl, by rw [← add_field _ _ 3 (by omega)]; exact hc 3 _ rfl, by rw [← add_field _ _ 4 (by omega)]; exact hc 4 _ rfl⟩
/-- A book without entries, beside calls on another one. -/
theorem IsB.keep0 {w w' : World} {base g g' : Nat} {cl : Nat → Bool} {row : Option Nat} (h : IsB w base g (.slice none 0 0) [] cl) (hk : KeepBut w w' g' row) (hg : g ≠ g') (hr : some g ≠ row) : IsB w' base g (.slice none 0 0) [] cl :=
  ⟨hk.blk h.blk hg hr, h.le, Kd.R_nil _ _ _ _ _⟩
theorem IsB.row_ne {w : World} {base g g' : Nat} {v v' : Value} {es es' : List S44} {cl cl' : Nat → Bool} (h : IsB w base g v es cl) (h' : IsB w base g' v' es' cl') : some g' ≠ v.ownBlock := Kd.R_ne h.row h'.blk (by decide)
/-- What one call of the script leaves of the book. -/
def stepC (es : List S44) (cl : Nat → Bool) (o : S27) : Nat → Bool := if o.f0 = 2 then cloF cl o.f2 else cl
def stepS (es : List S44) (cl : Nat → Bool) (o : S27) : List S44 := if o.f0 = 2 then es else enterS es cl o.f2 o.f3 o.f4
set_option maxHeartbeats 4000000 in
set_option maxRecDepth 100000 in
theorem apart_calls (w : World) (A : Option Addr) (c : Nat) (l : List S27) (hr : Kd.C k27 w A l.length l) (hn : l.length ≤ 4611686018427387903) :
    Calls Try.prog 3 #[.slice A l.length c] w fun e w' => e = .returned (.bool true) ∧ Below w.heap.size w w' := by
  have HR := Aside0.mk hr
  have HN := Aside0.mk hn
  have HAW := Aside0.mk (awake_calls w)
  have HNEW : Aside0 (∀ w1, Below w.heap.size w w1 → Calls Try.prog 9 #[] w1 fun e w' => ∃ g, e = .returned (.pointer (some ⟨g, 0, none⟩)) ∧ IsB w' w.heap.size g (.slice none 0 0) [] none_ ∧ Below w1.heap.size w1 w' ∧ w1.heap.size ≤ g) := ⟨fun w1 h => new_calls w1 w.heap.size h.size⟩
  clear hr hn
  go_enter Try.func3, Try.ntmps3
  go_wp2_with (first | (go_at_call 8; refine HAW.out.mono ?_; rintro e w1 ⟨rfl, hb⟩; have HB1 := Aside0.mk hb; clear hb) | (go_at_call 9; refine (HNEW.out _ HB2.out).mono ?_; rintro e w3 ⟨gb, rfl, hi, hb, hge⟩; have HIB := Aside0.mk hi; have HIA2 := Aside0.mk (HIA.out.below hb); have HNE : Aside0 (gb ≠ ga) := ⟨by have := blk_lt HIA.out.blk; omega⟩; have HB3 := Aside0.mk (below_step HB2.out hb); clear hi hb hge) | (go_at_call 9; refine (HNEW.out _ HB1.out).mono ?_; rintro e w2 ⟨ga, rfl, hi, hb, hge⟩; have HIA := Aside0.mk hi; have HB2 := Aside0.mk (below_step HB1.out hb); clear hi hb hge))
  go_loopw [5] (fun ti wr => ∃ (i : Nat) (v : Value) (es : List S44) (cl : Nat → Bool), ti = .int .i64 (i : Int) ∧ Aside0 (i ≤ l.length) ∧ Aside0 (IsB wr w.heap.size ga v es cl) ∧ Aside0 (es.length ≤ 64) ∧ Aside0 (IsB wr w.heap.size gb (.slice none 0 0) [] none_) ∧ Aside0 (Below w.heap.size w wr)) (fun ti _ => l.length - left ti)
  case atStart => exact ⟨0, _, [], _, rfl, ⟨Nat.zero_le _⟩, HIA2, ⟨by simp⟩, HIB, HB3⟩
  case round =>
    obtain ⟨i, v, es, cl, rfl, hi, HA, HL, HBb, HB⟩ := hrel
    by_cases ci : i < l.length
    · have c1 : decide ((i : Int) < (l.length : Int)) = true := decide_eq_true (by omega)
      have c2 : decide (i < l.length) = true := decide_eq_true ci
      obtain ⟨ad, rfl, hx0, hx1, hx2, hx3, hx4⟩ := at27 (Kd.C_below HR.out HB.out) i ci
      obtain ⟨x, hx⟩ : ∃ x, x = rd27 l (i : Int) := ⟨_, rfl⟩
      rw [← hx] at hx0 hx1 hx2 hx3 hx4
      clear hx
      have W1 : Aside0 (wrap64 ((i : Int) + 1) = ((i + 1 : Nat) : Int)) := ⟨next1 i _ HN.out ci⟩
      have ML := Aside0.mk (less i l.length HN.out ci)
      by_cases ce : x.f0 = 2
      · have c3 : (x.f0 == 2) = true := beq_iff_eq.2 ce
        clear ce
        have HCL : Aside0 (∀ w1, Below wr.heap.size wr w1 → Calls Try.prog 10 #[.pointer (some ⟨ga, 0, none⟩), .int .i64 x.f2] w1 fun e w' => e = .returned (.tuple #[]) ∧ IsB w' w.heap.size ga v es (cloF cl x.f2) ∧ Below w.heap.size w1 w' ∧ KeepBut w1 w' ga none) := ⟨fun w1 h => close_calls w1 _ ga v es cl x.f2 (HA.out.below h)⟩
        go_wp2_with (go_at_call 10; refine (HCL.out _ (below_alloc (Below.refl _ _) _)).mono ?_; rintro e w1 ⟨rfl, hi1, hb, hk⟩; have HA1 := Aside0.mk hi1; have HB1 := Aside0.mk (blw (below_alloc HB.out _) hb); have HBb1 := Aside0.mk ((HBb.out.below (below_alloc (Below.refl _ _) _)).keep0 hk HNE.out (by simp)); clear hi1 hb hk)
        exact ⟨⟨i + 1, v, es, cloF cl x.f2, by rw [W1.out], ⟨by omega⟩, HA1, HL, HBb1, HB1⟩, ML.out⟩
      · have c3 : (x.f0 == 2) = false := beq_eq_false_iff_ne.2 ce
        clear ce
        have HEN : Aside0 (∀ w1, Below wr.heap.size wr w1 → Calls Try.prog 11 #[.pointer (some ⟨ga, 0, none⟩), .int .i64 x.f2, .string x.f3, .int .i64 x.f4] w1 fun e w' => e = .returned (.tuple #[.int .i64 (enterN es cl x.f2 x.f3 x.f4), .int .i64 (enterE es cl x.f2 x.f3 x.f4)]) ∧ Turned w1 w' w.heap.size ga v (enterS es cl x.f2 x.f3 x.f4) cl) := ⟨fun w1 h => enter_calls w1 _ ga v es cl x.f2 x.f3 x.f4 (HA.out.below h) HL.out⟩
        have HRN := Aside0.mk (HA.out.row_ne HBb.out)
        go_wp2_with (go_at_call 11; refine (HEN.out _ (below_alloc (Below.refl _ _) _)).mono ?_; rintro e w1 ⟨rfl, v1, hi1, hb, hk, _⟩; have HA1 := Aside0.mk hi1; have HB1 := Aside0.mk (blw (below_alloc HB.out _) hb); have HBb1 := Aside0.mk ((HBb.out.below (below_alloc (Below.refl _ _) _)).keep0 hk HNE.out HRN.out); clear hi1 hb hk)
        exact ⟨⟨i + 1, v1, _, cl, by rw [W1.out], ⟨by omega⟩, HA1, ⟨enterS_len _ _ _ _ _ HL.out⟩, HBb1, HB1⟩, ML.out⟩
    · have c1 : decide ((i : Int) < (l.length : Int)) = false := decide_eq_false (by omega)
      have c2 : decide (i < l.length) = false := decide_eq_false ci
      go_wp2_with (go_at_call 9; refine (HNEW.out _ HB.out).mono ?_; rintro e w4 ⟨gc, rfl, hi, hb, hge⟩; have HIC := Aside0.mk hi; have HB4 := Aside0.mk (below_step HB.out hb); have HBb4 := Aside0.mk (HBb.out.below hb); have HNC : Aside0 (gc ≠ gb) := ⟨by have := blk_lt HBb.out.blk; omega⟩; clear hi hb hge)
      go_loopw [8] (fun ti wr2 => ∃ j : Nat, ti = .int .i64 (j : Int) ∧ Aside0 (1 ≤ j ∧ j ≤ 6) ∧ Aside0 (IsB wr2 w.heap.size gc (.slice none 0 0) [] none_) ∧ Aside0 (IsB wr2 w.heap.size gb (.slice none 0 0) [] none_) ∧ Aside0 (Below w.heap.size w wr2)) (fun ti _ => 6 - left ti)
      case atStart => exact ⟨1, rfl, ⟨by omega⟩, HIC, HBb4, HB4⟩
      case round =>
        obtain ⟨j, rfl, hj, HC2, HB2b, HBB⟩ := hrel
        by_cases cj : j < 6
        · have d1 : decide ((j : Int) < 6) = true := decide_eq_true (by omega)
          have d2 : decide (j < 6) = true := decide_eq_true cj
          have HF : Aside0 (isF (j : Int) = true) := ⟨decide_eq_true (by have := hj.out; omega)⟩
          have W2 : Aside0 (wrap64 ((j : Int) + 1) = ((j + 1 : Nat) : Int)) := ⟨next1 j 6 (by decide) cj⟩
          have ML2 := Aside0.mk (less j 6 (by decide) cj)
          have HOP : Aside0 (∀ w1 g, IsB w1 w.heap.size g (.slice none 0 0) [] none_ → Calls Try.prog 12 #[.pointer (some ⟨g, 0, none⟩), .int .i64 (j : Int)] w1 fun e w' => e = .returned (.bool true) ∧ w1 = w') := ⟨fun w1 g h => by have := open_calls w1 _ g _ [] none_ (j : Int) h; rw [HF.out] at this; exact this⟩
          have HCO : Aside0 (∀ w1 g, IsB w1 w.heap.size g (.slice none 0 0) [] none_ → Calls Try.prog 13 #[.pointer (some ⟨g, 0, none⟩), .int .i64 (j : Int)] w1 fun e w' => e = .returned (.int .i64 0) ∧ Below w1.heap.size w1 w') := ⟨fun w1 g h => count_calls w1 _ g _ [] none_ (j : Int) h (by simp)⟩
          go_wp2_with (first | (go_at_call 12; with_reducible refine (HOP.out _ gc HC6.out).mono ?_; rintro e w7 ⟨rfl, rfl⟩) | (go_at_call 13; with_reducible refine (HCO.out _ gc HC6.out).mono ?_; rintro e w8 ⟨rfl, hb⟩; have HC8 := Aside0.mk (HC6.out.below hb); have HB8 := Aside0.mk (HB6.out.below hb); have HBB8 := Aside0.mk (below_step HBB6.out hb); clear hb) | (go_at_call 12; with_reducible refine (HOP.out _ gb HB2b.out).mono ?_; rintro e w5 ⟨rfl, rfl⟩) | (go_at_call 13; with_reducible refine (HCO.out _ gb HB2b.out).mono ?_; rintro e w6 ⟨rfl, hb⟩; have HC6 := Aside0.mk (HC2.out.below hb); have HB6 := Aside0.mk (HB2b.out.below hb); have HBB6 := Aside0.mk (below_step HBB.out hb); clear hb))
          exact ⟨⟨j + 1, rfl, ⟨by have := hj.out; omega⟩, HC8, HB8, HBB8⟩, by show 6 - ((j : Int) + 1).toNat < 6 - ((j : Nat) : Int).toNat; omega⟩
        · have d1 : decide ((j : Int) < 6) = false := decide_eq_false (by omega)
          have d2 : decide (j < 6) = false := decide_eq_false cj
          have HZE : Aside0 (Calls Try.prog 11 #[.pointer (some ⟨gb, 0, none⟩), .int .i64 5, .string nZ, .int .i64 0] _ fun e w' => e = .returned (.tuple #[.int .i64 1, .int .i64 0]) ∧ Turned _ w' w.heap.size gb (.slice none 0 0) (enterS [] none_ 5 nZ 0) none_) := ⟨by have := enter_calls _ _ gb _ [] none_ 5 nZ 0 HB2b.out (by simp); rw [nZ1, eZ] at this; exact this⟩
          have HALL : Aside0 (∀ w1 g v es, IsB w1 w.heap.size g v es none_ → es.length ≤ 64 → Calls Try.prog 14 #[.pointer (some ⟨g, 0, none⟩)] w1 fun e w' => ∃ A c, e = .returned (.slice A es.length c) ∧ Below w1.heap.size w1 w') := ⟨fun w1 g v es h hl => (all_calls w1 _ g v es none_ h hl).mono (by rintro e w' ⟨v', rfl, hR, hb⟩; obtain ⟨A, c, rfl⟩ := Kd.R_slice hR; exact ⟨A, c, rfl, hb⟩)⟩
          go_wp2_with (first | (go_at_call 14; with_reducible refine (HALL.out _ gc _ _ HC6.out (by simp)).mono ?_; rintro e w7 ⟨A7, c7, rfl, hb⟩; have HBB7 := Aside0.mk (below_step HBB6.out hb); clear hb) | (go_at_call 14; with_reducible refine (HALL.out _ gb _ _ HB5.out (by rw [sZ]; decide)).mono ?_; rw [sZ]; rintro e w6 ⟨A6, c6, rfl, hb⟩; have HC6 := Aside0.mk (HC5.out.below hb); have HBB6 := Aside0.mk (below_step HBB5.out hb); clear hb) | (go_at_call 11; refine HZE.out.mono ?_; rintro e w5 ⟨rfl, v5, hi, hb, hk, _⟩; have HB5 := Aside0.mk hi; have HBB5 := Aside0.mk (blw HBB.out hb); have HC5 := Aside0.mk (HC2.out.keep0 hk HNC.out (by simp [Value.ownBlock])); clear hi hb hk))
          go_ret
          exact ⟨rfl, HBB7.out⟩
end Go.Proofs.Ythadfkpibnhcgaa.B
