/- Books in memory: New, Open, Close, Enter, All. Conditions: those in the theorems. -/
import Derived.Test.YthadfkpibnhcgaaB0
set_option linter.unusedVariables false
set_option linter.unusedSimpArgs false
namespace Go.Proofs.Ythadfkpibnhcgaa.B
open Go.RowKit Go.Proofs.Ythadfkpibnhcgaa.X Go.Proofs.YthadfkpibnhcgaaW.PrintWords Go.Proofs.YthadfkpibnhcgaaW.PrintLast Go.Proofs.YthadfkpibnhcgaaW.PrintMore

def isF (f : Int) : Bool := decide (1 ≤ f ∧ f ≤ 5)
theorem is_calls (f : Int) (w : World) : Calls Try.prog 24 #[.int .i64 f] w fun e w' => e = .returned (.bool (isF f)) ∧ w = w' := by
  by_cases h1 : 1 ≤ f
  · have c1 : decide (1 ≤ f) = true := decide_eq_true h1
    by_cases h2 : f ≤ 5
    · have c2 : decide (f ≤ 5) = true := decide_eq_true h2
      have HE : Aside0 (isF f = true) := ⟨decide_eq_true ⟨h1, h2⟩⟩
      clear h1 h2
      go_enter Try.func24, Try.ntmps24
      go_wp2
      go_ret
      exact ⟨by rw [HE.out]; rfl, rfl⟩
    · have c2 : decide (f ≤ 5) = false := decide_eq_false h2
      have HE : Aside0 (isF f = false) := ⟨decide_eq_false (by omega)⟩
      clear h1 h2
      go_enter Try.func24, Try.ntmps24
      go_wp2
      go_ret
      exact ⟨by rw [HE.out]; rfl, rfl⟩
  · have c1 : decide (1 ≤ f) = false := decide_eq_false h1
    have HE : Aside0 (isF f = false) := ⟨decide_eq_false (by omega)⟩
    clear h1
    go_enter Try.func24, Try.ntmps24
    go_wp2
    go_ret
    exact ⟨by rw [HE.out]; rfl, rfl⟩
set_option maxHeartbeats 1000000 in
theorem new_calls (w : World) (base : Nat) (hb : base ≤ w.heap.size) : Calls Try.prog 9 #[] w fun e w' => ∃ g, e = .returned (.pointer (some ⟨g, 0, none⟩)) ∧ IsB w' base g (.slice none 0 0) [] (fun _ => false) ∧ Below w.heap.size w w' ∧ w.heap.size ≤ g := by
  have hu := Try.underlying55
  go_enter Try.func9, Try.ntmps9
  go_wp2
  go_ret
  exact ⟨w.heap.size, rfl, ⟨blk_new _ _, hb, Kd.R_nil _ _ _ _ _⟩, below_alloc (Below.refl _ _) _, Nat.le_refl _⟩
theorem bk_at (v : Value) (cl : Nat → Bool) (n : Nat) (h : n < 6) : (bk v cl)[1 + n]? = some (.bool (cl n)) := by
  have : n = 0 ∨ n = 1 ∨ n = 2 ∨ n = 3 ∨ n = 4 ∨ n = 5 := by omega
  rcases this with rfl | rfl | rfl | rfl | rfl | rfl <;> rfl
/-- One family more is closed. -/
def clo (cl : Nat → Bool) (n : Nat) : Nat → Bool := fun k => if k = n then true else cl k
theorem bk_set (v : Value) (cl : Nat → Bool) (n : Nat) (h : n < 6) : (bk v cl).setIfInBounds (1 + n) (.bool true) = bk v (clo cl n) := by
  have : n = 0 ∨ n = 1 ∨ n = 2 ∨ n = 3 ∨ n = 4 ∨ n = 5 := by omega
  rcases this with rfl | rfl | rfl | rfl | rfl | rfl <;> rfl
theorem bk_row (v v' : Value) (cl : Nat → Bool) : (bk v cl).setIfInBounds 0 v' = bk v' cl := rfl
theorem no55 : ∀ q, q ∈ 44 :: k44.E → q ≠ 55 := by
  intro q hq
  have : k44.E = [] := rfl
  rw [this] at hq; simp at hq; omega
def shut (cl : Nat → Bool) (f : Int) : Bool := isF f && cl f.toNat
set_option maxHeartbeats 1000000 in
theorem open_calls (w : World) (base g : Nat) (v : Value) (es : List S44) (cl : Nat → Bool) (f : Int) (hB : IsB w base g v es cl) :
    Calls Try.prog 12 #[.pointer (some ⟨g, 0, none⟩), .int .i64 f] w fun e w' => e = .returned (.bool (isF f && !cl f.toNat)) ∧ w = w' := by
  cases hf : isF f with
  | false =>
    have HI := Aside0.mk (hf ▸ is_calls f w)
    clear hf hB
    go_enter Try.func12, Try.ntmps12
    go_wp2_with (go_at_call 24; refine HI.out.mono ?_; rintro e w1 ⟨rfl, rfl⟩)
    go_ret
    exact ⟨rfl, rfl⟩
  | true =>
    have HI := Aside0.mk (hf ▸ is_calls f w)
    have hf2 := of_decide_eq_true hf
    clear hf
    have h1 : (0 ≤ f) = True := eq_true (by omega)
    have h2 : (f < 6) = True := eq_true (by omega)
    have hc : w.cell? ⟨g, 1 + f.toNat, none⟩ = some (.bool (cl f.toNat)) := (blk_cell hB.blk _).trans (bk_at v cl _ (by omega))
    clear hf2 hB
    go_enter Try.func12, Try.ntmps12
    go_wp2_with (go_at_call 24; refine HI.out.mono ?_; rintro e w1 ⟨rfl, rfl⟩)
    go_ret
    exact ⟨by simp, rfl⟩
def cloF (cl : Nat → Bool) (f : Int) : Nat → Bool := if isF f then clo cl f.toNat else cl
set_option maxHeartbeats 1000000 in
theorem close_calls (w : World) (base g : Nat) (v : Value) (es : List S44) (cl : Nat → Bool) (f : Int) (hB : IsB w base g v es cl) :
    Calls Try.prog 10 #[.pointer (some ⟨g, 0, none⟩), .int .i64 f] w fun e w' => e = .returned (.tuple #[]) ∧ IsB w' base g v es (cloF cl f) ∧ Below base w w' ∧ KeepBut w w' g none := by
  cases hf : isF f with
  | false =>
    have HI := Aside0.mk (hf ▸ is_calls f w)
    have HB := Aside0.mk hB
    have HF := Aside0.mk hf
    clear hf hB
    go_enter Try.func10, Try.ntmps10
    go_wp2_with (go_at_call 24; refine HI.out.mono ?_; rintro e w1 ⟨rfl, rfl⟩)
    go_end0
    exact ⟨rfl, by unfold cloF; rw [HF.out]; exact HB.out, Below.refl _ _, KeepBut.refl _ _ _⟩
  | true =>
    have HI := Aside0.mk (hf ▸ is_calls f w)
    have HF := Aside0.mk hf
    have hf2 := of_decide_eq_true hf
    have HL : Aside0 (f.toNat < 6) := ⟨by omega⟩
    clear hf
    have h1 : (0 ≤ f) = True := eq_true (by omega)
    have h2 : (f < 6) = True := eq_true (by omega)
    have hc : w.cell? ⟨g, 1 + f.toNat, none⟩ = some (.bool (cl f.toNat)) := (blk_cell hB.blk _).trans (bk_at v cl _ (by omega))
    have hz := blk_frozen hB.blk (1 + f.toNat)
    have HB := Aside0.mk hB
    clear hf2 hB
    go_enter Try.func10, Try.ntmps10
    go_wp2_with (go_at_call 24; refine HI.out.mono ?_; rintro e w1 ⟨rfl, rfl⟩)
    go_end0
    refine ⟨rfl, ⟨?_, HB.out.le, Kd.R_set HB.out.row HB.out.blk no55 _ _⟩, (Below.refl base w).setCell HB.out.le _, KeepBut.set_ (KeepBut.refl _ _ _) _ _⟩
    have := blk_set HB.out.blk (1 + f.toNat) (.bool true)
    rw [bk_set v cl _ HL.out] at this
    unfold cloF; rw [HF.out]; exact this
/-! ### names -/
theorem size_len (s : ByteArray) : s.size = s.data.toList.length := (data_length s).symm
theorem drop_len {s : ByteArray} {i : Nat} {l : List UInt8} (h : s.data.toList.drop i = l) (hi : i ≤ s.size) : s.size = i + l.length := by
  rw [← h, List.length_drop, ← size_len]; omega
theorem drop_next {s : ByteArray} {i : Nat} {b : UInt8} {t : List UInt8} (h : s.data.toList.drop i = b :: t) : s.data.toList.drop (i + 1) = t := by
  rw [← List.drop_drop, h]; rfl
theorem drop_lt {s : ByteArray} {i : Nat} {b : UInt8} {t : List UInt8} (h : s.data.toList.drop i = b :: t) : i < s.size := by
  rw [size_len]
  have := congrArg List.length h
  rw [List.length_drop, List.length_cons] at this; omega
theorem bt_drop {s : ByteArray} {i : Nat} {b : UInt8} {t : List UInt8} (h : s.data.toList.drop i = b :: t) : bt s (i : Int) = (b.toNat : Int) := by
  have hi := drop_lt h
  have h2 : i < s.data.toList.length := by rw [← size_len]; exact hi
  have e := List.drop_eq_getElem_cons h2
  rw [h] at e
  injection e with e1 e2
  unfold bt
  rw [dif_pos (show ((i : Int)).toNat < s.size by rw [Int.toNat_natCast]; exact hi), e1]
  congr 2
def gb (b : UInt8) : Bool := decide (b.toNat = 45 ∨ (97 ≤ b.toNat ∧ b.toNat ≤ 122))
/-- Is it a name of an entry? -/
def goodN (s : ByteArray) : Bool := decide (1 ≤ s.size ∧ s.size ≤ 16) && s.data.toList.all gb
theorem good_ev (s : ByteArray) : Ev (fun k => roll_good.f k s) (goodN s) := by
  have key : s.size ≤ 16 → ∀ (d i : Nat), s.size - i ≤ d → i ≤ s.size → Ev (fun k => roll_good.l0 k s (s.size : Int) (i : Int)) ((s.data.toList.drop i).all gb) := by
    intro h16 d
    induction d with
    | zero =>
      intro i hd hi
      have e : s.data.toList.drop i = [] := List.drop_of_length_le (by rw [← size_len]; omega)
      refine Ev.step (fun k => by simp only [roll_good.l0]; rfl) ?_
      rw [e]
      simp only [if_neg (show ¬ (i : Int) < (s.size : Int) by omega), List.all_nil]
      exact Ev.now _
    | succ d ih =>
      intro i hd hi
      cases hl : s.data.toList.drop i with
      | nil =>
        have := drop_len hl hi
        simp only [List.length_nil] at this
        have := ih i (by omega) hi
        rw [hl] at this; exact this
      | cons b t =>
        have hlt := drop_lt hl
        have hbt := bt_drop hl
        have hnx := drop_next hl
        have ihn := ih (i + 1) (by omega) (by omega)
        rw [hnx] at ihn
        have k1 : (i : Int) < (s.size : Int) := by omega
        have k2 : (0 : Int) ≤ (i : Int) := by omega
        have W : Aside0 (wrap64 ((i : Int) + 1) = ((i + 1 : Nat) : Int)) := ⟨by rw [w64s (by omega) (by omega)]; rfl⟩
        refine Ev.step (fun k => by simp only [roll_good.l0]; rfl) ?_
        simp only [if_pos k1, if_pos k2, hbt, W.out, List.all_cons]
        by_cases h1 : b.toNat = 45
        · rw [show gb b = true from decide_eq_true (by omega), Bool.true_and]
          simp only [if_pos (show (b.toNat : Int) = 45 by omega)]; exact ihn
        simp only [if_neg (show ¬ (b.toNat : Int) = 45 by omega)]
        by_cases h2 : b.toNat < 97
        · rw [show gb b = false from decide_eq_false (by omega), Bool.false_and]
          simp only [if_pos (show (b.toNat : Int) < 97 by omega)]; exact Ev.now _
        simp only [if_neg (show ¬ (b.toNat : Int) < 97 by omega)]
        by_cases h3 : b.toNat > 122
        · rw [show gb b = false from decide_eq_false (by omega), Bool.false_and]
          simp only [if_pos (show (b.toNat : Int) > 122 by omega)]; exact Ev.now _
        · rw [show gb b = true from decide_eq_true (by omega), Bool.true_and]
          simp only [if_neg (show ¬ (b.toNat : Int) > 122 by omega)]; exact ihn
  have jT : Ev (fun k => roll_good.j0 k s true) false := Ev.step (fun k => by simp only [roll_good.j0, if_true]) (Ev.now _)
  unfold roll_good.f goodN
  by_cases h1 : s.size < 1
  · rw [decide_eq_false (show ¬ (1 ≤ s.size ∧ s.size ≤ 16) by omega), Bool.false_and]
    simp only [if_pos (show (s.size : Int) < 1 by omega)]; exact jT
  simp only [if_neg (show ¬ (s.size : Int) < 1 by omega)]
  by_cases h2 : s.size ≤ 16
  · rw [decide_eq_true (show 1 ≤ s.size ∧ s.size ≤ 16 by omega), Bool.true_and, decide_eq_false (show ¬ (s.size : Int) > 16 by omega)]
    refine Ev.step (fun k => by simp only [roll_good.j0]; rfl) ?_
    simp only [Bool.false_eq_true, if_false]
    have := key h2 s.size 0 (by omega) (by omega)
    rw [List.drop_zero] at this; exact this
  · rw [decide_eq_false (show ¬ (1 ≤ s.size ∧ s.size ≤ 16) by omega), Bool.false_and, decide_eq_true (show (s.size : Int) > 16 by omega)]; exact jT
theorem good_calls (s : ByteArray) (w : World) : Calls Try.prog 25 #[.string s] w fun e w' => e = .returned (.bool (goodN s)) ∧ Below w.heap.size w w' := by
  obtain ⟨k, hk⟩ := (good_ev s).rounds
  refine (roll_good.calls k s _ w hk).mono ?_
  rintro e w' ⟨rfl, ⟨n, rfl⟩⟩
  exact ⟨rfl, pw_below_drewN (Below.refl _ _) n⟩
theorem info44 : (Try.prog.info? 44).map (fun i => (i.zero, i.size, i.bytes)) = some (some (.agg #[.int .i64 0, .int .i64 0, .string ⟨#[]⟩, .int .i64 0]), 4, 40) := by kernel_rfl
/-! ### Enter -/
def enterE (es : List S44) (cl : Nat → Bool) (f : Int) (nm : ByteArray) (sz : Int) : Int :=
  if isF f = false then 1 else if goodN nm = false then 1 else if sz < 0 then 1 else if cl f.toNat = true then 10 else if fnd es f nm ≠ 0 then 11 else if 64 ≤ es.length then 12 else 0
def enterS (es : List S44) (cl : Nat → Bool) (f : Int) (nm : ByteArray) (sz : Int) : List S44 :=
  if enterE es cl f nm sz = 0 then es ++ [⟨f, ((cnt es f + 1 : Nat) : Int), nm, sz⟩] else es
def enterN (es : List S44) (cl : Nat → Bool) (f : Int) (nm : ByteArray) (sz : Int) : Int :=
  if enterE es cl f nm sz = 0 then ((cnt es f + 1 : Nat) : Int) else 0
/-- What a call that writes the book leaves. -/
def Turned (w w' : World) (base g : Nat) (v : Value) (es : List S44) (cl : Nat → Bool) : Prop :=
  ∃ v', IsB w' base g v' es cl ∧ Below base w w' ∧ KeepBut w w' g v.ownBlock ∧ (v'.ownBlock = v.ownBlock ∨ ∃ b, v'.ownBlock = some b ∧ w.heap.size ≤ b)
theorem Below.low {w w' : World} {base : Nat} (h : Below w.heap.size w w') (hb : base ≤ w.heap.size) : Below base w w' := ⟨h.os, h.tape, h.output, h.size, fun i hi => h.block i (by omega)⟩
theorem Turned.of_below {w w' : World} {base g : Nat} {v : Value} {es : List S44} {cl : Nat → Bool} (hB : IsB w base g v es cl) (hb : Below w.heap.size w w') : Turned w w' base g v es cl :=
  ⟨v, hB.below hb, Below.low hb (by have := hB.le; have := blk_lt hB.blk; omega), KeepBut.of_below hb _ _, .inl rfl⟩
theorem sub_step {w w1 w2 : World} (h : Below w.heap.size w w1) (k : Below w1.heap.size w1 w2) : Below w.heap.size w w2 := below_step h k
set_option maxHeartbeats 2000000 in
set_option maxRecDepth 100000 in
theorem enter_calls (w : World) (base g : Nat) (v : Value) (es : List S44) (cl : Nat → Bool) (f : Int) (nm : ByteArray) (sz : Int) (hB : IsB w base g v es cl) (hn : es.length ≤ 64) :
    Calls Try.prog 11 #[.pointer (some ⟨g, 0, none⟩), .int .i64 f, .string nm, .int .i64 sz] w fun e w' => e = .returned (.tuple #[.int .i64 (enterN es cl f nm sz), .int .i64 (enterE es cl f nm sz)]) ∧ Turned w w' base g v (enterS es cl f nm sz) cl := by
  have bad : ∀ x : Int, enterE es cl f nm sz = x → x ≠ 0 → (enterN es cl f nm sz = 0 ∧ enterS es cl f nm sz = es) := fun x hx h0 => ⟨by unfold enterN; rw [if_neg (by omega)], by unfold enterS; rw [if_neg (by omega)]⟩
  have HBAD := Aside0.mk bad
  have HB := Aside0.mk hB
  have HN := Aside0.mk hn
  have hi := is_calls f w
  cases hf : isF f with
  | false =>
    rw [hf] at hi
    have HI := Aside0.mk hi
    have HE : Aside0 (enterE es cl f nm sz = 1) := ⟨by unfold enterE; rw [if_pos hf]⟩
    clear bad hi hf hB hn
    go_enter Try.func11, Try.ntmps11
    go_wp2_with (go_at_call 24; refine HI.out.mono ?_; rintro e w1 ⟨rfl, rfl⟩)
    go_ret2
    have hb := HBAD.out 1 HE.out (by decide)
    exact ⟨by rw [HE.out, hb.1]; rfl, by rw [hb.2]; exact Turned.of_below HB.out (Below.refl _ _)⟩
  | true =>
    rw [hf] at hi
    have HI := Aside0.mk hi
    have HF := Aside0.mk hf
    have hgd := good_calls nm w
    cases hg : goodN nm with
    | false =>
      rw [hg] at hgd
      have HG := Aside0.mk hgd
      have HE : Aside0 (enterE es cl f nm sz = 1) := ⟨by unfold enterE; rw [if_neg (by rw [hf]; decide), if_pos hg]⟩
      clear bad hi hf hB hn hg hgd
      go_enter Try.func11, Try.ntmps11
      go_wp2_with (first | (go_at_call 24; refine HI.out.mono ?_; rintro e w1 ⟨rfl, rfl⟩) | (go_at_call 25; refine HG.out.mono ?_; rintro e w1 ⟨rfl, hb1⟩; have HB1 := Aside0.mk hb1; clear hb1))
      go_ret2
      have hb := HBAD.out 1 HE.out (by decide)
      exact ⟨by rw [HE.out, hb.1]; rfl, by rw [hb.2]; exact Turned.of_below HB.out HB1.out⟩
    | true =>
      rw [hg] at hgd
      have HG := Aside0.mk hgd
      by_cases hs : sz < 0
      · have HE : Aside0 (enterE es cl f nm sz = 1) := ⟨by unfold enterE; rw [if_neg (by rw [hf]; decide), if_neg (by rw [hg]; decide), if_pos hs]⟩
        have c1 : decide (sz < 0) = true := decide_eq_true hs
        clear bad hi hf hB hn hg hgd hs
        go_enter Try.func11, Try.ntmps11
        go_wp2_with (first | (go_at_call 24; refine HI.out.mono ?_; rintro e w1 ⟨rfl, rfl⟩) | (go_at_call 25; refine HG.out.mono ?_; rintro e w1 ⟨rfl, hb1⟩; have HB1 := Aside0.mk hb1; clear hb1))
        go_ret2
        have hb := HBAD.out 1 HE.out (by decide)
        exact ⟨by rw [HE.out, hb.1]; rfl, by rw [hb.2]; exact Turned.of_below HB.out HB1.out⟩
      · have c1 : decide (sz < 0) = false := decide_eq_false hs
        have hf2 := of_decide_eq_true hf
        have h1 : (0 ≤ f) = True := eq_true (by omega)
        have h2 : (f < 6) = True := eq_true (by omega)
        -- behind the tests of the arguments
        have HC : Aside0 (∀ w1, Below w.heap.size w w1 → w1.cell? ⟨g, 1 + f.toNat, none⟩ = some (.bool (cl f.toNat))) := ⟨fun w1 h => (blk_cell (hB.below h).blk _).trans (bk_at v cl _ (by omega))⟩
        cases hc : cl f.toNat with
        | true =>
          rw [hc] at HC
          have HE : Aside0 (enterE es cl f nm sz = 10) := ⟨by unfold enterE; rw [if_neg (by rw [hf]; decide), if_neg (by rw [hg]; decide), if_neg hs, if_pos hc]⟩
          clear bad hi hf hB hn hg hgd hs hf2 hc
          go_enter Try.func11, Try.ntmps11
          go_wp2_with (first | (go_at_call 24; refine HI.out.mono ?_; rintro e w1 ⟨rfl, rfl⟩) | (go_at_call 25; refine HG.out.mono ?_; rintro e w1 ⟨rfl, hb1⟩; have HB1 := Aside0.mk hb1; have hcc := HC.out w1 hb1; clear hb1))
          go_ret2
          have hb := HBAD.out 10 HE.out (by decide)
          exact ⟨by rw [HE.out, hb.1]; rfl, by rw [hb.2]; exact Turned.of_below HB.out HB1.out⟩
        | false =>
          rw [hc] at HC
          have HFI : Aside0 (∀ w1, Below w.heap.size w w1 → Calls Try.prog 22 #[.pointer (some ⟨g, 0, none⟩), .int .i64 f, .string nm] w1 fun e w' => e = .returned (.int .i64 (fnd es f nm)) ∧ Below w1.heap.size w1 w') := ⟨fun w1 h => find_calls w1 base g v es cl f nm (hB.below h) (by omega)⟩
          by_cases h0 : fnd es f nm = 0
          · have HFI2 := Aside0.mk (h0 ▸ HFI.out)
            obtain ⟨A, c, hv, hlc⟩ := Kd.R_reads hB.row
            subst hv
            have HS : Aside0 (∀ w1, Below w.heap.size w w1 → w1.cell? ⟨g, 0, none⟩ = some (.slice A es.length c)) := ⟨fun w1 h => (blk_cell (hB.below h).blk 0).trans rfl⟩
            by_cases h64 : 64 ≤ es.length
            · have HE : Aside0 (enterE es cl f nm sz = 12) := ⟨by unfold enterE; rw [if_neg (by rw [hf]; decide), if_neg (by rw [hg]; decide), if_neg hs, if_neg (by rw [hc]; decide), if_neg (by simp [h0]), if_pos h64]⟩
              have c2 : decide ((64 : Int) ≤ (es.length : Int)) = true := decide_eq_true (by omega)
              have c3 : decide (64 ≤ es.length) = true := decide_eq_true h64
              clear bad hi hf hB hn hg hgd hs hf2 hc h0 h64 hlc HFI
              go_enter Try.func11, Try.ntmps11
              go_wp2_with (first | (go_at_call 24; refine HI.out.mono ?_; rintro e w1 ⟨rfl, rfl⟩) | (go_at_call 25; refine HG.out.mono ?_; rintro e w1 ⟨rfl, hb1⟩; have HB1 := Aside0.mk hb1; have hcc := HC.out w1 hb1; clear hb1) | (go_at_call 22; refine (HFI2.out _ HB1.out).mono ?_; rintro e w2 ⟨rfl, hb2⟩; have HB2 := Aside0.mk (below_step HB1.out hb2); clear hb2; have hss := HS.out w2 HB2.out))
              go_ret2
              have hb := HBAD.out 12 HE.out (by decide)
              exact ⟨by rw [HE.out, hb.1]; rfl, by rw [hb.2]; exact Turned.of_below HB.out HB2.out⟩
            · have HE : Aside0 (enterE es cl f nm sz = 0) := ⟨by unfold enterE; rw [if_neg (by rw [hf]; decide), if_neg (by rw [hg]; decide), if_neg hs, if_neg (by rw [hc]; decide), if_neg (by simp [h0]), if_neg h64]⟩
              have c2 : decide ((64 : Int) ≤ (es.length : Int)) = false := decide_eq_false (by omega)
              have c3 : decide (64 ≤ es.length) = false := decide_eq_false h64
              have HCN : Aside0 (∀ w1, Below w.heap.size w w1 → Calls Try.prog 13 #[.pointer (some ⟨g, 0, none⟩), .int .i64 f] w1 fun e w' => e = .returned (.int .i64 (cnt es f : Int)) ∧ Below w1.heap.size w1 w') := ⟨fun w1 h => count_calls w1 base g _ es cl f (hB.below h) (by omega)⟩
              have HL64 : Aside0 (es.length < 64) := ⟨by omega⟩
              have HZ : Aside0 (base ≤ w.heap.size) := ⟨by have := hB.le; have := blk_lt hB.blk; omega⟩
              have W1 : Aside0 (wrap64 ((cnt es f : Int) + 1) = ((cnt es f + 1 : Nat) : Int)) := ⟨by have := cnt_le es f; rw [w64s (by omega) (by omega)]; rfl⟩
              clear bad hi hf hB hn hg hgd hs hf2 hc h0 h64 hlc HFI
              go_enter Try.func11, Try.ntmps11
              go_wp2_with (first | (go_at_call 24; refine HI.out.mono ?_; rintro e w1 ⟨rfl, rfl⟩) | (go_at_call 25; refine HG.out.mono ?_; rintro e w1 ⟨rfl, hb1⟩; have HB1 := Aside0.mk hb1; have hcc := HC.out w1 hb1; clear hb1) | (go_at_call 22; refine (HFI2.out _ HB1.out).mono ?_; rintro e w2 ⟨rfl, hb2⟩; have HB2 := Aside0.mk (below_step HB1.out hb2); clear hb2; have hss := HS.out w2 HB2.out) | (go_at_call 13; refine (HCN.out _ HB2.out).mono ?_; rintro e w3 ⟨rfl, hb3⟩; have HB3 := Aside0.mk (below_step HB2.out hb3); clear hb3; have hs3 := HS.out w3 HB3.out) | ((with_reducible refine gate_builtin (b := .append) (xs := #[.tmp 55, .tmp 61]) rfl ?_); at_builtin; refine Kd.R_append k44 (w0 := w) base rfl (.tmp 55) (.tmp 61) 34 44 (.agg #[.int .i64 0, .int .i64 0, .string ⟨#[]⟩, .int .i64 0]) 40 rfl Try.underlying34 info44 rfl (by decide) (by omega) (.slice A es.length c) es (⟨f, wrap64 ((cnt es f : Int) + 1), nm, sz⟩ : S44) [.int .i64 f, .int .i64 (wrap64 ((cnt es f : Int) + 1)), .string nm, .int .i64 sz] (fun _ => True) (fun _ => False) rfl rfl (k44_mkM _ _ _ (⟨f, wrap64 ((cnt es f : Int) + 1), nm, sz⟩ : S44)) (fun _ hk => hk.elim) (fun _ _ => trivial) (Kd.R_below HB.out.row HB3.out) (Below.low HB3.out HZ.out) (by have := HB3.out.size; have := HZ.out; omega) (by have := HL64.out; omega) ?_; intro v1 w4 ho hb hg hat; obtain ⟨A1, cc1, rfl⟩ := Kd.R_slice ho; have hbk := Aside0.mk (blk_grown (HB.out.below HB3.out).blk hg (Kd.R_ne HB.out.row HB.out.blk (by decide))); have hc4 : w4.cell? ⟨g, 0, none⟩ = some (.slice A es.length c) := (blk_cell hbk.out 0).trans rfl; have hz4 := blk_frozen hbk.out 0; have HO4 := Aside0.mk ho; have HB4 := Aside0.mk hb; have HG4 := Aside0.mk hg; have HAT4 := Aside0.mk hat; clear ho hb hg hat))
              go_ret2
              refine ⟨by unfold enterN; rw [HE.out, if_pos rfl, ← W1.out]; rfl, ?_⟩
              unfold enterS; rw [HE.out, if_pos rfl, ← W1.out]
              have HO5 := HO4.out
              rw [show (es ++ [(⟨f, wrap64 ((cnt es f : Int) + 1), nm, sz⟩ : S44)]).length = es.length + 1 by simp] at HO5
              have HAT5 := HAT4.out
              rw [show (es ++ [(⟨f, wrap64 ((cnt es f : Int) + 1), nm, sz⟩ : S44)]).length = es.length + 1 by simp] at HAT5
              refine ⟨.slice A1 (es.length + 1) cc1, ⟨?_, HB.out.le, Kd.R_set HO5 hbk.out no55 0 _⟩, HB4.out.setCell HB.out.le _, ((KeepBut.of_below HB3.out g _).trans (KeepBut.of_grown HG4.out g) (.inl rfl)).set_ 0 _, ?_⟩
              · exact blk_set hbk.out 0 _
              · rcases HAT5 with h | ⟨b, h, hb⟩
                · exact .inl h
                · exact .inr ⟨b, h, Nat.le_trans HB3.out.size hb⟩
          · have HE : Aside0 (enterE es cl f nm sz = 11) := ⟨by unfold enterE; rw [if_neg (by rw [hf]; decide), if_neg (by rw [hg]; decide), if_neg hs, if_neg (by rw [hc]; decide), if_pos h0]⟩
            obtain ⟨q, hq⟩ : ∃ q, q = fnd es f nm := ⟨_, rfl⟩
            rw [← hq] at HFI h0
            have c2 : (q == 0) = false := beq_eq_false_iff_ne.2 h0
            have c3 : (q != 0) = true := bne_iff_ne.2 h0
            clear bad hi hf hB hn hg hgd hs hf2 hc h0 hq
            go_enter Try.func11, Try.ntmps11
            go_wp2_with (first | (go_at_call 24; refine HI.out.mono ?_; rintro e w1 ⟨rfl, rfl⟩) | (go_at_call 25; refine HG.out.mono ?_; rintro e w1 ⟨rfl, hb1⟩; have HB1 := Aside0.mk hb1; have hcc := HC.out w1 hb1; clear hb1) | (go_at_call 22; refine (HFI.out _ HB1.out).mono ?_; rintro e w2 ⟨rfl, hb2⟩; have HB2 := Aside0.mk (below_step HB1.out hb2); clear hb2))
            go_ret2
            have hb := HBAD.out 11 HE.out (by decide)
            exact ⟨by rw [HE.out, hb.1]; rfl, by rw [hb.2]; exact Turned.of_below HB.out HB2.out⟩
end Go.Proofs.Ythadfkpibnhcgaa.B
