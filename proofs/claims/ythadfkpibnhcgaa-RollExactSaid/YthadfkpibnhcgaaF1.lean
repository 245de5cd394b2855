/- RollClosed: its walk. Condition: the script reads as one. -/
import Derived.Test.YthadfkpibnhcgaaF0
set_option linter.unusedVariables false
set_option linter.unusedSimpArgs false
namespace Go.Proofs.Ythadfkpibnhcgaa.B
open Go.RowKit Go.Proofs.Ythadfkpibnhcgaa.X Go.Proofs.YthadfkpibnhcgaaW.PrintWords Go.Proofs.YthadfkpibnhcgaaW.PrintLast Go.Proofs.YthadfkpibnhcgaaW.PrintMore

/-- The law's argument at block b. -/
def ArgAt (w : World) (b : Nat) (v : Value) (F : Int) (nm : ByteArray) (num sz : Int) : Prop := w.heap[b]? = some (.cells #[v, .int .i64 F, .string nm, .int .i64 num, .int .i64 sz] 50 (0, 0))
section
variable {w w' : World} {b : Nat} {v : Value} {F num sz : Int} {nm : ByteArray}
theorem ArgAt.below (h : ArgAt w b v F nm num sz) (k : Below w.heap.size w w') : ArgAt w' b v F nm num sz := blk_below h k
theorem ArgAt.c0 (h : ArgAt w b v F nm num sz) : w.cell? ⟨b, 0, none⟩ = some v := (blk_cell h 0).trans rfl
theorem ArgAt.c1 (h : ArgAt w b v F nm num sz) : w.cell? ⟨b, 1, none⟩ = some (.int .i64 F) := (blk_cell h 1).trans rfl
theorem ArgAt.c2 (h : ArgAt w b v F nm num sz) : w.cell? ⟨b, 2, none⟩ = some (.string nm) := (blk_cell h 2).trans rfl
theorem ArgAt.c3 (h : ArgAt w b v F nm num sz) : w.cell? ⟨b, 3, none⟩ = some (.int .i64 num) := (blk_cell h 3).trans rfl
theorem ArgAt.c4 (h : ArgAt w b v F nm num sz) : w.cell? ⟨b, 4, none⟩ = some (.int .i64 sz) := (blk_cell h 4).trans rfl
theorem ArgAt.keep (h : ArgAt w b v F nm num sz) {base g : Nat} {u : Value} {es : List S44} {cl : Nat → Bool} (hB : IsB w base g u es cl) {row : Option Nat} (hr : row = none ∨ row = u.ownBlock) (k : KeepBut w w' g row) : ArgAt w' b v F nm num sz :=
  k.blk h (blk_ne h hB.blk (by decide)) (by rcases hr with rfl | rfl; · simp
                                            · exact Kd.R_ne hB.row h (by decide))
end
/-- All that is held at once. -/
structure St (w0 w : World) (g ga go b0 : Nat) (av : Value) (F : Int) (nm : ByteArray) (num sz : Int) (u : Value) (p : Nat → Bool) (v : Value) (es : List S44) (cl : Nat → Bool) : Prop where
  isb : IsB w w0.heap.size g v es cl
  arg : ArgAt w ga av F nm num sz
  opn : OpnAt w go p
  row : Row w b0 u es
  blw : Below w0.heap.size w0 w
  ap : ∀ j, u.ownBlock = some j → some j ≠ v.ownBlock
section
variable {w0 w w' : World} {g ga go b0 : Nat} {av u v : Value} {F num sz : Int} {nm : ByteArray} {p : Nat → Bool} {es : List S44} {cl cl' : Nat → Bool}
theorem St.below (h : St w0 w g ga go b0 av F nm num sz u p v es cl) (k : Below w.heap.size w w') : St w0 w' g ga go b0 av F nm num sz u p v es cl :=
  ⟨h.isb.below k, h.arg.below k, h.opn.below k, h.row.below k, below_step h.blw k, h.ap⟩
theorem St.close (h : St w0 w g ga go b0 av F nm num sz u p v es cl) (hi : IsB w' w0.heap.size g v es cl') (hb : Below w0.heap.size w w') (k : KeepBut w w' g none) : St w0 w' g ga go b0 av F nm num sz u p v es cl' :=
  ⟨hi, h.arg.keep h.isb (.inl rfl) k, h.opn.keep h.isb (.inl rfl) k, h.row.keep k (fun j hj => ⟨h.row.ne_blk h.isb.blk (by decide) j hj, by simp⟩), B.blw h.blw hb, h.ap⟩
theorem St.turn (h : St w0 w g ga go b0 av F nm num sz u p v es cl) (t : Turned w w' w0.heap.size g v es cl') : ∃ v', St w0 w' g ga go b0 av F nm num sz u p v' es cl' ∧ (v'.ownBlock = v.ownBlock ∨ ∃ b, v'.ownBlock = some b ∧ w.heap.size ≤ b) := by
  obtain ⟨v', hi, hb, k, hat⟩ := t
  refine ⟨v', ⟨hi, h.arg.keep h.isb (.inr rfl) k, h.opn.keep h.isb (.inr rfl) k, h.row.keep k (fun j hj => ⟨h.row.ne_blk h.isb.blk (by decide) j hj, h.ap j hj⟩), B.blw h.blw hb, fun j hj => ?_⟩, hat⟩
  rcases hat with e | ⟨b, e, hb2⟩
  · rw [e]; exact h.ap j hj
  · rw [e]; intro e2; injection e2 with e2; have := (h.row.lt j hj).2; omega
theorem St.turn2 (h : St w0 w g ga go b0 av F nm num sz u p v es cl) {v' : Value} (hi : IsB w' w0.heap.size g v' es cl') (hb : Below w0.heap.size w w') (k : KeepBut w w' g v.ownBlock) (hat : v'.ownBlock = v.ownBlock ∨ ∃ b, v'.ownBlock = some b ∧ w.heap.size ≤ b) : St w0 w' g ga go b0 av F nm num sz u p v' es cl' := by
  refine ⟨hi, h.arg.keep h.isb (.inr rfl) k, h.opn.keep h.isb (.inr rfl) k, h.row.keep k (fun j hj => ⟨h.row.ne_blk h.isb.blk (by decide) j hj, h.ap j hj⟩), B.blw h.blw hb, fun j hj => ?_⟩
  rcases hat with e | ⟨b, e, hb2⟩
  · rw [e]; exact h.ap j hj
  · rw [e]; intro e2; injection e2 with e2; have := (h.row.lt j hj).2; omega
/-- An entry that is held beside it. -/
structure Et (w : World) (b : Nat) (v : Value) (a0 a1 : Int) (a2 : ByteArray) (a3 : Int) : Prop where
  at_ : EntAt w b a0 a1 a2 a3
  ap : some b ≠ v.ownBlock
variable {b : Nat} {a0 a1 a3 : Int} {a2 : ByteArray} {v' : Value}
theorem Et.below (h : Et w b v a0 a1 a2 a3) (k : Below w.heap.size w w') : Et w' b v a0 a1 a2 a3 := ⟨h.at_.below k, h.ap⟩
theorem Et.close (h : Et w b v a0 a1 a2 a3) {base : Nat} (hB : IsB w base g v es cl) (k : KeepBut w w' g none) : Et w' b v a0 a1 a2 a3 := ⟨h.at_.keep hB (by simp) k, h.ap⟩
theorem Et.turn (h : Et w b v a0 a1 a2 a3) {base : Nat} (hB : IsB w base g v es cl) (k : KeepBut w w' g v.ownBlock) (hat : v'.ownBlock = v.ownBlock ∨ ∃ b, v'.ownBlock = some b ∧ w.heap.size ≤ b) : Et w' b v' a0 a1 a2 a3 :=
  ⟨h.at_.keep hB h.ap k, by
    rcases hat with e | ⟨b', e, hb⟩
    · rw [e]; exact h.ap
    · rw [e]; intro e2; injection e2 with e2; have := blk_lt h.at_; omega⟩
theorem Et.new {w : World} {base : Nat} (hB : IsB w base g v es cl) : Et (w.alloc (.cells #[.int .i64 a0, .int .i64 a1, .string a2, .int .i64 a3] 44)) w.heap.size v a0 a1 a2 a3 :=
  ⟨blk_new _ _, fun e => by have := ((Row.of hB.row).lt _ e.symm).2; omega⟩
theorem Et.c0 (h : Et w b v a0 a1 a2 a3) : w.cell? ⟨b, 0, none⟩ = some (.int .i64 a0) := (blk_cell h.at_ 0).trans rfl
theorem Et.c1 (h : Et w b v a0 a1 a2 a3) : w.cell? ⟨b, 1, none⟩ = some (.int .i64 a1) := (blk_cell h.at_ 1).trans rfl
theorem Et.c2 (h : Et w b v a0 a1 a2 a3) : w.cell? ⟨b, 2, none⟩ = some (.string a2) := (blk_cell h.at_ 2).trans rfl
theorem Et.c3 (h : Et w b v a0 a1 a2 a3) : w.cell? ⟨b, 3, none⟩ = some (.int .i64 a3) := (blk_cell h.at_ 3).trans rfl
end
set_option maxHeartbeats 4000000 in
set_option maxRecDepth 100000 in
theorem closed_calls (w : World) (A : Option Addr) (c : Nat) (l : List S27) (F : Int) (nm : ByteArray) (num sz : Int) (hr : Kd.C k27 w A l.length l) (hn : l.length ≤ 4611686018427387903) :
    Calls Try.prog 7 #[.agg #[.slice A l.length c, .int .i64 F, .string nm, .int .i64 num, .int .i64 sz]] w fun e w' => e = .returned (.bool true) ∧ Below w.heap.size w w' := by
  have hu44 := Try.underlying44
  have HR := Aside0.mk hr
  have HN := Aside0.mk hn
  obtain ⟨wa, hwa⟩ : ∃ wa, wa = w.alloc (.cells #[.slice A l.length c, .int .i64 F, .string nm, .int .i64 num, .int .i64 sz] 50) := ⟨_, rfl⟩
  have HWA := Aside0.mk hwa
  have HAW := Aside0.mk (awake_calls wa)
  have HBA : Aside0 (Below w.heap.size w wa) := ⟨by rw [hwa]; exact below_alloc (Below.refl _ _) _⟩
  obtain ⟨ga, hga⟩ : ∃ ga, ga = w.heap.size := ⟨_, rfl⟩
  have HGA := Aside0.mk hga
  have HAR0 : Aside0 (ArgAt wa ga (.slice A l.length c) F nm num sz) := ⟨by rw [hwa, hga]; exact blk_new _ _⟩
  rw [hwa] at HAW
  have HNEW : Aside0 (∀ w1, Below w.heap.size w w1 → Calls Try.prog 9 #[] w1 fun e w' => ∃ g, e = .returned (.pointer (some ⟨g, 0, none⟩)) ∧ IsB w' w.heap.size g (.slice none 0 0) [] none_ ∧ Below w1.heap.size w1 w' ∧ w1.heap.size ≤ g) := ⟨fun w1 h => new_calls w1 w.heap.size h.size⟩
  clear hr hn hwa hga
  go_enter Try.func7, Try.ntmps7
  go_wp2_with (first | (go_at_call 8; (with_reducible refine HAW.out.mono ?_); rintro e w1 ⟨rfl, hb⟩; rw [← HWA.out] at hb; have HB1 := Aside0.mk (below_step HBA.out hb); have HAR1 := Aside0.mk (HAR0.out.below hb); clear hb) | (go_at_call 9; (with_reducible refine (HNEW.out _ HB1.out).mono ?_); rintro e w2 ⟨g, rfl, hi, hb, hge⟩; have HIA := Aside0.mk hi; have HB2 := Aside0.mk (below_step HB1.out hb); have HAR2 := Aside0.mk (HAR1.out.below hb); clear hi hb hge))
  rw [← HGA.out]
  go_loopw [4] (fun ti wr => ∃ (i : Nat) (v : Value) (es : List S44) (cl : Nat → Bool), ti = .int .i64 (i : Int) ∧ Aside0 (i ≤ l.length) ∧ Aside0 (IsB wr w.heap.size g v es cl) ∧ Aside0 (es.length ≤ 64) ∧ Aside0 (Fam es) ∧ Aside0 (ArgAt wr ga (.slice A l.length c) F nm num sz) ∧ Aside0 (Below w.heap.size w wr)) (fun ti _ => l.length - left ti)
  case atStart => exact ⟨0, _, [], _, rfl, ⟨Nat.zero_le _⟩, HIA, ⟨by simp⟩, ⟨Fam.nil⟩, HAR2, HB2⟩
  case round =>
    obtain ⟨i, v, es, cl, rfl, hi, HA, HL, HFA, HAR, HB⟩ := hrel
    have har0 := HAR.out.c0
    by_cases ci : i < l.length
    · have c1 : decide ((i : Int) < (l.length : Int)) = true := decide_eq_true (by omega)
      have c2 : decide (i < l.length) = true := decide_eq_true ci
      obtain ⟨ad, rfl, hx0, hx1, hx2, hx3, hx4⟩ := at27 (Kd.C_below HR.out HB.out) i ci
      obtain ⟨x, hx⟩ : ∃ x, x = rd27 l (i : Int) := ⟨_, rfl⟩
      rw [← hx] at hx0 hx1 hx2 hx3 hx4
      clear hx
      have W1 : Aside0 (wrap64 ((i : Int) + 1) = ((i + 1 : Nat) : Int)) := ⟨next1 i _ HN.out ci⟩
      have ML := Aside0.mk (less i l.length HN.out ci)
      by_cases ce : x.f0 = 2
      · have c3 : (x.f0 == 2) = true := beq_iff_eq.2 ce
        clear ce
        have HCL : Aside0 (∀ w1, Below wr.heap.size wr w1 → Calls Try.prog 10 #[.pointer (some ⟨g, 0, none⟩), .int .i64 x.f2] w1 fun e w' => e = .returned (.tuple #[]) ∧ IsB w' w.heap.size g v es (cloF cl x.f2) ∧ Below w.heap.size w1 w' ∧ KeepBut w1 w' g none) := ⟨fun w1 h => close_calls w1 _ g v es cl x.f2 (HA.out.below h)⟩
        go_wp2_with (go_at_call 10; (refine (HCL.out _ (below_alloc (Below.refl _ _) _)).mono ?_); rintro e w1 ⟨rfl, hi1, hb, hk⟩; have HA1 := Aside0.mk hi1; have HB1 := Aside0.mk (blw (below_alloc HB.out _) hb); have HAR1 := Aside0.mk ((HAR.out.below (below_alloc (Below.refl _ _) _)).keep (HA.out.below (below_alloc (Below.refl _ _) _)) (.inl rfl) hk); clear hi1 hb hk)
        exact ⟨⟨i + 1, v, es, cloF cl x.f2, by rw [W1.out], ⟨by omega⟩, HA1, HL, HFA, HAR1, HB1⟩, ML.out⟩
      · have c3 : (x.f0 == 2) = false := beq_eq_false_iff_ne.2 ce
        clear ce
        have HEN : Aside0 (∀ w1, Below wr.heap.size wr w1 → Calls Try.prog 11 #[.pointer (some ⟨g, 0, none⟩), .int .i64 x.f2, .string x.f3, .int .i64 x.f4] w1 fun e w' => e = .returned (.tuple #[.int .i64 (enterN es cl x.f2 x.f3 x.f4), .int .i64 (enterE es cl x.f2 x.f3 x.f4)]) ∧ Turned w1 w' w.heap.size g v (enterS es cl x.f2 x.f3 x.f4) cl) := ⟨fun w1 h => enter_calls w1 _ g v es cl x.f2 x.f3 x.f4 (HA.out.below h) HL.out⟩
        go_wp2_with (go_at_call 11; (refine (HEN.out _ (below_alloc (Below.refl _ _) _)).mono ?_); rintro e w1 ⟨rfl, v1, hi1, hb, hk, _⟩; have HA1 := Aside0.mk hi1; have HB1 := Aside0.mk (blw (below_alloc HB.out _) hb); have HAR1 := Aside0.mk ((HAR.out.below (below_alloc (Below.refl _ _) _)).keep (HA.out.below (below_alloc (Below.refl _ _) _)) (.inr rfl) hk); clear hi1 hb hk)
        exact ⟨⟨i + 1, v1, _, cl, by rw [W1.out], ⟨by omega⟩, HA1, ⟨enterS_len _ _ _ _ _ HL.out⟩, ⟨HFA.out.enter _ _ _ _⟩, HAR1, HB1⟩, ML.out⟩
    · have c1 : decide ((i : Int) < (l.length : Int)) = false := decide_eq_false (by omega)
      have c2 : decide (i < l.length) = false := decide_eq_false ci
      obtain ⟨b0, hb0⟩ : ∃ b0, b0 = wr.heap.size := ⟨_, rfl⟩
      have HV : Aside0 (∀ j, v.ownBlock = some j → j < b0) := ⟨fun j hj => by rw [hb0]; exact ((Row.of HA.out.row).lt j hj).2⟩
      have HALL := Aside0.mk (all_calls wr _ g v es cl HA.out HL.out)
      rw [← hb0] at HALL
      have HB0 : Aside0 (w.heap.size ≤ b0) := ⟨by rw [hb0]; exact HB.out.size⟩
      go_wp2_with (go_at_call 14; (with_reducible refine HALL.out.mono ?_); rintro e w3 ⟨v3, rfl, ho, hb⟩; rw [hb0] at hb; obtain ⟨A3, c3, rfl⟩ := Kd.R_slice ho; have HR3 := Aside0.mk (Row.of ho); have HA3 := Aside0.mk (HA.out.below hb); have HB3 := Aside0.mk (below_step HB.out hb); have HAR3 := Aside0.mk (HAR.out.below hb); clear ho hb)
      obtain ⟨go, hgo⟩ : ∃ go, go = w3.heap.size := ⟨_, rfl⟩
      have HGO := Aside0.mk hgo
      rw [← hgo]
      clear hgo hb0 har0
      have HOP0 : Aside0 (OpnAt (w3.alloc (.cells #[.bool false, .bool false, .bool false, .bool false, .bool false, .bool false, .bool false] 51)) go (fun k => decide (k < 0) && (isF (k : Int) && !cl ((k : Nat) : Int).toNat))) := ⟨by rw [HGO.out]; exact blk_new _ _⟩
      have HX := Aside0.mk (below_alloc (Below.refl w3.heap.size w3) (.cells #[.bool false, .bool false, .bool false, .bool false, .bool false, .bool false, .bool false] 51))
      have HGE : Aside0 (w.heap.size ≤ go) := ⟨by rw [HGO.out]; exact HB3.out.size⟩
      go_loopw [8] (fun tj wr2 => ∃ j : Nat, tj = .int .i64 (j : Int) ∧ Aside0 (j ≤ 7) ∧ Aside0 (OpnAt wr2 go (fun k => decide (k < j) && (isF (k : Int) && !cl ((k : Nat) : Int).toNat))) ∧ Aside0 (IsB wr2 w.heap.size g v es cl) ∧ Aside0 (ArgAt wr2 ga (.slice A l.length c) F nm num sz) ∧ Aside0 (Row wr2 b0 (.slice A3 es.length c3) es) ∧ Aside0 (Below w.heap.size w wr2)) (fun tj _ => 7 - left tj)
      case atStart => exact ⟨0, rfl, ⟨Nat.zero_le _⟩, HOP0, ⟨HA3.out.below HX.out⟩, ⟨HAR3.out.below HX.out⟩, ⟨HR3.out.below HX.out⟩, ⟨below_step HB3.out HX.out⟩⟩
      case round =>
        obtain ⟨j, rfl, hj, HO4, HA4, HAR4, HR4, HB4⟩ := hrel
        by_cases cj : j < 7
        · have d1 : decide ((j : Int) < 7) = true := decide_eq_true (by omega)
          have d2 : decide (j < 7) = true := decide_eq_true cj
          obtain ⟨o, ho⟩ : ∃ o, o = (isF (j : Int) && !cl ((j : Nat) : Int).toNat) := ⟨_, rfl⟩
          have HOC := Aside0.mk (open_calls wr _ g v es cl (j : Int) HA4.out)
          rw [← ho] at HOC
          have hcj := HO4.out.cell j cj
          have hzj := blk_frozen HO4.out j
          have HO5 : Aside0 (OpnAt (wr.setCell ⟨go, j, none⟩ (.bool o)) go (fun k => decide (k < j + 1) && (isF (k : Int) && !cl ((k : Nat) : Int).toNat))) := ⟨by
            have := blk_set HO4.out j (.bool o)
            rw [b7_set _ _ _ cj] at this
            refine this.trans ?_
            congr 3
            funext k
            by_cases hk : k = j
            · rw [if_pos hk, ho, hk, decide_eq_true (by omega), Bool.true_and]
            · rw [if_neg hk]; congr 1; rw [Bool.eq_iff_iff, decide_eq_true_iff, decide_eq_true_iff]; omega⟩
          have HA5 := Aside0.mk (HA4.out.far HO4.out (by decide) (by decide) j (.bool o))
          have HAR5 : Aside0 (ArgAt (wr.setCell ⟨go, j, none⟩ (.bool o)) ga (.slice A l.length c) F nm num sz) := ⟨blk_far (p := ⟨go, j, none⟩) HAR4.out (blk_ne (t := 50) (t' := 51) (g' := go) HAR4.out HO4.out (by decide)) _⟩
          have HR5 : Aside0 (Row (wr.setCell ⟨go, j, none⟩ (.bool o)) b0 (.slice A3 es.length c3) es) := ⟨Kd.R_far HR4.out (p := ⟨go, j, none⟩) (fun k hk => HR4.out.ne_blk HO4.out (by decide) k hk) _⟩
          have HB5 := Aside0.mk (below_set (j := j) (v := .bool o) HB4.out HGE.out)
          clear ho hcj
          have hcj := HO4.out.cell j cj
          go_wp2_with (go_at_call 12; (with_reducible refine HOC.out.mono ?_); rintro e w5 ⟨rfl, rfl⟩)
          exact ⟨⟨j + 1, rfl, ⟨by omega⟩, HO5, HA5, HAR5, HR5, HB5⟩, by show 7 - ((j : Int) + 1).toNat < 7 - ((j : Nat) : Int).toNat; omega⟩
        · have d1 : decide ((j : Int) < 7) = false := decide_eq_false (by omega)
          have d2 : decide (j < 7) = false := decide_eq_false cj
          have HO5 : Aside0 (OpnAt wr go (fun k => decide (k < 7) && (isF (k : Int) && !cl ((k : Nat) : Int).toNat))) := ⟨by have := HO4.out; rwa [show j = 7 by have := hj.out; omega] at this⟩
          have HS : Aside0 (St w wr g ga go b0 (.slice A l.length c) F nm num sz (.slice A3 es.length c3) (fun k => decide (k < 7) && (isF (k : Int) && !cl ((k : Nat) : Int).toNat)) v es cl) := ⟨⟨HA4.out, HAR4.out, HO5.out, HR4.out, HB4.out, (HR4.out.apart HA4.out HV.out · · |>.2)⟩⟩
          obtain ⟨p, hp⟩ : ∃ p : Nat → Bool, p = (fun k : Nat => decide (k < 7) && (isF (k : Int) && !cl ((k : Nat) : Int).toNat)) := ⟨_, rfl⟩
          have HP := Aside0.mk hp
          rw [← hp] at HS
          clear HO4 HO5 HA4 HAR4 HR4 HB4 hp
          -- what the calls answer
          obtain ⟨fd, hfd⟩ : ∃ fd, fd = fnd es F nm := ⟨_, rfl⟩
          obtain ⟨cn, hcn⟩ : ∃ cn, cn = cnt es F := ⟨_, rfl⟩
          obtain ⟨a0, a1, a2, a3, ok, hat, hok⟩ := at_form es F num HFA.out
          have HFD : Aside0 (∀ w1 v' cl', IsB w1 w.heap.size g v' es cl' → Calls Try.prog 22 #[.pointer (some ⟨g, 0, none⟩), .int .i64 F, .string nm] w1 fun e w' => e = .returned (.int .i64 fd) ∧ Below w1.heap.size w1 w') := ⟨fun w1 v' cl' h => by have := find_calls w1 _ g v' es cl' F nm h (by have := HL.out; omega); rw [← hfd] at this; exact this⟩
          have HCN : Aside0 (∀ w1 v' cl', IsB w1 w.heap.size g v' es cl' → Calls Try.prog 13 #[.pointer (some ⟨g, 0, none⟩), .int .i64 F] w1 fun e w' => e = .returned (.int .i64 (cn : Int)) ∧ Below w1.heap.size w1 w') := ⟨fun w1 v' cl' h => by have := count_calls w1 _ g v' es cl' F h (by have := HL.out; omega); rw [← hcn] at this; exact this⟩
          have HAT : Aside0 (∀ w1 v' cl', IsB w1 w.heap.size g v' es cl' → Calls Try.prog 23 #[.pointer (some ⟨g, 0, none⟩), .int .i64 F, .int .i64 num] w1 fun e w' => e = .returned (.tuple #[.agg #[.int .i64 a0, .int .i64 a1, .string a2, .int .i64 a3], .bool ok]) ∧ Below w1.heap.size w1 w') := ⟨fun w1 v' cl' h => by have := at_calls w1 _ g v' es cl' F num h (by have := HL.out; omega); rw [hat] at this; exact this⟩
          have HC1 : Aside0 (∀ w1, IsB w1 w.heap.size g v es cl → Calls Try.prog 10 #[.pointer (some ⟨g, 0, none⟩), .int .i64 F] w1 fun e w' => e = .returned (.tuple #[]) ∧ IsB w' w.heap.size g v es (cloF cl F) ∧ Below w.heap.size w1 w' ∧ KeepBut w1 w' g none) := ⟨fun w1 h => close_calls w1 _ g v es cl F h⟩
          have HC2 : Aside0 (∀ w1, IsB w1 w.heap.size g v es (cloF cl F) → Calls Try.prog 10 #[.pointer (some ⟨g, 0, none⟩), .int .i64 F] w1 fun e w' => e = .returned (.tuple #[]) ∧ IsB w' w.heap.size g v es (cl2 cl F) ∧ Below w.heap.size w1 w' ∧ KeepBut w1 w' g none) := ⟨fun w1 h => close_calls w1 _ g v es (cloF cl F) F h⟩
          obtain ⟨q, hq⟩ : ∃ q, q = enterE es (cl2 cl F) F nm sz := ⟨_, rfl⟩
          obtain ⟨z, hz⟩ : ∃ z, z = enterE es (cl2 cl F) F nZ 0 := ⟨_, rfl⟩
          have hq0 : ¬ q = 0 := by rcases (closed_E : enterE es (cl2 cl F) F nm sz = 1 ∨ _) with h | h <;> omega
          have hz0 : ¬ z = 0 := by rw [hz, closed_Z]; split <;> decide
          have HE1 : Aside0 (∀ w1 v', IsB w1 w.heap.size g v' es (cl2 cl F) → Calls Try.prog 11 #[.pointer (some ⟨g, 0, none⟩), .int .i64 F, .string nm, .int .i64 sz] w1 fun e w' => e = .returned (.tuple #[.int .i64 0, .int .i64 q]) ∧ Turned w1 w' w.heap.size g v' es (cl2 cl F)) := ⟨fun w1 v' h => by
            have := enter_calls w1 _ g v' es (cl2 cl F) F nm sz h HL.out
            unfold enterN enterS at this
            rw [← hq, if_neg hq0, if_neg hq0] at this; exact this⟩
          have HE2 : Aside0 (∀ w1 v', IsB w1 w.heap.size g v' es (cl2 cl F) → Calls Try.prog 11 #[.pointer (some ⟨g, 0, none⟩), .int .i64 F, .string (⟨#[122]⟩ : ByteArray), .int .i64 0] w1 fun e w' => e = .returned (.tuple #[.int .i64 0, .int .i64 z]) ∧ Turned w1 w' w.heap.size g v' es (cl2 cl F)) := ⟨fun w1 v' h => by
            have := enter_calls w1 _ g v' es (cl2 cl F) F nZ 0 h HL.out
            unfold enterN enterS at this
            rw [← hz, if_neg hz0, if_neg hz0] at this; exact this⟩
          have HCASE : Aside0 ((isF F = true ∧ z = 10 ∧ (q = 1 ∨ q = 10)) ∨ (isF F = false ∧ z = 1 ∧ q = 1 ∧ fd = 0 ∧ cn = 0 ∧ ok = false)) := ⟨by
            have h1 : z = if isF F then 10 else 1 := by rw [hz]; exact closed_Z
            have h2 : q = 1 ∨ (q = 10 ∧ isF F = true) := by rw [hq]; exact closed_E
            cases hf : isF F with
            | true => rw [hf] at h1; exact .inl ⟨rfl, h1, h2.elim .inl fun h => .inr h.1⟩
            | false =>
              rw [hf] at h1 h2
              exact .inr ⟨rfl, h1, h2.elim id (fun h => by cases h.2), by rw [hfd]; exact HFA.out.none_fnd hf nm, by rw [hcn]; exact HFA.out.none_cnt hf, hok hf⟩⟩
          clear hfd hcn hat hok hq hz hq0 hz0
          have har1 := HS.out.arg.c1
          have har2 := HS.out.arg.c2
          have har3 := HS.out.arg.c3
          have har4 := HS.out.arg.c4
          go_upto_region 22 with (first | (go_at_call 10; (with_reducible refine (HC2.out _ HS9.out.isb).mono ?_); rintro e w10 ⟨rfl, hi, hb, hk⟩; have HS10 := Aside0.mk (HS9.out.close hi hb hk); have HX10 := Aside0.mk (HX9.out.close HS9.out.isb hk); have k1 := HS10.out.arg.c1; have k2 := HS10.out.arg.c2; have k3 := HS10.out.arg.c3; have k4 := HS10.out.arg.c4; clear hi hb hk) | (go_at_call 10; (with_reducible refine (HC1.out _ HS8.out.isb).mono ?_); rintro e w9 ⟨rfl, hi, hb, hk⟩; have HS9 := Aside0.mk (HS8.out.close hi hb hk); have HX9 := Aside0.mk (HX8.out.close HS8.out.isb hk); have j1 := HS9.out.arg.c1; clear hi hb hk) | (go_at_call 13; (with_reducible refine (HCN.out _ _ _ HS7.out.isb).mono ?_); rintro e w8 ⟨rfl, hb⟩; have HS8 := Aside0.mk (HS7.out.below hb); have HX8 := Aside0.mk (HX7.out.below hb); have i1 := HS8.out.arg.c1; clear hb) | (go_at_call 23; (with_reducible refine (HAT.out _ _ _ HS6.out.isb).mono ?_); rintro e w7 ⟨rfl, hb⟩; have HS7' := Aside0.mk (HS6.out.below hb); have HX7 := Aside0.mk (Et.new (a0 := a0) (a1 := a1) (a2 := a2) (a3 := a3) HS7'.out.isb); have HS7 := Aside0.mk (HS7'.out.below (below_alloc (Below.refl _ _) (.cells #[.int .i64 a0, .int .i64 a1, .string a2, .int .i64 a3] 44))); have h1 := HS7.out.arg.c1; clear hb) | (go_at_call 22; (with_reducible refine (HFD.out _ _ _ HS.out.isb).mono ?_); rintro e w6 ⟨rfl, hb⟩; have HS6 := Aside0.mk (HS.out.below hb); have g1 := HS6.out.arg.c1; have g3 := HS6.out.arg.c3; clear hb))
          have HPJ : Aside0 (∀ j : Nat, j < 7 → p j = (isF (j : Int) && !cl ((j : Nat) : Int).toNat)) := ⟨fun j hj => by rw [HP.out]; simp only [decide_eq_true hj, Bool.true_and]⟩
          obtain ⟨bx, hbx⟩ : ∃ bx, bx = w7.heap.size := ⟨_, rfl⟩
          rw [← hbx] at HX10
          rw [← hbx]
          clear hbx HX9 HX8 HX7 HS HS6 HS7 HS7' HS8 HS9 har1 har2 har3 har4 g1 g3 h1 i1 j1
          have tests : Aside0 (((decide (1 ≤ F) = true ∧ decide (F ≤ 5) = true) ∧ z = 10 ∧ (q = 1 ∨ q = 10)) ∨ (decide (1 ≤ F) = false ∧ z = 1 ∧ q = 1 ∧ fd = 0 ∧ cn = 0 ∧ ok = false) ∨ ((decide (1 ≤ F) = true ∧ decide (F ≤ 5) = false) ∧ z = 1 ∧ q = 1 ∧ fd = 0 ∧ cn = 0 ∧ ok = false)) := ⟨by
            rcases HCASE.out with ⟨hf, h1, h2⟩ | ⟨hf, h1⟩
            · have := of_decide_eq_true hf; exact .inl ⟨⟨decide_eq_true this.1, decide_eq_true this.2⟩, h1, h2⟩
            · have := of_decide_eq_false hf
              by_cases h5 : 1 ≤ F
              · exact .inr (.inr ⟨⟨decide_eq_true h5, decide_eq_false (by omega)⟩, h1⟩)
              · exact .inr (.inl ⟨decide_eq_false h5, h1⟩)⟩
          rcases tests.out with ⟨⟨t1, t2⟩, rfl, rfl | rfl⟩ | ⟨t1, rfl, rfl, rfl, rfl, rfl⟩ | ⟨⟨t1, t2⟩, rfl, rfl, rfl, rfl, rfl⟩
          all_goals
            clear tests HCASE
            go_wp2_with (first | (go_at_call 13; (with_reducible refine (HCN.out _ _ _ HS14.out.isb).mono ?_); rintro e w15 ⟨rfl, hb⟩; have HS15 := Aside0.mk (HS14.out.below hb); have HX15 := Aside0.mk (HX14.out.below hb); have HY15 := Aside0.mk (HY14.out.below hb); have x0 := HX15.out.c0; have x1 := HX15.out.c1; have x2 := HX15.out.c2; have x3 := HX15.out.c3; have y0 := HY15.out.c0; have y1 := HY15.out.c1; have y2 := HY15.out.c2; have y3 := HY15.out.c3; clear hb) | (go_at_call 22; (with_reducible refine (HFD.out _ _ _ HS13.out.isb).mono ?_); rintro e w14 ⟨rfl, hb⟩; have HS14 := Aside0.mk (HS13.out.below hb); have HX14 := Aside0.mk (HX13.out.below hb); have HY14 := Aside0.mk (HY13.out.below hb); have p1 := HS14.out.arg.c1; clear hb) | (go_at_call 23; (with_reducible refine (HAT.out _ _ _ HS12.out.isb).mono ?_); rintro e w13 ⟨rfl, hb⟩; have HS13' := Aside0.mk (HS12.out.below hb); have HY13 := Aside0.mk (Et.new (a0 := a0) (a1 := a1) (a2 := a2) (a3 := a3) HS13'.out.isb); have HX13 := Aside0.mk ((HX12.out.below hb).below (below_alloc (Below.refl _ _) (.cells #[.int .i64 a0, .int .i64 a1, .string a2, .int .i64 a3] 44))); have HS13 := Aside0.mk (HS13'.out.below (below_alloc (Below.refl _ _) (.cells #[.int .i64 a0, .int .i64 a1, .string a2, .int .i64 a3] 44))); have o1 := HS13.out.arg.c1; have o2 := HS13.out.arg.c2; clear hb) | (go_at_call 11; (with_reducible refine (HE2.out _ _ HS11.out.isb).mono ?_); rintro e w12 ⟨rfl, v12, hi, hb, hk, hat⟩; have HS12 := Aside0.mk (HS11.out.turn2 hi hb hk hat); have HX12 := Aside0.mk (HX11.out.turn HS11.out.isb hk hat); have m1 := HS12.out.arg.c1; have m3 := HS12.out.arg.c3; clear hi hb hk hat) | (go_at_call 11; (with_reducible refine (HE1.out _ _ HS10.out.isb).mono ?_); rintro e w11 ⟨rfl, v11, hi, hb, hk, hat⟩; have HS11 := Aside0.mk (HS10.out.turn2 hi hb hk hat); have HX11 := Aside0.mk (HX10.out.turn HS10.out.isb hk hat); have l1 := HS11.out.arg.c1; clear hi hb hk hat))
            have HV15 := HS15.out.isb
            go_loopw [20] (fun tj wr3 => ∃ j : Nat, tj = .int .i64 (j : Int) ∧ Aside0 (j ≤ 7) ∧ Aside0 (St w wr3 g ga go b0 (.slice A l.length c) F nm num sz (.slice A3 es.length c3) p v12 es (cl2 cl F))) (fun tj _ => 7 - left tj)
            case atStart => exact ⟨0, rfl, ⟨Nat.zero_le _⟩, HS15⟩
            case round =>
              clear HV15 HS15 HX15 HY15 HX14 HY14 HX13 HY13 HX12 HX11 HX10 HS14 HS13 HS12 HS11 HS10
              obtain ⟨j, rfl, hj, HS⟩ := hrel
              by_cases cj : j < 7
              · have d1 : decide ((j : Int) < 7) = true := decide_eq_true (by omega)
                have d2 : decide (j < 7) = true := decide_eq_true cj
                have h2 := open2 cl F j
                rw [← HPJ.out j cj] at h2
                obtain ⟨b, hb⟩ : ∃ b, b = ((j : Int) != F) := ⟨_, rfl⟩
                rw [← hb] at h2
                have HOQ : Aside0 (∀ n, Calls Try.prog 12 #[.pointer (some ⟨g, 0, none⟩), .int .i64 (j : Int)] (wr.drewN n) fun e w' => e = .returned (.bool (p j && b)) ∧ w' = wr.drewN n) := ⟨fun n => (open_calls (wr.drewN n) _ g v12 es (cl2 cl F) (j : Int) (HS.out.isb.below (pw_below_drewN (Below.refl _ _) n))).mono fun e w' ⟨he, hw⟩ => ⟨by rw [he, h2], hw.symm⟩⟩
                have hoj := HS.out.opn.cell j cj
                have hFc := HS.out.arg.c1
                have hb' := hb.symm
                obtain ⟨o, ho⟩ : ∃ o, o = p j := ⟨_, rfl⟩
                rw [← ho] at hoj HOQ
                clear hb ho h2
                cases o <;> cases b <;> simp only [Bool.and_true, Bool.and_false, Bool.false_and, Bool.true_and] at HOQ
                all_goals
                  go_wp2
                  go_quiet ((go_at_call 12; exact Calls.quiet_of_same (HOQ.out _)))
                  go_wp2
                  exact ⟨⟨j + 1, rfl, ⟨by omega⟩, ⟨HS.out.below (pw_below_drewN (Below.refl _ _) _)⟩⟩, by show 7 - ((j : Int) + 1).toNat < 7 - ((j : Nat) : Int).toNat; omega⟩
              · have d1 : decide ((j : Int) < 7) = false := decide_eq_false (by omega)
                have d2 : decide (j < 7) = false := decide_eq_false cj
                have HALL2 := Aside0.mk (all_calls wr _ g v12 es (cl2 cl F) HS.out.isb HL.out)
                have p0 : p 0 = false := HPJ.out 0 (by decide)
                have p6 : p 6 = false := HPJ.out 6 (by decide)
                have HP0 := Aside0.mk p0
                have HP6 := Aside0.mk p6
                clear p0 p6
                go_wp2_with (first | (go_at_call 18; (with_reducible refine HSAME.out.mono ?_); rintro e w17 ⟨rfl, hb⟩; have HS17 := Aside0.mk (HS16.out.below hb); have q0 := HS17.out.opn.cell 0 (by decide); have q6 := HS17.out.opn.cell 6 (by decide); rw [HP0.out] at q0; rw [HP6.out] at q6; clear hb) | (go_at_call 14; (with_reducible refine HALL2.out.mono ?_); rintro e w16 ⟨v16, rfl, ho, hb⟩; have HS16 := Aside0.mk (HS.out.below hb); obtain ⟨A16, c16, hv16, hl16, hr16⟩ := Kd.R_reads ho; subst hv16; obtain ⟨_, _, hv3, hl3, hr3⟩ := Kd.R_reads HS16.out.row; injection hv3 with hv3a hv3b hv3c; subst hv3a; subst hv3c; have HSAME := Aside0.mk (same_calls w16 A16 A3 c16 c3 es HL.out hr16 hl16 hr3 hl3); clear ho hb hl16 hr16 hl3 hr3 hv3b))
                go_ret
                exact ⟨rfl, HS17.out.blw⟩
end Go.Proofs.Ythadfkpibnhcgaa.B
