/- The reference's books in memory: what its calls answer. Conditions: those in the theorems. -/
import Derived.Test.YthadfkpibnhcgaaF0
set_option linter.unusedVariables false
set_option linter.unusedSimpArgs false
namespace Go.Proofs.Ythadfkpibnhcgaa.B
open Go.RowKit Go.Proofs.Ythadfkpibnhcgaa.X Go.Proofs.YthadfkpibnhcgaaW.PrintWords Go.Proofs.YthadfkpibnhcgaaW.PrintLast Go.Proofs.YthadfkpibnhcgaaW.PrintMore

/-- A book of the reference at block g: its entries, its closed families. -/
structure IsR (w : World) (base g : Nat) (v u : Value) (es : List S44) (cs : List Int) : Prop where
  blk : w.heap[g]? = some (.cells #[v, u] 60 (0, 0))
  le : base ≤ g
  row : Kd.R k44 44 w base (fun _ => True) v es
  shut : Kd.R (Kd.int .i64) 3 w base (fun _ => True) u cs
theorem IsR.below {w w' : World} {base g : Nat} {v u : Value} {es : List S44} {cs : List Int} (h : IsR w base g v u es cs) (hb : Below w.heap.size w w') : IsR w' base g v u es cs :=
  ⟨blk_below h.blk hb, h.le, Kd.R_below h.row hb, Kd.R_below h.shut hb⟩
theorem fam_calls (f : Int) (w : World) : Calls Try.prog 31 #[.int .i64 f] w fun e w' => e = .returned (.bool (isF f)) ∧ w = w' := by
  by_cases h1 : 1 ≤ f
  · have c1 : decide (1 ≤ f) = true := decide_eq_true h1
    by_cases h2 : f ≤ 5
    · have c2 : decide (f ≤ 5) = true := decide_eq_true h2
      have HE : Aside0 (isF f = true) := ⟨decide_eq_true ⟨h1, h2⟩⟩
      clear h1 h2
      go_enter Try.func31, Try.ntmps31
      go_wp2
      go_ret
      exact ⟨by rw [HE.out]; rfl, rfl⟩
    · have c2 : decide (f ≤ 5) = false := decide_eq_false h2
      have HE : Aside0 (isF f = false) := ⟨decide_eq_false (by omega)⟩
      clear h1 h2
      go_enter Try.func31, Try.ntmps31
      go_wp2
      go_ret
      exact ⟨by rw [HE.out]; rfl, rfl⟩
  · have c1 : decide (1 ≤ f) = false := decide_eq_false h1
    have HE : Aside0 (isF f = false) := ⟨decide_eq_false (by omega)⟩
    clear h1
    go_enter Try.func31, Try.ntmps31
    go_wp2
    go_ret
    exact ⟨by rw [HE.out]; rfl, rfl⟩
theorem word_ev (s : ByteArray) : Ev (fun k => stratumref01_word.f k s) (goodN s) := by
  have key : s.size ≤ 16 → ∀ (d i : Nat), s.size - i ≤ d → i ≤ s.size → Ev (fun k => stratumref01_word.l0 k s (i : Int)) ((s.data.toList.drop i).all gb) := by
    intro h16 d
    induction d with
    | zero =>
      intro i hd hi
      have e : s.data.toList.drop i = [] := List.drop_of_length_le (by rw [← size_len]; omega)
      refine Ev.step (fun k => by simp only [stratumref01_word.l0]; rfl) ?_
      rw [e]
      simp only [if_neg (show ¬ (i : Int) < (s.size : Int) by omega), List.all_nil]
      exact Ev.now _
    | succ d ih =>
      intro i hd hi
      cases hl : s.data.toList.drop i with
      | nil =>
        have := drop_len hl hi
        simp only [List.length_nil] at this
        have := ih i (by omega) hi
        rw [hl] at this; exact this
      | cons b t =>
        have hlt := drop_lt hl
        have hbt := bt_drop hl
        have hnx := drop_next hl
        have ihn := ih (i + 1) (by omega) (by omega)
        rw [hnx] at ihn
        have k1 : (i : Int) < (s.size : Int) := by omega
        have k2 : (0 : Int) ≤ (i : Int) := by omega
        have W : Aside0 (wrap64 ((i : Int) + 1) = ((i + 1 : Nat) : Int)) := ⟨by rw [w64s (by omega) (by omega)]; rfl⟩
        refine Ev.step (fun k => by simp only [stratumref01_word.l0]; rfl) ?_
        simp only [if_pos k1, if_pos k2, hbt, W.out, List.all_cons]
        by_cases h1 : b.toNat = 45
        · rw [show gb b = true from decide_eq_true (by omega), Bool.true_and]
          simp only [if_pos (show (b.toNat : Int) = 45 by omega)]; exact ihn
        simp only [if_neg (show ¬ (b.toNat : Int) = 45 by omega)]
        by_cases h2 : b.toNat < 97
        · rw [show gb b = false from decide_eq_false (by omega), Bool.false_and]
          simp only [if_pos (show (b.toNat : Int) < 97 by omega)]; exact Ev.now _
        simp only [if_neg (show ¬ (b.toNat : Int) < 97 by omega)]
        by_cases h3 : b.toNat > 122
        · rw [show gb b = false from decide_eq_false (by omega), Bool.false_and]
          simp only [if_pos (show (b.toNat : Int) > 122 by omega)]; exact Ev.now _
        · rw [show gb b = true from decide_eq_true (by omega), Bool.true_and]
          simp only [if_neg (show ¬ (b.toNat : Int) > 122 by omega)]; exact ihn
  have jT : Ev (fun k => stratumref01_word.j0 k s true) false := Ev.step (fun k => by simp only [stratumref01_word.j0, if_true]) (Ev.now _)
  unfold stratumref01_word.f goodN
  by_cases h1 : s.size < 1
  · rw [decide_eq_false (show ¬ (1 ≤ s.size ∧ s.size ≤ 16) by omega), Bool.false_and]
    simp only [if_pos (show (s.size : Int) < 1 by omega)]; exact jT
  simp only [if_neg (show ¬ (s.size : Int) < 1 by omega)]
  by_cases h2 : s.size ≤ 16
  · rw [decide_eq_true (show 1 ≤ s.size ∧ s.size ≤ 16 by omega), Bool.true_and, decide_eq_false (show ¬ (s.size : Int) > 16 by omega)]
    refine Ev.step (fun k => by simp only [stratumref01_word.j0]; rfl) ?_
    simp only [Bool.false_eq_true, if_false]
    have := key h2 s.size 0 (by omega) (by omega)
    rw [List.drop_zero] at this; exact this
  · rw [decide_eq_false (show ¬ (1 ≤ s.size ∧ s.size ≤ 16) by omega), Bool.false_and, decide_eq_true (show (s.size : Int) > 16 by omega)]; exact jT
theorem word_calls (s : ByteArray) (w : World) : Calls Try.prog 32 #[.string s] w fun e w' => e = .returned (.bool (goodN s)) ∧ Below w.heap.size w w' := by
  obtain ⟨k, hk⟩ := (word_ev s).rounds
  refine (stratumref01_word.calls k s _ w hk).mono ?_
  rintro e w' ⟨rfl, ⟨n, rfl⟩⟩
  exact ⟨rfl, pw_below_drewN (Below.refl _ _) n⟩
theorem rnew_calls (w : World) (base : Nat) (hb : base ≤ w.heap.size) : Calls Try.prog 15 #[] w fun e w' => ∃ g, e = .returned (.pointer (some ⟨g, 0, none⟩)) ∧ IsR w' base g (.slice none 0 0) (.slice none 0 0) [] [] ∧ Below w.heap.size w w' ∧ w.heap.size ≤ g := by
  have hu := Try.underlying60
  go_enter Try.func15, Try.ntmps15
  go_wp2
  go_ret
  exact ⟨w.heap.size, rfl, ⟨blk_new _ _, hb, Kd.R_nil _ _ _ _ _, Kd.R_nil _ _ _ _ _⟩, below_alloc (Below.refl _ _) _, Nat.le_refl _⟩
set_option maxHeartbeats 1000000 in
set_option maxRecDepth 100000 in
theorem rall_calls (w : World) (base g : Nat) (v u : Value) (es : List S44) (cs : List Int) (hB : IsR w base g v u es cs) (hn : es.length ≤ 64) :
    Calls Try.prog 19 #[.pointer (some ⟨g, 0, none⟩)] w fun e w' => ∃ v', e = .returned v' ∧ Kd.R k44 44 w' w.heap.size (fun _ => True) v' es ∧ Below w.heap.size w w' := by
  have hb1 := hB.below (below_alloc (Below.refl w.heap.size w) (.cells #[] 44))
  obtain ⟨A, c, hv, hlc, hrd⟩ := Kd.R_reads hb1.row
  subst hv
  have h0 : (w.alloc (.cells #[] 44)).cell? ⟨g, 0, none⟩ = some (.slice A es.length c) := (blk_cell hb1.blk 0).trans rfl
  have HR := Aside0.mk hrd
  have HN := Aside0.mk hn
  clear hb1 hrd hlc hB hn
  go_enter Try.func19, Try.ntmps19
  go_wp2_with ((with_reducible refine gate_builtin (b := .append) (xs := #[.tmp 7, .tmp 11]) rfl ?_); at_builtin; refine Kd.R_append_rows k44 (Rr := k44.K (w.alloc (.cells #[] 44))) (w0 := w) w.heap.size rfl (.tmp 7) (.tmp 11) 34 44 (.agg #[.int .i64 0, .int .i64 0, .string ⟨#[]⟩, .int .i64 0]) 40 rfl Try.underlying34 info44 rfl (by decide) (by omega) (.slice (some ⟨w.heap.size, 0, none⟩) 0 0) [] es A es.length c (fun _ => True) (fun _ => False) rfl rfl ?aO HR.out ?aK (fun _ hk => hk.elim) (fun _ _ => trivial) (below_alloc (Below.refl _ _) _) (by simp) (by have := HN.out; simp; omega) ?_; (case aO => exact ⟨fun _ _ => trivial, [], (show (w.alloc (.cells #[] 44)).ownsRow w.heap.size 44 4 (.slice (some ⟨w.heap.size, 0, none⟩) 0 0) 0 [] by simpa using World.ownsRow_lit (base := w.heap.size) (e := 44) (size := 4) w #[] 0 (Nat.le_refl _) (by simp) (by simp)), Reps.none _ _⟩); (case aK => intro x cs hk; obtain rfl := k44_open hk; exact k44_mkM _ _ _ x); intro v1 w1 ho hb hg hat; have HO := Aside0.mk ho; have HB := Aside0.mk hb; clear ho hb hg hat)
  go_ret
  exact ⟨_, rfl, by have := HO.out; rwa [List.nil_append] at this, HB.out⟩
/-- .. as the walk of a caller takes it. -/
theorem rall_reads (w : World) (base g : Nat) (v u : Value) (es : List S44) (cs : List Int) (hB : IsR w base g v u es cs) (hn : es.length ≤ 64) :
    Calls Try.prog 19 #[.pointer (some ⟨g, 0, none⟩)] w fun e w' => ∃ A c, e = .returned (.slice A es.length c) ∧ Kd.C k44 w' A es.length es ∧ Below w.heap.size w w' := by
  refine (rall_calls w base g v u es cs hB hn).mono ?_
  rintro e w' ⟨v', rfl, hR, hb⟩
  obtain ⟨A, c, rfl, _, hr⟩ := Kd.R_reads hR
  exact ⟨A, c, rfl, hr, hb⟩
set_option maxHeartbeats 1000000 in
set_option maxRecDepth 100000 in
theorem rcount_calls (w : World) (base g : Nat) (v u : Value) (es : List S44) (cs : List Int) (f : Int) (hB : IsR w base g v u es cs) (hn : es.length ≤ 64) :
    Calls Try.prog 21 #[.pointer (some ⟨g, 0, none⟩), .int .i64 f] w fun e w' => e = .returned (.int .i64 (cnt es f : Int)) ∧ Below w.heap.size w w' := by
  have HALL := Aside0.mk (rall_reads w base g v u es cs hB hn)
  have HN := Aside0.mk hn
  clear hB hn
  go_enter Try.func21, Try.ntmps21
  go_wp2_with (go_at_call 19; (with_reducible refine HALL.out.mono ?_); rintro e w1 ⟨A, c, rfl, hr, hb⟩; have HR := Aside0.mk hr; have HB := Aside0.mk hb; clear hr hb)
  go_loopw [5, 7] (fun tn ti wr => ∃ i : Nat, ti = .int .i64 (i : Int) ∧ tn = .int .i64 ((cnt (es.take i) f : Nat) : Int) ∧ Aside0 (i ≤ es.length) ∧ Aside0 (wr = w1)) (fun _ ti _ => es.length - left ti)
  case atStart => exact ⟨0, rfl, rfl, ⟨Nat.zero_le _⟩, ⟨rfl⟩⟩
  case round =>
    obtain ⟨i, rfl, rfl, hi, ⟨hw⟩⟩ := hrel
    subst hw
    by_cases ci : i < es.length
    · have c1 : decide ((i : Int) < (es.length : Int)) = true := decide_eq_true (by omega)
      have c2 : decide (i < es.length) = true := decide_eq_true ci
      obtain ⟨ad, rfl, hx0, hx1, hx2, hx3⟩ := at_T44 HR.out (i : Int) (by omega) (by omega)
      rw [Int.toNat_natCast] at hx0 hx1 hx2 hx3
      obtain ⟨f0, hf0⟩ : ∃ f0, f0 = (rd_T44 es (i : Int)).f0 := ⟨_, rfl⟩
      have HF := Aside0.mk hf0
      rw [← hf0] at hx0
      clear hf0
      have HS := Aside0.mk (cnt_snoc es i f ci)
      have W1 : Aside0 (wrap64 ((i : Int) + 1) = ((i + 1 : Nat) : Int)) := ⟨next1 i es.length (by have := HN.out; omega) ci⟩
      have W2 : Aside0 (wrap64 (((cnt (es.take i) f : Nat) : Int) + 1) = ((cnt (es.take i) f + 1 : Nat) : Int)) := ⟨by have := HN.out; have := cnt_le (es.take i) f; rw [List.length_take] at this; rw [w64s (by omega) (by omega)]; rfl⟩
      have ML := Aside0.mk (less i es.length (by have := HN.out; omega) ci)
      by_cases ce : f0 = f
      all_goals
        first
        | (have c3 : (f0 == f) = true := beq_iff_eq.2 ce)
        | (have c3 : (f0 == f) = false := beq_eq_false_iff_ne.2 ce)
        clear ce
        go_wp2
        refine ⟨⟨i + 1, by rw [W1.out], ?_, ⟨by omega⟩, ⟨by trivial⟩⟩, ML.out⟩
        rw [HS.out, ← HF.out, c3]
        first | rw [W2.out]; rfl | rfl
    · have c1 : decide ((i : Int) < (es.length : Int)) = false := decide_eq_false (by omega)
      have c2 : decide (i < es.length) = false := decide_eq_false ci
      have HI : Aside0 (es.take i = es) := ⟨List.take_of_length_le (by omega)⟩
      go_wp2
      go_ret
      exact ⟨by rw [HI.out]; rfl, HB.out⟩
set_option maxHeartbeats 1000000 in
set_option maxRecDepth 100000 in
theorem rfind_calls (w : World) (base g : Nat) (v u : Value) (es : List S44) (cs : List Int) (f : Int) (nm : ByteArray) (hB : IsR w base g v u es cs) (hn : es.length ≤ 64) :
    Calls Try.prog 29 #[.pointer (some ⟨g, 0, none⟩), .int .i64 f, .string nm] w fun e w' => e = .returned (.int .i64 (fnd es f nm)) ∧ Below w.heap.size w w' := by
  have HALL := Aside0.mk (rall_reads w base g v u es cs hB hn)
  have HN := Aside0.mk hn
  clear hB hn
  go_enter Try.func29, Try.ntmps29
  go_wp2_with (go_at_call 19; (with_reducible refine HALL.out.mono ?_); rintro e w1 ⟨A, c, rfl, hr, hb⟩; have HR := Aside0.mk hr; have HB := Aside0.mk hb; clear hr hb)
  go_loopw [8] (fun ti wr => ∃ i : Nat, ti = .int .i64 (i : Int) ∧ Aside0 (fnd (es.drop i) f nm = fnd es f nm) ∧ Aside0 (i ≤ es.length) ∧ Aside0 (wr = w1)) (fun ti _ => es.length - left ti)
  case atStart => exact ⟨0, rfl, ⟨rfl⟩, ⟨Nat.zero_le _⟩, ⟨rfl⟩⟩
  case round =>
    obtain ⟨i, rfl, HX, hi, ⟨hw⟩⟩ := hrel
    subst hw
    by_cases ci : i < es.length
    · have c1 : decide ((i : Int) < (es.length : Int)) = true := decide_eq_true (by omega)
      have c2 : decide (i < es.length) = true := decide_eq_true ci
      obtain ⟨ad, rfl, hx0, hx1, hx2, hx3⟩ := at_T44 HR.out (i : Int) (by omega) (by omega)
      rw [Int.toNat_natCast] at hx0 hx1 hx2 hx3
      have HS := Aside0.mk (drop_rd es i ci)
      obtain ⟨x, hx⟩ : ∃ x, x = rd_T44 es (i : Int) := ⟨_, rfl⟩
      rw [← hx] at hx0 hx1 hx2 hx3 HS
      clear hx
      have W1 : Aside0 (wrap64 ((i : Int) + 1) = ((i + 1 : Nat) : Int)) := ⟨next1 i es.length (by have := HN.out; omega) ci⟩
      have ML := Aside0.mk (less i es.length (by have := HN.out; omega) ci)
      by_cases ce : x.f0 = f
      · have c3 : (x.f0 == f) = true := beq_iff_eq.2 ce
        by_cases cn : x.f2 = nm
        · have c4 : (x.f2.toList == nm.toList) = true := by rw [cn]; exact beq_self_eq_true _
          have HE : Aside0 (fnd es f nm = x.f1) := ⟨by rw [← HX.out, HS.out, fnd, if_pos ⟨ce, cn⟩]⟩
          clear ce cn
          go_wp2
          go_ret
          exact ⟨ret_int HE.out.symm, HB.out⟩
        · have c4 : (x.f2.toList == nm.toList) = false := by rw [beq_eq_false_iff_ne]; intro h; exact cn (ByteArray.ext (Array.toList_inj.1 (by rwa [ByteArray.toList_eq, ByteArray.toList_eq] at h)))
          have HE : Aside0 (fnd (es.drop (i + 1)) f nm = fnd es f nm) := ⟨by rw [← HX.out, HS.out, fnd, if_neg (fun h => cn h.2)]⟩
          clear ce cn
          go_wp2
          exact ⟨⟨i + 1, by rw [W1.out], HE, ⟨by omega⟩, ⟨by trivial⟩⟩, ML.out⟩
      · have c3 : (x.f0 == f) = false := beq_eq_false_iff_ne.2 ce
        have HE : Aside0 (fnd (es.drop (i + 1)) f nm = fnd es f nm) := ⟨by rw [← HX.out, HS.out, fnd, if_neg (fun h => ce h.1)]⟩
        clear ce
        go_wp2
        exact ⟨⟨i + 1, by rw [W1.out], HE, ⟨by omega⟩, ⟨by trivial⟩⟩, ML.out⟩
    · have c1 : decide ((i : Int) < (es.length : Int)) = false := decide_eq_false (by omega)
      have c2 : decide (i < es.length) = false := decide_eq_false ci
      have HE : Aside0 (fnd es f nm = 0) := ⟨by rw [← HX.out, List.drop_of_length_le (by omega)]; rfl⟩
      go_wp2
      go_ret
      exact ⟨ret_int HE.out.symm, HB.out⟩
end Go.Proofs.Ythadfkpibnhcgaa.B
