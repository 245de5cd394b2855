/- The reference's books in memory: Close, Enter; none at all. Conditions: those in the theorems. -/
import Derived.Test.YthadfkpibnhcgaaZ1
set_option linter.unusedVariables false
set_option linter.unusedSimpArgs false
namespace Go.Proofs.Ythadfkpibnhcgaa.B
open Go.RowKit Go.Proofs.Ythadfkpibnhcgaa.X Go.Proofs.YthadfkpibnhcgaaW.PrintWords Go.Proofs.YthadfkpibnhcgaaW.PrintLast Go.Proofs.YthadfkpibnhcgaaW.PrintMore

theorem info3 : (Try.prog.info? 3).map (fun i => (i.zero, i.size, i.bytes)) = some (some (.int .i64 0), 1, 8) := by kernel_rfl
theorem Row.toR {w : World} {base : Nat} {u : Value} {es : List S44} (h : Row w base u es) : Kd.R k44 44 w base (fun _ => True) u es := Kd.R_mono h fun _ _ => trivial
/-- A row of numbers by itself. -/
def IRow (w : World) (base : Nat) (u : Value) (cs : List Int) : Prop := Kd.R (Kd.int .i64) 3 w base (fun k => u.ownBlock = some k) u cs
theorem IRow.of {w : World} {base : Nat} {ok : Nat → Prop} {u : Value} {cs : List Int} (h : Kd.R (Kd.int .i64) 3 w base ok u cs) : IRow w base u cs := ⟨fun k hk => hk, h.2.imp_ fun p c hp => hp⟩
theorem IRow.toR {w : World} {base : Nat} {u : Value} {cs : List Int} (h : IRow w base u cs) : Kd.R (Kd.int .i64) 3 w base (fun _ => True) u cs := Kd.R_mono h fun _ _ => trivial
theorem IRow.keep {w w' : World} {base g : Nat} {u : Value} {cs : List Int} {row : Option Nat} (h : IRow w base u cs) (k : KeepBut w w' g row) (hk : ∀ j, u.ownBlock = some j → j ≠ g ∧ some j ≠ row) : IRow w' base u cs :=
  Kd.R_step h fun j hj hl => k.2 j hl (hk j hj).1 (hk j hj).2
theorem IRow.ne_blk {w : World} {base g : Nat} {u : Value} {cs : List Int} {cells : Array Value} {t : TypeId} (h : IRow w base u cs) (hb : w.heap[g]? = some (.cells cells t (0, 0))) (ht : 3 ≠ t) (j : Nat) (hj : u.ownBlock = some j) : j ≠ g := fun e => by
  have := Kd.R_ne h hb ht; rw [hj, e] at this; exact this rfl
theorem row_irow {w : World} {base base' : Nat} {v u : Value} {es : List S44} {cs : List Int} (h : Row w base v es) (h' : IRow w base' u cs) (j : Nat) (hj : v.ownBlock = some j) : some j ≠ u.ownBlock := by
  obtain ⟨i1, o1⟩ := Kd.R_own h
  obtain ⟨cells, hc⟩ := own_typed o1 j hj
  exact Kd.R_ne h' hc (by decide)
theorem irow_row {w : World} {base base' : Nat} {v u : Value} {es : List S44} {cs : List Int} (h : Row w base v es) (h' : IRow w base' u cs) (j : Nat) (hj : u.ownBlock = some j) : some j ≠ v.ownBlock := by
  obtain ⟨i1, o1⟩ := Kd.R_own h'
  obtain ⟨cells, hc⟩ := own_typed o1 j hj
  exact Kd.R_ne h hc (by decide)
def rcl (cs : List Int) (f : Int) : List Int := if opn cs f = true then cs ++ [f] else cs
/-- What Close leaves. -/
def Shut (w w' : World) (base g : Nat) (v u : Value) (es : List S44) (cs : List Int) : Prop :=
  ∃ u', IsR w' base g v u' es cs ∧ Below base w w' ∧ KeepBut w w' g u.ownBlock ∧ (u'.ownBlock = u.ownBlock ∨ ∃ b, u'.ownBlock = some b ∧ w.heap.size ≤ b)
set_option maxHeartbeats 2000000 in
set_option maxRecDepth 100000 in
theorem rclose_calls (w : World) (base g : Nat) (v u : Value) (es : List S44) (cs : List Int) (f : Int) (hB : IsR w base g v u es cs) (hn : cs.length ≤ 64) :
    Calls Try.prog 28 #[.pointer (some ⟨g, 0, none⟩), .int .i64 f] w fun e w' => e = .returned (.tuple #[]) ∧ Shut w w' base g v u es (rcl cs f) := by
  have HB := Aside0.mk hB
  cases ho : opn cs f with
  | false =>
    have HO := Aside0.mk (ho ▸ ropen_calls w base g v u es cs f hB hn)
    have HE : Aside0 (rcl cs f = cs) := ⟨by unfold rcl; rw [ho]; rfl⟩
    clear ho hB hn
    go_enter Try.func28, Try.ntmps28
    go_wp2_with (go_at_call 20; (with_reducible refine HO.out.mono ?_); rintro e w1 ⟨rfl, rfl⟩)
    go_end0
    exact ⟨rfl, u, by rw [HE.out]; exact HB.out, Below.refl _ _, KeepBut.refl _ _ _, .inl rfl⟩
  | true =>
    have HO := Aside0.mk (ho ▸ ropen_calls w base g v u es cs f hB hn)
    have HE : Aside0 (rcl cs f = cs ++ [f]) := ⟨by unfold rcl; rw [ho]; rfl⟩
    obtain ⟨A, c, hv⟩ := Kd.R_slice hB.shut
    subst hv
    have h1 : w.cell? ⟨g, 1, none⟩ = some (.slice A cs.length c) := (blk_cell hB.blk 1).trans rfl
    have HZ : Aside0 (base ≤ w.heap.size) := ⟨by have := hB.le; have := blk_lt hB.blk; omega⟩
    have HN := Aside0.mk hn
    clear ho hB hn
    go_enter Try.func28, Try.ntmps28
    go_wp2_with (first | (go_at_call 20; (with_reducible refine HO.out.mono ?_); rintro e w1 ⟨rfl, rfl⟩) | ((with_reducible refine gate_builtin (b := .append) (xs := #[.tmp 11, .tmp 13]) rfl ?_); at_builtin; refine Kd.R_append (Kd.int .i64) (w0 := w) base rfl (.tmp 11) (.tmp 13) 58 3 (.int .i64 0) 8 rfl Try.underlying58 info3 rfl (by decide) (by omega) (.slice A cs.length c) cs f [.int .i64 f] (fun _ => True) (fun _ => False) rfl rfl (show (Kd.int .i64).M _ _ _ f [.int .i64 f] from rfl) (fun _ hk => hk.elim) (fun _ _ => trivial) HB.out.shut (Below.refl _ _) HZ.out (by have := HN.out; omega) ?_; intro v1 w4 ho hb hg hat; obtain ⟨A1, cc1, rfl⟩ := Kd.R_slice ho; have hbk := Aside0.mk (blk_grown HB.out.blk hg (Kd.R_ne HB.out.shut HB.out.blk (by decide))); have hc4 : w4.cell? ⟨g, 1, none⟩ = some (.slice A cs.length c) := (blk_cell hbk.out 1).trans rfl; have hz4 := blk_frozen hbk.out 1; have HO4 := Aside0.mk ho; have HB4 := Aside0.mk hb; have HG4 := Aside0.mk hg; have HAT4 := Aside0.mk hat; clear ho hb hg hat))
    go_end0
    have HO5 := HO4.out
    rw [show (cs ++ [f]).length = cs.length + 1 by simp] at HO5
    have HAT5 := HAT4.out
    rw [show (cs ++ [f]).length = cs.length + 1 by simp] at HAT5
    have hv := Row.of HB.out.row
    have hu := IRow.of HB.out.shut
    have hv4 : Row w4 base v es := Kd.R_step hv fun j hj hl => HG4.out.block j hl (row_irow hv hu j hj)
    refine ⟨rfl, .slice A1 (cs.length + 1) cc1, ⟨?_, HB.out.le, ?_, ?_⟩, HB4.out.setCell HB.out.le _, (KeepBut.of_grown HG4.out g).set_ 1 _, ?_⟩
    · exact blk_set hbk.out 1 _
    · exact Row.toR (Kd.R_far (p := ⟨g, 1, none⟩) hv4 (fun k hk => hv4.ne_blk hbk.out (by decide) k hk) _)
    · rw [HE.out]; exact Kd.R_set HO5 hbk.out (fun q hq => by have : (Kd.int .i64).E = [] := rfl; rw [this] at hq; simp at hq; omega) 1 _
    · rcases HAT5 with h | ⟨b, h, hb⟩
      · exact .inl h
      · exact .inr ⟨b, h, hb⟩
/-- What Enter leaves. -/
def TurnedR (w w' : World) (base g : Nat) (v u : Value) (es : List S44) (cs : List Int) : Prop :=
  ∃ v', IsR w' base g v' u es cs ∧ Below base w w' ∧ KeepBut w w' g v.ownBlock ∧ (v'.ownBlock = v.ownBlock ∨ ∃ b, v'.ownBlock = some b ∧ w.heap.size ≤ b)
theorem TurnedR.of_below {w w' : World} {base g : Nat} {v u : Value} {es : List S44} {cs : List Int} (hB : IsR w base g v u es cs) (hb : Below w.heap.size w w') : TurnedR w w' base g v u es cs :=
  ⟨v, hB.below hb, Below.low hb (by have := hB.le; have := blk_lt hB.blk; omega), KeepBut.of_below hb _ _, .inl rfl⟩
set_option maxHeartbeats 2000000 in
set_option maxRecDepth 100000 in
theorem renter_calls (w : World) (base g : Nat) (v u : Value) (es : List S44) (cs : List Int) (cl : Nat → Bool) (f : Int) (nm : ByteArray) (sz : Int) (hB : IsR w base g v u es cs) (hn : es.length ≤ 64) (hm : cs.length ≤ 64) (hcl : isF f = true → cs.contains f = cl f.toNat) :
    Calls Try.prog 27 #[.pointer (some ⟨g, 0, none⟩), .int .i64 f, .string nm, .int .i64 sz] w fun e w' => e = .returned (.tuple #[.int .i64 (enterN es cl f nm sz), .int .i64 (enterE es cl f nm sz)]) ∧ TurnedR w w' base g v u (enterS es cl f nm sz) cs := by
  have bad : ∀ x : Int, enterE es cl f nm sz = x → x ≠ 0 → (enterN es cl f nm sz = 0 ∧ enterS es cl f nm sz = es) := fun x hx h0 => ⟨by unfold enterN; rw [if_neg (by omega)], by unfold enterS; rw [if_neg (by omega)]⟩
  have HBAD := Aside0.mk bad
  have HB := Aside0.mk hB
  have HN := Aside0.mk hn
  have hi := fam_calls f w
  cases hf : isF f with
  | false =>
    rw [hf] at hi
    have HI := Aside0.mk hi
    have HE : Aside0 (enterE es cl f nm sz = 1) := ⟨by unfold enterE; rw [if_pos hf]⟩
    clear bad hi hf hB hn hm hcl
    go_enter Try.func27, Try.ntmps27
    go_wp2_with (go_at_call 31; (with_reducible refine HI.out.mono ?_); rintro e w1 ⟨rfl, rfl⟩)
    go_ret2
    have hb := HBAD.out 1 HE.out (by decide)
    exact ⟨by rw [HE.out, hb.1]; rfl, by rw [hb.2]; exact TurnedR.of_below HB.out (Below.refl _ _)⟩
  | true =>
    rw [hf] at hi
    have HI := Aside0.mk hi
    have hgd := word_calls nm w
    cases hg : goodN nm with
    | false =>
      rw [hg] at hgd
      have HG := Aside0.mk hgd
      have HE : Aside0 (enterE es cl f nm sz = 1) := ⟨by unfold enterE; rw [if_neg (by rw [hf]; decide), if_pos hg]⟩
      clear bad hi hf hB hn hg hgd hm hcl
      go_enter Try.func27, Try.ntmps27
      go_wp2_with (first | (go_at_call 31; (with_reducible refine HI.out.mono ?_); rintro e w1 ⟨rfl, rfl⟩) | (go_at_call 32; (with_reducible refine HG.out.mono ?_); rintro e w1 ⟨rfl, hb1⟩; have HB1 := Aside0.mk hb1; clear hb1))
      go_ret2
      have hb := HBAD.out 1 HE.out (by decide)
      exact ⟨by rw [HE.out, hb.1]; rfl, by rw [hb.2]; exact TurnedR.of_below HB.out HB1.out⟩
    | true =>
      rw [hg] at hgd
      have HG := Aside0.mk hgd
      by_cases hs : sz < 0
      · have HE : Aside0 (enterE es cl f nm sz = 1) := ⟨by unfold enterE; rw [if_neg (by rw [hf]; decide), if_neg (by rw [hg]; decide), if_pos hs]⟩
        have c1 : decide (sz < 0) = true := decide_eq_true hs
        clear bad hi hf hB hn hg hgd hs hm hcl
        go_enter Try.func27, Try.ntmps27
        go_wp2_with (first | (go_at_call 31; (with_reducible refine HI.out.mono ?_); rintro e w1 ⟨rfl, rfl⟩) | (go_at_call 32; (with_reducible refine HG.out.mono ?_); rintro e w1 ⟨rfl, hb1⟩; have HB1 := Aside0.mk hb1; clear hb1))
        go_ret2
        have hb := HBAD.out 1 HE.out (by decide)
        exact ⟨by rw [HE.out, hb.1]; rfl, by rw [hb.2]; exact TurnedR.of_below HB.out HB1.out⟩
      · have c1 : decide (sz < 0) = false := decide_eq_false hs
        have hop : opn cs f = !cl f.toNat := by unfold opn; rw [hf, hcl hf]; rfl
        have HOP : Aside0 (∀ w1, Below w.heap.size w w1 → Calls Try.prog 20 #[.pointer (some ⟨g, 0, none⟩), .int .i64 f] w1 fun e w' => e = .returned (.bool (!cl f.toNat)) ∧ w1 = w') := ⟨fun w1 h => by have := ropen_calls w1 base g v u es cs f (hB.below h) hm; rw [hop] at this; exact this⟩
        cases hc : cl f.toNat with
        | true =>
          rw [hc] at HOP
          have HE : Aside0 (enterE es cl f nm sz = 10) := ⟨by unfold enterE; rw [if_neg (by rw [hf]; decide), if_neg (by rw [hg]; decide), if_neg hs, if_pos hc]⟩
          clear bad hi hf hB hn hg hgd hs hc hm hcl hop
          go_enter Try.func27, Try.ntmps27
          go_wp2_with (first | (go_at_call 31; (with_reducible refine HI.out.mono ?_); rintro e w1 ⟨rfl, rfl⟩) | (go_at_call 32; (with_reducible refine HG.out.mono ?_); rintro e w1 ⟨rfl, hb1⟩; have HB1 := Aside0.mk hb1; clear hb1) | (go_at_call 20; (with_reducible refine (HOP.out _ HB1.out).mono ?_); rintro e w2 ⟨rfl, rfl⟩))
          go_ret2
          have hb := HBAD.out 10 HE.out (by decide)
          exact ⟨by rw [HE.out, hb.1]; rfl, by rw [hb.2]; exact TurnedR.of_below HB.out HB1.out⟩
        | false =>
          rw [hc] at HOP
          have HFI : Aside0 (∀ w1, Below w.heap.size w w1 → Calls Try.prog 29 #[.pointer (some ⟨g, 0, none⟩), .int .i64 f, .string nm] w1 fun e w' => e = .returned (.int .i64 (fnd es f nm)) ∧ Below w1.heap.size w1 w') := ⟨fun w1 h => rfind_calls w1 base g v u es cs f nm (hB.below h) hn⟩
          by_cases h0 : fnd es f nm = 0
          · have HFI2 := Aside0.mk (h0 ▸ HFI.out)
            obtain ⟨A, c, hv, hlc⟩ := Kd.R_reads hB.row
            subst hv
            have HS : Aside0 (∀ w1, Below w.heap.size w w1 → w1.cell? ⟨g, 0, none⟩ = some (.slice A es.length c)) := ⟨fun w1 h => (blk_cell (hB.below h).blk 0).trans rfl⟩
            by_cases h64 : 64 ≤ es.length
            · have HE : Aside0 (enterE es cl f nm sz = 12) := ⟨by unfold enterE; rw [if_neg (by rw [hf]; decide), if_neg (by rw [hg]; decide), if_neg hs, if_neg (by rw [hc]; decide), if_neg (by simp [h0]), if_pos h64]⟩
              have c2 : ((es.length : Int) == 64) = true := beq_iff_eq.2 (by omega)
              have c3 : (es.length == 64) = true := beq_iff_eq.2 (by omega)
              clear bad hi hf hB hn hg hgd hs hc h0 h64 hlc HFI hm hcl hop
              go_enter Try.func27, Try.ntmps27
              go_wp2_with (first | (go_at_call 31; (with_reducible refine HI.out.mono ?_); rintro e w1 ⟨rfl, rfl⟩) | (go_at_call 32; (with_reducible refine HG.out.mono ?_); rintro e w1 ⟨rfl, hb1⟩; have HB1 := Aside0.mk hb1; clear hb1) | (go_at_call 20; (with_reducible refine (HOP.out _ HB1.out).mono ?_); rintro e w2 ⟨rfl, rfl⟩) | (go_at_call 29; (with_reducible refine (HFI2.out _ HB1.out).mono ?_); rintro e w2 ⟨rfl, hb2⟩; have HB2 := Aside0.mk (below_step HB1.out hb2); clear hb2; have hss := HS.out w2 HB2.out))
              go_ret2
              have hb := HBAD.out 12 HE.out (by decide)
              exact ⟨by rw [HE.out, hb.1]; rfl, by rw [hb.2]; exact TurnedR.of_below HB.out HB2.out⟩
            · have HE : Aside0 (enterE es cl f nm sz = 0) := ⟨by unfold enterE; rw [if_neg (by rw [hf]; decide), if_neg (by rw [hg]; decide), if_neg hs, if_neg (by rw [hc]; decide), if_neg (by simp [h0]), if_neg h64]⟩
              have c2 : ((es.length : Int) == 64) = false := beq_eq_false_iff_ne.2 (by omega)
              have c3 : (es.length == 64) = false := beq_eq_false_iff_ne.2 (by omega)
              have HCN : Aside0 (∀ w1, Below w.heap.size w w1 → Calls Try.prog 21 #[.pointer (some ⟨g, 0, none⟩), .int .i64 f] w1 fun e w' => e = .returned (.int .i64 (cnt es f : Int)) ∧ Below w1.heap.size w1 w') := ⟨fun w1 h => rcount_calls w1 base g _ u es cs f (hB.below h) hn⟩
              have HL64 : Aside0 (es.length < 64) := ⟨by omega⟩
              have HZ : Aside0 (base ≤ w.heap.size) := ⟨by have := hB.le; have := blk_lt hB.blk; omega⟩
              have W1 : Aside0 (wrap64 ((cnt es f : Int) + 1) = ((cnt es f + 1 : Nat) : Int)) := ⟨by have := cnt_le es f; rw [w64s (by omega) (by omega)]; rfl⟩
              clear bad hi hf hB hn hg hgd hs hc h0 h64 hlc HFI hm hcl hop
              go_enter Try.func27, Try.ntmps27
              go_wp2_with (first | (go_at_call 31; (with_reducible refine HI.out.mono ?_); rintro e w1 ⟨rfl, rfl⟩) | (go_at_call 32; (with_reducible refine HG.out.mono ?_); rintro e w1 ⟨rfl, hb1⟩; have HB1 := Aside0.mk hb1; clear hb1) | (go_at_call 20; (with_reducible refine (HOP.out _ HB1.out).mono ?_); rintro e w2 ⟨rfl, rfl⟩) | (go_at_call 29; (with_reducible refine (HFI2.out _ HB1.out).mono ?_); rintro e w2 ⟨rfl, hb2⟩; have HB2 := Aside0.mk (below_step HB1.out hb2); clear hb2; have hss := HS.out w2 HB2.out) | (go_at_call 21; (with_reducible refine (HCN.out _ HB2.out).mono ?_); rintro e w3 ⟨rfl, hb3⟩; have HB3 := Aside0.mk (below_step HB2.out hb3); clear hb3; have hs3 := HS.out w3 HB3.out) | ((with_reducible refine gate_builtin (b := .append) (xs := #[.tmp 48, .tmp 54]) rfl ?_); at_builtin; refine Kd.R_append k44 (w0 := w) base rfl (.tmp 48) (.tmp 54) 34 44 (.agg #[.int .i64 0, .int .i64 0, .string ⟨#[]⟩, .int .i64 0]) 40 rfl Try.underlying34 info44 rfl (by decide) (by omega) (.slice A es.length c) es (⟨f, wrap64 ((cnt es f : Int) + 1), nm, sz⟩ : S44) [.int .i64 f, .int .i64 (wrap64 ((cnt es f : Int) + 1)), .string nm, .int .i64 sz] (fun _ => True) (fun _ => False) rfl rfl (k44_mkM _ _ _ (⟨f, wrap64 ((cnt es f : Int) + 1), nm, sz⟩ : S44)) (fun _ hk => hk.elim) (fun _ _ => trivial) (Kd.R_below HB.out.row HB3.out) (Below.low HB3.out HZ.out) (by have := HB3.out.size; have := HZ.out; omega) (by have := HL64.out; omega) ?_; intro v1 w4 ho hb hg hat; obtain ⟨A1, cc1, rfl⟩ := Kd.R_slice ho; have hbk := Aside0.mk (blk_grown (HB.out.below HB3.out).blk hg (Kd.R_ne HB.out.row HB.out.blk (by decide))); have hc4 : w4.cell? ⟨g, 0, none⟩ = some (.slice A es.length c) := (blk_cell hbk.out 0).trans rfl; have hz4 := blk_frozen hbk.out 0; have HO4 := Aside0.mk ho; have HB4 := Aside0.mk hb; have HG4 := Aside0.mk hg; have HAT4 := Aside0.mk hat; clear ho hb hg hat))
              go_ret2
              refine ⟨by unfold enterN; rw [HE.out, if_pos rfl, ← W1.out]; rfl, ?_⟩
              unfold enterS; rw [HE.out, if_pos rfl, ← W1.out]
              have HO5 := HO4.out
              rw [show (es ++ [(⟨f, wrap64 ((cnt es f : Int) + 1), nm, sz⟩ : S44)]).length = es.length + 1 by simp] at HO5
              have HAT5 := HAT4.out
              rw [show (es ++ [(⟨f, wrap64 ((cnt es f : Int) + 1), nm, sz⟩ : S44)]).length = es.length + 1 by simp] at HAT5
              have hv := Row.of (HB.out.below HB3.out).row
              have hu := IRow.of (HB.out.below HB3.out).shut
              have hu4 : IRow w4 base u cs := Kd.R_step hu fun j hj hl => HG4.out.block j hl (irow_row hv hu j hj)
              refine ⟨.slice A1 (es.length + 1) cc1, ⟨?_, HB.out.le, Kd.R_set HO5 hbk.out (fun q hq => by have : k44.E = [] := rfl; rw [this] at hq; simp at hq; omega) 0 _, ?_⟩, HB4.out.setCell HB.out.le _, ((KeepBut.of_below HB3.out g _).trans (KeepBut.of_grown HG4.out g) (.inl rfl)).set_ 0 _, ?_⟩
              · exact blk_set hbk.out 0 _
              · exact IRow.toR (Kd.R_far (p := ⟨g, 0, none⟩) hu4 (fun k hk => hu4.ne_blk hbk.out (by decide) k hk) _)
              · rcases HAT5 with h | ⟨b, h, hb⟩
                · exact .inl h
                · exact .inr ⟨b, h, Nat.le_trans HB3.out.size hb⟩
          · have HE : Aside0 (enterE es cl f nm sz = 11) := ⟨by unfold enterE; rw [if_neg (by rw [hf]; decide), if_neg (by rw [hg]; decide), if_neg hs, if_neg (by rw [hc]; decide), if_pos h0]⟩
            obtain ⟨q, hq⟩ : ∃ q, q = fnd es f nm := ⟨_, rfl⟩
            rw [← hq] at HFI h0
            have c2 : (q == 0) = false := beq_eq_false_iff_ne.2 h0
            have c3 : (q != 0) = true := bne_iff_ne.2 h0
            clear bad hi hf hB hn hg hgd hs hc h0 hq hm hcl hop
            go_enter Try.func27, Try.ntmps27
            go_wp2_with (first | (go_at_call 31; (with_reducible refine HI.out.mono ?_); rintro e w1 ⟨rfl, rfl⟩) | (go_at_call 32; (with_reducible refine HG.out.mono ?_); rintro e w1 ⟨rfl, hb1⟩; have HB1 := Aside0.mk hb1; clear hb1) | (go_at_call 20; (with_reducible refine (HOP.out _ HB1.out).mono ?_); rintro e w2 ⟨rfl, rfl⟩) | (go_at_call 29; (with_reducible refine (HFI.out _ HB1.out).mono ?_); rintro e w2 ⟨rfl, hb2⟩; have HB2 := Aside0.mk (below_step HB1.out hb2); clear hb2))
            go_ret2
            have hb := HBAD.out 11 HE.out (by decide)
            exact ⟨by rw [HE.out, hb.1]; rfl, by rw [hb.2]; exact TurnedR.of_below HB.out HB2.out⟩
end Go.Proofs.Ythadfkpibnhcgaa.B
