/- A book and the reference's, side by side. Conditions: those in the theorems. -/
import Derived.Test.YthadfkpibnhcgaaZ2
set_option linter.unusedVariables false
set_option linter.unusedSimpArgs false
namespace Go.Proofs.Ythadfkpibnhcgaa.B
open Go.RowKit Go.Proofs.Ythadfkpibnhcgaa.X Go.Proofs.YthadfkpibnhcgaaW.PrintWords Go.Proofs.YthadfkpibnhcgaaW.PrintLast Go.Proofs.YthadfkpibnhcgaaW.PrintMore

theorem IsR.keepB {w w' : World} {base g gr : Nat} {v v2 u2 : Value} {es es2 : List S44} {cl : Nat → Bool} {cs : List Int} {row : Option Nat} (h : IsR w base gr v2 u2 es2 cs) (hB : IsB w base g v es cl) (ap : ∀ j, v.ownBlock = some j → some j ≠ v2.ownBlock) (hr : row = none ∨ row = v.ownBlock) (k : KeepBut w w' g row) : IsR w' base gr v2 u2 es2 cs := by
  have hv := Row.of h.row
  have hu := IRow.of h.shut
  have hb := Row.of hB.row
  refine ⟨k.blk h.blk (blk_ne h.blk hB.blk (by decide)) ?_, h.le, Row.toR (hv.keep k fun j hj => ⟨hv.ne_blk hB.blk (by decide) j hj, ?_⟩), IRow.toR (hu.keep k fun j hj => ⟨hu.ne_blk hB.blk (by decide) j hj, ?_⟩)⟩
  · rcases hr with rfl | rfl
    · simp
    · exact Kd.R_ne hB.row h.blk (by decide)
  · rcases hr with rfl | rfl
    · simp
    · exact fun e => ap j e.symm hj.symm
  · rcases hr with rfl | rfl
    · simp
    · exact irow_row hb hu j hj
theorem IsB.keepR {w w' : World} {base g gr : Nat} {v v2 u2 : Value} {es es2 : List S44} {cl : Nat → Bool} {cs : List Int} {row : Option Nat} (hB : IsB w base g v es cl) (h : IsR w base gr v2 u2 es2 cs) (ap : ∀ j, v.ownBlock = some j → some j ≠ v2.ownBlock) (hr : row = v2.ownBlock ∨ row = u2.ownBlock) (k : KeepBut w w' gr row) : IsB w' base g v es cl := by
  have hu := IRow.of h.shut
  have hb := Row.of hB.row
  refine ⟨k.blk hB.blk (blk_ne hB.blk h.blk (by decide)) ?_, hB.le, Row.toR (hb.keep k fun j hj => ⟨hb.ne_blk h.blk (by decide) j hj, ?_⟩)⟩
  · rcases hr with rfl | rfl
    · exact Kd.R_ne h.row hB.blk (by decide)
    · exact Kd.R_ne h.shut hB.blk (by decide)
  · rcases hr with rfl | rfl
    · exact ap j hj
    · exact row_irow hb hu j hj
/-- The closed families, told twice. -/
def one_ (b : Bool) : Nat := if b then 1 else 0
def CC (cl : Nat → Bool) (cs : List Int) : Prop := (∀ f, isF f = true → cs.contains f = cl f.toNat) ∧ cs.length = one_ (cl 1) + one_ (cl 2) + one_ (cl 3) + one_ (cl 4) + one_ (cl 5)
theorem CC.nil : CC none_ [] := ⟨fun f _ => rfl, rfl⟩
theorem CC.len {cl : Nat → Bool} {cs : List Int} (h : CC cl cs) : cs.length ≤ 64 := by
  have : ∀ b, one_ b ≤ 1 := fun b => by cases b <;> decide
  have h2 := h.2
  have a1 := this (cl 1); have a2 := this (cl 2); have a3 := this (cl 3); have a4 := this (cl 4); have a5 := this (cl 5)
  omega
theorem CC.opn {cl : Nat → Bool} {cs : List Int} (h : CC cl cs) (f : Int) : opn cs f = (isF f && !cl f.toNat) := by
  unfold B.opn
  cases hf : isF f with
  | false => rfl
  | true => rw [h.1 f hf]
theorem CC.close {cl : Nat → Bool} {cs : List Int} (h : CC cl cs) (f : Int) : CC (cloF cl f) (rcl cs f) := by
  unfold rcl cloF
  rw [h.opn f]
  cases hf : isF f with
  | false => simp only [Bool.false_and, Bool.false_eq_true, if_false]; exact h
  | true =>
    have hr := of_decide_eq_true hf
    simp only [Bool.true_and, if_true]
    cases hc : cl f.toNat with
    | true =>
      simp only [Bool.not_true, Bool.false_eq_true, if_false]
      have e : clo cl f.toNat = cl := by
        funext k; unfold clo; split
        · rename_i hk; rw [hk, hc]
        · rfl
      rw [e]; exact h
    | false =>
      simp only [Bool.not_false, if_true]
      refine ⟨fun f' hf' => ?_, ?_⟩
      · have hr' := of_decide_eq_true hf'
        rw [List.contains_append, h.1 f' hf']
        unfold clo
        by_cases hk : f'.toNat = f.toNat
        · obtain rfl : f' = f := by omega
          rw [if_pos rfl]; simp
        · rw [if_neg hk]
          have : ([f].contains f') = false := by rw [← Bool.not_eq_true, List.contains_iff_mem, List.mem_singleton]; intro e; exact hk (by rw [e])
          rw [this, Bool.or_false]
      · rw [List.length_append, List.length_singleton, h.2]
        have : f = 1 ∨ f = 2 ∨ f = 3 ∨ f = 4 ∨ f = 5 := by omega
        rcases this with rfl | rfl | rfl | rfl | rfl
        · rw [show cl 1 = false from hc, show clo cl (Int.toNat 1) 1 = true from rfl, show clo cl (Int.toNat 1) 2 = cl 2 from rfl, show clo cl (Int.toNat 1) 3 = cl 3 from rfl, show clo cl (Int.toNat 1) 4 = cl 4 from rfl, show clo cl (Int.toNat 1) 5 = cl 5 from rfl]; simp [one_]; omega
        · rw [show cl 2 = false from hc, show clo cl (Int.toNat 2) 2 = true from rfl, show clo cl (Int.toNat 2) 1 = cl 1 from rfl, show clo cl (Int.toNat 2) 3 = cl 3 from rfl, show clo cl (Int.toNat 2) 4 = cl 4 from rfl, show clo cl (Int.toNat 2) 5 = cl 5 from rfl]; simp [one_]; omega
        · rw [show cl 3 = false from hc, show clo cl (Int.toNat 3) 3 = true from rfl, show clo cl (Int.toNat 3) 1 = cl 1 from rfl, show clo cl (Int.toNat 3) 2 = cl 2 from rfl, show clo cl (Int.toNat 3) 4 = cl 4 from rfl, show clo cl (Int.toNat 3) 5 = cl 5 from rfl]; simp [one_]; omega
        · rw [show cl 4 = false from hc, show clo cl (Int.toNat 4) 4 = true from rfl, show clo cl (Int.toNat 4) 1 = cl 1 from rfl, show clo cl (Int.toNat 4) 2 = cl 2 from rfl, show clo cl (Int.toNat 4) 3 = cl 3 from rfl, show clo cl (Int.toNat 4) 5 = cl 5 from rfl]; simp [one_]; omega
        · rw [show cl 5 = false from hc, show clo cl (Int.toNat 5) 5 = true from rfl, show clo cl (Int.toNat 5) 1 = cl 1 from rfl, show clo cl (Int.toNat 5) 2 = cl 2 from rfl, show clo cl (Int.toNat 5) 3 = cl 3 from rfl, show clo cl (Int.toNat 5) 4 = cl 4 from rfl]; simp [one_]
/-- What stays: all blocks but those of S. -/
def Keep (w w' : World) (S : Nat → Prop) : Prop := w.heap.size ≤ w'.heap.size ∧ ∀ k, k < w.heap.size → ¬ S k → w'.heap[k]? = w.heap[k]?
theorem Keep.of_below {w w' : World} (h : Below w.heap.size w w') (S : Nat → Prop) : Keep w w' S := ⟨h.size, fun k hk _ => h.block k hk⟩
theorem Keep.of_but {w w' : World} {g : Nat} {row : Option Nat} {S : Nat → Prop} (h : KeepBut w w' g row) (hg : S g) (hr : ∀ k, row = some k → S k) : Keep w w' S :=
  ⟨h.1, fun k hk hn => h.2 k hk (fun e => hn (e ▸ hg)) (fun e => hn (hr k e.symm))⟩
theorem Keep.trans {w w1 w2 : World} {S S1 : Nat → Prop} (h : Keep w w1 S) (k : Keep w1 w2 S1) (hs : ∀ j, S1 j → S j ∨ w.heap.size ≤ j) : Keep w w2 S :=
  ⟨Nat.le_trans h.1 k.1, fun j hj hn => by
    refine (k.2 j (Nat.lt_of_lt_of_le hj h.1) ?_).trans (h.2 j hj hn)
    intro h1
    rcases hs j h1 with h2 | h2
    · exact hn h2
    · omega⟩
/-- The blocks of a pair. -/
def FP (g gr : Nat) (v v2 u2 : Value) (k : Nat) : Prop := k = g ∨ k = gr ∨ v.ownBlock = some k ∨ v2.ownBlock = some k ∨ u2.ownBlock = some k
structure Pr (w : World) (base g gr : Nat) (v v2 u2 : Value) (es es2 : List S44) (cl : Nat → Bool) (cs : List Int) : Prop where
  b : IsB w base g v es cl
  r : IsR w base gr v2 u2 es2 cs
  ap : ∀ j, v.ownBlock = some j → some j ≠ v2.ownBlock
theorem Pr.below {w w' : World} {base g gr : Nat} {v v2 u2 : Value} {es es2 : List S44} {cl : Nat → Bool} {cs : List Int} (h : Pr w base g gr v v2 u2 es es2 cl cs) (k : Below w.heap.size w w') : Pr w' base g gr v v2 u2 es es2 cl cs := ⟨h.b.below k, h.r.below k, h.ap⟩
theorem Pr.lt {w : World} {base g gr : Nat} {v v2 u2 : Value} {es es2 : List S44} {cl : Nat → Bool} {cs : List Int} (h : Pr w base g gr v v2 u2 es es2 cl cs) (k : Nat) (hk : FP g gr v v2 u2 k) : k < w.heap.size := by
  rcases hk with rfl | rfl | hk | hk | hk
  · exact blk_lt h.b.blk
  · exact blk_lt h.r.blk
  · exact ((Row.of h.b.row).lt k hk).2
  · exact ((Row.of h.r.row).lt k hk).2
  · obtain ⟨i, o⟩ := Kd.R_own h.r.shut; exact own_lt o k hk
theorem Pr.keep {w w' : World} {base g gr : Nat} {v v2 u2 : Value} {es es2 : List S44} {cl : Nat → Bool} {cs : List Int} {S : Nat → Prop} (h : Pr w base g gr v v2 u2 es es2 cl cs) (k : Keep w w' S) (hs : ∀ j, FP g gr v v2 u2 j → ¬ S j) : Pr w' base g gr v v2 u2 es es2 cl cs :=
  ⟨⟨(k.2 g (blk_lt h.b.blk) (hs g (.inl rfl))).trans h.b.blk, h.b.le, Row.toR (Kd.R_step (Row.of h.b.row) fun j hj hl => k.2 j hl (hs j (.inr (.inr (.inl hj)))))⟩,
   ⟨(k.2 gr (blk_lt h.r.blk) (hs gr (.inr (.inl rfl)))).trans h.r.blk, h.r.le, Row.toR (Kd.R_step (Row.of h.r.row) fun j hj hl => k.2 j hl (hs j (.inr (.inr (.inr (.inl hj)))))), IRow.toR (Kd.R_step (IRow.of h.r.shut) fun j hj hl => k.2 j hl (hs j (.inr (.inr (.inr (.inr hj))))))⟩, h.ap⟩
/-- What a call on both leaves. -/
structure Pt (w w' : World) (base g gr : Nat) (v v2 u2 : Value) : Prop where
  go : ∃ v' v2' u2' es' cl' cs', Pr w' base g gr v' v2' u2' es' es' cl' cs' ∧ CC cl' cs' ∧ es'.length ≤ 64 ∧ Below base w w' ∧ Keep w w' (FP g gr v v2 u2) ∧ (∀ k, FP g gr v' v2' u2' k → FP g gr v v2 u2 k ∨ w.heap.size ≤ k)
theorem Pt.of_below {w w' : World} {base g gr : Nat} {v v2 u2 : Value} {es : List S44} {cl : Nat → Bool} {cs : List Int} (h : Pr w base g gr v v2 u2 es es cl cs) (hc : CC cl cs) (hl : es.length ≤ 64) (k : Below w.heap.size w w') : Pt w w' base g gr v v2 u2 :=
  ⟨_, _, _, _, _, _, h.below k, hc, hl, Below.low k (by have := h.b.le; have := blk_lt h.b.blk; omega), Keep.of_below k _, fun j hj => .inl hj⟩
/-- .. one step ahead of it. -/
theorem Pt.from_below {w w1 w' : World} {base g gr : Nat} {v v2 u2 : Value} (hb : base ≤ w.heap.size) (k : Below w.heap.size w w1) (h : Pt w1 w' base g gr v v2 u2) : Pt w w' base g gr v v2 u2 := by
  obtain ⟨v', v2', u2', es', cl', cs', h1, h2, h3, h4, h5, h6⟩ := h.go
  exact ⟨_, _, _, _, _, _, h1, h2, h3, (Below.low k hb).trans h4, (Keep.of_below k _).trans h5 (fun j hj => .inl hj), fun j hj => (h6 j hj).imp id fun h => Nat.le_trans k.size h⟩
theorem Pr.enter1 {w w1 : World} {base g gr : Nat} {v v' v2 u2 : Value} {es es' es2 : List S44} {cl : Nat → Bool} {cs : List Int} (h : Pr w base g gr v v2 u2 es es2 cl cs) (hi : IsB w1 base g v' es' cl) (k : KeepBut w w1 g v.ownBlock) (hat : v'.ownBlock = v.ownBlock ∨ ∃ b, v'.ownBlock = some b ∧ w.heap.size ≤ b) : Pr w1 base g gr v' v2 u2 es' es2 cl cs :=
  ⟨hi, h.r.keepB h.b h.ap (.inr rfl) k, fun j hj => by
    rcases hat with e | ⟨b, e, hb2⟩
    · exact h.ap j (e ▸ hj)
    · rw [e] at hj; injection hj with hj; subst hj
      intro e2; have := ((Row.of h.r.row).lt _ e2.symm).2; omega⟩
theorem Pt.enter {w w1 w2 : World} {base g gr : Nat} {v v2 u2 : Value} {es es' : List S44} {cl : Nat → Bool} {cs : List Int} (h : Pr w base g gr v v2 u2 es es cl cs) (hc : CC cl cs) (hl : es'.length ≤ 64) (t : Turned w w1 base g v es' cl)
    (t2 : ∀ v', Pr w1 base g gr v' v2 u2 es' es cl cs → TurnedR w1 w2 base gr v2 u2 es' cs) : Pt w w2 base g gr v v2 u2 := by
  obtain ⟨v', hi, hb, k, hat⟩ := t
  have ap1 : ∀ j, v'.ownBlock = some j → some j ≠ v2.ownBlock := fun j hj => by
    rcases hat with e | ⟨b, e, hb2⟩
    · exact h.ap j (e ▸ hj)
    · rw [e] at hj; injection hj with hj; subst hj
      intro e2; have := ((Row.of h.r.row).lt _ e2.symm).2; omega
  have hP1 : Pr w1 base g gr v' v2 u2 es' es cl cs := ⟨hi, h.r.keepB h.b h.ap (.inr rfl) k, ap1⟩
  obtain ⟨v2', hi2, hb2, k2, hat2⟩ := t2 v' hP1
  have ap2 : ∀ j, v'.ownBlock = some j → some j ≠ v2'.ownBlock := fun j hj => by
    rcases hat2 with e | ⟨b, e, hb3⟩
    · rw [e]; exact ap1 j hj
    · rw [e]; intro e2; injection e2 with e2; have := ((Row.of hi.row).lt _ hj).2; omega
  refine ⟨v', v2', u2, es', cl, cs, ⟨hi.keepR hP1.r ap1 (.inl rfl) k2, hi2, ap2⟩, hc, hl, hb.trans hb2, ?_, ?_⟩
  · refine (Keep.of_but (S := FP g gr v v2 u2) k (.inl rfl) fun j e => .inr (.inr (.inl e))).trans (Keep.of_but (S := fun j => j = gr ∨ v2.ownBlock = some j) k2 (.inl rfl) fun j e => .inr e) ?_
    rintro j (rfl | e)
    · exact .inl (.inr (.inl rfl))
    · exact .inl (.inr (.inr (.inr (.inl e))))
  · rintro j (rfl | rfl | e | e | e)
    · exact .inl (.inl rfl)
    · exact .inl (.inr (.inl rfl))
    · rcases hat with e2 | ⟨b, e2, hb3⟩
      · exact .inl (.inr (.inr (.inl (e2 ▸ e))))
      · rw [e2] at e; injection e with e; exact .inr (by omega)
    · rcases hat2 with e2 | ⟨b, e2, hb3⟩
      · exact .inl (.inr (.inr (.inr (.inl (e2 ▸ e)))))
      · rw [e2] at e; injection e with e; exact .inr (by have := hb.size; omega)
    · exact .inl (.inr (.inr (.inr (.inr e))))
theorem Pt.close {w w1 w2 : World} {base g gr : Nat} {v v2 u2 : Value} {es : List S44} {cl : Nat → Bool} {cs : List Int} {f : Int} (h : Pr w base g gr v v2 u2 es es cl cs) (hc : CC cl cs) (hl : es.length ≤ 64) (hi : IsB w1 base g v es (cloF cl f)) (hb : Below base w w1) (k : KeepBut w w1 g none)
    (t2 : Pr w1 base g gr v v2 u2 es es (cloF cl f) cs → Shut w1 w2 base gr v2 u2 es (rcl cs f)) : Pt w w2 base g gr v v2 u2 := by
  have hP1 : Pr w1 base g gr v v2 u2 es es (cloF cl f) cs := ⟨hi, h.r.keepB h.b h.ap (.inl rfl) k, h.ap⟩
  obtain ⟨u2', hi2, hb2, k2, hat2⟩ := t2 hP1
  refine ⟨v, v2, u2', es, _, _, ⟨hi.keepR hP1.r h.ap (.inr rfl) k2, hi2, h.ap⟩, hc.close f, hl, hb.trans hb2, ?_, ?_⟩
  · refine (Keep.of_but (S := FP g gr v v2 u2) k (.inl rfl) fun j e => by cases e).trans (Keep.of_but (S := fun j => j = gr ∨ u2.ownBlock = some j) k2 (.inl rfl) fun j e => .inr e) ?_
    rintro j (rfl | e)
    · exact .inl (.inr (.inl rfl))
    · exact .inl (.inr (.inr (.inr (.inr e))))
  · rintro j (rfl | rfl | e | e | e)
    · exact .inl (.inl rfl)
    · exact .inl (.inr (.inl rfl))
    · exact .inl (.inr (.inr (.inl e)))
    · exact .inl (.inr (.inr (.inr (.inl e))))
    · rcases hat2 with e2 | ⟨b, e2, hb3⟩
      · exact .inl (.inr (.inr (.inr (.inr (e2 ▸ e)))))
      · rw [e2] at e; injection e with e; exact .inr (by have := hb.size; omega)
end Go.Proofs.Ythadfkpibnhcgaa.B
