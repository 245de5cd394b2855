/- Layer 8 in plain Lean: what stands behind a token or a fault changes nothing in it. No condition. -/
import Derived.Test.YtedhkelochpdnaaL0
set_option linter.unusedVariables false
set_option linter.unusedSimpArgs false
namespace Go.Proofs.Ytedhkelochpdnaa.L
open Go.Proofs.Ytedhkelochpdnaa

/-- The first byte, where there is one, is none of p's. -/
def headN (p : UInt8 → Bool) (r : List UInt8) : Prop := ∀ b t, r = b :: t → p b = false
theorem headN_nil (p : UInt8 → Bool) : headN p [] := by intro b t h; cases h
theorem headN_cons {p : UInt8 → Bool} {b : UInt8} {t : List UInt8} (h : p b = false) : headN p (b :: t) := by intro c u e; cases e; exact h
theorem lead_iff (p : UInt8 → Bool) (w r : List UInt8) : lead p (w ++ r) = w.length ↔ (∀ b ∈ w, p b = true) ∧ headN p r := by
  induction w with
  | nil =>
    cases r with
    | nil => simp [lead, headN_nil]
    | cons b t =>
      simp only [List.nil_append, lead, List.length_nil, List.not_mem_nil, false_imp_iff, implies_true, true_and]
      cases hb : p b with
      | true => simp only [if_true]; constructor
                · intro h; omega
                · intro h; rw [h b t rfl] at hb; cases hb
      | false => simp only [Bool.false_eq_true, if_false, true_iff]; exact headN_cons hb
  | cons b t ih =>
    simp only [List.cons_append, lead, List.length_cons, List.mem_cons]
    cases hb : p b with
    | true =>
      simp only [if_true, Nat.add_right_cancel_iff, ih]
      constructor
      · rintro ⟨h1, h2⟩; exact ⟨fun c hc => hc.elim (fun e => e ▸ hb) (h1 c), h2⟩
      · rintro ⟨h1, h2⟩; exact ⟨fun c hc => h1 c (.inr hc), h2⟩
    | false =>
      simp only [Bool.false_eq_true, if_false]
      constructor
      · intro h; omega
      · rintro ⟨h1, h2⟩; rw [h1 b (.inl rfl)] at hb; cases hb
theorem lead_take (p : UInt8 → Bool) (l : List UInt8) : (∀ b ∈ l.take (lead p l), p b = true) ∧ headN p (l.drop (lead p l)) := by
  have h := lead_iff p (l.take (lead p l)) (l.drop (lead p l))
  rw [List.take_append_drop, List.length_take] at h
  exact h.1 (by have := lead_le p l; omega)
def stop (kind : Nat) (r : List UInt8) : Prop := (kind = 1 → headN isW r) ∧ (kind = 2 → headN isD r)
theorem isW_D {b : UInt8} (h : isW b = false) : isD b = false := by unfold isW at h; rw [Bool.or_eq_false_iff] at h; exact h.2
theorem stop_of {kind : Nat} {r : List UInt8} (h : headN isW r) : stop kind r := ⟨fun _ => h, fun _ b t e => isW_D (h b t e)⟩
theorem esc_loc {w r r' : List UInt8} {c : UInt8} {n : Nat} (h : esc (w ++ r) = some (c, n)) (hn : n ≤ w.length) : esc (w ++ r') = some (c, n) := by
  cases w with
  | nil => have := esc_le h; simp only [List.length_nil] at hn; omega
  | cons a t =>
    simp only [List.cons_append] at h ⊢
    rw [esc] at h ⊢
    split at h
    · rename_i h1; rw [if_pos h1]; exact h
    rename_i h1; rw [if_neg h1]
    split at h
    · rename_i h2; rw [if_pos h2]; exact h
    rename_i h2; rw [if_neg h2]
    split at h
    · rename_i h3; rw [if_pos h3]; exact h
    rename_i h3; rw [if_neg h3]
    split at h
    · rename_i h4; rw [if_pos h4]
      have := escx_le h
      simp only [List.length_cons] at hn
      rw [← h]; exact (escx_loc (by omega)).symm
    · cases h
theorem tx_loc {r r' : List UInt8} {t : Tk} : ∀ (d : Nat) (w : List UInt8) (off : Nat) (acc : List UInt8), w.length ≤ d → tx off acc (w ++ r) = .ok t → w.length + off = t.len → tx off acc (w ++ r') = .ok t := by
  intro d
  induction d with
  | zero =>
    intro w off acc hd h hw
    have := tx_len h; omega
  | succ d ih =>
    intro w off acc hd h hw
    cases w with
    | nil => have := tx_len h; simp only [List.length_nil] at hw; omega
    | cons b w =>
      simp only [List.cons_append, List.length_cons] at h hw hd ⊢
      rw [tx] at h ⊢
      split at h
      · cases h
      rename_i h1; rw [if_neg h1]
      split at h
      · rename_i h2; rw [if_pos h2]; exact h
      rename_i h2; rw [if_neg h2]
      split at h
      · rename_i h3; rw [if_pos h3]
        cases he : esc (w ++ r) with
        | none => rw [he] at h; cases h
        | some p =>
          obtain ⟨c, n⟩ := p
          rw [he] at h; simp only at h
          have hl := tx_len h
          have hn : n ≤ w.length := by omega
          rw [esc_loc he hn]; simp only
          rw [List.drop_append_of_le_length hn] at h ⊢
          exact ih _ _ _ (by rw [List.length_drop]; omega) h (by rw [List.length_drop]; omega)
      · rename_i h3; rw [if_neg h3]
        exact ih _ _ _ (by omega) h (by omega)
theorem tx_kind {off : Nat} {acc l : List UInt8} {t : Tk} (h : tx off acc l = .ok t) : t.kind = 3 := by
  induction off, acc, l using tx.induct generalizing t with
  | case1 off acc => rw [tx] at h; cases h
  | case2 off acc b t' hb => rw [tx, if_pos hb] at h; cases h
  | case3 off acc b t' hb h34 => rw [tx, if_neg hb, if_pos h34] at h; cases h; rfl
  | case4 off acc b t' hb h34 h92 he => rw [tx, if_neg hb, if_neg h34, if_pos h92, he] at h; cases h
  | case5 off acc b t' hb h34 h92 c n he ih => rw [tx, if_neg hb, if_neg h34, if_pos h92, he] at h; exact ih h
  | case6 off acc b t' hb h34 h92 ih => rw [tx, if_neg hb, if_neg h34, if_neg h92] at h; exact ih h
theorem tok_kind {l : List UInt8} {t : Tk} (h : tok l = .ok t) : 1 ≤ t.kind ∧ t.kind ≤ 4 := by
  cases l with
  | nil => cases h
  | cons b r =>
    rw [tok] at h
    split at h
    · split at h
      · cases h
      · cases h; simp
    split at h
    · split at h
      · cases h
      · cases h; simp
    split at h
    · rw [tx_kind h]; decide
    split at h
    · cases h; simp
    · cases h
theorem tok_stop {w r : List UInt8} {t : Tk} (h : tok (w ++ r) = .ok t) (hw : w.length = t.len) : stop t.kind r := by
  have hl := tok_len h
  cases w with
  | nil => simp only [List.length_nil] at hw; omega
  | cons b w =>
    simp only [List.cons_append] at h
    rw [tok] at h
    split at h
    · split at h
      · cases h
      · injection h with h; subst h
        have := (lead_iff isW (b :: w) r).1 (by simpa using hw.symm)
        exact ⟨fun _ => this.2, (fun h => by simp at h)⟩
    split at h
    · split at h
      · cases h
      · injection h with h; subst h
        have := (lead_iff isD (b :: w) r).1 (by simpa using hw.symm)
        exact ⟨(fun h => by simp at h), fun _ => this.2⟩
    split at h
    · have := tx_kind h; exact ⟨fun h => by omega, fun h => by omega⟩
    split at h
    · injection h with h; subst h; exact ⟨(fun h => by simp at h), (fun h => by simp at h)⟩
    · cases h
theorem tok_loc {w r r' : List UInt8} {t : Tk} (h : tok (w ++ r) = .ok t) (hw : w.length = t.len) (hs : stop t.kind r') : tok (w ++ r') = .ok t := by
  have hl := tok_len h
  cases w with
  | nil => simp only [List.length_nil] at hw; omega
  | cons b w =>
    simp only [List.cons_append] at h ⊢
    rw [tok] at h ⊢
    split at h
    · rename_i h1; rw [if_pos h1]
      split at h
      · cases h
      · rename_i h2
        injection h with h; subst h
        have e := (lead_iff isW (b :: w) r).1 (by simpa using hw.symm)
        have e2 := (lead_iff isW (b :: w) r').2 ⟨e.1, hs.1 rfl⟩
        simp only at hw
        rw [List.cons_append] at e2
        rw [← hw] at h2 ⊢
        rw [e2, if_neg h2, ← List.cons_append, ← List.cons_append, List.take_left, List.take_left]
    rename_i h1; rw [if_neg h1]
    split at h
    · rename_i h2; rw [if_pos h2]
      split at h
      · cases h
      · rename_i x hx
        injection h with h; subst h
        have e := (lead_iff isD (b :: w) r).1 (by simpa using hw.symm)
        have e2 := (lead_iff isD (b :: w) r').2 ⟨e.1, hs.2 rfl⟩
        simp only at hw
        rw [List.cons_append] at e2
        rw [← hw, ← List.cons_append, List.take_left] at hx
        rw [e2, ← List.cons_append, List.take_left, hx, hw]
    rename_i h2; rw [if_neg h2]
    split at h
    · rename_i h3; rw [if_pos h3]
      exact tx_loc _ _ _ _ (Nat.le_refl _) h (by simpa using hw)
    rename_i h3; rw [if_neg h3]
    split at h
    · rename_i h4; rw [if_pos h4]; exact h
    · cases h
/-- Where blanks and remarks end (true: inside a remark). -/
def gs : Bool → List UInt8 → Option Bool
  | r, [] => some r
  | false, b :: t => if blank b then gs false t else if b.toNat = 35 then gs true t else none
  | true, b :: t => gs (b.toNat != 10) t
theorem gs_sk {r q : Bool} {g m : List UInt8} (h : gs r g = some q) : sk r (g ++ m) = g.length + sk q m := by
  induction g generalizing r with
  | nil => rw [gs] at h; cases h; simp
  | cons b t ih =>
    cases r
    · rw [gs] at h
      simp only [List.cons_append, sk, List.length_cons]
      split at h
      · rename_i h1; rw [if_pos h1, ih h]; omega
      · rename_i h1; rw [if_neg h1]
        split at h
        · rename_i h2; rw [if_pos h2, ih h]; omega
        · cases h
    · rw [gs] at h
      simp only [List.cons_append, sk, List.length_cons]
      rw [ih h]; omega
theorem sk_gs {r : Bool} {l : List UInt8} (h : sk r l < l.length) : gs r (l.take (sk r l)) = some false ∧ sk false (l.drop (sk r l)) = 0 := by
  induction l generalizing r with
  | nil => simp at h
  | cons b t ih =>
    cases r
    · rw [sk] at h ⊢
      split at h
      · rename_i h1; simp only [List.length_cons] at h
        rw [if_pos h1, List.take_succ_cons, gs, if_pos h1, List.drop_succ_cons]
        exact ih (by omega)
      · rename_i h1; rw [if_neg h1]
        split at h
        · rename_i h2; simp only [List.length_cons] at h
          rw [if_pos h2, List.take_succ_cons, gs, if_neg h1, if_pos h2, List.drop_succ_cons]
          exact ih (by omega)
        · rename_i h2; rw [if_neg h2, List.take_zero, gs, List.drop_zero, sk, if_neg h1, if_neg h2]; exact ⟨rfl, rfl⟩
    · rw [sk] at h ⊢
      simp only [List.length_cons] at h
      rw [List.take_succ_cons, gs, List.drop_succ_cons]
      exact ih (by omega)
theorem sk_all {r : Bool} {l : List UInt8} (h : sk r l = l.length) : ∃ q, gs r l = some q := by
  induction l generalizing r with
  | nil => exact ⟨r, by rw [gs]⟩
  | cons b t ih =>
    cases r
    · rw [sk] at h
      rw [gs]
      split at h
      · rename_i h1; rw [if_pos h1]; exact ih (by simpa using h)
      · rename_i h1; rw [if_neg h1]
        split at h
        · rename_i h2; rw [if_pos h2]; exact ih (by simpa using h)
        · simp at h
    · rw [sk] at h
      rw [gs]
      exact ih (by simpa using h)
theorem gs_all {r q : Bool} {l : List UInt8} (h : gs r l = some q) : sk r l = l.length := by
  have := gs_sk (m := []) h
  rw [List.append_nil] at this
  cases q <;> simpa [sk] using this
theorem tok_blank {b : UInt8} {t : List UInt8} (h : blank b = true ∨ b.toNat = 35) : tok (b :: t) = .bad 0 80 := by
  have hb : b.toNat = 32 ∨ b.toNat = 9 ∨ b.toNat = 10 ∨ b.toNat = 13 ∨ b.toNat = 35 := by
    rcases h with h | h
    · have := of_decide_eq_true h; omega
    · omega
  have h1 : isL b = false := decide_eq_false (by omega)
  have h2 : isD b = false := decide_eq_false (by omega)
  rw [tok, if_neg (by rw [h1]; decide), if_neg (by rw [h2]; decide), if_neg (by omega), if_neg]
  unfold marks
  simp only [List.mem_cons, List.not_mem_nil, or_false]
  omega
theorem tok_sk {m : List UInt8} {t : Tk} (h : tok m = .ok t) : sk false m = 0 := by
  cases m with
  | nil => rfl
  | cons b m =>
    by_cases h1 : blank b = true ∨ b.toNat = 35
    · rw [tok_blank h1] at h; cases h
    · rw [not_or] at h1
      rw [sk, if_neg h1.1, if_neg h1.2]
theorem lx_mk {off : Nat} {g w r : List UInt8} {t : Tk} (hg : gs false g = some false) (ht : tok (w ++ r) = .ok t) (hw : w.length = t.len) :
    lx off (g ++ (w ++ r)) = (lx (off + g.length + w.length) r).push (t.at_ (off + g.length)) := by
  have hl := tok_len ht
  have e : sk false (g ++ (w ++ r)) = g.length := by rw [gs_sk hg, tok_sk ht]; rfl
  have e2 : (g ++ (w ++ r)).drop (sk false (g ++ (w ++ r))) = w ++ r := by rw [e, List.drop_left]
  rw [lx_ok (t := t) (by rw [e]; simp only [List.length_append] at *; omega) (by rw [e2]; exact ht), e]
  congr 1
  rw [← hw]
  congr 1
  rw [← List.append_assoc, ← List.length_append, List.drop_left]
theorem lx_mkbad {off : Nat} {g m : List UInt8} {a e : Nat} (hg : gs false g = some false) (hm : sk false m = 0) (hne : m ≠ []) (ht : tok m = .bad a e) :
    lx off (g ++ m) = .bad (off + g.length + a) e := by
  have e1 : sk false (g ++ m) = g.length := by rw [gs_sk hg, hm]; rfl
  have hl : 0 < m.length := by cases m with | nil => exact absurd rfl hne | cons a t => simp
  rw [lx_bad (a := a) (e := e) (by rw [e1, List.length_append]; omega) (by rw [e1, List.drop_left]; exact ht), e1]
inductive Cut (off : Nat) (l : List UInt8) : Prop where
  | all (q : Bool) (h : gs false l = some q) (e : lx off l = .toks [⟨0, [], 0, off + l.length, off + l.length⟩])
  | one (g w r : List UInt8) (t : Tk) (hl : l = g ++ (w ++ r)) (hg : gs false g = some false) (ht : tok (w ++ r) = .ok t) (hw : w.length = t.len)
      (e : lx off l = (lx (off + g.length + w.length) r).push (t.at_ (off + g.length)))
  | bad (g m : List UInt8) (a e : Nat) (hl : l = g ++ m) (hg : gs false g = some false) (hm : sk false m = 0) (hne : m ≠ []) (ht : tok m = .bad a e)
      (h : lx off l = .bad (off + g.length + a) e)
theorem lx_cut (off : Nat) (l : List UInt8) : Cut off l := by
  by_cases hz : sk false l = l.length
  · obtain ⟨q, hq⟩ := sk_all hz
    exact .all q hq (lx_end hz)
  · have hlt : sk false l < l.length := by have := sk_le false l; omega
    have hg := sk_gs hlt
    have hlen : (l.take (sk false l)).length = sk false l := by rw [List.length_take]; omega
    have hsp : l = l.take (sk false l) ++ l.drop (sk false l) := (List.take_append_drop _ _).symm
    cases ht : tok (l.drop (sk false l)) with
    | bad a e =>
      refine .bad _ _ a e hsp hg.1 hg.2 ?_ ht ?_
      · intro h; have := congrArg List.length h; rw [List.length_drop] at this; simp at this; omega
      · rw [hlen]; exact lx_bad hz ht
    | ok t =>
      have hl := tok_len ht
      have hsp2 : l.drop (sk false l) = (l.drop (sk false l)).take t.len ++ (l.drop (sk false l)).drop t.len := (List.take_append_drop _ _).symm
      have hwl : ((l.drop (sk false l)).take t.len).length = t.len := by rw [List.length_take]; omega
      refine .one _ _ _ t (by rw [← hsp2]; exact hsp) hg.1 (by rw [← hsp2]; exact ht) hwl ?_
      rw [hlen, hwl, List.drop_drop]; exact lx_ok hz ht
end Go.Proofs.Ytedhkelochpdnaa.L
