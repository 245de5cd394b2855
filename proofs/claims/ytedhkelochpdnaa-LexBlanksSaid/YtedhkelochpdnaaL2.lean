/- Layer 8 in plain Lean: blanks between tokens, tokens alone, faults, quoted texts. No condition. -/
import Derived.Test.YtedhkelochpdnaaL1
set_option linter.unusedVariables false
set_option linter.unusedSimpArgs false
namespace Go.Proofs.Ytedhkelochpdnaa.L
open Go.Proofs.Ytedhkelochpdnaa

theorem gs_app {r q : Bool} {g m : List UInt8} (h : gs r g = some q) : gs r (g ++ m) = gs q m := by
  induction g generalizing r with
  | nil => rw [gs] at h; cases h; rfl
  | cons b t ih =>
    cases r
    · rw [gs] at h
      rw [List.cons_append, gs]
      split at h
      · rename_i h1; rw [if_pos h1, ih h]
      · rename_i h1; rw [if_neg h1]
        split at h
        · rename_i h2; rw [if_pos h2, ih h]
        · cases h
    · rw [gs] at h
      rw [List.cons_append, gs, ih h]
def stripT (t : Tok) : Nat × List UInt8 × Nat × Nat := (t.kind, t.text, t.num, t.fin - t.at')
def st : LR → Option (List (Nat × List UInt8 × Nat × Nat))
  | .toks l => some (l.map stripT)
  | .bad _ _ => none
theorem st_push (t : Tok) (r : LR) : st (r.push t) = (st r).map (stripT t :: ·) := by cases r <;> rfl
theorem strip_at (t : Tk) (o o' : Nat) : stripT (t.at_ o) = stripT (t.at_ o') := by
  unfold stripT Tk.at_; simp only [Nat.add_sub_cancel_left]
theorem st_off : ∀ (d : Nat) (off off' : Nat) (l : List UInt8), l.length ≤ d → st (lx off l) = st (lx off' l) := by
  intro d
  induction d with
  | zero =>
    intro off off' l hl
    obtain rfl : l = [] := List.length_eq_zero_iff.1 (by omega)
    rw [lx_end rfl, lx_end rfl]; simp [st, stripT]
  | succ d ih =>
    intro off off' l hl
    rcases lx_cut off l with ⟨q, h, e⟩ | ⟨g, w, r, t, rfl, hg, ht, hw, e⟩ | ⟨g, m, a, e, rfl, hg, hm, hne, ht, h⟩
    · rw [e, lx_end (gs_all h)]; simp [st, stripT]
    · have hl2 := tok_len ht
      rw [e, lx_mk hg ht hw, st_push, st_push, strip_at t _ (off' + g.length), ih _ (off' + g.length + w.length) r (by simp only [List.length_append] at hl; omega)]
    · rw [h, lx_mkbad hg hm hne ht]; rfl
theorem st_gap {g l : List UInt8} (hg : gs false g = some false) (off off' : Nat) : st (lx off (g ++ l)) = st (lx off' l) := by
  rcases lx_cut off' l with ⟨q, h, e⟩ | ⟨g', w, r, t, rfl, hg', ht, hw, e⟩ | ⟨g', m, a, e, rfl, hg', hm, hne, ht, h⟩
  · rw [e, lx_end (gs_all (by rw [gs_app hg]; exact h))]; simp [st, stripT]
  · rw [e, ← List.append_assoc, lx_mk (by rw [gs_app hg]; exact hg') ht hw, st_push, st_push, strip_at t _ (off' + g'.length), st_off r.length _ (off' + g'.length + w.length) r (Nat.le_refl _)]
  · rw [h, ← List.append_assoc, lx_mkbad (by rw [gs_app hg]; exact hg') hm hne ht]; rfl
theorem headN_app {p : UInt8 → Bool} {r z : List UInt8} (h : headN p r) (hz : headN p z) : headN p (r ++ z) := by
  cases r with
  | nil => exact hz
  | cons b t => exact headN_cons (h b t rfl)
theorem stop_app {k : Nat} {r z : List UInt8} (h : stop k r) (hz : headN isW z) : stop k (r ++ z) :=
  ⟨fun e => headN_app (h.1 e) hz, fun e => headN_app (h.2 e) fun b t e => isW_D (hz b t e)⟩
theorem headN_take {p : UInt8 → Bool} {r m : List UInt8} {c : Nat} (h : headN p r) (hm : c = 0 → headN p m) (hr : r = [] → headN p m) : headN p (r.take c ++ m) := by
  cases r with
  | nil => simpa using hr rfl
  | cons b t =>
    cases c with
    | zero => simpa using hm rfl
    | succ c => rw [List.take_succ_cons]; exact headN_cons (h b t rfl)
theorem st_more {z : List UInt8} (hz : ∀ r, ∃ q, gs r z = some q) (hs : headN isW z) : ∀ (d : Nat) (off : Nat) (s : List UInt8) (k), s.length ≤ d → st (lx off s) = some k → st (lx off (s ++ z)) = some k := by
  intro d
  induction d with
  | zero =>
    intro off s k hd h
    obtain rfl : s = [] := List.length_eq_zero_iff.1 (by omega)
    obtain ⟨q, hq⟩ := hz false
    rw [List.nil_append, lx_end (gs_all hq)]
    rw [lx_end rfl] at h
    simp [st, stripT] at h ⊢; exact h
  | succ d ih =>
    intro off s k hd h
    rcases lx_cut off s with ⟨q, hq, e⟩ | ⟨g, w, r, t, rfl, hg, ht, hw, e⟩ | ⟨g, m, a, e, rfl, hg, hm, hne, ht, h2⟩
    · obtain ⟨q2, hq2⟩ := hz q
      rw [e] at h
      rw [lx_end (gs_all (by rw [gs_app hq]; exact hq2))]
      simp [st, stripT] at h ⊢; exact h
    · have hl2 := tok_len ht
      rw [e, st_push] at h
      rw [List.append_assoc, List.append_assoc, lx_mk hg (tok_loc ht hw (stop_app (tok_stop ht hw) hs)) hw, st_push]
      cases hr : st (lx (off + g.length + w.length) r) with
      | none => rw [hr] at h; cases h
      | some k' =>
        rw [hr] at h
        rw [ih _ r k' (by simp only [List.length_append] at hd; omega) hr]
        exact h
    · rw [h2] at h; cases h
theorem push_toks {t : Tok} {r : LR} {l : List Tok} (h : r.push t = .toks l) : ∃ l', r = .toks l' ∧ l = t :: l' := by
  cases r with
  | toks l' => cases h; exact ⟨l', rfl, rfl⟩
  | bad a e => cases h
theorem push_bad {t : Tok} {r : LR} {a e : Nat} (h : r.push t = .bad a e) : r = .bad a e := by
  cases r with
  | toks l' => cases h
  | bad a e => exact h
theorem lx_fin : ∀ (d : Nat) (off : Nat) (l : List UInt8) (ts : List Tok), l.length ≤ d → lx off l = .toks ts → ∀ t ∈ ts, t.kind ≠ 0 → off < t.fin ∧ t.fin ≤ off + l.length := by
  intro d
  induction d with
  | zero =>
    intro off l ts hd h t ht hk
    obtain rfl : l = [] := List.length_eq_zero_iff.1 (by omega)
    rw [lx_end rfl] at h; cases h
    simp at ht; subst ht; exact absurd rfl hk
  | succ d ih =>
    intro off l ts hd h t ht hk
    rcases lx_cut off l with ⟨q, hq, e⟩ | ⟨g, w, r, t0, rfl, hg, ht0, hw, e⟩ | ⟨g, m, a, e, rfl, hg, hm, hne, ht0, h2⟩
    · rw [e] at h; cases h
      simp at ht; subst ht; exact absurd rfl hk
    · have hl2 := tok_len ht0
      rw [e] at h
      obtain ⟨l', h1, rfl⟩ := push_toks h
      simp only [List.length_append] at hd ⊢
      rcases List.mem_cons.1 ht with rfl | ht
      · simp only [Tk.at_]; omega
      · have := ih _ r l' (by omega) h1 t ht hk; omega
    · rw [h2] at h; cases h
theorem st_mid {b : List UInt8} (hb : gs false b = some false) (hs : headN isW b) (hne : b ≠ []) : ∀ (n : Nat) (off : Nat) (s : List UInt8) (l : List Tok) (t : Tok), lx off s = .toks l → l[n]? = some t → t.kind ≠ 0 →
    st (lx off (s.take (t.fin - off) ++ (b ++ s.drop (t.fin - off)))) = st (lx off s) := by
  intro n
  have hb2 : ∀ m, headN isW (b ++ m) := fun m => by
    cases b with
    | nil => exact absurd rfl hne
    | cons x y => exact headN_cons (hs x y rfl)
  induction n with
  | zero =>
    intro off s l t h ht hk
    rcases lx_cut off s with ⟨q, hq, e⟩ | ⟨g, w, r, t0, rfl, hg, ht0, hw, e⟩ | ⟨g, m, a, e, rfl, hg, hm, hne, ht0, h2⟩
    · rw [e] at h; cases h
      simp at ht; subst ht; exact absurd rfl hk
    · have hl2 := tok_len ht0
      have e2 := e
      rw [h] at e2
      obtain ⟨l', h1, rfl⟩ := push_toks e2.symm
      simp at ht; subst ht
      have hf : (t0.at_ (off + g.length)).fin - off = (g ++ w).length := by simp only [Tk.at_, List.length_append]; omega
      rw [hf, ← List.append_assoc g w r, List.take_left, List.drop_left, List.append_assoc g w, List.append_assoc g w, lx_mk hg (tok_loc ht0 hw (stop_of (hb2 r))) hw, e, st_push, st_push,
        st_gap hb _ (off + g.length + w.length)]
    · rw [h2] at h; cases h
  | succ n ih =>
    intro off s l t h ht hk
    rcases lx_cut off s with ⟨q, hq, e⟩ | ⟨g, w, r, t0, rfl, hg, ht0, hw, e⟩ | ⟨g, m, a, e, rfl, hg, hm, hne, ht0, h2⟩
    · rw [e] at h; cases h
      simp at ht
    · have hl2 := tok_len ht0
      have e2 := e
      rw [h] at e2
      obtain ⟨l', h1, rfl⟩ := push_toks e2.symm
      rw [List.getElem?_cons_succ] at ht
      have hfin := lx_fin r.length _ r l' (Nat.le_refl _) h1 t (List.mem_of_getElem? ht) hk
      have key := ih _ r l' t h1 ht hk
      obtain ⟨c, hc⟩ : ∃ c, c = t.fin - (off + g.length + w.length) := ⟨_, rfl⟩
      have hf : t.fin - off = (g ++ w).length + c := by simp only [List.length_append]; omega
      rw [← hc] at key
      have hst : stop t0.kind (r.take c ++ (b ++ r.drop c)) := by
        have := tok_stop ht0 hw
        have hr : r = [] → headN isW (b ++ r.drop c) := fun _ => hb2 _
        refine ⟨fun e => headN_take (this.1 e) (fun _ => hb2 _) hr, fun e => headN_take (this.2 e) (fun _ x y e => isW_D (hb2 _ x y e)) fun _ x y e => isW_D (hb2 _ x y e)⟩
      rw [hf, ← List.append_assoc g w r, List.take_length_add_append, List.drop_length_add_append, List.append_assoc (g ++ w), List.append_assoc g w, List.append_assoc g w, lx_mk hg (tok_loc ht0 hw hst) hw, lx_mk hg ht0 hw, st_push, st_push, key]
    · rw [h2] at h; cases h
/-- Tokens one behind the other in s, from e on. -/
inductive Good (s : List UInt8) : Nat → List Tok → Prop where
  | last (e : Nat) (q : Bool) (he : e ≤ s.length) (hg : gs false (s.drop e) = some q) : Good s e [⟨0, [], 0, s.length, s.length⟩]
  | more (e : Nat) (t : Tok) (ts : List Tok) (q : Bool) (h1 : e ≤ t.at') (h2 : t.at' < t.fin) (h3 : t.fin ≤ s.length) (hk : 1 ≤ t.kind ∧ t.kind ≤ 4)
      (hg : gs false ((s.drop e).take (t.at' - e)) = some q)
      (ho : lx 0 ((s.drop t.at').take (t.fin - t.at')) = .toks [⟨t.kind, t.text, t.num, 0, t.fin - t.at'⟩, ⟨0, [], 0, t.fin - t.at', t.fin - t.at'⟩])
      (hm : Good s t.fin ts) : Good s e (t :: ts)
theorem lx_alone {w : List UInt8} {t : Tk} (h : tok w = .ok t) (hw : w.length = t.len) : lx 0 w = .toks [⟨t.kind, t.text, t.num, 0, t.len⟩, ⟨0, [], 0, t.len, t.len⟩] := by
  have := @lx_mk 0 [] w [] t rfl (by rw [List.append_nil]; exact h) hw
  rw [List.append_nil, List.nil_append] at this
  rw [this, lx_end rfl]
  simp [LR.push, Tk.at_, hw]
theorem good : ∀ (d : Nat) (p l : List UInt8) (ts : List Tok), l.length ≤ d → lx p.length l = .toks ts → Good (p ++ l) p.length ts := by
  intro d
  induction d with
  | zero =>
    intro p l ts hd h
    obtain rfl : l = [] := List.length_eq_zero_iff.1 (by omega)
    rw [lx_end rfl] at h; cases h
    have := Good.last (s := p ++ []) p.length false (by simp) (by simp [gs])
    simpa using this
  | succ d ih =>
    intro p l ts hd h
    rcases lx_cut p.length l with ⟨q, hq, e⟩ | ⟨g, w, r, t0, rfl, hg, ht0, hw, e⟩ | ⟨g, m, a, e, rfl, hg, hm, hne, ht0, h2⟩
    · rw [e] at h; cases h
      have := Good.last (s := p ++ l) p.length q (by simp) (by rw [List.drop_left]; exact hq)
      simpa using this
    · have hl2 := tok_len ht0
      rw [e] at h
      obtain ⟨l', h1, rfl⟩ := push_toks h
      have ha : (t0.at_ (p.length + g.length)).at' = p.length + g.length := rfl
      have hf : (t0.at_ (p.length + g.length)).fin = p.length + g.length + t0.len := rfl
      have sp : p ++ (g ++ (w ++ r)) = (p ++ g ++ w) ++ r := by simp only [List.append_assoc]
      have lp : (p ++ g ++ w).length = p.length + g.length + w.length := by simp only [List.length_append]
      have hgood := ih (p ++ g ++ w) r l' (by simp only [List.length_append] at hd; omega) (by rw [lp]; exact h1)
      refine Good.more _ _ _ false (by rw [ha]; omega) (by rw [ha, hf]; omega) (by rw [hf]; simp only [List.length_append]; omega) (tok_kind ht0) ?_ ?_ ?_
      · rw [List.drop_left, ha, Nat.add_sub_cancel_left, List.take_left]; exact hg
      · have e1 : (p ++ (g ++ (w ++ r))).drop (p.length + g.length) = w ++ r := by
          rw [← List.append_assoc, ← List.length_append, List.drop_left]
        rw [ha, hf, Nat.add_sub_cancel_left, e1, ← hw, List.take_left, hw]
        exact lx_alone (by have := tok_loc (r' := []) ht0 hw (stop_of (headN_nil _)); rwa [List.append_nil] at this) hw
      · rw [hf, sp, ← hw, ← lp]; exact hgood
    · rw [h2] at h; cases h
theorem esc_none {t m : List UInt8} (h : esc t = none) : esc (t ++ 10 :: m) = none := by
  have h10 : hexv 10 = none := by decide
  cases t with
  | nil => simp [esc]
  | cons c t =>
    rw [esc] at h
    rw [List.cons_append, esc]
    split at h
    · cases h
    rename_i h1; rw [if_neg h1]
    split at h
    · cases h
    rename_i h2; rw [if_neg h2]
    split at h
    · cases h
    rename_i h3; rw [if_neg h3]
    split at h
    · rename_i h4; rw [if_pos h4]
      match t, h with
      | [], _ =>
        cases m with
        | nil => rfl
        | cons x y => rw [List.nil_append, escx, h10]
      | [a], _ => rw [List.cons_append, List.nil_append, escx, h10]; split <;> simp_all
      | a :: b :: t', h => exact h
    · rename_i h4; rw [if_neg h4]
theorem tx_bad {l : List UInt8} {off : Nat} {acc : List UInt8} {a e : Nat} (h : tx off acc l = .bad a e) (m : List UInt8) : tx off acc (l ++ 10 :: m) = .bad a e := by
  induction off, acc, l using tx.induct generalizing a e with
  | case1 off acc => rw [tx] at h; cases h; rw [List.nil_append, tx, if_pos (by decide)]
  | case2 off acc b t' hb => rw [tx, if_pos hb] at h; cases h; rw [List.cons_append, tx, if_pos hb]
  | case3 off acc b t' hb h34 => rw [tx, if_neg hb, if_pos h34] at h; cases h
  | case4 off acc b t' hb h34 h92 he => rw [tx, if_neg hb, if_neg h34, if_pos h92, he] at h; cases h; rw [List.cons_append, tx, if_neg hb, if_neg h34, if_pos h92, esc_none he]
  | case5 off acc b t' hb h34 h92 c n he ih =>
    rw [tx, if_neg hb, if_neg h34, if_pos h92, he] at h
    have hn := (esc_le he).2
    have := @esc_loc t' [] (10 :: m) c n (by rw [List.append_nil]; exact he) hn
    rw [List.cons_append, tx, if_neg hb, if_neg h34, if_pos h92, this]
    simp only
    rw [List.drop_append_of_le_length hn]
    exact ih h
  | case6 off acc b t' hb h34 h92 ih =>
    rw [tx, if_neg hb, if_neg h34, if_neg h92] at h
    rw [List.cons_append, tx, if_neg hb, if_neg h34, if_neg h92]; exact ih h
theorem tx_badcut {l : List UInt8} {off : Nat} {acc : List UInt8} {a e : Nat} (h : tx off acc l = .bad a e) : (e = 81 ∧ a = 0) ∨ (e = 82 ∧ off ≤ a ∧ a < off + l.length ∧ tx off acc (l.take (a - off)) = .bad 0 81) := by
  induction off, acc, l using tx.induct generalizing a e with
  | case1 off acc => rw [tx] at h; cases h; exact .inl ⟨rfl, rfl⟩
  | case2 off acc b t' hb => rw [tx, if_pos hb] at h; cases h; exact .inl ⟨rfl, rfl⟩
  | case3 off acc b t' hb h34 => rw [tx, if_neg hb, if_pos h34] at h; cases h
  | case4 off acc b t' hb h34 h92 he =>
    rw [tx, if_neg hb, if_neg h34, if_pos h92, he] at h; cases h
    exact .inr ⟨rfl, Nat.le_refl _, by simp, by rw [Nat.sub_self, List.take_zero, tx]⟩
  | case5 off acc b t' hb h34 h92 c n he ih =>
    rw [tx, if_neg hb, if_neg h34, if_pos h92, he] at h
    have hn := (esc_le he).2
    rcases ih h with h1 | ⟨h1, h2, h3, h4⟩
    · exact .inl h1
    · rw [List.length_drop] at h3
      refine .inr ⟨h1, by omega, by simp only [List.length_cons]; omega, ?_⟩
      obtain ⟨d, hd⟩ : ∃ d, d = a - (off + n + 1) := ⟨_, rfl⟩
      rw [← hd] at h4
      rw [show a - off = (n + d) + 1 by omega, List.take_succ_cons, tx, if_neg hb, if_neg h34, if_pos h92]
      have e1 : t'.take (n + d) = t'.take n ++ (t'.drop n).take d := by rw [List.take_add]
      have := @esc_loc (t'.take n) (t'.drop n) ((t'.drop n).take d) c n (by rw [List.take_append_drop]; exact he) (by rw [List.length_take]; omega)
      rw [e1, this]
      simp only
      rw [List.drop_append_of_le_length (by rw [List.length_take]; omega), List.drop_eq_nil_of_le (by rw [List.length_take]; omega), List.nil_append]
      exact h4
  | case6 off acc b t' hb h34 h92 ih =>
    rw [tx, if_neg hb, if_neg h34, if_neg h92] at h
    rcases ih h with h1 | ⟨h1, h2, h3, h4⟩
    · exact .inl h1
    · refine .inr ⟨h1, by omega, by simp only [List.length_cons]; omega, ?_⟩
      rw [show a - off = (a - (off + 1)) + 1 by omega, List.take_succ_cons, tx, if_neg hb, if_neg h34, if_neg h92]
      exact h4
theorem tok_bad {l : List UInt8} {a e : Nat} (hne : l ≠ []) (h : tok l = .bad a e) (m : List UInt8) : tok (l ++ 10 :: m) = .bad a e ∧ ((a = 0 ∧ (e = 80 ∨ e = 81 ∨ e = 111)) ∨ (e = 82 ∧ 1 ≤ a ∧ a < l.length ∧ tok (l.take a) = .bad 0 81)) := by
  have w10 : headN isW (10 :: m) := headN_cons (by decide)
  have d10 : headN isD (10 :: m) := headN_cons (by decide)
  have ext : ∀ p : UInt8 → Bool, headN p (10 :: m) → lead p (l ++ 10 :: m) = lead p l := by
    intro p hp
    have h1 := lead_take p l
    have := (lead_iff p (l.take (lead p l)) (l.drop (lead p l) ++ 10 :: m)).2 ⟨h1.1, headN_app h1.2 hp⟩
    rw [← List.append_assoc, List.take_append_drop, List.length_take] at this
    rw [this]; have := lead_le p l; omega
  have e1 := ext isW w10
  have e2 := ext isD d10
  have l2 := lead_le isD l
  cases l with
  | nil => exact absurd rfl hne
  | cons b t =>
    rw [List.cons_append] at e1 e2 ⊢
    rw [tok] at h
    rw [tok]
    split at h
    · rename_i h1; rw [if_pos h1]
      split at h
      · rename_i h2; rw [e1, if_pos h2]; cases h; exact ⟨rfl, .inl ⟨rfl, by simp⟩⟩
      · cases h
    rename_i h1; rw [if_neg h1]
    split at h
    · rename_i h2; rw [if_pos h2]
      split at h
      · rename_i hx; cases h
        rw [e2, ← List.cons_append, List.take_append_of_le_length l2, hx]; exact ⟨rfl, .inl ⟨rfl, by simp⟩⟩
      · cases h
    rename_i h2; rw [if_neg h2]
    split at h
    · rename_i h3; rw [if_pos h3]
      refine ⟨tx_bad h m, ?_⟩
      rcases tx_badcut h with ⟨h4, h5⟩ | ⟨h4, h5, h6, h7⟩
      · exact .inl ⟨h5, by omega⟩
      · refine .inr ⟨h4, h5, by simp only [List.length_cons]; omega, ?_⟩
        rw [show a = (a - 1) + 1 by omega, List.take_succ_cons, tok, if_neg h1, if_neg h2, if_pos h3]; exact h7
    rename_i h3; rw [if_neg h3]
    split at h
    · cases h
    · rename_i h4; rw [if_neg h4]; cases h; exact ⟨rfl, .inl ⟨rfl, by simp⟩⟩
theorem sk_head {l m : List UInt8} (h : sk false l = 0) (hne : l ≠ []) : sk false (l ++ m) = 0 := by
  cases l with
  | nil => exact absurd rfl hne
  | cons b t =>
    rw [sk] at h
    rw [List.cons_append, sk]
    split at h
    · omega
    rename_i h1; rw [if_neg h1]
    split at h
    · omega
    rename_i h2; rw [if_neg h2]
theorem lx_faults (m : List UInt8) : ∀ (d : Nat) (off : Nat) (s : List UInt8) (a e : Nat), s.length ≤ d → lx off s = .bad a e →
    lx off (s ++ 10 :: m) = .bad a e ∧ off ≤ a ∧ a < off + s.length ∧ (e = 80 ∨ e = 81 ∨ e = 82 ∨ e = 111) ∧ (e = 82 → ∃ j, lx off (s.take (a - off)) = .bad j 81 ∧ j < a) ∧ (e ≠ 82 → ∃ ts, lx off (s.take (a - off)) = .toks ts) := by
  have w10 : headN isW (10 :: m) := headN_cons (by decide)
  intro d
  induction d with
  | zero =>
    intro off s a e hd h
    obtain rfl : s = [] := List.length_eq_zero_iff.1 (by omega)
    rw [lx_end rfl] at h; cases h
  | succ d ih =>
    intro off s a e hd h
    rcases lx_cut off s with ⟨q, hq, e1⟩ | ⟨g, w, r, t0, rfl, hg, ht0, hw, e1⟩ | ⟨g, m0, a0, e0, rfl, hg, hm, hne, ht0, h2⟩
    · rw [e1] at h; cases h
    · have hl2 := tok_len ht0
      have hst := tok_stop ht0 hw
      rw [e1] at h
      have h1 := push_bad h
      simp only [List.length_append] at hd
      obtain ⟨i1, i2, i3, i4, i5, i6⟩ := ih _ r a e (by omega) h1
      have hst2 : stop t0.kind (r.take (a - (off + g.length + w.length))) := by
        have k1 : ∀ p : UInt8 → Bool, headN p r → headN p (r.take (a - (off + g.length + w.length))) := fun p hp => by
          have := headN_take (c := a - (off + g.length + w.length)) (m := []) hp (fun _ => headN_nil p) (fun _ => headN_nil p)
          rwa [List.append_nil] at this
        exact ⟨fun e => k1 _ (hst.1 e), fun e => k1 _ (hst.2 e)⟩
      have tk : (g ++ (w ++ r)).take (a - off) = g ++ (w ++ r.take (a - (off + g.length + w.length))) := by
        rw [show a - off = (g ++ w).length + (a - (off + g.length + w.length)) by rw [List.length_append]; omega, ← List.append_assoc, List.take_length_add_append, List.append_assoc]
      refine ⟨?_, by omega, by simp only [List.length_append]; omega, i4, ?_, ?_⟩
      · rw [List.append_assoc, List.append_assoc, lx_mk hg (tok_loc ht0 hw (stop_app hst w10)) hw, i1]; rfl
      · intro e82
        obtain ⟨j, hj, hj2⟩ := i5 e82
        exact ⟨j, by rw [tk, lx_mk hg (tok_loc ht0 hw hst2) hw, hj]; rfl, hj2⟩
      · intro e82
        obtain ⟨ts, hts⟩ := i6 e82
        exact ⟨_, by rw [tk, lx_mk hg (tok_loc ht0 hw hst2) hw, hts]; rfl⟩
    · rw [h2] at h
      injection h with ha he
      subst he
      have hb := tok_bad hne ht0 m
      have hpos : 0 < m0.length := by
        cases m0 with
        | nil => exact absurd rfl hne
        | cons x y => simp
      have tk : ∀ n, (g ++ m0).take (g.length + n) = g ++ m0.take n := fun n => List.take_length_add_append n
      have ha0 : a - off = g.length + a0 := by omega
      refine ⟨?_, by omega, ?_, ?_, ?_, ?_⟩
      · rw [List.append_assoc, lx_mkbad hg (sk_head hm hne) (by simp) hb.1, ha]
      · simp only [List.length_append]; rcases hb.2 with hb | hb <;> omega
      · rcases hb.2 with hb | hb <;> omega
      · intro e82
        rcases hb.2 with hb | ⟨_, k1, k2, k3⟩
        · omega
        · have hne2 : m0.take a0 ≠ [] := by
            intro hh; have := congrArg List.length hh; rw [List.length_take, List.length_nil] at this; omega
          have hsk : sk false (m0.take a0) = 0 := by
            cases m0 with
            | nil => exact absurd rfl hne
            | cons x y =>
              rw [show a0 = (a0 - 1) + 1 by omega, List.take_succ_cons]
              rw [sk] at hm ⊢
              split at hm
              · omega
              rename_i h1; rw [if_neg h1]
              split at hm
              · omega
              rename_i h2; rw [if_neg h2]
          exact ⟨off + g.length + 0, by rw [ha0, tk, lx_mkbad hg hsk hne2 k3], by omega⟩
      · intro e82
        rcases hb.2 with ⟨k1, _⟩ | hb
        · rw [ha0, k1, tk, List.take_zero, List.append_nil]
          exact ⟨_, lx_end (gs_all hg)⟩
        · omega
theorem hexv_hx : ∀ n, n < 16 → hexv (hx n) = some n := by decide
theorem u8_split : ∀ b : UInt8, (16 * (b.toNat / 16) + b.toNat % 16).toUInt8 = b := by
  intro b
  rw [Nat.div_add_mod]
  exact UInt8.ofNat_toNat
theorem qb_tx (b : UInt8) (off : Nat) (acc m : List UInt8) : tx off acc (qb b ++ m) = tx (off + (qb b).length) (acc ++ [b]) m := by
  unfold qb
  have c92 : (92 : UInt8).toNat = 92 := by decide
  have c120 : (120 : UInt8).toNat = 120 := by decide
  split
  · rename_i h
    rw [List.cons_append, List.cons_append, List.nil_append, tx, if_neg (by rw [c92]; omega), if_neg (by rw [c92]; omega), if_pos c92, esc, if_pos h]
    rfl
  rename_i h1
  split
  · rename_i h
    have hb : b = 10 := by apply UInt8.toNat_inj.1; exact h
    subst hb
    rw [List.cons_append, List.cons_append, List.nil_append, tx, if_neg (by rw [c92]; omega), if_neg (by rw [c92]; omega), if_pos c92, esc, if_neg (by decide), if_pos (by decide)]
    rfl
  rename_i h2
  split
  · rename_i h
    have hb : b = 9 := by apply UInt8.toNat_inj.1; exact h
    subst hb
    rw [List.cons_append, List.cons_append, List.nil_append, tx, if_neg (by rw [c92]; omega), if_neg (by rw [c92]; omega), if_pos c92, esc, if_neg (by decide), if_neg (by decide), if_pos (by decide)]
    rfl
  rename_i h3
  split
  · rename_i h
    rw [List.cons_append, List.nil_append, tx, if_neg h2, if_neg (by omega), if_neg (by omega)]
    rfl
  · rename_i h
    have hb := b.toNat_lt
    rw [List.cons_append, List.cons_append, List.cons_append, List.cons_append, List.nil_append, tx, if_neg (by rw [c92]; omega), if_neg (by rw [c92]; omega), if_pos c92, esc, if_neg (by rw [c120]; omega), if_neg (by rw [c120]; omega),
      if_neg (by rw [c120]; omega), if_pos c120, escx, hexv_hx _ (by omega), hexv_hx _ (by omega)]
    simp only
    rw [u8_split]
    rfl
theorem qs_tx (s : List UInt8) : ∀ (off : Nat) (acc m : List UInt8), tx off acc (qs s ++ m) = tx (off + (qs s).length) (acc ++ s) m := by
  induction s with
  | nil => intro off acc m; simp [qs]
  | cons b t ih =>
    intro off acc m
    rw [qs, List.append_assoc, qb_tx, ih, List.length_append, Nat.add_assoc, List.append_assoc]; rfl
theorem tok_quote (s : List UInt8) : tok (Quote s) = .ok ⟨3, s, 0, (Quote s).length⟩ := by
  unfold Quote
  rw [tok, if_neg (by decide), if_neg (by decide), if_pos (by decide), qs_tx, tx, if_neg (by decide), if_pos (by decide)]
  simp [Nat.add_assoc, Nat.add_comm]
theorem lx_quote (s : List UInt8) : lx 0 (Quote s) = .toks [⟨3, s, 0, 0, (Quote s).length⟩, ⟨0, [], 0, (Quote s).length, (Quote s).length⟩] :=
  lx_alone (tok_quote s) rfl
theorem qb_len (b : UInt8) : 1 ≤ (qb b).length ∧ (qb b).length ≤ 4 := by unfold qb; split; simp; split; simp; split; simp; split <;> simp
theorem qs_len (s : List UInt8) : s.length ≤ (qs s).length ∧ (qs s).length ≤ 4 * s.length := by
  induction s with
  | nil => simp [qs]
  | cons b t ih => have := qb_len b; rw [qs, List.length_append, List.length_cons]; omega
theorem hx_rng : ∀ n, n < 16 → 32 ≤ (hx n).toNat ∧ (hx n).toNat ≤ 126 := by decide
theorem qb_rng (b : UInt8) : ∀ x ∈ qb b, 32 ≤ x.toNat ∧ x.toNat ≤ 126 := by
  have hb := b.toNat_lt
  have c1 := hx_rng (b.toNat / 16) (by omega)
  have c2 := hx_rng (b.toNat % 16) (by omega)
  unfold qb
  split
  · intro x hx; simp at hx; rcases hx with rfl | rfl
    · decide
    · omega
  split
  · decide
  split
  · decide
  split
  · intro x hx; simp at hx; subst hx; omega
  · intro x hx; simp only [List.mem_cons, List.not_mem_nil, or_false] at hx
    rcases hx with rfl | rfl | rfl | rfl
    · decide
    · decide
    · exact c1
    · exact c2
theorem qs_rng (s : List UInt8) : ∀ x ∈ Quote s, 32 ≤ x.toNat ∧ x.toNat ≤ 126 := by
  have h : ∀ x ∈ qs s, 32 ≤ x.toNat ∧ x.toNat ≤ 126 := by
    induction s with
    | nil => intro x hx; simp [qs] at hx
    | cons b t ih =>
      intro x hx
      rw [qs, List.mem_append] at hx
      exact hx.elim (qb_rng b x) (ih x)
  intro x hx
  unfold Quote at hx
  simp only [List.mem_cons, List.mem_append, List.not_mem_nil, or_false] at hx
  rcases hx with rfl | hx | rfl
  · decide
  · exact h x hx
  · decide
theorem lx_name {s : List UInt8} (h : Name s = true) : lx 0 s = .toks [⟨1, s, 0, 0, s.length⟩, ⟨0, [], 0, s.length, s.length⟩] := by
  cases s with
  | nil => cases h
  | cons b t =>
    unfold Name at h
    simp only [Bool.and_eq_true, decide_eq_true_eq] at h
    obtain ⟨⟨h1, h2⟩, h3⟩ := h
    refine lx_alone (t := ⟨1, b :: t, 0, (b :: t).length⟩) ?_ rfl
    rw [tok, if_pos h2, if_neg (by omega), h3, List.take_length]
theorem name_lx {s : List UInt8} {t e : Tok} (h : lx 0 s = .toks [t, e]) (hk : t.kind = 1) (ha : t.at' = 0) (hf : t.fin = s.length) : Name s = true ∧ t.text = s ∧ s.length ≤ 64 := by
  rcases lx_cut 0 s with ⟨q, hq, e1⟩ | ⟨g, w, r, t0, rfl, hg, ht0, hw, e1⟩ | ⟨g, m0, a0, e0, rfl, hg, hm, hne, ht0, h2⟩
  · rw [e1] at h; cases h
  · have hl2 := tok_len ht0
    rw [e1] at h
    obtain ⟨l', h1, h3⟩ := push_toks h
    simp only [List.cons.injEq] at h3
    obtain ⟨rfl, rfl⟩ := h3
    simp only [Tk.at_, List.length_append] at hk ha hf
    obtain rfl : g = [] := List.length_eq_zero_iff.1 (by omega)
    obtain rfl : r = [] := List.length_eq_zero_iff.1 (by omega)
    rw [List.append_nil, List.nil_append] at *
    cases w with
    | nil => cases ht0
    | cons b t =>
      rw [tok] at ht0
      split at ht0
      · rename_i hL
        split at ht0
        · cases ht0
        · rename_i h64
          injection ht0 with ht0; subst ht0
          simp only at hw
          refine ⟨?_, ?_, by omega⟩
          · unfold Name; simp only [Bool.and_eq_true, decide_eq_true_eq]; exact ⟨⟨by omega, hL⟩, hw.symm⟩
          · simp only [Tk.at_]; rw [← hw, List.take_length]
      split at ht0
      · split at ht0
        · cases ht0
        · injection ht0 with ht0; subst ht0; simp at hk
      split at ht0
      · have := tx_kind ht0; omega
      split at ht0
      · injection ht0 with ht0; subst ht0; simp at hk
      · cases ht0
  · rw [h2] at h; cases h
end Go.Proofs.Ytedhkelochpdnaa.L
