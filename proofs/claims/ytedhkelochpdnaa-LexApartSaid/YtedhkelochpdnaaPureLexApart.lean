/- Tokens rise and stand apart; between them stand blanks and remarks alone; each by itself is that token. Stated over the printed functions. No condition but the law's own. -/
import Derived.Test.YtedhkelochpdnaaT2
import Derived.Test.YtedhkelochpdnaaX12
set_option linter.unusedVariables false
set_option linter.unusedSimpArgs false
namespace Go.Proofs.Ytedhkelochpdnaa.Pure
open Go.RowKit Go.Proofs.Ytedhkelochpdnaa Go.Proofs.Ytedhkelochpdnaa.X Go.Proofs.Ytedhkelochpdnaa.L Go.Proofs.Ytedhkelochpdnaa.T Go.Proofs.YtedhkelochpdnaaW.PrintWords Go.Proofs.YtedhkelochpdnaaW.PrintLast Go.Proofs.YtedhkelochpdnaaW.PrintMore

theorem gap_ev (s : ByteArray) (hs : s.size ≤ 4398046511104) : ∀ (d i : Nat) (r : Bool) (q : Bool), s.size - i ≤ d → i ≤ s.size → gs r (s.data.toList.drop i) = some q → Ev (fun k => stratumlaw08_gap.l0 k s r (i : Int)) true := by
  intro d
  induction d with
  | zero =>
    intro i r q hd hi h
    refine Ev.step (fun k => by simp only [stratumlaw08_gap.l0]; rfl) ?_
    simp only [if_neg (show ¬ (i : Int) < (s.size : Int) by omega)]; exact Ev.now _
  | succ d ih =>
    intro i r q hd hi h
    cases hl : s.data.toList.drop i with
    | nil =>
      have := drop_len hl hi
      simp only [List.length_nil] at this
      exact ih i r q (by omega) hi h
    | cons b t =>
      have hlt := drop_lt hl
      have hbt := bt_drop hl
      have hnx := drop_next hl
      rw [hl] at h
      have ihn := fun r' (h' : gs r' t = some q) => ih (i + 1) r' q (by omega) (by omega) (by rw [hnx]; exact h')
      refine Ev.step (fun k => by simp only [stratumlaw08_gap.l0]; rfl) ?_
      have hfacts : ((i : Int) < (s.size : Int)) ∧ (0 : Int) ≤ (i : Int) := ⟨by omega, by omega⟩
      have W : Aside0 (wrap64 ((i : Int) + 1) = ((i + 1 : Nat) : Int)) := ⟨w1 1 (by omega)⟩
      simp only [if_pos hfacts.1, if_pos hfacts.2, hbt, W.out]
      clear W
      cases r with
      | true =>
        rw [gs] at h
        simp only [if_true]
        have e : ((b.toNat : Int) != 10) = (b.toNat != 10) := by rw [Bool.eq_iff_iff, bne_iff_ne, bne_iff_ne]; omega
        rw [e]
        exact ihn _ h
      | false =>
        rw [gs] at h
        simp only [Bool.false_eq_true, if_false]
        split at h
        · rename_i hb
          have hb2 := of_decide_eq_true hb
          have e35 : ¬ (b.toNat : Int) = 35 := by omega
          have go := ihn false h
          simp only [if_neg e35]
          by_cases h1 : (b.toNat : Int) = 32
          · simp only [if_pos h1]; exact go
          by_cases h2 : (b.toNat : Int) = 9
          · simp only [if_neg h1, if_pos h2]; exact go
          by_cases h3 : (b.toNat : Int) = 10
          · simp only [if_neg h1, if_neg h2, if_pos h3]; exact go
          · simp only [if_neg h1, if_neg h2, if_neg h3, if_pos (show (b.toNat : Int) = 13 by omega)]; exact go
        · split at h
          · simp only [if_pos (show (b.toNat : Int) = 35 by omega)]; exact ihn true h
          · cases h
theorem rd_at (l : List S32) (n : Nat) (x : S32) (h : l[n]? = some x) : rd_T32 l (n : Int) = x := by
  unfold rd_T32; rw [Int.toNat_natCast, List.getD_eq_getElem?_getD, h]; rfl
theorem gap_cut (s : ByteArray) (hs : s.size ≤ 4398046511104) (a b : Nat) (q : Bool) (h : gs false ((s.data.toList.drop a).take (b - a)) = some q) : Ev (fun k => stratumlaw08_gap.f k (s.extract a b)) true := by
  have hz : (s.extract a b).size ≤ s.size := by rw [size_len, ext_list, size_len, List.length_take, List.length_drop]; omega
  have := gap_ev (s.extract a b) (by omega) _ 0 false q (Nat.le_refl _) (by omega) (by rw [List.drop_zero, ext_list]; exact h)
  exact Ev.congr (fun k => rfl) this
/-- The walk over the tokens, from number i on. -/
theorem apart_ev (s : ByteArray) (hs : s.size ≤ 1048576) (ts : List L.Tok) (hn : ts.length ≤ 1048577) : ∀ (rest : List L.Tok) (i e : Nat), ts.drop i = rest → rest ≠ [] → L.Good s.data.toList e rest → Ev (fun k => stratumlaw08_LexApart.l0 k s (ts.map toS) (e : Int) (i : Int)) true := by
  intro rest
  have hsz := size_len s
  induction rest with
  | nil => intro i e hr hne; exact absurd rfl hne
  | cons t rest ih =>
    intro i e hr hne hg
    have hil : i < ts.length := by
      have := congrArg List.length hr; rw [List.length_drop, List.length_cons] at this; omega
    have hat : (ts.map toS)[i]? = some (toS t) := by
      rw [List.getElem?_map]
      have : ts[i]? = some t := by
        have h2 := List.getElem?_drop (xs := ts) (i := i) (j := 0)
        rw [hr, Nat.add_zero] at h2; exact h2.symm
      rw [this]; rfl
    have hrd := rd_at _ _ _ hat
    have hlen := congrArg List.length hr
    rw [List.length_drop, List.length_cons] at hlen
    have hmap : ((ts.map toS).length : Int) = (ts.length : Int) := by rw [List.length_map]
    have W0 : Aside0 (wrap64 ((ts.length : Int) - 1) = (ts.length : Int) - 1) := ⟨w64s (by omega) (by omega)⟩
    have W1 : Aside0 (wrap64 ((i : Int) + 1) = ((i + 1 : Nat) : Int)) := ⟨w1 1 (by omega)⟩
    have hlast : Aside0 ((((i : Int) == (ts.length : Int) - 1)) = decide (rest = [])) := ⟨by
      rw [Bool.eq_iff_iff, beq_iff_eq, decide_eq_true_iff, ← List.length_eq_zero_iff]; omega⟩
    have k1 : (i : Int) < (ts.length : Int) := by omega
    have k2 : (0 : Int) ≤ (i : Int) := by omega
    refine Ev.step (fun k => by simp only [stratumlaw08_LexApart.l0]; rfl) ?_
    simp only [hmap, if_pos k1, if_pos k2, hrd, W0.out, hlast.out]
    cases hg with
    | last _ q he hgq =>
      have f1 : ¬ ((s.data.toList.length : Int)) < (e : Int) := by omega
      have f3 : ¬ ((s.data.toList.length : Int)) > (s.size : Int) := by omega
      have f4 : (0 : Int) ≤ (e : Int) := by omega
      have f5 : (e : Int) ≤ ((s.data.toList.length : Int)) := by omega
      have f6 : ((s.data.toList.length : Int)) ≤ (s.size : Int) := by omega
      simp only [toS, Int.toNat_natCast, if_neg f1, Int.lt_irrefl, if_false, if_neg f3, if_pos f4, if_pos f5, if_pos f6, decide_true]
      simp only [show ((((0 : Nat) : Int) == 0) != true) = false from rfl, Bool.false_eq_true, if_false]
      refine Ev.bind (gap_cut s (by omega) e s.data.toList.length q (by rw [List.take_of_length_le (by rw [List.length_drop]; omega)]; exact hgq)) ?_
      simp only [Bool.not_true]
      refine Ev.step (fun k => by simp only [stratumlaw08_LexApart.j1]; rfl) ?_
      simp only [Bool.false_eq_true, if_false, if_true, if_pos (show ((s.data.toList.length : Int)) = (s.size : Int) by omega), toList_ba]
      exact Ev.congr (fun k => rfl) (Ev.now true)
    | more _ _ _ q h1 h2 h3 hk hgq ho hm =>
      have hrne : rest ≠ [] := by intro h; rw [h] at hm; cases hm
      have f1 : ¬ (t.at' : Int) < (e : Int) := by omega
      have f2 : ¬ (t.fin : Int) < (t.at' : Int) := by omega
      have f3 : ¬ (t.fin : Int) > (s.size : Int) := by omega
      have f4 : (0 : Int) ≤ (e : Int) := by omega
      have f5 : (e : Int) ≤ (t.at' : Int) := by omega
      have f6 : (t.at' : Int) ≤ (s.size : Int) := by omega
      have fk : (((t.kind : Int) == 0) != false) = false := by
        rw [show ((t.kind : Int) == 0) = false by rw [beq_eq_false_iff_ne]; omega]; rfl
      simp only [toS, Int.toNat_natCast, if_neg f1, if_neg f2, if_neg f3, if_pos f4, if_pos f5, if_pos f6, decide_eq_false hrne, fk, Bool.false_eq_true, if_false]
      refine Ev.bind (gap_cut s (by omega) e t.at' q hgq) ?_
      simp only [Bool.not_true]
      refine Ev.step (fun k => by simp only [stratumlaw08_LexApart.j1]; rfl) ?_
      have next : Ev (fun k => stratumlaw08_LexApart.l0 k s (ts.map toS) (t.fin : Int) ((i + 1 : Nat) : Int)) true :=
        ih (i + 1) t.fin (by rw [← List.drop_drop, hr]; rfl) hrne hm
      simp only [Bool.false_eq_true, if_false, W1.out]
      by_cases h1000 : (i : Int) ≥ 1000
      · simp only [if_pos h1000]; exact next
      · have f7 : (0 : Int) ≤ (t.at' : Int) := by omega
        have f8 : (t.at' : Int) ≤ (t.fin : Int) := by omega
        have f9 : (t.fin : Int) ≤ (s.size : Int) := by omega
        simp only [if_neg h1000, if_pos f7, if_pos f8, if_pos f9, Int.toNat_natCast]
        have hev := lexes_ev (s.extract t.at' t.fin)
        rw [ext_list, Lex_small (by rw [List.length_take]; omega), ho] at hev
        have hev2 : Ev (fun k => lex_Lex.f k (s.extract t.at' t.fin)) ([(⟨(t.kind : Int), ba t.text, (t.num : Int), 0, ((t.fin - t.at' : Nat) : Int)⟩ : S32), (⟨0, ba [], 0, ((t.fin - t.at' : Nat) : Int), ((t.fin - t.at' : Nat) : Int)⟩ : S32)], (0 : Int), (0 : Int)) := hev
        refine Ev.bind hev2 ?_
        simp only [List.length_cons, List.length_nil, rd_T32, Int.toNat_zero, List.getD_cons_zero, if_true]
        refine Ev.congr (fun k => ?_) next
        rfl
theorem LexApart : stratumlaw08_LexApart.Pure := by
  intro a0 h0
  refine Ev.rounds ?_
  unfold stratumlaw08_LexApart.f
  refine Ev.bind lives_ev ?_
  simp only [if_true]
  have hev := lexes_ev a0
  have hsz := size_len a0
  cases hx : L.Lex a0.data.toList with
  | bad a e =>
    have he : e ≠ 0 ∧ (a < a0.size ∨ (a = 0 ∧ e = 2)) := by rcases Lex_bad hx with h | h <;> omega
    rw [hx] at hev
    have hev2 : Ev (fun k => lex_Lex.f k a0) (([] : List S32), (a : Int), (e : Int)) := hev
    refine Ev.bind hev2 ?_
    simp only [if_neg (show ¬ (e : Int) = 0 by omega), List.length_nil, if_pos (show (a : Int) ≥ 0 by omega), if_pos (show (a : Int) ≤ (a0.size : Int) by omega)]
    by_cases h : a < a0.size
    · simp only [if_pos (show (a : Int) < (a0.size : Int) by omega)]
      exact Ev.congr (fun k => rfl) (Ev.now true)
    · obtain ⟨_, rfl⟩ := he.2.resolve_left h
      simp only [if_neg (show ¬ (a : Int) < (a0.size : Int) by omega)]
      exact Ev.congr (fun k => rfl) (Ev.now true)
  | toks ts =>
    obtain ⟨h1, h2, h3⟩ := Lex_toks hx
    have hg := good _ [] _ ts (Nat.le_refl _) h2
    rw [List.nil_append] at hg
    have hne : ts ≠ [] := by intro h; rw [h] at hg; cases hg
    rw [hx] at hev
    have hev2 : Ev (fun k => lex_Lex.f k a0) (ts.map toS, (0 : Int), (0 : Int)) := hev
    refine Ev.bind hev2 ?_
    simp only [if_true]
    exact apart_ev a0 (by omega) ts (by omega) ts 0 0 rfl hne hg
end Go.Proofs.Ytedhkelochpdnaa.Pure
