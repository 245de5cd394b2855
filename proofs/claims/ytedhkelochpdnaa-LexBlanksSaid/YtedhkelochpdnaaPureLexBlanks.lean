/- Blanks and remarks put between tokens change nothing but places. Stated over the printed functions. No condition but the law's own. -/
import Derived.Test.YtedhkelochpdnaaT2
import Derived.Test.YtedhkelochpdnaaX13
set_option linter.unusedVariables false
set_option linter.unusedSimpArgs false
namespace Go.Proofs.Ytedhkelochpdnaa.Pure
open Go.RowKit Go.Proofs.Ytedhkelochpdnaa Go.Proofs.Ytedhkelochpdnaa.X Go.Proofs.Ytedhkelochpdnaa.L Go.Proofs.Ytedhkelochpdnaa.T Go.Proofs.YtedhkelochpdnaaW.PrintWords Go.Proofs.YtedhkelochpdnaaW.PrintLast Go.Proofs.YtedhkelochpdnaaW.PrintMore

theorem rd_at (l : List S32) (n : Nat) (x : S32) (h : l[n]? = some x) : rd_T32 l (n : Int) = x := by
  unfold rd_T32; rw [Int.toNat_natCast, List.getD_eq_getElem?_getD, h]; rfl
/-- What may be put between two tokens. -/
def blk (k : Int) : List UInt8 := if k = 1 then [10] else if k = 2 then [9, 13, 32] else if k = 3 then [35, 32, 123, 32, 34, 32, 92, 10] else if k = 4 then [35, 10, 35, 10] else [32]
theorem blk_eq (k : Int) : stratumlaw08_blanks.f k = some (ba (blk k)) := by
  unfold stratumlaw08_blanks.f blk
  simp only [Option.bind_some, List.length_cons, List.length_nil]
  by_cases h0 : k < 0
  · rw [if_pos h0, if_neg (by omega), if_neg (by omega), if_neg (by omega), if_neg (by omega)]; rfl
  rw [if_neg h0]
  by_cases h5 : k ≥ ((0 + 1 + 1 + 1 + 1 + 1 : Nat) : Int)
  · rw [if_pos h5, if_neg (by omega), if_neg (by omega), if_neg (by omega), if_neg (by omega)]; rfl
  rw [if_neg h5, if_pos (by omega), if_pos (by omega)]
  have : k = 0 ∨ k = 1 ∨ k = 2 ∨ k = 3 ∨ k = 4 := by omega
  rcases this with rfl | rfl | rfl | rfl | rfl <;> rfl
theorem blk_facts (k : Int) : gs false (blk k) = some false ∧ (∃ q, gs true (blk k) = some q) ∧ gs true (10 :: blk k) = some false ∧ headN isW (blk k) ∧ blk k ≠ [] ∧ (blk k).length ≤ 8 := by
  unfold blk
  repeat' split
  all_goals refine ⟨by decide, ⟨_, rfl⟩, by decide, headN_cons (by decide), by simp, by simp⟩
theorem two_eq {l l' : List L.Tok} (h : l.map stripT = l'.map stripT) {n : Nat} {t t' : L.Tok} (h1 : l[n]? = some t) (h2 : l'[n]? = some t') : stripT t = stripT t' := by
  have := congrArg (fun m => m[n]?) h
  simp only [List.getElem?_map, h1, h2, Option.map_some, Option.some.injEq] at this
  exact this
theorem cmp_ev (l m : List L.Tok) (hl : m.map stripT = l.map stripT) (hn : m.length ≤ 1048577) (hb : ∀ t ∈ m, t.at' ≤ t.fin ∧ t.fin ≤ 1048576) (hb2 : ∀ t ∈ l, t.at' ≤ t.fin ∧ t.fin ≤ 1048576) : ∀ (d i : Nat), m.length - i ≤ d → i ≤ m.length → Ev (fun k => stratumlaw08_LexBlanks.l0 k (l.map toS) (m.map toS) (i : Int)) true := by
  have hlen : m.length = l.length := by have := congrArg List.length hl; simpa using this
  intro d
  induction d with
  | zero =>
    intro i hd hi
    refine Ev.step (fun k => by simp only [stratumlaw08_LexBlanks.l0]; rfl) ?_
    simp only [List.length_map, if_neg (show ¬ (i : Int) < (m.length : Int) by omega)]; exact Ev.now _
  | succ d ih =>
    intro i hd hi
    by_cases hlt : i < m.length
    · have h1 : m[i]? = some m[i] := List.getElem?_eq_getElem hlt
      have h2 : l[i]? = some (l[i]'(by omega)) := List.getElem?_eq_getElem (by omega)
      have hs := two_eq hl h1 h2
      have m1 := hb _ (List.getElem_mem hlt)
      have m2 := hb2 _ (List.getElem_mem (show i < l.length by omega))
      obtain ⟨t, ht⟩ : ∃ t, t = m[i] := ⟨_, rfl⟩
      obtain ⟨u, hu⟩ : ∃ u, u = l[i]'(by omega) := ⟨_, rfl⟩
      rw [← ht] at h1 hs m1
      rw [← hu] at h2 hs m2
      unfold stripT at hs
      simp only [Prod.mk.injEq] at hs
      obtain ⟨e1, e2, e3, e4⟩ := hs
      have r1 := rd_at (m.map toS) i (toS t) (by rw [List.getElem?_map, h1]; rfl)
      have r2 := rd_at (l.map toS) i (toS u) (by rw [List.getElem?_map, h2]; rfl)
      have ihn := ih (i + 1) (by omega) (by omega)
      have k1 : (i : Int) < (m.length : Int) := by omega
      have k2 : (0 : Int) ≤ (i : Int) := by omega
      have k3 : (i : Int) < (l.length : Int) := by omega
      have e5 : (t.fin : Int) - (t.at' : Int) = (u.fin : Int) - (u.at' : Int) := by omega
      have W : Aside0 (wrap64 ((i : Int) + 1) = ((i + 1 : Nat) : Int)) := ⟨w1 1 (by omega)⟩
      refine Ev.step (fun k => by simp only [stratumlaw08_LexBlanks.l0]; rfl) ?_
      simp only [List.length_map, if_pos k1, if_pos k2, if_pos k3, r1, r2, toS, e1, e2, e3, e5, if_true, W.out]
      exact ihn
    · exact ih i (by omega) hi
theorem LexBlanks : stratumlaw08_LexBlanks.Pure := by
  intro a0 a1 a2 h0 _ _
  refine Ev.rounds ?_
  have hsz := size_len a0
  obtain ⟨f1, f2, f3, f4, f5, f6⟩ := blk_facts a2
  have hbs := ba_size (blk a2)
  have W : Aside0 (wrap64 ((a0.size : Int) + (wrap64 (3 * ((ba (blk a2)).size : Int)))) = ((a0.size + 3 * (blk a2).length : Nat) : Int)) := ⟨by rw [w64s (x := 3 * ((ba (blk a2)).size : Int)) (by omega) (by omega), w64s (by omega) (by omega)]; omega⟩
  have e0 : ∀ k, stratumlaw08_LexBlanks.f k a0 a1 a2 = (stratumlaw08_lives.f k).bind fun t355 => (if t355 = true then ((lex_Lex.f k a0).bind fun bt356 => (if bt356.2.2 = 0 then (if ((a0.size + 3 * (blk a2).length : Nat) : Int) > 1048576 then (stratumlaw08_LexBlanks.j0 k a0 a1 bt356.1 (ba (blk a2)) true) else (stratumlaw08_LexBlanks.j0 k a0 a1 bt356.1 (ba (blk a2)) ((bt356.1.length : Int) == 0))) else (stratumlaw08_LexBlanks.j0 k a0 a1 bt356.1 (ba (blk a2)) true))) else (some false)) := by
    intro k
    unfold stratumlaw08_LexBlanks.f
    rw [blk_eq]
    simp only [Option.bind_some, W.out]
  refine Ev.congr e0 ?_
  clear e0 W
  refine Ev.bind lives_ev ?_
  simp only [if_true]
  have hev := lexes_ev a0
  have jT : ∀ l : List S32, Ev (fun k => stratumlaw08_LexBlanks.j0 k a0 a1 l (ba (blk a2)) true) true := by
    intro l
    refine Ev.step (fun k => by simp only [stratumlaw08_LexBlanks.j0]; rfl) ?_
    simp only [if_true]; exact Ev.now _
  cases hx : L.Lex a0.data.toList with
  | bad a e =>
    have he : e ≠ 0 := by rcases Lex_bad hx with h | h <;> omega
    rw [hx] at hev
    have hev2 : Ev (fun k => lex_Lex.f k a0) (([] : List S32), (a : Int), (e : Int)) := hev
    refine Ev.bind hev2 ?_
    simp only [if_neg (show ¬ (e : Int) = 0 by omega)]
    exact jT _
  | toks l =>
    obtain ⟨g1, g2, g3⟩ := Lex_toks hx
    rw [hx] at hev
    have hev2 : Ev (fun k => lex_Lex.f k a0) (l.map toS, (0 : Int), (0 : Int)) := hev
    refine Ev.bind hev2 ?_
    simp only [if_true]
    by_cases c0 : ((a0.size + 3 * (blk a2).length : Nat) : Int) > 1048576
    · simp only [if_pos c0]; exact jT _
    have hgd := good _ [] _ l (Nat.le_refl _) g2
    rw [List.nil_append] at hgd
    have hne : l ≠ [] := by intro h; rw [h] at hgd; cases hgd
    have hlp : l.length ≠ 0 := fun h => hne (List.length_eq_zero_iff.1 h)
    simp only [if_neg c0, List.length_map, show ((l.length : Int) == 0) = false by rw [beq_eq_false_iff_ne]; omega]
    refine Ev.step (fun k => by simp only [stratumlaw08_LexBlanks.j0]; rfl) ?_
    simp only [Bool.false_eq_true, if_false]
    -- places of all tokens
    have places : ∀ {s : List UInt8} {e : Nat} {ts : List L.Tok}, L.Good s e ts → ∀ t ∈ ts, t.at' ≤ t.fin ∧ t.fin ≤ s.length := by
      intro s e ts h
      induction h with
      | last e q he hg => intro t ht; simp at ht; subst ht; exact ⟨Nat.le_refl _, Nat.le_refl _⟩
      | more e t ts q h1 h2 h3 hk hg ho hm ih =>
        intro t' ht'
        rcases List.mem_cons.1 ht' with rfl | ht'
        · exact ⟨by omega, h3⟩
        · exact ih t' ht'
    have ends : ∀ {s : List UInt8} {e : Nat} {ts : List L.Tok}, L.Good s e ts → ∀ t ∈ ts, t.kind = 0 → t.fin = s.length := by
      intro s e ts h
      induction h with
      | last e q he hg => intro t ht _; simp at ht; subst ht; rfl
      | more e t ts q h1 h2 h3 hk hg ho hm ih =>
        intro t' ht' h0
        rcases List.mem_cons.1 ht' with rfl | ht'
        · omega
        · exact ih t' ht' h0
    have lim : a0.size + 3 * (blk a2).length ≤ 1048576 := by omega
    -- the tail: from the cut on
    have tail : ∀ cut : Nat, cut ≤ a0.size → st (lx 0 (a0.data.toList.take cut ++ (blk a2 ++ a0.data.toList.drop cut))) = st (lx 0 a0.data.toList) →
        Ev (fun k => stratumlaw08_LexBlanks.j2 k a0 (l.map toS) (ba (blk a2)) (cut : Int)) true := by
      intro cut hcut hst
      refine Ev.step (fun k => by simp only [stratumlaw08_LexBlanks.j2]; rfl) ?_
      have hx1 := ba_ext a0 0 cut
      rw [List.drop_zero, Nat.sub_zero] at hx1
      have hx2 := ba_ext a0 cut a0.size
      rw [List.take_of_length_le (by rw [List.length_drop, ← hsz]; exact Nat.le_refl _)] at hx2
      have cat : ∀ x y : List UInt8, ba x ++ ba y = ba (x ++ y) := fun x y => ba_eq (by rw [ByteArray.data_append, Array.toList_append]; rfl)
      simp only [if_pos (show (0 : Int) ≤ (cut : Int) by omega), if_pos (show (cut : Int) ≤ (a0.size : Int) by omega), Int.toNat_natCast, hx1, hx2, cat, show (⟨#[10]⟩ : ByteArray) = ba [10] from rfl, ba_size, List.length_append, List.length_take, List.length_drop, ← hsz, List.length_cons, List.length_nil]
      have hm : min cut a0.size = cut := by omega
      simp only [hm, if_pos (show (blk a2).length + cut ≤ 9223372036854775807 by omega), if_pos (show (blk a2).length + cut + (blk a2).length ≤ 9223372036854775807 by omega), if_pos (show (blk a2).length + cut + (blk a2).length + (a0.size - cut) ≤ 9223372036854775807 by omega),
        if_pos (show (blk a2).length + cut + (blk a2).length + (a0.size - cut) + 1 ≤ 9223372036854775807 by omega), if_pos (show (blk a2).length + cut + (blk a2).length + (a0.size - cut) + (0 + 1) + (blk a2).length ≤ 9223372036854775807 by omega)]
      obtain ⟨M, hM⟩ : ∃ M, M = blk a2 ++ a0.data.toList.take cut ++ blk a2 ++ a0.data.toList.drop cut ++ [10] ++ blk a2 := ⟨_, rfl⟩
      have hMl : M.length = (blk a2).length + cut + (blk a2).length + (a0.size - cut) + (0 + 1) + (blk a2).length := by
        rw [hM]; simp only [List.length_append, List.length_take, List.length_drop, ← hsz, List.length_cons, List.length_nil, hm]
      have hMe : M = blk a2 ++ ((a0.data.toList.take cut ++ (blk a2 ++ a0.data.toList.drop cut)) ++ (10 :: blk a2)) := by
        rw [hM]; simp only [List.append_assoc, List.cons_append, List.nil_append]
      have hstM : st (lx 0 M) = some (l.map stripT) := by
        rw [hMe, st_gap f1 0 0]
        refine st_more (z := 10 :: blk a2) (fun r => ?_) (headN_cons (by decide)) _ 0 _ _ (Nat.le_refl _) (by rw [hst, g2]; rfl)
        cases r
        · exact ⟨false, by rw [gs, if_pos (by decide)]; exact f1⟩
        · exact ⟨false, f3⟩
      rw [← hM]
      rw [← hMl]
      have hevM := lexes_ev (ba M)
      rw [ba_list] at hevM
      by_cases hbig : (M.length : Int) > 1048576
      · have : L.Lex M = .bad 0 2 := by unfold L.Lex; rw [if_pos (by omega)]
        rw [this] at hevM
        have hevM2 : Ev (fun k => lex_Lex.f k (ba M)) (([] : List S32), (0 : Int), (2 : Int)) := hevM
        refine Ev.bind hevM2 ?_
        simp only [if_pos hbig, beq_self_eq_true]
        exact Ev.now _
      · rw [Lex_small (by omega)] at hevM
        cases hlm : lx 0 M with
        | bad a e => rw [hlm] at hstM; cases hstM
        | toks m =>
          rw [hlm] at hstM hevM
          have hmm : m.map stripT = l.map stripT := by simpa [st] using hstM
          have hml : m.length = l.length := by have := congrArg List.length hmm; simpa using this
          have hevM2 : Ev (fun k => lex_Lex.f k (ba M)) (m.map toS, (0 : Int), (0 : Int)) := hevM
          refine Ev.bind hevM2 ?_
          simp only [if_neg hbig, if_true, List.length_map, hml, bne_self_eq_false]
          refine Ev.step (fun k => by simp only [stratumlaw08_LexBlanks.j3]; rfl) ?_
          simp only [Bool.false_eq_true, if_false]
          have hgm := good _ [] _ m (Nat.le_refl _) hlm
          rw [List.nil_append] at hgm
          exact cmp_ev l m hmm (by omega) (fun t ht => ⟨(places hgm t ht).1, by have := (places hgm t ht).2; omega⟩) (fun t ht => ⟨(places hgd t ht).1, by have := (places hgd t ht).2; omega⟩) _ 0 (Nat.le_refl _) (by omega)
    have j1F : Ev (fun k => stratumlaw08_LexBlanks.j1 k a0 a1 (l.map toS) (ba (blk a2)) 0 false) true := by
      refine Ev.step (fun k => by simp only [stratumlaw08_LexBlanks.j1]; rfl) ?_
      simp only [Bool.false_eq_true, if_false]
      exact tail 0 (by omega) (by rw [List.take_zero, List.nil_append, List.drop_zero]; exact st_gap f1 0 0)
    by_cases c1 : a1 ≥ 0
    · simp only [if_pos c1]
      by_cases c2 : a1 < (l.length : Int)
      · obtain ⟨n, rfl⟩ := Int.eq_ofNat_of_zero_le c1
        have hn : n < l.length := by omega
        rw [List.length_map, decide_eq_true c2]
        refine Ev.step (fun k => by simp only [stratumlaw08_LexBlanks.j1]; rfl) ?_
        obtain ⟨t, ht⟩ : ∃ t, l[n]? = some t := ⟨_, List.getElem?_eq_getElem hn⟩
        have hr := rd_at (l.map toS) n (toS t) (by rw [List.getElem?_map, ht]; rfl)
        simp only [if_true, if_pos c1, List.length_map, if_pos c2, hr, toS]
        have hmem := List.mem_of_getElem? ht
        have hp := places hgd t hmem
        refine tail t.fin (by omega) ?_
        by_cases hk : t.kind = 0
        · have hend := ends hgd t hmem hk
          rw [hend, List.take_length, List.drop_length, List.append_nil]
          rw [g2]
          refine st_more (z := blk a2) (fun r => ?_) f4 _ 0 _ _ (Nat.le_refl _) (by rw [g2]; rfl)
          cases r
          · exact ⟨false, f1⟩
          · exact f2
        · have := st_mid f1 f4 f5 n 0 a0.data.toList l t g2 ht hk
          rwa [Nat.sub_zero] at this
      · rw [List.length_map, decide_eq_false c2]; exact j1F
    · simp only [if_neg c1]; exact j1F
end Go.Proofs.Ytedhkelochpdnaa.Pure
