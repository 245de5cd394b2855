/- The reference's Name and Quote answer what the plain ones say. No condition but the sizes. -/
import Derived.Test.YtedhkelochpdnaaX10
import Derived.Test.YtedhkelochpdnaaX9
import Derived.Test.YtedhkelochpdnaaT2
set_option linter.unusedVariables false
set_option linter.unusedSimpArgs false
namespace Go.Proofs.Ytedhkelochpdnaa.T
open Go.RowKit Go.Proofs.Ytedhkelochpdnaa Go.Proofs.Ytedhkelochpdnaa.X Go.Proofs.Ytedhkelochpdnaa.L Go.Proofs.YtedhkelochpdnaaW.PrintWords Go.Proofs.YtedhkelochpdnaaW.PrintLast Go.Proofs.YtedhkelochpdnaaW.PrintMore

theorem qisD_eq (b : UInt8) : stratumref08_digit.f (b.toNat : Int) = some (isD b) := isD_eq b
theorem qisL_eq (b : UInt8) : stratumref08_letter.f (b.toNat : Int) = some (isL b) := by
  unfold stratumref08_letter.f isL G.letr
  have e : ∀ x : Bool, (x = true ↔ ((97 ≤ (b.toNat : Int) ∧ (b.toNat : Int) ≤ 122) ∨ (65 ≤ (b.toNat : Int) ∧ (b.toNat : Int) ≤ 90) ∨ (b.toNat : Int) = 95)) → some x = some (decide ((97 ≤ (b.toNat : Int) ∧ (b.toNat : Int) ≤ 122) ∨ (65 ≤ (b.toNat : Int) ∧ (b.toNat : Int) ≤ 90) ∨ (b.toNat : Int) = 95)) := fun x h => by rw [Option.some.injEq, Bool.eq_iff_iff, decide_eq_true_iff]; exact h
  repeat' split
  all_goals refine e _ ?_
  all_goals first | (simp only [true_iff]; omega) | (simp only [Bool.false_eq_true, false_iff]; omega) | (rw [decide_eq_true_iff]; omega)
theorem rname_ev (s : ByteArray) : Ev (fun k => stratumref08_Name.f k s) (L.Name s.data.toList) := by
  have jT : Ev (fun k => stratumref08_Name.j0 k s true) false := Ev.step (fun k => by simp only [stratumref08_Name.j0, if_true]) (Ev.now _)
  unfold stratumref08_Name.f
  cases hl : s.data.toList with
  | nil =>
    have : s.size = 0 := by rw [size_len, hl]; rfl
    simp only [if_pos (show (s.size : Int) < 1 by omega)]; exact jT
  | cons b t =>
    have hsz : s.size = t.length + 1 := by rw [size_len, hl]; rfl
    simp only [if_neg (show ¬ (s.size : Int) < 1 by omega)]
    by_cases h1 : s.size ≤ 64
    · have hd : s.data.toList.drop 0 = b :: t := hl
      have hbt := bt_drop hd
      have hbt0 : bt s 0 = (b.toNat : Int) := hbt
      simp only [if_neg (show ¬ (s.size : Int) > 64 by omega), if_pos (show (0 : Int) < (s.size : Int) by omega), hbt0, qisL_eq, Option.bind_some]
      by_cases h2 : isL b = true
      · rw [h2]
        refine Ev.step (fun k => by simp only [stratumref08_Name.j0]; rfl) ?_
        simp only [Bool.not_true, Bool.false_eq_true, if_false]
        have key : ∀ (d i : Nat), s.size - i ≤ d → i ≤ s.size → Ev (fun k => stratumref08_Name.l0 k s (i : Int)) (decide (lead isW (s.data.toList.drop i) = (s.data.toList.drop i).length)) := by
          intro d
          induction d with
          | zero =>
            intro i hd hi
            have e : s.data.toList.drop i = [] := List.drop_of_length_le (by rw [← size_len]; omega)
            refine Ev.step (fun k => by simp only [stratumref08_Name.l0]; rfl) ?_
            rw [e]
            simp only [if_neg (show ¬ (i : Int) < (s.size : Int) by omega), lead, List.length_nil, decide_true]
            exact Ev.now _
          | succ d ih =>
            intro i hd hi
            cases hl2 : s.data.toList.drop i with
            | nil =>
              have := drop_len hl2 hi
              simp only [List.length_nil] at this
              have := ih i (by omega) hi
              rw [hl2] at this; exact this
            | cons c t2 =>
              have hlt := drop_lt hl2
              have hbt2 := bt_drop hl2
              have hnx := drop_next hl2
              have ihn := ih (i + 1) (by omega) (by omega)
              rw [hnx] at ihn
              have W : Aside0 (wrap64 ((i : Int) + 1) = ((i + 1 : Nat) : Int)) := ⟨w1 1 (by omega)⟩
              refine Ev.step (fun k => by simp only [stratumref08_Name.l0]; rfl) ?_
              simp only [if_pos (show (i : Int) < (s.size : Int) by omega), if_pos (show (0 : Int) ≤ (i : Int) by omega), hbt2, qisL_eq, qisD_eq, Option.bind_some, W.out]
              rw [lead]
              by_cases h : isW c = true
              · rw [if_pos h, show decide (lead isW t2 + 1 = (c :: t2).length) = decide (lead isW t2 = t2.length) by rw [List.length_cons, Bool.eq_iff_iff, decide_eq_true_iff, decide_eq_true_iff]; omega]
                by_cases h3 : isL c = true
                · simp only [if_pos h3]; exact ihn
                · have h4 : isD c = true := by unfold isW at h; rw [Bool.or_eq_true] at h; exact h.resolve_left h3
                  simp only [if_neg h3, if_pos h4]; exact ihn
              · have hb : ¬ isL c = true ∧ ¬ isD c = true := by unfold isW at h; rw [Bool.or_eq_true, not_or] at h; exact h
                rw [if_neg h, decide_eq_false (by rw [List.length_cons]; omega)]
                simp only [if_neg hb.1, if_neg hb.2]
                exact Ev.now _
        have := key s.size 0 (by omega) (by omega)
        rw [hd] at this
        rw [Name_cons, h2, Bool.and_true, decide_eq_true (show (b :: t).length ≤ 64 by rw [List.length_cons]; omega), Bool.true_and]
        exact this
      · have h3 : isL b = false := by simpa using h2
        rw [h3]
        rw [Name_cons, h3, Bool.and_false, Bool.false_and]; exact jT
    · simp only [if_pos (show (s.size : Int) > 64 by omega)]
      rw [Name_cons, decide_eq_false (show ¬ (b :: t).length ≤ 64 by rw [List.length_cons]; omega)]; exact jT
theorem rquote_ev (s : ByteArray) (hs : s.size ≤ 4398046511104) : Ev (fun k => stratumref08_Quote.f k s) (ba (L.Quote s.data.toList)) := by
  have key : ∀ (d i : Nat) (acc : List UInt8), s.size - i ≤ d → i ≤ s.size → acc.length ≤ 4 * i + 1 → Ev (fun k => stratumref08_Quote.l0 k s digs (nums acc) (i : Int)) (ba (acc ++ (qs (s.data.toList.drop i) ++ [34]))) := by
    intro d
    induction d with
    | zero =>
      intro i acc hd hi ha
      have e : s.data.toList.drop i = [] := List.drop_of_length_le (by rw [← size_len]; omega)
      refine Ev.step (fun k => by simp only [stratumref08_Quote.l0]; rfl) ?_
      rw [e]
      simp only [if_neg (show ¬ (i : Int) < (s.size : Int) by omega), if_pos (show (nums acc).length < 140737488355328 by rw [nums_len]; omega), qs, List.nil_append]
      rw [show nums acc ++ [34] = nums (acc ++ [34]) from nums_snoc acc 34, strOf]
      exact Ev.now _
    | succ d ih =>
      intro i acc hd hi ha
      cases hl : s.data.toList.drop i with
      | nil =>
        have := drop_len hl hi
        simp only [List.length_nil] at this
        have := ih i acc (by omega) hi ha
        rw [hl] at this; exact this
      | cons b t =>
        have hlt := drop_lt hl
        have hbt := bt_drop hl
        have hnx := drop_next hl
        have W : Aside0 (wrap64 ((i : Int) + 1) = ((i + 1 : Nat) : Int)) := ⟨w1 1 (by omega)⟩
        have hq := qb_len b
        have ihn := ih (i + 1) (acc ++ qb b) (by omega) (by omega) (by rw [List.length_append]; omega)
        rw [hnx] at ihn
        have hlen : (nums acc).length < 140737488355000 := by rw [nums_len]; omega
        have hb := b.toNat_lt
        have goal : acc ++ (qs (b :: t) ++ [34]) = acc ++ qb b ++ (qs t ++ [34]) := by rw [qs]; simp only [List.append_assoc]
        rw [goal]
        have fin : ∀ (e : List UInt8), qb b = e → Ev (fun k => stratumref08_Quote.l0 k s digs (nums acc ++ nums e) ((i + 1 : Nat) : Int)) (ba (acc ++ qb b ++ (qs t ++ [34]))) := by
          intro e he; rw [← he, nums_app]; exact ihn
        have hj : ∀ x : Bool, (x = true ↔ (b.toNat = 92 ∨ b.toNat = 34)) → Ev (fun k => stratumref08_Quote.j1 k s digs (nums acc) (i : Int) (b.toNat : Int) x) (ba (acc ++ qb b ++ (qs t ++ [34]))) := by
          intro x hxx
          refine Ev.step (fun k => by simp only [stratumref08_Quote.j1]; rfl) ?_
          simp only [Option.bind_some, List.length_cons, List.length_nil, W.out]
          by_cases h1 : b.toNat = 92 ∨ b.toNat = 34
          · simp only [hxx.2 h1, if_true, if_pos (show (nums acc).length + (0 + 1 + 1) < 140737488355328 by omega)]
            exact fin [92, b] (by unfold qb; rw [if_pos h1])
          have hxf : ¬ x = true := fun h => h1 (hxx.1 h)
          simp only [if_neg hxf]
          by_cases h2 : b.toNat = 10
          · simp only [if_pos (show (b.toNat : Int) = 10 by omega), if_pos (show (nums acc).length + (0 + 1 + 1) < 140737488355328 by omega)]
            exact fin [92, 110] (by unfold qb; rw [if_neg h1, if_pos h2])
          simp only [if_neg (show ¬ (b.toNat : Int) = 10 by omega)]
          by_cases h3 : b.toNat = 9
          · simp only [if_pos (show (b.toNat : Int) = 9 by omega), if_pos (show (nums acc).length + (0 + 1 + 1) < 140737488355328 by omega)]
            exact fin [92, 116] (by unfold qb; rw [if_neg h1, if_neg h2, if_pos h3])
          simp only [if_neg (show ¬ (b.toNat : Int) = 9 by omega)]
          by_cases h4 : 32 ≤ b.toNat ∧ b.toNat ≤ 126
          · simp only [if_pos (show (b.toNat : Int) ≥ 32 by omega), if_pos (show (b.toNat : Int) ≤ 126 by omega), if_pos (show (nums acc).length < 140737488355328 by omega)]
            exact fin [b] (by unfold qb; rw [if_neg h1, if_neg h2, if_neg h3, if_pos h4])
          have d16 : Int.tdiv (b.toNat : Int) 16 % 256 = ((b.toNat / 16 : Nat) : Int) := by rw [Int.tdiv_eq_ediv_of_nonneg (by omega)]; omega
          have m16 : Int.tmod (b.toNat : Int) 16 = ((b.toNat % 16 : Nat) : Int) := by rw [Int.tmod_eq_emod_of_nonneg (by omega)]; omega
          have dsz : (digs.size : Int) = 16 := rfl
          have dg1 : bt digs ((b.toNat / 16 : Nat) : Int) = ((L.hx (b.toNat / 16)).toNat : Int) := digs_hx _ (by omega)
          have dg2 : bt digs ((b.toNat % 16 : Nat) : Int) = ((L.hx (b.toNat % 16)).toNat : Int) := digs_hx _ (by omega)
          have last := fin [92, 120, L.hx (b.toNat / 16), L.hx (b.toNat % 16)] (by unfold qb; rw [if_neg h1, if_neg h2, if_neg h3, if_neg h4])
          by_cases h5 : (b.toNat : Int) ≥ 32
          · simp only [if_pos h5, if_neg (show ¬ (b.toNat : Int) ≤ 126 by omega), d16, m16, dsz, dg1, dg2, if_pos (show (0 : Int) ≤ ((b.toNat / 16 : Nat) : Int) by omega), if_pos (show ((b.toNat / 16 : Nat) : Int) < 16 by omega), if_pos (show (0 : Int) ≤ ((b.toNat % 16 : Nat) : Int) by omega), if_pos (show ((b.toNat % 16 : Nat) : Int) < 16 by omega), if_pos (show (nums acc).length + (0 + 1 + 1 + 1 + 1) < 140737488355328 by omega)]
            exact last
          · simp only [if_neg h5, d16, m16, dsz, dg1, dg2, if_pos (show (0 : Int) ≤ ((b.toNat / 16 : Nat) : Int) by omega), if_pos (show ((b.toNat / 16 : Nat) : Int) < 16 by omega), if_pos (show (0 : Int) ≤ ((b.toNat % 16 : Nat) : Int) by omega), if_pos (show ((b.toNat % 16 : Nat) : Int) < 16 by omega), if_pos (show (nums acc).length + (0 + 1 + 1 + 1 + 1) < 140737488355328 by omega)]
            exact last
        refine Ev.step (fun k => by simp only [stratumref08_Quote.l0]; rfl) ?_
        simp only [if_pos (show (i : Int) < (s.size : Int) by omega), if_pos (show (0 : Int) ≤ (i : Int) by omega), hbt]
        by_cases h0 : b.toNat = 92
        · simp only [if_pos (show (b.toNat : Int) = 92 by omega)]
          exact hj true (by simp [h0])
        · simp only [if_neg (show ¬ (b.toNat : Int) = 92 by omega)]
          exact hj _ (by rw [beq_iff_eq]; omega)
  have := key s.size 0 [34] (by omega) (by omega) (by simp)
  rw [List.drop_zero] at this
  exact Ev.congr (fun k => rfl) this
end Go.Proofs.Ytedhkelochpdnaa.T
