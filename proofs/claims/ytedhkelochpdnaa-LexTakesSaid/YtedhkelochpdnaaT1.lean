/- The reference's functions of layer 8 answer what the plain ones say. No condition but the sizes. -/
import Derived.Test.YtedhkelochpdnaaX8
import Derived.Test.YtedhkelochpdnaaT0
set_option linter.unusedVariables false
set_option linter.unusedSimpArgs false
namespace Go.Proofs.Ytedhkelochpdnaa.T
open Go.RowKit Go.Proofs.Ytedhkelochpdnaa Go.Proofs.Ytedhkelochpdnaa.X Go.Proofs.Ytedhkelochpdnaa.L Go.Proofs.YtedhkelochpdnaaW.PrintWords Go.Proofs.YtedhkelochpdnaaW.PrintLast Go.Proofs.YtedhkelochpdnaaW.PrintMore

theorem rblank_eq (b : UInt8) : stratumref08_Blank.f (b.toNat : Int) = some (L.blank b) := by
  unfold stratumref08_Blank.f L.blank
  by_cases h1 : b.toNat = 32
  · rw [if_pos (by omega), h1]; rfl
  by_cases h2 : b.toNat = 9
  · rw [if_neg (by omega), if_pos (by omega), h2]; rfl
  by_cases h3 : b.toNat = 10
  · rw [if_neg (by omega), if_neg (by omega), if_pos (by omega), h3]; rfl
  rw [if_neg (by omega), if_neg (by omega), if_neg (by omega)]
  congr 1
  rw [Bool.eq_iff_iff, beq_iff_eq, decide_eq_true_iff]; omega
theorem rskip_ev (s : ByteArray) (hs : s.size ≤ 70368744177664) : ∀ (d i : Nat), s.size - i ≤ d → i ≤ s.size → Ev (fun k => stratumref08_skip.l0 k s (i : Int)) ((i + sk false (s.data.toList.drop i) : Nat) : Int) ∧ Ev (fun k => stratumref08_skip.l1 k s (i : Int)) ((i + sk true (s.data.toList.drop i) : Nat) : Int) := by
  intro d
  induction d with
  | zero =>
    intro i hd hi
    obtain rfl : i = s.size := by omega
    have e : s.data.toList.drop s.size = [] := List.drop_of_length_le (by rw [← size_len]; omega)
    have h0 : Ev (fun k => stratumref08_skip.l0 k s (s.size : Int)) ((s.size + sk false (s.data.toList.drop s.size) : Nat) : Int) := by
      refine Ev.step (fun k => by simp only [stratumref08_skip.l0]; rfl) ?_
      simp only [Int.lt_irrefl, if_false, e, sk, Nat.add_zero]
      exact Ev.now _
    refine ⟨h0, Ev.step (fun k => by simp only [stratumref08_skip.l1]; rfl) ?_⟩
    simp only [Int.lt_irrefl, if_false]
    rw [e] at h0 ⊢
    exact h0
  | succ d ih =>
    intro i hd hi
    cases hl : s.data.toList.drop i with
    | nil =>
      have := drop_len hl hi
      simp only [List.length_nil] at this
      have := ih i (by omega) hi
      rw [hl] at this; exact this
    | cons b t =>
      have hlt := drop_lt hl
      have hbt := bt_drop hl
      have hnx := drop_next hl
      have ihn := ih (i + 1) (by omega) (by omega)
      rw [hnx] at ihn
      have W : wrap64 ((i : Int) + 1) = ((i + 1 : Nat) : Int) := w1 1 (by omega)
      have c1 : (i : Int) < (s.size : Int) := by omega
      have c2 : (0 : Int) ≤ (i : Int) := by omega
      have hR : b.toNat ≠ 10 → Ev (fun k => stratumref08_skip.l1 k s (i : Int)) ((i + (sk true t + 1) : Nat) : Int) := by
        intro h
        refine Ev.step (fun k => by simp only [stratumref08_skip.l1]; rfl) ?_
        simp only [if_pos c1, if_pos c2, hbt, if_neg (show ¬ (b.toNat : Int) = 10 by omega), W]
        rw [show i + (sk true t + 1) = i + 1 + sk true t by omega]
        exact ihn.2
      have h0 : Ev (fun k => stratumref08_skip.l0 k s (i : Int)) ((i + sk false (b :: t) : Nat) : Int) := by
        refine Ev.step (fun k => by simp only [stratumref08_skip.l0]; rfl) ?_
        simp only [if_pos c1, if_pos c2, hbt, rblank_eq, Option.bind_some]
        rw [sk]
        by_cases hb : L.blank b = true
        · rw [if_pos hb]
          simp only [if_pos hb, W]
          rw [show i + (sk false t + 1) = i + 1 + sk false t by omega]
          exact ihn.1
        · rw [if_neg hb]
          simp only [if_neg hb]
          by_cases h5 : b.toNat = 35
          · rw [if_pos h5]
            simp only [if_pos (show (b.toNat : Int) = 35 by omega)]
            exact hR (by omega)
          · rw [if_neg h5]
            simp only [if_neg (show ¬ (b.toNat : Int) = 35 by omega), Nat.add_zero]
            exact Ev.now _
      refine ⟨h0, ?_⟩
      rw [sk]
      by_cases h10 : b.toNat = 10
      · refine Ev.step (fun k => by simp only [stratumref08_skip.l1]; rfl) ?_
        simp only [if_pos c1, if_pos c2, hbt, if_pos (show (b.toNat : Int) = 10 by omega)]
        rw [show (b.toNat != 10) = false by rw [h10]; rfl]
        rw [sk, if_pos (by unfold L.blank; rw [h10]; rfl)] at h0
        exact h0
      · rw [show (b.toNat != 10) = true by rw [bne_iff_ne]; exact h10]
        exact hR h10
theorem risD_eq (b : UInt8) : stratumref08_digit.f (b.toNat : Int) = some (isD b) := isD_eq b
theorem risL_eq (b : UInt8) : stratumref08_letter.f (b.toNat : Int) = some (isL b) := by
  unfold stratumref08_letter.f isL G.letr
  have e : ∀ x : Bool, (x = true ↔ ((97 ≤ (b.toNat : Int) ∧ (b.toNat : Int) ≤ 122) ∨ (65 ≤ (b.toNat : Int) ∧ (b.toNat : Int) ≤ 90) ∨ (b.toNat : Int) = 95)) → some x = some (decide ((97 ≤ (b.toNat : Int) ∧ (b.toNat : Int) ≤ 122) ∨ (65 ≤ (b.toNat : Int) ∧ (b.toNat : Int) ≤ 90) ∨ (b.toNat : Int) = 95)) := fun x h => by rw [Option.some.injEq, Bool.eq_iff_iff, decide_eq_true_iff]; exact h
  repeat' split
  all_goals refine e _ ?_
  all_goals first | (simp only [true_iff]; omega) | (simp only [Bool.false_eq_true, false_iff]; omega) | (rw [decide_eq_true_iff]; omega)
theorem rhex_ev (b : UInt8) : Ev (fun k => stratumref08_hex.f k (b.toNat : Int)) (hexI b) := by
  have e : ∀ k x y, stratumref08_hex.j0 k x y = lex_hex.j0 k x y := fun k x y => by cases k <;> rfl
  refine Ev.congr (fun k => ?_) (hex_ev b)
  unfold stratumref08_hex.f lex_hex.f
  simp only [e]
  rfl
/-- What the reference's escape answers at place p, t behind the backslash. -/
def rescOut (p : Nat) (t : List UInt8) : Int × Int := match esc t with | some (c, n) => ((c.toNat : Int), ((1 + n : Nat) : Int)) | none => (0, 0)
theorem rescape_ev (s : ByteArray) (hs : s.size ≤ 70368744177664) (p : Nat) (b : UInt8) (t : List UInt8) (hp : s.data.toList.drop p = b :: t) : Ev (fun k => stratumref08_escape.f k s (p : Int)) (rescOut p t) := by
  have hlt := drop_lt hp
  have hn1 := drop_next hp
  have hsz := drop_len hp (by omega)
  rw [List.length_cons] at hsz
  have W1 : wrap64 ((p : Int) + 1) = ((p + 1 : Nat) : Int) := w1 1 (by omega)
  have W2 : wrap64 ((p : Int) + 2) = ((p + 2 : Nat) : Int) := w1 2 (by omega)
  have W3 : wrap64 ((p : Int) + 3) = ((p + 3 : Nat) : Int) := w1 3 (by omega)
  have W4 : wrap64 ((p : Int) + 4) = ((p + 4 : Nat) : Int) := w1 4 (by omega)
  unfold stratumref08_escape.f rescOut
  simp only [W1]
  cases t with
  | nil =>
    simp only [List.length_nil] at hsz
    simp only [if_pos (show ((p + 1 : Nat) : Int) ≥ (s.size : Int) by omega), esc]
    exact Ev.now _
  | cons c t =>
    have hb1 := bt_drop hn1
    have hn2 := drop_next hn1
    simp only [List.length_cons] at hsz
    simp only [if_neg (show ¬ ((p + 1 : Nat) : Int) ≥ (s.size : Int) by omega), if_pos (show (0 : Int) ≤ ((p + 1 : Nat) : Int) by omega), if_pos (show ((p + 1 : Nat) : Int) < (s.size : Int) by omega), hb1, esc]
    by_cases h1 : c.toNat = 92 ∨ c.toNat = 34
    · have key : Ev (fun k => stratumref08_escape.j0 k s (p : Int) (c.toNat : Int) true) ((c.toNat : Int), ((2 : Nat) : Int)) := by
        refine Ev.step (fun k => by simp only [stratumref08_escape.j0]; rfl) ?_
        simp only [if_true, W1, W2, if_pos (show (0 : Int) ≤ ((p + 1 : Nat) : Int) by omega), if_pos (show ((p + 1 : Nat) : Int) < (s.size : Int) by omega), hb1]
        exact Ev.now _
      simp only [if_pos h1]
      by_cases h2 : c.toNat = 92
      · simp only [if_pos (show (c.toNat : Int) = 92 by omega), show ((c.toNat : Int) == 92) = true by rw [beq_iff_eq]; omega]; exact key
      · simp only [if_neg (show ¬ (c.toNat : Int) = 92 by omega), show ((c.toNat : Int) == 34) = true by rw [beq_iff_eq]; omega]; exact key
    · have h92 : ¬ (c.toNat : Int) = 92 := by omega
      have h34 : ((c.toNat : Int) == 34) = false := by rw [beq_eq_false_iff_ne]; omega
      simp only [if_neg h1, if_neg h92, h34]
      refine Ev.step (fun k => by simp only [stratumref08_escape.j0]; rfl) ?_
      simp only [Bool.false_eq_true, if_false, W2, W3]
      by_cases h2 : c.toNat = 110
      · simp only [if_pos h2, if_pos (show (c.toNat : Int) = 110 by omega)]; exact Ev.now _
      simp only [if_neg h2, if_neg (show ¬ (c.toNat : Int) = 110 by omega)]
      by_cases h3 : c.toNat = 116
      · simp only [if_pos h3, if_pos (show (c.toNat : Int) = 116 by omega)]; exact Ev.now _
      simp only [if_neg h3, if_neg (show ¬ (c.toNat : Int) = 116 by omega)]
      by_cases h4 : c.toNat = 120
      · simp only [if_pos h4, if_pos (show (c.toNat : Int) = 120 by omega)]
        have jF : Ev (fun k => stratumref08_escape.j1 k s (p : Int) false) ((0 : Int), (0 : Int)) := by
          refine Ev.step (fun k => by simp only [stratumref08_escape.j1]; rfl) ?_
          simp only [Bool.false_eq_true, if_false]; exact Ev.now _
        match t, hn2, hsz with
        | [], _, hsz =>
          simp only [List.length_nil] at hsz
          simp only [if_neg (show ¬ ((p + 3 : Nat) : Int) < (s.size : Int) by omega), escx]; exact jF
        | [a], _, hsz =>
          simp only [List.length_nil, List.length_cons] at hsz
          simp only [if_neg (show ¬ ((p + 3 : Nat) : Int) < (s.size : Int) by omega), escx]; exact jF
        | a :: e :: t', hn2, hsz =>
          simp only [List.length_cons] at hsz
          have hba := bt_drop hn2
          have hbe := bt_drop (drop_next hn2)
          simp only [if_pos (show ((p + 3 : Nat) : Int) < (s.size : Int) by omega), if_pos (show (0 : Int) ≤ ((p + 2 : Nat) : Int) by omega), if_pos (show ((p + 2 : Nat) : Int) < (s.size : Int) by omega), if_pos (show (0 : Int) ≤ ((p + 3 : Nat) : Int) by omega), escx]
          rw [show bt s ((p + 2 : Nat) : Int) = (a.toNat : Int) from hba, show bt s ((p + 3 : Nat) : Int) = (e.toNat : Int) from hbe]
          refine Ev.bind (rhex_ev a) ?_
          have hea := rhex_ev a
          have hee := rhex_ev e
          unfold hexI at hea hee ⊢
          cases hx : hexv a with
          | none =>
            simp only [if_neg (show ¬ ((-1 : Int)) ≥ 0 by omega)]
            exact jF
          | some x =>
            simp only [if_pos (show (x : Int) ≥ 0 by omega)]
            rw [hx] at hea; simp only at hea
            refine Ev.bind hee ?_
            cases hy : hexv e with
            | none =>
              simp only [decide_eq_false (show ¬ ((-1 : Int)) ≥ 0 by omega)]
              exact jF
            | some y =>
              rw [hy] at hee; simp only at hee
              have lx := hexv_lt hx
              have ly := hexv_lt hy
              simp only [decide_eq_true (show (y : Int) ≥ 0 by omega)]
              refine Ev.step (fun k => by simp only [stratumref08_escape.j1]; rfl) ?_
              simp only [if_true, W2, W3, W4, if_pos (show ((p + 3 : Nat) : Int) < (s.size : Int) by omega), if_pos (show (0 : Int) ≤ ((p + 2 : Nat) : Int) by omega), if_pos (show ((p + 2 : Nat) : Int) < (s.size : Int) by omega), if_pos (show (0 : Int) ≤ ((p + 3 : Nat) : Int) by omega)]
              rw [show bt s ((p + 2 : Nat) : Int) = (a.toNat : Int) from hba, show bt s ((p + 3 : Nat) : Int) = (e.toNat : Int) from hbe]
              refine Ev.bind hea ?_
              refine Ev.bind hee ?_
              rw [w64s (x := 16 * (x : Int)) (by omega) (by omega), w64s (x := 16 * (x : Int) + (y : Int)) (by omega) (by omega), u8_nat (show 16 * x + y < 256 by omega),
                show (16 * (x : Int) + (y : Int)) % 256 = ((16 * x + y : Nat) : Int) by omega]
              exact Ev.now _
      · simp only [if_neg h4, if_neg (show ¬ (c.toNat : Int) = 120 by omega)]; exact Ev.now _


theorem rtext_ev (s : ByteArray) (hs : s.size ≤ 70368744177664) (i : Nat) : ∀ (d off : Nat) (acc : List UInt8), s.size - (i + off) ≤ d → i + off ≤ s.size → acc.length ≤ off →
    ∃ p, Ev (fun k => stratumref08_text.l0 k s (i : Int) (nums acc) ((i + off : Nat) : Int)) p ∧ TokOut i (tx off acc (s.data.toList.drop (i + off))) p := by
  have bad : ∀ (off : Nat) (acc : List UInt8), Ev (fun k => stratumref08_text.j1 k s (i : Int) (nums acc) ((i + off : Nat) : Int) false) ((0 : Int), (⟨#[]⟩ : ByteArray), (0 : Int), (0 : Int), (0 : Int), (i : Int), (81 : Int)) := by
    intro off acc
    refine Ev.step (fun k => by simp only [stratumref08_text.j1]; rfl) ?_
    simp only [Bool.false_eq_true, if_false]; exact Ev.now _
  intro d
  induction d with
  | zero =>
    intro off acc hd hi ha
    have e : s.data.toList.drop (i + off) = [] := List.drop_of_length_le (by rw [← size_len]; omega)
    refine ⟨((0 : Int), (⟨#[]⟩ : ByteArray), (0 : Int), (0 : Int), (0 : Int), (i : Int), (81 : Int)), Ev.step (fun k => by simp only [stratumref08_text.l0]; rfl) ?_, ?_⟩
    · simp only [if_neg (show ¬ ((i + off : Nat) : Int) < (s.size : Int) by omega)]; exact bad off acc
    · rw [e, tx]; exact ⟨by simp, rfl, by decide⟩
  | succ d ih =>
    intro off acc hd hi ha
    cases hl : s.data.toList.drop (i + off) with
    | nil =>
      have := drop_len hl hi
      simp only [List.length_nil] at this
      have := ih off acc (by omega) hi ha
      rw [hl] at this; exact this
    | cons b t =>
      have hlt := drop_lt hl
      have hbt := bt_drop hl
      have hnx := drop_next hl
      have hsz := drop_len hl hi
      rw [List.length_cons] at hsz
      rw [tx]
      by_cases h1 : b.toNat = 10
      · rw [if_pos h1]
        refine ⟨((0 : Int), (⟨#[]⟩ : ByteArray), (0 : Int), (0 : Int), (0 : Int), (i : Int), (81 : Int)), Ev.step (fun k => by simp only [stratumref08_text.l0]; rfl) ?_, ?_⟩
        · simp only [if_pos (show ((i + off : Nat) : Int) < (s.size : Int) by omega), if_pos (show (0 : Int) ≤ ((i + off : Nat) : Int) by omega), hbt, show ((b.toNat : Int) != 10) = false by rw [bne_eq_false_iff_eq]; omega]; exact bad off acc
        · exact ⟨by simp, rfl, by decide⟩
      rw [if_neg h1]
      have st : ∀ p, Ev (fun k => if (b.toNat : Int) = 34 then some ((3 : Int), strOfNums (nums acc), (0 : Int), (i : Int), wrap64 (((i + off : Nat) : Int) + 1), (0 : Int), (0 : Int))
          else if (b.toNat : Int) = 92 then (stratumref08_escape.f k s ((i + off : Nat) : Int)).bind fun bt108 => if bt108.2 = 0 then some ((0 : Int), (⟨#[]⟩ : ByteArray), (0 : Int), (0 : Int), (0 : Int), ((i + off : Nat) : Int), (82 : Int)) else if (nums acc).length < 140737488355328 then stratumref08_text.l0 k s (i : Int) (nums acc ++ [bt108.1]) (wrap64 (((i + off : Nat) : Int) + bt108.2)) else none
          else if (nums acc).length < 140737488355328 then stratumref08_text.l0 k s (i : Int) (nums acc ++ [(b.toNat : Int)]) (wrap64 (((i + off : Nat) : Int) + 1)) else none) p →
          Ev (fun k => stratumref08_text.l0 k s (i : Int) (nums acc) ((i + off : Nat) : Int)) p := by
        intro p hp
        refine Ev.step (fun k => by simp only [stratumref08_text.l0]; rfl) ?_
        simp only [if_pos (show ((i + off : Nat) : Int) < (s.size : Int) by omega), if_pos (show (0 : Int) ≤ ((i + off : Nat) : Int) by omega), hbt, show ((b.toNat : Int) != 10) = true by rw [bne_iff_ne]; omega]
        refine Ev.step (fun k => by simp only [stratumref08_text.j1]; rfl) ?_
        simp only [if_true, if_pos (show ((i + off : Nat) : Int) < (s.size : Int) by omega), if_pos (show (0 : Int) ≤ ((i + off : Nat) : Int) by omega), hbt]
        exact hp
      have W : wrap64 (((i + off : Nat) : Int) + 1) = ((i + (off + 1) : Nat) : Int) := w1 (i := i + off) 1 (by omega)
      by_cases h2 : b.toNat = 34
      · rw [if_pos h2]
        refine ⟨((3 : Int), ba acc, (0 : Int), (i : Int), ((i + (off + 1) : Nat) : Int), (0 : Int), (0 : Int)), st _ ?_, ?_⟩
        · simp only [if_pos (show (b.toNat : Int) = 34 by omega), strOf, W]; exact Ev.now _
        · rfl
      rw [if_neg h2]
      by_cases h3 : b.toNat = 92
      · rw [if_pos h3]
        have he := rescape_ev s hs (i + off) b t hl
        unfold rescOut at he
        cases hx : esc t with
        | none =>
          rw [hx] at he
          refine ⟨((0 : Int), (⟨#[]⟩ : ByteArray), (0 : Int), (0 : Int), (0 : Int), ((i + off : Nat) : Int), (82 : Int)), st _ ?_, ?_⟩
          · simp only [if_neg (show ¬ (b.toNat : Int) = 34 by omega), if_pos (show (b.toNat : Int) = 92 by omega)]
            refine Ev.bind he ?_
            exact Ev.now _
          · exact ⟨rfl, rfl, by decide⟩
        | some q =>
          obtain ⟨c, n⟩ := q
          rw [hx] at he; simp only at he ⊢
          have hn := (esc_le hx).2
          obtain ⟨p, hp1, hp2⟩ := ih (off + n + 1) (acc ++ [c]) (by omega) (by omega) (by simp only [List.length_append, List.length_cons, List.length_nil]; omega)
          have hdr : s.data.toList.drop (i + (off + n + 1)) = t.drop n := by
            rw [show i + (off + n + 1) = (i + off) + 1 + n by omega, ← List.drop_drop, hnx]
          rw [hdr] at hp2
          refine ⟨p, st _ ?_, hp2⟩
          simp only [if_neg (show ¬ (b.toNat : Int) = 34 by omega), if_pos (show (b.toNat : Int) = 92 by omega)]
          refine Ev.bind he ?_
          have hnz : ¬ ((1 + n : Nat) : Int) = 0 := by omega
          have hln : (nums acc).length < 140737488355328 := by rw [nums_len]; omega
          have W2 : wrap64 (((i + off : Nat) : Int) + ((1 + n : Nat) : Int)) = ((i + (off + n + 1) : Nat) : Int) := by rw [w64s (by omega) (by omega)]; omega
          simp only [W2, if_neg hnz, if_pos hln, nums_snoc]
          exact hp1
      · rw [if_neg h3]
        obtain ⟨p, hp1, hp2⟩ := ih (off + 1) (acc ++ [b]) (by omega) (by omega) (by simp only [List.length_append, List.length_cons, List.length_nil]; omega)
        rw [show i + (off + 1) = i + off + 1 by omega, hnx] at hp2
        refine ⟨p, st _ ?_, hp2⟩
        simp only [if_neg (show ¬ (b.toNat : Int) = 34 by omega), if_neg (show ¬ (b.toNat : Int) = 92 by omega), if_pos (show (nums acc).length < 140737488355328 by rw [nums_len]; omega), nums_snoc, W]
        exact hp1

theorem rword_ev (s : ByteArray) (hs : s.size ≤ 70368744177664) (i : Nat) : ∀ (d n : Nat), s.size - (i + n) ≤ d → i + n ≤ s.size →
    Ev (fun k => stratumref08_word.l0 k s (i : Int) ((i + n : Nat) : Int)) (if n + lead isW (s.data.toList.drop (i + n)) > 64 then ((0 : Int), (⟨#[]⟩ : ByteArray), (0 : Int), (0 : Int), (0 : Int), (i : Int), (111 : Int)) else ((1 : Int), s.extract i (i + (n + lead isW (s.data.toList.drop (i + n)))), (0 : Int), (i : Int), ((i + (n + lead isW (s.data.toList.drop (i + n))) : Nat) : Int), (0 : Int), (0 : Int))) := by
  have fin : ∀ n : Nat, i + n ≤ s.size → Ev (fun _ => if wrap64 (((i + n : Nat) : Int) - (i : Int)) > 64 then some ((0 : Int), (⟨#[]⟩ : ByteArray), (0 : Int), (0 : Int), (0 : Int), (i : Int), (111 : Int)) else if 0 ≤ (i : Int) then if (i : Int) ≤ ((i + n : Nat) : Int) then if ((i + n : Nat) : Int) ≤ (s.size : Int) then some ((1 : Int), s.extract ((i : Int)).toNat (((i + n : Nat) : Int)).toNat, (0 : Int), (i : Int), ((i + n : Nat) : Int), (0 : Int), (0 : Int)) else none else none else none)
      (if n + 0 > 64 then ((0 : Int), (⟨#[]⟩ : ByteArray), (0 : Int), (0 : Int), (0 : Int), (i : Int), (111 : Int)) else ((1 : Int), s.extract i (i + (n + 0)), (0 : Int), (i : Int), ((i + (n + 0) : Nat) : Int), (0 : Int), (0 : Int))) := by
    intro n hn
    have W : wrap64 (((i + n : Nat) : Int) - (i : Int)) = (n : Int) := by rw [w64s (by omega) (by omega)]; omega
    rw [Nat.add_zero]
    by_cases h : n > 64
    · simp only [W, if_pos h, if_pos (show (n : Int) > 64 by omega)]; exact Ev.now _
    · simp only [W, if_neg h, if_neg (show ¬ (n : Int) > 64 by omega), if_pos (show (0 : Int) ≤ (i : Int) by omega), if_pos (show (i : Int) ≤ ((i + n : Nat) : Int) by omega), if_pos (show ((i + n : Nat) : Int) ≤ (s.size : Int) by omega), Int.toNat_natCast]; exact Ev.now _
  intro d
  induction d with
  | zero =>
    intro n hd hi
    have e : s.data.toList.drop (i + n) = [] := List.drop_of_length_le (by rw [← size_len]; omega)
    refine Ev.step (fun k => by simp only [stratumref08_word.l0]; rfl) ?_
    rw [e]
    simp only [if_neg (show ¬ ((i + n : Nat) : Int) < (s.size : Int) by omega), lead]
    exact fin n hi
  | succ d ih =>
    intro n hd hi
    cases hl : s.data.toList.drop (i + n) with
    | nil =>
      have := drop_len hl hi
      simp only [List.length_nil] at this
      have := ih n (by omega) hi
      rw [hl] at this; exact this
    | cons b t =>
      have hlt := drop_lt hl
      have hbt := bt_drop hl
      have hnx := drop_next hl
      have ihn := ih (n + 1) (by omega) (by omega)
      rw [show i + (n + 1) = i + n + 1 by omega, hnx] at ihn
      have W : wrap64 (((i + n : Nat) : Int) + 1) = ((i + n + 1 : Nat) : Int) := w1 (i := i + n) 1 (by omega)
      refine Ev.step (fun k => by simp only [stratumref08_word.l0]; rfl) ?_
      simp only [if_pos (show ((i + n : Nat) : Int) < (s.size : Int) by omega), if_pos (show (0 : Int) ≤ ((i + n : Nat) : Int) by omega), hbt, risL_eq, risD_eq, Option.bind_some, W]
      rw [lead]
      by_cases h : isW b = true
      · rw [if_pos h, show n + (lead isW t + 1) = n + 1 + lead isW t by omega]
        by_cases h2 : isL b = true
        · simp only [if_pos h2]; exact ihn
        · have h3 : isD b = true := by unfold isW at h; rw [Bool.or_eq_true] at h; exact h.resolve_left h2
          simp only [if_neg h2, if_pos h3]; exact ihn
      · have hb : ¬ isL b = true ∧ ¬ isD b = true := by unfold isW at h; rw [Bool.or_eq_true, not_or] at h; exact h
        rw [if_neg h]
        simp only [if_neg hb.1, if_neg hb.2]
        exact fin n hi
theorem dval_eq {b : UInt8} (h : isD b = true) : (((b.toNat : Int) - 48) % 256) = ((G.dval b : Nat) : Int) := by
  rw [isD_iff] at h; unfold G.dval; omega
/-- The reference's number: high from some digit on. -/
theorem rnum_high (s : ByteArray) (hs : s.size ≤ 70368744177664) (i : Nat) : ∀ (d n : Nat) (x : Int), s.size - (i + n) ≤ d → i + n ≤ s.size →
    Ev (fun k => stratumref08_number.l0 k s (i : Int) ((i + n : Nat) : Int) x true) ((0 : Int), (⟨#[]⟩ : ByteArray), (0 : Int), (0 : Int), (0 : Int), (i : Int), (111 : Int)) := by
  have fin : ∀ (n : Nat) (x : Int), Ev (fun k => stratumref08_number.j1 k s (i : Int) ((i + n : Nat) : Int) x true false) ((0 : Int), (⟨#[]⟩ : ByteArray), (0 : Int), (0 : Int), (0 : Int), (i : Int), (111 : Int)) := by
    intro n x
    refine Ev.step (fun k => by simp only [stratumref08_number.j1]; rfl) ?_
    simp only [Bool.false_eq_true, if_false, if_true]; exact Ev.now _
  intro d
  induction d with
  | zero =>
    intro n x hd hi
    refine Ev.step (fun k => by simp only [stratumref08_number.l0]; rfl) ?_
    simp only [if_neg (show ¬ ((i + n : Nat) : Int) < (s.size : Int) by omega)]
    exact fin n x
  | succ d ih =>
    intro n x hd hi
    cases hl : s.data.toList.drop (i + n) with
    | nil =>
      have := drop_len hl hi
      simp only [List.length_nil] at this
      exact ih n x (by omega) hi
    | cons b t =>
      have hlt := drop_lt hl
      have hbt := bt_drop hl
      have W : wrap64 (((i + n : Nat) : Int) + 1) = ((i + (n + 1) : Nat) : Int) := w1 (i := i + n) 1 (by omega)
      refine Ev.step (fun k => by simp only [stratumref08_number.l0]; rfl) ?_
      simp only [if_pos (show ((i + n : Nat) : Int) < (s.size : Int) by omega), if_pos (show (0 : Int) ≤ ((i + n : Nat) : Int) by omega), hbt, risD_eq, Option.bind_some]
      by_cases h : isD b = true
      · rw [h]
        refine Ev.step (fun k => by simp only [stratumref08_number.j1]; rfl) ?_
        simp only [if_true, if_pos (show ((i + n : Nat) : Int) < (s.size : Int) by omega), if_pos (show (0 : Int) ≤ ((i + n : Nat) : Int) by omega), W, ite_self]
        exact ih (n + 1) _ (by omega) (by omega)
      · rw [show isD b = false by simpa using h]; exact fin n x
theorem rnum_ev (s : ByteArray) (hs : s.size ≤ 70368744177664) (i : Nat) : ∀ (d n x : Nat), s.size - (i + n) ≤ d → i + n ≤ s.size → x < 18446744073709551616 →
    Ev (fun k => stratumref08_number.l0 k s (i : Int) ((i + n : Nat) : Int) (x : Int) false) (match G.numv x ((s.data.toList.drop (i + n)).take (lead isD (s.data.toList.drop (i + n)))) with
      | none => ((0 : Int), (⟨#[]⟩ : ByteArray), (0 : Int), (0 : Int), (0 : Int), (i : Int), (111 : Int))
      | some y => ((2 : Int), (⟨#[]⟩ : ByteArray), (y : Int), (i : Int), ((i + (n + lead isD (s.data.toList.drop (i + n))) : Nat) : Int), (0 : Int), (0 : Int))) := by
  have fin : ∀ (n x : Nat), Ev (fun k => stratumref08_number.j1 k s (i : Int) ((i + n : Nat) : Int) (x : Int) false false) ((2 : Int), (⟨#[]⟩ : ByteArray), (x : Int), (i : Int), ((i + n : Nat) : Int), (0 : Int), (0 : Int)) := by
    intro n x
    refine Ev.step (fun k => by simp only [stratumref08_number.j1]; rfl) ?_
    simp only [Bool.false_eq_true, if_false]; exact Ev.now _
  intro d
  induction d with
  | zero =>
    intro n x hd hi hx
    have e : s.data.toList.drop (i + n) = [] := List.drop_of_length_le (by rw [← size_len]; omega)
    refine Ev.step (fun k => by simp only [stratumref08_number.l0]; rfl) ?_
    rw [e]
    simp only [if_neg (show ¬ ((i + n : Nat) : Int) < (s.size : Int) by omega), lead, List.take_nil, G.numv, Nat.add_zero]
    exact fin n x
  | succ d ih =>
    intro n x hd hi hx
    cases hl : s.data.toList.drop (i + n) with
    | nil =>
      have := drop_len hl hi
      simp only [List.length_nil] at this
      have := ih n x (by omega) hi hx
      rw [hl] at this; exact this
    | cons b t =>
      have hlt := drop_lt hl
      have hbt := bt_drop hl
      have hnx := drop_next hl
      have W : wrap64 (((i + n : Nat) : Int) + 1) = ((i + (n + 1) : Nat) : Int) := w1 (i := i + n) 1 (by omega)
      refine Ev.step (fun k => by simp only [stratumref08_number.l0]; rfl) ?_
      simp only [if_pos (show ((i + n : Nat) : Int) < (s.size : Int) by omega), if_pos (show (0 : Int) ≤ ((i + n : Nat) : Int) by omega), hbt, risD_eq, Option.bind_some]
      rw [lead]
      by_cases h : isD b = true
      · rw [if_pos h, h, List.take_succ_cons, G.numv]
        have hdv : G.dval b < 10 := by rw [isD_iff] at h; unfold G.dval; omega
        refine Ev.step (fun k => by simp only [stratumref08_number.j1]; rfl) ?_
        simp only [if_true, if_pos (show ((i + n : Nat) : Int) < (s.size : Int) by omega), if_pos (show (0 : Int) ≤ ((i + n : Nat) : Int) by omega), W, hbt, dval_eq h]
        by_cases hf : x * 10 + G.dval b < 18446744073709551616
        · have e1 : IntKind.u64.wrap ((x : Int) * 10) = ((x * 10 : Nat) : Int) := by
            rw [show (x : Int) * 10 = ((x * 10 : Nat) : Int) by omega]; show ((x * 10 : Nat) : Int) % 18446744073709551616 = _; omega
          have e2 : IntKind.u64.wrap (((x * 10 : Nat) : Int) + ((G.dval b : Nat) : Int)) = ((x * 10 + G.dval b : Nat) : Int) := by
            rw [show ((x * 10 : Nat) : Int) + ((G.dval b : Nat) : Int) = ((x * 10 + G.dval b : Nat) : Int) by omega]; show ((x * 10 + G.dval b : Nat) : Int) % 18446744073709551616 = _; omega
          have := ih (n + 1) (x * 10 + G.dval b) (by omega) (by omega) hf
          rw [show s.data.toList.drop (i + (n + 1)) = t from hnx] at this
          simp only [if_pos hf, e1, e2, if_neg (show ¬ (x : Int) > 1844674407370955161 by omega), if_neg (show ¬ ((x * 10 : Nat) : Int) > 18446744073709551615 - ((G.dval b : Nat) : Int) by omega)]
          rw [show n + (lead isD t + 1) = n + 1 + lead isD t by omega]
          exact this
        · simp only [if_neg hf]
          by_cases hb : (x : Int) > 1844674407370955161
          · simp only [if_pos hb]
            exact rnum_high s hs i _ (n + 1) _ (Nat.le_refl _) (by omega)
          · have e1 : IntKind.u64.wrap ((x : Int) * 10) = ((x * 10 : Nat) : Int) := by
              rw [show (x : Int) * 10 = ((x * 10 : Nat) : Int) by omega]; show ((x * 10 : Nat) : Int) % 18446744073709551616 = _; omega
            simp only [if_neg hb, e1, if_pos (show ((x * 10 : Nat) : Int) > 18446744073709551615 - ((G.dval b : Nat) : Int) by omega)]
            exact rnum_high s hs i _ (n + 1) _ (Nat.le_refl _) (by omega)
      · rw [if_neg h, show isD b = false by simpa using h, List.take_zero, G.numv, Nat.add_zero]
        exact fin n x
theorem rmark_ev (b : UInt8) : Ev (fun k => stratumref08_Mark.f k (b.toNat : Int)) (decide (b.toNat ∈ marks)) := by
  have key : ∀ (m : ByteArray), m.size ≤ 1000 → ∀ (d i : Nat), m.size - i ≤ d → i ≤ m.size → Ev (fun k => stratumref08_Mark.l0 k (b.toNat : Int) m (i : Int)) (decide (b.toNat ∈ (m.data.toList.drop i).map UInt8.toNat)) := by
    intro m hm d
    induction d with
    | zero =>
      intro i hd hi
      obtain rfl : i = m.size := by omega
      have e : m.data.toList.drop m.size = [] := List.drop_of_length_le (by rw [← size_len]; omega)
      refine Ev.step (fun k => by simp only [stratumref08_Mark.l0]; rfl) ?_
      simp only [Int.lt_irrefl, if_false, e, List.map_nil, List.not_mem_nil, decide_false]
      exact Ev.now _
    | succ d ih =>
      intro i hd hi
      cases hl : m.data.toList.drop i with
      | nil =>
        have := drop_len hl hi
        simp only [List.length_nil] at this
        have := ih i (by omega) hi
        rw [hl] at this; exact this
      | cons c t =>
        have hlt := drop_lt hl
        have hbt := bt_drop hl
        have hnx := drop_next hl
        have W : wrap64 ((i : Int) + 1) = ((i + 1 : Nat) : Int) := w1 1 (by omega)
        have ihn := ih (i + 1) (by omega) (by omega)
        rw [hnx] at ihn
        refine Ev.step (fun k => by simp only [stratumref08_Mark.l0]; rfl) ?_
        simp only [if_pos (show (i : Int) < (m.size : Int) by omega), if_pos (show (0 : Int) ≤ (i : Int) by omega), hbt, W]
        by_cases h : c.toNat = b.toNat
        · simp only [if_pos (show (c.toNat : Int) = (b.toNat : Int) by omega)]
          rw [decide_eq_true (by rw [List.map_cons, h]; exact List.mem_cons_self ..)]
          exact Ev.now _
        · simp only [if_neg (show ¬ (c.toNat : Int) = (b.toNat : Int) by omega)]
          rw [show decide (b.toNat ∈ (c :: t).map UInt8.toNat) = decide (b.toNat ∈ t.map UInt8.toNat) by
            rw [Bool.eq_iff_iff, decide_eq_true_iff, decide_eq_true_iff, List.map_cons, List.mem_cons]
            exact ⟨fun h1 => h1.resolve_left fun h2 => h h2.symm, .inr⟩]
          exact ihn
  have := key (⟨#[123, 125, 40, 41, 58, 59, 44, 61, 43, 45, 42]⟩ : ByteArray) (by decide) 11 0 (by decide) (by decide)
  exact Ev.congr (fun k => rfl) this
theorem rtoken_ev (s : ByteArray) (hs : s.size ≤ 70368744177664) (i : Nat) (b : UInt8) (t : List UInt8) (hl : s.data.toList.drop i = b :: t) : ∃ p, Ev (fun k => stratumref08_token.f k s (i : Int)) p ∧ TokOut i (L.tok (s.data.toList.drop i)) p := by
  have hlt := drop_lt hl
  have hbt := bt_drop hl
  have hnx := drop_next hl
  have hsz := drop_len hl (by omega)
  rw [List.length_cons] at hsz
  have c1 : (0 : Int) ≤ (i : Int) := by omega
  have c2 : (i : Int) < (s.size : Int) := by omega
  have W : wrap64 ((i : Int) + 1) = ((i + 1 : Nat) : Int) := w1 1 (by omega)
  unfold stratumref08_token.f
  simp only [if_pos c1, if_pos c2, hbt, risL_eq, risD_eq, Option.bind_some]
  rw [hl, L.tok]
  have lw := lead_le isW (b :: t)
  have ld := lead_le isD (b :: t)
  rw [List.length_cons] at lw ld
  by_cases h1 : isL b = true
  · have hr := rword_ev s hs i s.size 0 (by omega) (by omega)
    rw [Nat.add_zero, hl, Nat.zero_add] at hr
    have hx := ba_ext s i (i + lead isW (b :: t))
    rw [Nat.add_sub_cancel_left, hl] at hx
    have hr2 : Ev (fun k => stratumref08_word.f k s (i : Int)) _ := hr
    rw [if_pos h1]
    simp only [h1, if_true]
    by_cases h64 : lead isW (b :: t) > 64
    · rw [if_pos h64] at hr2 ⊢
      exact ⟨_, Ev.bind hr2 (Ev.now _), by simp, rfl, by decide⟩
    · rw [if_neg h64] at hr2 ⊢
      exact ⟨_, Ev.bind hr2 (Ev.now _), by rw [hx]; rfl⟩
  have h1' : isL b = false := by simpa using h1
  rw [if_neg h1]
  simp only [h1', Bool.false_eq_true, if_false]
  by_cases h2 : isD b = true
  · have hr := rnum_ev s hs i s.size 0 0 (by omega) (by omega) (by omega)
    rw [Nat.add_zero, hl, Nat.zero_add] at hr
    have hr2 : Ev (fun k => stratumref08_number.f k s (i : Int)) _ := hr
    rw [if_pos h2]
    simp only [h2, if_true]
    cases hn : G.numv 0 ((b :: t).take (lead isD (b :: t))) with
    | none => rw [hn] at hr2; exact ⟨_, Ev.bind hr2 (Ev.now _), by simp, rfl, by decide⟩
    | some x => rw [hn] at hr2; exact ⟨_, Ev.bind hr2 (Ev.now _), rfl⟩
  have h2' : isD b = false := by simpa using h2
  rw [if_neg h2]
  simp only [h2', Bool.false_eq_true, if_false]
  by_cases h3 : b.toNat = 34
  · rw [if_pos h3]
    simp only [if_pos (show (b.toNat : Int) = 34 by omega)]
    obtain ⟨p, hp1, hp2⟩ := rtext_ev s hs i (s.size) 1 [] (by omega) (by omega) (by simp)
    rw [hnx] at hp2
    refine ⟨p, ?_, hp2⟩
    have hp3 : Ev (fun k => stratumref08_text.f k s (i : Int)) p := Ev.congr (fun k => by unfold stratumref08_text.f; rw [W]; rfl) hp1
    exact Ev.bind hp3 (Ev.now _)
  rw [if_neg h3]
  simp only [if_neg (show ¬ (b.toNat : Int) = 34 by omega)]
  by_cases h4 : b.toNat ∈ marks
  · rw [if_pos h4]
    have hx := ba_ext s i (i + 1)
    rw [Nat.add_sub_cancel_left, hl] at hx
    have hm := rmark_ev b
    rw [decide_eq_true h4] at hm
    refine ⟨((4 : Int), ba [b], (0 : Int), (i : Int), ((i + 1 : Nat) : Int), (0 : Int), (0 : Int)), Ev.bind hm ?_, ?_⟩
    · simp only [if_true, W, if_pos (show (i : Int) ≤ ((i + 1 : Nat) : Int) by omega), if_pos (show ((i + 1 : Nat) : Int) ≤ (s.size : Int) by omega), Int.toNat_natCast, hx]
      exact Ev.now _
    · rfl
  · rw [if_neg h4]
    have hm := rmark_ev b
    rw [decide_eq_false h4] at hm
    refine ⟨((0 : Int), (⟨#[]⟩ : ByteArray), (0 : Int), (0 : Int), (0 : Int), (i : Int), (80 : Int)), Ev.bind hm ?_, by simp, rfl, by decide⟩
    simp only [Bool.false_eq_true, if_false]
    exact Ev.now _
end Go.Proofs.Ytedhkelochpdnaa.T
