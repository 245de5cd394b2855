/- The printed functions of layer 8 answer what the plain ones say: blanks, escapes, texts, tokens. No condition but the sizes. -/
import Derived.Test.YtedhkelochpdnaaX4
import Derived.Test.YtedhkelochpdnaaL2
import Derived.Lib.Bytealg
set_option linter.unusedVariables false
set_option linter.unusedSimpArgs false
namespace Go.Proofs.Ytedhkelochpdnaa.T
open Go.RowKit Go.Proofs.Ytedhkelochpdnaa Go.Proofs.Ytedhkelochpdnaa.X Go.Proofs.Ytedhkelochpdnaa.L Go.Proofs.YtedhkelochpdnaaW.PrintWords Go.Proofs.YtedhkelochpdnaaW.PrintLast Go.Proofs.YtedhkelochpdnaaW.PrintMore

theorem size_len (s : ByteArray) : s.size = s.data.toList.length := (data_length s).symm
theorem ext_list (s : ByteArray) (i j : Nat) : (s.extract i j).data.toList = (s.data.toList.drop i).take (j - i) := by
  rw [ByteArray.data_extract, Array.toList_extract, List.extract_eq_take_drop]
def ba (l : List UInt8) : ByteArray := ⟨l.toArray⟩
theorem ba_list (l : List UInt8) : (ba l).data.toList = l := rfl
theorem ba_of (s : ByteArray) : ba s.data.toList = s := rfl
theorem ba_eq {s : ByteArray} {l : List UInt8} (h : s.data.toList = l) : s = ba l := by rw [← h, ba_of]
theorem ba_ext (s : ByteArray) (i j : Nat) : s.extract i j = ba ((s.data.toList.drop i).take (j - i)) := ba_eq (ext_list s i j)
theorem w64s {x : Int} (h0 : -4611686018427387904 ≤ x) (h1 : x ≤ 4611686018427387904) : wrap64 x = x := by unfold wrap64; omega
theorem w1 {i : Nat} (n : Nat) (h : i + n ≤ 4611686018427387904) : wrap64 ((i : Int) + (n : Int)) = ((i + n : Nat) : Int) := by
  rw [w64s (by omega) (by omega)]; rfl
theorem drop_len {s : ByteArray} {i : Nat} {l : List UInt8} (h : s.data.toList.drop i = l) (hi : i ≤ s.size) : s.size = i + l.length := by
  rw [← h, List.length_drop, ← size_len]; omega
theorem drop_next {s : ByteArray} {i : Nat} {b : UInt8} {t : List UInt8} (h : s.data.toList.drop i = b :: t) : s.data.toList.drop (i + 1) = t := by
  rw [← List.drop_drop, h]; rfl
theorem drop_lt {s : ByteArray} {i : Nat} {b : UInt8} {t : List UInt8} (h : s.data.toList.drop i = b :: t) : i < s.size := by
  rw [size_len]
  have := congrArg List.length h
  rw [List.length_drop, List.length_cons] at this; omega
theorem bt_drop {s : ByteArray} {i : Nat} {b : UInt8} {t : List UInt8} (h : s.data.toList.drop i = b :: t) : bt s (i : Int) = (b.toNat : Int) := by
  have hi := drop_lt h
  have h2 : i < s.data.toList.length := by rw [← size_len]; exact hi
  have e := List.drop_eq_getElem_cons h2
  rw [h] at e
  injection e with e1 e2
  unfold bt
  rw [dif_pos (show ((i : Int)).toNat < s.size by rw [Int.toNat_natCast]; exact hi), e1]
  congr 2

theorem indexByte_cons (b : UInt8) (l : List UInt8) (c : UInt8) : Lib.indexByte (b :: l) c = if b == c then 0 else if Lib.indexByte l c == -1 then -1 else Lib.indexByte l c + 1 := rfl
/-- A remark up to its end. -/
theorem nl_sk (l : List UInt8) : (Lib.indexByte l 10 = -1 ∧ sk true l = l.length) ∨ ∃ n : Nat, Lib.indexByte l 10 = (n : Int) ∧ n < l.length ∧ sk true l = n + sk false (l.drop n) ∧ (l.drop n).head? = some 10 := by
  induction l with
  | nil => exact .inl ⟨rfl, rfl⟩
  | cons b t ih =>
    rw [indexByte_cons]
    by_cases hb : b = 10
    · subst hb
      exact .inr ⟨0, rfl, by simp, by rw [sk, List.drop_zero, sk, if_pos (by decide)]; show sk false t + 1 = 0 + (sk false t + 1); omega, rfl⟩
    · have h1 : (b == 10) = false := by simpa using hb
      have h2 : (b.toNat != 10) = true := by
        rw [bne_iff_ne]; intro h; exact hb (UInt8.toNat_inj.1 h)
      rw [h1, sk, h2]
      rcases ih with ⟨i1, i2⟩ | ⟨n, i1, i2, i3, i4⟩
      · exact .inl ⟨by rw [i1]; rfl, by rw [i2]; rfl⟩
      · refine .inr ⟨n + 1, ?_, by simp only [List.length_cons]; omega, by rw [i3, List.drop_succ_cons]; omega, by rw [List.drop_succ_cons]; exact i4⟩
        rw [i1]
        rw [if_neg (by decide), if_neg (by rw [beq_iff_eq]; omega)]
        rfl
theorem skip_ev (s : ByteArray) (hs : s.size ≤ 70368744177664) : ∀ (d i : Nat), s.size - i ≤ d → i ≤ s.size → Ev (fun k => lex_skip.l0 k s (i : Int)) ((i + sk false (s.data.toList.drop i) : Nat) : Int) := by
  intro d
  induction d with
  | zero =>
    intro i hd hi
    obtain rfl : i = s.size := by omega
    refine Ev.step (fun k => by simp only [lex_skip.l0]; rfl) ?_
    have e : s.data.toList.drop s.size = [] := List.drop_of_length_le (by rw [← size_len]; omega)
    simp only [Int.lt_irrefl, if_false, e, sk, Nat.add_zero]
    exact Ev.now _
  | succ d ih =>
    intro i hd hi
    cases hl : s.data.toList.drop i with
    | nil =>
      have := drop_len hl hi
      simp only [List.length_nil] at this
      have := ih i (by omega) hi
      rw [hl] at this; exact this
    | cons b t =>
      have hlt := drop_lt hl
      have hbt := bt_drop hl
      have hnx := drop_next hl
      have ihn := ih (i + 1) (by omega) (by omega)
      rw [hnx] at ihn
      have W : wrap64 ((i : Int) + 1) = ((i + 1 : Nat) : Int) := w1 1 (by omega)
      refine Ev.step (fun k => by simp only [lex_skip.l0]; rfl) ?_
      simp only [if_pos (show (i : Int) < (s.size : Int) by omega), if_pos (show (0 : Int) ≤ (i : Int) by omega), hbt]
      have hj : L.blank b = true → Ev (fun k => lex_skip.j1 k s (i : Int) (b.toNat : Int) true) ((i + sk false (b :: t) : Nat) : Int) := by
        intro hb
        refine Ev.step (fun k => by simp only [lex_skip.j1]; rfl) ?_
        simp only [if_true, W]
        rw [sk, if_pos hb, show i + (sk false t + 1) = i + 1 + sk false t by omega]
        exact ihn
      by_cases h1 : b.toNat = 32
      · simp only [if_pos (show (b.toNat : Int) = 32 by omega), show ((b.toNat : Int) == 32) = true by rw [beq_iff_eq]; omega]; exact hj (by unfold L.blank; rw [h1]; rfl)
      by_cases h2 : b.toNat = 9
      · simp only [if_neg (show ¬ (b.toNat : Int) = 32 by omega), if_pos (show (b.toNat : Int) = 9 by omega), show ((b.toNat : Int) == 9) = true by rw [beq_iff_eq]; omega]; exact hj (by unfold L.blank; rw [h2]; rfl)
      by_cases h3 : b.toNat = 10
      · simp only [if_neg (show ¬ (b.toNat : Int) = 32 by omega), if_neg (show ¬ (b.toNat : Int) = 9 by omega), if_pos (show (b.toNat : Int) = 10 by omega), show ((b.toNat : Int) == 10) = true by rw [beq_iff_eq]; omega]; exact hj (by unfold L.blank; rw [h3]; rfl)
      by_cases h4 : b.toNat = 13
      · simp only [if_neg (show ¬ (b.toNat : Int) = 32 by omega), if_neg (show ¬ (b.toNat : Int) = 9 by omega), if_neg (show ¬ (b.toNat : Int) = 10 by omega), show ((b.toNat : Int) == 13) = true by rw [beq_iff_eq]; omega]; exact hj (by unfold L.blank; rw [h4]; rfl)
      rw [show ((b.toNat : Int) == 13) = false by rw [beq_eq_false_iff_ne]; omega]
      simp only [if_neg (show ¬ (b.toNat : Int) = 32 by omega), if_neg (show ¬ (b.toNat : Int) = 9 by omega), if_neg (show ¬ (b.toNat : Int) = 10 by omega)]
      have hnb : L.blank b = false := decide_eq_false (by omega)
      refine Ev.step (fun k => by simp only [lex_skip.j1]; rfl) ?_
      rw [sk, hnb]
      simp only [Bool.false_eq_true, if_false]
      by_cases h5 : b.toNat = 35
      · have hix : strings_IndexByte.f (s.extract ((i : Int)).toNat s.size) 10 = some (Lib.indexByte (b :: t) 10) := by
          unfold strings_IndexByte.f
          rw [ext_list, Int.toNat_natCast, hl, List.take_of_length_le (by have := drop_len hl hi; omega)]
          rfl
        have hb10 : (b == 10) = false := by
          rw [beq_eq_false_iff_ne]; intro h; rw [h] at h5; exact absurd h5 (by decide)
        rw [if_pos h5]
        simp only [if_pos (show (b.toNat : Int) = 35 by omega), if_pos (show (0 : Int) ≤ (i : Int) by omega), if_pos (show (i : Int) ≤ (s.size : Int) by omega), hix, Option.bind_some]
        rw [indexByte_cons, hb10]
        have hsz := drop_len hl hi
        rw [List.length_cons] at hsz
        rcases nl_sk t with ⟨i1, i2⟩ | ⟨n, i1, i2, i3, i4⟩
        · rw [i1, i2]
          simp only [if_pos (show ((-1 : Int)) < 0 by omega), beq_self_eq_true, if_true, Bool.false_eq_true, if_false]
          rw [show ((i + (t.length + 1) : Nat) : Int) = (s.size : Int) by omega]
          exact Ev.now _
        · have hne : ((n : Int) == -1) = false := by rw [beq_eq_false_iff_ne]; omega
          have W2 : wrap64 ((i : Int) + ((n : Int) + 1)) = ((i + (n + 1) : Nat) : Int) := by rw [w64s (by omega) (by omega)]; rfl
          have ih2 := ih (i + (n + 1)) (by omega) (by omega)
          rw [show s.data.toList.drop (i + (n + 1)) = t.drop n by rw [show i + (n + 1) = i + 1 + n by omega, ← List.drop_drop, hnx]] at ih2
          rw [i1, i3]
          simp only [hne, Bool.false_eq_true, if_false, if_neg (show ¬ ((n : Int) + 1) < 0 by omega), W2]
          rw [show i + (n + sk false (t.drop n) + 1) = i + (n + 1) + sk false (t.drop n) by omega]
          exact ih2
      · rw [if_neg h5]
        simp only [if_neg (show ¬ (b.toNat : Int) = 35 by omega), Nat.add_zero]
        exact Ev.now _

def hexI (b : UInt8) : Int := match hexv b with | some n => (n : Int) | none => -1
theorem isD_eq (b : UInt8) : lex_isDigit.f (b.toNat : Int) = some (isD b) := by
  unfold lex_isDigit.f isD G.dig
  by_cases h : (b.toNat : Int) ≥ 48
  · rw [if_pos h]; congr 2; simp; omega
  · rw [if_neg h]; congr 1; symm; apply decide_eq_false; omega
theorem isL_eq (b : UInt8) : lex_isLetter.f (b.toNat : Int) = some (isL b) := by
  unfold lex_isLetter.f isL G.letr
  have e : ∀ x : Bool, (x = true ↔ ((97 ≤ (b.toNat : Int) ∧ (b.toNat : Int) ≤ 122) ∨ (65 ≤ (b.toNat : Int) ∧ (b.toNat : Int) ≤ 90) ∨ (b.toNat : Int) = 95)) → some x = some (decide ((97 ≤ (b.toNat : Int) ∧ (b.toNat : Int) ≤ 122) ∨ (65 ≤ (b.toNat : Int) ∧ (b.toNat : Int) ≤ 90) ∨ (b.toNat : Int) = 95)) := fun x h => by rw [Option.some.injEq, Bool.eq_iff_iff, decide_eq_true_iff]; exact h
  repeat' split
  all_goals refine e _ ?_
  all_goals first | (simp only [true_iff]; omega) | (rw [beq_iff_eq]; omega)
theorem isD_iff (b : UInt8) : isD b = true ↔ (48 ≤ b.toNat ∧ b.toNat ≤ 57) := by
  unfold isD G.dig; rw [decide_eq_true_iff]; omega
theorem isD_not {b : UInt8} (h : ¬ (48 ≤ b.toNat ∧ b.toNat ≤ 57)) : isD b = false := by
  rw [← Bool.not_eq_true, isD_iff]; exact h
theorem hex_ev (b : UInt8) : Ev (fun k => lex_hex.f k (b.toNat : Int)) (hexI b) := by
  unfold lex_hex.f hexI hexv
  simp only [isD_eq, Option.bind_some]
  by_cases h1 : 48 ≤ b.toNat ∧ b.toNat ≤ 57
  · simp only [(isD_iff b).2 h1, if_true, if_pos h1]
    rw [show (((b.toNat : Int) - 48) % 256) = ((b.toNat - 48 : Nat) : Int) by omega]
    exact Ev.now _
  · simp only [isD_not h1, Bool.false_eq_true, if_false, if_neg h1]
    by_cases h2 : 97 ≤ b.toNat ∧ b.toNat ≤ 102
    · simp only [if_pos h2, if_pos (show (b.toNat : Int) ≥ 97 by omega)]
      refine Ev.step (fun k => by simp only [lex_hex.j0]; rfl) ?_
      simp only [decide_eq_true (show (b.toNat : Int) ≤ 102 by omega), if_true]
      rw [show (((b.toNat : Int) - 97) % 256) + 10 = ((b.toNat - 87 : Nat) : Int) by omega]
      exact Ev.now _
    · simp only [if_neg h2]
      have key : Ev (fun k => lex_hex.j0 k (b.toNat : Int) false) (match (if 65 ≤ b.toNat ∧ b.toNat ≤ 70 then some (b.toNat - 55) else none : Option Nat) with | some n => (n : Int) | none => -1) := by
        refine Ev.step (fun k => by simp only [lex_hex.j0]; rfl) ?_
        simp only [Bool.false_eq_true, if_false]
        by_cases h3 : 65 ≤ b.toNat
        · simp only [if_pos (show (b.toNat : Int) ≥ 65 by omega)]
          by_cases h4 : b.toNat ≤ 70
          · simp only [if_pos (show (b.toNat : Int) ≤ 70 by omega), if_pos (And.intro h3 h4)]
            rw [show (((b.toNat : Int) - 65) % 256) + 10 = ((b.toNat - 55 : Nat) : Int) by omega]
            exact Ev.now _
          · simp only [if_neg (show ¬ (b.toNat : Int) ≤ 70 by omega), if_neg (show ¬ (65 ≤ b.toNat ∧ b.toNat ≤ 70) by omega)]
            exact Ev.now _
        · simp only [if_neg (show ¬ (b.toNat : Int) ≥ 65 by omega), if_neg (show ¬ (65 ≤ b.toNat ∧ b.toNat ≤ 70) by omega)]
          exact Ev.now _
      by_cases h5 : (b.toNat : Int) ≥ 97
      · simp only [if_pos h5, decide_eq_false (show ¬ (b.toNat : Int) ≤ 102 by omega)]; exact key
      · simp only [if_neg h5]; exact key
theorem hexv_lt {b : UInt8} {x : Nat} (h : hexv b = some x) : x < 16 := by
  unfold hexv at h
  split at h
  · cases h; omega
  split at h
  · cases h; omega
  split at h
  · cases h; omega
  · cases h
theorem u8_nat {n : Nat} (h : n < 256) : ((n.toUInt8).toNat : Int) = (n : Int) := by
  rw [show n.toUInt8 = UInt8.ofNat n from rfl, UInt8.toNat_ofNat']; omega
/-- What the program's escape answers at place p, t behind the backslash. -/
def escOut (p : Nat) (t : List UInt8) : Int × Int := match esc t with | some (c, n) => ((c.toNat : Int), ((p + 1 + n : Nat) : Int)) | none => (0, 0)
theorem escape_ev (s : ByteArray) (hs : s.size ≤ 70368744177664) (p : Nat) (b : UInt8) (t : List UInt8) (hp : s.data.toList.drop p = b :: t) : Ev (fun k => lex_escape.f k s (p : Int)) (escOut p t) := by
  have hlt := drop_lt hp
  have hn1 := drop_next hp
  have hsz := drop_len hp (by omega)
  rw [List.length_cons] at hsz
  have W1 : wrap64 ((p : Int) + 1) = ((p + 1 : Nat) : Int) := w1 1 (by omega)
  have W2 : wrap64 ((p : Int) + 2) = ((p + 2 : Nat) : Int) := w1 2 (by omega)
  have W3 : wrap64 ((p : Int) + 3) = ((p + 3 : Nat) : Int) := w1 3 (by omega)
  have W4 : wrap64 ((p : Int) + 4) = ((p + 4 : Nat) : Int) := w1 4 (by omega)
  unfold lex_escape.f escOut
  simp only [W1]
  cases t with
  | nil =>
    simp only [List.length_nil] at hsz
    simp only [if_pos (show ((p + 1 : Nat) : Int) ≥ (s.size : Int) by omega), esc]
    exact Ev.now _
  | cons c t =>
    have hb1 := bt_drop hn1
    have hn2 := drop_next hn1
    simp only [List.length_cons] at hsz
    simp only [if_neg (show ¬ ((p + 1 : Nat) : Int) ≥ (s.size : Int) by omega), if_pos (show (0 : Int) ≤ ((p + 1 : Nat) : Int) by omega), if_pos (show ((p + 1 : Nat) : Int) < (s.size : Int) by omega), hb1, esc]
    by_cases h1 : c.toNat = 92 ∨ c.toNat = 34
    · have key : Ev (fun k => lex_escape.j0 k s (p : Int) (c.toNat : Int) true) ((c.toNat : Int), ((p + 1 + 1 : Nat) : Int)) := by
        refine Ev.step (fun k => by simp only [lex_escape.j0]; rfl) ?_
        simp only [if_true, W1, W2, if_pos (show (0 : Int) ≤ ((p + 1 : Nat) : Int) by omega), if_pos (show ((p + 1 : Nat) : Int) < (s.size : Int) by omega), hb1]
        exact Ev.now _
      simp only [if_pos h1]
      by_cases h2 : c.toNat = 92
      · simp only [if_pos (show (c.toNat : Int) = 92 by omega), show ((c.toNat : Int) == 92) = true by rw [beq_iff_eq]; omega]; exact key
      · simp only [if_neg (show ¬ (c.toNat : Int) = 92 by omega), show ((c.toNat : Int) == 34) = true by rw [beq_iff_eq]; omega]; exact key
    · have h92 : ¬ (c.toNat : Int) = 92 := by omega
      have h34 : ((c.toNat : Int) == 34) = false := by rw [beq_eq_false_iff_ne]; omega
      simp only [if_neg h1, if_neg h92, h34]
      refine Ev.step (fun k => by simp only [lex_escape.j0]; rfl) ?_
      simp only [Bool.false_eq_true, if_false, W2, W3]
      by_cases h2 : c.toNat = 110
      · simp only [if_pos h2, if_pos (show (c.toNat : Int) = 110 by omega)]; exact Ev.now _
      simp only [if_neg h2, if_neg (show ¬ (c.toNat : Int) = 110 by omega)]
      by_cases h3 : c.toNat = 116
      · simp only [if_pos h3, if_pos (show (c.toNat : Int) = 116 by omega)]; exact Ev.now _
      simp only [if_neg h3, if_neg (show ¬ (c.toNat : Int) = 116 by omega)]
      by_cases h4 : c.toNat = 120
      · simp only [if_pos h4, if_pos (show (c.toNat : Int) = 120 by omega)]
        have jF : Ev (fun k => lex_escape.j1 k s (p : Int) false) ((0 : Int), (0 : Int)) := by
          refine Ev.step (fun k => by simp only [lex_escape.j1]; rfl) ?_
          simp only [Bool.false_eq_true, if_false]; exact Ev.now _
        match t, hn2, hsz with
        | [], _, hsz =>
          simp only [List.length_nil] at hsz
          simp only [if_neg (show ¬ ((p + 3 : Nat) : Int) < (s.size : Int) by omega), escx]; exact jF
        | [a], _, hsz =>
          simp only [List.length_nil, List.length_cons] at hsz
          simp only [if_neg (show ¬ ((p + 3 : Nat) : Int) < (s.size : Int) by omega), escx]; exact jF
        | a :: e :: t', hn2, hsz =>
          simp only [List.length_cons] at hsz
          have hba := bt_drop hn2
          have hbe := bt_drop (drop_next hn2)
          simp only [if_pos (show ((p + 3 : Nat) : Int) < (s.size : Int) by omega), if_pos (show (0 : Int) ≤ ((p + 2 : Nat) : Int) by omega), if_pos (show ((p + 2 : Nat) : Int) < (s.size : Int) by omega), if_pos (show (0 : Int) ≤ ((p + 3 : Nat) : Int) by omega), escx]
          rw [show bt s ((p + 2 : Nat) : Int) = (a.toNat : Int) from hba, show bt s ((p + 3 : Nat) : Int) = (e.toNat : Int) from hbe]
          refine Ev.bind (hex_ev a) ?_
          have hea := hex_ev a
          have hee := hex_ev e
          unfold hexI at hea hee ⊢
          cases hx : hexv a with
          | none =>
            simp only [if_neg (show ¬ ((-1 : Int)) ≥ 0 by omega)]
            exact jF
          | some x =>
            simp only [if_pos (show (x : Int) ≥ 0 by omega)]
            rw [hx] at hea; simp only at hea
            refine Ev.bind hee ?_
            cases hy : hexv e with
            | none =>
              simp only [decide_eq_false (show ¬ ((-1 : Int)) ≥ 0 by omega)]
              exact jF
            | some y =>
              rw [hy] at hee; simp only at hee
              have lx := hexv_lt hx
              have ly := hexv_lt hy
              simp only [decide_eq_true (show (y : Int) ≥ 0 by omega)]
              refine Ev.step (fun k => by simp only [lex_escape.j1]; rfl) ?_
              simp only [if_true, W2, W3, W4, if_pos (show ((p + 3 : Nat) : Int) < (s.size : Int) by omega), if_pos (show (0 : Int) ≤ ((p + 2 : Nat) : Int) by omega), if_pos (show ((p + 2 : Nat) : Int) < (s.size : Int) by omega), if_pos (show (0 : Int) ≤ ((p + 3 : Nat) : Int) by omega)]
              rw [show bt s ((p + 2 : Nat) : Int) = (a.toNat : Int) from hba, show bt s ((p + 3 : Nat) : Int) = (e.toNat : Int) from hbe]
              refine Ev.bind hea ?_
              refine Ev.bind hee ?_
              rw [w64s (x := 16 * (x : Int)) (by omega) (by omega), w64s (x := 16 * (x : Int) + (y : Int)) (by omega) (by omega), u8_nat (show 16 * x + y < 256 by omega),
                show (16 * (x : Int) + (y : Int)) % 256 = ((16 * x + y : Nat) : Int) by omega]
              exact Ev.now _
      · simp only [if_neg h4, if_neg (show ¬ (c.toNat : Int) = 120 by omega)]; exact Ev.now _

def nums (l : List UInt8) : List Int := l.map fun b => (b.toNat : Int)
theorem nums_snoc (l : List UInt8) (b : UInt8) : nums l ++ [(b.toNat : Int)] = nums (l ++ [b]) := by unfold nums; simp
theorem nums_len (l : List UInt8) : (nums l).length = l.length := by unfold nums; simp
theorem strOf (l : List UInt8) : strOfNums (nums l) = ba l := by
  unfold strOfNums nums ba
  rw [List.map_map]
  congr 2
  conv => rhs; rw [← List.map_id l]
  apply List.map_congr_left
  intro b hb
  simp
/-- What a token at place i is answered as. -/
def TokOut (i : Nat) : R → Int × ByteArray × Int × Int × Int × Int × Int → Prop
  | .ok t, p => p = ((t.kind : Int), ba t.text, (t.num : Int), (i : Int), ((i + t.len : Nat) : Int), 0, 0)
  | .bad a e, p => p.2.2.2.2.2.1 = ((i + a : Nat) : Int) ∧ p.2.2.2.2.2.2 = (e : Int) ∧ e ≠ 0
theorem text_ev (s : ByteArray) (hs : s.size ≤ 70368744177664) (i : Nat) : ∀ (d off : Nat) (acc : List UInt8), s.size - (i + off) ≤ d → i + off ≤ s.size → acc.length ≤ off →
    ∃ p, Ev (fun k => lex_text.l0 k s (i : Int) (nums acc) ((i + off : Nat) : Int)) p ∧ TokOut i (tx off acc (s.data.toList.drop (i + off))) p := by
  have bad : ∀ (off : Nat) (acc : List UInt8), Ev (fun k => lex_text.j1 k s (i : Int) (nums acc) ((i + off : Nat) : Int) false) ((0 : Int), (⟨#[]⟩ : ByteArray), (0 : Int), (0 : Int), (0 : Int), (i : Int), (81 : Int)) := by
    intro off acc
    refine Ev.step (fun k => by simp only [lex_text.j1]; rfl) ?_
    simp only [Bool.false_eq_true, if_false]; exact Ev.now _
  intro d
  induction d with
  | zero =>
    intro off acc hd hi ha
    have e : s.data.toList.drop (i + off) = [] := List.drop_of_length_le (by rw [← size_len]; omega)
    refine ⟨((0 : Int), (⟨#[]⟩ : ByteArray), (0 : Int), (0 : Int), (0 : Int), (i : Int), (81 : Int)), Ev.step (fun k => by simp only [lex_text.l0]; rfl) ?_, ?_⟩
    · simp only [if_neg (show ¬ ((i + off : Nat) : Int) < (s.size : Int) by omega)]; exact bad off acc
    · rw [e, tx]; exact ⟨by simp, rfl, by decide⟩
  | succ d ih =>
    intro off acc hd hi ha
    cases hl : s.data.toList.drop (i + off) with
    | nil =>
      have := drop_len hl hi
      simp only [List.length_nil] at this
      have := ih off acc (by omega) hi ha
      rw [hl] at this; exact this
    | cons b t =>
      have hlt := drop_lt hl
      have hbt := bt_drop hl
      have hnx := drop_next hl
      have hsz := drop_len hl hi
      rw [List.length_cons] at hsz
      rw [tx]
      by_cases h1 : b.toNat = 10
      · rw [if_pos h1]
        refine ⟨((0 : Int), (⟨#[]⟩ : ByteArray), (0 : Int), (0 : Int), (0 : Int), (i : Int), (81 : Int)), Ev.step (fun k => by simp only [lex_text.l0]; rfl) ?_, ?_⟩
        · simp only [if_pos (show ((i + off : Nat) : Int) < (s.size : Int) by omega), if_pos (show (0 : Int) ≤ ((i + off : Nat) : Int) by omega), hbt, show ((b.toNat : Int) != 10) = false by rw [bne_eq_false_iff_eq]; omega]; exact bad off acc
        · exact ⟨by simp, rfl, by decide⟩
      rw [if_neg h1]
      have st : ∀ p, Ev (fun k => if (b.toNat : Int) = 34 then some ((3 : Int), strOfNums (nums acc), (0 : Int), (i : Int), wrap64 (((i + off : Nat) : Int) + 1), (0 : Int), (0 : Int))
          else if (b.toNat : Int) = 92 then (lex_escape.f k s ((i + off : Nat) : Int)).bind fun bt108 => if bt108.2 = 0 then some ((0 : Int), (⟨#[]⟩ : ByteArray), (0 : Int), (0 : Int), (0 : Int), ((i + off : Nat) : Int), (82 : Int)) else if (nums acc).length < 140737488355328 then lex_text.l0 k s (i : Int) (nums acc ++ [bt108.1]) bt108.2 else none
          else if (nums acc).length < 140737488355328 then lex_text.l0 k s (i : Int) (nums acc ++ [(b.toNat : Int)]) (wrap64 (((i + off : Nat) : Int) + 1)) else none) p →
          Ev (fun k => lex_text.l0 k s (i : Int) (nums acc) ((i + off : Nat) : Int)) p := by
        intro p hp
        refine Ev.step (fun k => by simp only [lex_text.l0]; rfl) ?_
        simp only [if_pos (show ((i + off : Nat) : Int) < (s.size : Int) by omega), if_pos (show (0 : Int) ≤ ((i + off : Nat) : Int) by omega), hbt, show ((b.toNat : Int) != 10) = true by rw [bne_iff_ne]; omega]
        refine Ev.step (fun k => by simp only [lex_text.j1]; rfl) ?_
        simp only [if_true, if_pos (show ((i + off : Nat) : Int) < (s.size : Int) by omega), if_pos (show (0 : Int) ≤ ((i + off : Nat) : Int) by omega), hbt]
        exact hp
      have W : wrap64 (((i + off : Nat) : Int) + 1) = ((i + (off + 1) : Nat) : Int) := w1 (i := i + off) 1 (by omega)
      by_cases h2 : b.toNat = 34
      · rw [if_pos h2]
        refine ⟨((3 : Int), ba acc, (0 : Int), (i : Int), ((i + (off + 1) : Nat) : Int), (0 : Int), (0 : Int)), st _ ?_, ?_⟩
        · simp only [if_pos (show (b.toNat : Int) = 34 by omega), strOf, W]; exact Ev.now _
        · rfl
      rw [if_neg h2]
      by_cases h3 : b.toNat = 92
      · rw [if_pos h3]
        have he := escape_ev s hs (i + off) b t hl
        unfold escOut at he
        cases hx : esc t with
        | none =>
          rw [hx] at he
          refine ⟨((0 : Int), (⟨#[]⟩ : ByteArray), (0 : Int), (0 : Int), (0 : Int), ((i + off : Nat) : Int), (82 : Int)), st _ ?_, ?_⟩
          · simp only [if_neg (show ¬ (b.toNat : Int) = 34 by omega), if_pos (show (b.toNat : Int) = 92 by omega)]
            refine Ev.bind he ?_
            exact Ev.now _
          · exact ⟨rfl, rfl, by decide⟩
        | some q =>
          obtain ⟨c, n⟩ := q
          rw [hx] at he; simp only at he ⊢
          have hn := (esc_le hx).2
          obtain ⟨p, hp1, hp2⟩ := ih (off + n + 1) (acc ++ [c]) (by omega) (by omega) (by simp only [List.length_append, List.length_cons, List.length_nil]; omega)
          have hdr : s.data.toList.drop (i + (off + n + 1)) = t.drop n := by
            rw [show i + (off + n + 1) = (i + off) + 1 + n by omega, ← List.drop_drop, hnx]
          rw [hdr] at hp2
          refine ⟨p, st _ ?_, hp2⟩
          simp only [if_neg (show ¬ (b.toNat : Int) = 34 by omega), if_pos (show (b.toNat : Int) = 92 by omega)]
          refine Ev.bind he ?_
          simp only [if_neg (show ¬ ((i + off + 1 + n : Nat) : Int) = 0 by omega), if_pos (show (nums acc).length < 140737488355328 by rw [nums_len]; omega), nums_snoc]
          rw [show i + off + 1 + n = i + (off + n + 1) by omega]
          exact hp1
      · rw [if_neg h3]
        obtain ⟨p, hp1, hp2⟩ := ih (off + 1) (acc ++ [b]) (by omega) (by omega) (by simp only [List.length_append, List.length_cons, List.length_nil]; omega)
        rw [show i + (off + 1) = i + off + 1 by omega, hnx] at hp2
        refine ⟨p, st _ ?_, hp2⟩
        simp only [if_neg (show ¬ (b.toNat : Int) = 34 by omega), if_neg (show ¬ (b.toNat : Int) = 92 by omega), if_pos (show (nums acc).length < 140737488355328 by rw [nums_len]; omega), nums_snoc, W]
        exact hp1
theorem tw_lead (n : Nat) (p : UInt8 → Bool) (hp : ∀ b : UInt8, G.okb n (b.toNat : Int) = p b) (l : List UInt8) : G.tw n l = lead p l := by
  induction l with
  | nil => rfl
  | cons b t ih => rw [G.tw_cons, lead, hp b, ih]
theorem run_eq {n : Nat} {p : UInt8 → Bool} (hn : n = 27 ∨ n = 26 ∨ n = 36) (hp : ∀ b : UInt8, G.okb n (b.toNat : Int) = p b) (s : ByteArray) (hs : s.size ≤ 70368744177664) (i : Nat) (hi : i ≤ s.size) :
    lex_run.f s (i : Int) n = some ((i + lead p (s.data.toList.drop i) : Nat) : Int) := by
  unfold lex_run.f
  rw [if_pos ⟨by omega, by omega, by omega, hn⟩, Int.toNat_natCast, tw_lead n p hp]
theorem mark_iff (b : UInt8) : Lib.indexByte [123, 125, 40, 41, 58, 59, 44, 61, 43, 45, 42] b ≥ 0 ↔ b.toNat ∈ marks := by
  have key : ∀ (l : List UInt8) (c : UInt8), Lib.indexByte l c ≥ 0 ↔ c ∈ l := by
    intro l c
    induction l with
    | nil => simp [Lib.indexByte]
    | cons a t ih =>
      rw [indexByte_cons, List.mem_cons, ← ih]
      by_cases h : a = c
      · subst h; simp
      · have h1 : (a == c) = false := by simpa using h
        have h2 : ¬ c = a := fun e => h e.symm
        rw [h1]
        have := Lib.indexByte_ge t c
        by_cases h3 : Lib.indexByte t c = -1
        · rw [h3]; simp [h2]
        · have h4 : (Lib.indexByte t c == -1) = false := by simpa using h3
          rw [h4]
          simp only [Bool.false_eq_true, if_false, h2, false_or]
          omega
  rw [key]
  unfold marks
  simp only [List.mem_cons, List.not_mem_nil, or_false, ← UInt8.toNat_inj]
  rfl
theorem token_ev (s : ByteArray) (hs : s.size ≤ 70368744177664) (i : Nat) (b : UInt8) (t : List UInt8) (hl : s.data.toList.drop i = b :: t) : ∃ p, Ev (fun k => lex_token.f k s (i : Int)) p ∧ TokOut i (L.tok (s.data.toList.drop i)) p := by
  have hlt := drop_lt hl
  have hbt := bt_drop hl
  have hnx := drop_next hl
  have hsz := drop_len hl (by omega)
  rw [List.length_cons] at hsz
  have c1 : (0 : Int) ≤ (i : Int) := by omega
  have c2 : (i : Int) < (s.size : Int) := by omega
  have W : wrap64 ((i : Int) + 1) = ((i + 1 : Nat) : Int) := w1 1 (by omega)
  unfold lex_token.f
  simp only [if_pos c1, if_pos c2, hbt, isL_eq, isD_eq, Option.bind_some]
  rw [hl, L.tok]
  have lw := lead_le isW (b :: t)
  have ld := lead_le isD (b :: t)
  rw [List.length_cons] at lw ld
  by_cases h1 : isL b = true
  · have hr := run_eq (n := 36) (p := isW) (.inr (.inr rfl)) (fun b => rfl) s hs i (by omega)
    rw [hl] at hr
    have hx := ba_ext s i (i + lead isW (b :: t))
    rw [Nat.add_sub_cancel_left, hl] at hx
    have hxs : ((s.extract i (i + lead isW (b :: t))).size : Int) = ((lead isW (b :: t) : Nat) : Int) := by
      rw [hx, size_len, ba_list, List.length_take]; simp only [List.length_cons]; omega
    rw [if_pos h1]
    simp only [h1, if_true, hr, Option.bind_some, if_pos (show (i : Int) ≤ ((i + lead isW (b :: t) : Nat) : Int) by omega), if_pos (show ((i + lead isW (b :: t) : Nat) : Int) ≤ (s.size : Int) by omega), Int.toNat_natCast, hxs]
    by_cases h64 : lead isW (b :: t) > 64
    · rw [if_pos h64]
      simp only [if_pos (show ((lead isW (b :: t) : Nat) : Int) > 64 by omega)]
      exact ⟨_, Ev.now _, rfl, rfl, by decide⟩
    · rw [if_neg h64]
      simp only [if_neg (show ¬ ((lead isW (b :: t) : Nat) : Int) > 64 by omega)]
      exact ⟨_, Ev.now _, by rw [hx]; rfl⟩
  have h1' : isL b = false := by simpa using h1
  rw [if_neg h1]
  simp only [h1', Bool.false_eq_true, if_false]
  by_cases h2 : isD b = true
  · have hr := run_eq (n := 27) (p := isD) (.inl rfl) (fun b => rfl) s hs i (by omega)
    rw [hl] at hr
    have hx := ba_ext s i (i + lead isD (b :: t))
    rw [Nat.add_sub_cancel_left, hl] at hx
    rw [if_pos h2]
    have hnum : lex_number.f (s.extract i (i + lead isD (b :: t))) = some (match G.numv 0 ((b :: t).take (lead isD (b :: t))) with | some x => ((x : Int), true) | none => (0, false)) := by
      unfold lex_number.f
      rw [hx, ba_list, if_pos (by rw [size_len, ba_list, List.length_take]; omega)]
      cases G.numv 0 ((b :: t).take (lead isD (b :: t))) <;> rfl
    simp only [h2, if_true, hr, Option.bind_some, if_pos (show (i : Int) ≤ ((i + lead isD (b :: t) : Nat) : Int) by omega), if_pos (show ((i + lead isD (b :: t) : Nat) : Int) ≤ (s.size : Int) by omega), Int.toNat_natCast, hnum]
    cases G.numv 0 ((b :: t).take (lead isD (b :: t))) with
    | none => simp only [Bool.false_eq_true, if_false]; exact ⟨_, Ev.now _, rfl, rfl, by decide⟩
    | some x => simp only [if_true]; exact ⟨_, Ev.now _, rfl⟩
  have h2' : isD b = false := by simpa using h2
  rw [if_neg h2]
  simp only [h2', Bool.false_eq_true, if_false]
  by_cases h3 : b.toNat = 34
  · rw [if_pos h3]
    simp only [if_pos (show (b.toNat : Int) = 34 by omega)]
    obtain ⟨p, hp1, hp2⟩ := text_ev s hs i (s.size) 1 [] (by omega) (by omega) (by simp)
    rw [hnx] at hp2
    refine ⟨p, ?_, hp2⟩
    have hp3 : Ev (fun k => lex_text.f k s (i : Int)) p := Ev.congr (fun k => by unfold lex_text.f; rw [W]; rfl) hp1
    exact Ev.bind hp3 (Ev.now _)
  rw [if_neg h3]
  simp only [if_neg (show ¬ (b.toNat : Int) = 34 by omega)]
  have hix : strings_IndexByte.f (⟨#[123, 125, 40, 41, 58, 59, 44, 61, 43, 45, 42]⟩ : ByteArray) (b.toNat : Int) = some (Lib.indexByte [123, 125, 40, 41, 58, 59, 44, 61, 43, 45, 42] b) := by
    unfold strings_IndexByte.f
    rw [Int.toNat_natCast, show b.toNat.toUInt8 = b from UInt8.ofNat_toNat]
  simp only [hix, Option.bind_some]
  by_cases h4 : b.toNat ∈ marks
  · rw [if_pos h4]
    have hx := ba_ext s i (i + 1)
    rw [Nat.add_sub_cancel_left, hl] at hx
    simp only [if_pos ((mark_iff b).2 h4), W, if_pos (show (i : Int) ≤ ((i + 1 : Nat) : Int) by omega), if_pos (show ((i + 1 : Nat) : Int) ≤ (s.size : Int) by omega), Int.toNat_natCast, hx]
    exact ⟨_, Ev.now _, rfl⟩
  · rw [if_neg h4]
    simp only [if_neg (fun h => h4 ((mark_iff b).1 h))]
    exact ⟨_, Ev.now _, rfl, rfl, by decide⟩
end Go.Proofs.Ytedhkelochpdnaa.T
