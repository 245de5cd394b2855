/- Lex, Name and Quote answer what the plain ones say; the laws' own check that the program is awake. No condition but the sizes. -/
import Derived.Test.YtedhkelochpdnaaX5
import Derived.Test.YtedhkelochpdnaaT0
import Derived.KernelRfl
set_option linter.unusedVariables false
set_option linter.unusedSimpArgs false
namespace Go.Proofs.Ytedhkelochpdnaa.T
open Go.RowKit Go.Proofs.Ytedhkelochpdnaa Go.Proofs.Ytedhkelochpdnaa.X Go.Proofs.Ytedhkelochpdnaa.L Go.Proofs.YtedhkelochpdnaaW.PrintWords Go.Proofs.YtedhkelochpdnaaW.PrintLast Go.Proofs.YtedhkelochpdnaaW.PrintMore

def toS (t : L.Tok) : S32 := ⟨(t.kind : Int), ba t.text, (t.num : Int), (t.at' : Int), (t.fin : Int)⟩
def outL (acc : List S32) : LR → List S32 × Int × Int
  | .toks l => (acc ++ l.map toS, 0, 0)
  | .bad a e => ([], (a : Int), (e : Int))
theorem outL_push (acc : List S32) (t : L.Tok) (r : LR) : outL acc (r.push t) = outL (acc ++ [toS t]) r := by
  cases r with
  | toks l => simp [LR.push, outL]
  | bad a e => rfl
theorem loop_ev (s : ByteArray) (hs : s.size ≤ 1048576) : ∀ (d off : Nat) (acc : List S32), s.size - off ≤ d → off ≤ s.size → acc.length ≤ off →
    Ev (fun k => lex_Lex.l0 k s acc ((off + sk false (s.data.toList.drop off) : Nat) : Int)) (outL acc (lx off (s.data.toList.drop off))) := by
  intro d
  induction d with
  | zero =>
    intro off acc hd hi ha
    have e : s.data.toList.drop off = [] := List.drop_of_length_le (by rw [← size_len]; omega)
    refine Ev.step (fun k => by simp only [lex_Lex.l0]; rfl) ?_
    rw [e, lx_end rfl]
    simp only [sk, Nat.add_zero, if_neg (show ¬ (off : Int) < (s.size : Int) by omega), if_pos (show acc.length < 2932031007402 by omega), List.length_nil]
    obtain rfl : off = s.size := by omega
    exact Ev.now _
  | succ d ih =>
    intro off acc hd hi ha
    have hlen : (s.data.toList.drop off).length = s.size - off := by rw [List.length_drop, ← size_len]
    have hsk := sk_le false (s.data.toList.drop off)
    by_cases hz : sk false (s.data.toList.drop off) = (s.data.toList.drop off).length
    · refine Ev.step (fun k => by simp only [lex_Lex.l0]; rfl) ?_
      rw [lx_end hz, hz, hlen, show off + (s.size - off) = s.size by omega]
      simp only [Int.lt_irrefl, if_false, if_pos (show acc.length < 2932031007402 by omega)]
      exact Ev.now _
    · obtain ⟨i, hi2⟩ : ∃ i, i = off + sk false (s.data.toList.drop off) := ⟨_, rfl⟩
      have hdr : (s.data.toList.drop off).drop (sk false (s.data.toList.drop off)) = s.data.toList.drop i := by rw [List.drop_drop, hi2]
      have hil : i < s.size := by omega
      cases hl : s.data.toList.drop i with
      | nil => have := drop_len hl (by omega); simp only [List.length_nil] at this; omega
      | cons b t =>
        obtain ⟨p, hp1, hp2⟩ := token_ev s (by omega) i b t hl
        refine Ev.step (fun k => by simp only [lex_Lex.l0]; rfl) ?_
        simp only [← hi2, if_pos (show (i : Int) < (s.size : Int) by omega)]
        refine Ev.bind hp1 ?_
        cases ht : L.tok (s.data.toList.drop i) with
        | bad a e =>
          rw [ht] at hp2
          obtain ⟨h1, h2, h3⟩ := hp2
          rw [lx_bad (a := a) (e := e) hz (by rw [hdr]; exact ht), ← hi2]
          simp only [h1, h2, if_neg (show ¬ (e : Int) = 0 by omega)]
          exact Ev.now _
        | ok t' =>
          rw [ht] at hp2
          have hp2' : p = ((t'.kind : Int), ba t'.text, (t'.num : Int), (i : Int), ((i + t'.len : Nat) : Int), 0, 0) := hp2
          have htl := tok_len ht
          rw [List.length_drop, ← size_len] at htl
          subst hp2'
          rw [lx_ok (t := t') hz (by rw [hdr]; exact ht), ← hi2]
          simp only [if_true, if_pos (show acc.length < 2932031007402 by omega)]
          have hsk2 := (skip_ev s (by omega) _ (i + t'.len) (Nat.le_refl _) (by omega))
          have hnx := ih (i + t'.len) (acc ++ [toS (t'.at_ i)]) (by omega) (by omega) (by simp only [List.length_append, List.length_cons, List.length_nil]; omega)
          rw [outL_push, show (s.data.toList.drop off).drop (sk false (s.data.toList.drop off) + t'.len) = s.data.toList.drop (i + t'.len) by rw [← List.drop_drop, hdr, List.drop_drop]]
          refine Ev.bind (g := fun k => lex_skip.f k s ((i + t'.len : Nat) : Int)) hsk2 ?_
          exact hnx
theorem lexes_ev (s : ByteArray) : Ev (fun k => lex_Lex.f k s) (outL [] (L.Lex s.data.toList)) := by
  unfold L.Lex
  rw [← size_len]
  by_cases h : s.size > 1048576
  · rw [if_pos h]
    refine Ev.congr (fun k => ?_) (Ev.now _)
    unfold lex_Lex.f
    rw [if_pos (by omega)]; rfl
  · rw [if_neg h]
    have h1 := skip_ev s (by omega) _ 0 (Nat.le_refl _) (by omega)
    have h2 := loop_ev s (by omega) _ 0 [] (Nat.le_refl _) (by omega) (Nat.le_refl _)
    rw [List.drop_zero] at h1 h2
    refine Ev.congr (f := fun k => (lex_skip.f k s 0).bind fun t132 => lex_Lex.l0 k s [] t132) (fun k => ?_) (Ev.bind (g := fun k => lex_skip.f k s 0) h1 h2)
    unfold lex_Lex.f
    rw [if_neg (by omega)]
theorem same_ev (l : List S32) (hl : l.length ≤ 4611686018427387904) : Ev (fun k => stratumlaw08_same.f k l l) true := by
  have key : ∀ (d i : Nat), l.length - i ≤ d → i ≤ l.length → Ev (fun k => stratumlaw08_same.l0 k l l (i : Int)) true := by
    intro d
    induction d with
    | zero =>
      intro i hd hi
      refine Ev.step (fun k => by simp only [stratumlaw08_same.l0]; rfl) ?_
      simp only [if_neg (show ¬ (i : Int) < (l.length : Int) by omega)]; exact Ev.now _
    | succ d ih =>
      intro i hd hi
      by_cases hlt : i < l.length
      · refine Ev.step (fun k => by simp only [stratumlaw08_same.l0]; rfl) ?_
        simp only [if_pos (show (i : Int) < (l.length : Int) by omega), if_pos (show (0 : Int) ≤ (i : Int) by omega), beq_self_eq_true, Bool.not_true, Bool.or_false, Bool.false_eq_true, if_false, w1 1 (show i + 1 ≤ 4611686018427387904 by omega)]
        rw [show wrap64 ((i : Int) + 1) = ((i + 1 : Nat) : Int) from w1 1 (by omega)]
        exact ih (i + 1) (by omega) (by omega)
      · exact ih i (by omega) hi
  have := key l.length 0 (by omega) (by omega)
  refine Ev.congr (fun k => ?_) this
  unfold stratumlaw08_same.f
  rw [if_pos rfl]; rfl
theorem Name_cons (b : UInt8) (t : List UInt8) : L.Name (b :: t) = (decide ((b :: t).length ≤ 64) && isL b && decide (lead isW (b :: t) = (b :: t).length)) := rfl
theorem Name_iff (l : List UInt8) : L.Name l = true ↔ ∃ b t, l = b :: t ∧ l.length ≤ 64 ∧ isL b = true ∧ lead isW l = l.length := by
  cases l with
  | nil => simp [L.Name]
  | cons b t =>
    unfold L.Name
    simp only [Bool.and_eq_true, decide_eq_true_eq]
    constructor
    · rintro ⟨⟨h1, h2⟩, h3⟩; exact ⟨b, t, rfl, h1, h2, h3⟩
    · rintro ⟨b', t', h0, h1, h2, h3⟩; cases h0; exact ⟨⟨h1, h2⟩, h3⟩
theorem name_eq (s : ByteArray) : lex_Name.f s = some (L.Name s.data.toList) := by
  unfold lex_Name.f
  cases hl : s.data.toList with
  | nil =>
    have : s.size = 0 := by rw [size_len, hl]; rfl
    rw [if_neg (by omega)]; rfl
  | cons b t =>
    have hsz : s.size = t.length + 1 := by rw [size_len, hl]; rfl
    rw [if_pos (by omega)]
    unfold L.Name
    simp only [List.length_cons]
    by_cases h1 : s.size ≤ 64
    · have hd : s.data.toList.drop 0 = b :: t := hl
      have hbt := bt_drop hd
      rw [if_pos (by omega), if_pos (by omega), show bt s 0 = (b.toNat : Int) from hbt, isL_eq, Option.bind_some, decide_eq_true (show t.length + 1 ≤ 64 by omega), Bool.true_and]
      by_cases h2 : isL b = true
      · have hr := run_eq (n := 26) (p := isW) (.inr (.inl rfl)) (fun b => rfl) s (by omega) 0 (by omega)
        rw [hd, Nat.zero_add] at hr
        rw [if_pos h2, show lex_run.f s 0 26 = _ from hr, Option.bind_some, h2, Bool.true_and]
        congr 1
        rw [Bool.eq_iff_iff, beq_iff_eq, decide_eq_true_iff]
        omega
      · rw [if_neg h2]; simp [h2]
    · rw [if_neg (by omega), decide_eq_false (show ¬ t.length + 1 ≤ 64 by omega)]; rfl
theorem ba_size (l : List UInt8) : (ba l).size = l.length := by rw [size_len, ba_list]
def digs : ByteArray := ⟨#[48, 49, 50, 51, 52, 53, 54, 55, 56, 57, 97, 98, 99, 100, 101, 102]⟩
theorem digs_hx : ∀ n : Nat, n < 16 → bt digs (n : Int) = ((L.hx n).toNat : Int) := by
  have : ∀ n : Fin 16, bt digs (n.val : Int) = ((L.hx n.val).toNat : Int) := by decide
  exact fun n h => this ⟨n, h⟩
theorem and15 (b : UInt8) : Go.bits .and .u8 (b.toNat : Int) 15 = ((b.toNat % 16 : Nat) : Int) := by
  have : ∀ n : Fin 256, Go.bits .and .u8 (n.val : Int) 15 = ((n.val % 16 : Nat) : Int) := by decide +kernel
  exact this ⟨b.toNat, b.toNat_lt⟩
theorem nums_app (l m : List UInt8) : nums l ++ nums m = nums (l ++ m) := by unfold nums; rw [List.map_append]
theorem nums2 (a b : UInt8) : [(a.toNat : Int), (b.toNat : Int)] = nums [a, b] := rfl
theorem quote_ev (s : ByteArray) (hs : s.size ≤ 4398046511104) : Ev (fun k => lex_Quote.f k s) (ba (L.Quote s.data.toList)) := by
  have key : ∀ (d i : Nat) (acc : List UInt8), s.size - i ≤ d → i ≤ s.size → acc.length ≤ 4 * i + 1 → Ev (fun k => lex_Quote.l0 k s (nums acc) (s.size : Int) (i : Int)) (ba (acc ++ (qs (s.data.toList.drop i) ++ [34]))) := by
    intro d
    induction d with
    | zero =>
      intro i acc hd hi ha
      have e : s.data.toList.drop i = [] := List.drop_of_length_le (by rw [← size_len]; omega)
      refine Ev.step (fun k => by simp only [lex_Quote.l0]; rfl) ?_
      rw [e]
      simp only [if_neg (show ¬ (i : Int) < (s.size : Int) by omega), if_pos (show (nums acc).length < 140737488355328 by rw [nums_len]; omega), qs, List.nil_append]
      rw [show nums acc ++ [34] = nums (acc ++ [34]) from nums_snoc acc 34, strOf]
      exact Ev.now _
    | succ d ih =>
      intro i acc hd hi ha
      cases hl : s.data.toList.drop i with
      | nil =>
        have := drop_len hl hi
        simp only [List.length_nil] at this
        have := ih i acc (by omega) hi ha
        rw [hl] at this; exact this
      | cons b t =>
        have hlt := drop_lt hl
        have hbt := bt_drop hl
        have hnx := drop_next hl
        have W : Aside0 (wrap64 ((i : Int) + 1) = ((i + 1 : Nat) : Int)) := ⟨w1 1 (by omega)⟩
        have hq := qb_len b
        have ihn := ih (i + 1) (acc ++ qb b) (by omega) (by omega) (by rw [List.length_append]; omega)
        rw [hnx] at ihn
        have hlen : (nums acc).length < 140737488355000 := by rw [nums_len]; omega
        have hb := b.toNat_lt
        have goal : acc ++ (qs (b :: t) ++ [34]) = acc ++ qb b ++ (qs t ++ [34]) := by rw [qs]; simp only [List.append_assoc]
        rw [goal]
        have fin : ∀ (e : List UInt8), qb b = e → Ev (fun k => lex_Quote.l0 k s (nums acc ++ nums e) (s.size : Int) ((i + 1 : Nat) : Int)) (ba (acc ++ qb b ++ (qs t ++ [34]))) := by
          intro e he; rw [← he, nums_app]; exact ihn
        have hj : ∀ x : Bool, (x = true ↔ (b.toNat = 92 ∨ b.toNat = 34)) → Ev (fun k => lex_Quote.j1 k s (nums acc) (b.toNat : Int) (s.size : Int) (i : Int) x) (ba (acc ++ qb b ++ (qs t ++ [34]))) := by
          intro x hxx
          refine Ev.step (fun k => by simp only [lex_Quote.j1]; rfl) ?_
          simp only [Option.bind_some, List.length_cons, List.length_nil, W.out]
          by_cases h1 : b.toNat = 92 ∨ b.toNat = 34
          · simp only [hxx.2 h1, if_true, if_pos (show (nums acc).length + (0 + 1 + 1) < 140737488355328 by omega)]
            exact fin [92, b] (by unfold qb; rw [if_pos h1])
          have hxf : ¬ x = true := fun h => h1 (hxx.1 h)
          simp only [if_neg hxf]
          by_cases h2 : b.toNat = 10
          · simp only [if_pos (show (b.toNat : Int) = 10 by omega), if_pos (show (nums acc).length + (0 + 1 + 1) < 140737488355328 by omega)]
            exact fin [92, 110] (by unfold qb; rw [if_neg h1, if_pos h2])
          simp only [if_neg (show ¬ (b.toNat : Int) = 10 by omega)]
          by_cases h3 : b.toNat = 9
          · simp only [if_pos (show (b.toNat : Int) = 9 by omega), if_pos (show (nums acc).length + (0 + 1 + 1) < 140737488355328 by omega)]
            exact fin [92, 116] (by unfold qb; rw [if_neg h1, if_neg h2, if_pos h3])
          simp only [if_neg (show ¬ (b.toNat : Int) = 9 by omega)]
          by_cases h4 : 32 ≤ b.toNat ∧ b.toNat ≤ 126
          · simp only [if_pos (show (b.toNat : Int) ≥ 32 by omega), if_pos (show (b.toNat : Int) ≤ 126 by omega), if_pos (show (nums acc).length < 140737488355328 by omega)]
            exact fin [b] (by unfold qb; rw [if_neg h1, if_neg h2, if_neg h3, if_pos h4])
          have d16 : (b.toNat : Int) / 16 = ((b.toNat / 16 : Nat) : Int) := rfl
          have dg1 : bt (⟨#[48, 49, 50, 51, 52, 53, 54, 55, 56, 57, 97, 98, 99, 100, 101, 102]⟩ : ByteArray) ((b.toNat / 16 : Nat) : Int) = ((L.hx (b.toNat / 16)).toNat : Int) := digs_hx _ (by omega)
          have dg2 : bt (⟨#[48, 49, 50, 51, 52, 53, 54, 55, 56, 57, 97, 98, 99, 100, 101, 102]⟩ : ByteArray) ((b.toNat % 16 : Nat) : Int) = ((L.hx (b.toNat % 16)).toNat : Int) := digs_hx _ (by omega)
          have last := fin [92, 120, L.hx (b.toNat / 16), L.hx (b.toNat % 16)] (by unfold qb; rw [if_neg h1, if_neg h2, if_neg h3, if_neg h4])
          by_cases h5 : (b.toNat : Int) ≥ 32
          · simp only [if_pos h5, if_neg (show ¬ (b.toNat : Int) ≤ 126 by omega), and15, d16, dg1, dg2, if_pos (show (0 : Int) ≤ ((b.toNat / 16 : Nat) : Int) by omega), if_pos (show ((b.toNat / 16 : Nat) : Int) < 16 by omega), if_pos (show (0 : Int) ≤ ((b.toNat % 16 : Nat) : Int) by omega), if_pos (show ((b.toNat % 16 : Nat) : Int) < 16 by omega), if_pos (show (nums acc).length + (0 + 1 + 1 + 1 + 1) < 140737488355328 by omega)]
            exact last
          · simp only [if_neg h5, and15, d16, dg1, dg2, if_pos (show (0 : Int) ≤ ((b.toNat / 16 : Nat) : Int) by omega), if_pos (show ((b.toNat / 16 : Nat) : Int) < 16 by omega), if_pos (show (0 : Int) ≤ ((b.toNat % 16 : Nat) : Int) by omega), if_pos (show ((b.toNat % 16 : Nat) : Int) < 16 by omega), if_pos (show (nums acc).length + (0 + 1 + 1 + 1 + 1) < 140737488355328 by omega)]
            exact last
        refine Ev.step (fun k => by simp only [lex_Quote.l0]; rfl) ?_
        simp only [if_pos (show (i : Int) < (s.size : Int) by omega), if_pos (show (0 : Int) ≤ (i : Int) by omega), hbt]
        by_cases h0 : b.toNat = 92
        · simp only [if_pos (show (b.toNat : Int) = 92 by omega)]
          exact hj true (by simp [h0])
        · simp only [if_neg (show ¬ (b.toNat : Int) = 92 by omega)]
          exact hj _ (by rw [beq_iff_eq]; omega)
  have := key s.size 0 [34] (by omega) (by omega) (by simp)
  rw [List.drop_zero] at this
  exact Ev.congr (fun k => rfl) this
theorem lives_ev : Ev (fun k => stratumlaw08_lives.f k) true := Ev.of (fun k => stratumlaw08_lives.mono k) (k := 60) (by kernel_rfl)
theorem lx_count : ∀ (d off : Nat) (l : List UInt8) (ts : List L.Tok), l.length ≤ d → lx off l = .toks ts → ts.length ≤ l.length + 1 := by
  intro d
  induction d with
  | zero =>
    intro off l ts hd h
    obtain rfl : l = [] := List.length_eq_zero_iff.1 (by omega)
    rw [lx_end rfl] at h; cases h; simp
  | succ d ih =>
    intro off l ts hd h
    rcases lx_cut off l with ⟨q, hq, e⟩ | ⟨g, w, r, t, rfl, hg, ht, hw, e⟩ | ⟨g, m, a, e, rfl, hg, hm, hne, ht, h2⟩
    · rw [e] at h; cases h; simp
    · have hl2 := tok_len ht
      rw [e] at h
      obtain ⟨l', h1, rfl⟩ := push_toks h
      simp only [List.length_append, List.length_cons] at hd ⊢
      have := ih _ r l' (by omega) h1
      omega
    · rw [h2] at h; cases h
theorem Lex_toks {l : List UInt8} {ts : List L.Tok} (h : L.Lex l = .toks ts) : l.length ≤ 1048576 ∧ lx 0 l = .toks ts ∧ ts.length ≤ l.length + 1 := by
  unfold L.Lex at h
  split at h
  · cases h
  · exact ⟨by omega, h, lx_count _ _ _ _ (Nat.le_refl _) h⟩
theorem Lex_bad {l : List UInt8} {a e : Nat} (h : L.Lex l = .bad a e) : (1048576 < l.length ∧ a = 0 ∧ e = 2) ∨ (l.length ≤ 1048576 ∧ lx 0 l = .bad a e ∧ a < l.length ∧ (e = 80 ∨ e = 81 ∨ e = 82 ∨ e = 111)) := by
  unfold L.Lex at h
  split at h
  · cases h; exact .inl ⟨by omega, rfl, rfl⟩
  · have := lx_faults [] _ _ _ _ _ (Nat.le_refl _) h
    exact .inr ⟨by omega, h, by omega, this.2.2.2.1⟩
theorem Lex_small {l : List UInt8} (h : l.length ≤ 1048576) : L.Lex l = lx 0 l := by
  unfold L.Lex; rw [if_neg (by omega)]
theorem out_count (l : List UInt8) : (outL [] (L.Lex l)).1.length ≤ 1048577 := by
  cases h : L.Lex l with
  | toks ts => have := Lex_toks h; simp [outL]; omega
  | bad a e => simp [outL]
theorem toList_data (s : ByteArray) : s.toList = s.data.toList := ByteArray.toList_eq s
theorem toList_ba (l : List UInt8) : (ba l).toList = l := by rw [toList_data, ba_list]
end Go.Proofs.Ytedhkelochpdnaa.T
