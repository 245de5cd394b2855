/- The reference's functions of layer 3 answer what the plain ones say. No condition but the sizes. -/
import Derived.Test.YtjplkgkkokcgjaaX4
import Derived.Test.YtjplkgkkokcgjaaT0
import Derived.Test.YtjplkgkkokcgjaaT1
set_option linter.unusedVariables false
set_option linter.unusedSimpArgs false
namespace Go.Proofs.Ytjplkgkkokcgjaa.T
open Go.RowKit Go.Proofs.Ytjplkgkkokcgjaa.X Go.Proofs.Ytjplkgkkokcgjaa.U Go.Proofs.YtjplkgkkokcgjaaW.PrintWords Go.Proofs.YtjplkgkkokcgjaaW.PrintLast Go.Proofs.YtjplkgkkokcgjaaW.PrintMore

theorem w64s {x : Int} (h0 : -4611686018427387904 ≤ x) (h1 : x ≤ 4611686018427387904) : wrap64 x = x := by unfold wrap64; omega
theorem refput_ev (c : Int) : Ev (fun k => stratumref03_Put.f k c) ⟨(iput c).toArray⟩ := by
  have no : iput c = [] → Ev (fun k => stratumref03_Put.j0 k c true) ⟨(iput c).toArray⟩ := by
    intro e
    refine Ev.step (fun k => by simp only [stratumref03_Put.j0]; rfl) ?_
    rw [e]
    simp only [if_true]
    exact Ev.now _
  unfold stratumref03_Put.f
  by_cases h0 : c < 0
  · simp only [if_pos h0]
    exact no (by unfold iput; rw [if_neg (fun h => by omega)])
  · simp only [if_neg h0]
    obtain ⟨n, rfl⟩ := Int.eq_ofNat_of_zero_le (show 0 ≤ c by omega)
    have hi : iput (n : Int) = if isch n = true then put n else [] := by
      unfold iput; rw [Int.toNat_natCast]
      by_cases hc : isch n = true
      · rw [if_pos ⟨by omega, hc⟩, if_pos hc]
      · rw [if_neg (fun h => hc h.2), if_neg hc]
    by_cases h1 : (n : Int) > 1114111
    · simp only [if_pos h1]
      refine no ?_
      rw [hi, if_neg]
      rw [isch_iff]; omega
    · simp only [if_neg h1]
      have yes : isch n = true → Ev (fun k => stratumref03_Put.j0 k (n : Int) false) ⟨(iput (n : Int)).toArray⟩ := by
        intro hc
        rw [hi, if_pos hc]
        refine Ev.step (fun k => by simp only [stratumref03_Put.j0]; rfl) ?_
        have t1 : Int.tdiv (n : Int) 64 = (n : Int) / 64 := Int.tdiv_eq_ediv_of_nonneg (by omega)
        have t2 : Int.tdiv (n : Int) 4096 = (n : Int) / 4096 := Int.tdiv_eq_ediv_of_nonneg (by omega)
        have t3 : Int.tdiv (n : Int) 262144 = (n : Int) / 262144 := Int.tdiv_eq_ediv_of_nonneg (by omega)
        have m1 : Int.tmod (n : Int) 64 = (n : Int) % 64 := Int.tmod_eq_emod_of_nonneg (by omega)
        have m2 : Int.tmod ((n : Int) / 64) 64 = (n : Int) / 64 % 64 := Int.tmod_eq_emod_of_nonneg (by omega)
        have m3 : Int.tmod ((n : Int) / 4096) 64 = (n : Int) / 4096 % 64 := Int.tmod_eq_emod_of_nonneg (by omega)
        have A1 : Aside0 (wrap64 ((n : Int) / 64) = (n : Int) / 64) := ⟨w64s (by omega) (by omega)⟩
        have A2 : Aside0 (wrap64 ((n : Int) / 4096) = (n : Int) / 4096) := ⟨w64s (by omega) (by omega)⟩
        have A3 : Aside0 (wrap64 ((n : Int) / 262144) = (n : Int) / 262144) := ⟨w64s (by omega) (by omega)⟩
        have B1 : Aside0 (wrap64 (192 + (n : Int) / 64) = 192 + (n : Int) / 64) := ⟨w64s (by omega) (by omega)⟩
        have B2 : Aside0 (wrap64 (224 + (n : Int) / 4096) = 224 + (n : Int) / 4096) := ⟨w64s (by omega) (by omega)⟩
        have B3 : Aside0 (wrap64 (240 + (n : Int) / 262144) = 240 + (n : Int) / 262144) := ⟨w64s (by omega) (by omega)⟩
        have C1 : Aside0 (wrap64 (128 + (n : Int) % 64) = 128 + (n : Int) % 64) := ⟨w64s (by omega) (by omega)⟩
        have C2 : Aside0 (wrap64 (128 + (n : Int) / 64 % 64) = 128 + (n : Int) / 64 % 64) := ⟨w64s (by omega) (by omega)⟩
        have C3 : Aside0 (wrap64 (128 + (n : Int) / 4096 % 64) = 128 + (n : Int) / 4096 % 64) := ⟨w64s (by omega) (by omega)⟩
        simp only [Bool.false_eq_true, if_false]
        unfold put
        by_cases c1 : n < 128
        · rw [if_pos c1]
          simp only [if_pos (show (n : Int) < 128 by omega)]
          rw [show ([(n : Int) % 256] : List Int) = [n].map fun n : Nat => (n : Int) by simp; omega, strOf]; exact Ev.now _
        · rw [if_neg c1]
          by_cases c2 : n < 2048
          · rw [if_pos c2]
            simp only [if_neg (show ¬ (n : Int) < 128 by omega), if_pos (show (n : Int) < 2048 by omega), t1, m1, A1.out, B1.out, C1.out]
            rw [show ([(192 + (n : Int) / 64) % 256, (128 + (n : Int) % 64) % 256] : List Int) = [192 + n / 64, 128 + n % 64].map fun n : Nat => (n : Int) by simp; omega, strOf]; exact Ev.now _
          · rw [if_neg c2]
            by_cases c3 : n < 65536
            · rw [if_pos c3]
              simp only [if_neg (show ¬ (n : Int) < 128 by omega), if_neg (show ¬ (n : Int) < 2048 by omega), if_pos (show (n : Int) < 65536 by omega), t1, t2, A1.out, A2.out, m1, m2, B2.out, C1.out, C2.out]
              rw [show ([(224 + (n : Int) / 4096) % 256, (128 + (n : Int) / 64 % 64) % 256, (128 + (n : Int) % 64) % 256] : List Int) = [224 + n / 4096, 128 + n / 64 % 64, 128 + n % 64].map fun n : Nat => (n : Int) by simp; omega, strOf]; exact Ev.now _
            · rw [if_neg c3]
              simp only [if_neg (show ¬ (n : Int) < 128 by omega), if_neg (show ¬ (n : Int) < 2048 by omega), if_neg (show ¬ (n : Int) < 65536 by omega), t1, t2, t3, A1.out, A2.out, A3.out, m1, m2, m3, B3.out, C1.out, C2.out, C3.out]
              rw [show ([(240 + (n : Int) / 262144) % 256, (128 + (n : Int) / 4096 % 64) % 256, (128 + (n : Int) / 64 % 64) % 256, (128 + (n : Int) % 64) % 256] : List Int) = [240 + n / 262144, 128 + n / 4096 % 64, 128 + n / 64 % 64, 128 + n % 64].map fun n : Nat => (n : Int) by simp; omega, strOf]; exact Ev.now _
      by_cases h2 : (n : Int) ≥ 55296
      · simp only [if_pos h2]
        by_cases h3 : (n : Int) ≤ 57343
        · simp only [decide_eq_true h3]
          refine no ?_
          rw [hi, if_neg]
          rw [isch_iff]; omega
        · simp only [decide_eq_false h3]
          exact yes ((isch_iff n).2 (by omega))
      · simp only [if_neg h2]
        exact yes ((isch_iff n).2 (by omega))

/-! ### the reference's Next -/
def nth (l : List UInt8) (i : Nat) : Nat := (l.getD i 0).toNat
def mor (c : Int) (l : List UInt8) (i : Nat) : Int := if c < 0 then -1 else if l.length ≤ i then -1 else if nth l i < 128 then -1 else if 191 < nth l i then -1 else c * 64 + (nth l i : Int) - 128
theorem bt_nth (s : ByteArray) (i : Nat) (h : i < s.size) : bt s (i : Int) = ((nth s.data.toList i : Nat) : Int) := by
  have h2 : i < s.data.toList.length := by rw [← size_len]; exact h
  unfold bt nth
  rw [Int.toNat_natCast, dif_pos h, List.getD_eq_getElem?_getD, List.getElem?_eq_getElem h2]
  rfl
theorem more_eq (c : Int) (s : ByteArray) (i : Nat) (hc : c ≤ 1000000000) : stratumref03_more.f c s (i : Int) = some (mor c s.data.toList i) := by
  have hz := size_len s
  unfold stratumref03_more.f mor
  by_cases h0 : c < 0
  · rw [if_pos h0, if_pos h0]
  · rw [if_neg h0, if_neg h0]
    by_cases h1 : s.size ≤ i
    · rw [if_pos (show (i : Int) ≥ (s.size : Int) by omega), if_pos (show s.data.toList.length ≤ i by omega)]
    · have hb : nth s.data.toList i < 256 := by unfold nth; exact UInt8.toNat_lt _
      rw [if_neg (show ¬ (i : Int) ≥ (s.size : Int) by omega), if_neg (show ¬ s.data.toList.length ≤ i by omega), if_pos (show (0 : Int) ≤ (i : Int) by omega), if_pos (show (i : Int) < (s.size : Int) by omega), bt_nth s i (by omega)]
      by_cases h2 : nth s.data.toList i < 128
      · rw [if_pos (show ((nth s.data.toList i : Nat) : Int) < 128 by omega), if_pos h2]
      · rw [if_neg (show ¬ ((nth s.data.toList i : Nat) : Int) < 128 by omega), if_neg h2]
        by_cases h3 : 191 < nth s.data.toList i
        · rw [if_pos (show ((nth s.data.toList i : Nat) : Int) > 191 by omega), if_pos h3]
        · rw [if_neg (show ¬ ((nth s.data.toList i : Nat) : Int) > 191 by omega), if_neg h3, w64s (x := c * 64) (by omega) (by omega), w64s (x := ((nth s.data.toList i : Nat) : Int)) (by omega) (by omega), w64s (x := c * 64 + _) (by omega) (by omega), w64s (by omega) (by omega)]
theorem mor_le (c : Int) (l : List UInt8) (i : Nat) : mor c l i ≤ max c 0 * 64 + 128 := by
  have hb : nth l i < 256 := by unfold nth; exact UInt8.toNat_lt _
  unfold mor
  split
  · omega
  · split
    · omega
    · split
      · omega
      · split <;> omega
def cand (l : List UInt8) : Int :=
  if nth l 0 < 128 then (nth l 0 : Int)
  else if 192 ≤ nth l 0 ∧ nth l 0 < 224 then mor ((nth l 0 : Int) - 192) l 1
  else if 224 ≤ nth l 0 ∧ nth l 0 < 240 then mor (mor ((nth l 0 : Int) - 224) l 1) l 2
  else if 240 ≤ nth l 0 ∧ nth l 0 < 248 then mor (mor (mor ((nth l 0 : Int) - 240) l 1) l 2) l 3
  else -1
def fin (c : Int) (l : List UInt8) : Int × Int := if iput c = [] ∨ l.length < (iput c).length ∨ l.take (iput c).length ≠ iput c then (-1, 1) else (c, ((iput c).length : Int))
theorem byt_n {n : Nat} (h : n < 256) : (byt n).toNat = n := by rw [byt_toNat]; omega
theorem cand_put {c : Nat} (h : isch c = true) (t : List UInt8) : cand (put c ++ t) = (c : Int) := by
  have hb := (isch_iff c).1 h
  unfold put
  by_cases c1 : c < 128
  · rw [if_pos c1]
    have n0 : nth ([byt c] ++ t) 0 = c := byt_n (by omega)
    unfold cand; rw [n0, if_pos c1]
  · rw [if_neg c1]
    by_cases c2 : c < 2048
    · rw [if_pos c2]
      have n0 : nth ([byt (192 + c / 64), byt (128 + c % 64)] ++ t) 0 = 192 + c / 64 := byt_n (by omega)
      have n1 : nth ([byt (192 + c / 64), byt (128 + c % 64)] ++ t) 1 = 128 + c % 64 := byt_n (by omega)
      have ln : ([byt (192 + c / 64), byt (128 + c % 64)] ++ t).length = t.length + 2 := by simp
      unfold cand mor
      rw [n0, n1, ln, if_neg (by omega), if_pos (by omega), if_neg (by omega), if_neg (by omega), if_neg (by omega), if_neg (by omega)]
      omega
    · rw [if_neg c2]
      by_cases c3 : c < 65536
      · rw [if_pos c3]
        have n0 : nth ([byt (224 + c / 4096), byt (128 + c / 64 % 64), byt (128 + c % 64)] ++ t) 0 = 224 + c / 4096 := byt_n (by omega)
        have n1 : nth ([byt (224 + c / 4096), byt (128 + c / 64 % 64), byt (128 + c % 64)] ++ t) 1 = 128 + c / 64 % 64 := byt_n (by omega)
        have n2 : nth ([byt (224 + c / 4096), byt (128 + c / 64 % 64), byt (128 + c % 64)] ++ t) 2 = 128 + c % 64 := byt_n (by omega)
        have ln : ([byt (224 + c / 4096), byt (128 + c / 64 % 64), byt (128 + c % 64)] ++ t).length = t.length + 3 := by simp
        have m1 : mor (((224 + c / 4096 : Nat) : Int) - 224) ([byt (224 + c / 4096), byt (128 + c / 64 % 64), byt (128 + c % 64)] ++ t) 1 = ((c / 64 : Nat) : Int) := by
          unfold mor
          rw [n1, ln, if_neg (by omega), if_neg (by omega), if_neg (by omega), if_neg (by omega)]; omega
        unfold cand
        rw [n0, if_neg (by omega), if_neg (by omega), if_pos (by omega), m1]
        unfold mor
        rw [n2, ln, if_neg (by omega), if_neg (by omega), if_neg (by omega), if_neg (by omega)]; omega
      · rw [if_neg c3]
        have n0 : nth ([byt (240 + c / 262144), byt (128 + c / 4096 % 64), byt (128 + c / 64 % 64), byt (128 + c % 64)] ++ t) 0 = 240 + c / 262144 := byt_n (by omega)
        have n1 : nth ([byt (240 + c / 262144), byt (128 + c / 4096 % 64), byt (128 + c / 64 % 64), byt (128 + c % 64)] ++ t) 1 = 128 + c / 4096 % 64 := byt_n (by omega)
        have n2 : nth ([byt (240 + c / 262144), byt (128 + c / 4096 % 64), byt (128 + c / 64 % 64), byt (128 + c % 64)] ++ t) 2 = 128 + c / 64 % 64 := byt_n (by omega)
        have n3 : nth ([byt (240 + c / 262144), byt (128 + c / 4096 % 64), byt (128 + c / 64 % 64), byt (128 + c % 64)] ++ t) 3 = 128 + c % 64 := byt_n (by omega)
        have ln : ([byt (240 + c / 262144), byt (128 + c / 4096 % 64), byt (128 + c / 64 % 64), byt (128 + c % 64)] ++ t).length = t.length + 4 := by simp
        have m1 : mor (((240 + c / 262144 : Nat) : Int) - 240) ([byt (240 + c / 262144), byt (128 + c / 4096 % 64), byt (128 + c / 64 % 64), byt (128 + c % 64)] ++ t) 1 = ((c / 4096 : Nat) : Int) := by
          unfold mor
          rw [n1, ln, if_neg (by omega), if_neg (by omega), if_neg (by omega), if_neg (by omega)]; omega
        have m2 : mor ((c / 4096 : Nat) : Int) ([byt (240 + c / 262144), byt (128 + c / 4096 % 64), byt (128 + c / 64 % 64), byt (128 + c % 64)] ++ t) 2 = ((c / 64 : Nat) : Int) := by
          unfold mor
          rw [n2, ln, if_neg (by omega), if_neg (by omega), if_neg (by omega), if_neg (by omega)]; omega
        unfold cand
        rw [n0, if_neg (by omega), if_neg (by omega), if_neg (by omega), if_pos (by omega), m1, m2]
        unfold mor
        rw [n3, ln, if_neg (by omega), if_neg (by omega), if_neg (by omega), if_neg (by omega)]; omega
theorem fin_eq {l : List UInt8} (hne : l ≠ []) : fin (cand l) l = unext l := by
  cases hd : dec l with
  | some p =>
    obtain ⟨c, n⟩ := p
    obtain ⟨hc, hn, t, rfl⟩ := put_dec hd
    rw [unext_some hd, cand_put hc]
    have hi : iput (c : Int) = put c := by unfold iput; rw [if_pos ⟨by omega, by rw [Int.toNat_natCast]; exact hc⟩, Int.toNat_natCast]
    unfold fin
    rw [hi, if_neg, hn]
    have hp := put_len_pos c
    rintro (h | h | h)
    · rw [h] at hp; simp at hp
    · rw [List.length_append] at h; omega
    · exact h (List.take_left' rfl)
  | none =>
    rw [unext_none hne hd]
    unfold fin
    by_cases q : iput (cand l) = [] ∨ l.length < (iput (cand l)).length ∨ l.take (iput (cand l)).length ≠ iput (cand l)
    · rw [if_pos q]
    · exfalso
      have q1 : iput (cand l) ≠ [] := fun h => q (.inl h)
      have q3 : l.take (iput (cand l)).length = iput (cand l) := Classical.byContradiction fun h => q (.inr (.inr h))
      have hcc : 0 ≤ cand l ∧ isch (cand l).toNat = true := Classical.byContradiction fun h => q1 (by unfold iput; rw [if_neg h])
      have hi : iput (cand l) = put (cand l).toNat := by unfold iput; rw [if_pos hcc]
      rw [hi] at q3
      have e : l = put (cand l).toNat ++ l.drop (put (cand l).toNat).length := by
        have := List.take_append_drop (put (cand l).toNat).length l
        rw [q3] at this; exact this.symm
      rw [e] at hd
      rw [dec_put hcc.2] at hd
      cases hd
theorem next_tail (s : ByteArray) (c : Int) : Ev (fun k => (stratumref03_Put.f k c).bind fun t => (if t.toList = ([] : List UInt8) then (some ((-1 : Int), (1 : Int))) else (if (t.size : Int) > (s.size : Int) then (some ((-1), 1)) else (if 0 ≤ (t.size : Int) then (if (t.size : Int) ≤ (s.size : Int) then (if (s.extract 0 t.size).toList = t.toList then (some (c, (t.size : Int))) else (some ((-1), 1))) else (none)) else (none))))) (fin c s.data.toList) := by
  refine Ev.bind (refput_ev c) ?_
  have hz := size_len s
  obtain ⟨p, hp⟩ : ∃ p, p = iput c := ⟨_, rfl⟩
  have e1 : (⟨p.toArray⟩ : ByteArray).data.toList = p := rfl
  have e2 : (⟨p.toArray⟩ : ByteArray).size = p.length := by rw [size_len]
  unfold fin
  rw [← hp]
  simp only [toList_eq, e1, e2, ext_take]
  by_cases q1 : p = []
  · simp only [if_pos q1]
    rw [if_pos (.inl q1)]; exact Ev.now _
  · simp only [if_neg q1]
    by_cases q2 : s.data.toList.length < p.length
    · simp only [if_pos (show (p.length : Int) > (s.size : Int) by omega)]
      rw [if_pos (.inr (.inl q2))]; exact Ev.now _
    · simp only [if_neg (show ¬ (p.length : Int) > (s.size : Int) by omega), if_pos (show (0 : Int) ≤ (p.length : Int) by omega), if_pos (show (p.length : Int) ≤ (s.size : Int) by omega)]
      by_cases q3 : s.data.toList.take p.length = p
      · simp only [if_pos q3]
        rw [if_neg (fun h => h.elim q1 fun h => h.elim q2 fun h => h q3)]; exact Ev.now _
      · simp only [if_neg q3]
        rw [if_pos (.inr (.inr q3))]; exact Ev.now _
theorem refnext_ev (s : ByteArray) : Ev (fun k => stratumref03_Next.f k s) (unext s.data.toList) := by
  have hz := size_len s
  unfold stratumref03_Next.f
  by_cases he : s.data.toList = []
  · simp only [toList_eq, if_pos he]
    rw [he]; exact Ev.now _
  · have hpos : 0 < s.size := by rw [hz]; exact List.length_pos_iff.2 he
    rw [← fin_eq he]
    have b0 : bt s 0 = ((nth s.data.toList 0 : Nat) : Int) := bt_nth s 0 hpos
    obtain ⟨a, ha⟩ : ∃ a, a = nth s.data.toList 0 := ⟨_, rfl⟩
    have ha2 : a < 256 := by rw [ha]; unfold nth; exact UInt8.toNat_lt _
    have W0 : wrap64 ((a : Nat) : Int) = (a : Int) := w64s (by omega) (by omega)
    simp only [toList_eq, if_neg he, if_pos (show 0 < (s.size : Int) by omega), b0, ← ha, W0]
    clear W0
    by_cases h1 : a < 128
    · have hc : cand s.data.toList = (a : Int) := by unfold cand; rw [← ha, if_pos h1]
      rw [hc]
      simp only [if_pos (show (a : Int) < 128 by omega)]
      have := next_tail s (a : Int)
      simp only [toList_eq] at this
      exact this
    · simp only [if_neg (show ¬ (a : Int) < 128 by omega)]
      have last : ¬ (192 ≤ a ∧ a < 248) → Ev (fun k => stratumref03_Next.j2 k s (a : Int) (-1) false) (fin (cand s.data.toList) s.data.toList) := by
        intro hn
        have hc : cand s.data.toList = -1 := by unfold cand; rw [← ha, if_neg h1, if_neg (by omega), if_neg (by omega), if_neg (by omega)]
        rw [hc]
        refine Ev.step (fun k => by simp only [stratumref03_Next.j2]; rfl) ?_
        simp only [Bool.false_eq_true, if_false]
        exact next_tail s (-1)
      have j1f : ¬ (192 ≤ a ∧ a < 240) → Ev (fun k => stratumref03_Next.j1 k s (a : Int) (-1) false) (fin (cand s.data.toList) s.data.toList) := by
        intro hn
        refine Ev.step (fun k => by simp only [stratumref03_Next.j1]; rfl) ?_
        simp only [Bool.false_eq_true, if_false]
        by_cases h3 : (a : Int) ≥ 240
        · simp only [if_pos h3]
          by_cases h4 : (a : Int) < 248
          · simp only [decide_eq_true h4]
            have hc : cand s.data.toList = mor (mor (mor ((a : Int) - 240) s.data.toList 1) s.data.toList 2) s.data.toList 3 := by unfold cand; rw [← ha, if_neg h1, if_neg (by omega), if_neg (by omega), if_pos (by omega)]
            rw [hc]
            have l1 := mor_le ((a : Int) - 240) s.data.toList 1
            have l2 := mor_le (mor ((a : Int) - 240) s.data.toList 1) s.data.toList 2
            have W : wrap64 ((a : Int) - 240) = (a : Int) - 240 := w64s (by omega) (by omega)
            refine Ev.step (fun k => by simp only [stratumref03_Next.j2]; rfl) ?_
            have q1 := more_eq ((a : Int) - 240) s 1 (by omega)
            have q2 := more_eq (mor ((a : Int) - 240) s.data.toList 1) s 2 (by omega)
            have q3 := more_eq (mor (mor ((a : Int) - 240) s.data.toList 1) s.data.toList 2) s 3 (by omega)
            simp only [Int.natCast_one, show ((2 : Nat) : Int) = 2 from rfl, show ((3 : Nat) : Int) = 3 from rfl] at q1 q2 q3
            simp only [if_true, W, q1, q2, q3, Option.bind_some]
            exact next_tail s _
          · simp only [decide_eq_false h4]
            exact last (by omega)
        · simp only [if_neg h3]
          exact last (by omega)
      have j0f : ¬ (192 ≤ a ∧ a < 224) → Ev (fun k => stratumref03_Next.j0 k s (a : Int) (-1) false) (fin (cand s.data.toList) s.data.toList) := by
        intro hn
        refine Ev.step (fun k => by simp only [stratumref03_Next.j0]; rfl) ?_
        simp only [Bool.false_eq_true, if_false]
        by_cases h3 : (a : Int) ≥ 224
        · simp only [if_pos h3]
          by_cases h4 : (a : Int) < 240
          · simp only [decide_eq_true h4]
            have hc : cand s.data.toList = mor (mor ((a : Int) - 224) s.data.toList 1) s.data.toList 2 := by unfold cand; rw [← ha, if_neg h1, if_neg (by omega), if_pos (by omega)]
            rw [hc]
            have l1 := mor_le ((a : Int) - 224) s.data.toList 1
            have W : wrap64 ((a : Int) - 224) = (a : Int) - 224 := w64s (by omega) (by omega)
            refine Ev.step (fun k => by simp only [stratumref03_Next.j1]; rfl) ?_
            have q1 := more_eq ((a : Int) - 224) s 1 (by omega)
            have q2 := more_eq (mor ((a : Int) - 224) s.data.toList 1) s 2 (by omega)
            simp only [Int.natCast_one, show ((2 : Nat) : Int) = 2 from rfl] at q1 q2
            simp only [if_true, W, q1, q2, Option.bind_some]
            exact next_tail s _
          · simp only [decide_eq_false h4]
            exact j1f (by omega)
        · simp only [if_neg h3]
          exact j1f (by omega)
      by_cases h3 : (a : Int) ≥ 192
      · simp only [if_pos h3]
        by_cases h4 : (a : Int) < 224
        · simp only [decide_eq_true h4]
          have hc : cand s.data.toList = mor ((a : Int) - 192) s.data.toList 1 := by unfold cand; rw [← ha, if_neg h1, if_pos (by omega)]
          rw [hc]
          have W : wrap64 ((a : Int) - 192) = (a : Int) - 192 := w64s (by omega) (by omega)
          refine Ev.step (fun k => by simp only [stratumref03_Next.j0]; rfl) ?_
          have q1 := more_eq ((a : Int) - 192) s 1 (by omega)
          simp only [Int.natCast_one] at q1
          simp only [if_true, W, q1, Option.bind_some]
          exact next_tail s _
        · simp only [decide_eq_false h4]
          exact j0f (by omega)
      · simp only [if_neg h3]
        exact j0f (by omega)
end Go.Proofs.Ytjplkgkkokcgjaa.T
