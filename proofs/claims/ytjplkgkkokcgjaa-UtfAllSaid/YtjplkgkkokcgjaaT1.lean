/- Texts behind one another, mended texts, the order of characters' bytes: plain Lean. No condition. -/
import Derived.Test.YtjplkgkkokcgjaaU0
set_option linter.unusedVariables false
set_option linter.unusedSimpArgs false
namespace Go.Proofs.Ytjplkgkkokcgjaa.U
open Go.RowKit

theorem fault_nil : fault [] = 0 := fault_none rfl
/-- A text that is valid, with anything behind it. -/
theorem app_facts : ∀ (d : Nat) (a t : List UInt8), a.length ≤ d → fault a = a.length → fault (a ++ t) = a.length + fault t ∧ ucount (a ++ t) = ucount a + ucount t ∧ umend (a ++ t) = a ++ umend t := by
  intro d
  induction d with
  | zero =>
    intro a t hd ha
    obtain rfl := List.eq_nil_of_length_eq_zero (show a.length = 0 by omega)
    rw [List.nil_append, ucount_nil, List.nil_append]
    refine ⟨by simp, by omega, rfl⟩
  | succ d ih =>
    intro a t hd ha
    by_cases he : a = []
    · subst he
      rw [List.nil_append, ucount_nil, List.nil_append]
      refine ⟨by simp, by omega, rfl⟩
    · cases hx : dec a with
      | none => rw [fault_none hx] at ha; exact absurd (List.eq_nil_of_length_eq_zero ha.symm) he
      | some p =>
        obtain ⟨c, n⟩ := p
        obtain ⟨hc, hn, a', rfl⟩ := put_dec hx
        have hp := put_len_pos c
        have hdr : List.drop n (put c ++ a') = a' := by rw [hn]; exact List.drop_left
        have hfa := fault_some hx
        rw [hdr] at hfa
        rw [List.length_append] at ha hd
        have ha' : fault a' = a'.length := by omega
        have hx2 : dec (put c ++ (a' ++ t)) = some (c, n) := by rw [hn]; exact dec_put hc _
        have hdr2 : List.drop n (put c ++ (a' ++ t)) = a' ++ t := by rw [hn]; exact List.drop_left
        have htk : List.take n (put c ++ (a' ++ t)) = put c := by rw [hn]; exact List.take_left
        have htk1 : List.take n (put c ++ a') = put c := by rw [hn]; exact List.take_left
        have hne : put c ++ (a' ++ t) ≠ [] := fun h => absurd (List.append_eq_nil_iff.1 h).1 (by intro h; have h1 := congrArg List.length h; have h2 := put_len_pos c; rw [List.length_nil] at h1; omega)
        obtain ⟨h1, h2, h3⟩ := ih a' t (by omega) ha'
        rw [List.append_assoc]
        refine ⟨?_, ?_, ?_⟩
        · rw [fault_some hx2, hdr2, h1, List.length_append]; omega
        · rw [ucount_step hne, adv_some hx2, hdr2, h2, ucount_step he, adv_some hx, hdr]; omega
        · rw [umend_step hne, fix1_some hx2, adv_some hx2, hdr2, htk, h3, List.append_assoc]
theorem fault_app {a : List UInt8} (t : List UInt8) (h : fault a = a.length) : fault (a ++ t) = a.length + fault t := (app_facts _ a t (Nat.le_refl _) h).1
theorem ucount_app {a : List UInt8} (t : List UInt8) (h : fault a = a.length) : ucount (a ++ t) = ucount a + ucount t := (app_facts _ a t (Nat.le_refl _) h).2.1
theorem umend_app {a : List UInt8} (t : List UInt8) (h : fault a = a.length) : umend (a ++ t) = a ++ umend t := (app_facts _ a t (Nat.le_refl _) h).2.2
theorem umend_valid {a : List UInt8} (h : fault a = a.length) : umend a = a := by
  have := umend_app [] h
  rwa [List.append_nil, umend_nil, List.append_nil] at this
/-- One character is valid, and one. -/
theorem put_ne (c : Nat) : put c ≠ [] := by
  intro h
  have h1 := congrArg List.length h
  have h2 := put_len_pos c
  rw [List.length_nil] at h1
  omega
theorem put_valid {c : Nat} (h : isch c = true) : fault (put c) = (put c).length ∧ ucount (put c) = 1 := by
  have hx : dec (put c) = some (c, (put c).length) := by have := dec_put h []; rwa [List.append_nil] at this
  have hne : put c ≠ [] := put_ne c
  have hdr : List.drop (put c).length (put c) = [] := List.drop_length
  refine ⟨?_, ?_⟩
  · rw [fault_some hx, hdr, fault_nil]; rfl
  · rw [ucount_step hne, adv_some hx, hdr, ucount_nil]
/-- What stands ahead of the first single byte is valid. -/
theorem take_fault : ∀ (d : Nat) (l : List UInt8), l.length ≤ d → fault (l.take (fault l)) = fault l := by
  intro d
  induction d with
  | zero =>
    intro l hd
    obtain rfl := List.eq_nil_of_length_eq_zero (show l.length = 0 by omega)
    rw [fault_nil, List.take_nil, fault_nil]
  | succ d ih =>
    intro l hd
    cases hx : dec l with
    | none => rw [fault_none hx, List.take_zero, fault_nil]
    | some p =>
      obtain ⟨c, n⟩ := p
      obtain ⟨hc, hn, a', rfl⟩ := put_dec hx
      have hp := put_len_pos c
      have hdr : List.drop n (put c ++ a') = a' := by rw [hn]; exact List.drop_left
      have hf := fault_some hx
      rw [hdr] at hf
      rw [List.length_append] at hd
      have h1 := ih a' (by omega)
      have htk : List.take (fault (put c ++ a')) (put c ++ a') = put c ++ List.take (fault a') a' := by
        rw [hf, hn, List.take_length_add_append]
      rw [htk, fault_app _ (put_valid hc).1, h1, hf, hn]
theorem take_fault_valid (l : List UInt8) : fault (l.take (fault l)) = (l.take (fault l)).length := by
  rw [take_fault _ l (Nat.le_refl _), List.length_take]
  have := fault_le l
  omega
/-- The mended text is valid and has the same count. -/
theorem umend_facts : ∀ (d : Nat) (l : List UInt8), l.length ≤ d → fault (umend l) = (umend l).length ∧ ucount (umend l) = ucount l := by
  intro d
  induction d with
  | zero =>
    intro l hd
    obtain rfl := List.eq_nil_of_length_eq_zero (show l.length = 0 by omega)
    rw [umend_nil, fault_nil]; exact ⟨rfl, rfl⟩
  | succ d ih =>
    intro l hd
    by_cases he : l = []
    · subst he; rw [umend_nil, fault_nil]; exact ⟨rfl, rfl⟩
    · have h1 := adv_pos (l := l)
      have h2 := adv_le he
      obtain ⟨i1, i2⟩ := ih (l.drop (adv l)) (by rw [List.length_drop]; omega)
      have hv : fault (fix1 l) = (fix1 l).length ∧ ucount (fix1 l) = 1 := by
        cases hx : dec l with
        | none =>
          rw [fix1_none hx]
          have e : fffd = put 65533 := by decide
          rw [e]; exact put_valid (by decide)
        | some p =>
          obtain ⟨c, n⟩ := p
          rw [fix1_some hx]
          obtain ⟨hc, hn, a', rfl⟩ := put_dec hx
          rw [hn, List.take_left]
          exact put_valid hc
      rw [umend_step he, fault_app _ hv.1, ucount_app _ hv.1, i1, i2, hv.2, List.length_append, ucount_step he]
      exact ⟨rfl, by omega⟩
theorem fix1_len' (l : List UInt8) : (fix1 l).length ≤ 3 * adv l := by
  cases hd : dec l with
  | none => rw [fix1_none hd, adv_none hd]; decide
  | some p => obtain ⟨c, n⟩ := p; rw [fix1_some hd, adv_some hd, List.length_take]; omega
theorem umend_len : ∀ (d : Nat) (l : List UInt8), l.length ≤ d → (umend l).length ≤ 3 * l.length := by
  intro d
  induction d with
  | zero =>
    intro l hd
    obtain rfl := List.eq_nil_of_length_eq_zero (show l.length = 0 by omega)
    rw [umend_nil]; simp
  | succ d ih =>
    intro l hd
    by_cases he : l = []
    · subst he; rw [umend_nil]; simp
    · have h1 := adv_pos (l := l)
      have h2 := adv_le he
      have i1 := ih (l.drop (adv l)) (by rw [List.length_drop]; omega)
      have := fix1_len' l
      rw [List.length_drop] at i1
      rw [umend_step he, List.length_append]; omega
theorem ucount_le : ∀ (d : Nat) (l : List UInt8), l.length ≤ d → ucount l ≤ l.length := by
  intro d
  induction d with
  | zero =>
    intro l hd
    obtain rfl := List.eq_nil_of_length_eq_zero (show l.length = 0 by omega)
    rw [ucount_nil]; simp
  | succ d ih =>
    intro l hd
    by_cases he : l = []
    · subst he; rw [ucount_nil]; simp
    · have h1 := adv_pos (l := l)
      have h2 := adv_le he
      have i1 := ih (l.drop (adv l)) (by rw [List.length_drop]; omega)
      rw [List.length_drop] at i1
      rw [ucount_step he]; omega

/-! ### the order of characters -/
theorem lt_iff (a b : UInt8) : a < b ↔ a.toNat < b.toNat := Iff.rfl
theorem less_cons (a b : UInt8) (x y : List UInt8) : Op.bytesLess (a :: x) (b :: y) = true ↔ (a.toNat < b.toNat ∨ (a.toNat = b.toNat ∧ Op.bytesLess x y = true)) := by
  show (decide (a < b) || (a == b && Op.bytesLess x y)) = true ↔ _
  rw [Bool.or_eq_true, decide_eq_true_iff, Bool.and_eq_true, beq_iff_eq, lt_iff, UInt8.toNat_inj]
theorem less_nil (x : List UInt8) : Op.bytesLess x [] = false := by cases x <;> rfl
theorem put_less {c d : Nat} (hc : c ≤ 1114111) (hd : d ≤ 1114111) (h : c < d) : Op.bytesLess (put c) (put d) = true := by
  unfold put
  split
  · split
    · simp only [less_cons, less_nil, byt_toNat]; omega
    · split
      · simp only [less_cons, less_nil, byt_toNat]; omega
      · split <;> (simp only [less_cons, less_nil, byt_toNat]; omega)
  · split
    · rw [if_neg (by omega)]
      split
      · simp only [less_cons, less_nil, byt_toNat]; omega
      · split <;> (simp only [less_cons, less_nil, byt_toNat]; omega)
    · split
      · rw [if_neg (by omega), if_neg (by omega)]
        split <;> (simp only [less_cons, less_nil, byt_toNat]; omega)
      · rw [if_neg (by omega), if_neg (by omega), if_neg (by omega)]
        simp only [less_cons, less_nil, byt_toNat]
        have a1 : c / 262144 = c / 64 / 64 / 64 := by omega
        have a2 : d / 262144 = d / 64 / 64 / 64 := by omega
        have a3 : c / 4096 = c / 64 / 64 := by omega
        have a4 : d / 4096 = d / 64 / 64 := by omega
        rw [a1, a2, a3, a4]
        rw [show (240 + c / 64 / 64 / 64) % 256 = 240 + c / 64 / 64 / 64 by omega, show (240 + d / 64 / 64 / 64) % 256 = 240 + d / 64 / 64 / 64 by omega]
        have q1 : ∀ x : Nat, (128 + x % 64) % 256 = 128 + x % 64 := fun x => by omega
        simp only [q1]
        generalize h1 : c / 64 = c1
        generalize h2 : d / 64 = d1
        generalize h3 : c1 / 64 = c2
        generalize h4 : d1 / 64 = d2
        by_cases e1 : c2 / 64 < d2 / 64
        · exact .inl (by omega)
        · refine .inr ⟨by omega, ?_⟩
          by_cases e2 : c2 < d2
          · exact .inl (by omega)
          · refine .inr ⟨by omega, ?_⟩
            by_cases e3 : c1 < d1
            · exact .inl (by omega)
            · exact .inr ⟨by omega, .inl (by omega)⟩
theorem put_prefix {c d : Nat} (hc : isch c = true) (hd : isch d = true) (h : c ≠ d) (hl : (put c).length ≤ (put d).length) : (put d).take (put c).length ≠ put c := by
  intro he
  have e : put d = put c ++ (put d).drop (put c).length := by
    have := (List.take_append_drop (put c).length (put d)).symm
    rwa [he] at this
  have h1 := dec_put hc ((put d).drop (put c).length)
  rw [← e] at h1
  have h2 := dec_put hd []
  rw [List.append_nil] at h2
  rw [h1] at h2
  simp only [Option.some.injEq, Prod.mk.injEq] at h2
  exact h h2.1
end Go.Proofs.Ytjplkgkkokcgjaa.U
