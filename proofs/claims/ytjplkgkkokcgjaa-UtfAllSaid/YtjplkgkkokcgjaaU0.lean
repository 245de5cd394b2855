/- Characters as bytes: what a text's front says, in plain Lean. No program in sight, no condition. -/
import Derived.Test.YtjplkgkkokcgjaaWWords
import Derived.Test.YtjplkgkkokcgjaaWNEv
import Derived.Laws.BitsAllLaws
import Derived.Laws.Bits64
import Derived.Laws.BitsLemmas
set_option linter.unusedVariables false
set_option linter.unusedSimpArgs false
namespace Go.Proofs.Ytjplkgkkokcgjaa.U
open Go.RowKit Go.Proofs.YtjplkgkkokcgjaaW.PrintWords

/-! ### numbers -/
def byt (n : Nat) : UInt8 := UInt8.ofNat n
theorem byt_toNat (n : Nat) : (byt n).toNat = n % 256 := by
  show (UInt8.ofNat n).toNat = _
  rw [UInt8.toNat_ofNat']
theorem byt_eq {a : UInt8} {n : Nat} (h : n = a.toNat) : byt n = a := by
  rw [← UInt8.toNat_inj, byt_toNat]
  have := a.toNat_lt
  omega
def isch (c : Nat) : Bool := decide (c ≤ 1114111) && !(decide (55296 ≤ c) && decide (c ≤ 57343))
theorem isch_iff (c : Nat) : isch c = true ↔ (c ≤ 1114111 ∧ ¬ (55296 ≤ c ∧ c ≤ 57343)) := by
  unfold isch; simp only [Bool.and_eq_true, Bool.not_eq_true', decide_eq_true_eq, Bool.and_eq_false_iff, decide_eq_false_iff_not]; omega
def tl (b : UInt8) : Bool := decide (128 ≤ b.toNat) && decide (b.toNat < 192)
theorem tl_iff (b : UInt8) : tl b = true ↔ (128 ≤ b.toNat ∧ b.toNat < 192) := by
  unfold tl; simp

/-! ### a character's bytes -/
def put (c : Nat) : List UInt8 :=
  if c < 128 then [byt c]
  else if c < 2048 then [byt (192 + c / 64), byt (128 + c % 64)]
  else if c < 65536 then [byt (224 + c / 4096), byt (128 + c / 64 % 64), byt (128 + c % 64)]
  else [byt (240 + c / 262144), byt (128 + c / 4096 % 64), byt (128 + c / 64 % 64), byt (128 + c % 64)]
/-- A number's bytes; none if it is no character. -/
def iput (c : Int) : List UInt8 := if 0 ≤ c ∧ isch c.toNat = true then put c.toNat else []

/-! ### the front of a text -/
def d2 (least c : Nat) (b : UInt8) : Option (Nat × Nat) := if tl b = true ∧ least ≤ c * 64 + b.toNat % 64 ∧ isch (c * 64 + b.toNat % 64) = true then some (c * 64 + b.toNat % 64, 2) else none
def d3 (least c : Nat) (b b1 : UInt8) : Option (Nat × Nat) := if tl b = true ∧ tl b1 = true ∧ least ≤ (c * 64 + b.toNat % 64) * 64 + b1.toNat % 64 ∧ isch ((c * 64 + b.toNat % 64) * 64 + b1.toNat % 64) = true then some ((c * 64 + b.toNat % 64) * 64 + b1.toNat % 64, 3) else none
def d4 (least c : Nat) (b b1 b2 : UInt8) : Option (Nat × Nat) := if tl b = true ∧ tl b1 = true ∧ tl b2 = true ∧ least ≤ ((c * 64 + b.toNat % 64) * 64 + b1.toNat % 64) * 64 + b2.toNat % 64 ∧ isch (((c * 64 + b.toNat % 64) * 64 + b1.toNat % 64) * 64 + b2.toNat % 64) = true then some (((c * 64 + b.toNat % 64) * 64 + b1.toNat % 64) * 64 + b2.toNat % 64, 4) else none
def dec : List UInt8 → Option (Nat × Nat)
  | [] => none
  | a :: r =>
    if a.toNat < 128 then some (a.toNat, 1)
    else if 192 ≤ a.toNat ∧ a.toNat < 224 then (match r with | b :: _ => d2 128 (a.toNat % 32) b | _ => none)
    else if 224 ≤ a.toNat ∧ a.toNat < 240 then (match r with | b :: b1 :: _ => d3 2048 (a.toNat % 16) b b1 | _ => none)
    else if 240 ≤ a.toNat ∧ a.toNat < 248 then (match r with | b :: b1 :: b2 :: _ => d4 65536 (a.toNat % 8) b b1 b2 | _ => none)
    else none
/-- What Next answers. -/
def unext (l : List UInt8) : Int × Int :=
  match l with
  | [] => (-1, 0)
  | _ => match dec l with | some (c, n) => ((c : Int), (n : Int)) | none => (-1, 1)

theorem put_len_pos (c : Nat) : 1 ≤ (put c).length := by
  unfold put; split <;> (try split) <;> (try split) <;> simp
theorem put_len_le (c : Nat) : (put c).length ≤ 4 := by
  unfold put; split <;> (try split) <;> (try split) <;> simp

/-- (A): a character's bytes, whatever stands behind them, are read as it. -/
theorem dec_put {c : Nat} (h : isch c = true) (t : List UInt8) : dec (put c ++ t) = some (c, (put c).length) := by
  have hc := (isch_iff c).1 h
  unfold put
  split
  · rename_i h1
    simp only [List.singleton_append, dec, byt_toNat]
    rw [if_pos (by omega), show c % 256 = c by omega]; rfl
  · split
    · simp only [List.cons_append, List.nil_append, dec, byt_toNat]
      rw [if_neg (by omega), if_pos (by omega)]
      unfold d2
      have e : (192 + c / 64) % 256 % 32 * 64 + (byt (128 + c % 64)).toNat % 64 = c := by rw [byt_toNat]; omega
      rw [e, if_pos ⟨by rw [tl_iff, byt_toNat]; omega, by omega, h⟩]; rfl
    · split
      · simp only [List.cons_append, List.nil_append, dec, byt_toNat]
        rw [if_neg (by omega), if_neg (by omega), if_pos (by omega)]
        unfold d3
        have e : ((224 + c / 4096) % 256 % 16 * 64 + (byt (128 + c / 64 % 64)).toNat % 64) * 64 + (byt (128 + c % 64)).toNat % 64 = c := by rw [byt_toNat, byt_toNat]; omega
        rw [e, if_pos ⟨by rw [tl_iff, byt_toNat]; omega, by rw [tl_iff, byt_toNat]; omega, by omega, h⟩]; rfl
      · simp only [List.cons_append, List.nil_append, dec, byt_toNat]
        rw [if_neg (by omega), if_neg (by omega), if_neg (by omega), if_pos (by omega)]
        unfold d4
        have e : (((240 + c / 262144) % 256 % 8 * 64 + (byt (128 + c / 4096 % 64)).toNat % 64) * 64 + (byt (128 + c / 64 % 64)).toNat % 64) * 64 + (byt (128 + c % 64)).toNat % 64 = c := by rw [byt_toNat, byt_toNat, byt_toNat]; omega
        rw [e, if_pos ⟨by rw [tl_iff, byt_toNat]; omega, by rw [tl_iff, byt_toNat]; omega, by rw [tl_iff, byt_toNat]; omega, by omega, h⟩]; rfl

/-- (B): what is read stands there as its own bytes. -/
theorem put_dec {s : List UInt8} {c n : Nat} (h : dec s = some (c, n)) : isch c = true ∧ n = (put c).length ∧ ∃ t, s = put c ++ t := by
  cases s with
  | nil => simp [dec] at h
  | cons a r =>
    have ha := a.toNat_lt
    simp only [dec] at h
    split at h
    · simp only [Option.some.injEq, Prod.mk.injEq] at h
      obtain ⟨rfl, rfl⟩ := h
      unfold put
      rw [if_pos (by assumption)]
      exact ⟨(isch_iff _).2 (by omega), rfl, r, by rw [byt_eq rfl]; rfl⟩
    · split at h
      · split at h
        · rename_i _ b r1
          have hb := b.toNat_lt
          unfold d2 at h
          split at h
          · rename_i hh
            obtain ⟨h1, h2, h3⟩ := hh
            rw [tl_iff] at h1
            simp only [Option.some.injEq, Prod.mk.injEq] at h
            obtain ⟨rfl, rfl⟩ := h
            unfold put
            rw [if_neg (by omega), if_pos (by omega)]
            exact ⟨h3, rfl, r1, by rw [byt_eq (a := a) (by omega), byt_eq (a := b) (by omega)]; rfl⟩
          · cases h
        · cases h
      · split at h
        · split at h
          · rename_i _ b b1 r1
            have hb := b.toNat_lt
            have hb1 := b1.toNat_lt
            unfold d3 at h
            split at h
            · rename_i hh
              obtain ⟨h1, h11, h2, h3⟩ := hh
              rw [tl_iff] at h1 h11
              simp only [Option.some.injEq, Prod.mk.injEq] at h
              obtain ⟨rfl, rfl⟩ := h
              unfold put
              rw [if_neg (by omega), if_neg (by omega), if_pos (by omega)]
              exact ⟨h3, rfl, r1, by rw [byt_eq (a := a) (by omega), byt_eq (a := b) (by omega), byt_eq (a := b1) (by omega)]; rfl⟩
            · cases h
          · cases h
        · split at h
          · split at h
            · rename_i _ b b1 b2 r1
              have hb := b.toNat_lt
              have hb1 := b1.toNat_lt
              have hb2 := b2.toNat_lt
              unfold d4 at h
              split at h
              · rename_i hh
                obtain ⟨h1, h11, h12, h2, h3⟩ := hh
                rw [tl_iff] at h1 h11 h12
                simp only [Option.some.injEq, Prod.mk.injEq] at h
                obtain ⟨rfl, rfl⟩ := h
                unfold put
                rw [if_neg (by omega), if_neg (by omega), if_neg (by omega)]
                exact ⟨h3, rfl, r1, by rw [byt_eq (a := a) (by omega), byt_eq (a := b) (by omega), byt_eq (a := b1) (by omega), byt_eq (a := b2) (by omega)]; rfl⟩
              · cases h
            · cases h
          · cases h

/-! ### going through -/
/-- How many bytes the front takes. -/
def adv (l : List UInt8) : Nat := match dec l with | some (_, n) => n | none => 1
theorem adv_pos {l : List UInt8} : 1 ≤ adv l := by
  unfold adv
  split
  · rename_i c n h
    have := put_len_pos c; have := (put_dec h).2.1; omega
  · omega
theorem adv_le {l : List UInt8} (h : l ≠ []) : adv l ≤ l.length := by
  unfold adv
  split
  · rename_i c n hd
    obtain ⟨_, h1, t, h2⟩ := put_dec hd
    rw [h2, List.length_append]; omega
  · cases l with
    | nil => exact absurd rfl h
    | cons a r => simp
theorem adv_le4 {l : List UInt8} : adv l ≤ 4 := by
  unfold adv
  split
  · rename_i c n hd
    have := put_len_le c; have := (put_dec hd).2.1; omega
  · omega
theorem dec_ne {l : List UInt8} (h : (dec l).isSome = true) : l ≠ [] := by
  rintro rfl; simp [dec] at h
theorem drop_adv_lt {l : List UInt8} (h : l ≠ []) : (l.drop (adv l)).length < l.length := by
  have := adv_pos (l := l); have := adv_le h
  rw [List.length_drop]; omega
/-- Where the first single byte stands. -/
def fault (l : List UInt8) : Nat := if h : (dec l).isSome = true then adv l + fault (l.drop (adv l)) else 0
termination_by l.length
decreasing_by exact drop_adv_lt (dec_ne h)
def ucount (l : List UInt8) : Nat := if h : l = [] then 0 else ucount (l.drop (adv l)) + 1
termination_by l.length
decreasing_by exact drop_adv_lt h
def fffd : List UInt8 := [239, 191, 189]
def fix1 (l : List UInt8) : List UInt8 := if (dec l).isSome = true then l.take (adv l) else fffd
def umend (l : List UInt8) : List UInt8 := if h : l = [] then [] else fix1 l ++ umend (l.drop (adv l))
termination_by l.length
decreasing_by exact drop_adv_lt h
theorem ucount_nil : ucount [] = 0 := by rw [ucount, dif_pos rfl]
theorem ucount_step {l : List UInt8} (h : l ≠ []) : ucount l = ucount (l.drop (adv l)) + 1 := by rw [ucount, dif_neg h]
theorem umend_nil : umend [] = [] := by rw [umend, dif_pos rfl]
theorem umend_step {l : List UInt8} (h : l ≠ []) : umend l = fix1 l ++ umend (l.drop (adv l)) := by rw [umend, dif_neg h]
theorem adv_some {l : List UInt8} {c n : Nat} (h : dec l = some (c, n)) : adv l = n := by unfold adv; rw [h]
theorem adv_none {l : List UInt8} (h : dec l = none) : adv l = 1 := by unfold adv; rw [h]
theorem fix1_some {l : List UInt8} {c n : Nat} (h : dec l = some (c, n)) : fix1 l = l.take n := by unfold fix1; rw [h, adv_some h]; rfl
theorem fix1_none {l : List UInt8} (h : dec l = none) : fix1 l = fffd := by unfold fix1; rw [h]; rfl
theorem fault_some {l : List UInt8} {c n : Nat} (h : dec l = some (c, n)) : fault l = n + fault (l.drop n) := by
  rw [fault, dif_pos (by rw [h]; rfl), adv_some h]
theorem fault_none {l : List UInt8} (h : dec l = none) : fault l = 0 := by
  rw [fault, dif_neg (by rw [h]; simp)]
theorem fault_le (l : List UInt8) : fault l ≤ l.length := by
  generalize hd : l.length = d
  induction d using Nat.strongRecOn generalizing l with
  | _ d ih =>
    cases h : dec l with
    | none => rw [fault_none h]; omega
    | some p =>
      obtain ⟨c, n⟩ := p
      rw [fault_some h]
      obtain ⟨_, h1, t, h2⟩ := put_dec h
      have := put_len_pos c
      have hl : (l.drop n).length = l.length - n := List.length_drop
      have hl2 : n ≤ l.length := by rw [h2, List.length_append]; omega
      have := ih (l.drop n).length (by omega) _ rfl
      omega
end Go.Proofs.Ytjplkgkkokcgjaa.U
