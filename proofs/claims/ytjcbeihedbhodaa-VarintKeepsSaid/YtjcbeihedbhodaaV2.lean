/- Plain facts: Take of the bytes of x, whatever stands behind them, is x and how many they are; and what Take takes are the bytes of it. No condition. -/
import Derived.Test.YtjcbeihedbhodaaV1
namespace Go.Proofs.Ytjcbeihedbhodaa.Pure
open Go.RowKit Go.Proofs.Ytjcbeihedbhodaa.X Go.Proofs.YtjcbeihedbhodaaW.PrintWords Go.Proofs.YtjcbeihedbhodaaW.PrintLast
set_option linter.unusedVariables false
set_option linter.unusedSimpArgs false

theorem tk_venc : ∀ (d i x : Nat) (acc : Int) (rest : List Int), x ≤ d → 0 ≤ acc → (i = 0 ∨ 0 < x) → acc + (x : Int) * (128 ^ i : Nat) < 18446744073709551616 → i ≤ 9 →
    tk i acc (venc x ++ rest) = (acc + (x : Int) * (128 ^ i : Nat), (i : Int) + ((venc x).length : Int), 0) := by
  intro d
  induction d with
  | zero =>
    intro i x acc rest hx h0 hi hb h9
    obtain rfl : x = 0 := by omega
    obtain rfl : i = 0 := by omega
    rw [venc_lt (by omega)]
    simp [tk]
  | succ d ih =>
    intro i x acc rest hx h0 hi hb h9
    have hx9 : i = 9 → x ≤ 1 := by
      rintro rfl
      simp only [Nat.reducePow] at hb; omega
    by_cases c : x < 128
    · rw [venc_lt c]
      simp only [List.cons_append, List.nil_append, tk]
      rw [if_neg (by omega), if_pos (by omega)]
      simp
    · rw [venc_ge c]
      simp only [List.cons_append, tk]
      rw [if_neg (by omega), if_neg (by omega)]
      have hpw : ((128 ^ (i + 1) : Nat) : Int) = 128 * (128 ^ i : Nat) := by rw [Nat.pow_succ]; push_cast; omega
      have hsum : acc + (((x % 128 + 128 : Nat) : Int) - 128) * (128 ^ i : Nat) + ((x / 128 : Nat) : Int) * (128 ^ (i + 1) : Nat) = acc + (x : Int) * (128 ^ i : Nat) := by
        rw [hpw, show (((x % 128 + 128 : Nat) : Int) - 128) = ((x % 128 : Nat) : Int) by omega, ← Int.mul_assoc, Int.add_assoc, ← Int.add_mul]
        congr 2; omega
      have hpp : (0 : Int) ≤ (128 ^ i : Nat) := Int.natCast_nonneg _
      have hm : 0 ≤ (((x % 128 + 128 : Nat) : Int) - 128) * ((128 ^ i : Nat) : Int) := Int.mul_nonneg (by omega) hpp
      have hq : 0 ≤ acc + (((x % 128 + 128 : Nat) : Int) - 128) * ((128 ^ i : Nat) : Int) := by omega
      rw [ih (i + 1) (x / 128) _ rest (by omega) hq (.inr (by omega)) (by rw [hsum]; exact hb) (by omega), hsum]
      rw [List.length_cons]
      congr 2; omega
theorem take_venc {x : Nat} (rest : List Int) (h : x < 18446744073709551616) : tk 0 0 (venc x ++ rest) = ((x : Int), ((venc x).length : Int), 0) := by
  have := tk_venc x 0 x 0 rest (Nat.le_refl _) (by omega) (.inl rfl) (by simp; omega) (by omega)
  simpa using this
theorem venc_bytes (x : Nat) : Bytes (venc x) := by
  have key : ∀ d x, x ≤ d → Bytes (venc x) := by
    intro d
    induction d with
    | zero => intro x hx y hy; rw [venc_lt (by omega)] at hy; simp at hy; omega
    | succ d ih =>
      intro x hx y hy
      by_cases c : x < 128
      · rw [venc_lt c] at hy; simp at hy; omega
      · rw [venc_ge c] at hy
        rcases List.mem_cons.1 hy with h | h
        · omega
        · exact ih (x / 128) (by omega) y h
  exact key x x (Nat.le_refl _)
theorem bytes_app {a b : List Int} (ha : Bytes a) (hb : Bytes b) : Bytes (a ++ b) := fun x hx => (List.mem_append.1 hx).elim (ha x) (hb x)
end Go.Proofs.Ytjcbeihedbhodaa.Pure
