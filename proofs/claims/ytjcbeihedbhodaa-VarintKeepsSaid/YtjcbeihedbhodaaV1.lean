/- Plain facts: the reference's bytes, lengths and signs are the program's. No condition. -/
import Derived.Test.YtjcbeihedbhodaaV0
namespace Go.Proofs.Ytjcbeihedbhodaa.Pure
open Go.RowKit Go.Proofs.Ytjcbeihedbhodaa.X Go.Proofs.YtjcbeihedbhodaaW.PrintWords Go.Proofs.YtjcbeihedbhodaaW.PrintLast Go.Proofs.YtjcbeihedbhodaaW.PrintMore
set_option linter.unusedVariables false
set_option linter.unusedSimpArgs false

theorem tdiv128 {x : Int} (h0 : 0 ≤ x) (h1 : x < 18446744073709551616) : IntKind.u64.wrap (Int.tdiv x 128) = x / 128 := by
  rw [IntKind.wrap_u64, Int.tdiv_eq_ediv_of_nonneg h0]; omega
theorem tmod128 {x : Int} (h0 : 0 ≤ x) : Int.tmod x 128 = x % 128 := Int.tmod_eq_emod_of_nonneg h0
theorem refput_ev {l : List Int} {x : Int} (hl : l.length + 10 ≤ 140737488355328) (h0 : 0 ≤ x) (h1 : x < 18446744073709551616) :
    Ev (fun k => stratumref02_Put.f k l x) (l ++ venc x.toNat) := by
  have k1 : ∀ (d : Nat) (x : Int) (ys : List Int), 0 ≤ x → x < 18446744073709551616 → x.toNat ≤ d → ys.length + (venc x.toNat).length ≤ 140737488355328 → Ev (fun k => stratumref02_Put.l1 k x ys) (ys ++ venc x.toNat) := by
    intro d
    induction d with
    | zero =>
      intro x ys h0 h1 hd hy
      have hs := varint_Size.step h0 (by omega)
      refine Ev.step (fun k => by simp only [stratumref02_Put.l1]; rfl) ?_
      rw [hs] at hy ⊢
      simp only [List.length_singleton] at hy
      simp only [if_neg (show ¬ x ≥ 128 by omega), if_pos (show ys.length < 140737488355328 by omega), show x % 256 = x by omega]
      exact Ev.now _
    | succ d ih =>
      intro x ys h0 h1 hd hy
      refine Ev.step (fun k => by simp only [stratumref02_Put.l1]; rfl) ?_
      by_cases c : x ≥ 128
      · have hs := varint_Size.step2 (y := x) (by omega)
        have hp := venc_pos (x / 128).toNat
        rw [hs] at hy ⊢
        simp only [List.length_cons] at hy
        simp only [if_pos c, if_pos (show ys.length < 140737488355328 by omega), tdiv128 h0 h1, tmod128 h0, IntKind.wrap_u64]
        rw [show (128 + x % 128) % 18446744073709551616 % 256 = x % 128 + 128 by omega]
        have := ih (x / 128) (ys ++ [x % 128 + 128]) (by omega) (by omega) (by omega) (by simp; omega)
        rw [List.append_assoc, List.singleton_append] at this
        exact this
      · have hs := varint_Size.step h0 (by omega)
        rw [hs] at hy ⊢
        simp only [List.length_singleton] at hy
        simp only [if_neg c, if_pos (show ys.length < 140737488355328 by omega), show x % 256 = x by omega]
        exact Ev.now _
  have k0 : ∀ (d i : Nat) (ys : List Int), l.length - i = d → i ≤ l.length → ys.length = l.length → ys.take i = l.take i → Ev (fun k => stratumref02_Put.l0 k l x ys (i : Int)) (l ++ venc x.toNat) := by
    intro d
    induction d with
    | zero =>
      intro i ys hd hi hy ht
      obtain rfl : i = l.length := by omega
      obtain rfl : ys = l := by rw [← hy, List.take_length] at ht; rw [ht, hy, List.take_length]
      refine Ev.step (fun k => by simp only [stratumref02_Put.l0]; rfl) ?_
      simp only [Int.lt_irrefl, if_false]
      have := venc_len10 (x := x.toNat) (by omega)
      exact k1 x.toNat x ys h0 h1 (Nat.le_refl _) (by omega)
    | succ d ih =>
      intro i ys hd hi hy ht
      refine Ev.step (fun k => by simp only [stratumref02_Put.l0]; rfl) ?_
      simp only [if_pos (show (i : Int) < (l.length : Int) by omega), if_pos (show (0 : Int) ≤ (i : Int) by omega), if_pos (show (i : Int) < (ys.length : Int) by omega), Int.toNat_natCast, show wrap64 ((i : Int) + 1) = ((i + 1 : Nat) : Int) by unfold wrap64; omega]
      refine ih (i + 1) _ (by omega) (by omega) (by rw [List.length_set]; exact hy) ?_
      have hlt : i < l.length := by omega
      rw [List.take_succ_eq_append_getElem (by rw [List.length_set]; omega), List.take_succ_eq_append_getElem hlt, List.take_set_of_le (Nat.le_refl _), ht, List.getElem_set_self]
      congr 2
      unfold rd
      rw [Int.toNat_natCast, List.getD_eq_getElem?_getD, List.getElem?_eq_getElem hlt]; rfl
  have := k0 l.length 0 (List.replicate l.length 0) (by omega) (by omega) (by simp) (by simp)
  refine Ev.congr (fun k => ?_) this
  simp only [stratumref02_Put.f, Int.toNat_natCast]
  rw [if_pos (by omega), if_pos (by omega)]
  rfl
theorem refsize_ev {x : Int} (h0 : 0 ≤ x) (h1 : x < 18446744073709551616) : Ev (fun k => stratumref02_Size.f k x) ((venc x.toNat).length : Int) := by
  have key : ∀ (d : Nat) (x n : Int), 0 ≤ x → x < 18446744073709551616 → x.toNat ≤ d → 1 ≤ n → n + ((venc x.toNat).length : Int) ≤ 100 → Ev (fun k => stratumref02_Size.l0 k x n) (n - 1 + ((venc x.toNat).length : Int)) := by
    intro d
    induction d with
    | zero =>
      intro x n h0 h1 hd hn hn2
      have hs := varint_Size.step h0 (by omega)
      refine Ev.step (fun k => by simp only [stratumref02_Size.l0]; rfl) ?_
      rw [hs]
      simp only [if_neg (show ¬ x ≥ 128 by omega)]
      rw [show n - 1 + (([x] : List Int).length : Int) = n by simp]
      exact Ev.now _
    | succ d ih =>
      intro x n h0 h1 hd hn hn2
      refine Ev.step (fun k => by simp only [stratumref02_Size.l0]; rfl) ?_
      by_cases c : x ≥ 128
      · have hs := varint_Size.step2 (y := x) (by omega)
        rw [hs] at hn2 ⊢
        simp only [List.length_cons] at hn2
        simp only [if_pos c, tdiv128 h0 h1, show wrap64 (n + 1) = n + 1 by unfold wrap64; omega]
        have := ih (x / 128) (n + 1) (by omega) (by omega) (by omega) (by omega) (by omega)
        rw [show n - 1 + (((x % 128 + 128) :: venc (x / 128).toNat).length : Int) = n + 1 - 1 + ((venc (x / 128).toNat).length : Int) by simp; omega]
        exact this
      · have hs := varint_Size.step h0 (by omega)
        rw [hs]
        simp only [if_neg c]
        rw [show n - 1 + (([x] : List Int).length : Int) = n by simp]
        exact Ev.now _
  have hl := venc_len10 (x := x.toNat) (by omega)
  have := key x.toNat x 1 h0 h1 (Nat.le_refl _) (by omega) (by omega)
  rw [show (1 : Int) - 1 + ((venc x.toNat).length : Int) = ((venc x.toNat).length : Int) by omega] at this
  exact Ev.congr (fun k => by simp only [stratumref02_Size.f]) this
theorem size_eq {x : Int} (h0 : 0 ≤ x) (h1 : x < 18446744073709551616) : varint_Size.f x = some ((venc x.toNat).length : Int) := by
  unfold varint_Size.f; rw [if_pos ⟨h0, h1⟩]
theorem put_eq {l : List Int} {x : Int} (hl : l.length + 10 ≤ 140737488355328) (h0 : 0 ≤ x) (h1 : x < 18446744073709551616) : varint_Put.f l x = some (l ++ venc x.toNat) := by
  unfold varint_Put.f; rw [if_pos ⟨h0, h1, hl⟩]
theorem refzig_eq {x : Int} (h0 : -9223372036854775808 ≤ x) (h1 : x < 9223372036854775808) : stratumref02_Zig.f x = some (if 0 ≤ x then 2 * x else -2 * x - 1) := by
  unfold stratumref02_Zig.f
  simp only [IntKind.wrap_u64]
  by_cases c : 0 ≤ x
  · rw [if_pos c, if_pos c]; congr 1; omega
  · rw [if_neg c, if_neg (show ¬ x ≥ 0 by omega), show wrap64 (x + 1) = x + 1 by unfold wrap64; omega, show wrap64 (-(x + 1)) = -(x + 1) by unfold wrap64; omega]
    congr 1; omega
theorem refzag_eq {x : Int} (h0 : 0 ≤ x) (h1 : x < 18446744073709551616) : stratumref02_Zag.f x = some (if x % 2 = 0 then x / 2 else -1 - x / 2) := by
  unfold stratumref02_Zag.f
  rw [Int.tmod_eq_emod_of_nonneg h0, Int.tdiv_eq_ediv_of_nonneg h0]
  simp only [IntKind.wrap_u64]
  by_cases c : x % 2 = 0
  · rw [if_pos c, if_pos c]; congr 1; unfold wrap64; omega
  · rw [if_neg c, if_neg c]; congr 1; unfold wrap64; omega
theorem alike_self (l : List Int) : stratumlaw02_alike.f l l = some true := by
  unfold stratumlaw02_alike.f; simp
theorem wrap64_i64 {x : Int} (h0 : 0 ≤ x) (h1 : x < 18446744073709551616) : -9223372036854775808 ≤ wrap64 x ∧ wrap64 x < 9223372036854775808 := by unfold wrap64; omega
end Go.Proofs.Ytjcbeihedbhodaa.Pure
