/- Zig and Zag are each other's way back; Zig is twice the magnitude, less one below 0; a greater number has no fewer bytes, and seven bits more make one byte more: the law answers true at every two numbers. No condition. -/
import Derived.Test.YtjcbeihedbhodaaV1
namespace Go.Proofs.Ytjcbeihedbhodaa.X
open Go.RowKit Go.Proofs.YtjcbeihedbhodaaW.PrintWords Go.Proofs.YtjcbeihedbhodaaW.PrintLast Go.Proofs.YtjcbeihedbhodaaW.PrintMore Go.Proofs.Ytjcbeihedbhodaa.Pure
set_option linter.unusedVariables false
set_option linter.unusedSimpArgs false

theorem venc_mono : ∀ (d x y : Nat), y ≤ d → x ≤ y → (venc x).length ≤ (venc y).length := by
  intro d
  induction d with
  | zero => intro x y hy h; obtain rfl : x = y := by omega
            exact Nat.le_refl _
  | succ d ih =>
    intro x y hy h
    by_cases c : x < 128
    · rw [venc_lt c]; exact venc_pos y
    · rw [venc_ge c, venc_ge (x := y) (by omega), List.length_cons, List.length_cons]
      have := ih (x / 128) (y / 128) (by omega) (by omega)
      omega
theorem venc_128 {x : Nat} (h : 0 < x) : (venc (x * 128)).length = (venc x).length + 1 := by
  rw [venc_ge (by omega), List.length_cons, show x * 128 / 128 = x by omega]
def stratumlaw02_VarintZigs.Pure : Prop := True
theorem put_nil (a0 : Int) (L : List Int) (h : varint_Put.f [] a0 = some ([] ++ L)) (w : World) :
    Calls Try.prog 11 #[.slice none 0 0, .int .u64 a0] w fun e w' => ∃ A c, e = .returned (.slice A L.length c) ∧ Below w.heap.size w w' := by
  refine (varint_Put.calls none 0 [] a0 _ w (Kd.C_nil _ _) (Nat.le_refl _) h).mono ?_
  rintro e w3 ⟨v3, rfl, ho, hb⟩
  obtain ⟨A3, c3, rfl⟩ := Kd.R_slice ho
  exact ⟨A3, c3, rfl, hb⟩
set_option maxHeartbeats 2000000 in
set_option maxRecDepth 100000 in
theorem stratumlaw02_VarintZigs.walk (P : stratumlaw02_VarintZigs.Pure) (a0 : Int) (a1 : Int) (w : World) (w0 : (Lit.int .u64 a0).wf = true) (w1 : (Lit.int .u64 a1).wf = true) :
    Calls Try.prog 7 #[.int .u64 a0, .int .u64 a1] w fun e w' => e = .returned (.bool true) ∧ Below w.heap.size w w' := by
  obtain ⟨x0, x1⟩ := u64b w0
  obtain ⟨y0, y1⟩ := u64b w1
  clear w0 w1 P
  obtain ⟨k, hk⟩ := Ev.rounds lives_ev
  obtain ⟨z0, z1⟩ := wrap64_i64 y0 y1
  obtain ⟨s, hse⟩ : ∃ s : Int, s = if a0 % 2 = 0 then a0 / 2 else -1 - a0 / 2 := ⟨_, rfl⟩
  have hs : varint_Zag.f a0 = some s := by rw [hse]; exact zag_eq x0 x1
  have s01 : -9223372036854775808 ≤ s ∧ s < 9223372036854775808 := by rw [hse]; split <;> omega
  obtain ⟨s0, s1⟩ := s01
  have hz : varint_Zig.f s = some a0 := by
    rw [zig_eq s0 s1]; congr 1; split at hse <;> split <;> omega
  obtain ⟨z, hze⟩ : ∃ z : Int, z = if 0 ≤ wrap64 a1 then 2 * wrap64 a1 else -2 * wrap64 a1 - 1 := ⟨_, rfl⟩
  have hz1 : varint_Zig.f (wrap64 a1) = some z := by rw [hze]; exact zig_eq z0 z1
  have z01 : 0 ≤ z ∧ z < 18446744073709551616 := by rw [hze]; split <;> omega
  have hz2 : varint_Zag.f z = some (wrap64 a1) := by
    rw [zag_eq z01.1 z01.2]; congr 1; split at hze <;> split <;> omega
  clear z01 hze
  have hx := size_eq x0 x1
  have hy := size_eq y0 y1
  have hput := put_eq (l := []) (by simp) x0 x1
  have hmono : a1 < a0 → ¬ ((venc a0.toNat).length : Int) < ((venc a1.toNat).length : Int) := fun h => by
    have := venc_mono a0.toNat a1.toNat a0.toNat (Nat.le_refl _) (by omega); omega
  have h128 : 0 < a0 → a0 < 144115188075855872 → varint_Size.f (a0 * 128) = some (((venc a0.toNat).length : Int) + 1) := fun h h' => by
    rw [size_eq (by omega) (by omega), show (a0 * 128).toNat = a0.toNat * 128 by omega, venc_128 (by omega)]; simp
  have hl0 := venc_len10 (x := a0.toNat) (by omega)
  have hl1 := venc_len10 (x := a1.toNat) (by omega)
  generalize venc a0.toNat = L0 at *
  generalize venc a1.toNat = L1 at *
  have HS := Aside0.mk hs; have HZ := Aside0.mk hz; have HZ1 := Aside0.mk hz1; have HZ2 := Aside0.mk hz2; have HX := Aside0.mk hx; have HY := Aside0.mk hy; have HP := Aside0.mk hput; have HK := Aside0.mk hk
  have HQ : Aside0 (Below w.heap.size w w) := Aside0.mk (Below.refl w.heap.size w)
  have par : (a0 % 2 == 1) = false ∧ s = a0 / 2 ∨ (a0 % 2 == 1) = true ∧ s = -1 - a0 / 2 := by
    rcases (show a0 % 2 = 0 ∨ a0 % 2 = 1 by omega) with h | h
    · left; rw [if_pos h] at hse; exact ⟨by rw [h]; rfl, hse⟩
    · right; rw [if_neg (by omega)] at hse; exact ⟨by rw [h]; rfl, hse⟩
  clear hs hz hz1 hz2 hx hy hput hk hse
  have ways : (¬ a1 < a0 ∨ (a1 < a0 ∧ ¬ ((L0.length : Int) < (L1.length : Int)))) ∧ (¬ a0 < 144115188075855872 ∨ (a0 < 144115188075855872 ∧ ¬ 0 < a0) ∨ (a0 < 144115188075855872 ∧ 0 < a0 ∧ Aside0 (varint_Size.f (a0 * 128) = some ((L0.length : Int) + 1)))) := by
    constructor
    · by_cases c : a1 < a0
      · exact .inr ⟨c, hmono c⟩
      · exact .inl c
    · by_cases c : a0 < 144115188075855872
      · by_cases p : 0 < a0
        · exact .inr (.inr ⟨c, p, ⟨h128 p c⟩⟩)
        · exact .inr (.inl ⟨c, p⟩)
      · exact .inl c
  clear hmono h128 y0 y1 z0 z1 s0 s1
  rcases par with ⟨par, rfl⟩ | ⟨par, rfl⟩ <;> rcases ways with ⟨m | ⟨m, m2⟩, q | ⟨q, q2⟩ | ⟨q, q2, q3⟩⟩
  all_goals
    go_enter Try.func7, Try.ntmps7
    go_wp2_with fail
    refine (stratumlaw02_lives.calls k true _ HK.out).mono ?_
    rintro e w2 ⟨rfl, hb⟩
    have HB := Aside0.mk hb; clear hb
    go_wp2_with (first | (go_at_call 13; (with_reducible refine (varint_Size.calls a0 _ _ HX.out).mono ?_); rintro e w3 ⟨rfl, ⟨n1, rfl⟩⟩) | (go_at_call 13; (with_reducible refine (varint_Size.calls a1 _ _ HY.out).mono ?_); rintro e w3 ⟨rfl, ⟨n1, rfl⟩⟩) | (go_at_call 13; (with_reducible refine (varint_Size.calls (a0 * 128) _ _ q3.out).mono ?_); rintro e w3 ⟨rfl, ⟨n1, rfl⟩⟩) | (go_at_call 17; (with_reducible refine (varint_Zag.calls a0 _ _ HS.out).mono ?_); rintro e w3 ⟨rfl, ⟨n1, rfl⟩⟩) | (go_at_call 15; (with_reducible refine (varint_Zig.calls (wrap64 a1) z _ HZ1.out).mono ?_); rintro e w3 ⟨rfl, ⟨n1, rfl⟩⟩) | (go_at_call 15; (with_reducible refine (varint_Zig.calls _ a0 _ HZ.out).mono ?_); rintro e w3 ⟨rfl, ⟨n1, rfl⟩⟩) | (go_at_call 17; (with_reducible refine (varint_Zag.calls z (wrap64 a1) _ HZ2.out).mono ?_); rintro e w3 ⟨rfl, ⟨n1, rfl⟩⟩))
    all_goals
      refine (put_nil a0 _ HP.out _).mono ?_
      rintro e w3 ⟨A3, c3, rfl, hb⟩
      have HB2 := Aside0.mk (below_step (by repeat (first | (with_reducible first | exact HB.out | apply below_alloc | apply pw_below_drewN | apply below_drew1) | exact HB.out)) hb)
      clear hb HB
      go_wp2
      go_ret
      exact ⟨by simp, HB2.out⟩
end Go.Proofs.Ytjcbeihedbhodaa.X
