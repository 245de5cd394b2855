/- The walk of lex.number: digits as a number below 2^64. Condition: the text's size. -/
import Derived.Test.YtedhkelochpdnaaG0
set_option linter.unusedVariables false
set_option linter.unusedSimpArgs false
namespace Go.Proofs.Ytedhkelochpdnaa.G
open Go.RowKit Go.Proofs.YtedhkelochpdnaaW.PrintWords Go.Proofs.YtedhkelochpdnaaW.PrintLast Go.Proofs.YtedhkelochpdnaaW.PrintMore

theorem add64 (x y : Nat) (w : World) : (callFunc 42 #[.int .u64 (x : Int), .int .u64 (y : Int), .int .u64 0]).run Try.prog w = .ok (.value (.tuple #[.int .u64 (((x + y) % 18446744073709551616 : Nat) : Int), .int .u64 (((x + y) / 18446744073709551616 : Nat) : Int)])) w := by
  rw [run_callFunc_extern Try.func42 (by kernel_rfl) (by kernel_rfl) (by kernel_rfl) (e := add64Entry) (by kernel_rfl), run_add64 x y 0 (by omega) (by omega) (by omega) (by omega)]
  simp only [Result.andThen]
  congr 5 <;> omega
def dval (b : UInt8) : Nat := (b.toNat + 208) % 256
def numv : Nat → List UInt8 → Option Nat
  | x, [] => some x
  | x, b :: t => if x * 10 + dval b < 18446744073709551616 then numv (x * 10 + dval b) t else none
def numOut : Option Nat → Value
  | some x => .tuple #[.int .u64 (x : Int), .bool true]
  | none => .tuple #[.int .u64 0, .bool false]
set_option maxHeartbeats 2000000 in
set_option maxRecDepth 100000 in
theorem number_calls (s : ByteArray) (w : World) (hs : s.size ≤ 2305843009213693952) :
    Calls Try.prog 37 #[.string s] w fun e w' => e = .returned (numOut (numv 0 s.data.toList)) ∧ w' = w := by
  have HS := Aside0.mk hs
  have hsz : s.size = s.data.toList.length := (data_length s).symm
  have HZ := Aside0.mk hsz
  clear hs hsz
  obtain ⟨o, ho⟩ : ∃ o, o = numv 0 s.data.toList := ⟨_, rfl⟩
  rw [← ho]
  have HO := Aside0.mk ho
  clear ho
  go_enter Try.func37, Try.ntmps37
  go_wp2
  go_loopw [4, 12] (fun tx tv wr => ∃ i x : Nat, tv = .int .i64 (i : Int) ∧ tx = .int .u64 (x : Int) ∧ Aside0 (i ≤ s.size) ∧ Aside0 (x < 18446744073709551616) ∧ Aside0 (numv x (s.data.toList.drop i) = o) ∧ wr = w) (fun _ tv _ => s.size - left tv)
  case atStart => exact ⟨0, 0, rfl, rfl, ⟨Nat.zero_le _⟩, ⟨by omega⟩, ⟨HO.out.symm⟩, rfl⟩
  case round =>
    obtain ⟨i, x, rfl, rfl, hi, hx, HX, rfl⟩ := hrel
    by_cases c : i < s.size
    · have c1 : decide ((i : Int) < (s.size : Int)) = true := decide_eq_true (by omega)
      have c2 : decide (i < s.size) = true := decide_eq_true c
      have p1 : (0 ≤ (i : Int)) = True := eq_true (by omega)
      have p2 : ((i : Int) < (s.size : Int)) = True := eq_true (by omega)
      have HBD : Aside0 (s.data.toList.drop i = (s.data.toList[i]'(by rw [← HZ.out]; exact c)) :: s.data.toList.drop (i + 1)) := ⟨List.drop_eq_getElem_cons _⟩
      obtain ⟨u, hu⟩ : ∃ u : UInt8, u = s[i]'c := ⟨_, rfl⟩
      have hu2 : (s[i]'c) = u := hu.symm
      have HU : Aside0 (u = s.data.toList[i]'(by rw [← HZ.out]; exact c)) := ⟨by rw [hu]; rfl⟩
      clear hu
      have d1 : ((u.toNat : Int) - 48) % 256 = ((dval u : Nat) : Int) := by unfold dval; omega
      have d2 : IntKind.u8.wrap ((u.toNat : Int) - 48) = ((dval u : Nat) : Int) := by rw [IntKind.wrap_u8]; exact d1
      have hd : dval u < 256 := Nat.mod_lt _ (by omega)
      have d3 : IntKind.u64.wrap ((dval u : Nat) : Int) = ((dval u : Nat) : Int) := by rw [IntKind.wrap_u64]; omega
      have HM := Aside0.mk (Try.bits_Mul64 x 10 hx.out (by omega) wr)
      obtain ⟨q, hq⟩ : ∃ q, q = x * 10 / 18446744073709551616 := ⟨_, rfl⟩
      obtain ⟨r, hr⟩ : ∃ r, r = x * 10 % 18446744073709551616 := ⟨_, rfl⟩
      rw [← hq, ← hr] at HM
      have ha := add64 r (dval u) wr
      obtain ⟨g, hg⟩ : ∃ g, g = (r + dval u) / 18446744073709551616 := ⟨_, rfl⟩
      obtain ⟨z, hz⟩ : ∃ z, z = (r + dval u) % 18446744073709551616 := ⟨_, rfl⟩
      rw [← hg, ← hz] at ha
      have HA := Aside0.mk ha
      have HX2 : Aside0 ((if x * 10 + dval u < 18446744073709551616 then numv (x * 10 + dval u) (s.data.toList.drop (i + 1)) else none) = o) := ⟨by
        have h := HX.out
        rw [HBD.out, ← HU.out] at h; exact h⟩
      have W1 : Aside0 (wrap64 ((i : Int) + 1) = ((i + 1 : Nat) : Int)) := ⟨by have := HS.out; rw [w64 (by omega) (by omega)]; rfl⟩
      have Q := Aside0.mk (And.intro hq (And.intro hr (And.intro hg hz)))
      clear HX HBD HU hq hr hg hz ha
      by_cases k1 : q = 0
      · subst k1
        by_cases k2 : g = 0
        · subst k2
          have hlt : x * 10 + dval u < 18446744073709551616 := by obtain ⟨q1, q2, q3, q4⟩ := Q.out; omega
          have hze : z = x * 10 + dval u := by obtain ⟨q1, q2, q3, q4⟩ := Q.out; omega
          have h := HX2.out
          rw [if_pos hlt, ← hze] at h
          have HX3 := Aside0.mk h
          have HZL : Aside0 (z < 18446744073709551616) := ⟨by omega⟩
          clear h HX2 Q hlt hze
          have e1 : ∀ [Inhabited Unit], wrap64 ((i : Int) + 1) = ((i + 1 : Nat) : Int) := fun {_} => W1.out
          have ha := HA.out
          go_wp2_with (go_at_call 41; refine HM.out.mono ?_; rintro e w1 ⟨rfl, rfl⟩)
          refine ⟨⟨i + 1, z, by rw [W1.out], rfl, ⟨by omega⟩, HZL, HX3, trivial⟩, ?_⟩
          show s.size - (wrap64 ((i : Int) + 1)).toNat < s.size - ((i : Nat) : Int).toNat
          rw [W1.out, Int.toNat_natCast, Int.toNat_natCast]
          omega
        · have hge : ¬ x * 10 + dval u < 18446744073709551616 := by obtain ⟨q1, q2, q3, q4⟩ := Q.out; omega
          have h := HX2.out
          rw [if_neg hge] at h
          have HX3 := Aside0.mk h
          have b1 : ((g : Int) == 0) = false := beq_eq_false_iff_ne.mpr (by omega)
          have b2 : ((g : Int) != 0) = true := bne_iff_ne.mpr (by omega)
          have b3 : ((g : Int) = 0) = False := eq_false (by omega)
          have b4 : (g = 0) = False := eq_false k2
          clear h HX2 Q hge
          have ha := HA.out
          go_wp2_with (go_at_call 41; refine HM.out.mono ?_; rintro e w1 ⟨rfl, rfl⟩)
          go_ret2
          rw [← HX3.out]
          exact ⟨rfl, rfl⟩
      · have hge : ¬ x * 10 + dval u < 18446744073709551616 := by obtain ⟨q1, q2, q3, q4⟩ := Q.out; omega
        have h := HX2.out
        rw [if_neg hge] at h
        have HX3 := Aside0.mk h
        have b1 : ((q : Int) == 0) = false := beq_eq_false_iff_ne.mpr (by omega)
        have b2 : ((q : Int) != 0) = true := bne_iff_ne.mpr (by omega)
        have b3 : ((q : Int) = 0) = False := eq_false (by omega)
        have b4 : (q = 0) = False := eq_false k1
        clear h HX2 Q hge
        have ha := HA.out
        go_wp2_with (go_at_call 41; refine HM.out.mono ?_; rintro e w1 ⟨rfl, rfl⟩)
        go_ret2
        rw [← HX3.out]
        exact ⟨rfl, rfl⟩
    · have c1 : decide ((i : Int) < (s.size : Int)) = false := decide_eq_false (by omega)
      have c2 : decide (i < s.size) = false := decide_eq_false c
      have h := HX.out
      rw [List.drop_of_length_le (by rw [← HZ.out]; omega)] at h
      have HX3 : Aside0 (some x = o) := ⟨h⟩
      clear h HX
      go_wp2
      go_ret2
      rw [← HX3.out]
      exact ⟨rfl, rfl⟩
end Go.Proofs.Ytedhkelochpdnaa.G
