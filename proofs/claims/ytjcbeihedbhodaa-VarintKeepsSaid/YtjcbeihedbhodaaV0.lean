/- Plain facts about numbers in bytes: what the printed functions of layer 2 compute. No condition. -/
import Derived.Test.YtjcbeihedbhodaaX2
import Derived.Laws.BitsAllLaws
import Derived.Laws.Bits64
import Derived.OpenShut
namespace Go.Proofs.Ytjcbeihedbhodaa.Pure
open Go.RowKit Go.Proofs.Ytjcbeihedbhodaa.X Go.Proofs.YtjcbeihedbhodaaW.PrintWords Go.Proofs.YtjcbeihedbhodaaW.PrintLast Go.Proofs.YtjcbeihedbhodaaW.PrintMore
set_option linter.unusedVariables false
set_option linter.unusedSimpArgs false

theorem u64b {x : Int} (h : (Lit.int .u64 x).wf = true) : 0 ≤ x ∧ x < 18446744073709551616 := by
  have := Go.bounds_u64 h; omega
theorem u8b {x : Int} (h : (Lit.int .u8 x).wf = true) : 0 ≤ x ∧ x < 256 := by
  have := Go.bounds_u8 h; omega

/-! ### signs -/
theorem xor0 {x : Int} (h0 : 0 ≤ x) (h1 : x < 18446744073709551616) : Go.bits .xor .u64 x 0 = x := by
  rw [u64_xor x 0 h0 h1 (by omega) (by omega)]
  simp; omega
theorem xorF {x : Int} (h0 : 0 ≤ x) (h1 : x < 18446744073709551616) : Go.bits .xor .u64 x 18446744073709551615 = 18446744073709551615 - x := by
  obtain ⟨n, rfl⟩ := Int.eq_ofNat_of_zero_le h0
  have e : BitVec.ofInt 64 18446744073709551615 = BitVec.allOnes 64 := by decide
  show IntKind.u64.wrap (((BitVec.ofInt 64 (n : Int) ^^^ BitVec.ofInt 64 18446744073709551615).toNat : Nat) : Int) = _
  rw [e, BitVec.xor_allOnes, BitVec.toNat_not, ofInt_u64 n (by omega), IntKind.wrap_u64]
  omega
theorem ixor0 {x : Int} (h0 : 0 ≤ x) (h1 : x < 9223372036854775808) : Go.bits .xor .i64 x 0 = x := by
  obtain ⟨n, rfl⟩ := Int.eq_ofNat_of_zero_le h0
  have e : BitVec.ofInt 64 0 = 0#64 := by decide
  show IntKind.i64.wrap (((BitVec.ofInt 64 (n : Int) ^^^ BitVec.ofInt 64 0).toNat : Nat) : Int) = _
  rw [e, BitVec.xor_zero, ofInt_u64 n (by omega), IntKind.wrap_i64]
  omega
theorem ixorF {x : Int} (h0 : 0 ≤ x) (h1 : x < 9223372036854775808) : Go.bits .xor .i64 x (-1) = -1 - x := by
  obtain ⟨n, rfl⟩ := Int.eq_ofNat_of_zero_le h0
  have e : BitVec.ofInt 64 (-1) = BitVec.allOnes 64 := by decide
  show IntKind.i64.wrap (((BitVec.ofInt 64 (n : Int) ^^^ BitVec.ofInt 64 (-1)).toNat : Nat) : Int) = _
  rw [e, BitVec.xor_allOnes, BitVec.toNat_not, ofInt_u64 n (by omega), IntKind.wrap_i64]
  omega
theorem zig_eq {x : Int} (h0 : -9223372036854775808 ≤ x) (h1 : x < 9223372036854775808) : varint_Zig.f x = some (if 0 ≤ x then 2 * x else -2 * x - 1) := by
  unfold varint_Zig.f
  simp only [IntKind.wrap_u64]
  by_cases c : 0 ≤ x
  · rw [if_pos c, show x / 9223372036854775808 % 18446744073709551616 = 0 by omega, xor0 (by omega) (by omega)]
    congr 1; omega
  · rw [if_neg c, show x / 9223372036854775808 % 18446744073709551616 = 18446744073709551615 by omega, xorF (by omega) (by omega)]
    congr 1; omega
theorem and1 {x : Int} (h0 : 0 ≤ x) (h1 : x < 18446744073709551616) : Go.bits .and .u64 x 1 = x % 2 := by
  rw [u64_and x 1 h0 h1 (by omega) (by omega)]
  have : x.toNat &&& (1 : Int).toNat = x.toNat % 2 := by
    rw [show (1 : Int).toNat = 2 ^ 1 - 1 from rfl, Nat.and_two_pow_sub_one_eq_mod]
  rw [this]; omega
theorem zag_eq {x : Int} (h0 : 0 ≤ x) (h1 : x < 18446744073709551616) : varint_Zag.f x = some (if x % 2 = 0 then x / 2 else -1 - x / 2) := by
  unfold varint_Zag.f
  rw [and1 h0 h1]
  by_cases c : x % 2 = 0
  · rw [if_pos c, c, show wrap64 (-(wrap64 0)) = 0 by unfold wrap64; omega, show wrap64 (x / 2) = x / 2 by unfold wrap64; omega, ixor0 (by omega) (by omega)]
  · rw [if_neg c, show x % 2 = 1 by omega, show wrap64 (-(wrap64 1)) = -1 by unfold wrap64; omega, show wrap64 (x / 2) = x / 2 by unfold wrap64; omega, ixorF (by omega) (by omega)]

/-! ### what Take tells -/
/-- Take, from byte i on, acc told so far. -/
def tk (i : Nat) (acc : Int) : List Int → Int × Int × Int
  | [] => (0, 0, 5)
  | c :: t => if (0 < i ∧ c = 0) ∨ (i = 9 ∧ 1 < c) then (0, 0, 3) else if c < 128 then (acc + c * (128 ^ i : Nat), (i : Int) + 1, 0) else tk (i + 1) (acc + (c - 128) * (128 ^ i : Nat)) t
def Bytes (l : List Int) : Prop := ∀ x ∈ l, 0 ≤ x ∧ x < 256
theorem bytes_drop {l : List Int} (h : Bytes l) (n : Nat) : Bytes (l.drop n) := fun x hx => h x (List.mem_of_mem_drop hx)
theorem bytes_take {l : List Int} (h : Bytes l) (n : Nat) : Bytes (l.take n) := fun x hx => h x (List.mem_of_mem_take hx)
theorem bytes_rd {l : List Int} (h : Bytes l) (i : Int) : 0 ≤ rd l i ∧ rd l i < 256 := by
  unfold rd
  by_cases c : i.toNat < l.length
  · rw [List.getD_eq_getElem?_getD, List.getElem?_eq_getElem c]
    exact h _ (List.getElem_mem c)
  · rw [List.getD_eq_getElem?_getD, List.getElem?_eq_none (by omega)]
    simp
theorem drop_rd {l : List Int} {i : Nat} (h : i < l.length) : l.drop i = rd l (i : Int) :: l.drop (i + 1) := by
  rw [List.drop_eq_getElem_cons h]
  congr 1
  unfold rd
  rw [Int.toNat_natCast, List.getD_eq_getElem?_getD, List.getElem?_eq_getElem h]
  rfl
theorem and127 {x : Int} (h0 : 0 ≤ x) (h1 : x < 256) : Go.bits .and .u8 x 127 = x % 128 := by
  have key : ∀ n : Nat, n < 256 → Go.bits .and .u8 (n : Int) 127 = (n : Int) % 128 := by decide +kernel
  have := key x.toNat (by omega)
  rw [Int.toNat_of_nonneg h0] at this
  exact this
theorem pow9 {i : Nat} (h : i ≤ 9) : i = 0 ∨ i = 1 ∨ i = 2 ∨ i = 3 ∨ i = 4 ∨ i = 5 ∨ i = 6 ∨ i = 7 ∨ i = 8 ∨ i = 9 := by omega
theorem or_add (a c s : Nat) (ha : a < 2 ^ s) (h : 2 ^ s * c + a < 18446744073709551616) : Go.bits .or .u64 (a : Int) ((2 ^ s * c : Nat) : Int) = ((2 ^ s * c + a : Nat) : Int) := by
  rw [u64_or _ _ (by omega) (by omega) (by omega) (by omega)]
  rw [Int.toNat_natCast, Int.toNat_natCast, Nat.or_comm, ← Nat.two_pow_add_eq_or_of_lt ha]
theorem or_shl {i : Nat} {acc c : Int} (hi : i ≤ 9) (ha : 0 ≤ acc) (hb : acc < (128 ^ i : Nat)) (h0 : 0 ≤ c) (h1 : c < 128) (h9 : i = 9 → c ≤ 1) :
    Go.bits .or .u64 acc (shl .u64 c (wrap64 (7 * (i : Int)))) = acc + c * (128 ^ i : Nat) := by
  obtain ⟨a, rfl⟩ := Int.eq_ofNat_of_zero_le ha
  obtain ⟨d, rfl⟩ := Int.eq_ofNat_of_zero_le h0
  have hw : wrap64 (7 * (i : Int)) = ((7 * i : Nat) : Int) := by unfold wrap64; omega
  have hp : (128 ^ i : Nat) = 2 ^ (7 * i) := by rw [show (128 : Nat) = 2 ^ 7 from rfl, ← Nat.pow_mul]
  have hb' : a < 2 ^ (7 * i) := by rw [← hp]; omega
  have hlt : 2 ^ (7 * i) * d + a < 18446744073709551616 := by
    rw [← hp]
    have hb2 : a < 128 ^ i := by omega
    rcases pow9 hi with rfl | rfl | rfl | rfl | rfl | rfl | rfl | rfl | rfl | rfl <;> simp only [Nat.reducePow] at hb2 ⊢ <;> (try have := h9 rfl) <;> omega
  have hs : shl .u64 (d : Int) (wrap64 (7 * (i : Int))) = ((2 ^ (7 * i) * d : Nat) : Int) := by
    unfold shl
    rw [hw, Int.toNat_natCast, Nat.min_eq_left (show 7 * i ≤ IntKind.u64.bits by simp [IntKind.bits]; omega), IntKind.wrap_u64]
    have e : (d : Int) * 2 ^ (7 * i) = ((2 ^ (7 * i) * d : Nat) : Int) := by push_cast; rw [Int.mul_comm]
    rw [e]; omega
  rw [hs, or_add a d (7 * i) hb' hlt, hp]
  push_cast; rw [Int.mul_comm]; omega
theorem take_ev {l : List Int} (hl : Bytes l) (hn : l.length ≤ 9223372036854775806) : Ev (fun k => varint_Take.f k l) (tk 0 0 l) := by
  have key : ∀ (d i : Nat) (acc : Int), l.length - i = d → i ≤ l.length → i ≤ 10 → 0 ≤ acc → acc < (128 ^ i : Nat) → i ≠ 10 →
      Ev (fun k => varint_Take.l0 k acc l (l.length : Int) (i : Int)) (tk i acc (l.drop i)) := by
    intro d
    induction d with
    | zero =>
      intro i acc hd hi h10 h0 h1 hf
      obtain rfl : i = l.length := by omega
      refine Ev.step (fun k => by simp only [varint_Take.l0]; rfl) ?_
      simp only [Int.lt_irrefl, if_false, List.drop_length, tk]
      exact Ev.now _
    | succ d ih =>
      intro i acc hd hi h10 h0 h1 hf
      have hlt : i < l.length := by omega
      obtain ⟨c0, c1⟩ := bytes_rd hl (i : Int)
      rw [drop_rd hlt]
      refine Ev.step (fun k => by simp only [varint_Take.l0]; rfl) ?_
      have hj : ∀ b : Bool, b = decide ((0 < i ∧ rd l (i : Int) = 0) ∨ (i = 9 ∧ 1 < rd l (i : Int))) → Ev (fun k => varint_Take.j1 k acc (i : Int) (rd l i) l (l.length : Int) (i : Int) b) (tk i acc (rd l (i : Int) :: l.drop (i + 1))) := by
        intro b hb
        refine Ev.step (fun k => by simp only [varint_Take.j1]; rfl) ?_
        by_cases c : (0 < i ∧ rd l (i : Int) = 0) ∨ (i = 9 ∧ 1 < rd l (i : Int))
        · rw [decide_eq_true c] at hb
          subst hb
          simp only [if_true, tk, if_pos c]
          exact Ev.now _
        · rw [decide_eq_false c] at hb
          subst hb
          have hw : wrap64 (7 * (i : Int)) = 7 * (i : Int) := by unfold wrap64; omega
          have hw1 : wrap64 ((i : Int) + 1) = ((i + 1 : Nat) : Int) := by unfold wrap64; omega
          have ho : ∀ x, x % 128 = x % 128 → 0 ≤ wrap64 (7 * (i : Int)) := fun _ _ => by rw [hw]; omega
          have hval : Go.bits .or .u64 acc (shl .u64 (IntKind.u64.wrap (Go.bits .and .u8 (rd l i) 127)) (wrap64 (7 * (i : Int)))) = acc + (rd l i % 128) * (128 ^ i : Nat) := by
            rw [and127 c0 c1, IntKind.wrap_u64, show rd l (i : Int) % 128 % 18446744073709551616 = rd l (i : Int) % 128 by omega]
            exact or_shl (by omega) h0 h1 (by omega) (by omega) (fun h9 => by omega)
          simp only [Bool.false_eq_true, if_false, if_pos (ho 0 rfl), hval, tk, if_neg c, hw1]
          by_cases c3 : rd l (i : Int) < 128
          · simp only [if_pos c3]
            rw [show rd l (i : Int) % 128 = rd l (i : Int) by omega, show ((i + 1 : Nat) : Int) = (i : Int) + 1 by omega]
            exact Ev.now _
          · simp only [if_neg c3]
            rw [show rd l (i : Int) % 128 = rd l (i : Int) - 128 by omega]
            have hi9 : i ≠ 9 := by omega
            have hpw : ((128 ^ (i + 1) : Nat) : Int) = 128 * (128 ^ i : Nat) := by rw [Nat.pow_succ]; push_cast; omega
            have hpp : (0 : Int) < (128 ^ i : Nat) := by have := Nat.pow_pos (n := i) (show 0 < 128 by omega); omega
            have hm : (rd l (i : Int) - 128) * ((128 ^ i : Nat) : Int) ≤ 127 * ((128 ^ i : Nat) : Int) := Int.mul_le_mul_of_nonneg_right (by omega) (by omega)
            have hm0 : 0 ≤ (rd l (i : Int) - 128) * ((128 ^ i : Nat) : Int) := Int.mul_nonneg (by omega) (by omega)
            exact ih (i + 1) _ (by omega) (by omega) (by omega) (by omega) (by rw [hpw]; omega) (by omega)
      have hlt' : (i : Int) < (l.length : Int) := by omega
      simp only [if_pos hlt', if_pos (show (0 : Int) ≤ (i : Int) by omega)]
      by_cases p : (i : Int) > 0
      · simp only [if_pos p]
        by_cases z : rd l (i : Int) = 0
        · simp only [if_pos z]
          exact hj true (by rw [decide_eq_true]; exact .inl ⟨by omega, z⟩)
        · simp only [if_neg z]
          by_cases n9 : (i : Int) = 9
          · simp only [if_pos n9]
            refine hj _ ?_
            rw [decide_eq_decide]; omega
          · simp only [if_neg n9]
            exact hj false (by rw [decide_eq_false]; omega)
      · simp only [if_neg p]
        by_cases n9 : (i : Int) = 9
        · omega
        · simp only [if_neg n9]
          exact hj false (by rw [decide_eq_false]; omega)
  have := key l.length 0 0 (by omega) (by omega) (by omega) (by omega) (by simp) (by omega)
  exact Ev.congr (fun k => by simp only [varint_Take.f]; rfl) this

/-! ### the program is awake -/
theorem venc300 : venc 300 = [172, 2] := by rw [venc_ge (by omega), venc_lt (by omega)]; rfl
theorem lives_ev : Ev (fun k => stratumlaw02_lives.f k) true := by
  have h1 : varint_Put.f ([] : List Int) 300 = some [172, 2] := by
    unfold varint_Put.f
    rw [if_pos (by simp)]
    simp [venc300]
  have h2 : varint_Size.f 300 = some 2 := by
    unfold varint_Size.f
    rw [if_pos (by omega)]
    simp [venc300]
  have ht : Ev (fun k => varint_Take.f k [172, 2]) (300, 2, 0) := by
    have := take_ev (l := [172, 2]) (by intro x hx; simp at hx; omega) (by simp)
    simpa [tk] using this
  unfold stratumlaw02_lives.f
  simp only [h1, Option.bind_some]
  refine Ev.bind ht ?_
  simp only [stratumlaw02_alike.f, beq_self_eq_true, Option.bind_some, if_true, h2]
  rw [zig_eq (x := -1) (by omega) (by omega), zag_eq (x := 3) (by omega) (by omega)]
  simp
  exact Ev.now _
end Go.Proofs.Ytjcbeihedbhodaa.Pure
