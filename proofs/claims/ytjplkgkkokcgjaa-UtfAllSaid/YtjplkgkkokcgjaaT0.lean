/- The printed functions of layer 3 answer what the plain ones say. No condition but the sizes. -/
import Derived.Test.YtjplkgkkokcgjaaX1
import Derived.Test.YtjplkgkkokcgjaaU2
set_option linter.unusedVariables false
set_option linter.unusedSimpArgs false
namespace Go.Proofs.Ytjplkgkkokcgjaa.T
open Go.RowKit Go.Proofs.Ytjplkgkkokcgjaa.X Go.Proofs.Ytjplkgkkokcgjaa.U Go.Proofs.YtjplkgkkokcgjaaW.PrintWords Go.Proofs.YtjplkgkkokcgjaaW.PrintLast Go.Proofs.YtjplkgkkokcgjaaW.PrintMore

theorem ext_drop (s : ByteArray) (i : Nat) : (s.extract i s.size).data.toList = s.data.toList.drop i := by
  rw [ext_list, size_len]; exact List.take_of_length_le (by rw [List.length_drop]; omega)
theorem ext_take (s : ByteArray) (i : Nat) : (s.extract 0 i).data.toList = s.data.toList.take i := by
  rw [ext_list]; simp
theorem app_list (s t : ByteArray) : (s ++ t).data.toList = s.data.toList ++ t.data.toList := by
  rw [ByteArray.data_append, Array.toList_append]
theorem next_eq (s : ByteArray) : utf_Next.f s = some (unext s.data.toList) := rfl
theorem fault_ev (s : ByteArray) (hs : s.size ≤ 4611686018427387904) : Ev (fun k => utf_Fault.f k s) ((fault s.data.toList : Nat) : Int) := by
  have hsz := size_len s
  have key : ∀ (d i : Nat), s.size - i ≤ d → i ≤ s.size → Ev (fun k => utf_Fault.l0 k s (i : Int)) (((i + fault (s.data.toList.drop i) : Nat)) : Int) := by
    intro d
    induction d with
    | zero =>
      intro i hd hi
      obtain rfl : i = s.size := by omega
      refine Ev.step (fun k => by simp only [utf_Fault.l0]; rfl) ?_
      have e : s.data.toList.drop s.size = [] := List.drop_of_length_le (by omega)
      simp only [Int.lt_irrefl, if_false, e, fault_none (l := []) rfl, Nat.add_zero]
      exact Ev.now _
    | succ d ih =>
      intro i hd hi
      by_cases hlt : i < s.size
      · refine Ev.step (fun k => by simp only [utf_Fault.l0]; rfl) ?_
        simp only [if_pos (show (i : Int) < (s.size : Int) by omega), if_pos (show (0 : Int) ≤ (i : Int) by omega), if_pos (show (i : Int) ≤ (s.size : Int) by omega), Int.toNat_natCast, next_eq, ext_drop, Option.bind_some]
        have hne : s.data.toList.drop i ≠ [] := by
          intro h; have := congrArg List.length h; rw [List.length_drop] at this; simp at this; omega
        cases hd2 : dec (s.data.toList.drop i) with
        | none =>
          rw [unext_none hne hd2, fault_none hd2]
          simp only [if_pos (show ((-1 : Int)) < 0 by omega), Nat.add_zero]
          exact Ev.now _
        | some p =>
          obtain ⟨c, n⟩ := p
          have h1 := adv_pos (l := s.data.toList.drop i)
          have h2 := adv_le hne
          rw [adv_some hd2] at h1 h2
          rw [List.length_drop] at h2
          rw [unext_some hd2, fault_some hd2]
          simp only [if_neg (show ¬ ((c : Int)) < 0 by omega), show wrap64 ((i : Int) + (n : Int)) = ((i + n : Nat) : Int) by unfold wrap64; omega]
          have := ih (i + n) (by omega) (by omega)
          rw [List.drop_drop, ← Nat.add_assoc]
          exact this
      · obtain rfl : i = s.size := by omega
        refine Ev.step (fun k => by simp only [utf_Fault.l0]; rfl) ?_
        have e : s.data.toList.drop s.size = [] := List.drop_of_length_le (by omega)
        simp only [Int.lt_irrefl, if_false, e, fault_none (l := []) rfl, Nat.add_zero]
        exact Ev.now _
  have := key s.size 0 (by omega) (by omega)
  rw [List.drop_zero, Nat.zero_add] at this
  exact Ev.congr (fun k => by simp only [utf_Fault.f]; rfl) this
theorem valid_ev (s : ByteArray) (hs : s.size ≤ 4611686018427387904) : Ev (fun k => utf_Valid.f k s) (decide (fault s.data.toList = s.data.toList.length)) := by
  unfold utf_Valid.f
  refine Ev.bind (fault_ev s hs) ?_
  have e : (((fault s.data.toList : Nat) : Int) == (s.size : Int)) = decide (fault s.data.toList = s.data.toList.length) := by
    rw [Bool.eq_iff_iff, beq_iff_eq, decide_eq_true_iff, size_len]; omega
  rw [e]
  exact Ev.now _
theorem count_ev (s : ByteArray) (hs : s.size ≤ 4611686018427387904) : Ev (fun k => utf_Count.f k s) ((ucount s.data.toList : Nat) : Int) := by
  have key : ∀ (d : Nat) (t : ByteArray) (c : Nat), t.size ≤ d → c + t.size ≤ 4611686018427387904 → Ev (fun k => utf_Count.l0 k t (c : Int)) (((c + ucount t.data.toList : Nat)) : Int) := by
    intro d
    induction d with
    | zero =>
      intro t c hd hc
      refine Ev.step (fun k => by simp only [utf_Count.l0]; rfl) ?_
      have e : t.data.toList = [] := List.eq_nil_of_length_eq_zero (by rw [← size_len]; omega)
      simp only [toList_eq, e, if_true, ucount_nil, Nat.add_zero]
      exact Ev.now _
    | succ d ih =>
      intro t c hd hc
      refine Ev.step (fun k => by simp only [utf_Count.l0]; rfl) ?_
      by_cases e : t.data.toList = []
      · simp only [toList_eq, e, if_true, ucount_nil, Nat.add_zero]
        exact Ev.now _
      · have h1 := adv_pos (l := t.data.toList)
        have h2 := adv_le e
        rw [← size_len] at h2
        have hu : (unext t.data.toList).2 = ((adv t.data.toList : Nat) : Int) := by
          cases hd2 : dec t.data.toList with
          | none => rw [unext_none e hd2, adv_none hd2]; rfl
          | some p => obtain ⟨c, n⟩ := p; rw [unext_some hd2, adv_some hd2]
        simp only [toList_eq, if_neg e, next_eq, Option.bind_some, hu, if_pos (show (0 : Int) ≤ ((adv t.data.toList : Nat) : Int) by omega), if_pos (show ((adv t.data.toList : Nat) : Int) ≤ (t.size : Int) by omega), Int.toNat_natCast, show wrap64 ((c : Int) + 1) = ((c + 1 : Nat) : Int) by unfold wrap64; omega]
        have hx : (t.extract (adv t.data.toList) t.size).size = t.size - adv t.data.toList := by rw [ByteArray.size_extract]; omega
        have := ih (t.extract (adv t.data.toList) t.size) (c + 1) (by omega) (by omega)
        rw [ext_drop] at this
        rw [ucount_step e, show c + (ucount (List.drop (adv t.data.toList) t.data.toList) + 1) = c + 1 + ucount (List.drop (adv t.data.toList) t.data.toList) by omega]
        exact this
  have := key s.size s 0 (Nat.le_refl _) (by omega)
  rw [Nat.zero_add] at this
  exact Ev.congr (fun k => by simp only [utf_Count.f]; rfl) this
theorem mend_eq (s : ByteArray) (hs : s.size ≤ 35184372088832) : utf_Mend.f s = some ⟨(umend s.data.toList).toArray⟩ := by
  unfold utf_Mend.f; rw [if_pos hs]

/-! ### Put -/
theorem i64_and63 (n : Int) : Go.bits .and .i64 n 63 = n % 64 := by
  have h63 : (BitVec.ofInt 64 63).toNat = 2 ^ 6 - 1 := by decide
  have key : (BitVec.ofInt 64 n &&& BitVec.ofInt 64 63).toNat = (n % ((2 ^ 64 : Nat) : Int)).toNat % 2 ^ 6 := by
    rw [BitVec.toNat_and, BitVec.toNat_ofInt, h63, Nat.and_two_pow_sub_one_eq_mod]
  show IntKind.i64.wrap ((BitVec.ofInt 64 n &&& BitVec.ofInt 64 63).toNat : Nat) = n % 64
  rw [key, IntKind.wrap_i64]
  omega
theorem few {m : Nat} {p : Int → Prop} (h : ∀ n : Nat, n < m → p (n : Int)) {x : Int} (h0 : 0 ≤ x) (h1 : x < m) : p x := by
  have := h x.toNat (by omega)
  rwa [Int.toNat_of_nonneg h0] at this
theorem o128 {x : Int} (h0 : 0 ≤ x) (h1 : x < 64) : Go.bits .or .i64 128 x = 128 + x := few (m := 64) (p := fun x => Go.bits .or .i64 128 x = 128 + x) (by decide +kernel) h0 h1
theorem o192 {x : Int} (h0 : 0 ≤ x) (h1 : x < 32) : Go.bits .or .i64 192 x = 192 + x := few (m := 32) (p := fun x => Go.bits .or .i64 192 x = 192 + x) (by decide +kernel) h0 h1
theorem o224 {x : Int} (h0 : 0 ≤ x) (h1 : x < 16) : Go.bits .or .i64 224 x = 224 + x := few (m := 16) (p := fun x => Go.bits .or .i64 224 x = 224 + x) (by decide +kernel) h0 h1
theorem o240 {x : Int} (h0 : 0 ≤ x) (h1 : x < 8) : Go.bits .or .i64 240 x = 240 + x := few (m := 8) (p := fun x => Go.bits .or .i64 240 x = 240 + x) (by decide +kernel) h0 h1
theorem tail_eq (x : Int) : utf_tail.f x = some (128 + x % 64) := by
  unfold utf_tail.f
  rw [i64_and63, o128 (by omega) (by omega)]
  congr 1; omega
theorem strOf (l : List Nat) : (strOfNums (l.map fun n : Nat => (n : Int))) = ⟨(l.map byt).toArray⟩ := by
  unfold strOfNums byt; simp
theorem xchar_eq (c : Nat) : X.utf_character.f (c : Int) = some (isch c) := by
  rw [← char_eq]; rfl
theorem put_eq (c : Int) : utf_Put.f c = some ⟨(iput c).toArray⟩ := by
  unfold utf_Put.f iput
  by_cases h0 : 0 ≤ c
  · obtain ⟨n, rfl⟩ := Int.eq_ofNat_of_zero_le h0
    rw [xchar_eq, Option.bind_some, Int.toNat_natCast]
    by_cases hc : isch n = true
    · have hb := (isch_iff n).1 hc
      rw [if_pos hc, if_pos (show (0 : Int) ≤ (n : Int) ∧ isch n = true from ⟨by omega, hc⟩)]
      unfold put
      by_cases h1 : n < 128
      · rw [if_pos (by omega), if_pos h1]
        rw [show ([(n : Int) % 256] : List Int) = [n].map fun n : Nat => (n : Int) by simp; omega, strOf]; rfl
      · rw [if_neg (by omega), if_neg h1]
        by_cases h2 : n < 2048
        · rw [if_pos (by omega), if_pos h2, tail_eq, Option.bind_some, o192 (by omega) (by omega)]
          rw [show ([(192 + (n : Int) / 64) % 256, 128 + (n : Int) % 64] : List Int) = [192 + n / 64, 128 + n % 64].map fun n : Nat => (n : Int) by simp; omega, strOf]; rfl
        · rw [if_neg (by omega), if_neg h2]
          by_cases h3 : n < 65536
          · rw [if_pos (by omega), if_pos h3, tail_eq, tail_eq, Option.bind_some, Option.bind_some, o224 (by omega) (by omega)]
            rw [show ([(224 + (n : Int) / 4096) % 256, 128 + (n : Int) / 64 % 64, 128 + (n : Int) % 64] : List Int) = [224 + n / 4096, 128 + n / 64 % 64, 128 + n % 64].map fun n : Nat => (n : Int) by simp; omega, strOf]; rfl
          · rw [if_neg (by omega), if_neg h3, tail_eq, tail_eq, tail_eq, Option.bind_some, Option.bind_some, Option.bind_some, o240 (by omega) (by omega)]
            rw [show ([(240 + (n : Int) / 262144) % 256, 128 + (n : Int) / 4096 % 64, 128 + (n : Int) / 64 % 64, 128 + (n : Int) % 64] : List Int) = [240 + n / 262144, 128 + n / 4096 % 64, 128 + n / 64 % 64, 128 + n % 64].map fun n : Nat => (n : Int) by simp; omega, strOf]; rfl
    · rw [if_neg hc, if_neg (show ¬ ((0 : Int) ≤ (n : Int) ∧ isch n = true) from fun h => hc h.2)]
  · rw [if_neg (show ¬ (0 ≤ c ∧ isch c.toNat = true) from fun h => h0 h.1)]
    have e : X.utf_character.f c = some false := by unfold X.utf_character.f; rw [if_neg (by omega)]
    rw [e]; rfl

/-! ### the program is awake -/
theorem awake_ev : Ev (fun k => stratumlaw03_awake.f k) true := by
  unfold stratumlaw03_awake.f
  have e1 : unext [226, 130, 172, 120] = (8364, 3) := by decide
  have f2 : fault [97, 195, 169, 255] = 3 := by
    rw [fault_some (c := 97) (n := 1) (by decide), show List.drop 1 ([97, 195, 169, 255] : List UInt8) = [195, 169, 255] from rfl, fault_some (c := 233) (n := 2) (by decide), show List.drop 2 ([195, 169, 255] : List UInt8) = [255] from rfl, fault_none (by decide)]
  have f3 : fault [195, 169] = 2 := by
    rw [fault_some (c := 233) (n := 2) (by decide), show List.drop 2 ([195, 169] : List UInt8) = [] from rfl, fault_none (by decide)]
  have f4 : ucount [97, 195, 169, 255, 97] = 4 := by
    rw [ucount_step (by simp), show List.drop (adv [97, 195, 169, 255, 97]) ([97, 195, 169, 255, 97] : List UInt8) = [195, 169, 255, 97] by decide, ucount_step (by simp), show List.drop (adv [195, 169, 255, 97]) ([195, 169, 255, 97] : List UInt8) = [255, 97] by decide, ucount_step (by simp), show List.drop (adv [255, 97]) ([255, 97] : List UInt8) = [97] by decide, ucount_step (by simp), show List.drop (adv [97]) ([97] : List UInt8) = [] by decide, ucount_nil]
  have f5 : umend [255] = [239, 191, 189] := by
    rw [umend_step (by simp), show List.drop (adv [255]) ([255] : List UInt8) = [] by decide, umend_nil, fix1_none (by decide)]; rfl
  have p1 : iput 233 = [195, 169] := by decide
  simp only [next_eq, e1, Option.bind_some, if_true, put_eq, toList_eq, p1]
  refine Ev.bind (fault_ev _ (by decide)) ?_
  simp only [f2]
  refine Ev.bind (valid_ev _ (by decide)) ?_
  simp only [f3]
  refine Ev.bind (count_ev _ (by decide)) ?_
  simp only [f4, mend_eq _ (show (⟨#[255]⟩ : ByteArray).size ≤ 35184372088832 by decide), f5]
  exact Ev.now _
end Go.Proofs.Ytjplkgkkokcgjaa.T
