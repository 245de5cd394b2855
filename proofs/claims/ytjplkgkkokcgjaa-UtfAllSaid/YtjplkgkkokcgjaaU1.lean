/- Next answers what the front of the text says: the printed function against the plain one. No condition. -/
import Derived.Test.YtjplkgkkokcgjaaY1
import Derived.Test.YtjplkgkkokcgjaaU0
set_option linter.unusedVariables false
set_option linter.unusedSimpArgs false
namespace Go.Proofs.Ytjplkgkkokcgjaa.U
open Go.RowKit Go.Proofs.YtjplkgkkokcgjaaW.PrintWords Go.Proofs.YtjplkgkkokcgjaaW.PrintLast Go.Proofs.YtjplkgkkokcgjaaW.PrintMore Go.Proofs.Ytjplkgkkokcgjaa.Y

/-! ### bits -/
theorem bytewise {p : Int → Prop} (h : ∀ n : Nat, n < 256 → p (n : Int)) {x : Int} (h0 : 0 ≤ x) (h1 : x < 256) : p x := by
  have := h x.toNat (by omega)
  rwa [Int.toNat_of_nonneg h0] at this
theorem b224 {x : Int} (h0 : 0 ≤ x) (h1 : x < 256) : Go.bits .and .i64 x 224 = x / 32 % 8 * 32 := bytewise (p := fun x => Go.bits .and .i64 x 224 = x / 32 % 8 * 32) (by decide +kernel) h0 h1
theorem b31 {x : Int} (h0 : 0 ≤ x) (h1 : x < 256) : Go.bits .and .i64 x 31 = x % 32 := bytewise (p := fun x => Go.bits .and .i64 x 31 = x % 32) (by decide +kernel) h0 h1
theorem b240 {x : Int} (h0 : 0 ≤ x) (h1 : x < 256) : Go.bits .and .i64 x 240 = x / 16 % 16 * 16 := bytewise (p := fun x => Go.bits .and .i64 x 240 = x / 16 % 16 * 16) (by decide +kernel) h0 h1
theorem b15 {x : Int} (h0 : 0 ≤ x) (h1 : x < 256) : Go.bits .and .i64 x 15 = x % 16 := bytewise (p := fun x => Go.bits .and .i64 x 15 = x % 16) (by decide +kernel) h0 h1
theorem b248 {x : Int} (h0 : 0 ≤ x) (h1 : x < 256) : Go.bits .and .i64 x 248 = x / 8 % 32 * 8 := bytewise (p := fun x => Go.bits .and .i64 x 248 = x / 8 % 32 * 8) (by decide +kernel) h0 h1
theorem b7 {x : Int} (h0 : 0 ≤ x) (h1 : x < 256) : Go.bits .and .i64 x 7 = x % 8 := bytewise (p := fun x => Go.bits .and .i64 x 7 = x % 8) (by decide +kernel) h0 h1
theorem b192 {x : Int} (h0 : 0 ≤ x) (h1 : x < 256) : Go.bits .and .u8 x 192 = x / 64 % 4 * 64 := bytewise (p := fun x => Go.bits .and .u8 x 192 = x / 64 % 4 * 64) (by decide +kernel) h0 h1
theorem b63 {x : Int} (h0 : 0 ≤ x) (h1 : x < 256) : Go.bits .and .u8 x 63 = x % 64 := bytewise (p := fun x => Go.bits .and .u8 x 63 = x % 64) (by decide +kernel) h0 h1
theorem i64_or (c d : Nat) (hc : c < 1099511627776) (hd : d < 64) : Go.bits .or .i64 (wrap64 ((c : Int) * 64)) (wrap64 (d : Int)) = ((c * 64 + d : Nat) : Int) := by
  have e1 : wrap64 ((c : Int) * 64) = ((c * 64 : Nat) : Int) := by unfold wrap64; omega
  have e2 : wrap64 (d : Int) = ((d : Nat) : Int) := by unfold wrap64; omega
  rw [e1, e2]
  show IntKind.i64.wrap (((BitVec.ofInt 64 ((c * 64 : Nat) : Int) ||| BitVec.ofInt 64 (d : Int)).toNat : Nat) : Int) = _
  rw [BitVec.toNat_or, ofInt_u64 _ (by omega), ofInt_u64 _ (by omega), IntKind.wrap_i64]
  have e3 : c * 64 ||| d = c * 64 + d := by
    rw [show c * 64 = 2 ^ 6 * c by omega, ← Nat.two_pow_add_eq_or_of_lt (show d < 2 ^ 6 by omega)]
  rw [e3]; omega

/-! ### texts as lists -/
theorem toList_eq (s : ByteArray) : s.toList = s.data.toList := ByteArray.toList_eq s
theorem size_len (s : ByteArray) : s.size = s.data.toList.length := (data_length s).symm
theorem bt_cons {s : ByteArray} {a : UInt8} {r : List UInt8} (h : s.data.toList = a :: r) : bt s 0 = (a.toNat : Int) := by
  rw [← rd_bytesOf]; unfold rd bytesOf; rw [h]; rfl
theorem ext_list (s : ByteArray) (i j : Nat) : (s.extract i j).data.toList = (s.data.toList.drop i).take (j - i) := by
  rw [ByteArray.data_extract, Array.toList_extract, List.extract_eq_take_drop]
theorem bytesOf_ext (s : ByteArray) (i j : Nat) : bytesOf (s.extract i j) = ((s.data.toList.drop i).take (j - i)).map fun b => (b.toNat : Int) := by
  unfold bytesOf; rw [ext_list]
theorem char_eq (c : Nat) : utf_character.f (c : Int) = some (isch c) := by
  unfold utf_character.f isch
  rw [if_pos (by omega)]
  by_cases h : c ≤ 1114111
  · rw [if_pos (by omega)]
    by_cases h2 : c < 55296
    · rw [if_pos (by omega)]; simp [h]; omega
    · rw [if_neg (by omega)]; congr 1
      rw [Bool.eq_iff_iff]; simp [h]; omega
  · rw [if_neg (by omega)]; simp [h]

/-! ### the walk's loop -/
theorem rd_at {l : List Int} {i : Nat} (h : i < l.length) : rd l (i : Int) = l[i] := by
  unfold rd; rw [Int.toNat_natCast, List.getD_eq_getElem?_getD, List.getElem?_eq_getElem h]; rfl
/-- The end of the loop. -/
def fin (n c least : Nat) : Int × Int := if least ≤ c ∧ isch c = true then ((c : Int), (n : Int)) else (-1, 1)
/-- What the loop answers from here on. -/
def run (n least : Nat) : Nat → List UInt8 → Int × Int
  | c, [] => fin n c least
  | c, b :: t => if tl b = true then run n least (c * 64 + b.toNat % 64) t else (-1, 1)
theorem fin_ev (n c least i : Nat) (ys : List Int) (h : i = ys.length) : Ev (fun k => utf_Next.l0 k (n : Int) (c : Int) (least : Int) ys (ys.length : Int) (i : Int)) (fin n c least) := by
  refine Ev.step (fun k => by simp only [utf_Next.l0]; rfl) ?_
  simp only [if_neg (show ¬ (i : Int) < (ys.length : Int) by omega), char_eq, Option.bind_some]
  unfold fin
  by_cases h1 : c < least
  · simp only [if_pos (show (c : Int) < (least : Int) by omega), if_neg (show ¬ (least ≤ c ∧ isch c = true) by omega)]
    exact Ev.now _
  · simp only [if_neg (show ¬ (c : Int) < (least : Int) by omega)]
    by_cases h2 : isch c = true
    · simp only [if_pos h2, if_pos (show least ≤ c ∧ isch c = true from ⟨by omega, h2⟩)]
      exact Ev.now _
    · simp only [if_neg h2, if_neg (show ¬ (least ≤ c ∧ isch c = true) from fun h => h2 h.2)]
      exact Ev.now _
theorem run_ev (n least : Nat) (ys : List UInt8) (hys : ys.length ≤ 100) : ∀ (d i c : Nat), ys.length - i = d → i ≤ ys.length → (c + 1) * 64 ^ d ≤ 1099511627776 →
    Ev (fun k => utf_Next.l0 k (n : Int) (c : Int) (least : Int) (ys.map fun b => (b.toNat : Int)) ((ys.map fun b => (b.toNat : Int)).length : Int) (i : Int)) (run n least c (ys.drop i)) := by
  intro d
  induction d with
  | zero =>
    intro i c hd hi hc
    obtain rfl : i = ys.length := by omega
    rw [List.drop_length]
    exact fin_ev n c least _ _ (by simp)
  | succ d ih =>
    intro i c hd hi hc
    have hlt : i < ys.length := by omega
    have hlt' : i < (ys.map fun b => (b.toNat : Int)).length := by simpa using hlt
    have hb := (ys[i]).toNat_lt
    have hp : 1 ≤ 64 ^ d := Nat.pow_pos (by omega)
    have hc2 : (c + 1) * 64 * 64 ^ d ≤ 1099511627776 := by rw [Nat.pow_succ] at hc; rw [Nat.mul_assoc, Nat.mul_comm 64]; exact hc
    have hc3 : (c + 1) * 64 ≤ 1099511627776 := Nat.le_trans (Nat.le_mul_of_pos_right _ hp) hc2
    have hrd : rd (ys.map fun b => (b.toNat : Int)) (i : Int) = ((ys[i]).toNat : Int) := by rw [rd_at hlt']; simp
    rw [List.drop_eq_getElem_cons hlt]
    refine Ev.step (fun k => by simp only [utf_Next.l0]; rfl) ?_
    simp only [if_pos (show (i : Int) < ((ys.map fun b => (b.toNat : Int)).length : Int) by omega), if_pos (show (0 : Int) ≤ (i : Int) by omega), hrd, run]
    rw [b192 (by omega) (by omega), b63 (by omega) (by omega), show (((ys[i]).toNat : Int) % 64) = (((ys[i]).toNat % 64 : Nat) : Int) by omega, i64_or c _ (by omega) (by omega), show wrap64 ((i : Int) + 1) = ((i + 1 : Nat) : Int) by unfold wrap64; omega]
    by_cases ht : tl (ys[i]) = true
    · have ht2 := (tl_iff _).1 ht
      simp only [if_pos ht, if_pos (show ((ys[i]).toNat : Int) / 64 % 4 * 64 = 128 by omega)]
      refine ih (i + 1) _ (by omega) (by omega) (Nat.le_trans (Nat.mul_le_mul_right _ ?_) hc2)
      omega
    · have ht2 : ¬ (128 ≤ (ys[i]).toNat ∧ (ys[i]).toNat < 192) := fun h => ht ((tl_iff _).2 h)
      simp only [if_neg ht, if_neg (show ¬ ((ys[i]).toNat : Int) / 64 % 4 * 64 = 128 by omega)]
      exact Ev.now _
theorem j_ev (s : ByteArray) (a : UInt8) (r : List UInt8) (h : s.data.toList = a :: r) (n c least : Nat) (hn1 : 1 ≤ n) (hn4 : n ≤ 4) (hc : (c + 1) * 64 ^ (n - 1) ≤ 1099511627776) :
    Ev (fun k => utf_Next.j0 k s (n : Int) (c : Int) (least : Int)) (if (a :: r).length < n then (-1, 1) else run n least c (r.take (n - 1))) := by
  have hs : s.size = (a :: r).length := by rw [size_len, h]
  refine Ev.step (fun k => by simp only [utf_Next.j0]; rfl) ?_
  by_cases hl : (a :: r).length < n
  · simp only [if_pos (show (s.size : Int) < (n : Int) by omega), if_pos hl]
    exact Ev.now _
  · have hx : (s.extract 1 (n : Int).toNat).size ≤ 9223372036854775807 := by rw [ByteArray.size_extract]; omega
    simp only [if_neg (show ¬ (s.size : Int) < (n : Int) by omega), if_neg hl, if_pos (show (1 : Int) ≤ (n : Int) by omega), if_pos (show (n : Int) ≤ (s.size : Int) by omega), if_pos hx, Option.bind_some]
    rw [Int.toNat_natCast, bytesOf_ext, h]
    have hlen : (List.take (n - 1) r).length = n - 1 := by rw [List.length_take]; simp only [List.length_cons] at hl; omega
    exact run_ev n least (List.take (n - 1) r) (by omega) (n - 1) 0 c (by omega) (by omega) hc
theorem next_ev (s : ByteArray) : Ev (fun k => utf_Next.f k s) (unext s.data.toList) := by
  unfold utf_Next.f
  rw [toList_eq]
  cases hs : s.data.toList with
  | nil => simp only [if_true]; exact Ev.now _
  | cons a r =>
    have ha := a.toNat_lt
    have hz : s.size = (a :: r).length := by rw [size_len, hs]
    have hw : wrap64 (bt s 0) = (a.toNat : Int) := by rw [bt_cons hs]; unfold wrap64; omega
    simp only [if_neg (List.cons_ne_nil a r), if_pos (show 0 < (s.size : Int) by rw [hz]; simp), hw, b224 (show 0 ≤ (a.toNat : Int) by omega) (by omega), b31 (show 0 ≤ (a.toNat : Int) by omega) (by omega), b240 (show 0 ≤ (a.toNat : Int) by omega) (by omega), b15 (show 0 ≤ (a.toNat : Int) by omega) (by omega), b248 (show 0 ≤ (a.toNat : Int) by omega) (by omega), b7 (show 0 ≤ (a.toNat : Int) by omega) (by omega)]
    unfold unext
    simp only [dec]
    by_cases c1 : a.toNat < 128
    · simp only [if_pos (show (a.toNat : Int) < 128 by omega), if_pos c1]
      exact Ev.now _
    · simp only [if_neg (show ¬ (a.toNat : Int) < 128 by omega), if_neg c1]
      by_cases c2 : 192 ≤ a.toNat ∧ a.toNat < 224
      · simp only [if_pos (show (a.toNat : Int) / 32 % 8 * 32 = 192 by omega), if_pos c2]
        have := j_ev s a r hs 2 (a.toNat % 32) 128 (by omega) (by omega) (by simp only [Nat.reduceSub, Nat.reducePow]; omega)
        rw [show ((a.toNat % 32 : Nat) : Int) = (a.toNat : Int) % 32 by omega] at this
        refine Eq.mp (congrArg _ ?_) this
        cases r with
        | nil => simp
        | cons b r1 =>
          simp only [List.length_cons, if_neg (show ¬ r1.length + 1 + 1 < 2 by omega), Nat.reduceSub, List.take_succ_cons, List.take_zero, run, fin, d2]
          by_cases t1 : tl b = true <;> simp [t1] <;> split <;> rfl
      · simp only [if_neg (show ¬ (a.toNat : Int) / 32 % 8 * 32 = 192 by omega), if_neg c2]
        by_cases c3 : 224 ≤ a.toNat ∧ a.toNat < 240
        · simp only [if_pos (show (a.toNat : Int) / 16 % 16 * 16 = 224 by omega), if_pos c3]
          have := j_ev s a r hs 3 (a.toNat % 16) 2048 (by omega) (by omega) (by simp only [Nat.reduceSub, Nat.reducePow]; omega)
          rw [show ((a.toNat % 16 : Nat) : Int) = (a.toNat : Int) % 16 by omega] at this
          refine Eq.mp (congrArg _ ?_) this
          rcases r with _ | ⟨b, _ | ⟨b1, r1⟩⟩
          · simp
          · simp
          · simp only [List.length_cons, if_neg (show ¬ r1.length + 1 + 1 + 1 < 3 by omega), Nat.reduceSub, List.take_succ_cons, List.take_zero, run, fin, d3]
            by_cases t1 : tl b = true <;> by_cases t2 : tl b1 = true <;> simp [t1, t2] <;> split <;> rfl
        · simp only [if_neg (show ¬ (a.toNat : Int) / 16 % 16 * 16 = 224 by omega), if_neg c3]
          by_cases c4 : 240 ≤ a.toNat ∧ a.toNat < 248
          · simp only [if_pos (show (a.toNat : Int) / 8 % 32 * 8 = 240 by omega), if_pos c4]
            have := j_ev s a r hs 4 (a.toNat % 8) 65536 (by omega) (by omega) (by simp only [Nat.reduceSub, Nat.reducePow]; omega)
            rw [show ((a.toNat % 8 : Nat) : Int) = (a.toNat : Int) % 8 by omega] at this
            refine Eq.mp (congrArg _ ?_) this
            rcases r with _ | ⟨b, _ | ⟨b1, _ | ⟨b2, r1⟩⟩⟩
            · simp
            · simp
            · simp
            · simp only [List.length_cons, if_neg (show ¬ r1.length + 1 + 1 + 1 + 1 < 4 by omega), Nat.reduceSub, List.take_succ_cons, List.take_zero, run, fin, d4]
              by_cases t1 : tl b = true <;> by_cases t2 : tl b1 = true <;> by_cases t3 : tl b2 = true <;> simp [t1, t2, t3] <;> split <;> rfl
          · simp only [if_neg (show ¬ (a.toNat : Int) / 8 % 32 * 8 = 240 by omega), if_neg c4]
            exact Ev.now _
/-- What Next answers, as a call. -/
theorem next_calls (s : ByteArray) (w : World) : Calls Try.prog 11 #[.string s] w fun e w' => e = .returned (.tuple #[.int .i64 (unext s.data.toList).1, .int .i64 (unext s.data.toList).2]) ∧ Below w.heap.size w w' := by
  obtain ⟨k, hk⟩ := (next_ev s).rounds
  exact utf_Next.calls k s _ _ w hk
end Go.Proofs.Ytjplkgkkokcgjaa.U
