/- Plain facts: Hex of the program and of the reference answer the same. Conditions: sizes alone. -/
import Derived.Test.YthgkemkcepkkcaaS1
set_option linter.unusedVariables false
set_option linter.unusedSimpArgs false
namespace Go.Proofs.Ythgkemkcepkkcaa.S
open Go.RowKit Go.Proofs.Ythgkemkcepkkcaa.X Go.Proofs.Ythgkemkcepkkcaa.G Go.Proofs.YthgkemkcepkkcaaW.PrintWords Go.Proofs.YthgkemkcepkkcaaW.PrintLast Go.Proofs.YthgkemkcepkkcaaW.PrintMore

/-- Pairs of digits as bytes; none if one is no digit, or stands alone. -/
def unhex : List Int → Option (List Int)
  | [] => some []
  | [_] => none
  | a :: b :: t => if hexv a = 16 then none else if hexv b = 16 then none else (unhex t).map fun r => (16 * hexv a + hexv b) :: r
def hexEnd (ys : List Int) : Option (List Int) → ByteArray × Int
  | some zs => (strOfNums (ys ++ zs), 0)
  | none => (⟨#[]⟩, 111)
def hexOut (s : ByteArray) : ByteArray × Int := if s.size % 2 = 0 then hexEnd [] (unhex (bytesOf s)) else (⟨#[]⟩, 111)
theorem bt_bytes (s : ByteArray) (i : Int) : 0 ≤ bt s i ∧ bt s i < 256 := by have := bt_range s i; omega
theorem drop_bytes {s : ByteArray} {i : Nat} (h : i < s.size) : (bytesOf s).drop i = bt s (i : Int) :: (bytesOf s).drop (i + 1) := by
  have hl : i < (bytesOf s).length := by rw [bytesOf_length]; exact h
  rw [List.drop_eq_getElem_cons hl]
  congr 1
  rw [← rd_bytesOf]
  unfold rd
  rw [Int.toNat_natCast, List.getD_eq_getElem?_getD, List.getElem?_eq_getElem hl]; rfl
theorem or16 {h l : Int} (h0 : 0 ≤ h) (h1 : h < 16) (l0 : 0 ≤ l) (l1 : l < 16) : Go.bits .or .u8 ((h * 16) % 256) l = 16 * h + l := by
  have key : ∀ a : Nat, a < 16 → ∀ b : Nat, b < 16 → Go.bits .or .u8 (((a : Int) * 16) % 256) (b : Int) = 16 * (a : Int) + (b : Int) := by decide +kernel
  have := key h.toNat (by omega) l.toNat (by omega)
  rwa [Int.toNat_of_nonneg h0, Int.toNat_of_nonneg l0] at this
theorem hex_ev (s : ByteArray) (hs : s.size ≤ 140737488355328) : Ev (fun k => part_Hex.f k s) (hexOut s) := by
  by_cases he : s.size % 2 = 0
  · have key : ∀ (d i : Nat) (ys : List Int), s.size - i ≤ d → i ≤ s.size → i % 2 = 0 → 2 * ys.length ≤ i → Ev (fun k => part_Hex.l0 k s ys (i : Int)) (hexEnd ys (unhex ((bytesOf s).drop i))) := by
      intro d
      induction d with
      | zero =>
        intro i ys hd hi hi2 hy
        obtain rfl : i = s.size := by omega
        refine Ev.step (fun k => by simp only [part_Hex.l0]; rfl) ?_
        rw [List.drop_of_length_le (by rw [bytesOf_length]; omega)]
        simp only [Int.lt_irrefl, if_false, unhex, hexEnd, List.append_nil]
        exact Ev.now _
      | succ d ih =>
        intro i ys hd hi hi2 hy
        by_cases hlt : i < s.size
        · have hlt2 : i + 1 < s.size := by omega
          have g1 : (i : Int) < (s.size : Int) := by omega
          have g2 : (0 : Int) ≤ (i : Int) := by omega
          have g3 : ys.length < 140737488355328 := by omega
          have g4 : (0 : Int) ≤ ((i + 1 : Nat) : Int) := by omega
          have g5 : ((i + 1 : Nat) : Int) < (s.size : Int) := by omega
          have ihh := ih (i + 2) (ys ++ [16 * hexv (bt s (i : Int)) + hexv (bt s ((i + 1 : Nat) : Int))]) (by omega) (by omega) (by omega) (by rw [List.length_append]; simp; omega)
          have hw : wrap64 ((i : Int) + 1) = ((i + 1 : Nat) : Int) := by rw [w64 (by omega) (by omega)]; rfl
          have hw2 : wrap64 ((i : Int) + 2) = ((i + 2 : Nat) : Int) := by rw [w64 (by omega) (by omega)]; rfl
          rw [drop_bytes hlt, drop_bytes hlt2]
          refine Ev.step (fun k => by simp only [part_Hex.l0]; rfl) ?_
          simp only [if_pos g1, if_pos g2]
          refine Ev.bind (digit_ev _ (bt_bytes s _).1 (bt_bytes s _).2) ?_
          simp only [hw, if_pos g4, if_pos g5]
          refine Ev.bind (digit_ev _ (bt_bytes s _).1 (bt_bytes s _).2) ?_
          obtain ⟨r1, r2⟩ := hexv_range (bt s (i : Int))
          obtain ⟨r3, r4⟩ := hexv_range (bt s ((i + 1 : Nat) : Int))
          clear hw hd hi hi2 hy ih g1 g2 g4 g5 hlt hlt2
          simp only [unhex]
          by_cases c1 : hexv (bt s (i : Int)) = 16
          · simp only [if_pos c1, Bool.false_eq_true, if_false, hexEnd]
            exact Ev.now _
          · simp only [if_neg c1, if_true]
            by_cases c2 : hexv (bt s ((i + 1 : Nat) : Int)) = 16
            · simp only [if_pos c2, Bool.false_eq_true, if_false, hexEnd]
              exact Ev.now _
            · have ho := or16 (h := hexv (bt s (i : Int))) (l := hexv (bt s ((i + 1 : Nat) : Int))) r1 (by omega) r3 (by omega)
              simp only [if_neg c2, if_true, if_pos g3, hw2, ho]
              have e : ∀ o : Option (List Int), hexEnd (ys ++ [16 * hexv (bt s (i : Int)) + hexv (bt s ((i + 1 : Nat) : Int))]) o = hexEnd ys (o.map fun r => (16 * hexv (bt s (i : Int)) + hexv (bt s ((i + 1 : Nat) : Int))) :: r) := by
                intro o
                cases o with
                | none => rfl
                | some r => simp [hexEnd]
              rw [← e]
              exact ihh
        · obtain rfl : i = s.size := by omega
          refine Ev.step (fun k => by simp only [part_Hex.l0]; rfl) ?_
          rw [List.drop_of_length_le (by rw [bytesOf_length]; omega)]
          simp only [Int.lt_irrefl, if_false, unhex, hexEnd, List.append_nil]
          exact Ev.now _
    have h0 := key s.size 0 [] (by omega) (by omega) (by omega) (by simp)
    rw [List.drop_zero] at h0
    have hw : wrap64 ((s.size : Int) / 2) = (s.size : Int) / 2 := w64 (by omega) (by omega)
    have g1 : (s.size : Int) % 2 = 0 := by omega
    have g2 : 0 ≤ (s.size : Int) / 2 := by omega
    have g3 : ((s.size : Int) / 2).toNat ≤ 281474976710656 := by omega
    unfold hexOut
    rw [if_pos he]
    unfold part_Hex.f
    simp only [if_pos g1, hw, if_pos g2, if_pos g3]
    exact h0
  · have g1 : ¬ (s.size : Int) % 2 = 0 := by omega
    unfold part_Hex.f hexOut
    simp only [if_neg g1, if_neg he]
    exact Ev.now _
theorem refhex_ev (s : ByteArray) (hs : s.size ≤ 140737488355328) : Ev (fun k => stratumref07_Hex.f k s) (hexOut s) := by
  by_cases he : s.size % 2 = 0
  · have key : ∀ (d i : Nat) (ys : List Int), s.size - i ≤ d → i ≤ s.size → i % 2 = 0 → 2 * ys.length ≤ i → Ev (fun k => stratumref07_Hex.l0 k s ys (i : Int)) (hexEnd ys (unhex ((bytesOf s).drop i))) := by
      intro d
      induction d with
      | zero =>
        intro i ys hd hi hi2 hy
        obtain rfl : i = s.size := by omega
        refine Ev.step (fun k => by simp only [stratumref07_Hex.l0]; rfl) ?_
        rw [List.drop_of_length_le (by rw [bytesOf_length]; omega)]
        simp only [Int.lt_irrefl, if_false, unhex, hexEnd, List.append_nil]
        exact Ev.now _
      | succ d ih =>
        intro i ys hd hi hi2 hy
        by_cases hlt : i < s.size
        · have hlt2 : i + 1 < s.size := by omega
          have g1 : (i : Int) < (s.size : Int) := by omega
          have g2 : (0 : Int) ≤ (i : Int) := by omega
          have g3 : ys.length < 140737488355328 := by omega
          have g4 : (0 : Int) ≤ ((i + 1 : Nat) : Int) := by omega
          have g5 : ((i + 1 : Nat) : Int) < (s.size : Int) := by omega
          have ihh := ih (i + 2) (ys ++ [16 * hexv (bt s (i : Int)) + hexv (bt s ((i + 1 : Nat) : Int))]) (by omega) (by omega) (by omega) (by rw [List.length_append]; simp; omega)
          have hw : wrap64 ((i : Int) + 1) = ((i + 1 : Nat) : Int) := by rw [w64 (by omega) (by omega)]; rfl
          have hw2 : wrap64 ((i : Int) + 2) = ((i + 2 : Nat) : Int) := by rw [w64 (by omega) (by omega)]; rfl
          rw [drop_bytes hlt, drop_bytes hlt2]
          refine Ev.step (fun k => by simp only [stratumref07_Hex.l0]; rfl) ?_
          simp only [if_pos g1, if_pos g2]
          refine Ev.bind (refdigit_ev _ (bt_bytes s _).1 (bt_bytes s _).2) ?_
          simp only [hw, if_pos g4, if_pos g5]
          refine Ev.bind (refdigit_ev _ (bt_bytes s _).1 (bt_bytes s _).2) ?_
          obtain ⟨r1, r2⟩ := hexv_range (bt s (i : Int))
          obtain ⟨r3, r4⟩ := hexv_range (bt s ((i + 1 : Nat) : Int))
          clear hw hd hi hi2 hy ih g1 g2 g4 g5 hlt hlt2
          simp only [unhex]
          by_cases c1 : hexv (bt s (i : Int)) = 16
          · simp only [if_pos c1, hexEnd]
            exact Ev.now _
          · simp only [if_neg c1]
            by_cases c2 : hexv (bt s ((i + 1 : Nat) : Int)) = 16
            · simp only [if_pos c2, hexEnd]
              exact Ev.now _
            · have ho : (16 * hexv (bt s (i : Int)) + hexv (bt s ((i + 1 : Nat) : Int))) % 256 = 16 * hexv (bt s (i : Int)) + hexv (bt s ((i + 1 : Nat) : Int)) := by omega
              simp only [if_neg c2, if_pos g3, hw2, ho]
              have e : ∀ o : Option (List Int), hexEnd (ys ++ [16 * hexv (bt s (i : Int)) + hexv (bt s ((i + 1 : Nat) : Int))]) o = hexEnd ys (o.map fun r => (16 * hexv (bt s (i : Int)) + hexv (bt s ((i + 1 : Nat) : Int))) :: r) := by
                intro o
                cases o with
                | none => rfl
                | some r => simp [hexEnd]
              rw [← e]
              exact ihh
        · obtain rfl : i = s.size := by omega
          refine Ev.step (fun k => by simp only [stratumref07_Hex.l0]; rfl) ?_
          rw [List.drop_of_length_le (by rw [bytesOf_length]; omega)]
          simp only [Int.lt_irrefl, if_false, unhex, hexEnd, List.append_nil]
          exact Ev.now _
    have h0 := key s.size 0 [] (by omega) (by omega) (by omega) (by simp)
    rw [List.drop_zero] at h0
    have g1 : (s.size : Int) % 2 = 0 := by omega
    unfold hexOut
    rw [if_pos he]
    unfold stratumref07_Hex.f
    simp only [if_pos g1]
    exact h0
  · have g1 : ¬ (s.size : Int) % 2 = 0 := by omega
    unfold stratumref07_Hex.f hexOut
    simp only [if_neg g1, if_neg he]
    exact Ev.now _
end Go.Proofs.Ythgkemkcepkkcaa.S
