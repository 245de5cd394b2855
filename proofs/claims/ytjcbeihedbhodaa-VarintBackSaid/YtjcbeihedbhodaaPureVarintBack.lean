/- Numbers put one behind the other are taken one by one, whatever stands behind them. Stated over the printed functions; no condition but the row's. -/
import Derived.Test.YtjcbeihedbhodaaV2
import Derived.Test.YtjcbeihedbhodaaX4
namespace Go.Proofs.Ytjcbeihedbhodaa.Pure
open Go.RowKit Go.Proofs.Ytjcbeihedbhodaa.X Go.Proofs.YtjcbeihedbhodaaW.PrintWords Go.Proofs.YtjcbeihedbhodaaW.PrintLast
set_option linter.unusedVariables false
set_option linter.unusedSimpArgs false

/-- The bytes of all numbers of a list. -/
def vall (l : List Int) : List Int := (l.map fun x => venc x.toNat).flatten
theorem vall_nil : vall [] = [] := rfl
theorem vall_cons (x : Int) (l : List Int) : vall (x :: l) = venc x.toNat ++ vall l := by simp [vall]
theorem vall_snoc (l : List Int) (x : Int) : vall (l ++ [x]) = vall l ++ venc x.toNat := by simp [vall]
theorem vall_append (a b : List Int) : vall (a ++ b) = vall a ++ vall b := by simp [vall]
theorem vall_len {l : List Int} (h : ∀ x ∈ l, 0 ≤ x ∧ x < 18446744073709551616) : (vall l).length ≤ 10 * l.length := by
  induction l with
  | nil => simp [vall_nil]
  | cons x l ih =>
    rw [vall_cons, List.length_append, List.length_cons]
    have := venc_len10 (x := x.toNat) (by have := h x List.mem_cons_self; omega)
    have := ih (fun y hy => h y (List.mem_cons_of_mem _ hy))
    omega
theorem vall_bytes (l : List Int) : Bytes (vall l) := by
  induction l with
  | nil => intro x hx; simp [vall_nil] at hx
  | cons x l ih => rw [vall_cons]; exact bytes_app (venc_bytes _) ih
theorem VarintBack : stratumlaw02_VarintBack.Pure := by
  intro l0 l1 hm0 hl0 hw0 hm1 hl1 hw1
  have hx : ∀ x ∈ l0, 0 ≤ x ∧ x < 18446744073709551616 := fun x h => u64b (hw0 x h)
  have hb1 : Bytes l1 := fun x h => u8b (hw1 x h)
  refine Ev.rounds ?_
  unfold stratumlaw02_VarintBack.f
  refine Ev.bind lives_ev ?_
  simp only [if_true]
  have hj : ∀ b : Bool, (b = false → l0.length ≤ 1024 ∧ l1.length ≤ 65536) → Ev (fun k => stratumlaw02_VarintBack.j0 k l0 l1 b) true := by
    intro b hb
    refine Ev.step (fun k => by simp only [stratumlaw02_VarintBack.j0]; rfl) ?_
    cases b with
    | true => simp only [if_true]; exact Ev.now _
    | false =>
      obtain ⟨h0, h1⟩ := hb rfl
      simp only [Bool.false_eq_true, if_false]
      have htake : ∀ i, (vall (l0.take i)).length ≤ 10 * 1024 := fun i => by
        have := vall_len (l := l0.take i) (fun x h => hx x (List.mem_of_mem_take h))
        have := List.length_take_le i l0
        have : (l0.take i).length ≤ l0.length := by rw [List.length_take]; omega
        omega
      have hall := htake l0.length
      rw [List.take_length] at hall
      -- the second loop
      have k1 : ∀ (d i : Nat), l0.length - i = d → i ≤ l0.length → Ev (fun k => stratumlaw02_VarintBack.l1 k l0 (vall l0 ++ l1) ((vall l0).length : Int) ((vall (l0.take i)).length : Int) (i : Int)) true := by
        intro d
        induction d with
        | zero =>
          intro i hd hi
          obtain rfl : i = l0.length := by omega
          refine Ev.step (fun k => by simp only [stratumlaw02_VarintBack.l1]; rfl) ?_
          simp only [Int.lt_irrefl, if_false, List.take_length, beq_self_eq_true]
          exact Ev.now _
        | succ d ih =>
          intro i hd hi
          have hlt : i < l0.length := by omega
          refine Ev.step (fun k => by simp only [stratumlaw02_VarintBack.l1]; rfl) ?_
          have hsplit : vall l0 ++ l1 = vall (l0.take i) ++ (venc (l0[i]).toNat ++ (vall (l0.drop (i + 1)) ++ l1)) := by
            have : l0 = l0.take i ++ (l0[i] :: l0.drop (i + 1)) := by rw [← List.drop_eq_getElem_cons hlt, List.take_append_drop]
            have e := congrArg vall this
            rw [vall_append, vall_cons] at e
            rw [e, List.append_assoc, List.append_assoc]
          have hdrop : (vall l0 ++ l1).drop (vall (l0.take i)).length = venc (l0[i]).toNat ++ (vall (l0.drop (i + 1)) ++ l1) := by rw [hsplit, List.drop_left]
          have hrd : rd l0 (i : Int) = l0[i] := by
            unfold rd; rw [Int.toNat_natCast, List.getD_eq_getElem?_getD, List.getElem?_eq_getElem hlt]; rfl
          obtain ⟨x0, x1⟩ := hx l0[i] (List.getElem_mem hlt)
          have hlen : (vall (l0.take (i + 1))).length = (vall (l0.take i)).length + (venc (l0[i]).toNat).length := by
            rw [List.take_succ_eq_append_getElem hlt, vall_snoc, List.length_append]
          have hle : (vall (l0.take (i + 1))).length ≤ (vall l0).length := by
            have : l0 = l0.take (i + 1) ++ l0.drop (i + 1) := (List.take_append_drop _ _).symm
            have h2 := congrArg vall this
            rw [vall_append] at h2
            rw [h2, List.length_append]; omega
          have ht := htake (i + 1)
          simp only [if_pos (show (i : Int) < (l0.length : Int) by omega), if_pos (show (0 : Int) ≤ ((vall (l0.take i)).length : Int) by omega), if_pos (show ((vall (l0.take i)).length : Int) ≤ ((vall l0 ++ l1).length : Int) by rw [List.length_append]; omega), Int.toNat_natCast, hdrop]
          refine Ev.bind (take_ev (bytes_app (venc_bytes _) (bytes_app (vall_bytes _) hb1)) ?_) ?_
          · have := congrArg List.length hsplit
            simp only [List.length_append] at this ⊢
            omega
          rw [take_venc _ (by omega)]
          simp only [if_pos (show (0 : Int) ≤ (i : Int) by omega), hrd, Int.toNat_of_nonneg x0, if_true, size_eq x0 x1, Option.bind_some]
          rw [show wrap64 (((vall (l0.take i)).length : Int) + ((venc (l0[i]).toNat).length : Int)) = ((vall (l0.take (i + 1))).length : Int) by rw [hlen]; unfold wrap64; omega, show wrap64 ((i : Int) + 1) = ((i + 1 : Nat) : Int) by unfold wrap64; omega]
          simp only [if_neg (show ¬ ((vall (l0.take (i + 1))).length : Int) > ((vall l0).length : Int) by omega)]
          exact ih (i + 1) (by omega) (by omega)
      -- the first loop
      have k0 : ∀ (d i : Nat), l0.length - i = d → i ≤ l0.length → Ev (fun k => stratumlaw02_VarintBack.l0 k l0 l1 (vall (l0.take i)) (i : Int)) true := by
        intro d
        induction d with
        | zero =>
          intro i hd hi
          obtain rfl : i = l0.length := by omega
          refine Ev.step (fun k => by simp only [stratumlaw02_VarintBack.l0]; rfl) ?_
          simp only [Int.lt_irrefl, if_false, List.take_length, if_pos (show (vall l0).length + l1.length < 140737488355328 by omega)]
          exact k1 l0.length 0 (by omega) (by omega)
        | succ d ih =>
          intro i hd hi
          have hlt : i < l0.length := by omega
          refine Ev.step (fun k => by simp only [stratumlaw02_VarintBack.l0]; rfl) ?_
          have hrd : rd l0 (i : Int) = l0[i] := by
            unfold rd; rw [Int.toNat_natCast, List.getD_eq_getElem?_getD, List.getElem?_eq_getElem hlt]; rfl
          obtain ⟨x0, x1⟩ := hx l0[i] (List.getElem_mem hlt)
          have ht := htake i
          simp only [if_pos (show (i : Int) < (l0.length : Int) by omega), if_pos (show (0 : Int) ≤ (i : Int) by omega), hrd, put_eq (l := vall (l0.take i)) (by omega) x0 x1, Option.bind_some, show wrap64 ((i : Int) + 1) = ((i + 1 : Nat) : Int) by unfold wrap64; omega]
          rw [← vall_snoc, ← List.take_succ_eq_append_getElem hlt]
          exact ih (i + 1) (by omega) (by omega)
      exact k0 l0.length 0 (by omega) (by omega)
  by_cases c : (l0.length : Int) > 1024
  · simp only [if_pos c]
    exact hj true (fun h => by cases h)
  · simp only [if_neg c]
    refine hj _ (fun h => ?_)
    have := of_decide_eq_false h
    omega
end Go.Proofs.Ytjcbeihedbhodaa.Pure
