/- For every b and list: Put behind b, Size, Zig and Zag of the first 64 numbers are the reference's. Stated over the printed functions; no condition but the row's. -/
import Derived.Test.YtjcbeihedbhodaaV1
namespace Go.Proofs.Ytjcbeihedbhodaa.Pure
open Go.RowKit Go.Proofs.Ytjcbeihedbhodaa.X Go.Proofs.YtjcbeihedbhodaaW.PrintWords Go.Proofs.YtjcbeihedbhodaaW.PrintLast

theorem VarintPuts : stratumlaw02_VarintPuts.Pure := by
  intro l0 l1 _ _ _ _ hn1 hw1
  refine Ev.rounds ?_
  unfold stratumlaw02_VarintPuts.f
  refine Ev.bind lives_ev ?_
  simp only [if_true]
  by_cases c : (l0.length : Int) > 1048576
  · simp only [if_pos c]; exact Ev.now _
  · simp only [if_neg c]
    have key : ∀ (d i : Nat), l1.length - i = d → i ≤ l1.length → Ev (fun k => stratumlaw02_VarintPuts.l0 k l0 l1 (i : Int)) true := by
      intro d
      induction d with
      | zero =>
        intro i hd hi
        obtain rfl : i = l1.length := by omega
        refine Ev.step (fun k => by simp only [stratumlaw02_VarintPuts.l0]; rfl) ?_
        simp only [Int.lt_irrefl, if_false]
        refine Ev.step (fun k => by simp only [stratumlaw02_VarintPuts.j1]; rfl) ?_
        simp only [Bool.false_eq_true, if_false]
        exact Ev.now _
      | succ d ih =>
        intro i hd hi
        refine Ev.step (fun k => by simp only [stratumlaw02_VarintPuts.l0]; rfl) ?_
        have hlt : i < l1.length := by omega
        simp only [if_pos (show (i : Int) < (l1.length : Int) by omega)]
        refine Ev.step (fun k => by simp only [stratumlaw02_VarintPuts.j1]; rfl) ?_
        by_cases c64 : (i : Int) < 64
        · have hx := u64b (x := rd l1 (i : Int)) (by
            unfold rd
            rw [Int.toNat_natCast, List.getD_eq_getElem?_getD, List.getElem?_eq_getElem hlt]
            exact hw1 _ (List.getElem_mem hlt))
          obtain ⟨x0, x1⟩ := hx
          obtain ⟨z0, z1⟩ := wrap64_i64 x0 x1
          simp only [decide_eq_true c64, if_true, if_pos (show (0 : Int) ≤ (i : Int) by omega), if_pos (show (i : Int) < (l1.length : Int) by omega), put_eq (l := l0) (by omega) x0 x1, Option.bind_some]
          refine Ev.bind (refput_ev (by omega) x0 x1) ?_
          simp only [alike_self, Option.bind_some, if_true, size_eq x0 x1]
          refine Ev.bind (refsize_ev x0 x1) ?_
          simp only [bne_self_eq_false]
          refine Ev.step (fun k => by simp only [stratumlaw02_VarintPuts.j2]; rfl) ?_
          simp only [Bool.false_eq_true, if_false, zig_eq z0 z1, refzig_eq z0 z1, zag_eq x0 x1, refzag_eq x0 x1, Option.bind_some, if_true, show wrap64 ((i : Int) + 1) = ((i + 1 : Nat) : Int) by unfold wrap64; omega]
          exact ih (i + 1) (by omega) (by omega)
        · simp only [decide_eq_false c64, Bool.false_eq_true, if_false]
          exact Ev.now _
    exact key l1.length 0 (by omega) (by omega)
end Go.Proofs.Ytjcbeihedbhodaa.Pure
