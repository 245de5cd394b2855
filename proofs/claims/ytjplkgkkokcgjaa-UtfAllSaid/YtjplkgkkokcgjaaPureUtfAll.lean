/- Every call on every text and number answers as the document's. Stated over the printed functions. No condition but the law's own. -/
import Derived.Test.YtjplkgkkokcgjaaT3
import Derived.Test.YtjplkgkkokcgjaaX5
set_option linter.unusedVariables false
set_option linter.unusedSimpArgs false
namespace Go.Proofs.Ytjplkgkkokcgjaa.Pure
open Go.RowKit Go.Proofs.Ytjplkgkkokcgjaa.X Go.Proofs.Ytjplkgkkokcgjaa.U Go.Proofs.Ytjplkgkkokcgjaa.T Go.Proofs.YtjplkgkkokcgjaaW.PrintWords Go.Proofs.YtjplkgkkokcgjaaW.PrintLast Go.Proofs.YtjplkgkkokcgjaaW.PrintMore

def tot (l : List S26) : Nat := (l.map fun x => x.f0.size).sum
theorem rd_mem {l : List S26} {i : Nat} (h : i < l.length) : rd_T26 l (i : Int) ∈ l := by
  unfold rd_T26; rw [Int.toNat_natCast, List.getD_eq_getElem?_getD, List.getElem?_eq_getElem h]; exact List.getElem_mem h
theorem tot_take {l : List S26} {i : Nat} (h : i < l.length) : tot (l.take (i + 1)) = tot (l.take i) + (rd_T26 l (i : Int)).f0.size := by
  have e : l.take (i + 1) = l.take i ++ [rd_T26 l (i : Int)] := by
    rw [List.take_succ_eq_append_getElem h]; congr 2
    unfold rd_T26; rw [Int.toNat_natCast, List.getD_eq_getElem?_getD, List.getElem?_eq_getElem h]; rfl
  rw [e]; unfold tot; simp
theorem tot_mem : ∀ {l : List S26} {r : S26}, r ∈ l → r.f0.size ≤ tot l
  | x :: t, r, h => by
    unfold tot
    rw [List.map_cons, List.sum_cons]
    rcases List.mem_cons.1 h with rfl | h
    · omega
    · have := tot_mem h; unfold tot at this; omega
theorem much_ev (l : List S26) (hl : l.length ≤ 4611686018427387904) (hr : ∀ r ∈ l, r.f0.size ≤ 140737488351232) : ∃ b, Ev (fun k => stratumlaw03_much.f k l) b ∧ (b = false → tot l ≤ 16777216) := by
  have key : ∀ (d i : Nat), l.length - i ≤ d → i ≤ l.length → tot (l.take i) ≤ 140737505128448 → ∃ b, Ev (fun k => stratumlaw03_much.l0 k l ((tot (l.take i) : Nat) : Int) (i : Int)) b ∧ (b = false → tot l ≤ 16777216) := by
    intro d
    induction d with
    | zero =>
      intro i hd hi ht
      obtain rfl : i = l.length := by omega
      refine ⟨decide (((tot (l.take l.length) : Nat) : Int) > 16777216), Ev.step (fun k => by simp only [stratumlaw03_much.l0]; rfl) ?_, ?_⟩
      · simp only [Int.lt_irrefl, if_false]
        exact Ev.now _
      · intro h
        have := of_decide_eq_false h
        rw [List.take_length] at this
        omega
    | succ d ih =>
      intro i hd hi ht
      by_cases hlt : i < l.length
      · have g1 : (i : Int) < (l.length : Int) := by omega
        have g3 : (0 : Int) ≤ (i : Int) := by omega
        by_cases c2 : tot (l.take i) ≤ 16777216
        · have g2 : ((tot (l.take i) : Nat) : Int) ≤ 16777216 := by omega
          have hrr := hr _ (rd_mem hlt)
          obtain ⟨b, hb, hq⟩ := ih (i + 1) (by omega) (by omega) (by rw [tot_take hlt]; omega)
          refine ⟨b, Ev.step (fun k => by simp only [stratumlaw03_much.l0]; rfl) ?_, hq⟩
          rw [tot_take hlt] at hb
          have W1 : Aside0 (wrap64 (((tot (l.take i) : Nat) : Int) + ((rd_T26 l (i : Int)).f0.size : Int)) = ((tot (l.take i) + (rd_T26 l (i : Int)).f0.size : Nat) : Int)) := ⟨by rw [w64s (by omega) (by omega)]; rfl⟩
          have W2 : Aside0 (wrap64 ((i : Int) + 1) = ((i + 1 : Nat) : Int)) := ⟨by rw [w64s (by omega) (by omega)]; rfl⟩
          simp only [if_pos g1, if_pos g2, if_pos g3, W1.out, W2.out]
          exact hb
        · have g2 : ¬ ((tot (l.take i) : Nat) : Int) ≤ 16777216 := by omega
          refine ⟨true, Ev.step (fun k => by simp only [stratumlaw03_much.l0]; rfl) ?_, by simp⟩
          simp only [if_pos g1, if_neg g2, decide_eq_true (show ((tot (l.take i) : Nat) : Int) > 16777216 by omega)]
          exact Ev.now _
      · exact ih i (by omega) hi ht
  have := key l.length 0 (by omega) (by omega) (by simp [tot])
  exact this
theorem UtfAll (l0 : List S26) (hn : l0.length ≤ 4611686018427387904) (hr : ∀ x ∈ l0, x.f0.size ≤ 140737488351232) : ∃ k, stratumlaw03_UtfAll.f k l0 = some true := by
  refine Ev.rounds ?_
  unfold stratumlaw03_UtfAll.f
  refine Ev.bind awake_ev ?_
  simp only [if_true]
  obtain ⟨b, hb, hq⟩ := much_ev l0 hn hr
  refine Ev.bind hb ?_
  refine Ev.step (fun k => by simp only [stratumlaw03_UtfAll.j0]; rfl) ?_
  cases b with
  | true => simp only [if_true]; exact Ev.now _
  | false =>
    have q2 := hq rfl
    clear hb hq
    simp only [Bool.false_eq_true, if_false]
    have key : ∀ (d i : Nat), l0.length - i ≤ d → i ≤ l0.length → Ev (fun k => stratumlaw03_UtfAll.l0 k l0 true (i : Int)) true := by
      intro d
      induction d with
      | zero =>
        intro i hd hi
        obtain rfl : i = l0.length := by omega
        refine Ev.step (fun k => by simp only [stratumlaw03_UtfAll.l0]; rfl) ?_
        simp only [Int.lt_irrefl, if_false]
        refine Ev.step (fun k => by simp only [stratumlaw03_UtfAll.j2]; rfl) ?_
        simp only [Bool.false_eq_true, if_false]
        exact Ev.now _
      | succ d ih =>
        intro i hd hi
        by_cases hlt : i < l0.length
        · have ihh := ih (i + 1) (by omega) (by omega)
          have hmem := rd_mem hlt
          obtain ⟨p, hp⟩ : ∃ p, p = rd_T26 l0 (i : Int) := ⟨_, rfl⟩
          rw [← hp] at hmem
          have pl := tot_mem hmem
          have g1 : (i : Int) < (l0.length : Int) := by omega
          have g2 : (0 : Int) ≤ (i : Int) := by omega
          have W3 : Aside0 (wrap64 ((i : Int) + 1) = ((i + 1 : Nat) : Int)) := ⟨by rw [w64s (by omega) (by omega)]; rfl⟩
          refine Ev.step (fun k => by simp only [stratumlaw03_UtfAll.l0]; rfl) ?_
          simp only [if_pos g1]
          refine Ev.step (fun k => by simp only [stratumlaw03_UtfAll.j2]; rfl) ?_
          simp only [if_true, if_pos g2, if_pos g1, ← hp, next_eq, Option.bind_some]
          refine Ev.bind (refnext_ev p.f0) ?_
          simp only [if_true]
          refine Ev.bind (fault_ev p.f0 (by omega)) ?_
          refine Ev.bind (reffault_ev p.f0 (by omega)) ?_
          simp only [if_true]
          refine Ev.bind (valid_ev p.f0 (by omega)) ?_
          refine Ev.bind (refvalid_ev p.f0 (by omega)) ?_
          simp only [beq_self_eq_true, if_true]
          refine Ev.bind (count_ev p.f0 (by omega)) ?_
          refine Ev.bind (refcount_ev p.f0 (by omega)) ?_
          simp only [if_true, mend_eq p.f0 (by omega), Option.bind_some]
          refine Ev.bind (refmend_ev p.f0 (by omega)) ?_
          simp only [if_true, put_eq, Option.bind_some]
          refine Ev.bind (refput_ev p.f1) ?_
          simp only [beq_self_eq_true, W3.out]
          exact ihh
        · exact ih i (by omega) hi
    exact key l0.length 0 (by omega) (by omega)
end Go.Proofs.Ytjplkgkkokcgjaa.Pure
