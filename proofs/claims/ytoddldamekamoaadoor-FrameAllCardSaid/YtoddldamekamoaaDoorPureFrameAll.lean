/- Every call equals the document's answer. Stated over the printed functions. No condition but the law's own. -/
import Derived.Test.YtoddldamekamoaaDoorF3
import Derived.Test.YtoddldamekamoaaDoorX5
set_option linter.unusedVariables false
set_option linter.unusedSimpArgs false
namespace Go.Proofs.YtoddldamekamoaaDoor.Pure
open Go.RowKit Go.Proofs.YtoddldamekamoaaDoor.X Go.Proofs.YtoddldamekamoaaDoor.G Go.Proofs.YtoddldamekamoaaDoor.F Go.Proofs.YtoddldamekamoaaDoorW.PrintWords Go.Proofs.YtoddldamekamoaaDoorW.PrintLast Go.Proofs.YtoddldamekamoaaDoorW.PrintMore

theorem FrameAll (l0 : List (List Int)) (hn : l0.length ≤ 4611686018427387904) (hr : ∀ x ∈ l0, x.length ≤ 140737488351232 ∧ ∀ c ∈ x, (Lit.int .u8 c).wf = true) : ∃ k, stratumlaw21_FrameAll.f k l0 T = some true := by
  have hb0 : ∀ x ∈ l0, bytesOk x := fun x hx c hc => by have := Go.bounds_u8 ((hr x hx).2 c hc); omega
  refine Ev.rounds ?_
  unfold stratumlaw21_FrameAll.f
  refine Ev.bind awake_ev ?_
  simp only [if_true]
  obtain ⟨b, hb, hq⟩ := many_ev l0 hn (fun x hx => (hr x hx).1)
  refine Ev.bind hb ?_
  refine Ev.step (fun k => by simp only [stratumlaw21_FrameAll.j0]; rfl) ?_
  cases b with
  | true => simp only [if_true]; exact Ev.now _
  | false =>
    obtain ⟨q1, q2⟩ := hq rfl
    clear hb hq
    simp only [Bool.false_eq_true, if_false]
    have key : ∀ (d i : Nat), l0.length - i ≤ d → i ≤ l0.length → Ev (fun k => stratumlaw21_FrameAll.l0 k l0 (i : Int) T) true := by
      intro d
      induction d with
      | zero =>
        intro i hd hi
        obtain rfl : i = l0.length := by omega
        refine Ev.step (fun k => by simp only [stratumlaw21_FrameAll.l0]; rfl) ?_
        simp only [Int.lt_irrefl, if_false]
        exact Ev.now _
      | succ d ih =>
        intro i hd hi
        by_cases hlt : i < l0.length
        · have ihh := ih (i + 1) (by omega) (by omega)
          have hmem := rd1_mem hlt
          obtain ⟨p, hp⟩ : ∃ p, p = rd_L1 l0 (i : Int) := ⟨_, rfl⟩
          rw [← hp] at hmem
          have pl := tot_mem hmem
          have pb := hb0 p hmem
          have g1 : (i : Int) < (l0.length : Int) := by omega
          have g2 : (0 : Int) ≤ (i : Int) := by omega
          have sc := scanned p.length p (Nat.le_refl _) pb
          have sle := sc.le
          have cl := count_le (scanW p).1
          have flen : (frames (scanW p).1).length = (scanW p).2 := by rw [sc.eq, List.length_take_of_le sc.le]
          have W3 : Aside0 (wrap64 ((i : Int) + 1) = ((i + 1 : Nat) : Int)) := ⟨by rw [G.w64 (by omega) (by omega)]; rfl⟩
          have eo : (encOut p).1.length ≤ 4611686018427387904 := by
            unfold encOut
            split
            · simp
            · split
              · simp
              · rw [frameOf_len]; omega
          refine Ev.step (fun k => by simp only [stratumlaw21_FrameAll.l0]; rfl) ?_
          simp only [if_pos g1, if_pos g2, ← hp, copied_eq (l := p) (by omega), sum_eq pb (by omega), Option.bind_some]
          refine Ev.bind (refsum_ev p pb (by omega)) ?_
          simp only [if_true, enc_out pb, Option.bind_some]
          refine Ev.bind (refenc_ev pb) ?_
          simp only [scan_eq pb (by omega), Option.bind_some]
          refine Ev.bind (refscan_ev pb (by omega)) ?_
          simp only [if_true]
          refine Ev.bind (same_ev _ _ eo) ?_
          simp only [decide_true, if_true]
          refine Ev.bind (alike_ev _ _ (by omega) (fun q hq => by have := (sc.ok q hq).2.2; omega)) ?_
          simp only [decide_true, if_true, W3.out]
          exact ihh
        · exact ih i (by omega) hi
    exact key l0.length 0 (by omega) (by omega)
end Go.Proofs.YtoddldamekamoaaDoor.Pure
