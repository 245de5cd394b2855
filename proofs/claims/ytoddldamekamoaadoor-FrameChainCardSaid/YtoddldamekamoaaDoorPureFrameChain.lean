/- Payloads that were encoded, one behind the other, come back first, whatever stands behind them. Stated over the printed functions. No condition but the law's own. -/
import Derived.Test.YtoddldamekamoaaDoorF2
import Derived.Test.YtoddldamekamoaaDoorX6
set_option linter.unusedVariables false
set_option linter.unusedSimpArgs false
namespace Go.Proofs.YtoddldamekamoaaDoor.Pure
open Go.RowKit Go.Proofs.YtoddldamekamoaaDoor.X Go.Proofs.YtoddldamekamoaaDoor.G Go.Proofs.YtoddldamekamoaaDoor.F Go.Proofs.YtoddldamekamoaaDoorW.PrintWords Go.Proofs.YtoddldamekamoaaDoorW.PrintLast Go.Proofs.YtoddldamekamoaaDoorW.PrintMore

def kept : List (List Int) → List (List Int)
  | [] => []
  | p :: t => if p = [] then kept t else p :: kept t
theorem kept_append : ∀ a b : List (List Int), kept (a ++ b) = kept a ++ kept b
  | [], _ => rfl
  | p :: t, b => by
    simp only [List.cons_append, kept, kept_append t b]
    split <;> rfl
theorem kept_mem : ∀ {l : List (List Int)} {p : List Int}, p ∈ kept l → p ∈ l ∧ p ≠ []
  | q :: t, p, h => by
    simp only [kept] at h
    split at h
    · have := kept_mem h; exact ⟨List.mem_cons_of_mem _ this.1, this.2⟩
    · rename_i hq
      rcases List.mem_cons.1 h with rfl | h
      · exact ⟨by simp, hq⟩
      · have := kept_mem h; exact ⟨List.mem_cons_of_mem _ this.1, this.2⟩
theorem kept_len : ∀ l : List (List Int), (kept l).length ≤ l.length
  | [] => Nat.le_refl _
  | p :: t => by
    have := kept_len t
    simp only [kept]
    split <;> simp only [List.length_cons] <;> omega
theorem frames_kept : ∀ l : List (List Int), (frames (kept l)).length ≤ tot l + 8 * l.length
  | [] => by simp [kept, frames]
  | p :: t => by
    have := frames_kept t
    have e : tot (p :: t) = p.length + tot t := by unfold tot; simp
    simp only [kept]
    split
    · simp only [List.length_cons]; omega
    · rw [frames_cons, List.length_append, frameOf_len, List.length_cons]; omega
theorem tot_take_le : ∀ (l : List (List Int)) (i : Nat), tot (l.take i) ≤ tot l
  | [], i => by simp
  | p :: t, 0 => by simp [tot]
  | p :: t, i + 1 => by
    have := tot_take_le t i
    have e : tot (p :: t) = p.length + tot t := by unfold tot; simp
    have e2 : tot ((p :: t).take (i + 1)) = p.length + tot (t.take i) := by unfold tot; simp
    omega
theorem FrameChain (l0 : List (List Int)) (l1 : List Int) (hn : l0.length ≤ 4611686018427387904) (hr : ∀ x ∈ l0, x.length ≤ 140737488351232 ∧ ∀ c ∈ x, (Lit.int .u8 c).wf = true) (hl : l1.length * 1 ≤ 140737488351232) (hw : ∀ x ∈ l1, (Lit.int .u8 x).wf = true) : ∃ k, stratumlaw21_FrameChain.f k l0 l1 T = some true := by
  have hb1 : bytesOk l1 := fun c hc => by have := Go.bounds_u8 (hw c hc); omega
  have hb0 : ∀ x ∈ l0, bytesOk x := fun x hx c hc => by have := Go.bounds_u8 ((hr x hx).2 c hc); omega
  have j0t : Ev (fun k => stratumlaw21_FrameChain.j0 k l0 l1 true true T) true := by
    refine Ev.step (fun k => by simp only [stratumlaw21_FrameChain.j0]; rfl) ?_
    simp only [if_true]
    exact Ev.now _
  refine Ev.rounds ?_
  unfold stratumlaw21_FrameChain.f
  refine Ev.bind awake_ev ?_
  simp only [if_true]
  obtain ⟨b, hb, hq⟩ := many_ev l0 hn (fun x hx => (hr x hx).1)
  refine Ev.bind hb ?_
  cases b with
  | true => simp only [if_true]; exact j0t
  | false =>
    obtain ⟨q1, q2⟩ := hq rfl
    clear hb hq
    simp only [Bool.false_eq_true, if_false]
    by_cases big : (l1.length : Int) > 16777216
    · rw [decide_eq_true big]; exact j0t
    · rw [decide_eq_false big]
      refine Ev.step (fun k => by simp only [stratumlaw21_FrameChain.j0]; rfl) ?_
      simp only [Bool.false_eq_true, if_false]
      have key : ∀ (d i : Nat), l0.length - i ≤ d → i ≤ l0.length → Ev (fun k => stratumlaw21_FrameChain.l0 k l0 l1 (frames (kept (l0.take i))) (kept (l0.take i)) (i : Int) T) true := by
        intro d
        induction d with
        | zero =>
          intro i hd hi
          obtain rfl : i = l0.length := by omega
          rw [List.take_length]
          obtain ⟨K, hK⟩ : ∃ K, K = kept l0 := ⟨_, rfl⟩
          have fk := frames_kept l0
          have hok : ∀ p ∈ K, bytesOk p ∧ 1 ≤ p.length ∧ p.length ≤ 33554432 := by
            intro p hp
            rw [hK] at hp
            obtain ⟨m1, m2⟩ := kept_mem hp
            have := List.length_pos_iff.2 m2
            have := tot_mem m1
            exact ⟨hb0 p m1, by omega, by omega⟩
          have kl := kept_len l0
          rw [← hK] at fk kl ⊢
          have hfk : bytesOk (frames K) := by
            intro c hc
            unfold frames at hc
            obtain ⟨f, hf, hcf⟩ := List.mem_flatten.1 hc
            obtain ⟨p, hp, rfl⟩ := List.mem_map.1 hf
            exact frameOf_ok (hok p hp).1 c hcf
          have hs := scan_eq (bytesOk_append hfk hb1) (by rw [List.length_append]; omega)
          rw [scan_frames l1 hok] at hs
          have sc := scanned l1.length l1 (Nat.le_refl _) hb1
          obtain ⟨r, hrr⟩ : ∃ r, r = scanW l1 := ⟨_, rfl⟩
          rw [← hrr] at hs sc
          have sle := sc.le
          have flen : (frames r.1).length = r.2 := by rw [sc.eq, List.length_take_of_le sc.le]
          have cl := count_le r.1
          have g0 : (frames K).length + l1.length < 140737488355328 := by omega
          have g1 : ((K ++ r.1).length : Int) ≥ (K.length : Int) := by rw [List.length_append]; omega
          have g2 : ((r.2 + (frames K).length : Nat) : Int) ≥ ((frames K).length : Int) := by omega
          have g3 : ((r.2 + (frames K).length : Nat) : Int) ≤ ((frames K ++ l1).length : Int) := by rw [List.length_append]; omega
          have g4 : (0 : Int) ≤ (K.length : Int) := by omega
          have g5 : (K.length : Int) ≤ ((K ++ r.1).length : Int) := by rw [List.length_append]; omega
          refine Ev.step (fun k => by simp only [stratumlaw21_FrameChain.l0]; rfl) ?_
          simp only [Int.lt_irrefl, if_false, if_pos g0, Option.bind_some, hs, if_pos g1, if_pos g2, if_pos g3, if_pos g4, if_pos g5, Int.toNat_natCast, List.take_left]
          refine Ev.bind (alike_ev K K (by omega) (fun p hp => by have := (hok p hp).2.2; omega)) ?_
          simp only [decide_true, if_true]
          have e : (((((K ++ r.1).length : Int) == (K.length : Int)) == (((r.2 + (frames K).length : Nat) : Int) == ((frames K).length : Int)))) = true := by
            rw [List.length_append]
            by_cases z : r.2 = 0
            · have : r.1.length = 0 := by omega
              rw [z, this]; simp
            · have z1 : r.1.length ≠ 0 := by
                intro h
                have := List.eq_nil_of_length_eq_zero h
                rw [this] at flen
                simp [frames] at flen
                omega
              rw [beq_eq_false_iff_ne.mpr (show ((K.length + r.1.length : Nat) : Int) ≠ (K.length : Int) by omega), beq_eq_false_iff_ne.mpr (show ((r.2 + (frames K).length : Nat) : Int) ≠ ((frames K).length : Int) by omega)]
              rfl
          rw [e]
          exact Ev.now _
        | succ d ih =>
          intro i hd hi
          by_cases hlt : i < l0.length
          · have ihh := ih (i + 1) (by omega) (by omega)
            have hmem := rd1_mem hlt
            obtain ⟨p, hp⟩ : ∃ p, p = rd_L1 l0 (i : Int) := ⟨_, rfl⟩
            have e1 : l0.take (i + 1) = l0.take i ++ [p] := by
              rw [List.take_succ_eq_append_getElem hlt]; congr 2
              rw [hp]; unfold rd_L1; rw [Int.toNat_natCast, List.getD_eq_getElem?_getD, List.getElem?_eq_getElem hlt]; rfl
            rw [← hp] at hmem
            have pl := tot_mem hmem
            have pb := hb0 p hmem
            have g1 : (i : Int) < (l0.length : Int) := by omega
            have g2 : (0 : Int) ≤ (i : Int) := by omega
            have fk := frames_kept (l0.take i)
            have tl := tot_take_le l0 i
            have ll : (l0.take i).length ≤ l0.length := by rw [List.length_take]; omega
            have kl := kept_len (l0.take i)
            have W3 : Aside0 (wrap64 ((i : Int) + 1) = ((i + 1 : Nat) : Int)) := ⟨by rw [G.w64 (by omega) (by omega)]; rfl⟩
            refine Ev.step (fun k => by simp only [stratumlaw21_FrameChain.l0]; rfl) ?_
            rw [e1, kept_append] at ihh
            by_cases h0 : p = []
            · subst h0
              simp only [if_pos g1, if_pos g2, ← hp, copied_eq (l := []) (by simp), enc_empty, Option.bind_some, List.length_nil, Int.natCast_zero, if_true]
              have ee : kept [([] : List Int)] = [] := by simp [kept]
              rw [ee, List.append_nil] at ihh
              refine Ev.step (fun k => by simp only [stratumlaw21_FrameChain.j2]; rfl) ?_
              simp only [show ((0 : Int) != 0) = false from rfl, Bool.false_eq_true, if_false, W3.out]
              exact ihh
            · have hpos : 0 < p.length := List.length_pos_iff.2 h0
              have ee : kept [p] = [p] := by simp [kept, h0]
              have ef : frames (kept (l0.take i) ++ [p]) = frames (kept (l0.take i)) ++ frameOf p := by rw [frames_append]; unfold frames; simp
              rw [ee, ef] at ihh
              have g3 : ¬ (p.length : Int) = 0 := by omega
              have W1 : Aside0 (wrap64 ((p.length : Int) + 8) = ((p.length + 8 : Nat) : Int)) := ⟨by rw [G.w64 (by omega) (by omega)]; rfl⟩
              have fl := frameOf_len p
              have g4 : ((frameOf p).length : Int) = ((p.length + 8 : Nat) : Int) := by rw [fl]
              have g5 : (frames (kept (l0.take i))).length + (frameOf p).length < 140737488355328 := by omega
              have g6 : (kept (l0.take i)).length < 5864062014805 := by omega
              simp only [if_pos g1, if_pos g2, ← hp, copied_eq (l := p) (by omega), enc_eq pb h0 (by omega), Option.bind_some, if_neg g3, if_true, W1.out, if_pos g4, if_pos g5, if_pos g6, W3.out]
              exact ihh
          · exact ih i (by omega) hi
      have h0 := key l0.length 0 (by omega) (by omega)
      rw [List.take_zero] at h0
      exact h0
end Go.Proofs.YtoddldamekamoaaDoor.Pure
