/- RollMemory: its walk. Condition: the script reads as one. -/
import Derived.Test.YthadfkpibnhcgaaZ4
set_option linter.unusedVariables false
set_option linter.unusedSimpArgs false
namespace Go.Proofs.Ythadfkpibnhcgaa.B
open Go.RowKit Go.Proofs.Ythadfkpibnhcgaa.X Go.Proofs.YthadfkpibnhcgaaW.PrintWords Go.Proofs.YthadfkpibnhcgaaW.PrintLast Go.Proofs.YthadfkpibnhcgaaW.PrintMore

def ownE : S44 := ⟨0, 0, ⟨#[111, 119, 110]⟩, 0⟩
def behindE : S44 := ⟨0, 0, ⟨#[98, 101, 104, 105, 110, 100]⟩, 0⟩
theorem R_form2 {w : World} {base n c : Nat} {A : Option Addr} {xs : List S44} {ok : Nat → Prop} (h : Kd.R k44 44 w base ok (.slice A n c) xs) (hp : 0 < xs.length) : ∃ g, A = some ⟨g, 0, none⟩ := by
  obtain ⟨g, cap, e, _⟩ := Kd.R_form h hp
  injection e with e1
  exact ⟨g, e1⟩
theorem keep_y {w w1 : World} {b : Nat} {u v : Value} {ys : List S44} (h : Kd.R k44 44 w b (fun _ => True) u ys) (hg : w.grownBy w1 v.ownBlock) (hne : ∀ k, v.ownBlock = some k → some k ≠ u.ownBlock) : Kd.R k44 44 w1 b (fun _ => True) u ys := Kd.R_grown2 h rfl hg hne
theorem apart_new {w : World} {b : Nat} {u v v1 : Value} {ys : List S44} (h : Kd.R k44 44 w b (fun _ => True) u ys) (hne : ∀ k, v.ownBlock = some k → some k ≠ u.ownBlock) (hat : v1.ownBlock = v.ownBlock ∨ ∃ b, v1.ownBlock = some b ∧ w.heap.size ≤ b) : ∀ k, v1.ownBlock = some k → some k ≠ u.ownBlock := fun k hk e => by
  rcases hat with a | ⟨b, a, hb⟩
  · exact hne k (a ▸ hk) e
  · rw [a] at hk; injection hk with hk; subst hk
    have := Kd.R_lt h _ e.symm; omega
set_option maxHeartbeats 4000000 in
set_option maxRecDepth 100000 in
theorem memory_calls (w : World) (A : Option Addr) (c : Nat) (l : List S27) (hr : Kd.C k27 w A l.length l) (hn : l.length ≤ 4611686018427387903) :
    Calls Try.prog 5 #[.slice A l.length c] w fun e w' => e = .returned (.bool true) ∧ Below w.heap.size w w' := by
  have hu44 := Try.underlying44
  have HR := Aside0.mk hr
  have HN := Aside0.mk hn
  have HAW := Aside0.mk (awake_calls w)
  have HNEW : Aside0 (∀ w1, Below w.heap.size w w1 → Calls Try.prog 9 #[] w1 fun e w' => ∃ g, e = .returned (.pointer (some ⟨g, 0, none⟩)) ∧ IsB w' w.heap.size g (.slice none 0 0) [] none_ ∧ Below w1.heap.size w1 w' ∧ w1.heap.size ≤ g) := ⟨fun w1 h => new_calls w1 w.heap.size h.size⟩
  have HRNEW : Aside0 (∀ w1, Below w.heap.size w w1 → Calls Try.prog 15 #[] w1 fun e w' => ∃ g, e = .returned (.pointer (some ⟨g, 0, none⟩)) ∧ IsR w' w.heap.size g (.slice none 0 0) (.slice none 0 0) [] [] ∧ Below w1.heap.size w1 w' ∧ w1.heap.size ≤ g) := ⟨fun w1 h => rnew_calls w1 w.heap.size h.size⟩
  clear hr hn
  go_enter Try.func5, Try.ntmps5
  go_wp2_with (first | (go_at_call 8; (with_reducible refine HAW.out.mono ?_); rintro e w1 ⟨rfl, hb⟩; have HB1 := Aside0.mk hb; clear hb) | (go_at_call 9; (with_reducible refine (HNEW.out _ HB1.out).mono ?_); rintro e w2 ⟨g, rfl, hi, hb, hge⟩; have HIA := Aside0.mk hi; have HB2 := Aside0.mk (below_step HB1.out hb); clear hi hb hge) | (go_at_call 15; (with_reducible refine (HRNEW.out _ HB2.out).mono ?_); rintro e w3 ⟨gr, rfl, hi, hb, hge⟩; have HP0 : Aside0 (Pr w3 w.heap.size g gr (.slice none 0 0) (.slice none 0 0) (.slice none 0 0) [] [] none_ []) := ⟨⟨HIA.out.below hb, hi, fun j hj => by simp [Value.ownBlock] at hj⟩⟩; have HB3 := Aside0.mk (below_step HB2.out hb); clear hi hb hge))
  go_loopw [5] (fun ti wr => ∃ (i : Nat) (v v2 u2 : Value) (es : List S44) (cl : Nat → Bool) (cs : List Int), ti = .int .i64 (i : Int) ∧ Aside0 (i ≤ l.length) ∧ Aside0 (Pr wr w.heap.size g gr v v2 u2 es es cl cs) ∧ Aside0 (CC cl cs) ∧ Aside0 (es.length ≤ 64) ∧ Aside0 (Below w.heap.size w wr)) (fun ti _ => l.length - left ti)
  case atStart => exact ⟨0, _, _, _, [], _, _, rfl, ⟨Nat.zero_le _⟩, HP0, ⟨CC.nil⟩, ⟨by simp⟩, HB3⟩
  case round =>
    obtain ⟨i, v, v2, u2, es, cl, cs, rfl, hi, HP, HC, HL, HB⟩ := hrel
    by_cases ci : i < l.length
    · have c1 : decide ((i : Int) < (l.length : Int)) = true := decide_eq_true (by omega)
      have c2 : decide (i < l.length) = true := decide_eq_true ci
      obtain ⟨ad, rfl, hx0, hx1, hx2, hx3, hx4⟩ := at27 (Kd.C_below HR.out HB.out) i ci
      obtain ⟨x, hx⟩ : ∃ x, x = rd27 l (i : Int) := ⟨_, rfl⟩
      rw [← hx] at hx0 hx1 hx2 hx3 hx4
      clear hx
      have W1 : Aside0 (wrap64 ((i : Int) + 1) = ((i + 1 : Nat) : Int)) := ⟨next1 i _ HN.out ci⟩
      have ML := Aside0.mk (less i l.length HN.out ci)
      have HRT := Aside0.mk (right_calls wr _ g gr v v2 u2 es cl cs x HP.out HC.out HL.out)
      go_wp2_with (first | (go_at_call 14; (with_reducible refine HAY.out.mono ?_); rintro e w3 ⟨vy, rfl, ho, hb⟩; obtain ⟨Ay, cy, hvy⟩ := Kd.R_slice ho; subst hvy; have HY := Aside0.mk ho; have HX3 := Aside0.mk (Kd.R_below HX.out hb); have HBB3 := Aside0.mk (below_step HBB2.out hb); have HAP : Aside0 (∀ k, (Value.slice Ax es1.length cx).ownBlock = some k → some k ≠ (Value.slice Ay es1.length cy).ownBlock) := ⟨fun k hk e => by have h1 := Kd.R_lt HX.out k hk; have h2 := Kd.R_base ho k e.symm; omega⟩; clear ho hb) | (go_at_call 14; (with_reducible refine HAX.out.mono ?_); rintro e w2 ⟨vx, rfl, ho, hb⟩; obtain ⟨Ax, cx, hvx⟩ := Kd.R_slice ho; subst hvx; have HX := Aside0.mk ho; have HBB2 := Aside0.mk hb; have HAY := Aside0.mk (all_calls w2 _ g va es1 cl1 (HP1.out.b.below hb) HL1.out); clear ho hb) | (go_at_call 17; (with_reducible refine HRT.out.mono ?_); rintro e w1 ⟨rfl, ht⟩; obtain ⟨va, vb, vc, es1, cl1, cs1, hP1, hc1, hl1, hb1, _, _⟩ := ht.go; have HP1 := Aside0.mk hP1; have HC1 := Aside0.mk hc1; have HL1 := Aside0.mk hl1; have HB1' := Aside0.mk (HB.out.trans hb1); have HAX := Aside0.mk (all_calls w1 _ g va es1 cl1 hP1.b hl1); clear ht hP1 hc1 hl1 hb1))
      clear hx0 hx1 hx2 hx3 hx4
      go_loopw [8] (fun tj wr2 => ∃ (j : Nat) (xs : List S44), tj = .int .i64 (j : Int) ∧ Aside0 (j ≤ es1.length) ∧ Aside0 (xs.length = es1.length) ∧ Aside0 (Kd.R k44 44 wr2 w1.heap.size (fun _ => True) (.slice Ax es1.length cx) xs) ∧ Aside0 (Kd.R k44 44 wr2 w2.heap.size (fun _ => True) (.slice Ay es1.length cy) es1) ∧ Aside0 (Below w1.heap.size w1 wr2)) (fun tj _ => es1.length - left tj)
      case atStart => exact ⟨0, es1, rfl, ⟨Nat.zero_le _⟩, ⟨rfl⟩, HX3, HY, HBB3⟩
      case round =>
        obtain ⟨j, xs, rfl, hj, HXL, HXW, HYW, HBW⟩ := hrel
        by_cases cj : j < es1.length
        · have d1 : decide ((j : Int) < (es1.length : Int)) = true := decide_eq_true (by omega)
          have d2 : decide (j < es1.length) = true := decide_eq_true cj
          have CJ := Aside0.mk cj
          obtain ⟨gx, hgx⟩ := R_form2 HXW.out (by have := HXL.out; omega)
          have HGX := Aside0.mk hgx
          have HXW' := HXW
          have HAP' := HAP
          rw [hgx] at HAP'
          rw [hgx] at HXW'
          obtain ⟨cc, hcl, _, hcc, _⟩ := Kd.R_elem HXW'.out z44 (j : Int) (by omega) (by omega)
          have HCL := Aside0.mk hcl
          have HCC := Aside0.mk hcc
          have W2 : Aside0 (wrap64 ((j : Int) + 1) = ((j + 1 : Nat) : Int)) := ⟨next1 j _ (by have := HL1.out; omega) cj⟩
          have ML2 := Aside0.mk (less j es1.length (by have := HL1.out; omega) cj)
          rw [hgx]
          clear hcl hcc hgx
          go_wp2_with ((with_reducible refine gate_store (t := 44) (p := 42) rfl ?_); refine Kd.R_store k44 (w0 := w1) w1.heap.size rfl rfl 44 (.tmp 42) (.tmp 41) rfl 44 (g := gx) (n := es1.length) (cap := cx) (j : Int) 0 xs ownE (.agg #[.int .i64 0, .int .i64 0, .string ⟨#[111, 119, 110]⟩, .int .i64 0]) [.int .i64 0, .int .i64 0, .string ⟨#[111, 119, 110]⟩, .int .i64 0] cc (fun _ => True) (fun _ => False) rfl ?hoff rfl rfl rfl ?h1 HXW'.out (by omega) (by have := CJ.out; omega) HCL.out HCC.out (by decide) ?hM (fun _ hk => hk.elim) HBW.out ?_; (case hoff => (first | rfl | (simp; done))); (case h1 => decide); (case hM => (rw [List.take_zero, List.nil_append, List.drop_eq_nil_of_le (by rw [HCL.out]; decide), List.append_nil]; exact k44_mkM _ _ _ ownE)); intro w5 ho hb hg; have HX5 := Aside0.mk ho; have HB5 := Aside0.mk hb; have HG5 := Aside0.mk hg; clear ho hb hg)
          exact ⟨⟨j + 1, xs.set j ownE, by rw [W2.out], ⟨by have := CJ.out; omega⟩, ⟨by rw [List.length_set]; exact HXL.out⟩, HX5, ⟨keep_y (v := .slice (some ⟨gx, 0, none⟩) es1.length cx) HYW.out HG5.out HAP'.out⟩, HB5⟩, ML2.out⟩
        · have d1 : decide ((j : Int) < (es1.length : Int)) = false := decide_eq_false (by omega)
          have d2 : decide (j < es1.length) = false := decide_eq_false cj
          have Z0 : Aside0 (∀ k, (Value.slice Ax es1.length cx).ownBlock = some k → some k ≠ (Value.slice Ay es1.length cy).ownBlock) := HAP
          obtain ⟨W0, hW0⟩ : ∃ W0, W0 = wr := ⟨_, rfl⟩
          rw [← hW0] at HXW HYW HBW
          rw [← hW0]
          clear hW0
          go_wp2
          go_loopw [9, 10] (fun tz tk wr3 => ∃ (k : Nat) (Az : Option Addr) (cz : Nat) (zs : List S44), tk = .int .i64 (k : Int) ∧ tz = .slice Az (es1.length + k) cz ∧ Aside0 (k ≤ 9) ∧ Aside0 (zs.length = es1.length + k) ∧ Aside0 (Kd.R k44 44 wr3 w1.heap.size (fun _ => True) (.slice Az (es1.length + k) cz) zs) ∧ Aside0 (Kd.R k44 44 wr3 w2.heap.size (fun _ => True) (.slice Ay es1.length cy) es1) ∧ Aside0 (∀ k', (Value.slice Az (es1.length + k) cz).ownBlock = some k' → some k' ≠ (Value.slice Ay es1.length cy).ownBlock) ∧ Aside0 (Below w1.heap.size w1 wr3)) (fun _ tk _ => 9 - left tk)
          case atStart => exact ⟨0, Ax, cx, xs, rfl, rfl, ⟨by omega⟩, ⟨by rw [HXL.out]; rfl⟩, HXW, HYW, HAP, HBW⟩
          case round =>
            obtain ⟨k, Az, cz, zs, rfl, rfl, hk, HZL, HZ, HYZ, HAPZ, HBZ⟩ := hrel
            by_cases ck : k < 9
            · have e1 : decide ((k : Int) < 9) = true := decide_eq_true (by omega)
              have e2 : decide (k < 9) = true := decide_eq_true ck
              have CK := Aside0.mk ck
              have W3 : Aside0 (wrap64 ((k : Int) + 1) = ((k + 1 : Nat) : Int)) := ⟨next1 k 9 (by omega) ck⟩
              have ML3 := Aside0.mk (less k 9 (by omega) ck)
              clear ck
              go_wp2_with ((with_reducible refine gate_builtin (b := .append) (xs := #[.tmp 48, .tmp 50]) rfl ?_); at_builtin; refine Kd.R_append k44 (w0 := w1) w1.heap.size rfl (.tmp 48) (.tmp 50) 34 44 (.agg #[.int .i64 0, .int .i64 0, .string ⟨#[]⟩, .int .i64 0]) 40 rfl Try.underlying34 info44 rfl (by decide) (by omega) (.slice Az (es1.length + k) cz) zs behindE [.int .i64 0, .int .i64 0, .string ⟨#[98, 101, 104, 105, 110, 100]⟩, .int .i64 0] (fun _ => True) (fun _ => False) rfl rfl (k44_mkM _ _ _ behindE) (fun _ hk => hk.elim) (fun _ _ => trivial) HZ.out HBZ.out HBZ.out.size (by have := HZL.out; have := HL1.out; have := CK.out; omega) ?_; intro v1 w5 ho hb hg hat; obtain ⟨A1, cc1, hv1⟩ := Kd.R_slice ho; rw [show (zs ++ [behindE]).length = es1.length + (k + 1) by rw [List.length_append, HZL.out]; rfl] at hv1; subst hv1; have HZ5 := Aside0.mk ho; have HB5 := Aside0.mk hb; have HG5 := Aside0.mk hg; have HAT5 := Aside0.mk hat; clear ho hb hg hat)
              exact ⟨⟨k + 1, A1, cc1, zs ++ [behindE], by rw [W3.out], rfl, ⟨by have := CK.out; omega⟩, ⟨by rw [List.length_append, HZL.out]; rfl⟩, HZ5, ⟨keep_y (v := .slice Az (es1.length + k) cz) HYZ.out HG5.out HAPZ.out⟩, ⟨apart_new HYZ.out HAPZ.out HAT5.out⟩, HB5⟩, ML3.out⟩
            · have e1 : decide ((k : Int) < 9) = false := decide_eq_false (by omega)
              have e2 : decide (k < 9) = false := decide_eq_false ck
              obtain rfl : k = 9 := by have := hk.out; omega
              have HPZ := Aside0.mk (HP1.out.below HBZ.out)
              obtain ⟨_, hyl, hyr⟩ := Kd.R_reads' HYZ.out
              have HYL := Aside0.mk hyl
              have HYR := Aside0.mk hyr
              have HRA1 := Aside0.mk (rall_calls wr _ gr vb vc es1 cs1 HPZ.out.r HL1.out)
              have W9 : wrap64 ((es1.length : Int) + 9) = (es1.length : Int) + 9 := by have := HL1.out; rw [w64s (by omega) (by omega)]
              clear hyl hyr ck
              go_wp2_with (first
                | (go_at_call 18; (with_reducible refine HS2.out.mono ?_); rintro e w9 ⟨rfl, hb⟩; have HT5 := Aside0.mk (below_step HT4.out hb); clear hb)
                | (go_at_call 19; (with_reducible refine HRA2.out.mono ?_); rintro e w8 ⟨vq, rfl, ho, hb⟩; obtain ⟨Aq, cq, hvq, hlq, hrq⟩ := Kd.R_reads ho; subst hvq; have HT4 := Aside0.mk (below_step HT3.out hb); have HS2 := Aside0.mk (same_calls w8 Ap Aq cp cq es1 HL1.out (Kd.C_below HPR.out hb) HPL.out hrq hlq); clear ho hb hlq hrq)
                | (go_at_call 14; (with_reducible refine HA3.out.mono ?_); rintro e w7 ⟨vp, rfl, ho, hb⟩; obtain ⟨Ap, cp, hvp, hlp, hrp⟩ := Kd.R_reads ho; subst hvp; have HPL := Aside0.mk hlp; have HPR := Aside0.mk hrp; have HT3 := Aside0.mk (below_step HT2.out hb); have HRA2 := Aside0.mk (rall_calls w7 _ gr vb vc es1 cs1 (HPZ.out.below HT3.out).r HL1.out); clear ho hb hlp hrp)
                | (go_at_call 18; (with_reducible refine HS1.out.mono ?_); rintro e w6 ⟨rfl, hb⟩; have HT2 := Aside0.mk (below_step HT1.out hb); have HA3 := Aside0.mk (all_calls w6 _ g va es1 cl1 (HPZ.out.below HT2.out).b HL1.out); clear hb)
                | (go_at_call 19; (with_reducible refine HRA1.out.mono ?_); rintro e w5 ⟨vo, rfl, ho, hb⟩; obtain ⟨Ao, co, hvo, hlo, hro⟩ := Kd.R_reads ho; subst hvo; have HT1 := Aside0.mk hb; have HS1 := Aside0.mk (same_calls w5 Ay Ao cy co es1 HL1.out (Kd.C_below HYR.out hb) HYL.out hro hlo); clear ho hb hlo hro))
              have HF := Aside0.mk (below_step HBZ.out HT5.out)
              exact ⟨⟨i + 1, va, vb, vc, es1, cl1, cs1, by rw [W1.out], ⟨by omega⟩, ⟨HP1.out.below HF.out⟩, HC1, HL1, ⟨HB1'.out.trans (Below.low HF.out (by have := HB1'.out.size; omega))⟩⟩, ML.out⟩
    · have c1 : decide ((i : Int) < (l.length : Int)) = false := decide_eq_false (by omega)
      have c2 : decide (i < l.length) = false := decide_eq_false ci
      go_wp2
      go_ret
      exact ⟨rfl, HB.out⟩
end Go.Proofs.Ythadfkpibnhcgaa.B
