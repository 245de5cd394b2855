/- The texts of the law ParseJoins, put together by a program of this workplace out of its own texts and of what the kit's print has written: walks of the functions, plain laws. No condition but those in the theorems. -/
import Derived.KernelRfl
import Derived.Test.YtbdcndkafaajpaaBParseJoins0
import Derived.Test.YtbdcndkafaajpaaBParseJoins1
import Derived.Test.YtbdcndkafaajpaaBParseJoins2
import Derived.Test.YtbdcndkafaajpaaBParseJoins3
import Derived.Test.YtbdcndkafaajpaaBParseJoins4
section
set_option linter.unusedVariables false
set_option linter.unusedSimpArgs false
namespace Go.Proofs.Ytbdcndkafaajpaa.A
open Go.RowKit Go.Proofs.Ytbdcndkafaajpaa.X Go.Proofs.YtbdcndkafaajpaaW.PrintWords Go.Proofs.YtbdcndkafaajpaaW.PrintLast Go.Proofs.YtbdcndkafaajpaaW.PrintMore
open Go.Proofs.Ytbdcndkafaajpaa.P (Nd EO Res hd isT isM takeM mxl comb mk1 StD VeD EvD Out overLex schemaO valueO)
theorem kve_open {w : World} {x : VeV} {cs : List Value} (h : kve.K w x cs) : cs = veCs x := by
  obtain ⟨_, _, rfl, rfl, ⟨_, _, rfl, rfl, rfl⟩⟩ := h
  exact rfl
theorem kev_open {w : World} {x : EvV} {cs : List Value} (h : kev.K w x cs) : cs = evCs x := by
  obtain ⟨_, _, rfl, rfl, ⟨_, _, rfl, rfl, rfl⟩⟩ := h
  exact rfl
def zV : VeV := ⟨0, ⟨none, 0, 0⟩, 0⟩
def zVD : VeD := ⟨0, [], 0⟩
def zE : EvV := ⟨⟨#[]⟩, ⟨none, 0, 0⟩, 0⟩
def zED : EvD := ⟨⟨#[]⟩, [], 0⟩
theorem at_V {w : World} {A : Option Addr} {n : Nat} {xs : List VeV} {ds : List VeD} (h : Kd.C kve w A n xs) (hr : All2 (RdV w) ds xs) (i : Nat) (h1 : i < n) (h2 : i < ds.length) : ∃ ad va vc, A = some ad ∧ (∀ w' : World, Below w.heap.size w w' → w'.cell? (ad.add (i * 3)) = some (.int .u64 (ds.getD i zVD).num) ∧ w'.cell? ⟨(ad.add (i * 3)).block, (ad.add (i * 3)).off + 1, none⟩ = some (.slice va (ds.getD i zVD).steps.length vc) ∧ w'.cell? ⟨(ad.add (i * 3)).block, (ad.add (i * 3)).off + 2, none⟩ = some (.int .i64 (ds.getD i zVD).pl)) ∧ (∃ xs, Kd.C kst w va xs.length xs ∧ All2 (RdN w) (ds.getD i zVD).steps xs) ∧ (ds.getD i zVD).steps.length ≤ 9223372036854775807 := by
  have hR := All2.get zVD zV i hr h2
  have hA : ∃ ad, A = some ad := by
    obtain ⟨ad, c, e, _⟩ := Kd.C_get h zV (i : Int) (by omega) (by omega)
    exact ⟨ad, e⟩
  obtain ⟨ad, e⟩ := hA
  refine ⟨ad, (xs.getD i zV).steps.A, (xs.getD i zV).steps.c, e, fun w' hb => ?_, hR.v, hR.mx⟩
  obtain ⟨ad', c, e', _, hK, hc0⟩ := Kd.C_get (Kd.C_below h hb) zV (i : Int) (by omega) (by omega)
  rw [e] at e'
  injection e' with e'
  subst e'
  rw [Int.toNat_natCast] at hK hc0
  have hc : ∀ j u, c[j]? = some u → w'.cell? (ad.add (i * 3 + j)) = some u := hc0
  obtain rfl := kve_open hK
  obtain ⟨q0, q1, q2, _, _⟩ := hR
  rw [← q0, ← q1, ← q2]
  exact ⟨hc 0 _ rfl, by rw [← add_field _ _ 1 (by omega)]; exact hc 1 _ rfl, by rw [← add_field _ _ 2 (by omega)]; exact hc 2 _ rfl⟩
theorem at_E {w : World} {A : Option Addr} {n : Nat} {xs : List EvV} {ds : List EvD} (h : Kd.C kev w A n xs) (hr : All2 (RdE w) ds xs) (i : Nat) (h1 : i < n) (h2 : i < ds.length) : ∃ ad va vc, A = some ad ∧ (∀ w' : World, Below w.heap.size w w' → w'.cell? (ad.add (i * 3)) = some (.string (ds.getD i zED).name) ∧ w'.cell? ⟨(ad.add (i * 3)).block, (ad.add (i * 3)).off + 1, none⟩ = some (.slice va (ds.getD i zED).vers.length vc) ∧ w'.cell? ⟨(ad.add (i * 3)).block, (ad.add (i * 3)).off + 2, none⟩ = some (.int .i64 (ds.getD i zED).pl)) ∧ (∃ xs, Kd.C kve w va xs.length xs ∧ All2 (RdV w) (ds.getD i zED).vers xs) ∧ (ds.getD i zED).vers.length ≤ 9223372036854775807 := by
  have hR := All2.get zED zE i hr h2
  have hA : ∃ ad, A = some ad := by
    obtain ⟨ad, c, e, _⟩ := Kd.C_get h zE (i : Int) (by omega) (by omega)
    exact ⟨ad, e⟩
  obtain ⟨ad, e⟩ := hA
  refine ⟨ad, (xs.getD i zE).vers.A, (xs.getD i zE).vers.c, e, fun w' hb => ?_, hR.v, hR.mx⟩
  obtain ⟨ad', c, e', _, hK, hc0⟩ := Kd.C_get (Kd.C_below h hb) zE (i : Int) (by omega) (by omega)
  rw [e] at e'
  injection e' with e'
  subst e'
  rw [Int.toNat_natCast] at hK hc0
  have hc : ∀ j u, c[j]? = some u → w'.cell? (ad.add (i * 3 + j)) = some u := hc0
  obtain rfl := kev_open hK
  obtain ⟨q0, q1, q2, _, _⟩ := hR
  rw [← q0, ← q1, ← q2]
  exact ⟨hc 0 _ rfl, by rw [← add_field _ _ 1 (by omega)]; exact hc 1 _ rfl, by rw [← add_field _ _ 2 (by omega)]; exact hc 2 _ rfl⟩
theorem veBox {W : World} {b : Nat} {v0 v1 v2 : Value} (h : W.heap[b]? = some (.cells #[v0, v1, v2] 60 (0, 0))) : W.cell? ⟨b, 0, none⟩ = some v0 ∧ W.cell? ⟨b, 1, none⟩ = some v1 ∧ W.cell? ⟨b, 2, none⟩ = some v2 := ⟨(blk_cell h 0).trans rfl, (blk_cell h 1).trans rfl, (blk_cell h 2).trans rfl⟩
set_option maxHeartbeats 16000000 in
set_option maxRecDepth 100000 in
theorem events_calls (w : World) (A1 A2 : Option Addr) (c1 c2 : Nat) (xs ys : List EvV) (ds es : List EvD) (more : Int) (pl : Bool) (h1 : Kd.C kev w A1 xs.length xs) (h2 : Kd.C kev w A2 ys.length ys) (r1 : All2 (RdE w) ds xs) (r2 : All2 (RdE w) es ys) (hx : xs.length ≤ 9223372036854775807) :
    Calls Try.prog 14 #[.slice A1 xs.length c1, .slice A2 ys.length c2, .int .i64 more, .bool pl] w fun e w' => e = .returned (.bool (eventsB more pl ds es)) ∧ Below w.heap.size w w' := by
  have H1 := Aside0.mk h1
  have H2 := Aside0.mk h2
  have R1 := Aside0.mk r1
  have R2 := Aside0.mk r2
  have L1 := Aside0.mk r1.len
  have L2 := Aside0.mk r2.len
  have HX := Aside0.mk hx
  clear h1 h2 r1 r2 hx
  by_cases hl : xs.length = ys.length
  · have d0 : ((xs.length : Int) != (ys.length : Int)) = false := by rw [hl]; simp
    have HLE := Aside0.mk hl
    clear hl
    go_enter Try.func14, Try.ntmps14
    go_wp2_with fail
    go_loopw [9] (fun ti wr => ∃ i : Nat, ti = .int .i64 (i : Int) ∧ Aside0 (i ≤ xs.length) ∧ Aside0 (allB (evB more pl) (ds.drop i) (es.drop i) = eventsB more pl ds es) ∧ Aside0 (Below w.heap.size w wr)) (fun ti _ => xs.length - left ti)
    case atStart => exact ⟨0, rfl, ⟨Nat.zero_le _⟩, ⟨rfl⟩, ⟨Below.refl _ _⟩⟩
    case round =>
      obtain ⟨i, rfl, hi, he, hb⟩ := hrel
      obtain ⟨wo, hwo⟩ : ∃ wo, wo = wr := ⟨_, rfl⟩
      subst hwo
      by_cases hlt : i < xs.length
      · have dl : ((i : Int) < (xs.length : Int)) := by omega
        have dl2 : decide ((i : Int) < (xs.length : Int)) = true := decide_eq_true dl
        have hi2 : (i : Int) < (ys.length : Int) := by rw [← HLE.out]; exact dl
        have i1 : i < ds.length := by rw [L1.out]; exact hlt
        have i2 : i < es.length := by rw [L2.out, ← HLE.out]; exact hlt
        obtain ⟨ad1, va1, vc1, hA1, K1, ⟨vs1, N1, M1⟩, X1⟩ := at_E H1.out R1.out i hlt i1
        obtain ⟨ad2, va2, vc2, hA2, K2, ⟨vs2, N2, M2⟩, X2⟩ := at_E H2.out R2.out i (by rw [← HLE.out]; exact hlt) i2
        subst hA1 hA2
        have hst := he.out
        rw [allB_step (evB more pl) zED i ds es i1 i2] at hst
        obtain ⟨D, hD⟩ : ∃ D, D = ds.getD i zED := ⟨_, rfl⟩
        obtain ⟨E, hE⟩ : ∃ E, E = es.getD i zED := ⟨_, rfl⟩
        rw [← hD] at K1 M1 X1 hst
        rw [← hE] at K2 M2 X2 hst
        obtain ⟨x0, x1, x2⟩ := K1 wo hb.out
        obtain ⟨y0, y1, y2⟩ := K2 wo hb.out
        have hnx := nextN i xs.length HX.out hlt
        have hls := lessN i xs.length HX.out hlt
        have HST := Aside0.mk hst
        have HLT := Aside0.mk hlt
        have HNX := Aside0.mk hnx
        have HLS := Aside0.mk hls
        have HK1 := Aside0.mk K1
        have HK2 := Aside0.mk K2
        have HN1 := Aside0.mk N1
        have HN2 := Aside0.mk N2
        have HM1 := Aside0.mk M1
        have HM2 := Aside0.mk M2
        have HX1 := Aside0.mk X1
        clear hst hlt hnx hls K1 K2 N1 N2 M1 M2 X1 X2 i1 i2 hD hE
        have FIN0 : Aside0 (∀ w' : World, Below w.heap.size w w' → evB more pl D E = false → (Ending.returned (.bool false) : Ending) = .returned (.bool (eventsB more pl ds es)) ∧ Below w.heap.size w w') := ⟨fun w' hb' hq => ⟨by rw [← HST.out, hq, Bool.false_and], hb'⟩⟩
        obtain ⟨t0, e0⟩ : ∃ t0, t0 = (D.name.toList == E.name.toList) := ⟨_, rfl⟩
        have HE0 := Aside0.mk e0.symm
        have g0 := e0.symm
        clear e0
        cases t0 with
        | false =>
          go_wp2_with fail
          go_quiet (fail)
          go_wp2
          go_ret
          exact FIN0.out _ (pw_below_drewN hb.out _) (by unfold evB; simp only [HE0.out, Bool.false_and])
        | true =>
          by_cases hle : D.vers.length = E.vers.length
          · have dle : ((D.vers.length : Int) != (E.vers.length : Int)) = false := by rw [hle]; simp
            have HLV := Aside0.mk hle
            clear hle
            cases pl with
            | true =>
              obtain ⟨t6, e6⟩ : ∃ t6, t6 = (wrap64 (D.pl + more) == E.pl) := ⟨_, rfl⟩
              have HE6 := Aside0.mk e6.symm
              cases t6 with
              | false =>
                have d6 : (wrap64 (D.pl + more) != E.pl) = true := by unfold bne; rw [← e6]; rfl
                clear e6
                go_wp2_with fail
                go_quiet (fail)
                go_wp2
                go_ret
                exact FIN0.out _ (pw_below_drewN hb.out _) (by unfold evB; simp only [HE6.out, Bool.not_true, Bool.or_false, Bool.false_and, Bool.and_false])
              | true =>
                have d6 : (wrap64 (D.pl + more) != E.pl) = false := by unfold bne; rw [← e6]; rfl
                clear e6
                go_wp2_with fail
                go_quiet (fail)
                go_wp2_with fail
                go_loopw [10] (fun tj wr => ∃ j : Nat, tj = .int .i64 (j : Int) ∧ Aside0 (j ≤ D.vers.length) ∧ Aside0 (allB (verB more true) (D.vers.drop j) (E.vers.drop j) = allB (verB more true) D.vers E.vers) ∧ Aside0 (Below w.heap.size w wr)) (fun tj _ => D.vers.length - left tj)
                case atStart => exact ⟨0, rfl, ⟨Nat.zero_le _⟩, ⟨rfl⟩, ⟨pw_below_drewN hb.out _⟩⟩
                case round =>
                  obtain ⟨j, rfl, hj, hve, hbj⟩ := hrel
                  obtain ⟨x0, x1, x2⟩ := HK1.out wr hbj.out
                  obtain ⟨y0, y1, y2⟩ := HK2.out wr hbj.out
                  by_cases hjl : j < D.vers.length
                  · have dj : ((j : Int) < (D.vers.length : Int)) := by omega
                    have dj2 : decide ((j : Int) < (D.vers.length : Int)) = true := decide_eq_true dj
                    have hj2 : (j : Int) < (E.vers.length : Int) := by rw [← HLV.out]; exact dj
                    obtain ⟨bd1, ua1, uc1, hB1, Q1, ⟨ss1, P1, S1⟩, Y1⟩ := at_V HN1.out HM1.out j (by rw [← HM1.out.len]; exact hjl) hjl
                    obtain ⟨bd2, ua2, uc2, hB2, Q2, ⟨ss2, P2, S2⟩, Y2⟩ := at_V HN2.out HM2.out j (by rw [← HM2.out.len, ← HLV.out]; exact hjl) (by rw [← HLV.out]; exact hjl)
                    subst hB1 hB2
                    have hvs := hve.out
                    rw [allB_step (verB more true) zVD j D.vers E.vers hjl (by rw [← HLV.out]; exact hjl)] at hvs
                    obtain ⟨G, hG⟩ : ∃ G, G = D.vers.getD j zVD := ⟨_, rfl⟩
                    obtain ⟨H, hH⟩ : ∃ H, H = E.vers.getD j zVD := ⟨_, rfl⟩
                    rw [← hG] at Q1 S1 Y1 hvs
                    rw [← hH] at Q2 S2 Y2 hvs
                    obtain ⟨W1, hW1⟩ : ∃ W1, W1 = wr.alloc (.cells #[.int .u64 G.num, .slice ua1 G.steps.length uc1, .int .i64 G.pl] 60) := ⟨_, rfl⟩
                    obtain ⟨W2, hW2⟩ : ∃ W2, W2 = W1.alloc (.cells #[.int .u64 H.num, .slice ua2 H.steps.length uc2, .int .i64 H.pl] 60) := ⟨_, rfl⟩
                    have hb1 : Below wr.heap.size wr W1 := by rw [hW1]; exact below_alloc (Below.refl _ _) _
                    have hb2 : Below W1.heap.size W1 W2 := by rw [hW2]; exact below_alloc (Below.refl _ _) _
                    have hX1 : W1.heap[wr.heap.size]? = some (.cells #[.int .u64 G.num, .slice ua1 G.steps.length uc1, .int .i64 G.pl] 60 (0, 0)) := by rw [hW1]; exact blk_new _ _
                    have hX2 : W2.heap[W1.heap.size]? = some (.cells #[.int .u64 H.num, .slice ua2 H.steps.length uc2, .int .i64 H.pl] 60 (0, 0)) := by rw [hW2]; exact blk_new _ _
                    have hs1 : W1.heap.size = wr.heap.size + 1 := by rw [hW1]; exact Array.size_push _
                    obtain ⟨u0, u1, u2⟩ := Q1 wr hbj.out
                    obtain ⟨v0, v1, v2⟩ := Q2 W1 (below_step hbj.out hb1)
                    obtain ⟨yy0, yy1, yy2⟩ := HK2.out W1 (below_step hbj.out hb1)
                    obtain ⟨p0, p1, p2⟩ := veBox (blk_below hX1 hb2)
                    obtain ⟨q0, q1, q2⟩ := veBox hX2
                    have hB := below_step (below_step hbj.out hb1) hb2
                    have hsc := steps_calls W2 ua1 ua2 uc1 uc2 ss1 ss2 G.steps H.steps more true (Kd.C_below P1 hB) (Kd.C_below P2 hB) (S1.imp (fun _ _ h => h.below hB)) (S2.imp (fun _ _ h => h.below hB)) (by rw [← S1.len]; exact Y1)
                    rw [← S1.len, ← S2.len] at hsc
                    have HSC := Aside0.mk hsc
                    have hnj := nextN j D.vers.length HX1.out hjl
                    have hlj := lessN j D.vers.length HX1.out hjl
                    have HVS := Aside0.mk hvs
                    have HJL := Aside0.mk hjl
                    have HNJ := Aside0.mk hnj
                    have HLJ := Aside0.mk hlj
                    have HBW := Aside0.mk hB
                    have HW2 := Aside0.mk (show W2 = (wr.alloc (.cells #[.int .u64 G.num, .slice ua1 G.steps.length uc1, .int .i64 G.pl] 60)).alloc (.cells #[.int .u64 H.num, .slice ua2 H.steps.length uc2, .int .i64 H.pl] 60) from by rw [hW2, hW1])
                    rw [hs1] at q0 q1 q2
                    rw [hW2] at p0 p1 p2 q0 q1 q2
                    rw [hW1] at p0 p1 p2 q0 q1 q2 v0 v1 v2 yy0 yy1 yy2
                    clear hvs hjl hnj hlj hW1 hW2 hb1 hb2 hX1 hX2 hs1 Q1 Q2 P1 P2 S1 S2 Y1 Y2 hB hsc hG hH
                    have FINV : Aside0 (verB more true G H = false → evB more true D E = false) := ⟨fun hq => by
                      unfold evB
                      rw [← HVS.out, hq, Bool.false_and, Bool.and_false, Bool.and_false, Bool.and_false]⟩
                    obtain ⟨s0, f0⟩ : ∃ s0, s0 = (G.num == H.num) := ⟨_, rfl⟩
                    have HF0 := Aside0.mk f0.symm
                    cases s0 with
                    | false =>
                      have d7 : (G.num != H.num) = true := by unfold bne; rw [← f0]; rfl
                      clear f0
                      go_wp2_with fail
                      go_ret
                      exact FIN0.out _ (by rw [← HW2.out]; exact HBW.out) (FINV.out (by unfold verB; simp only [HF0.out, Bool.false_and]))
                    | true =>
                      have d7 : (G.num != H.num) = false := by unfold bne; rw [← f0]; rfl
                      clear f0
                      obtain ⟨s1, f1⟩ : ∃ s1, s1 = (wrap64 (G.pl + more) == H.pl) := ⟨_, rfl⟩
                      have HF1 := Aside0.mk f1.symm
                      cases s1 with
                      | false =>
                        have d8 : (wrap64 (G.pl + more) != H.pl) = true := by unfold bne; rw [← f1]; rfl
                        clear f1
                        go_wp2_with fail
                        go_ret
                        exact FIN0.out _ (by rw [← HW2.out]; exact HBW.out) (FINV.out (by unfold verB; simp only [HF1.out, Bool.not_true, Bool.or_false, Bool.false_and, Bool.and_false]))
                      | true =>
                        have d8 : (wrap64 (G.pl + more) != H.pl) = false := by unfold bne; rw [← f1]; rfl
                        clear f1
                        go_wp2_with fail
                        rw [← HW2.out]
                        refine HSC.out.mono ?_
                        rintro e w7 ⟨rfl, hb7⟩
                        have HB7 := Aside0.mk (below_step HBW.out hb7)
                        clear hb7
                        obtain ⟨tn, en⟩ : ∃ tn, tn = stepsB more true G.steps H.steps := ⟨_, rfl⟩
                        rw [← en]
                        have HEN := Aside0.mk en.symm
                        clear en
                        cases tn with
                        | false =>
                          go_wp2
                          go_ret
                          exact FIN0.out _ HB7.out (FINV.out (by unfold verB; simp only [HEN.out, Bool.and_false]))
                        | true =>
                          go_wp2
                          rw [HNJ.out]
                          go_roundw
                          case measure => have := HLJ.out; have := HJL.out; simp only [left, Int.toNat_natCast]; omega
                          case rel =>
                            refine ⟨j + 1, rfl, ⟨HJL.out⟩, ⟨?_⟩, ⟨HB7.out⟩⟩
                            rw [← HVS.out]
                            have : verB more true G H = true := by unfold verB; simp only [HF0.out, HF1.out, HEN.out, Bool.and_true, Bool.true_and, Bool.not_true, Bool.not_false, Bool.or_true, Bool.true_or, Bool.false_or]
                            rw [this, Bool.true_and]
                  · have dj2 : decide ((j : Int) < (D.vers.length : Int)) = false := decide_eq_false (by omega)
                    have hje : j = D.vers.length := by have := hj.out; omega
                    have hv' := hve.out
                    rw [hje, List.drop_length, HLV.out, List.drop_length] at hv'
                    have HVE : Aside0 (allB (verB more true) D.vers E.vers = true) := ⟨hv'.symm⟩
                    clear hv' hje
                    go_wp2
                    rw [HNX.out]
                    go_roundw
                    case measure => have := HLS.out; have := HLT.out; simp only [left, Int.toNat_natCast]; omega
                    case rel =>
                      refine ⟨i + 1, rfl, ⟨HLT.out⟩, ⟨?_⟩, ⟨hbj.out⟩⟩
                      rw [← HST.out]
                      have : evB more true D E = true := by unfold evB; simp only [HE0.out, HE6.out, HLV.out, HVE.out, beq_self_eq_true, Bool.and_true, Bool.true_and, Bool.not_true, Bool.not_false, Bool.or_true, Bool.true_or, Bool.false_or]
                      rw [this, Bool.true_and]
            | false =>
              go_wp2_with fail
              go_quiet (fail)
              go_wp2_with fail
              go_loopw [10] (fun tj wr => ∃ j : Nat, tj = .int .i64 (j : Int) ∧ Aside0 (j ≤ D.vers.length) ∧ Aside0 (allB (verB more false) (D.vers.drop j) (E.vers.drop j) = allB (verB more false) D.vers E.vers) ∧ Aside0 (Below w.heap.size w wr)) (fun tj _ => D.vers.length - left tj)
              case atStart => exact ⟨0, rfl, ⟨Nat.zero_le _⟩, ⟨rfl⟩, ⟨pw_below_drewN hb.out _⟩⟩
              case round =>
                obtain ⟨j, rfl, hj, hve, hbj⟩ := hrel
                obtain ⟨x0, x1, x2⟩ := HK1.out wr hbj.out
                obtain ⟨y0, y1, y2⟩ := HK2.out wr hbj.out
                by_cases hjl : j < D.vers.length
                · have dj : ((j : Int) < (D.vers.length : Int)) := by omega
                  have dj2 : decide ((j : Int) < (D.vers.length : Int)) = true := decide_eq_true dj
                  have hj2 : (j : Int) < (E.vers.length : Int) := by rw [← HLV.out]; exact dj
                  obtain ⟨bd1, ua1, uc1, hB1, Q1, ⟨ss1, P1, S1⟩, Y1⟩ := at_V HN1.out HM1.out j (by rw [← HM1.out.len]; exact hjl) hjl
                  obtain ⟨bd2, ua2, uc2, hB2, Q2, ⟨ss2, P2, S2⟩, Y2⟩ := at_V HN2.out HM2.out j (by rw [← HM2.out.len, ← HLV.out]; exact hjl) (by rw [← HLV.out]; exact hjl)
                  subst hB1 hB2
                  have hvs := hve.out
                  rw [allB_step (verB more false) zVD j D.vers E.vers hjl (by rw [← HLV.out]; exact hjl)] at hvs
                  obtain ⟨G, hG⟩ : ∃ G, G = D.vers.getD j zVD := ⟨_, rfl⟩
                  obtain ⟨H, hH⟩ : ∃ H, H = E.vers.getD j zVD := ⟨_, rfl⟩
                  rw [← hG] at Q1 S1 Y1 hvs
                  rw [← hH] at Q2 S2 Y2 hvs
                  obtain ⟨W1, hW1⟩ : ∃ W1, W1 = wr.alloc (.cells #[.int .u64 G.num, .slice ua1 G.steps.length uc1, .int .i64 G.pl] 60) := ⟨_, rfl⟩
                  obtain ⟨W2, hW2⟩ : ∃ W2, W2 = W1.alloc (.cells #[.int .u64 H.num, .slice ua2 H.steps.length uc2, .int .i64 H.pl] 60) := ⟨_, rfl⟩
                  have hb1 : Below wr.heap.size wr W1 := by rw [hW1]; exact below_alloc (Below.refl _ _) _
                  have hb2 : Below W1.heap.size W1 W2 := by rw [hW2]; exact below_alloc (Below.refl _ _) _
                  have hX1 : W1.heap[wr.heap.size]? = some (.cells #[.int .u64 G.num, .slice ua1 G.steps.length uc1, .int .i64 G.pl] 60 (0, 0)) := by rw [hW1]; exact blk_new _ _
                  have hX2 : W2.heap[W1.heap.size]? = some (.cells #[.int .u64 H.num, .slice ua2 H.steps.length uc2, .int .i64 H.pl] 60 (0, 0)) := by rw [hW2]; exact blk_new _ _
                  have hs1 : W1.heap.size = wr.heap.size + 1 := by rw [hW1]; exact Array.size_push _
                  obtain ⟨u0, u1, u2⟩ := Q1 wr hbj.out
                  obtain ⟨v0, v1, v2⟩ := Q2 W1 (below_step hbj.out hb1)
                  obtain ⟨yy0, yy1, yy2⟩ := HK2.out W1 (below_step hbj.out hb1)
                  obtain ⟨p0, p1, p2⟩ := veBox (blk_below hX1 hb2)
                  obtain ⟨q0, q1, q2⟩ := veBox hX2
                  have hB := below_step (below_step hbj.out hb1) hb2
                  have hsc := steps_calls W2 ua1 ua2 uc1 uc2 ss1 ss2 G.steps H.steps more false (Kd.C_below P1 hB) (Kd.C_below P2 hB) (S1.imp (fun _ _ h => h.below hB)) (S2.imp (fun _ _ h => h.below hB)) (by rw [← S1.len]; exact Y1)
                  rw [← S1.len, ← S2.len] at hsc
                  have HSC := Aside0.mk hsc
                  have hnj := nextN j D.vers.length HX1.out hjl
                  have hlj := lessN j D.vers.length HX1.out hjl
                  have HVS := Aside0.mk hvs
                  have HJL := Aside0.mk hjl
                  have HNJ := Aside0.mk hnj
                  have HLJ := Aside0.mk hlj
                  have HBW := Aside0.mk hB
                  have HW2 := Aside0.mk (show W2 = (wr.alloc (.cells #[.int .u64 G.num, .slice ua1 G.steps.length uc1, .int .i64 G.pl] 60)).alloc (.cells #[.int .u64 H.num, .slice ua2 H.steps.length uc2, .int .i64 H.pl] 60) from by rw [hW2, hW1])
                  rw [hs1] at q0 q1 q2
                  rw [hW2] at p0 p1 p2 q0 q1 q2
                  rw [hW1] at p0 p1 p2 q0 q1 q2 v0 v1 v2 yy0 yy1 yy2
                  clear hvs hjl hnj hlj hW1 hW2 hb1 hb2 hX1 hX2 hs1 Q1 Q2 P1 P2 S1 S2 Y1 Y2 hB hsc hG hH
                  have FINV : Aside0 (verB more false G H = false → evB more false D E = false) := ⟨fun hq => by
                    unfold evB
                    rw [← HVS.out, hq, Bool.false_and, Bool.and_false, Bool.and_false, Bool.and_false]⟩
                  obtain ⟨s0, f0⟩ : ∃ s0, s0 = (G.num == H.num) := ⟨_, rfl⟩
                  have HF0 := Aside0.mk f0.symm
                  cases s0 with
                  | false =>
                    have d7 : (G.num != H.num) = true := by unfold bne; rw [← f0]; rfl
                    clear f0
                    go_wp2_with fail
                    go_ret
                    exact FIN0.out _ (by rw [← HW2.out]; exact HBW.out) (FINV.out (by unfold verB; simp only [HF0.out, Bool.false_and]))
                  | true =>
                    have d7 : (G.num != H.num) = false := by unfold bne; rw [← f0]; rfl
                    clear f0
                    go_wp2_with fail
                    rw [← HW2.out]
                    refine HSC.out.mono ?_
                    rintro e w7 ⟨rfl, hb7⟩
                    have HB7 := Aside0.mk (below_step HBW.out hb7)
                    clear hb7
                    obtain ⟨tn, en⟩ : ∃ tn, tn = stepsB more false G.steps H.steps := ⟨_, rfl⟩
                    rw [← en]
                    have HEN := Aside0.mk en.symm
                    clear en
                    cases tn with
                    | false =>
                      go_wp2
                      go_ret
                      exact FIN0.out _ HB7.out (FINV.out (by unfold verB; simp only [HEN.out, Bool.and_false]))
                    | true =>
                      go_wp2
                      rw [HNJ.out]
                      go_roundw
                      case measure => have := HLJ.out; have := HJL.out; simp only [left, Int.toNat_natCast]; omega
                      case rel =>
                        refine ⟨j + 1, rfl, ⟨HJL.out⟩, ⟨?_⟩, ⟨HB7.out⟩⟩
                        rw [← HVS.out]
                        have : verB more false G H = true := by unfold verB; simp only [HF0.out, HEN.out, Bool.and_true, Bool.true_and, Bool.not_true, Bool.not_false, Bool.or_true, Bool.true_or, Bool.false_or]
                        rw [this, Bool.true_and]
                · have dj2 : decide ((j : Int) < (D.vers.length : Int)) = false := decide_eq_false (by omega)
                  have hje : j = D.vers.length := by have := hj.out; omega
                  have hv' := hve.out
                  rw [hje, List.drop_length, HLV.out, List.drop_length] at hv'
                  have HVE : Aside0 (allB (verB more false) D.vers E.vers = true) := ⟨hv'.symm⟩
                  clear hv' hje
                  go_wp2
                  rw [HNX.out]
                  go_roundw
                  case measure => have := HLS.out; have := HLT.out; simp only [left, Int.toNat_natCast]; omega
                  case rel =>
                    refine ⟨i + 1, rfl, ⟨HLT.out⟩, ⟨?_⟩, ⟨hbj.out⟩⟩
                    rw [← HST.out]
                    have : evB more false D E = true := by unfold evB; simp only [HE0.out, HLV.out, HVE.out, beq_self_eq_true, Bool.and_true, Bool.true_and, Bool.not_true, Bool.not_false, Bool.or_true, Bool.true_or, Bool.false_or]
                    rw [this, Bool.true_and]
          · have dle : ((D.vers.length : Int) != (E.vers.length : Int)) = true := bne_iff_ne.2 (by omega)
            have HLV : Aside0 ((D.vers.length == E.vers.length) = false) := ⟨beq_eq_false_iff_ne.2 hle⟩
            clear hle
            go_wp2_with fail
            go_quiet (fail)
            go_wp2
            go_ret
            exact FIN0.out _ (pw_below_drewN hb.out _) (by unfold evB; simp only [HLV.out, Bool.false_and, Bool.and_false])
      · have dl2 : decide ((i : Int) < (xs.length : Int)) = false := decide_eq_false (by omega)
        have hie : i = xs.length := by have := hi.out; omega
        have he' := he.out
        have l3 : xs.length = es.length := by rw [L2.out]; exact HLE.out
        rw [hie, ← L1.out, List.drop_length, L1.out, l3, List.drop_length] at he'
        have HE := Aside0.mk he'
        clear he' hie l3
        go_wp2
        go_ret
        exact ⟨by rw [← HE.out]; rfl, hb.out⟩
  · have d0 : ((xs.length : Int) != (ys.length : Int)) = true := bne_iff_ne.2 (by omega)
    have HF := Aside0.mk (allB_len (evB more pl) ds es (by rw [L1.out, L2.out]; exact hl))
    clear hl
    go_enter Try.func14, Try.ntmps14
    go_wp2
    go_ret
    exact ⟨by unfold eventsB; rw [HF.out]; rfl, Below.refl _ _⟩
end Go.Proofs.Ytbdcndkafaajpaa.A
end
section
set_option linter.unusedVariables false
set_option linter.unusedSimpArgs false
namespace Go.Proofs.Ytbdcndkafaajpaa.A
open Go.RowKit Go.Proofs.Ytbdcndkafaajpaa.X Go.Proofs.Ytbdcndkafaajpaa.L Go.Proofs.Ytbdcndkafaajpaa.T Go.Proofs.YtbdcndkafaajpaaW.PrintWords Go.Proofs.YtbdcndkafaajpaaW.PrintLast Go.Proofs.YtbdcndkafaajpaaW.PrintMore
open Go.Proofs.Ytbdcndkafaajpaa.P (Nd EO Res hd isT isM takeM mxl comb mk1 StD VeD EvD Out overLex schemaO valueO)
theorem over_of {α : Type} (f : List Tk → Res α) {s : ByteArray} {k : Nat} {ts : List Tk} (h : lex_Lex.f k s = some (ts, 0, 0)) : overLex f s = P.outO (f ts) := by
  obtain ⟨K1, h1⟩ := Ev.of (g := fun k => lex_Lex.f k s) (fun k => lex_Lex.mono s k) h
  obtain ⟨K2, h2⟩ := lexes_ev s
  have e := (h1 (max K1 K2) (by omega)).symm.trans (h2 (max K1 K2) (by omega))
  injection e with e
  unfold overLex
  cases hx : L.Lex s.data.toList with
  | toks l =>
    rw [hx] at e
    have : ts = l.map toS := by
      have := congrArg Prod.fst e
      simpa [outL] using this
    rw [this]
  | bad a er =>
    rw [hx] at e
    have h0 : (0 : Int) = (er : Int) := by
      have := congrArg (fun x => x.2.2) e
      simpa [outL] using this
    exfalso
    rcases Lex_bad hx with ⟨_, _, h⟩ | ⟨_, _, _, h⟩ <;> omega
def aw1 : ByteArray := ⟨#[101, 118, 101, 110, 116, 32, 97, 123, 118, 101, 114, 115, 105, 111, 110, 32, 49, 123, 97, 100, 100, 32, 120, 58, 117, 105, 110, 116, 59, 125, 125]⟩
def aw2 : ByteArray := ⟨#[49, 45, 50]⟩
def aw3 : ByteArray := ⟨#[40, 49]⟩
theorem aw2_out : valueO aw2 = .ok [⟨1, 0, 1, ⟨#[]⟩, 0⟩, ⟨1, 0, 2, ⟨#[]⟩, 2⟩, ⟨7, 0, 0, ⟨#[]⟩, 1⟩] :=
  (over_of P.valueW (s := aw2) (k := 40) (ts := [⟨2, ⟨#[]⟩, 1, 0, 1⟩, ⟨4, ⟨#[45]⟩, 0, 1, 2⟩, ⟨2, ⟨#[]⟩, 2, 2, 3⟩, ⟨0, ⟨#[]⟩, 0, 3, 3⟩]) (by kernel_rfl)).trans (by kernel_rfl)
theorem aw3_out : valueO aw3 = .bad 90 2 :=
  (over_of P.valueW (s := aw3) (k := 40) (ts := [⟨4, ⟨#[40]⟩, 0, 0, 1⟩, ⟨2, ⟨#[]⟩, 1, 1, 2⟩, ⟨0, ⟨#[]⟩, 0, 2, 2⟩]) (by kernel_rfl)).trans (by kernel_rfl)
def aw1S : StD := ⟨1, ⟨#[120]⟩, ⟨#[]⟩, ⟨#[]⟩, ⟨#[]⟩, ⟨#[117, 105, 110, 116]⟩, [], 18⟩
theorem aw1_out : schemaO aw1 = .ok [⟨⟨#[97]⟩, [⟨1, [aw1S], 8⟩], 0⟩] :=
  (over_of P.schemaW (s := aw1) (k := 60) (ts := [⟨1, ⟨#[101, 118, 101, 110, 116]⟩, 0, 0, 5⟩, ⟨1, ⟨#[97]⟩, 0, 6, 7⟩, ⟨4, ⟨#[123]⟩, 0, 7, 8⟩, ⟨1, ⟨#[118, 101, 114, 115, 105, 111, 110]⟩, 0, 8, 15⟩, ⟨2, ⟨#[]⟩, 1, 16, 17⟩, ⟨4, ⟨#[123]⟩, 0, 17, 18⟩, ⟨1, ⟨#[97, 100, 100]⟩, 0, 18, 21⟩, ⟨1, ⟨#[120]⟩, 0, 22, 23⟩, ⟨4, ⟨#[58]⟩, 0, 23, 24⟩, ⟨1, ⟨#[117, 105, 110, 116]⟩, 0, 24, 28⟩, ⟨4, ⟨#[59]⟩, 0, 28, 29⟩, ⟨4, ⟨#[125]⟩, 0, 29, 30⟩, ⟨4, ⟨#[125]⟩, 0, 30, 31⟩, ⟨0, ⟨#[]⟩, 0, 31, 31⟩]) (by kernel_rfl)).trans (by kernel_rfl)
end Go.Proofs.Ytbdcndkafaajpaa.A
end
section
set_option linter.unusedVariables false
set_option linter.unusedSimpArgs false
namespace Go.Proofs.Ytbdcndkafaajpaa.A
open Go.RowKit Go.Proofs.Ytbdcndkafaajpaa.X Go.Proofs.YtbdcndkafaajpaaW.PrintWords Go.Proofs.YtbdcndkafaajpaaW.PrintLast Go.Proofs.YtbdcndkafaajpaaW.PrintMore
open Go.Proofs.Ytbdcndkafaajpaa.P (Nd EO Res hd isT isM takeM mxl comb mk1 StD VeD EvD Out overLex schemaO valueO)
theorem C_three {w : World} {b : Nat} {x y z : Nd} (h : w.heap[b]? = some (.cells (nodeCs x ++ nodeCs y ++ nodeCs z).toArray 49 (0, 0))) : Kd.C kn w (some ⟨b, 0, none⟩) 3 [x, y, z] := by
  refine ⟨rfl, by omega, fun _ => ⟨_, rfl, fun j p hj => ⟨nodeCs p, rfl, kn_mk w p, fun i u hu => ?_⟩⟩⟩
  have hi : i < 5 := by
    have := (List.getElem?_eq_some_iff.1 hu).1
    exact this
  have hc : w.cell? ((⟨b, 0, none⟩ : Addr).add (j * 5 + i)) = ((nodeCs x ++ nodeCs y ++ nodeCs z).toArray)[j * 5 + i]? := by
    have := blk_cell h (j * 5 + i)
    rw [← this]
    by_cases h0 : j * 5 + i = 0
    · rw [h0]; rfl
    · simp only [Addr.add]
      rw [if_neg h0]; simp
  show w.cell? ((⟨b, 0, none⟩ : Addr).add (j * 5 + i)) = some u
  rw [hc, List.getElem?_toArray]
  match j, hj with
  | 0, hj =>
    obtain rfl : x = p := by simpa using hj
    rw [List.append_assoc, List.getElem?_append_left (by show 0 * 5 + i < 5; omega), Nat.zero_mul, Nat.zero_add]; exact hu
  | 1, hj =>
    obtain rfl : y = p := by simpa using hj
    rw [List.append_assoc, List.getElem?_append_right (by show 5 ≤ 1 * 5 + i; omega), List.getElem?_append_left (by show 1 * 5 + i - 5 < 5; omega), show 1 * 5 + i - (nodeCs x).length = i by show 1 * 5 + i - 5 = i; omega]; exact hu
  | 2, hj =>
    obtain rfl : z = p := by simpa using hj
    rw [List.getElem?_append_right (by show 10 ≤ 2 * 5 + i; omega), show 2 * 5 + i - (nodeCs x ++ nodeCs y).length = i by show 2 * 5 + i - 10 = i; omega]; exact hu
  | j + 3, hj => simp at hj
end Go.Proofs.Ytbdcndkafaajpaa.A
end
section
set_option linter.unusedVariables false
set_option linter.unusedSimpArgs false
namespace Go.Proofs.Ytbdcndkafaajpaa.A
open Go.RowKit Go.Proofs.Ytbdcndkafaajpaa.X Go.Proofs.YtbdcndkafaajpaaW.PrintWords Go.Proofs.YtbdcndkafaajpaaW.PrintLast Go.Proofs.YtbdcndkafaajpaaW.PrintMore
open Go.Proofs.Ytbdcndkafaajpaa.P (Nd EO Res hd isT isM takeM mxl comb mk1 StD VeD EvD Out overLex schemaO valueO)
set_option maxHeartbeats 8000000 in
set_option maxRecDepth 100000 in
theorem awake_calls (w : World) : Calls Try.prog 10 #[] w fun e w' => e = .returned (.bool true) ∧ Below w.heap.size w w' := by
  go_enter Try.func10, Try.ntmps10
  go_wp2_with fail
  refine (Schema_calls w aw1).mono ?_
  rintro e w1 ⟨⟨Av, nv, cv⟩, l, at_, er, rfl, hrows, hb, hs⟩
  rw [aw1_out] at hs
  obtain ⟨rfl, rfl, xs, hm, ha⟩ := hs
  obtain ⟨hn, ⟨ys, hC, hA⟩, _⟩ := rdS_of hrows hm ha
  obtain rfl : nv = 1 := hn
  have hl1 : ys.length = 1 := hA.len.symm
  obtain ⟨W1, hW1⟩ : ∃ W1, W1 = w1.alloc (.cells #[.slice Av 1 cv] 27) := ⟨_, rfl⟩
  have hB1 : Below w1.heap.size w1 W1 := by rw [hW1]; exact below_alloc (Below.refl _ _) _
  have hX1 : W1.heap[w1.heap.size]? = some (.cells #[.slice Av 1 cv] 27 (0, 0)) := by rw [hW1]; exact blk_new _ _
  obtain ⟨ad, va, vc, rfl, K, ⟨vs, hCv, hAv⟩, _⟩ := at_E hC hA 0 (by omega) (by decide)
  obtain ⟨bd, ua, uc, rfl, Q, ⟨ss, hCs, hAs⟩, _⟩ := at_V hCv hAv 0 (by rw [← hAv.len]; decide) (by decide)
  obtain ⟨sd, na, nc, rfl, S, hCn, _⟩ := at_S hCs hAs 0 (by rw [← hAs.len]; decide) (by decide)
  obtain ⟨x0, x1, x2⟩ := K W1 hB1
  obtain ⟨y0, y1, y2⟩ := Q W1 hB1
  obtain ⟨z0, z1, z2, z3, z4, z5, z6, z7⟩ := S W1 hB1
  have p0 : W1.cell? ⟨w1.heap.size, 0, none⟩ = some (.slice (some ad) 1 cv) := (blk_cell hX1 0).trans rfl
  have ea : ad.add (0 * 3) = ad := rfl
  have eb : bd.add (0 * 3) = bd := rfl
  have es : sd.add (0 * 8) = sd := rfl
  rw [ea] at x0 x1 x2
  rw [eb] at y0 y1 y2
  rw [es] at z0 z1 z2 z3 z4 z5 z6 z7
  simp only [List.getD_cons_zero, aw1S, List.length_cons, List.length_nil, Nat.zero_add] at x0 x1 x2 y0 y1 y2 z0 z1 z2 z3 z4 z5 z6 z7
  have HB := Aside0.mk hb
  have HW1 := Aside0.mk hW1
  rw [hW1] at x0 x1 x2 y0 y1 y2 z0 z1 z2 z3 z4 z5 z6 z7 p0
  clear hrows hb hm ha hC hA hCv hAv hCs hAs hCn K Q S hX1 hB1 hl1 hW1 ea eb es
  go_wp2_with fail
  obtain ⟨W2, hW2⟩ : ∃ W2, W2 = W1.alloc (.cells #[.int .i64 1, .string ⟨#[120]⟩, .string ⟨#[]⟩, .string ⟨#[]⟩, .string ⟨#[]⟩, .string ⟨#[117, 105, 110, 116]⟩, .slice na 0 nc, .int .i64 18] 62) := ⟨_, rfl⟩
  have hBW2 : Below w.heap.size w W2 := by
    have h1 : Below w1.heap.size w1 W1 := by rw [HW1.out]; exact below_alloc (Below.refl _ _) _
    have h2 : Below W1.heap.size W1 W2 := by rw [hW2]; exact below_alloc (Below.refl _ _) _
    exact below_step (below_step HB.out h1) h2
  have hX2 : W2.heap[w1.heap.size + 1]? = some (.cells #[.int .i64 1, .string ⟨#[120]⟩, .string ⟨#[]⟩, .string ⟨#[]⟩, .string ⟨#[]⟩, .string ⟨#[117, 105, 110, 116]⟩, .slice na 0 nc, .int .i64 18] 62 (0, 0)) := by
    have hs : W1.heap.size = w1.heap.size + 1 := by rw [HW1.out]; exact Array.size_push _
    rw [hW2, ← hs]; exact blk_new _ _
  have HB2 := Aside0.mk hBW2
  have HX2 := Aside0.mk hX2
  rw [← HW1.out, ← hW2]
  clear hBW2 hX2 hW2 x0 x1 x2 y0 y1 y2 z0 z1 z2 z3 z4 z5 z6 z7 p0
  refine (Value_calls W2 aw2).mono ?_
  rintro e w3 ⟨⟨A3, n3, c3⟩, l3, at3, er3, rfl, hr3, hb3, hs3⟩
  rw [aw2_out] at hs3
  obtain ⟨rfl, rfl, hm3⟩ := hs3
  have hR3 : Kd.R kn 49 w3 W2.heap.size (fun _ => True) (.slice A3 n3 c3) [⟨1, 0, 1, ⟨#[]⟩, 0⟩, ⟨1, 0, 2, ⟨#[]⟩, 2⟩, ⟨7, 0, 0, ⟨#[]⟩, 1⟩] := hr3.holds _ hm3
  obtain ⟨e3, _, hC3⟩ := Kd.R_reads' hR3
  obtain rfl : n3 = 3 := e3
  have HB3 := Aside0.mk (below_step HB2.out hb3)
  have HX3 := Aside0.mk (blk_below HX2.out hb3)
  have HC3 := Aside0.mk hC3
  clear hr3 hb3 hm3 hR3 hC3
  go_wp2_with fail
  refine (Value_calls w3 aw3).mono ?_
  rintro e w4 ⟨⟨A4, n4, c4⟩, l4, at4, er4, rfl, hr4, hb4, hs4⟩
  rw [aw3_out] at hs4
  obtain ⟨rfl, rfl, hv4, _⟩ := hs4
  have HB4 := Aside0.mk (below_step HB3.out hb4)
  have HX4 := Aside0.mk (blk_below HX3.out hb4)
  have HC4 := Aside0.mk (Kd.C_below HC3.out hb4)
  clear hr4 hb4 hv4
  obtain ⟨z0, z1, z2, z3, z4, z5, z6, z7⟩ := stBox HX4.out
  go_wp2_with fail
  obtain ⟨W5, hW5⟩ : ∃ W5, W5 = w4.alloc (.cells #[.int .i64 1, .int .i64 0, .int .u64 1, .string ⟨#[]⟩, .int .i64 0, .int .i64 1, .int .i64 0, .int .u64 2, .string ⟨#[]⟩, .int .i64 2, .int .i64 7, .int .i64 0, .int .u64 0, .string ⟨#[]⟩, .int .i64 1] 49) := ⟨_, rfl⟩
  have hB5 : Below w4.heap.size w4 W5 := by rw [hW5]; exact below_alloc (Below.refl _ _) _
  have hX5 : W5.heap[w4.heap.size]? = some (.cells #[.int .i64 1, .int .i64 0, .int .u64 1, .string ⟨#[]⟩, .int .i64 0, .int .i64 1, .int .i64 0, .int .u64 2, .string ⟨#[]⟩, .int .i64 2, .int .i64 7, .int .i64 0, .int .u64 0, .string ⟨#[]⟩, .int .i64 1] 49 (0, 0)) := by rw [hW5]; exact blk_new _ _
  have hT := C_three (x := ⟨1, 0, 1, ⟨#[]⟩, 0⟩) (y := ⟨1, 0, 2, ⟨#[]⟩, 2⟩) (z := ⟨7, 0, 0, ⟨#[]⟩, 1⟩) hX5
  have HNC := Aside0.mk (nodes_calls W5 A3 (some ⟨w4.heap.size, 0, none⟩) c3 3 [⟨1, 0, 1, ⟨#[]⟩, 0⟩, ⟨1, 0, 2, ⟨#[]⟩, 2⟩, ⟨7, 0, 0, ⟨#[]⟩, 1⟩] [⟨1, 0, 1, ⟨#[]⟩, 0⟩, ⟨1, 0, 2, ⟨#[]⟩, 2⟩, ⟨7, 0, 0, ⟨#[]⟩, 1⟩] 0 true (Kd.C_below HC4.out hB5) hT (by decide))
  have HB5 := Aside0.mk (below_step HB4.out hB5)
  rw [← hW5]
  clear hW5 hB5 hX5 hT z0 z1 z2 z3 z4 z5 z6 z7
  refine HNC.out.mono ?_
  rintro e w6 ⟨rfl, hb6⟩
  have hnb : nodesB 0 true [⟨1, 0, 1, ⟨#[]⟩, 0⟩, ⟨1, 0, 2, ⟨#[]⟩, 2⟩, ⟨7, 0, 0, ⟨#[]⟩, 1⟩] [⟨1, 0, 1, ⟨#[]⟩, 0⟩, ⟨1, 0, 2, ⟨#[]⟩, 2⟩, ⟨7, 0, 0, ⟨#[]⟩, 1⟩] = true := by kernel_rfl
  rw [hnb]
  have HB6 := Aside0.mk (below_step HB5.out hb6)
  clear hb6 hnb
  go_wp2
  go_ret
  exact ⟨rfl, HB6.out⟩
end Go.Proofs.Ytbdcndkafaajpaa.A
end
section
set_option linter.unusedVariables false
set_option linter.unusedSimpArgs false
namespace Go.Proofs.Ytbdcndkafaajpaa.A
open Go.RowKit Go.Proofs.Ytbdcndkafaajpaa.X Go.Proofs.Ytbdcndkafaajpaa.L Go.Proofs.Ytbdcndkafaajpaa.T Go.Proofs.YtbdcndkafaajpaaW.PrintWords Go.Proofs.YtbdcndkafaajpaaW.PrintLast Go.Proofs.YtbdcndkafaajpaaW.PrintMore
open Go.Proofs.Ytbdcndkafaajpaa.P (Nd EO Res hd isT isM takeM mxl comb mk1 StD VeD EvD Out overLex schemaO valueO)
end Go.Proofs.Ytbdcndkafaajpaa.A
end
section
set_option linter.unusedVariables false
set_option linter.unusedSimpArgs false
namespace Go.Proofs.Ytbdcndkafaajpaa.A
open Go.RowKit Go.Proofs.Ytbdcndkafaajpaa.X Go.Proofs.Ytbdcndkafaajpaa.L Go.Proofs.Ytbdcndkafaajpaa.T Go.Proofs.YtbdcndkafaajpaaW.PrintWords Go.Proofs.YtbdcndkafaajpaaW.PrintLast Go.Proofs.YtbdcndkafaajpaaW.PrintMore
open Go.Proofs.Ytbdcndkafaajpaa.P (Nd EO Res hd isT isM takeM mxl comb mk1 StD VeD EvD Out overLex schemaO valueO)
theorem ok_split {α : Type} {f : List Tk → Res α} {s : ByteArray} {a : α} (h : overLex f s = .ok a) : ∃ i r, s.data.toList.length ≤ 1048576 ∧ lx 0 s.data.toList = .toks (i ++ [⟨0, [], 0, s.size, s.size⟩]) ∧ (∀ t ∈ i.map toS, t.f0 ≠ 0) ∧ f (i.map toS ++ [toS ⟨0, [], 0, s.size, s.size⟩]) = .ok a r := by
  unfold overLex at h
  cases hx : L.Lex s.data.toList with
  | bad a' er => rw [hx] at h; cases h
  | toks l =>
    rw [hx] at h
    obtain ⟨h1, h2, _⟩ := Lex_toks hx
    obtain ⟨i, rfl, hk⟩ := P.lexEnds h2
    rw [Nat.zero_add, ← size_len] at h2
    simp only at h
    rw [Nat.zero_add, ← size_len, List.map_append] at h
    cases hy : f (i.map toS ++ [toS ⟨0, [], 0, s.size, s.size⟩]) with
    | bad e p => rw [show [(⟨0, [], 0, s.size, s.size⟩ : L.Tok)].map toS = [toS ⟨0, [], 0, s.size, s.size⟩] from rfl, hy] at h; cases h
    | ok a' r =>
      rw [show [(⟨0, [], 0, s.size, s.size⟩ : L.Tok)].map toS = [toS ⟨0, [], 0, s.size, s.size⟩] from rfl, hy] at h
      cases h
      exact ⟨i, r, h1, h2, hk, hy⟩
theorem data_app (a b : ByteArray) : (a ++ b).data.toList = a.data.toList ++ b.data.toList := by
  rw [ByteArray.data_append, Array.toList_append]
end Go.Proofs.Ytbdcndkafaajpaa.A
end
section
set_option linter.unusedVariables false
set_option linter.unusedSimpArgs false
namespace Go.Proofs.Ytbdcndkafaajpaa.A
open Go.RowKit Go.Proofs.Ytbdcndkafaajpaa.X Go.Proofs.Ytbdcndkafaajpaa.L Go.Proofs.Ytbdcndkafaajpaa.T Go.Proofs.YtbdcndkafaajpaaW.PrintWords Go.Proofs.YtbdcndkafaajpaaW.PrintLast Go.Proofs.YtbdcndkafaajpaaW.PrintMore
open Go.Proofs.Ytbdcndkafaajpaa.P (Nd EO Res hd isT isM takeM mxl comb mk1 StD VeD EvD Out overLex schemaO valueO)
theorem sm_wrap {n : Nat} (hn : n ≤ 1048576) : true = true → ∀ p q, P.Sm n p q → wrap64 (p + 0) = q := by
  rintro _ p q ⟨rfl, h1, h2⟩
  unfold wrap64; omega
theorem sh_wrap {n k : Nat} (hn : n ≤ 1048576) (hk : k ≤ 1048577) : true = true → ∀ p q, P.Sh k n p q → wrap64 (p + (k : Int)) = q := by
  rintro _ p q ⟨rfl, h1, h2⟩
  unfold wrap64; omega
theorem joins_plain {s t : ByteArray} (hs : s.size ≤ 262144) (ht : t.size ≤ 262144) {da db : List EvD} (h1 : schemaO s = .ok da) (h2 : schemaO t = .ok db) :
    ∃ dc, schemaO (s ++ ⟨#[10]⟩ ++ t) = .ok (da ++ dc) ∧ dc.length = db.length ∧ eventsB 0 true da da = true ∧ eventsB ((s.size + 1 : Nat) : Int) true db dc = true := by
  obtain ⟨i, r, hl, hx, hk, hy⟩ := ok_split h1
  obtain ⟨j, r2, hl2, hx2, hk2, hy2⟩ := ok_split h2
  have hlist : (s ++ ⟨#[10]⟩ ++ t).data.toList = s.data.toList ++ 10 :: t.data.toList := by
    rw [data_app, data_app, List.append_assoc]; rfl
  obtain ⟨i', e', _, hj⟩ := lx_join t.data.toList _ 0 _ _ (Nat.le_refl _) hx
  have hii : i = i' := (List.append_inj' e' rfl).1
  subst hii
  rw [Nat.zero_add, show s.data.toList.length + 1 = 0 + (s.data.toList.length + 1) by omega, lx_sh _ _ _ _ (Nat.le_refl _), hx2] at hj
  have hrel := P.schemaW_rel (P.TL_shift hx2 (s.data.toList.length + 1))
  have hsame := P.schemaW_rel (P.TL_same hx)
  rw [List.map_append, show [(⟨0, [], 0, s.size, s.size⟩ : L.Tok)].map toS = [toS ⟨0, [], 0, s.size, s.size⟩] from rfl, hy] at hsame
  rw [show (j ++ [(⟨0, [], 0, t.size, t.size⟩ : L.Tok)]).map toS = j.map toS ++ [toS ⟨0, [], 0, t.size, t.size⟩] by rw [List.map_append]; rfl, hy2] at hrel
  obtain ⟨lsh, hlsh⟩ : ∃ l, l = (j ++ [(⟨0, [], 0, t.size, t.size⟩ : L.Tok)]).map (L.Tok.sh (s.data.toList.length + 1)) := ⟨_, rfl⟩
  rw [← hlsh] at hrel
  have hj' : lx 0 (s.data.toList ++ 10 :: t.data.toList) = .toks (i ++ lsh) := by rw [hj, hlsh]; rfl
  cases hz : P.schemaW (lsh.map toS) with
  | bad e p => rw [hz] at hrel; exact hrel.elim
  | ok dc rc =>
    rw [hz] at hrel
    refine ⟨dc, ?_, hrel.1.len, ?_, ?_⟩
    · unfold schemaO overLex
      rw [hlist, Lex_small (by rw [size_len] at hs ht; simp only [List.length_append, List.length_cons]; omega), hj']
      simp only [List.map_append]
      rw [P.schemaW_join hy rfl hk, hz]; rfl
    · exact eventsB_of (sm_wrap (by rw [← size_len]; omega)) hsame.1
    · rw [size_len]
      exact eventsB_of (sh_wrap (by rw [← size_len]; omega) (by rw [← size_len]; omega)) hrel.1
end Go.Proofs.Ytbdcndkafaajpaa.A
end
section
set_option linter.unusedVariables false
set_option linter.unusedSimpArgs false
namespace Go.Proofs.Ytbdcndkafaajpaa.A
open Go.RowKit Go.Proofs.Ytbdcndkafaajpaa.X Go.Proofs.Ytbdcndkafaajpaa.L Go.Proofs.Ytbdcndkafaajpaa.T Go.Proofs.YtbdcndkafaajpaaW.PrintWords Go.Proofs.YtbdcndkafaajpaaW.PrintLast Go.Proofs.YtbdcndkafaajpaaW.PrintMore
open Go.Proofs.Ytbdcndkafaajpaa.P (Nd EO Res hd isT isM takeM mxl comb mk1 StD VeD EvD Out overLex schemaO valueO)
theorem All2.split {α β : Type} {R : α → β → Prop} : ∀ {l m : List α} {xs : List β}, All2 R (l ++ m) xs → All2 R l (xs.take l.length) ∧ All2 R m (xs.drop l.length)
  | [], m, xs, h => ⟨by rw [show xs.take ([] : List α).length = [] from rfl]; trivial, h⟩
  | a :: l, m, x :: xs, h => by
    obtain ⟨h1, h2⟩ := All2.split (l := l) (m := m) (xs := xs) h.2
    exact ⟨⟨h.1, h1⟩, h2⟩
set_option maxHeartbeats 16000000 in
set_option maxRecDepth 100000 in
theorem joins_calls (w : World) (s t : ByteArray) : Calls Try.prog 7 #[.string s, .string t] w fun e w' => e = .returned (.bool true) ∧ Below w.heap.size w w' := by
  have early : ∀ (b1 b2 : Bool), (b1 || b2) = true → decide ((s.size : Int) > 262144) = b1 → decide ((t.size : Int) > 262144) = b2 → Calls Try.prog 7 #[.string s, .string t] w fun e w' => e = .returned (.bool true) ∧ Below w.heap.size w w' := by
    intro b1 b2 hb d1 d2
    go_enter Try.func7, Try.ntmps7
    go_wp2_with fail
    refine (awake_calls w).mono ?_
    rintro e w1 ⟨rfl, hb1⟩
    have HB1 := Aside0.mk hb1
    clear hb1
    cases b1 with
    | true =>
      go_wp2
      go_ret
      exact ⟨rfl, HB1.out⟩
    | false =>
      cases b2 with
      | true =>
        go_wp2
        go_ret
        exact ⟨rfl, HB1.out⟩
      | false => cases hb
  by_cases hs : s.size ≤ 262144
  · by_cases ht : t.size ≤ 262144
    · clear early
      have d1 : decide ((s.size : Int) > 262144) = false := decide_eq_false (by omega)
      have d2 : decide ((t.size : Int) > 262144) = false := decide_eq_false (by omega)
      have HS := Aside0.mk hs
      have HT := Aside0.mk ht
      clear hs ht
      go_enter Try.func7, Try.ntmps7
      go_wp2_with fail
      refine (awake_calls w).mono ?_
      rintro e w1 ⟨rfl, hb1⟩
      have HB1 := Aside0.mk hb1
      clear hb1
      go_wp2_with fail
      refine (Schema_calls w1 s).mono ?_
      rintro e w2 ⟨⟨Av, nv, cv⟩, l, at_, er, rfl, hrows, hb, hsays⟩
      have HB2 := Aside0.mk (below_step HB1.out hb)
      have HR2 := Aside0.mk hrows
      obtain ⟨W2, hW2⟩ : ∃ W2, W2 = w2.alloc (.cells #[.slice Av nv cv] 27) := ⟨_, rfl⟩
      have hX2 : W2.heap[w2.heap.size]? = some (.cells #[.slice Av nv cv] 27 (0, 0)) := by rw [hW2]; exact blk_new _ _
      have hbw2 : Below w2.heap.size w2 W2 := by rw [hW2]; exact below_alloc (Below.refl _ _) _
      have HBA := Aside0.mk hbw2
      have HBW2 := Aside0.mk (below_step HB2.out hbw2)
      have HX2 := Aside0.mk hX2
      have HSA := Aside0.mk hsays
      clear hrows hb hX2 hsays hbw2
      go_wp2_with fail
      rw [← hW2]
      clear hW2
      refine (Schema_calls W2 t).mono ?_
      rintro e w3 ⟨⟨Bv, nb, cb⟩, l3, at3, er3, rfl, hrows, hb, hsays⟩
      have HB3 := Aside0.mk (below_step HBW2.out hb)
      have HBB := Aside0.mk (below_step HBA.out hb)
      have HR3 := Aside0.mk hrows
      have HX3 := Aside0.mk (blk_below HX2.out hb)
      obtain ⟨W3, hW3⟩ : ∃ W3, W3 = w3.alloc (.cells #[.slice Bv nb cb] 27) := ⟨_, rfl⟩
      have hX3 : W3.heap[w3.heap.size]? = some (.cells #[.slice Bv nb cb] 27 (0, 0)) := by rw [hW3]; exact blk_new _ _
      have hbw3 : Below w3.heap.size w3 W3 := by rw [hW3]; exact below_alloc (Below.refl _ _) _
      have HBC := Aside0.mk hbw3
      have HBW3 := Aside0.mk (below_step HB3.out hbw3)
      have HXA := Aside0.mk (blk_below HX3.out hbw3)
      have HXB := Aside0.mk hX3
      have HSB := Aside0.mk hsays
      have HW3 := Aside0.mk hW3
      clear hrows hb hX3 hsays hbw3 hW3
      cases hx : schemaO s with
      | bad er' p' =>
        have hsa := HSA.out
        rw [hx] at hsa
        obtain ⟨rfl, rfl, hv, hne⟩ := hsa
        have c1 : (er != 0) = true := bne_iff_ne.2 hne
        clear hx hv hne
        go_wp2
        go_ret
        refine ⟨rfl, ?_⟩
        rw [← HW3.out]
        exact HBW3.out
      | ok da =>
        have hsa := HSA.out
        rw [hx] at hsa
        obtain ⟨rfl, rfl, hv1⟩ := hsa
        cases hx3 : schemaO t with
        | bad er' p' =>
          have hsb := HSB.out
          rw [hx3] at hsb
          obtain ⟨rfl, rfl, hv, hne⟩ := hsb
          have c1 : (er3 != 0) = true := bne_iff_ne.2 hne
          clear hx hx3 hv hv1 hne
          go_wp2
          go_ret
          refine ⟨rfl, ?_⟩
          rw [← HW3.out]
          exact HBW3.out
        | ok db =>
          have hsb := HSB.out
          rw [hx3] at hsb
          obtain ⟨rfl, rfl, hv3⟩ := hsb
          obtain ⟨xa, hma, haa⟩ := hv1
          obtain ⟨xb, hmb, hab⟩ := hv3
          have hra := (rdS_of HR2.out hma haa).below (below_step HBB.out HBC.out)
          have hrb := (rdS_of HR3.out hmb hab).below HBC.out
          obtain ⟨dc, hpc, hlen, he1, he2⟩ := joins_plain HS.out HT.out hx hx3
          obtain rfl : nv = da.length := hra.1
          obtain rfl : nb = db.length := hrb.1
          have n1 : ¬9223372036854775807 < s.size + 1 := by have := HS.out; omega
          have n2 : ¬9223372036854775807 < s.size + 1 + t.size := by have := HS.out; have := HT.out; omega
          have HRA := Aside0.mk hra
          have HRB := Aside0.mk hrb
          have HPC := Aside0.mk hpc
          have HLN := Aside0.mk hlen
          have HE1 := Aside0.mk he1
          have HE2 := Aside0.mk he2
          clear hx hx3 hma haa hmb hab hra hrb hpc hlen he1 he2
          go_wp2_with fail
          rw [← HW3.out]
          refine (Schema_calls W3 _).mono ?_
          rintro e w4 ⟨⟨Cv, nc, cc⟩, l4, at4, er4, rfl, hrows, hb, hsays⟩
          rw [HPC.out] at hsays
          obtain ⟨rfl, rfl, xc, hmc, hac⟩ := hsays
          have hrc := rdS_of hrows hmc hac
          have HNC : Aside0 (nc = (da ++ dc).length) := ⟨hrc.1⟩
          obtain ⟨W4, hW4⟩ : ∃ W4, W4 = w4.alloc (.cells #[.slice Cv nc cc] 27) := ⟨_, rfl⟩
          have hX4 : W4.heap[w4.heap.size]? = some (.cells #[.slice Cv nc cc] 27 (0, 0)) := by rw [hW4]; exact blk_new _ _
          have hbw4 : Below w4.heap.size w4 W4 := by rw [hW4]; exact below_alloc (Below.refl _ _) _
          have HB4 := Aside0.mk (below_step (below_step HBW3.out hb) hbw4)
          have HRA4 := Aside0.mk (HRA.out.below (below_step hb hbw4))
          have HRB4 := Aside0.mk (HRB.out.below (below_step hb hbw4))
          have HRC4 := Aside0.mk (hrc.below hbw4)
          have hcap : (da ++ dc).length ≤ cc := by
            have hr : Kd.R kev 57 w4 W3.heap.size (fun _ => True) (.slice Cv nc cc) xc := hrows.holds _ hmc
            obtain ⟨A', c', he, hl, _⟩ := Kd.R_reads hr
            injection he with _ _ he
            rw [hac.len, he]; exact hl
          have HKX : Aside0 (∀ W', Below W4.heap.size W4 W' → W'.cell? ⟨w2.heap.size, 0, none⟩ = some (.slice Av da.length cv) ∧ W'.cell? ⟨w3.heap.size, 0, none⟩ = some (.slice Bv db.length cb) ∧ W'.cell? ⟨w4.heap.size, 0, none⟩ = some (.slice Cv nc cc)) := ⟨fun W' hb' => ⟨(blk_cell (blk_below (blk_below (blk_below HXA.out hb) hbw4) hb') 0).trans rfl, (blk_cell (blk_below (blk_below (blk_below HXB.out hb) hbw4) hb') 0).trans rfl, (blk_cell (blk_below hX4 hb') 0).trans rfl⟩⟩
          obtain ⟨p6, p9, p12⟩ := HKX.out W4 (Below.refl _ _)
          rw [hW4] at p6 p9 p12
          have HW4 := Aside0.mk hW4
          have HCAP := Aside0.mk hcap
          clear hrows hb hmc hac hrc hX4 hbw4 hcap hW4
          have k1 : (da.length : Int) ≤ (nc : Int) := by rw [HNC.out, List.length_append]; omega
          have k2 : (nc : Int) ≤ (cc : Int) := by rw [HNC.out]; have := HCAP.out; omega
          have k3 : (da.length : Int) ≤ (cc : Int) := by omega
          have v1 : wrap64 ((da.length : Int) + (db.length : Int)) = (nc : Int) := by
            have := HRC4.out.2.2
            rw [HNC.out]
            rw [List.length_append, HLN.out] at *
            unfold wrap64; omega
          have v1b : IntKind.i64.wrap ((da.length : Int) + (db.length : Int)) = (nc : Int) := (i64_w _).trans v1
          have v2 : wrap64 ((s.size : Int) + 1) = ((s.size + 1 : Nat) : Int) := by have := HS.out; unfold wrap64; omega
          have v2b : IntKind.i64.wrap ((s.size : Int) + 1) = ((s.size + 1 : Nat) : Int) := (i64_w _).trans v2
          have HEV1 : Aside0 (∀ W', Below W4.heap.size W4 W' → Calls Try.prog 14 #[.slice Av da.length cv, .slice Cv da.length cc, .int .i64 0, .bool true] W' fun e w' => e = .returned (.bool true) ∧ Below W'.heap.size W' w') := ⟨fun W' hb' => by
            obtain ⟨e1, ⟨xa, ca, ra⟩, ma⟩ := HRA4.out.below hb'
            obtain ⟨e2, ⟨xc', cc', rc⟩, mc⟩ := HRC4.out.below hb'
            obtain ⟨ra2, _⟩ := rc.split
            have h := events_calls W' Av Cv cv cc xa (xc'.take da.length) da da 0 true (by rw [← ra.len] at *; exact ca) (Kd.C_take cc' (by rw [← rc.len, List.length_append]; omega)) ra ra2 (by rw [← ra.len]; exact ma)
            rw [HE1.out, ← ra.len, ← ra2.len] at h
            exact h⟩
          obtain ⟨Cw, hCw⟩ : ∃ Cw, (if cc = da.length then Cv else Option.map (fun x => x.add (da.length * 3)) Cv) = Cw := ⟨_, rfl⟩
          have HCW := Aside0.mk hCw
          have HEV2 : Aside0 (∀ W', Below W4.heap.size W4 W' → Calls Try.prog 14 #[.slice Bv db.length cb, .slice Cw (nc - da.length) (cc - da.length), .int .i64 ((s.size : Int) + 1), .bool true] W' fun e w' => e = .returned (.bool true) ∧ Below W'.heap.size W' w') := ⟨fun W' hb' => by
            obtain ⟨e1, ⟨xb, cb', rb⟩, mb⟩ := HRB4.out.below hb'
            obtain ⟨e2, ⟨xc', cc', rc⟩, mc⟩ := HRC4.out.below hb'
            obtain ⟨_, rc2⟩ := rc.split
            have hcl : nc - da.length = (xc'.drop da.length).length := by rw [HNC.out, List.length_append, ← rc2.len]; omega
            have hx : xc'.length ≤ cc := by rw [← rc.len]; exact HCAP.out
            have h := events_calls W' Bv (if cc = da.length then Cv else Option.map (fun x => x.add (da.length * 3)) Cv) cb (cc - da.length) xb (xc'.drop da.length) db dc ((s.size : Int) + 1) true (by rw [← rb.len] at *; exact cb') (Kd.C_drop cc' (by rw [← rc.len, List.length_append]; omega) hx) rb rc2 (by rw [← rb.len]; exact mb)
            have he := HE2.out
            rw [show (((s.size + 1 : Nat)) : Int) = (s.size : Int) + 1 by omega] at he
            rw [he, ← rb.len, ← hcl, HCW.out] at h
            exact h⟩
          go_wp2_with fail
          rw [← HW4.out]
          clear p6 p9 p12
          have hbS := below_drew1 (Below.refl W4.heap.size W4)
          obtain ⟨p6, p9, p12⟩ := HKX.out _ hbS
          go_region_held3 (fun w' => w'.cell? ⟨w2.heap.size, 0, none⟩ = some (.slice Av da.length cv) ∧ w'.cell? ⟨w3.heap.size, 0, none⟩ = some (.slice Bv db.length cb) ∧ w'.cell? ⟨w4.heap.size, 0, none⟩ = some (.slice Cv nc cc) ∧ Below W4.heap.size W4 w') (exact ⟨p6, p9, p12, hbS⟩) (first
            | (go_at_call 14; (first | (with_reducible refine (HEV1.out _ hbS).mono ?_) | (with_reducible refine (HEV2.out _ hbS).mono ?_)); rintro e w5 ⟨rfl, hb⟩; have hbS := below_step hbS hb; obtain ⟨p6, p9, p12⟩ := HKX.out _ hbS; clear hb))
          all_goals
            go_wp2
            go_ret
            exact ⟨rfl, Below.trans HB4.out (hbS.mono HB4.out.size)⟩
    · exact early _ _ (by rw [decide_eq_true (show (t.size : Int) > 262144 by omega), Bool.or_true]) rfl rfl
  · exact early _ _ (by rw [decide_eq_true (show (s.size : Int) > 262144 by omega), Bool.true_or]) rfl rfl
end Go.Proofs.Ytbdcndkafaajpaa.A
end
