/- The texts of the law ParseBlanks, put together by a program of this workplace out of its own texts and of what the kit's print has written: walks of the functions, plain laws. No condition but those in the theorems. -/
import Derived.KernelRfl
import Derived.Test.YtbdcndkafaajpaaBParseBlanks0
import Derived.Test.YtbdcndkafaajpaaBParseBlanks1
import Derived.Test.YtbdcndkafaajpaaBParseBlanks2
import Derived.Test.YtbdcndkafaajpaaBParseBlanks3
import Derived.Test.YtbdcndkafaajpaaBParseBlanks4
section
set_option linter.unusedVariables false
set_option linter.unusedSimpArgs false
namespace Go.Proofs.Ytbdcndkafaajpaa.A
open Go.RowKit Go.Proofs.Ytbdcndkafaajpaa.X Go.Proofs.YtbdcndkafaajpaaW.PrintWords Go.Proofs.YtbdcndkafaajpaaW.PrintLast Go.Proofs.YtbdcndkafaajpaaW.PrintMore
open Go.Proofs.Ytbdcndkafaajpaa.P (Nd EO Res hd isT isM takeM mxl comb mk1 StD VeD EvD Out overLex schemaO valueO)
theorem kve_open {w : World} {x : VeV} {cs : List Value} (h : kve.K w x cs) : cs = veCs x := by
  obtain ⟨_, _, rfl, rfl, ⟨_, _, rfl, rfl, rfl⟩⟩ := h
  exact rfl
theorem kev_open {w : World} {x : EvV} {cs : List Value} (h : kev.K w x cs) : cs = evCs x := by
  obtain ⟨_, _, rfl, rfl, ⟨_, _, rfl, rfl, rfl⟩⟩ := h
  exact rfl
def zV : VeV := ⟨0, ⟨none, 0, 0⟩, 0⟩
def zVD : VeD := ⟨0, [], 0⟩
def zE : EvV := ⟨⟨#[]⟩, ⟨none, 0, 0⟩, 0⟩
def zED : EvD := ⟨⟨#[]⟩, [], 0⟩
theorem at_V {w : World} {A : Option Addr} {n : Nat} {xs : List VeV} {ds : List VeD} (h : Kd.C kve w A n xs) (hr : All2 (RdV w) ds xs) (i : Nat) (h1 : i < n) (h2 : i < ds.length) : ∃ ad va vc, A = some ad ∧ (∀ w' : World, Below w.heap.size w w' → w'.cell? (ad.add (i * 3)) = some (.int .u64 (ds.getD i zVD).num) ∧ w'.cell? ⟨(ad.add (i * 3)).block, (ad.add (i * 3)).off + 1, none⟩ = some (.slice va (ds.getD i zVD).steps.length vc) ∧ w'.cell? ⟨(ad.add (i * 3)).block, (ad.add (i * 3)).off + 2, none⟩ = some (.int .i64 (ds.getD i zVD).pl)) ∧ (∃ xs, Kd.C kst w va xs.length xs ∧ All2 (RdN w) (ds.getD i zVD).steps xs) ∧ (ds.getD i zVD).steps.length ≤ 9223372036854775807 := by
  have hR := All2.get zVD zV i hr h2
  have hA : ∃ ad, A = some ad := by
    obtain ⟨ad, c, e, _⟩ := Kd.C_get h zV (i : Int) (by omega) (by omega)
    exact ⟨ad, e⟩
  obtain ⟨ad, e⟩ := hA
  refine ⟨ad, (xs.getD i zV).steps.A, (xs.getD i zV).steps.c, e, fun w' hb => ?_, hR.v, hR.mx⟩
  obtain ⟨ad', c, e', _, hK, hc0⟩ := Kd.C_get (Kd.C_below h hb) zV (i : Int) (by omega) (by omega)
  rw [e] at e'
  injection e' with e'
  subst e'
  rw [Int.toNat_natCast] at hK hc0
  have hc : ∀ j u, c[j]? = some u → w'.cell? (ad.add (i * 3 + j)) = some u := hc0
  obtain rfl := kve_open hK
  obtain ⟨q0, q1, q2, _, _⟩ := hR
  rw [← q0, ← q1, ← q2]
  exact ⟨hc 0 _ rfl, by rw [← add_field _ _ 1 (by omega)]; exact hc 1 _ rfl, by rw [← add_field _ _ 2 (by omega)]; exact hc 2 _ rfl⟩
theorem at_E {w : World} {A : Option Addr} {n : Nat} {xs : List EvV} {ds : List EvD} (h : Kd.C kev w A n xs) (hr : All2 (RdE w) ds xs) (i : Nat) (h1 : i < n) (h2 : i < ds.length) : ∃ ad va vc, A = some ad ∧ (∀ w' : World, Below w.heap.size w w' → w'.cell? (ad.add (i * 3)) = some (.string (ds.getD i zED).name) ∧ w'.cell? ⟨(ad.add (i * 3)).block, (ad.add (i * 3)).off + 1, none⟩ = some (.slice va (ds.getD i zED).vers.length vc) ∧ w'.cell? ⟨(ad.add (i * 3)).block, (ad.add (i * 3)).off + 2, none⟩ = some (.int .i64 (ds.getD i zED).pl)) ∧ (∃ xs, Kd.C kve w va xs.length xs ∧ All2 (RdV w) (ds.getD i zED).vers xs) ∧ (ds.getD i zED).vers.length ≤ 9223372036854775807 := by
  have hR := All2.get zED zE i hr h2
  have hA : ∃ ad, A = some ad := by
    obtain ⟨ad, c, e, _⟩ := Kd.C_get h zE (i : Int) (by omega) (by omega)
    exact ⟨ad, e⟩
  obtain ⟨ad, e⟩ := hA
  refine ⟨ad, (xs.getD i zE).vers.A, (xs.getD i zE).vers.c, e, fun w' hb => ?_, hR.v, hR.mx⟩
  obtain ⟨ad', c, e', _, hK, hc0⟩ := Kd.C_get (Kd.C_below h hb) zE (i : Int) (by omega) (by omega)
  rw [e] at e'
  injection e' with e'
  subst e'
  rw [Int.toNat_natCast] at hK hc0
  have hc : ∀ j u, c[j]? = some u → w'.cell? (ad.add (i * 3 + j)) = some u := hc0
  obtain rfl := kev_open hK
  obtain ⟨q0, q1, q2, _, _⟩ := hR
  rw [← q0, ← q1, ← q2]
  exact ⟨hc 0 _ rfl, by rw [← add_field _ _ 1 (by omega)]; exact hc 1 _ rfl, by rw [← add_field _ _ 2 (by omega)]; exact hc 2 _ rfl⟩
theorem veBox {W : World} {b : Nat} {v0 v1 v2 : Value} (h : W.heap[b]? = some (.cells #[v0, v1, v2] 60 (0, 0))) : W.cell? ⟨b, 0, none⟩ = some v0 ∧ W.cell? ⟨b, 1, none⟩ = some v1 ∧ W.cell? ⟨b, 2, none⟩ = some v2 := ⟨(blk_cell h 0).trans rfl, (blk_cell h 1).trans rfl, (blk_cell h 2).trans rfl⟩
set_option maxHeartbeats 16000000 in
set_option maxRecDepth 100000 in
theorem events_calls (w : World) (A1 A2 : Option Addr) (c1 c2 : Nat) (xs ys : List EvV) (ds es : List EvD) (more : Int) (pl : Bool) (h1 : Kd.C kev w A1 xs.length xs) (h2 : Kd.C kev w A2 ys.length ys) (r1 : All2 (RdE w) ds xs) (r2 : All2 (RdE w) es ys) (hx : xs.length ≤ 9223372036854775807) :
    Calls Try.prog 14 #[.slice A1 xs.length c1, .slice A2 ys.length c2, .int .i64 more, .bool pl] w fun e w' => e = .returned (.bool (eventsB more pl ds es)) ∧ Below w.heap.size w w' := by
  have H1 := Aside0.mk h1
  have H2 := Aside0.mk h2
  have R1 := Aside0.mk r1
  have R2 := Aside0.mk r2
  have L1 := Aside0.mk r1.len
  have L2 := Aside0.mk r2.len
  have HX := Aside0.mk hx
  clear h1 h2 r1 r2 hx
  by_cases hl : xs.length = ys.length
  · have d0 : ((xs.length : Int) != (ys.length : Int)) = false := by rw [hl]; simp
    have HLE := Aside0.mk hl
    clear hl
    go_enter Try.func14, Try.ntmps14
    go_wp2_with fail
    go_loopw [9] (fun ti wr => ∃ i : Nat, ti = .int .i64 (i : Int) ∧ Aside0 (i ≤ xs.length) ∧ Aside0 (allB (evB more pl) (ds.drop i) (es.drop i) = eventsB more pl ds es) ∧ Aside0 (Below w.heap.size w wr)) (fun ti _ => xs.length - left ti)
    case atStart => exact ⟨0, rfl, ⟨Nat.zero_le _⟩, ⟨rfl⟩, ⟨Below.refl _ _⟩⟩
    case round =>
      obtain ⟨i, rfl, hi, he, hb⟩ := hrel
      obtain ⟨wo, hwo⟩ : ∃ wo, wo = wr := ⟨_, rfl⟩
      subst hwo
      by_cases hlt : i < xs.length
      · have dl : ((i : Int) < (xs.length : Int)) := by omega
        have dl2 : decide ((i : Int) < (xs.length : Int)) = true := decide_eq_true dl
        have hi2 : (i : Int) < (ys.length : Int) := by rw [← HLE.out]; exact dl
        have i1 : i < ds.length := by rw [L1.out]; exact hlt
        have i2 : i < es.length := by rw [L2.out, ← HLE.out]; exact hlt
        obtain ⟨ad1, va1, vc1, hA1, K1, ⟨vs1, N1, M1⟩, X1⟩ := at_E H1.out R1.out i hlt i1
        obtain ⟨ad2, va2, vc2, hA2, K2, ⟨vs2, N2, M2⟩, X2⟩ := at_E H2.out R2.out i (by rw [← HLE.out]; exact hlt) i2
        subst hA1 hA2
        have hst := he.out
        rw [allB_step (evB more pl) zED i ds es i1 i2] at hst
        obtain ⟨D, hD⟩ : ∃ D, D = ds.getD i zED := ⟨_, rfl⟩
        obtain ⟨E, hE⟩ : ∃ E, E = es.getD i zED := ⟨_, rfl⟩
        rw [← hD] at K1 M1 X1 hst
        rw [← hE] at K2 M2 X2 hst
        obtain ⟨x0, x1, x2⟩ := K1 wo hb.out
        obtain ⟨y0, y1, y2⟩ := K2 wo hb.out
        have hnx := nextN i xs.length HX.out hlt
        have hls := lessN i xs.length HX.out hlt
        have HST := Aside0.mk hst
        have HLT := Aside0.mk hlt
        have HNX := Aside0.mk hnx
        have HLS := Aside0.mk hls
        have HK1 := Aside0.mk K1
        have HK2 := Aside0.mk K2
        have HN1 := Aside0.mk N1
        have HN2 := Aside0.mk N2
        have HM1 := Aside0.mk M1
        have HM2 := Aside0.mk M2
        have HX1 := Aside0.mk X1
        clear hst hlt hnx hls K1 K2 N1 N2 M1 M2 X1 X2 i1 i2 hD hE
        have FIN0 : Aside0 (∀ w' : World, Below w.heap.size w w' → evB more pl D E = false → (Ending.returned (.bool false) : Ending) = .returned (.bool (eventsB more pl ds es)) ∧ Below w.heap.size w w') := ⟨fun w' hb' hq => ⟨by rw [← HST.out, hq, Bool.false_and], hb'⟩⟩
        obtain ⟨t0, e0⟩ : ∃ t0, t0 = (D.name.toList == E.name.toList) := ⟨_, rfl⟩
        have HE0 := Aside0.mk e0.symm
        have g0 := e0.symm
        clear e0
        cases t0 with
        | false =>
          go_wp2_with fail
          go_quiet (fail)
          go_wp2
          go_ret
          exact FIN0.out _ (pw_below_drewN hb.out _) (by unfold evB; simp only [HE0.out, Bool.false_and])
        | true =>
          by_cases hle : D.vers.length = E.vers.length
          · have dle : ((D.vers.length : Int) != (E.vers.length : Int)) = false := by rw [hle]; simp
            have HLV := Aside0.mk hle
            clear hle
            cases pl with
            | true =>
              obtain ⟨t6, e6⟩ : ∃ t6, t6 = (wrap64 (D.pl + more) == E.pl) := ⟨_, rfl⟩
              have HE6 := Aside0.mk e6.symm
              cases t6 with
              | false =>
                have d6 : (wrap64 (D.pl + more) != E.pl) = true := by unfold bne; rw [← e6]; rfl
                clear e6
                go_wp2_with fail
                go_quiet (fail)
                go_wp2
                go_ret
                exact FIN0.out _ (pw_below_drewN hb.out _) (by unfold evB; simp only [HE6.out, Bool.not_true, Bool.or_false, Bool.false_and, Bool.and_false])
              | true =>
                have d6 : (wrap64 (D.pl + more) != E.pl) = false := by unfold bne; rw [← e6]; rfl
                clear e6
                go_wp2_with fail
                go_quiet (fail)
                go_wp2_with fail
                go_loopw [10] (fun tj wr => ∃ j : Nat, tj = .int .i64 (j : Int) ∧ Aside0 (j ≤ D.vers.length) ∧ Aside0 (allB (verB more true) (D.vers.drop j) (E.vers.drop j) = allB (verB more true) D.vers E.vers) ∧ Aside0 (Below w.heap.size w wr)) (fun tj _ => D.vers.length - left tj)
                case atStart => exact ⟨0, rfl, ⟨Nat.zero_le _⟩, ⟨rfl⟩, ⟨pw_below_drewN hb.out _⟩⟩
                case round =>
                  obtain ⟨j, rfl, hj, hve, hbj⟩ := hrel
                  obtain ⟨x0, x1, x2⟩ := HK1.out wr hbj.out
                  obtain ⟨y0, y1, y2⟩ := HK2.out wr hbj.out
                  by_cases hjl : j < D.vers.length
                  · have dj : ((j : Int) < (D.vers.length : Int)) := by omega
                    have dj2 : decide ((j : Int) < (D.vers.length : Int)) = true := decide_eq_true dj
                    have hj2 : (j : Int) < (E.vers.length : Int) := by rw [← HLV.out]; exact dj
                    obtain ⟨bd1, ua1, uc1, hB1, Q1, ⟨ss1, P1, S1⟩, Y1⟩ := at_V HN1.out HM1.out j (by rw [← HM1.out.len]; exact hjl) hjl
                    obtain ⟨bd2, ua2, uc2, hB2, Q2, ⟨ss2, P2, S2⟩, Y2⟩ := at_V HN2.out HM2.out j (by rw [← HM2.out.len, ← HLV.out]; exact hjl) (by rw [← HLV.out]; exact hjl)
                    subst hB1 hB2
                    have hvs := hve.out
                    rw [allB_step (verB more true) zVD j D.vers E.vers hjl (by rw [← HLV.out]; exact hjl)] at hvs
                    obtain ⟨G, hG⟩ : ∃ G, G = D.vers.getD j zVD := ⟨_, rfl⟩
                    obtain ⟨H, hH⟩ : ∃ H, H = E.vers.getD j zVD := ⟨_, rfl⟩
                    rw [← hG] at Q1 S1 Y1 hvs
                    rw [← hH] at Q2 S2 Y2 hvs
                    obtain ⟨W1, hW1⟩ : ∃ W1, W1 = wr.alloc (.cells #[.int .u64 G.num, .slice ua1 G.steps.length uc1, .int .i64 G.pl] 60) := ⟨_, rfl⟩
                    obtain ⟨W2, hW2⟩ : ∃ W2, W2 = W1.alloc (.cells #[.int .u64 H.num, .slice ua2 H.steps.length uc2, .int .i64 H.pl] 60) := ⟨_, rfl⟩
                    have hb1 : Below wr.heap.size wr W1 := by rw [hW1]; exact below_alloc (Below.refl _ _) _
                    have hb2 : Below W1.heap.size W1 W2 := by rw [hW2]; exact below_alloc (Below.refl _ _) _
                    have hX1 : W1.heap[wr.heap.size]? = some (.cells #[.int .u64 G.num, .slice ua1 G.steps.length uc1, .int .i64 G.pl] 60 (0, 0)) := by rw [hW1]; exact blk_new _ _
                    have hX2 : W2.heap[W1.heap.size]? = some (.cells #[.int .u64 H.num, .slice ua2 H.steps.length uc2, .int .i64 H.pl] 60 (0, 0)) := by rw [hW2]; exact blk_new _ _
                    have hs1 : W1.heap.size = wr.heap.size + 1 := by rw [hW1]; exact Array.size_push _
                    obtain ⟨u0, u1, u2⟩ := Q1 wr hbj.out
                    obtain ⟨v0, v1, v2⟩ := Q2 W1 (below_step hbj.out hb1)
                    obtain ⟨yy0, yy1, yy2⟩ := HK2.out W1 (below_step hbj.out hb1)
                    obtain ⟨p0, p1, p2⟩ := veBox (blk_below hX1 hb2)
                    obtain ⟨q0, q1, q2⟩ := veBox hX2
                    have hB := below_step (below_step hbj.out hb1) hb2
                    have hsc := steps_calls W2 ua1 ua2 uc1 uc2 ss1 ss2 G.steps H.steps more true (Kd.C_below P1 hB) (Kd.C_below P2 hB) (S1.imp (fun _ _ h => h.below hB)) (S2.imp (fun _ _ h => h.below hB)) (by rw [← S1.len]; exact Y1)
                    rw [← S1.len, ← S2.len] at hsc
                    have HSC := Aside0.mk hsc
                    have hnj := nextN j D.vers.length HX1.out hjl
                    have hlj := lessN j D.vers.length HX1.out hjl
                    have HVS := Aside0.mk hvs
                    have HJL := Aside0.mk hjl
                    have HNJ := Aside0.mk hnj
                    have HLJ := Aside0.mk hlj
                    have HBW := Aside0.mk hB
                    have HW2 := Aside0.mk (show W2 = (wr.alloc (.cells #[.int .u64 G.num, .slice ua1 G.steps.length uc1, .int .i64 G.pl] 60)).alloc (.cells #[.int .u64 H.num, .slice ua2 H.steps.length uc2, .int .i64 H.pl] 60) from by rw [hW2, hW1])
                    rw [hs1] at q0 q1 q2
                    rw [hW2] at p0 p1 p2 q0 q1 q2
                    rw [hW1] at p0 p1 p2 q0 q1 q2 v0 v1 v2 yy0 yy1 yy2
                    clear hvs hjl hnj hlj hW1 hW2 hb1 hb2 hX1 hX2 hs1 Q1 Q2 P1 P2 S1 S2 Y1 Y2 hB hsc hG hH
                    have FINV : Aside0 (verB more true G H = false → evB more true D E = false) := ⟨fun hq => by
                      unfold evB
                      rw [← HVS.out, hq, Bool.false_and, Bool.and_false, Bool.and_false, Bool.and_false]⟩
                    obtain ⟨s0, f0⟩ : ∃ s0, s0 = (G.num == H.num) := ⟨_, rfl⟩
                    have HF0 := Aside0.mk f0.symm
                    cases s0 with
                    | false =>
                      have d7 : (G.num != H.num) = true := by unfold bne; rw [← f0]; rfl
                      clear f0
                      go_wp2_with fail
                      go_ret
                      exact FIN0.out _ (by rw [← HW2.out]; exact HBW.out) (FINV.out (by unfold verB; simp only [HF0.out, Bool.false_and]))
                    | true =>
                      have d7 : (G.num != H.num) = false := by unfold bne; rw [← f0]; rfl
                      clear f0
                      obtain ⟨s1, f1⟩ : ∃ s1, s1 = (wrap64 (G.pl + more) == H.pl) := ⟨_, rfl⟩
                      have HF1 := Aside0.mk f1.symm
                      cases s1 with
                      | false =>
                        have d8 : (wrap64 (G.pl + more) != H.pl) = true := by unfold bne; rw [← f1]; rfl
                        clear f1
                        go_wp2_with fail
                        go_ret
                        exact FIN0.out _ (by rw [← HW2.out]; exact HBW.out) (FINV.out (by unfold verB; simp only [HF1.out, Bool.not_true, Bool.or_false, Bool.false_and, Bool.and_false]))
                      | true =>
                        have d8 : (wrap64 (G.pl + more) != H.pl) = false := by unfold bne; rw [← f1]; rfl
                        clear f1
                        go_wp2_with fail
                        rw [← HW2.out]
                        refine HSC.out.mono ?_
                        rintro e w7 ⟨rfl, hb7⟩
                        have HB7 := Aside0.mk (below_step HBW.out hb7)
                        clear hb7
                        obtain ⟨tn, en⟩ : ∃ tn, tn = stepsB more true G.steps H.steps := ⟨_, rfl⟩
                        rw [← en]
                        have HEN := Aside0.mk en.symm
                        clear en
                        cases tn with
                        | false =>
                          go_wp2
                          go_ret
                          exact FIN0.out _ HB7.out (FINV.out (by unfold verB; simp only [HEN.out, Bool.and_false]))
                        | true =>
                          go_wp2
                          rw [HNJ.out]
                          go_roundw
                          case measure => have := HLJ.out; have := HJL.out; simp only [left, Int.toNat_natCast]; omega
                          case rel =>
                            refine ⟨j + 1, rfl, ⟨HJL.out⟩, ⟨?_⟩, ⟨HB7.out⟩⟩
                            rw [← HVS.out]
                            have : verB more true G H = true := by unfold verB; simp only [HF0.out, HF1.out, HEN.out, Bool.and_true, Bool.true_and, Bool.not_true, Bool.not_false, Bool.or_true, Bool.true_or, Bool.false_or]
                            rw [this, Bool.true_and]
                  · have dj2 : decide ((j : Int) < (D.vers.length : Int)) = false := decide_eq_false (by omega)
                    have hje : j = D.vers.length := by have := hj.out; omega
                    have hv' := hve.out
                    rw [hje, List.drop_length, HLV.out, List.drop_length] at hv'
                    have HVE : Aside0 (allB (verB more true) D.vers E.vers = true) := ⟨hv'.symm⟩
                    clear hv' hje
                    go_wp2
                    rw [HNX.out]
                    go_roundw
                    case measure => have := HLS.out; have := HLT.out; simp only [left, Int.toNat_natCast]; omega
                    case rel =>
                      refine ⟨i + 1, rfl, ⟨HLT.out⟩, ⟨?_⟩, ⟨hbj.out⟩⟩
                      rw [← HST.out]
                      have : evB more true D E = true := by unfold evB; simp only [HE0.out, HE6.out, HLV.out, HVE.out, beq_self_eq_true, Bool.and_true, Bool.true_and, Bool.not_true, Bool.not_false, Bool.or_true, Bool.true_or, Bool.false_or]
                      rw [this, Bool.true_and]
            | false =>
              go_wp2_with fail
              go_quiet (fail)
              go_wp2_with fail
              go_loopw [10] (fun tj wr => ∃ j : Nat, tj = .int .i64 (j : Int) ∧ Aside0 (j ≤ D.vers.length) ∧ Aside0 (allB (verB more false) (D.vers.drop j) (E.vers.drop j) = allB (verB more false) D.vers E.vers) ∧ Aside0 (Below w.heap.size w wr)) (fun tj _ => D.vers.length - left tj)
              case atStart => exact ⟨0, rfl, ⟨Nat.zero_le _⟩, ⟨rfl⟩, ⟨pw_below_drewN hb.out _⟩⟩
              case round =>
                obtain ⟨j, rfl, hj, hve, hbj⟩ := hrel
                obtain ⟨x0, x1, x2⟩ := HK1.out wr hbj.out
                obtain ⟨y0, y1, y2⟩ := HK2.out wr hbj.out
                by_cases hjl : j < D.vers.length
                · have dj : ((j : Int) < (D.vers.length : Int)) := by omega
                  have dj2 : decide ((j : Int) < (D.vers.length : Int)) = true := decide_eq_true dj
                  have hj2 : (j : Int) < (E.vers.length : Int) := by rw [← HLV.out]; exact dj
                  obtain ⟨bd1, ua1, uc1, hB1, Q1, ⟨ss1, P1, S1⟩, Y1⟩ := at_V HN1.out HM1.out j (by rw [← HM1.out.len]; exact hjl) hjl
                  obtain ⟨bd2, ua2, uc2, hB2, Q2, ⟨ss2, P2, S2⟩, Y2⟩ := at_V HN2.out HM2.out j (by rw [← HM2.out.len, ← HLV.out]; exact hjl) (by rw [← HLV.out]; exact hjl)
                  subst hB1 hB2
                  have hvs := hve.out
                  rw [allB_step (verB more false) zVD j D.vers E.vers hjl (by rw [← HLV.out]; exact hjl)] at hvs
                  obtain ⟨G, hG⟩ : ∃ G, G = D.vers.getD j zVD := ⟨_, rfl⟩
                  obtain ⟨H, hH⟩ : ∃ H, H = E.vers.getD j zVD := ⟨_, rfl⟩
                  rw [← hG] at Q1 S1 Y1 hvs
                  rw [← hH] at Q2 S2 Y2 hvs
                  obtain ⟨W1, hW1⟩ : ∃ W1, W1 = wr.alloc (.cells #[.int .u64 G.num, .slice ua1 G.steps.length uc1, .int .i64 G.pl] 60) := ⟨_, rfl⟩
                  obtain ⟨W2, hW2⟩ : ∃ W2, W2 = W1.alloc (.cells #[.int .u64 H.num, .slice ua2 H.steps.length uc2, .int .i64 H.pl] 60) := ⟨_, rfl⟩
                  have hb1 : Below wr.heap.size wr W1 := by rw [hW1]; exact below_alloc (Below.refl _ _) _
                  have hb2 : Below W1.heap.size W1 W2 := by rw [hW2]; exact below_alloc (Below.refl _ _) _
                  have hX1 : W1.heap[wr.heap.size]? = some (.cells #[.int .u64 G.num, .slice ua1 G.steps.length uc1, .int .i64 G.pl] 60 (0, 0)) := by rw [hW1]; exact blk_new _ _
                  have hX2 : W2.heap[W1.heap.size]? = some (.cells #[.int .u64 H.num, .slice ua2 H.steps.length uc2, .int .i64 H.pl] 60 (0, 0)) := by rw [hW2]; exact blk_new _ _
                  have hs1 : W1.heap.size = wr.heap.size + 1 := by rw [hW1]; exact Array.size_push _
                  obtain ⟨u0, u1, u2⟩ := Q1 wr hbj.out
                  obtain ⟨v0, v1, v2⟩ := Q2 W1 (below_step hbj.out hb1)
                  obtain ⟨yy0, yy1, yy2⟩ := HK2.out W1 (below_step hbj.out hb1)
                  obtain ⟨p0, p1, p2⟩ := veBox (blk_below hX1 hb2)
                  obtain ⟨q0, q1, q2⟩ := veBox hX2
                  have hB := below_step (below_step hbj.out hb1) hb2
                  have hsc := steps_calls W2 ua1 ua2 uc1 uc2 ss1 ss2 G.steps H.steps more false (Kd.C_below P1 hB) (Kd.C_below P2 hB) (S1.imp (fun _ _ h => h.below hB)) (S2.imp (fun _ _ h => h.below hB)) (by rw [← S1.len]; exact Y1)
                  rw [← S1.len, ← S2.len] at hsc
                  have HSC := Aside0.mk hsc
                  have hnj := nextN j D.vers.length HX1.out hjl
                  have hlj := lessN j D.vers.length HX1.out hjl
                  have HVS := Aside0.mk hvs
                  have HJL := Aside0.mk hjl
                  have HNJ := Aside0.mk hnj
                  have HLJ := Aside0.mk hlj
                  have HBW := Aside0.mk hB
                  have HW2 := Aside0.mk (show W2 = (wr.alloc (.cells #[.int .u64 G.num, .slice ua1 G.steps.length uc1, .int .i64 G.pl] 60)).alloc (.cells #[.int .u64 H.num, .slice ua2 H.steps.length uc2, .int .i64 H.pl] 60) from by rw [hW2, hW1])
                  rw [hs1] at q0 q1 q2
                  rw [hW2] at p0 p1 p2 q0 q1 q2
                  rw [hW1] at p0 p1 p2 q0 q1 q2 v0 v1 v2 yy0 yy1 yy2
                  clear hvs hjl hnj hlj hW1 hW2 hb1 hb2 hX1 hX2 hs1 Q1 Q2 P1 P2 S1 S2 Y1 Y2 hB hsc hG hH
                  have FINV : Aside0 (verB more false G H = false → evB more false D E = false) := ⟨fun hq => by
                    unfold evB
                    rw [← HVS.out, hq, Bool.false_and, Bool.and_false, Bool.and_false, Bool.and_false]⟩
                  obtain ⟨s0, f0⟩ : ∃ s0, s0 = (G.num == H.num) := ⟨_, rfl⟩
                  have HF0 := Aside0.mk f0.symm
                  cases s0 with
                  | false =>
                    have d7 : (G.num != H.num) = true := by unfold bne; rw [← f0]; rfl
                    clear f0
                    go_wp2_with fail
                    go_ret
                    exact FIN0.out _ (by rw [← HW2.out]; exact HBW.out) (FINV.out (by unfold verB; simp only [HF0.out, Bool.false_and]))
                  | true =>
                    have d7 : (G.num != H.num) = false := by unfold bne; rw [← f0]; rfl
                    clear f0
                    go_wp2_with fail
                    rw [← HW2.out]
                    refine HSC.out.mono ?_
                    rintro e w7 ⟨rfl, hb7⟩
                    have HB7 := Aside0.mk (below_step HBW.out hb7)
                    clear hb7
                    obtain ⟨tn, en⟩ : ∃ tn, tn = stepsB more false G.steps H.steps := ⟨_, rfl⟩
                    rw [← en]
                    have HEN := Aside0.mk en.symm
                    clear en
                    cases tn with
                    | false =>
                      go_wp2
                      go_ret
                      exact FIN0.out _ HB7.out (FINV.out (by unfold verB; simp only [HEN.out, Bool.and_false]))
                    | true =>
                      go_wp2
                      rw [HNJ.out]
                      go_roundw
                      case measure => have := HLJ.out; have := HJL.out; simp only [left, Int.toNat_natCast]; omega
                      case rel =>
                        refine ⟨j + 1, rfl, ⟨HJL.out⟩, ⟨?_⟩, ⟨HB7.out⟩⟩
                        rw [← HVS.out]
                        have : verB more false G H = true := by unfold verB; simp only [HF0.out, HEN.out, Bool.and_true, Bool.true_and, Bool.not_true, Bool.not_false, Bool.or_true, Bool.true_or, Bool.false_or]
                        rw [this, Bool.true_and]
                · have dj2 : decide ((j : Int) < (D.vers.length : Int)) = false := decide_eq_false (by omega)
                  have hje : j = D.vers.length := by have := hj.out; omega
                  have hv' := hve.out
                  rw [hje, List.drop_length, HLV.out, List.drop_length] at hv'
                  have HVE : Aside0 (allB (verB more false) D.vers E.vers = true) := ⟨hv'.symm⟩
                  clear hv' hje
                  go_wp2
                  rw [HNX.out]
                  go_roundw
                  case measure => have := HLS.out; have := HLT.out; simp only [left, Int.toNat_natCast]; omega
                  case rel =>
                    refine ⟨i + 1, rfl, ⟨HLT.out⟩, ⟨?_⟩, ⟨hbj.out⟩⟩
                    rw [← HST.out]
                    have : evB more false D E = true := by unfold evB; simp only [HE0.out, HLV.out, HVE.out, beq_self_eq_true, Bool.and_true, Bool.true_and, Bool.not_true, Bool.not_false, Bool.or_true, Bool.true_or, Bool.false_or]
                    rw [this, Bool.true_and]
          · have dle : ((D.vers.length : Int) != (E.vers.length : Int)) = true := bne_iff_ne.2 (by omega)
            have HLV : Aside0 ((D.vers.length == E.vers.length) = false) := ⟨beq_eq_false_iff_ne.2 hle⟩
            clear hle
            go_wp2_with fail
            go_quiet (fail)
            go_wp2
            go_ret
            exact FIN0.out _ (pw_below_drewN hb.out _) (by unfold evB; simp only [HLV.out, Bool.false_and, Bool.and_false])
      · have dl2 : decide ((i : Int) < (xs.length : Int)) = false := decide_eq_false (by omega)
        have hie : i = xs.length := by have := hi.out; omega
        have he' := he.out
        have l3 : xs.length = es.length := by rw [L2.out]; exact HLE.out
        rw [hie, ← L1.out, List.drop_length, L1.out, l3, List.drop_length] at he'
        have HE := Aside0.mk he'
        clear he' hie l3
        go_wp2
        go_ret
        exact ⟨by rw [← HE.out]; rfl, hb.out⟩
  · have d0 : ((xs.length : Int) != (ys.length : Int)) = true := bne_iff_ne.2 (by omega)
    have HF := Aside0.mk (allB_len (evB more pl) ds es (by rw [L1.out, L2.out]; exact hl))
    clear hl
    go_enter Try.func14, Try.ntmps14
    go_wp2
    go_ret
    exact ⟨by unfold eventsB; rw [HF.out]; rfl, Below.refl _ _⟩
end Go.Proofs.Ytbdcndkafaajpaa.A
end
section
set_option linter.unusedVariables false
set_option linter.unusedSimpArgs false
namespace Go.Proofs.Ytbdcndkafaajpaa.A
open Go.RowKit Go.Proofs.Ytbdcndkafaajpaa.X Go.Proofs.Ytbdcndkafaajpaa.L Go.Proofs.Ytbdcndkafaajpaa.T Go.Proofs.YtbdcndkafaajpaaW.PrintWords Go.Proofs.YtbdcndkafaajpaaW.PrintLast Go.Proofs.YtbdcndkafaajpaaW.PrintMore
open Go.Proofs.Ytbdcndkafaajpaa.P (Nd EO Res hd isT isM takeM mxl comb mk1 StD VeD EvD Out overLex schemaO valueO)
theorem over_of {α : Type} (f : List Tk → Res α) {s : ByteArray} {k : Nat} {ts : List Tk} (h : lex_Lex.f k s = some (ts, 0, 0)) : overLex f s = P.outO (f ts) := by
  obtain ⟨K1, h1⟩ := Ev.of (g := fun k => lex_Lex.f k s) (fun k => lex_Lex.mono s k) h
  obtain ⟨K2, h2⟩ := lexes_ev s
  have e := (h1 (max K1 K2) (by omega)).symm.trans (h2 (max K1 K2) (by omega))
  injection e with e
  unfold overLex
  cases hx : L.Lex s.data.toList with
  | toks l =>
    rw [hx] at e
    have : ts = l.map toS := by
      have := congrArg Prod.fst e
      simpa [outL] using this
    rw [this]
  | bad a er =>
    rw [hx] at e
    have h0 : (0 : Int) = (er : Int) := by
      have := congrArg (fun x => x.2.2) e
      simpa [outL] using this
    exfalso
    rcases Lex_bad hx with ⟨_, _, h⟩ | ⟨_, _, _, h⟩ <;> omega
def aw1 : ByteArray := ⟨#[101, 118, 101, 110, 116, 32, 97, 123, 118, 101, 114, 115, 105, 111, 110, 32, 49, 123, 97, 100, 100, 32, 120, 58, 117, 105, 110, 116, 59, 125, 125]⟩
def aw2 : ByteArray := ⟨#[49, 45, 50]⟩
def aw3 : ByteArray := ⟨#[40, 49]⟩
theorem aw2_out : valueO aw2 = .ok [⟨1, 0, 1, ⟨#[]⟩, 0⟩, ⟨1, 0, 2, ⟨#[]⟩, 2⟩, ⟨7, 0, 0, ⟨#[]⟩, 1⟩] :=
  (over_of P.valueW (s := aw2) (k := 40) (ts := [⟨2, ⟨#[]⟩, 1, 0, 1⟩, ⟨4, ⟨#[45]⟩, 0, 1, 2⟩, ⟨2, ⟨#[]⟩, 2, 2, 3⟩, ⟨0, ⟨#[]⟩, 0, 3, 3⟩]) (by kernel_rfl)).trans (by kernel_rfl)
theorem aw3_out : valueO aw3 = .bad 90 2 :=
  (over_of P.valueW (s := aw3) (k := 40) (ts := [⟨4, ⟨#[40]⟩, 0, 0, 1⟩, ⟨2, ⟨#[]⟩, 1, 1, 2⟩, ⟨0, ⟨#[]⟩, 0, 2, 2⟩]) (by kernel_rfl)).trans (by kernel_rfl)
def aw1S : StD := ⟨1, ⟨#[120]⟩, ⟨#[]⟩, ⟨#[]⟩, ⟨#[]⟩, ⟨#[117, 105, 110, 116]⟩, [], 18⟩
theorem aw1_out : schemaO aw1 = .ok [⟨⟨#[97]⟩, [⟨1, [aw1S], 8⟩], 0⟩] :=
  (over_of P.schemaW (s := aw1) (k := 60) (ts := [⟨1, ⟨#[101, 118, 101, 110, 116]⟩, 0, 0, 5⟩, ⟨1, ⟨#[97]⟩, 0, 6, 7⟩, ⟨4, ⟨#[123]⟩, 0, 7, 8⟩, ⟨1, ⟨#[118, 101, 114, 115, 105, 111, 110]⟩, 0, 8, 15⟩, ⟨2, ⟨#[]⟩, 1, 16, 17⟩, ⟨4, ⟨#[123]⟩, 0, 17, 18⟩, ⟨1, ⟨#[97, 100, 100]⟩, 0, 18, 21⟩, ⟨1, ⟨#[120]⟩, 0, 22, 23⟩, ⟨4, ⟨#[58]⟩, 0, 23, 24⟩, ⟨1, ⟨#[117, 105, 110, 116]⟩, 0, 24, 28⟩, ⟨4, ⟨#[59]⟩, 0, 28, 29⟩, ⟨4, ⟨#[125]⟩, 0, 29, 30⟩, ⟨4, ⟨#[125]⟩, 0, 30, 31⟩, ⟨0, ⟨#[]⟩, 0, 31, 31⟩]) (by kernel_rfl)).trans (by kernel_rfl)
end Go.Proofs.Ytbdcndkafaajpaa.A
end
section
set_option linter.unusedVariables false
set_option linter.unusedSimpArgs false
namespace Go.Proofs.Ytbdcndkafaajpaa.A
open Go.RowKit Go.Proofs.Ytbdcndkafaajpaa.X Go.Proofs.YtbdcndkafaajpaaW.PrintWords Go.Proofs.YtbdcndkafaajpaaW.PrintLast Go.Proofs.YtbdcndkafaajpaaW.PrintMore
open Go.Proofs.Ytbdcndkafaajpaa.P (Nd EO Res hd isT isM takeM mxl comb mk1 StD VeD EvD Out overLex schemaO valueO)
theorem C_three {w : World} {b : Nat} {x y z : Nd} (h : w.heap[b]? = some (.cells (nodeCs x ++ nodeCs y ++ nodeCs z).toArray 49 (0, 0))) : Kd.C kn w (some ⟨b, 0, none⟩) 3 [x, y, z] := by
  refine ⟨rfl, by omega, fun _ => ⟨_, rfl, fun j p hj => ⟨nodeCs p, rfl, kn_mk w p, fun i u hu => ?_⟩⟩⟩
  have hi : i < 5 := by
    have := (List.getElem?_eq_some_iff.1 hu).1
    exact this
  have hc : w.cell? ((⟨b, 0, none⟩ : Addr).add (j * 5 + i)) = ((nodeCs x ++ nodeCs y ++ nodeCs z).toArray)[j * 5 + i]? := by
    have := blk_cell h (j * 5 + i)
    rw [← this]
    by_cases h0 : j * 5 + i = 0
    · rw [h0]; rfl
    · simp only [Addr.add]
      rw [if_neg h0]; simp
  show w.cell? ((⟨b, 0, none⟩ : Addr).add (j * 5 + i)) = some u
  rw [hc, List.getElem?_toArray]
  match j, hj with
  | 0, hj =>
    obtain rfl : x = p := by simpa using hj
    rw [List.append_assoc, List.getElem?_append_left (by show 0 * 5 + i < 5; omega), Nat.zero_mul, Nat.zero_add]; exact hu
  | 1, hj =>
    obtain rfl : y = p := by simpa using hj
    rw [List.append_assoc, List.getElem?_append_right (by show 5 ≤ 1 * 5 + i; omega), List.getElem?_append_left (by show 1 * 5 + i - 5 < 5; omega), show 1 * 5 + i - (nodeCs x).length = i by show 1 * 5 + i - 5 = i; omega]; exact hu
  | 2, hj =>
    obtain rfl : z = p := by simpa using hj
    rw [List.getElem?_append_right (by show 10 ≤ 2 * 5 + i; omega), show 2 * 5 + i - (nodeCs x ++ nodeCs y).length = i by show 2 * 5 + i - 10 = i; omega]; exact hu
  | j + 3, hj => simp at hj
end Go.Proofs.Ytbdcndkafaajpaa.A
end
section
set_option linter.unusedVariables false
set_option linter.unusedSimpArgs false
namespace Go.Proofs.Ytbdcndkafaajpaa.A
open Go.RowKit Go.Proofs.Ytbdcndkafaajpaa.X Go.Proofs.YtbdcndkafaajpaaW.PrintWords Go.Proofs.YtbdcndkafaajpaaW.PrintLast Go.Proofs.YtbdcndkafaajpaaW.PrintMore
open Go.Proofs.Ytbdcndkafaajpaa.P (Nd EO Res hd isT isM takeM mxl comb mk1 StD VeD EvD Out overLex schemaO valueO)
set_option maxHeartbeats 8000000 in
set_option maxRecDepth 100000 in
theorem awake_calls (w : World) : Calls Try.prog 10 #[] w fun e w' => e = .returned (.bool true) ∧ Below w.heap.size w w' := by
  go_enter Try.func10, Try.ntmps10
  go_wp2_with fail
  refine (Schema_calls w aw1).mono ?_
  rintro e w1 ⟨⟨Av, nv, cv⟩, l, at_, er, rfl, hrows, hb, hs⟩
  rw [aw1_out] at hs
  obtain ⟨rfl, rfl, xs, hm, ha⟩ := hs
  obtain ⟨hn, ⟨ys, hC, hA⟩, _⟩ := rdS_of hrows hm ha
  obtain rfl : nv = 1 := hn
  have hl1 : ys.length = 1 := hA.len.symm
  obtain ⟨W1, hW1⟩ : ∃ W1, W1 = w1.alloc (.cells #[.slice Av 1 cv] 27) := ⟨_, rfl⟩
  have hB1 : Below w1.heap.size w1 W1 := by rw [hW1]; exact below_alloc (Below.refl _ _) _
  have hX1 : W1.heap[w1.heap.size]? = some (.cells #[.slice Av 1 cv] 27 (0, 0)) := by rw [hW1]; exact blk_new _ _
  obtain ⟨ad, va, vc, rfl, K, ⟨vs, hCv, hAv⟩, _⟩ := at_E hC hA 0 (by omega) (by decide)
  obtain ⟨bd, ua, uc, rfl, Q, ⟨ss, hCs, hAs⟩, _⟩ := at_V hCv hAv 0 (by rw [← hAv.len]; decide) (by decide)
  obtain ⟨sd, na, nc, rfl, S, hCn, _⟩ := at_S hCs hAs 0 (by rw [← hAs.len]; decide) (by decide)
  obtain ⟨x0, x1, x2⟩ := K W1 hB1
  obtain ⟨y0, y1, y2⟩ := Q W1 hB1
  obtain ⟨z0, z1, z2, z3, z4, z5, z6, z7⟩ := S W1 hB1
  have p0 : W1.cell? ⟨w1.heap.size, 0, none⟩ = some (.slice (some ad) 1 cv) := (blk_cell hX1 0).trans rfl
  have ea : ad.add (0 * 3) = ad := rfl
  have eb : bd.add (0 * 3) = bd := rfl
  have es : sd.add (0 * 8) = sd := rfl
  rw [ea] at x0 x1 x2
  rw [eb] at y0 y1 y2
  rw [es] at z0 z1 z2 z3 z4 z5 z6 z7
  simp only [List.getD_cons_zero, aw1S, List.length_cons, List.length_nil, Nat.zero_add] at x0 x1 x2 y0 y1 y2 z0 z1 z2 z3 z4 z5 z6 z7
  have HB := Aside0.mk hb
  have HW1 := Aside0.mk hW1
  rw [hW1] at x0 x1 x2 y0 y1 y2 z0 z1 z2 z3 z4 z5 z6 z7 p0
  clear hrows hb hm ha hC hA hCv hAv hCs hAs hCn K Q S hX1 hB1 hl1 hW1 ea eb es
  go_wp2_with fail
  obtain ⟨W2, hW2⟩ : ∃ W2, W2 = W1.alloc (.cells #[.int .i64 1, .string ⟨#[120]⟩, .string ⟨#[]⟩, .string ⟨#[]⟩, .string ⟨#[]⟩, .string ⟨#[117, 105, 110, 116]⟩, .slice na 0 nc, .int .i64 18] 62) := ⟨_, rfl⟩
  have hBW2 : Below w.heap.size w W2 := by
    have h1 : Below w1.heap.size w1 W1 := by rw [HW1.out]; exact below_alloc (Below.refl _ _) _
    have h2 : Below W1.heap.size W1 W2 := by rw [hW2]; exact below_alloc (Below.refl _ _) _
    exact below_step (below_step HB.out h1) h2
  have hX2 : W2.heap[w1.heap.size + 1]? = some (.cells #[.int .i64 1, .string ⟨#[120]⟩, .string ⟨#[]⟩, .string ⟨#[]⟩, .string ⟨#[]⟩, .string ⟨#[117, 105, 110, 116]⟩, .slice na 0 nc, .int .i64 18] 62 (0, 0)) := by
    have hs : W1.heap.size = w1.heap.size + 1 := by rw [HW1.out]; exact Array.size_push _
    rw [hW2, ← hs]; exact blk_new _ _
  have HB2 := Aside0.mk hBW2
  have HX2 := Aside0.mk hX2
  rw [← HW1.out, ← hW2]
  clear hBW2 hX2 hW2 x0 x1 x2 y0 y1 y2 z0 z1 z2 z3 z4 z5 z6 z7 p0
  refine (Value_calls W2 aw2).mono ?_
  rintro e w3 ⟨⟨A3, n3, c3⟩, l3, at3, er3, rfl, hr3, hb3, hs3⟩
  rw [aw2_out] at hs3
  obtain ⟨rfl, rfl, hm3⟩ := hs3
  have hR3 : Kd.R kn 49 w3 W2.heap.size (fun _ => True) (.slice A3 n3 c3) [⟨1, 0, 1, ⟨#[]⟩, 0⟩, ⟨1, 0, 2, ⟨#[]⟩, 2⟩, ⟨7, 0, 0, ⟨#[]⟩, 1⟩] := hr3.holds _ hm3
  obtain ⟨e3, _, hC3⟩ := Kd.R_reads' hR3
  obtain rfl : n3 = 3 := e3
  have HB3 := Aside0.mk (below_step HB2.out hb3)
  have HX3 := Aside0.mk (blk_below HX2.out hb3)
  have HC3 := Aside0.mk hC3
  clear hr3 hb3 hm3 hR3 hC3
  go_wp2_with fail
  refine (Value_calls w3 aw3).mono ?_
  rintro e w4 ⟨⟨A4, n4, c4⟩, l4, at4, er4, rfl, hr4, hb4, hs4⟩
  rw [aw3_out] at hs4
  obtain ⟨rfl, rfl, hv4, _⟩ := hs4
  have HB4 := Aside0.mk (below_step HB3.out hb4)
  have HX4 := Aside0.mk (blk_below HX3.out hb4)
  have HC4 := Aside0.mk (Kd.C_below HC3.out hb4)
  clear hr4 hb4 hv4
  obtain ⟨z0, z1, z2, z3, z4, z5, z6, z7⟩ := stBox HX4.out
  go_wp2_with fail
  obtain ⟨W5, hW5⟩ : ∃ W5, W5 = w4.alloc (.cells #[.int .i64 1, .int .i64 0, .int .u64 1, .string ⟨#[]⟩, .int .i64 0, .int .i64 1, .int .i64 0, .int .u64 2, .string ⟨#[]⟩, .int .i64 2, .int .i64 7, .int .i64 0, .int .u64 0, .string ⟨#[]⟩, .int .i64 1] 49) := ⟨_, rfl⟩
  have hB5 : Below w4.heap.size w4 W5 := by rw [hW5]; exact below_alloc (Below.refl _ _) _
  have hX5 : W5.heap[w4.heap.size]? = some (.cells #[.int .i64 1, .int .i64 0, .int .u64 1, .string ⟨#[]⟩, .int .i64 0, .int .i64 1, .int .i64 0, .int .u64 2, .string ⟨#[]⟩, .int .i64 2, .int .i64 7, .int .i64 0, .int .u64 0, .string ⟨#[]⟩, .int .i64 1] 49 (0, 0)) := by rw [hW5]; exact blk_new _ _
  have hT := C_three (x := ⟨1, 0, 1, ⟨#[]⟩, 0⟩) (y := ⟨1, 0, 2, ⟨#[]⟩, 2⟩) (z := ⟨7, 0, 0, ⟨#[]⟩, 1⟩) hX5
  have HNC := Aside0.mk (nodes_calls W5 A3 (some ⟨w4.heap.size, 0, none⟩) c3 3 [⟨1, 0, 1, ⟨#[]⟩, 0⟩, ⟨1, 0, 2, ⟨#[]⟩, 2⟩, ⟨7, 0, 0, ⟨#[]⟩, 1⟩] [⟨1, 0, 1, ⟨#[]⟩, 0⟩, ⟨1, 0, 2, ⟨#[]⟩, 2⟩, ⟨7, 0, 0, ⟨#[]⟩, 1⟩] 0 true (Kd.C_below HC4.out hB5) hT (by decide))
  have HB5 := Aside0.mk (below_step HB4.out hB5)
  rw [← hW5]
  clear hW5 hB5 hX5 hT z0 z1 z2 z3 z4 z5 z6 z7
  refine HNC.out.mono ?_
  rintro e w6 ⟨rfl, hb6⟩
  have hnb : nodesB 0 true [⟨1, 0, 1, ⟨#[]⟩, 0⟩, ⟨1, 0, 2, ⟨#[]⟩, 2⟩, ⟨7, 0, 0, ⟨#[]⟩, 1⟩] [⟨1, 0, 1, ⟨#[]⟩, 0⟩, ⟨1, 0, 2, ⟨#[]⟩, 2⟩, ⟨7, 0, 0, ⟨#[]⟩, 1⟩] = true := by kernel_rfl
  rw [hnb]
  have HB6 := Aside0.mk (below_step HB5.out hb6)
  clear hb6 hnb
  go_wp2
  go_ret
  exact ⟨rfl, HB6.out⟩
end Go.Proofs.Ytbdcndkafaajpaa.A
end
section
set_option linter.unusedVariables false
set_option linter.unusedSimpArgs false
namespace Go.Proofs.Ytbdcndkafaajpaa.A
open Go.RowKit Go.Proofs.Ytbdcndkafaajpaa.X Go.Proofs.Ytbdcndkafaajpaa.L Go.Proofs.Ytbdcndkafaajpaa.T Go.Proofs.YtbdcndkafaajpaaW.PrintWords Go.Proofs.YtbdcndkafaajpaaW.PrintLast Go.Proofs.YtbdcndkafaajpaaW.PrintMore
open Go.Proofs.Ytbdcndkafaajpaa.P (Nd EO Res hd isT isM takeM mxl comb mk1 StD VeD EvD Out overLex schemaO valueO)
end Go.Proofs.Ytbdcndkafaajpaa.A
end
section
set_option linter.unusedVariables false
set_option linter.unusedSimpArgs false
namespace Go.Proofs.Ytbdcndkafaajpaa.A
open Go.RowKit Go.Proofs.Ytbdcndkafaajpaa.X Go.Proofs.Ytbdcndkafaajpaa.L Go.Proofs.Ytbdcndkafaajpaa.T Go.Proofs.YtbdcndkafaajpaaW.PrintWords Go.Proofs.YtbdcndkafaajpaaW.PrintLast Go.Proofs.YtbdcndkafaajpaaW.PrintMore
open Go.Proofs.Ytbdcndkafaajpaa.P (Nd EO Res hd isT isM takeM mxl comb mk1 StD VeD EvD Out overLex schemaO valueO)
end Go.Proofs.Ytbdcndkafaajpaa.A
end
section
set_option linter.unusedVariables false
set_option linter.unusedSimpArgs false
namespace Go.Proofs.Ytbdcndkafaajpaa.A
open Go.RowKit Go.Proofs.Ytbdcndkafaajpaa.X Go.Proofs.Ytbdcndkafaajpaa.L Go.Proofs.Ytbdcndkafaajpaa.T Go.Proofs.YtbdcndkafaajpaaW.PrintWords Go.Proofs.YtbdcndkafaajpaaW.PrintLast Go.Proofs.YtbdcndkafaajpaaW.PrintMore
open Go.Proofs.Ytbdcndkafaajpaa.P (Nd EO Res hd isT isM takeM mxl comb mk1 StD VeD EvD Out overLex schemaO valueO)
end Go.Proofs.Ytbdcndkafaajpaa.A
end
section
set_option linter.unusedVariables false
set_option linter.unusedSimpArgs false
namespace Go.Proofs.Ytbdcndkafaajpaa.A
open Go.RowKit Go.Proofs.Ytbdcndkafaajpaa.X Go.Proofs.Ytbdcndkafaajpaa.L Go.Proofs.Ytbdcndkafaajpaa.T Go.Proofs.YtbdcndkafaajpaaW.PrintWords Go.Proofs.YtbdcndkafaajpaaW.PrintLast Go.Proofs.YtbdcndkafaajpaaW.PrintMore
open Go.Proofs.Ytbdcndkafaajpaa.P (Nd EO Res hd isT isM takeM mxl comb mk1 StD VeD EvD Out overLex schemaO valueO exprW valueW opn isOp isMt Pw NR)
end Go.Proofs.Ytbdcndkafaajpaa.A
end
section
set_option linter.unusedVariables false
set_option linter.unusedSimpArgs false
namespace Go.Proofs.Ytbdcndkafaajpaa.A
open Go.RowKit Go.Proofs.Ytbdcndkafaajpaa.X Go.Proofs.Ytbdcndkafaajpaa.L Go.Proofs.Ytbdcndkafaajpaa.T Go.Proofs.YtbdcndkafaajpaaW.PrintWords Go.Proofs.YtbdcndkafaajpaaW.PrintLast Go.Proofs.YtbdcndkafaajpaaW.PrintMore
open Go.Proofs.Ytbdcndkafaajpaa.P (Nd EO Res hd isT isM takeM mxl comb mk1 StD VeD EvD Out overLex schemaO valueO exprW valueW opn isOp isMt Pw NR)
def blanks : List ByteArray := [⟨#[32]⟩, ⟨#[10]⟩, ⟨#[9]⟩, ⟨#[13]⟩, ⟨#[35, 32, 125, 34, 10]⟩, ⟨#[32, 32]⟩, ⟨#[35, 10]⟩, ⟨#[32, 35, 120, 10, 32]⟩]
def blankW (k : Int) : ByteArray := blanks.getD (k % 8).toNat ⟨#[]⟩
theorem blank_at {k : Int} (h : 0 ≤ k) : ([.string ⟨#[32]⟩, .string ⟨#[10]⟩, .string ⟨#[9]⟩, .string ⟨#[13]⟩, .string ⟨#[35, 32, 125, 34, 10]⟩, .string ⟨#[32, 32]⟩, .string ⟨#[35, 10]⟩, .string ⟨#[32, 35, 120, 10, 32]⟩] : List Value)[(k % 8).toNat]? = some (.string (blankW k)) := by
  show (blanks.map Value.string)[(k % 8).toNat]? = _
  have hl : (k % 8).toNat < blanks.length := by show _ < 8; omega
  rw [List.getElem?_map, List.getElem?_eq_getElem hl]
  unfold blankW
  rw [List.getD_eq_getElem?_getD, List.getElem?_eq_getElem hl]
  rfl
theorem blank_all (k : Int) : (blankW k).size ≤ 5 ∧ L.gs false (blankW k).data.toList = some false ∧ headN isW (blankW k).data.toList := by
  have h : ∀ i, (blanks.getD i ⟨#[]⟩).size ≤ 5 ∧ L.gs false (blanks.getD i ⟨#[]⟩).data.toList = some false ∧ headN isW (blanks.getD i ⟨#[]⟩).data.toList := by
    intro i
    match i with
    | 0 => exact ⟨by decide, by decide, headN_cons (by decide)⟩
    | 1 => exact ⟨by decide, by decide, headN_cons (by decide)⟩
    | 2 => exact ⟨by decide, by decide, headN_cons (by decide)⟩
    | 3 => exact ⟨by decide, by decide, headN_cons (by decide)⟩
    | 4 => exact ⟨by decide, by decide, headN_cons (by decide)⟩
    | 5 => exact ⟨by decide, by decide, headN_cons (by decide)⟩
    | 6 => exact ⟨by decide, by decide, headN_cons (by decide)⟩
    | 7 => exact ⟨by decide, by decide, headN_cons (by decide)⟩
    | i + 8 => exact ⟨Nat.zero_le _, rfl, headN_nil _⟩
  exact h _
set_option maxHeartbeats 4000000 in
set_option maxRecDepth 100000 in
theorem blank_calls (w : World) (k : Int) (hk : 0 ≤ k ∧ k < 256) : Calls Try.prog 36 #[.int .u8 k] w fun e w' => e = .returned (.string (blankW k)) ∧ Below w.heap.size w w' := by
  have hix := blank_at hk.1
  obtain ⟨V, hV⟩ : ∃ V, V = blankW k := ⟨_, rfl⟩
  rw [← hV] at hix ⊢
  clear hV
  go_enter Try.func36, Try.ntmps36
  go_wp2
  go_ret
  exact ⟨rfl, below_alloc (Below.refl _ _) _⟩
def padAt (pads : List Int) (i : Nat) : Int := if pads.length = 0 then 0 else pads.getD (i % pads.length) 0
def pieceB (s : ByteArray) (t : Tk) : ByteArray := if 0 ≤ t.f3 ∧ t.f3 ≤ t.f4 ∧ t.f4 ≤ (s.size : Int) then s.extract t.f3.toNat t.f4.toNat else ⟨#[]⟩
def spStep (s : ByteArray) (pads : List Int) (i : Nat) (t : Tk) (p : List Int × List Int) : List Int × List Int :=
  (p.1 ++ bytesOf (blankW (padAt pads i)) ++ bytesOf (pieceB s t), p.2 ++ [((p.1 ++ bytesOf (blankW (padAt pads i))).length : Int)])
def spW (s : ByteArray) (pads : List Int) : List Tk → Nat → List Int × List Int → List Int × List Int
  | [], _, p => p
  | t :: l, i, p => spW s pads l (i + 1) (spStep s pads i t p)
theorem spW_snoc (s : ByteArray) (pads : List Int) : ∀ (l : List Tk) (i : Nat) (p : List Int × List Int) (t : Tk), spW s pads (l ++ [t]) i p = spStep s pads (i + l.length) t (spW s pads l i p)
  | [], i, p, t => rfl
  | u :: l, i, p, t => by
    show spW s pads (l ++ [t]) (i + 1) _ = _
    rw [spW_snoc s pads l]
    rw [show i + (u :: l).length = i + 1 + l.length by rw [List.length_cons]; omega]
    rfl
theorem bytesOf_len (y : ByteArray) : (bytesOf y).length = y.size := bytesOf_length y
theorem spW_len (s : ByteArray) (pads : List Int) : ∀ (l : List Tk) (i : Nat) (p : List Int × List Int), (spW s pads l i p).1.length ≤ p.1.length + l.length * (5 + s.size) ∧ (spW s pads l i p).2.length = p.2.length + l.length
  | [], i, p => ⟨by show p.1.length ≤ _; simp, by show p.2.length = _; simp⟩
  | t :: l, i, p => by
    obtain ⟨h1, h2⟩ := spW_len s pads l (i + 1) (spStep s pads i t p)
    have hb := (blank_all (padAt pads i)).1
    have hp : (pieceB s t).size ≤ s.size := by
      unfold pieceB
      split
      · rw [ByteArray.size_extract]; omega
      · exact Nat.zero_le _
    have e1 : (spStep s pads i t p).1.length = p.1.length + (blankW (padAt pads i)).size + (pieceB s t).size := by
      unfold spStep
      simp only [List.length_append, bytesOf_len]
    have e2 : (spStep s pads i t p).2.length = p.2.length + 1 := by unfold spStep; simp
    refine ⟨Nat.le_trans h1 ?_, ?_⟩
    · rw [e1, List.length_cons, Nat.add_mul]; omega
    · show (spW s pads l (i + 1) (spStep s pads i t p)).2.length = _
      rw [h2, e2, List.length_cons]; omega
theorem padAt_u8 {pads : List Int} (h : ∀ n ∈ pads, 0 ≤ n ∧ n < 256) (i : Nat) : 0 ≤ padAt pads i ∧ padAt pads i < 256 := by
  unfold padAt
  split
  · exact ⟨by omega, by omega⟩
  · rename_i h0
    have hl : i % pads.length < pads.length := Nat.mod_lt _ (by omega)
    rw [List.getD_eq_getElem?_getD, List.getElem?_eq_getElem hl]
    exact h _ (List.getElem_mem hl)
section
variable {P : Program} {ops : Array Oper} {rest : List Oper} {o : Oper} {a : Act} {Q : Exit → Act → World → Prop} {Kc : Act → World → Prop}
theorem R_str_run {W : World} (base : Nat) (t u ty e : TypeId) (ht : P.underlying t = some (.slice e)) (hu : P.underlying u = some .string) (hinfo : (P.info? e).map (fun i => (i.zero, i.size, i.bytes)) = some (some (.int .u8 0), 1, 1))
    (v : Value) (xs : List Int) (y : ByteArray) (HO : Kd.R (Kd.int .u8) e W base (fun _ => True) v xs) (hbase : base ≤ W.heap.size) (hl : xs.length + y.size ≤ 140737488355328) :
    ∃ v1 w1, (Builtin.append_ #[t, u] ty #[v, .string y]).run P W = .ok v1 w1 ∧ Kd.R (Kd.int .u8) e w1 base (fun _ => True) v1 (xs ++ bytesOf y) ∧ W.grownBy w1 v.ownBlock := by
  obtain ⟨i0, hi, hzz⟩ := Option.map_eq_some_iff.1 hinfo
  simp only [Prod.mk.injEq] at hzz
  obtain ⟨hz0, hz1, hz2⟩ := hzz
  have hown : W.ownsRow base e 1 v xs.length (encs (Value.int .u8) xs) := Kd.own_of_R HO
  obtain ⟨v1, w1, hr, hown1, hg, _⟩ := Lib.run_append_own_string (P := P) (w := W) base t u ty e i0 ht hu hi hz0 hz1 hz2 v xs.length _ hown y (by simp only [maxLen]; omega) hl hbase
  refine ⟨v1, w1, hr, Kd.R_of_own ?_ (fun _ _ => trivial), hg⟩
  have hc : encs (Value.int .u8) (xs ++ bytesOf y) = encs (Value.int .u8) xs ++ Lib.strCells y := by
    rw [encs_append]
    congr 1
    simp [encs, bytesOf, Lib.strCells]
  rw [hc, show (xs ++ bytesOf y).length = xs.length + y.size by rw [List.length_append, bytesOf_len]]
  exact hown1
theorem R_append_str {w0 W : World} (base : Nat) (hgd : o.guard = none) (s x : Operand) (t u e : TypeId) (ho : o.op = .call { callee := .builtin .append, args := #[s, x], argTypes := #[t, u] })
    (ht : P.underlying t = some (.slice e)) (hu : P.underlying u = some .string) (hinfo : (P.info? e).map (fun i => (i.zero, i.size, i.bytes)) = some (some (.int .u8 0), 1, 1))
    (v : Value) (xs : List Int) (y : ByteArray) (hs : a.eval s = v) (hx : a.eval x = .string y) (HO : Kd.R (Kd.int .u8) e W base (fun _ => True) v xs) (HB : Below base w0 W) (hbase : base ≤ W.heap.size) (hl : xs.length + y.size ≤ 140737488355328)
    (h : ∀ v1 w1, Kd.R (Kd.int .u8) e w1 base (fun _ => True) v1 (xs ++ bytesOf y) → Below base w0 w1 → W.grownBy w1 v.ownBlock → wpList P ops Q rest (a.put o.dst v1) w1) : wpList P ops Q (o :: rest) a W := by
  refine wpList_plain hgd fun K hK => ?_
  obtain ⟨v1, w1, hr, h2, h3⟩ := R_str_run (P := P) base t u o.type e ht hu hinfo v xs y HO hbase hl
  unfold Oper.wp execOp
  simp only [ho, resolve, invoke, builtin, Sem.run_bind, Sem.run_pure, Result.andThen_ok, List.map_toArray, List.map_cons, List.map_nil, hs, hx, hr]
  exact hK _ _ (h v1 w1 h2 (HB.grown h3 hbase (fun k hk => Kd.R_base HO k hk)) h3)
theorem R_append_str_step {N : Option Tmp} (hN : o.dst = N) {w0 W : World} (base : Nat) (hw : Region.wanted o (yielded ops a.tmps) = true) (s x : Operand) (t u e : TypeId) (ho : o.op = .call { callee := .builtin .append, args := #[s, x], argTypes := #[t, u] })
    (ht : P.underlying t = some (.slice e)) (hu : P.underlying u = some .string) (hinfo : (P.info? e).map (fun i => (i.zero, i.size, i.bytes)) = some (some (.int .u8 0), 1, 1))
    (v : Value) (xs : List Int) (y : ByteArray) (hs : a.eval s = v) (hx : a.eval x = .string y) (HO : Kd.R (Kd.int .u8) e W base (fun _ => True) v xs) (HB : Below base w0 W) (hbase : base ≤ W.heap.size) (hl : xs.length + y.size ≤ 140737488355328)
    (h : ∀ v1 w1, Kd.R (Kd.int .u8) e w1 base (fun _ => True) v1 (xs ++ bytesOf y) → Below base w0 w1 → W.grownBy w1 v.ownBlock → Kc (a.put N v1) w1) :
    if Region.wanted o (yielded ops a.tmps) = true then Oper.wp P o a W Kc Q else Kc (a.put o.dst undef) W := by
  subst hN
  rw [if_pos hw]
  obtain ⟨v1, w1, hr, h2, h3⟩ := R_str_run (P := P) base t u o.type e ht hu hinfo v xs y HO hbase hl
  unfold Oper.wp execOp
  simp only [ho, resolve, invoke, builtin, Sem.run_bind, Sem.run_pure, Result.andThen_ok, List.map_toArray, List.map_cons, List.map_nil, hs, hx, hr]
  exact h v1 w1 h2 (HB.grown h3 hbase (fun k hk => Kd.R_base HO k hk)) h3
end
end Go.Proofs.Ytbdcndkafaajpaa.A
end
section
set_option linter.unusedVariables false
set_option linter.unusedSimpArgs false
namespace Go.Proofs.Ytbdcndkafaajpaa.A
open Go.RowKit Go.Proofs.Ytbdcndkafaajpaa.X Go.Proofs.Ytbdcndkafaajpaa.L Go.Proofs.Ytbdcndkafaajpaa.T Go.Proofs.YtbdcndkafaajpaaW.PrintWords Go.Proofs.YtbdcndkafaajpaaW.PrintLast Go.Proofs.YtbdcndkafaajpaaW.PrintMore
open Go.Proofs.Ytbdcndkafaajpaa.P (Nd EO Res hd isT isM takeM mxl comb mk1 StD VeD EvD Out overLex schemaO valueO exprW valueW opn isOp isMt Pw NR)
theorem infoB : (Try.prog.info? 5).map (fun i => (i.zero, i.size, i.bytes)) = some (some (.int .u8 0), 1, 1) := by kernel_rfl
theorem R_empty {α : Type} (d : Kd α) {w W : World} {b e base : Nat} (h : W.heap[b]? = some (.cells #[] e (0, 0))) (hb : base ≤ b) : Kd.R d e W base (fun _ => True) (.slice (some ⟨b, 0, none⟩) 0 0) [] :=
  ⟨fun _ _ => trivial, [], ⟨by simp, .inr ⟨b, 0, #[], rfl, hb, h, Nat.le_refl _, by decide, by simp, by simp⟩⟩, Reps.none _ _⟩
theorem R_apart {α β : Type} {d : Kd α} {d2 : Kd β} {w : World} {e e2 base base2 : Nat} {ok ok2 : Nat → Prop} {v v2 : Value} {xs : List α} {ys : List β} (h : d.R e w base ok v xs) (h2 : d2.R e2 w base2 ok2 v2 ys) (hne : e2 ≠ e) : ∀ k, v.ownBlock = some k → some k ≠ v2.ownBlock := by
  intro k hk
  obtain ⟨_, inner, ho, _⟩ := h
  rcases ho.2 with ⟨rfl, _⟩ | ⟨g, cap, cur, rfl, _, hg, _⟩
  · simp [Value.ownBlock] at hk
  · have : g = k := by simpa [Value.ownBlock] using hk
    subst this
    exact Kd.R_ne h2 hg hne
abbrev spP (s : ByteArray) (pads : List Int) (L : List Tk) (i : Nat) : List Int × List Int := spW s pads (L.take i) 0 ([], [])
theorem spP_next (s : ByteArray) (pads : List Int) (L : List Tk) (i : Nat) (h : i < L.length) : spP s pads L (i + 1) = spStep s pads i (L.getD i z47) (spP s pads L i) := by
  unfold spP
  rw [List.take_succ_eq_append_getElem h, spW_snoc, Nat.zero_add, List.length_take, Nat.min_eq_left (by omega), List.getD_eq_getElem?_getD, List.getElem?_eq_getElem h]
  rfl
set_option maxHeartbeats 16000000 in
set_option maxRecDepth 100000 in
theorem spaced_calls (w : World) (s : ByteArray) (A1 A2 : Option Addr) (c1 c2 : Nat) (L : List Tk) (pads : List Int) (h1 : Kd.C kt w A1 L.length L) (h2 : Kd.C (Kd.int .u8) w A2 pads.length pads) (hL : L.length ≤ 1048577) (hs : s.size ≤ 1048576) (hp : pads.length ≤ 4611686018427387904) (hb : ∀ n ∈ pads, 0 ≤ n ∧ n < 256) (ht : ∀ t ∈ L, 0 ≤ t.f3 ∧ t.f3 ≤ t.f4 ∧ t.f4 ≤ (s.size : Int)) :
    Calls Try.prog 19 #[.string s, .slice A1 L.length c1, .slice A2 pads.length c2] w fun e w' => ∃ A c, e = .returned (.tuple #[.string (strOfNums (spW s pads L 0 ([], [])).1), .slice A (spW s pads L 0 ([], [])).2.length c]) ∧ Kd.R (Kd.int .i64) 3 w' w.heap.size (fun _ => True) (.slice A (spW s pads L 0 ([], [])).2.length c) (spW s pads L 0 ([], [])).2 ∧ Below w.heap.size w w' := by
  have H1 := Aside0.mk h1
  have H2 := Aside0.mk h2
  have HL := Aside0.mk hL
  have HS := Aside0.mk hs
  have HPL := Aside0.mk hp
  have HPB := Aside0.mk hb
  have HT := Aside0.mk ht
  obtain ⟨W1, hW1⟩ : ∃ W1, W1 = w.alloc (.cells #[] 5) := ⟨_, rfl⟩
  obtain ⟨W2, hW2⟩ : ∃ W2, W2 = W1.alloc (.cells #[] 3) := ⟨_, rfl⟩
  have hB1 : Below w.heap.size w W1 := by rw [hW1]; exact below_alloc (Below.refl _ _) _
  have hB2 : Below W1.heap.size W1 W2 := by rw [hW2]; exact below_alloc (Below.refl _ _) _
  have hs1 : W1.heap.size = w.heap.size + 1 := by rw [hW1]; exact Array.size_push _
  have hx1 : W1.heap[w.heap.size]? = some (.cells #[] 5 (0, 0)) := by rw [hW1]; exact blk_new _ _
  have hx2 : W2.heap[w.heap.size + 1]? = some (.cells #[] 3 (0, 0)) := by rw [hW2, ← hs1]; exact blk_new _ _
  have HRO : Aside0 (Kd.R (Kd.int .u8) 5 W2 w.heap.size (fun _ => True) (.slice (some ⟨w.heap.size, 0, none⟩) ([] : List Int).length 0) []) := ⟨R_empty (w := w) _ (blk_below hx1 hB2) (Nat.le_refl _)⟩
  have HRP : Aside0 (Kd.R (Kd.int .i64) 3 W2 w.heap.size (fun _ => True) (.slice (some ⟨w.heap.size + 1, 0, none⟩) ([] : List Int).length 0) []) := ⟨R_empty (w := w) _ hx2 (Nat.le_succ _)⟩
  have HB2 := Aside0.mk (below_step hB1 hB2)
  have HW2 := Aside0.mk (show W2 = (w.alloc (.cells #[] 5)).alloc (.cells #[] 3) by rw [hW2, hW1])
  clear h1 h2 hL hs hp hb ht hW1 hW2 hB1 hB2 hs1 hx1 hx2
  go_enter Try.func19, Try.ntmps19
  go_wp2_with fail
  rw [← HW2.out]
  go_loopw [8, 9, 10, 11] (fun vo vp vi vb wr => ∃ (i : Nat) (o ps : List Int) (Ao Ap : Option Addr) (co cp : Nat), vo = .slice Ao o.length co ∧ vp = .slice Ap ps.length cp ∧ vi = .int .i64 (i : Int) ∧ Aside0 (i ≤ L.length) ∧ Aside0 (spP s pads L i = (o, ps)) ∧ Aside0 (Kd.R (Kd.int .u8) 5 wr w.heap.size (fun _ => True) (.slice Ao o.length co) o) ∧ Aside0 (Kd.R (Kd.int .i64) 3 wr w.heap.size (fun _ => True) (.slice Ap ps.length cp) ps) ∧ Aside0 (Below w.heap.size w wr)) (fun _ _ vi _ _ => L.length - left vi)
  case atStart => exact ⟨0, [], [], _, _, _, _, rfl, rfl, rfl, ⟨Nat.zero_le _⟩, ⟨rfl⟩, HRO, HRP, HB2⟩
  case round =>
    obtain ⟨i, o, ps, Ao, Ap, co, cp, rfl, rfl, rfl, hi, hsp, hro, hrp, hbe⟩ := hrel
    by_cases hlt : i < L.length
    · have dl : ((i : Int) < (L.length : Int)) := by omega
      have dl2 : decide ((i : Int) < (L.length : Int)) = true := decide_eq_true dl
      have hnx := nextN i L.length (by have := HL.out; omega) hlt
      have hls := lessN i L.length (by have := HL.out; omega) hlt
      have hstep := spP_next s pads L i hlt
      obtain ⟨t, htt⟩ : ∃ t, t = L.getD i z47 := ⟨_, rfl⟩
      have htl : 0 ≤ t.f3 ∧ t.f3 ≤ t.f4 ∧ t.f4 ≤ (s.size : Int) := by
        refine HT.out t ?_
        rw [htt, List.getD_eq_getElem?_getD, List.getElem?_eq_getElem hlt]
        exact List.getElem_mem hlt
      have hlo := spW_len s pads (L.take i) 0 ([], [])
      have hsp' := hsp.out
      have hol : o.length ≤ L.length * (5 + s.size) ∧ ps.length = i := by
        have h1 : o = (spP s pads L i).1 := by rw [hsp']
        have h2 : ps = (spP s pads L i).2 := by rw [hsp']
        rw [h1, h2]
        refine ⟨Nat.le_trans hlo.1 ?_, ?_⟩
        · rw [List.length_take, Nat.min_eq_left (by omega)]
          exact Nat.le_trans (by simp) (Nat.mul_le_mul_right _ (show i ≤ L.length by omega))
        · have := hlo.2
          rw [List.length_take, Nat.min_eq_left (by omega)] at this
          simpa using this
      have hbig : L.length * (5 + s.size) ≤ 1048577 * 1048581 := Nat.mul_le_mul HL.out (by have := HS.out; omega)
      have HOL : Aside0 (o.length ≤ 1099517984837 ∧ ps.length ≤ 1048577) := ⟨by have := hol.1; omega, by have := hol.2; have := HL.out; omega⟩
      have hpu := padAt_u8 HPB.out i
      have HTL := Aside0.mk htl
      have HTT := Aside0.mk htt
      have HST := Aside0.mk hstep
      have HNX := Aside0.mk hnx
      have HLS := Aside0.mk hls
      have HLT := Aside0.mk hlt
      have HPU := Aside0.mk hpu
      rw [← HTT.out] at HST
      clear hnx hls hstep htl htt hlo hsp' hol hbig hpu hlt
      have hpc : pads.length = 0 ∧ padAt pads i = 0 ∨ (0 < pads.length ∧ padAt pads i = pads.getD (i % pads.length) 0) := by
        unfold padAt
        by_cases h : pads.length = 0
        · exact .inl ⟨h, by rw [if_pos h]⟩
        · exact .inr ⟨by omega, by rw [if_neg h]⟩
      rcases hpc with ⟨hp0, hpad⟩ | ⟨hp0, hpad⟩
      · have d2 : decide ((pads.length : Int) > 0) = false := decide_eq_false (by omega)
        have HBC := Aside0.mk (blank_calls wr 0 (by decide))
        have HX : Aside0 (blankW (padAt pads i) = blankW 0) := ⟨by rw [hpad]⟩
        have d3 : ¬ 0 < pads.length := by omega
        clear hp0 hpad
        go_wp2_with (first
          | (go_at_call 36; (with_reducible refine HBC.out.mono ?_); rintro e w3 ⟨rfl, hb3⟩; have HB3 := Aside0.mk (below_step hbe.out hb3); have HO3 := Aside0.mk (Kd.R_below hro.out hb3); have HP3 := Aside0.mk (Kd.R_below hrp.out hb3); clear hb3)
          | ((with_reducible refine gate_builtin (b := .append) (xs := #[.tmp 30, .tmp 32]) rfl ?_); at_builtin; refine R_append_str (w0 := w) w.heap.size rfl (.tmp 30) (.tmp 32) 36 9 5 rfl Try.underlying36 Try.underlying9 infoB (.slice Ao o.length co) o (blankW 0) rfl rfl HO3.out HB3.out HB3.out.size (by have := HOL.out.1; have := (blank_all 0).1; omega) ?_; intro v4 w4 ho hb hg; obtain ⟨A4, c4, hv4⟩ := Kd.R_slice ho; obtain ⟨o4, ho4⟩ : ∃ o4, o4 = o ++ bytesOf (blankW 0) := ⟨_, rfl⟩; rw [← ho4] at ho hv4; subst hv4; have HO4 := Aside0.mk ho; have HE4 := Aside0.mk ho4; have HB4 := Aside0.mk hb; have HP4 := Aside0.mk (Kd.R_grown2 HP3.out rfl hg (R_apart HO3.out HP3.out (by decide))); clear ho hb hg ho4)
          | ((with_reducible refine gate_builtin (b := .append) (xs := #[.tmp 34, .tmp 37]) rfl ?_); at_builtin; refine Kd.R_append (Kd.int .i64) (w0 := w) w.heap.size rfl (.tmp 34) (.tmp 37) 40 3 (.int .i64 0) 8 rfl Try.underlying40 infoI rfl (by decide) (by omega) (.slice Ap ps.length cp) ps (o4.length : Int) [.int .i64 (o4.length : Int)] (fun _ => True) (fun _ => False) rfl rfl (show (Kd.int .i64).M _ _ _ (o4.length : Int) [.int .i64 (o4.length : Int)] from rfl) (fun _ hk => hk.elim) (fun _ _ => trivial) HP4.out HB4.out HB4.out.size (by have := HOL.out.2; omega) ?_; intro v5 w5 ho hb hg hat; obtain ⟨A5, c5, hv5⟩ := Kd.R_slice ho; obtain ⟨p5, hp5⟩ : ∃ p5, p5 = ps ++ [(o4.length : Int)] := ⟨_, rfl⟩; rw [← hp5] at ho hv5; subst hv5; have HP5 := Aside0.mk ho; have HE5 := Aside0.mk hp5; have HB5 := Aside0.mk hb; have HO5 := Aside0.mk (Kd.R_grown2 HO4.out rfl hg (R_apart HP4.out HO4.out (by decide))); clear ho hb hg hat hp5)
          | fail)
        obtain ⟨at_, hAt, x1, x2, x3, x4, x5⟩ := at_T47 (Kd.C_below H1.out HB5.out) (i : Int) (by omega) (by have := HLT.out; omega)
        subst hAt
        rw [Int.toNat_natCast, show rd_T47 L (i : Int) = t by unfold rd_T47; rw [Int.toNat_natCast, HTT.out]] at x4 x5
        have HTK : Aside0 (∀ W', Below w5.heap.size w5 W' → W'.cell? ⟨(at_.add (i * 5)).block, (at_.add (i * 5)).off + 3, none⟩ = some (.int .i64 t.f3) ∧ W'.cell? ⟨(at_.add (i * 5)).block, (at_.add (i * 5)).off + 4, none⟩ = some (.int .i64 t.f4)) := ⟨fun W' hW' => by
          obtain ⟨a2, e2, z1, z2, z3, z4, z5⟩ := at_T47 (Kd.C_below H1.out (below_step HB5.out hW')) (i : Int) (by omega) (by have := HLT.out; omega)
          injection e2 with e2
          subst e2
          rw [Int.toNat_natCast, show rd_T47 L (i : Int) = t by unfold rd_T47; rw [Int.toNat_natCast, HTT.out]] at z4 z5
          exact ⟨z4, z5⟩⟩
        clear x1 x2 x3 x4 x5
        obtain ⟨q0, q1, q2⟩ := HTL.out
        have hbS := below_drew1 (Below.refl w5.heap.size w5)
        obtain ⟨y3, y4⟩ := HTK.out _ hbS
        have li : (i : Int) < (L.length : Int) := by have := HLT.out; omega
        go_region_held3 (fun w' => w'.cell? ⟨(at_.add (i * 5)).block, (at_.add (i * 5)).off + 3, none⟩ = some (.int .i64 t.f3) ∧ w'.cell? ⟨(at_.add (i * 5)).block, (at_.add (i * 5)).off + 4, none⟩ = some (.int .i64 t.f4) ∧ Below w5.heap.size w5 w') (exact ⟨y3, y4, hbS⟩) (fail)
        go_wp2_with fail
        have hbS2 := below_drew1 hbS
        obtain ⟨y3, y4⟩ := HTK.out _ hbS2
        refine start_ (n := 15) (S := (fun w' : World => w'.cell? ⟨(at_.add (i * 5)).block, (at_.add (i * 5)).off + 3, none⟩ = some (.int .i64 t.f3) ∧ w'.cell? ⟨(at_.add (i * 5)).block, (at_.add (i * 5)).off + 4, none⟩ = some (.int .i64 t.f4))) (ds := [13]) #[false, false, false, false, false, false, false, false, false, false, false, false, false, false, false] (by kernel_rfl) rfl rfl (⟨y3, y4⟩) (fun hHeld => ?_)
        refine pure_ (i := 0) (N := (some 68)) (v := ?_) (a' := ?_) #[true, false, false, false, false, false, false, false, false, false, false, false, false, false, false] rfl rfl (by kernel_rfl) (fun _ _ _ h => h) (Or.inl ⟨by rfl, ?_⟩) ?_ ?_
        rotate_left
        · intro w'
          go_simp
          with_reducible rfl
        rotate_left
        · simp only [Act.put, List.setIfInBounds_toArray, List.set_cons_zero, List.set_cons_succ, i64_w, i32_w]
          rfl
        refine pure_ (i := 1) (N := (some 69)) (v := ?_) (a' := ?_) #[true, true, false, false, false, false, false, false, false, false, false, false, false, false, false] rfl rfl (by kernel_rfl) (fun _ _ _ h => h) (Or.inl ⟨by rfl, ?_⟩) ?_ ?_
        rotate_left
        · intro w'
          go_simp
          with_reducible rfl
        rotate_left
        · simp only [Act.put, List.setIfInBounds_toArray, List.set_cons_zero, List.set_cons_succ, i64_w, i32_w]
          rfl
        refine pure_ (i := 2) (N := (some 70)) (v := ?_) (a' := ?_) #[true, true, true, false, false, false, false, false, false, false, false, false, false, false, false] rfl rfl (by kernel_rfl) (fun _ _ _ h => h) (Or.inl ⟨by rfl, ?_⟩) ?_ ?_
        rotate_left
        · intro w'
          go_simp
          with_reducible rfl
        rotate_left
        · simp only [Act.put, List.setIfInBounds_toArray, List.set_cons_zero, List.set_cons_succ, i64_w, i32_w]
          rfl
        refine pure_ (i := 3) (N := (some 71)) (v := ?_) (a' := ?_) #[true, true, true, true, false, false, false, false, false, false, false, false, false, false, false] rfl rfl (by kernel_rfl) (fun _ _ _ h => h) (Or.inl ⟨by rfl, ?_⟩) ?_ ?_
        rotate_left
        · intro w'
          go_simp
          with_reducible rfl
        rotate_left
        · simp only [Act.put, List.setIfInBounds_toArray, List.set_cons_zero, List.set_cons_succ, i64_w, i32_w]
          rfl
        refine pure_ (i := 4) (N := (some 72)) (v := ?_) (a' := ?_) #[true, true, true, true, true, false, false, false, false, false, false, false, false, false, false] rfl rfl (by kernel_rfl) (fun _ _ _ h => h) (Or.inl ⟨by rfl, ?_⟩) ?_ ?_
        rotate_left
        · intro w'
          go_simp
          with_reducible rfl
        rotate_left
        · simp only [Act.put, List.setIfInBounds_toArray, List.set_cons_zero, List.set_cons_succ, i64_w, i32_w]
          rfl
        refine pure_ (i := 5) (N := (some 73)) (v := ?_) (a' := ?_) #[true, true, true, true, true, true, false, false, false, false, false, false, false, false, false] rfl rfl (by kernel_rfl) (fun _ _ _ h => h) (Or.inl ⟨by rfl, ?_⟩) ?_ ?_
        rotate_left
        · intro w'
          go_simp
          with_reducible rfl
        rotate_left
        · simp only [Act.put, List.setIfInBounds_toArray, List.set_cons_zero, List.set_cons_succ, i64_w, i32_w]
          rfl
        refine take_ (i := 6) (N := (some 74)) (v := ?_) (a' := ?_) #[true, true, true, true, true, true, true, false, false, false, false, false, false, false, false] rfl rfl (by kernel_rfl) (fun _ _ _ h => h) (Or.inl ⟨by rfl, ?_⟩) hHeld ?_ ?_
        rotate_left
        · intro w' hS'
          obtain ⟨y3, y4⟩ := id hS'
          clear hS'
          go_simp
          with_reducible rfl
        rotate_left
        · simp only [Act.put, List.setIfInBounds_toArray, List.set_cons_zero, List.set_cons_succ, i64_w, i32_w]
          rfl
        refine pure_ (i := 7) (N := (some 75)) (v := ?_) (a' := ?_) #[true, true, true, true, true, true, true, true, false, false, false, false, false, false, false] rfl rfl (by kernel_rfl) (fun _ _ _ h => h) (Or.inl ⟨by rfl, ?_⟩) ?_ ?_
        rotate_left
        · intro w'
          go_simp
          with_reducible rfl
        rotate_left
        · simp only [Act.put, List.setIfInBounds_toArray, List.set_cons_zero, List.set_cons_succ, i64_w, i32_w]
          rfl
        refine pure_ (i := 8) (N := (some 76)) (v := ?_) (a' := ?_) #[true, true, true, true, true, true, true, true, true, false, false, false, false, false, false] rfl rfl (by kernel_rfl) (fun _ _ _ h => h) (Or.inl ⟨by rfl, ?_⟩) ?_ ?_
        rotate_left
        · intro w'
          go_simp
          with_reducible rfl
        rotate_left
        · simp only [Act.put, List.setIfInBounds_toArray, List.set_cons_zero, List.set_cons_succ, i64_w, i32_w]
          rfl
        refine pure_ (i := 9) (N := (some 77)) (v := ?_) (a' := ?_) #[true, true, true, true, true, true, true, true, true, true, false, false, false, false, false] rfl rfl (by kernel_rfl) (fun _ _ _ h => h) (Or.inl ⟨by rfl, ?_⟩) ?_ ?_
        rotate_left
        · intro w'
          go_simp
          with_reducible rfl
        rotate_left
        · simp only [Act.put, List.setIfInBounds_toArray, List.set_cons_zero, List.set_cons_succ, i64_w, i32_w]
          rfl
        refine pure_ (i := 10) (N := (some 78)) (v := ?_) (a' := ?_) #[true, true, true, true, true, true, true, true, true, true, true, false, false, false, false] rfl rfl (by kernel_rfl) (fun _ _ _ h => h) (Or.inl ⟨by rfl, ?_⟩) ?_ ?_
        rotate_left
        · intro w'
          go_simp
          with_reducible rfl
        rotate_left
        · simp only [Act.put, List.setIfInBounds_toArray, List.set_cons_zero, List.set_cons_succ, i64_w, i32_w]
          rfl
        refine take_ (i := 11) (N := (some 79)) (v := ?_) (a' := ?_) #[true, true, true, true, true, true, true, true, true, true, true, true, false, false, false] rfl rfl (by kernel_rfl) (fun _ _ _ h => h) (Or.inl ⟨by rfl, ?_⟩) hHeld ?_ ?_
        rotate_left
        · intro w' hS'
          obtain ⟨y3, y4⟩ := id hS'
          clear hS'
          go_simp
          with_reducible rfl
        rotate_left
        · simp only [Act.put, List.setIfInBounds_toArray, List.set_cons_zero, List.set_cons_succ, i64_w, i32_w]
          rfl
        refine pure_ (i := 12) (N := (some 80)) (v := ?_) (a' := ?_) #[true, true, true, true, true, true, true, true, true, true, true, true, true, false, false] rfl rfl (by kernel_rfl) (fun _ _ _ h => h) (Or.inl ⟨by rfl, ?_⟩) ?_ ?_
        rotate_left
        · intro w'
          go_simp
          with_reducible rfl
        rotate_left
        · simp only [Act.put, List.setIfInBounds_toArray, List.set_cons_zero, List.set_cons_succ, i64_w, i32_w]
          rfl
        refine last_ (i := 13) (N := (some 81)) #[true, true, true, true, true, true, true, true, true, true, true, true, true, true, false] rfl rfl (by kernel_rfl) (by decide) (fun K hK => ?_)
        refine R_append_str_step (N := some 81) rfl (w0 := w) w.heap.size (by rfl) (.tmp 68) (.tmp 80) 36 9 5 rfl Try.underlying36 Try.underlying9 infoB (.slice A4 o4.length c4) o4 (s.extract t.f3.toNat t.f4.toNat) (by rfl) (by rfl) (Kd.R_below HO5.out hbS2) (below_step HB5.out hbS2) (below_step HB5.out hbS2).size (by rw [ByteArray.size_extract]; have h1 := HE4.out; have h2 := HOL.out.1; have h3 := HS.out; have h4 := congrArg List.length h1; rw [List.length_append, bytesOf_len] at h4; have h5 := (blank_all 0).1; omega) ?_
        intro v6 w6 ho hb hg
        obtain ⟨A6, c6, hv6⟩ := Kd.R_slice ho
        obtain ⟨o6, ho6⟩ : ∃ o6, o6 = o4 ++ bytesOf (s.extract t.f3.toNat t.f4.toNat) := ⟨_, rfl⟩
        rw [← ho6] at ho hv6
        subst hv6
        have HO6 := Aside0.mk ho
        have HE6 := Aside0.mk ho6
        have HB6 := Aside0.mk hb
        have HP6 := Aside0.mk (Kd.R_grown2 (Kd.R_below HP5.out hbS2) rfl hg (R_apart (Kd.R_below HO5.out hbS2) (Kd.R_below HP5.out hbS2) (by decide)))
        clear ho hb hg ho6
        refine hK.out _ _ ?_
        clear hK K
        refine pure_ (i := 14) (N := (some 8)) (v := ?_) (a' := ?_) #[true, true, true, true, true, true, true, true, true, true, true, true, true, true, true] rfl rfl (by kernel_rfl) (fun _ _ _ h => h) (Or.inl ⟨by rfl, ?_⟩) ?_ ?_
        rotate_left
        · intro w'
          go_simp
          with_reducible rfl
        rotate_left
        · simp only [Act.put, List.setIfInBounds_toArray, List.set_cons_zero, List.set_cons_succ, i64_w, i32_w]
          rfl
        refine done_ (by kernel_rfl) ?_
        clear y3 y4 hbS hbS2
        go_wp2
        rw [HNX.out]
        exact ⟨⟨i + 1, o6, p5, A6, A5, c6, c5, rfl, rfl, rfl, ⟨HLT.out⟩, ⟨by
          rw [HST.out, hsp.out]
          unfold spStep
          have hq : pieceB s t = s.extract t.f3.toNat t.f4.toNat := by unfold pieceB; rw [if_pos HTL.out]
          simp only []
          rw [HX.out, hq, ← HE4.out, ← HE6.out, ← HE5.out]⟩, HO6, HP6, HB6⟩, by have := HLT.out; simp only [left, Int.toNat_natCast]; omega⟩
      · have d2 : decide ((pads.length : Int) > 0) = true := decide_eq_true (by omega)
        obtain ⟨m, hm⟩ : ∃ m, m = i % pads.length := ⟨_, rfl⟩
        have hml : m < pads.length := by rw [hm]; exact Nat.mod_lt _ hp0
        have hmod : (i : Int) % (pads.length : Int) = (m : Int) := by rw [hm]; rfl
        obtain ⟨X, hX⟩ : ∃ X : Int, X = padAt pads i := ⟨_, rfl⟩
        obtain ⟨ad, hA2, x0⟩ := Kd.at_int (Kd.C_below H2.out hbe.out) (m : Int) (by omega) (by omega)
        rw [Int.toNat_natCast, show rd pads (m : Int) = X by unfold rd; rw [Int.toNat_natCast, hX, hpad, ← hm]] at x0
        have k1 : (m : Int) < (pads.length : Int) := by omega
        have k2 : (0 : Int) ≤ (m : Int) := by omega
        have HBC := Aside0.mk (blank_calls wr X (by rw [hX]; exact HPU.out))
        have HX : Aside0 (blankW (padAt pads i) = blankW X) := ⟨by rw [hX]⟩
        subst hA2
        clear hX hm hml hpad
        go_wp2_with (first
          | (go_at_call 36; (with_reducible refine HBC.out.mono ?_); rintro e w3 ⟨rfl, hb3⟩; have HB3 := Aside0.mk (below_step hbe.out hb3); have HO3 := Aside0.mk (Kd.R_below hro.out hb3); have HP3 := Aside0.mk (Kd.R_below hrp.out hb3); clear hb3)
          | ((with_reducible refine gate_builtin (b := .append) (xs := #[.tmp 30, .tmp 32]) rfl ?_); at_builtin; refine R_append_str (w0 := w) w.heap.size rfl (.tmp 30) (.tmp 32) 36 9 5 rfl Try.underlying36 Try.underlying9 infoB (.slice Ao o.length co) o (blankW X) rfl rfl HO3.out HB3.out HB3.out.size (by have := HOL.out.1; have := (blank_all X).1; omega) ?_; intro v4 w4 ho hb hg; obtain ⟨A4, c4, hv4⟩ := Kd.R_slice ho; obtain ⟨o4, ho4⟩ : ∃ o4, o4 = o ++ bytesOf (blankW X) := ⟨_, rfl⟩; rw [← ho4] at ho hv4; subst hv4; have HO4 := Aside0.mk ho; have HE4 := Aside0.mk ho4; have HB4 := Aside0.mk hb; have HP4 := Aside0.mk (Kd.R_grown2 HP3.out rfl hg (R_apart HO3.out HP3.out (by decide))); clear ho hb hg ho4)
          | ((with_reducible refine gate_builtin (b := .append) (xs := #[.tmp 34, .tmp 37]) rfl ?_); at_builtin; refine Kd.R_append (Kd.int .i64) (w0 := w) w.heap.size rfl (.tmp 34) (.tmp 37) 40 3 (.int .i64 0) 8 rfl Try.underlying40 infoI rfl (by decide) (by omega) (.slice Ap ps.length cp) ps (o4.length : Int) [.int .i64 (o4.length : Int)] (fun _ => True) (fun _ => False) rfl rfl (show (Kd.int .i64).M _ _ _ (o4.length : Int) [.int .i64 (o4.length : Int)] from rfl) (fun _ hk => hk.elim) (fun _ _ => trivial) HP4.out HB4.out HB4.out.size (by have := HOL.out.2; omega) ?_; intro v5 w5 ho hb hg hat; obtain ⟨A5, c5, hv5⟩ := Kd.R_slice ho; obtain ⟨p5, hp5⟩ : ∃ p5, p5 = ps ++ [(o4.length : Int)] := ⟨_, rfl⟩; rw [← hp5] at ho hv5; subst hv5; have HP5 := Aside0.mk ho; have HE5 := Aside0.mk hp5; have HB5 := Aside0.mk hb; have HO5 := Aside0.mk (Kd.R_grown2 HO4.out rfl hg (R_apart HP4.out HO4.out (by decide))); clear ho hb hg hat hp5)
          | fail)
        obtain ⟨at_, hAt, x1, x2, x3, x4, x5⟩ := at_T47 (Kd.C_below H1.out HB5.out) (i : Int) (by omega) (by have := HLT.out; omega)
        subst hAt
        rw [Int.toNat_natCast, show rd_T47 L (i : Int) = t by unfold rd_T47; rw [Int.toNat_natCast, HTT.out]] at x4 x5
        have HTK : Aside0 (∀ W', Below w5.heap.size w5 W' → W'.cell? ⟨(at_.add (i * 5)).block, (at_.add (i * 5)).off + 3, none⟩ = some (.int .i64 t.f3) ∧ W'.cell? ⟨(at_.add (i * 5)).block, (at_.add (i * 5)).off + 4, none⟩ = some (.int .i64 t.f4)) := ⟨fun W' hW' => by
          obtain ⟨a2, e2, z1, z2, z3, z4, z5⟩ := at_T47 (Kd.C_below H1.out (below_step HB5.out hW')) (i : Int) (by omega) (by have := HLT.out; omega)
          injection e2 with e2
          subst e2
          rw [Int.toNat_natCast, show rd_T47 L (i : Int) = t by unfold rd_T47; rw [Int.toNat_natCast, HTT.out]] at z4 z5
          exact ⟨z4, z5⟩⟩
        clear x1 x2 x3 x4 x5
        obtain ⟨q0, q1, q2⟩ := HTL.out
        have hbS := below_drew1 (Below.refl w5.heap.size w5)
        obtain ⟨y3, y4⟩ := HTK.out _ hbS
        have li : (i : Int) < (L.length : Int) := by have := HLT.out; omega
        go_region_held3 (fun w' => w'.cell? ⟨(at_.add (i * 5)).block, (at_.add (i * 5)).off + 3, none⟩ = some (.int .i64 t.f3) ∧ w'.cell? ⟨(at_.add (i * 5)).block, (at_.add (i * 5)).off + 4, none⟩ = some (.int .i64 t.f4) ∧ Below w5.heap.size w5 w') (exact ⟨y3, y4, hbS⟩) (fail)
        go_wp2_with fail
        have hbS2 := below_drew1 hbS
        obtain ⟨y3, y4⟩ := HTK.out _ hbS2
        refine start_ (n := 15) (S := (fun w' : World => w'.cell? ⟨(at_.add (i * 5)).block, (at_.add (i * 5)).off + 3, none⟩ = some (.int .i64 t.f3) ∧ w'.cell? ⟨(at_.add (i * 5)).block, (at_.add (i * 5)).off + 4, none⟩ = some (.int .i64 t.f4))) (ds := [13]) #[false, false, false, false, false, false, false, false, false, false, false, false, false, false, false] (by kernel_rfl) rfl rfl (⟨y3, y4⟩) (fun hHeld => ?_)
        refine pure_ (i := 0) (N := (some 68)) (v := ?_) (a' := ?_) #[true, false, false, false, false, false, false, false, false, false, false, false, false, false, false] rfl rfl (by kernel_rfl) (fun _ _ _ h => h) (Or.inl ⟨by rfl, ?_⟩) ?_ ?_
        rotate_left
        · intro w'
          go_simp
          with_reducible rfl
        rotate_left
        · simp only [Act.put, List.setIfInBounds_toArray, List.set_cons_zero, List.set_cons_succ, i64_w, i32_w]
          rfl
        refine pure_ (i := 1) (N := (some 69)) (v := ?_) (a' := ?_) #[true, true, false, false, false, false, false, false, false, false, false, false, false, false, false] rfl rfl (by kernel_rfl) (fun _ _ _ h => h) (Or.inl ⟨by rfl, ?_⟩) ?_ ?_
        rotate_left
        · intro w'
          go_simp
          with_reducible rfl
        rotate_left
        · simp only [Act.put, List.setIfInBounds_toArray, List.set_cons_zero, List.set_cons_succ, i64_w, i32_w]
          rfl
        refine pure_ (i := 2) (N := (some 70)) (v := ?_) (a' := ?_) #[true, true, true, false, false, false, false, false, false, false, false, false, false, false, false] rfl rfl (by kernel_rfl) (fun _ _ _ h => h) (Or.inl ⟨by rfl, ?_⟩) ?_ ?_
        rotate_left
        · intro w'
          go_simp
          with_reducible rfl
        rotate_left
        · simp only [Act.put, List.setIfInBounds_toArray, List.set_cons_zero, List.set_cons_succ, i64_w, i32_w]
          rfl
        refine pure_ (i := 3) (N := (some 71)) (v := ?_) (a' := ?_) #[true, true, true, true, false, false, false, false, false, false, false, false, false, false, false] rfl rfl (by kernel_rfl) (fun _ _ _ h => h) (Or.inl ⟨by rfl, ?_⟩) ?_ ?_
        rotate_left
        · intro w'
          go_simp
          with_reducible rfl
        rotate_left
        · simp only [Act.put, List.setIfInBounds_toArray, List.set_cons_zero, List.set_cons_succ, i64_w, i32_w]
          rfl
        refine pure_ (i := 4) (N := (some 72)) (v := ?_) (a' := ?_) #[true, true, true, true, true, false, false, false, false, false, false, false, false, false, false] rfl rfl (by kernel_rfl) (fun _ _ _ h => h) (Or.inl ⟨by rfl, ?_⟩) ?_ ?_
        rotate_left
        · intro w'
          go_simp
          with_reducible rfl
        rotate_left
        · simp only [Act.put, List.setIfInBounds_toArray, List.set_cons_zero, List.set_cons_succ, i64_w, i32_w]
          rfl
        refine pure_ (i := 5) (N := (some 73)) (v := ?_) (a' := ?_) #[true, true, true, true, true, true, false, false, false, false, false, false, false, false, false] rfl rfl (by kernel_rfl) (fun _ _ _ h => h) (Or.inl ⟨by rfl, ?_⟩) ?_ ?_
        rotate_left
        · intro w'
          go_simp
          with_reducible rfl
        rotate_left
        · simp only [Act.put, List.setIfInBounds_toArray, List.set_cons_zero, List.set_cons_succ, i64_w, i32_w]
          rfl
        refine take_ (i := 6) (N := (some 74)) (v := ?_) (a' := ?_) #[true, true, true, true, true, true, true, false, false, false, false, false, false, false, false] rfl rfl (by kernel_rfl) (fun _ _ _ h => h) (Or.inl ⟨by rfl, ?_⟩) hHeld ?_ ?_
        rotate_left
        · intro w' hS'
          obtain ⟨y3, y4⟩ := id hS'
          clear hS'
          go_simp
          with_reducible rfl
        rotate_left
        · simp only [Act.put, List.setIfInBounds_toArray, List.set_cons_zero, List.set_cons_succ, i64_w, i32_w]
          rfl
        refine pure_ (i := 7) (N := (some 75)) (v := ?_) (a' := ?_) #[true, true, true, true, true, true, true, true, false, false, false, false, false, false, false] rfl rfl (by kernel_rfl) (fun _ _ _ h => h) (Or.inl ⟨by rfl, ?_⟩) ?_ ?_
        rotate_left
        · intro w'
          go_simp
          with_reducible rfl
        rotate_left
        · simp only [Act.put, List.setIfInBounds_toArray, List.set_cons_zero, List.set_cons_succ, i64_w, i32_w]
          rfl
        refine pure_ (i := 8) (N := (some 76)) (v := ?_) (a' := ?_) #[true, true, true, true, true, true, true, true, true, false, false, false, false, false, false] rfl rfl (by kernel_rfl) (fun _ _ _ h => h) (Or.inl ⟨by rfl, ?_⟩) ?_ ?_
        rotate_left
        · intro w'
          go_simp
          with_reducible rfl
        rotate_left
        · simp only [Act.put, List.setIfInBounds_toArray, List.set_cons_zero, List.set_cons_succ, i64_w, i32_w]
          rfl
        refine pure_ (i := 9) (N := (some 77)) (v := ?_) (a' := ?_) #[true, true, true, true, true, true, true, true, true, true, false, false, false, false, false] rfl rfl (by kernel_rfl) (fun _ _ _ h => h) (Or.inl ⟨by rfl, ?_⟩) ?_ ?_
        rotate_left
        · intro w'
          go_simp
          with_reducible rfl
        rotate_left
        · simp only [Act.put, List.setIfInBounds_toArray, List.set_cons_zero, List.set_cons_succ, i64_w, i32_w]
          rfl
        refine pure_ (i := 10) (N := (some 78)) (v := ?_) (a' := ?_) #[true, true, true, true, true, true, true, true, true, true, true, false, false, false, false] rfl rfl (by kernel_rfl) (fun _ _ _ h => h) (Or.inl ⟨by rfl, ?_⟩) ?_ ?_
        rotate_left
        · intro w'
          go_simp
          with_reducible rfl
        rotate_left
        · simp only [Act.put, List.setIfInBounds_toArray, List.set_cons_zero, List.set_cons_succ, i64_w, i32_w]
          rfl
        refine take_ (i := 11) (N := (some 79)) (v := ?_) (a' := ?_) #[true, true, true, true, true, true, true, true, true, true, true, true, false, false, false] rfl rfl (by kernel_rfl) (fun _ _ _ h => h) (Or.inl ⟨by rfl, ?_⟩) hHeld ?_ ?_
        rotate_left
        · intro w' hS'
          obtain ⟨y3, y4⟩ := id hS'
          clear hS'
          go_simp
          with_reducible rfl
        rotate_left
        · simp only [Act.put, List.setIfInBounds_toArray, List.set_cons_zero, List.set_cons_succ, i64_w, i32_w]
          rfl
        refine pure_ (i := 12) (N := (some 80)) (v := ?_) (a' := ?_) #[true, true, true, true, true, true, true, true, true, true, true, true, true, false, false] rfl rfl (by kernel_rfl) (fun _ _ _ h => h) (Or.inl ⟨by rfl, ?_⟩) ?_ ?_
        rotate_left
        · intro w'
          go_simp
          with_reducible rfl
        rotate_left
        · simp only [Act.put, List.setIfInBounds_toArray, List.set_cons_zero, List.set_cons_succ, i64_w, i32_w]
          rfl
        refine last_ (i := 13) (N := (some 81)) #[true, true, true, true, true, true, true, true, true, true, true, true, true, true, false] rfl rfl (by kernel_rfl) (by decide) (fun K hK => ?_)
        refine R_append_str_step (N := some 81) rfl (w0 := w) w.heap.size (by rfl) (.tmp 68) (.tmp 80) 36 9 5 rfl Try.underlying36 Try.underlying9 infoB (.slice A4 o4.length c4) o4 (s.extract t.f3.toNat t.f4.toNat) (by rfl) (by rfl) (Kd.R_below HO5.out hbS2) (below_step HB5.out hbS2) (below_step HB5.out hbS2).size (by rw [ByteArray.size_extract]; have h1 := HE4.out; have h2 := HOL.out.1; have h3 := HS.out; have h4 := congrArg List.length h1; rw [List.length_append, bytesOf_len] at h4; have h5 := (blank_all X).1; omega) ?_
        intro v6 w6 ho hb hg
        obtain ⟨A6, c6, hv6⟩ := Kd.R_slice ho
        obtain ⟨o6, ho6⟩ : ∃ o6, o6 = o4 ++ bytesOf (s.extract t.f3.toNat t.f4.toNat) := ⟨_, rfl⟩
        rw [← ho6] at ho hv6
        subst hv6
        have HO6 := Aside0.mk ho
        have HE6 := Aside0.mk ho6
        have HB6 := Aside0.mk hb
        have HP6 := Aside0.mk (Kd.R_grown2 (Kd.R_below HP5.out hbS2) rfl hg (R_apart (Kd.R_below HO5.out hbS2) (Kd.R_below HP5.out hbS2) (by decide)))
        clear ho hb hg ho6
        refine hK.out _ _ ?_
        clear hK K
        refine pure_ (i := 14) (N := (some 8)) (v := ?_) (a' := ?_) #[true, true, true, true, true, true, true, true, true, true, true, true, true, true, true] rfl rfl (by kernel_rfl) (fun _ _ _ h => h) (Or.inl ⟨by rfl, ?_⟩) ?_ ?_
        rotate_left
        · intro w'
          go_simp
          with_reducible rfl
        rotate_left
        · simp only [Act.put, List.setIfInBounds_toArray, List.set_cons_zero, List.set_cons_succ, i64_w, i32_w]
          rfl
        refine done_ (by kernel_rfl) ?_
        clear y3 y4 hbS hbS2
        go_wp2
        rw [HNX.out]
        exact ⟨⟨i + 1, o6, p5, A6, A5, c6, c5, rfl, rfl, rfl, ⟨HLT.out⟩, ⟨by
          rw [HST.out, hsp.out]
          unfold spStep
          have hq : pieceB s t = s.extract t.f3.toNat t.f4.toNat := by unfold pieceB; rw [if_pos HTL.out]
          simp only []
          rw [HX.out, hq, ← HE4.out, ← HE6.out, ← HE5.out]⟩, HO6, HP6, HB6⟩, by have := HLT.out; simp only [left, Int.toNat_natCast]; omega⟩
    · have dl2 : decide ((i : Int) < (L.length : Int)) = false := decide_eq_false (by omega)
      have hie : i = L.length := by have := hi.out; omega
      have hsp' := hsp.out
      unfold spP at hsp'
      rw [hie, List.take_length] at hsp'
      have HSP := Aside0.mk hsp'
      clear hsp' hie
      have hcv : (convert 36 9 (.slice Ao o.length co)).run Try.prog wr = .ok (.string (strOfNums o)) wr := own_string Try.underlying36 Try.underlying5 Try.underlying9 (Kd.own_of_R hro.out)
      go_wp2
      go_ret2
      rw [HSP.out]
      exact ⟨Ap, cp, rfl, hrp.out, hbe.out⟩
end Go.Proofs.Ytbdcndkafaajpaa.A
end
section
namespace Go.Proofs.Ytbdcndkafaajpaa.X
open Go.RowKit Go.Proofs.YtbdcndkafaajpaaW.PrintWords Go.Proofs.YtbdcndkafaajpaaW.PrintLast Go.Proofs.YtbdcndkafaajpaaW.PrintMore
attribute [local go_sem] max2_int min2_int max_two min_two max_three min_three max_four min_four   -- for this text's walks alone
set_option linter.unusedVariables false
set_option linter.unusedSimpArgs false
def stratumref08_digit.f (a0 : Int) : Option (Bool) := if a0 ≥ 48 then (some (decide (a0 ≤ 57))) else (some false)
set_option maxHeartbeats 8000000 in
set_option maxRecDepth 100000 in
theorem stratumref08_digit.calls (a0 : Int) (r : Bool) (w : World) (h : stratumref08_digit.f a0 = some r) :
    Calls Try.prog 66 #[.int .u8 a0] w fun e w' => e = .returned (.bool r) ∧ Drawn0 w w' := by
  have H : (if a0 ≥ 48 then (some (decide (a0 ≤ 57))) else (some false)) = some r := h
  clear h
  by_cases c2 : a0 ≥ 48
  · rw [if_pos c2] at H
    have c2b0 : decide (48 ≤ a0) = true := decide_eq_true c2
    clear c2
    obtain rfl := Option.some.inj H
    go_enter Try.func66, Try.ntmps66
    go_wp2
    go_ret
    exact ⟨by first | rfl | (simp; done) | (simp [*]; done), by repeat (first | exact Drawn0.refl _ | apply Drawn0.step)⟩
  · rw [if_neg c2] at H
    have c2b0 : decide (48 ≤ a0) = false := decide_eq_false c2
    clear c2
    obtain rfl := Option.some.inj H
    go_enter Try.func66, Try.ntmps66
    go_wp2
    go_ret
    exact ⟨by first | rfl | (simp; done) | (simp [*]; done), by repeat (first | exact Drawn0.refl _ | apply Drawn0.step)⟩
def stratumref08_word.l0 : Nat → ByteArray → Int → Int → Option (Int × ByteArray × Int × Int × Int × Int × Int)
  | 0, _, _, _ => none
  | k + 1, x0, x1, x7 => if x7 < (x0.size : Int) then (if 0 ≤ x7 then ((stratumref08_letter.f (bt x0 x7)).bind fun t150 => (if t150 = true then (stratumref08_word.l0 k x0 x1 (wrap64 (x7 + 1))) else ((stratumref08_digit.f (bt x0 x7)).bind fun t151 => (if t151 = true then (stratumref08_word.l0 k x0 x1 (wrap64 (x7 + 1))) else (if (wrap64 (x7 - x1)) > 64 then (some (0, (⟨#[]⟩ : ByteArray), 0, 0, 0, x1, 111)) else (if 0 ≤ x1 then (if x1 ≤ x7 then (if x7 ≤ (x0.size : Int) then (some (1, x0.extract (x1 : Int).toNat (x7 : Int).toNat, 0, x1, x7, 0, 0)) else (none)) else (none)) else (none))))))) else (none)) else (if (wrap64 (x7 - x1)) > 64 then (some (0, (⟨#[]⟩ : ByteArray), 0, 0, 0, x1, 111)) else (if 0 ≤ x1 then (if x1 ≤ x7 then (if x7 ≤ (x0.size : Int) then (some (1, x0.extract (x1 : Int).toNat (x7 : Int).toNat, 0, x1, x7, 0, 0)) else (none)) else (none)) else (none)))
def stratumref08_word.f (k : Nat) (a0 : ByteArray) (a1 : Int) : Option (Int × ByteArray × Int × Int × Int × Int × Int) := stratumref08_word.l0 k a0 a1 a1
theorem stratumref08_word.mono_l : ∀ k, (∀ y0 y1 y2, LeO (stratumref08_word.l0 k y0 y1 y2) (stratumref08_word.l0 (k + 1) y0 y1 y2))
  | 0 => fun _ _ _ r h => by simp [stratumref08_word.l0] at h
  | k + 1 => by
    have ih0 := stratumref08_word.mono_l k
    · intro y0 y1 y2
      unfold stratumref08_word.l0
      repeat' first
      | (with_reducible exact ih0 _ _ _)
      | (with_reducible exact LeO.refl _)
      | (with_reducible exact LeO.none _)
      | (with_reducible refine LeO.ite ?_ ?_)
      | (with_reducible refine LeO.bind ?_ (fun _ => ?_))
      | exact ih0 _ _ _
      | exact LeO.none _
      | refine LeO.ite ?_ ?_
      | refine LeO.bind ?_ (fun _ => ?_)
theorem stratumref08_word.mono : ∀ a0 a1 k, LeO (stratumref08_word.f k a0 a1) (stratumref08_word.f (k + 1) a0 a1) := by
  intro a0 a1 k
  have ih0 := stratumref08_word.mono_l k
  unfold stratumref08_word.f
  repeat' first
      | (with_reducible exact ih0 _ _ _)
      | (with_reducible exact LeO.refl _)
      | (with_reducible exact LeO.none _)
      | (with_reducible refine LeO.ite ?_ ?_)
      | (with_reducible refine LeO.bind ?_ (fun _ => ?_))
      | exact ih0 _ _ _
      | exact LeO.none _
      | refine LeO.ite ?_ ?_
      | refine LeO.bind ?_ (fun _ => ?_)
set_option maxHeartbeats 8000000 in
set_option maxRecDepth 100000 in
theorem stratumref08_word.calls (k : Nat) (a0 : ByteArray) (a1 : Int) (r1 : Int) (r2 : ByteArray) (r3 : Int) (r4 : Int) (r5 : Int) (r6 : Int) (r7 : Int) (w : World) (h : stratumref08_word.f k a0 a1 = some (r1, r2, r3, r4, r5, r6, r7)) :
    Calls Try.prog 65 #[.string a0, .int .i64 a1] w fun e w' => e = .returned (.tuple #[.agg #[.int .i64 r1, .string r2, .int .u64 r3, .int .i64 r4, .int .i64 r5], .int .i64 r6, .int .i64 r7]) ∧ Below w.heap.size w w' := by
  have hu47 := Try.underlying47
  have HB := Aside0.mk (Below.refl w.heap.size w)
  have H : (stratumref08_word.l0 k a0 a1 a1) = some (r1, r2, r3, r4, r5, r6, r7) := h
  clear h
  have H' := Aside0.mk H
  clear H
  go_enter Try.func65, Try.ntmps65
  go_wp2_with (first | ((with_reducible refine gate_dst (N := 4) rfl ?_); refine box_event ?hg (N := 4) ?hd (cs := #[.int .i64 0, .string (⟨#[]⟩ : ByteArray), .int .u64 0, .int .i64 0, .int .i64 0]) (t := 47) ?hr ?_; (case hd => rfl); (case hg => rfl); (case hr => first | (go_simp; done) | (go_simp; rfl)); intro gb149 hg w3 hbox hb; have n0_ := Aside0.mk (below_step (by repeat (first | (with_reducible first | exact HB.out | apply below_alloc | apply pw_below_drewN | apply below_drew1) | exact HB.out)) hb); have n1_ := Aside0.mk (hbox); have n2_ := Aside0.mk ((by rw [hg]; exact (below_size (by repeat (first | (with_reducible first | exact HB.out | apply below_alloc | apply pw_below_drewN | apply below_drew1) | exact HB.out))) : w.heap.size ≤ gb149)); have n3_ := Aside0.mk ((by rw [hg]; exact (below_size (by repeat (first | (with_reducible first | exact HB.out | apply below_alloc | apply pw_below_drewN | apply below_drew1) | exact HB.out))) : w.heap.size ≤ gb149)); clear HB; have HB := n0_; have BK149 := n1_; have GW149 := n2_; have GE149 := n3_; clear n0_ n1_ n2_ n3_; clear hb hbox hg))
  go_loopg [7] k (fun kq v7 w' => ∃ (x7_1 : Int), v7 = .int .i64 x7_1 ∧ Aside0 (stratumref08_word.l0 kq a0 a1 x7_1 = some (r1, r2, r3, r4, r5, r6, r7)) ∧ Aside0 (kq ≤ k) ∧ Aside0 (w'.heap[gb149]? = some (.cells #[.int .i64 0, .string (⟨#[]⟩ : ByteArray), .int .u64 0, .int .i64 0, .int .i64 0] 47 (0, 0))) ∧ Aside0 (Below w.heap.size w w'))
  case atStart => exact ⟨(a1), (by first | rfl | (simp; done) | (simp [*]; done)), H', ⟨Nat.le_refl _⟩, ⟨by (with_reducible repeat (first | refine blk_drewN ?_ _ | refine blk_drew ?_ | refine blk_alloc ?_ _)); exact BK149.out⟩, ⟨by repeat (first | (with_reducible first | exact HB.out | apply below_alloc | apply pw_below_drewN | apply below_drew1 | refine below_set ?_ GE149.out) | exact HB.out)⟩⟩
  case round =>
    clear H'
    try clear p2
    obtain ⟨x7_1, rfl, HA, HK1, BK149, HB⟩ := hrel
    cases gk with
    | zero => exact absurd HA.out (by simp [stratumref08_word.l0])
    | succ k1 =>
      have H := HA.out
      clear HA
      simp only [stratumref08_word.l0] at H
      by_cases c4 : x7_1 < (a0.size : Int)
      · rw [if_pos c4] at H
        have c4b0 : decide (x7_1 < (a0.size : Int)) = true := decide_eq_true c4
        clear c4
        by_cases c5 : 0 ≤ x7_1
        · rw [if_pos c5] at H
          have c5b0 : decide (0 ≤ x7_1) = true := decide_eq_true c5
          clear c5
          replace H := Option.bind_eq_some_iff.mp H
          obtain ⟨t150, A70, H⟩ := H
          replace H : (if t150 = true then (stratumref08_word.l0 k1 a0 a1 (wrap64 (x7_1 + 1))) else ((stratumref08_digit.f (bt a0 x7_1)).bind fun t151 => (if t151 = true then (stratumref08_word.l0 k1 a0 a1 (wrap64 (x7_1 + 1))) else (if (wrap64 (x7_1 - a1)) > 64 then (some (0, (⟨#[]⟩ : ByteArray), 0, 0, 0, a1, 111)) else (if 0 ≤ a1 then (if a1 ≤ x7_1 then (if x7_1 ≤ (a0.size : Int) then (some (1, a0.extract (a1 : Int).toNat (x7_1 : Int).toNat, 0, a1, x7_1, 0, 0)) else (none)) else (none)) else (none)))))) = some (r1, r2, r3, r4, r5, r6, r7) := H
          have A7 := Aside0.mk A70
          clear A70
          by_cases c8 : t150 = true
          · subst c8
            have H1 : (stratumref08_word.l0 k1 a0 a1 (wrap64 (x7_1 + 1))) = some (r1, r2, r3, r4, r5, r6, r7) := by rw [if_pos rfl] at H; exact H
            clear H
            have H := H1
            clear H1
            have H' := Aside0.mk H
            clear H
            have p6 : 0 ≤ (x7_1 : Int) := of_decide_eq_true (by first | (with_reducible assumption) | assumption)
            have q6 : x7_1 < (a0.size : Int) := of_decide_eq_true (by first | (with_reducible assumption) | assumption)
            have hx6 := bt_at a0 x7_1
            replace p6 := eq_true p6
            replace q6 := eq_true q6
            go_wp2_with (first | (go_at_call 64; (with_reducible refine (stratumref08_letter.calls (bt a0 x7_1) true _ A7.out).mono ?_); rintro e w' ⟨rfl, ⟨nd, rfl⟩⟩))
            go_roundg k1
            case measure => have := HK1.out; omega
            case rel => exact ⟨(wrap64 (x7_1 + 1)), (by first | rfl | (simp; done) | (simp [*]; done)), H', ⟨by have := HK1.out; omega⟩, ⟨by (with_reducible repeat (first | refine blk_drewN ?_ _ | refine blk_drew ?_ | refine blk_alloc ?_ _)); exact BK149.out⟩, ⟨by repeat (first | (with_reducible first | exact HB.out | apply below_alloc | apply pw_below_drewN | apply below_drew1 | refine below_set ?_ GE149.out) | exact HB.out)⟩⟩
          · replace c8 := Bool.eq_false_iff.mpr c8
            subst c8
            have H1 : ((stratumref08_digit.f (bt a0 x7_1)).bind fun t151 => (if t151 = true then (stratumref08_word.l0 k1 a0 a1 (wrap64 (x7_1 + 1))) else (if (wrap64 (x7_1 - a1)) > 64 then (some (0, (⟨#[]⟩ : ByteArray), 0, 0, 0, a1, 111)) else (if 0 ≤ a1 then (if a1 ≤ x7_1 then (if x7_1 ≤ (a0.size : Int) then (some (1, a0.extract (a1 : Int).toNat (x7_1 : Int).toNat, 0, a1, x7_1, 0, 0)) else (none)) else (none)) else (none))))) = some (r1, r2, r3, r4, r5, r6, r7) := by rw [if_neg (show ¬ (false = true) by decide)] at H; exact H
            clear H
            have H := H1
            clear H1
            replace H := Option.bind_eq_some_iff.mp H
            obtain ⟨t151, A100, H⟩ := H
            replace H : (if t151 = true then (stratumref08_word.l0 k1 a0 a1 (wrap64 (x7_1 + 1))) else (if (wrap64 (x7_1 - a1)) > 64 then (some (0, (⟨#[]⟩ : ByteArray), 0, 0, 0, a1, 111)) else (if 0 ≤ a1 then (if a1 ≤ x7_1 then (if x7_1 ≤ (a0.size : Int) then (some (1, a0.extract (a1 : Int).toNat (x7_1 : Int).toNat, 0, a1, x7_1, 0, 0)) else (none)) else (none)) else (none)))) = some (r1, r2, r3, r4, r5, r6, r7) := H
            have A10 := Aside0.mk A100
            clear A100
            by_cases c11 : t151 = true
            · subst c11
              have H1 : (stratumref08_word.l0 k1 a0 a1 (wrap64 (x7_1 + 1))) = some (r1, r2, r3, r4, r5, r6, r7) := by rw [if_pos rfl] at H; exact H
              clear H
              have H := H1
              clear H1
              have H' := Aside0.mk H
              clear H
              have p6 : 0 ≤ (x7_1 : Int) := of_decide_eq_true (by first | (with_reducible assumption) | assumption)
              have q6 : x7_1 < (a0.size : Int) := of_decide_eq_true (by first | (with_reducible assumption) | assumption)
              have hx6 := bt_at a0 x7_1
              replace p6 := eq_true p6
              replace q6 := eq_true q6
              go_wp2_with (first | (go_at_call 64; (with_reducible refine (stratumref08_letter.calls (bt a0 x7_1) false _ A7.out).mono ?_); rintro e w' ⟨rfl, ⟨nd, rfl⟩⟩; have p9 : 0 ≤ (x7_1 : Int) := of_decide_eq_true (by first | (with_reducible assumption) | assumption); have q9 : x7_1 < (a0.size : Int) := of_decide_eq_true (by first | (with_reducible assumption) | assumption); have hx9 := bt_at a0 x7_1; replace p9 := eq_true p9; replace q9 := eq_true q9) | (go_at_call 66; (with_reducible refine (stratumref08_digit.calls (bt a0 x7_1) true _ A10.out).mono ?_); rintro e w' ⟨rfl, ⟨nd, rfl⟩⟩))
              go_roundg k1
              case measure => have := HK1.out; omega
              case rel => exact ⟨(wrap64 (x7_1 + 1)), (by first | rfl | (simp; done) | (simp [*]; done)), H', ⟨by have := HK1.out; omega⟩, ⟨by (with_reducible repeat (first | refine blk_drewN ?_ _ | refine blk_drew ?_ | refine blk_alloc ?_ _)); exact BK149.out⟩, ⟨by repeat (first | (with_reducible first | exact HB.out | apply below_alloc | apply pw_below_drewN | apply below_drew1 | refine below_set ?_ GE149.out) | exact HB.out)⟩⟩
            · replace c11 := Bool.eq_false_iff.mpr c11
              subst c11
              have H1 : (if (wrap64 (x7_1 - a1)) > 64 then (some (0, (⟨#[]⟩ : ByteArray), 0, 0, 0, a1, 111)) else (if 0 ≤ a1 then (if a1 ≤ x7_1 then (if x7_1 ≤ (a0.size : Int) then (some (1, a0.extract (a1 : Int).toNat (x7_1 : Int).toNat, 0, a1, x7_1, 0, 0)) else (none)) else (none)) else (none))) = some (r1, r2, r3, r4, r5, r6, r7) := by rw [if_neg (show ¬ (false = true) by decide)] at H; exact H
              clear H
              have H := H1
              clear H1
              by_cases c12 : (wrap64 (x7_1 - a1)) > 64
              · rw [if_pos c12] at H
                have c12b0 : decide (64 < (wrap64 (x7_1 - a1))) = true := decide_eq_true c12
                clear c12
                simp only [Option.some.injEq, Prod.mk.injEq] at H
                obtain ⟨rfl, rfl, rfl, rfl, rfl, rfl, rfl⟩ := H
                have p6 : 0 ≤ (x7_1 : Int) := of_decide_eq_true (by first | (with_reducible assumption) | assumption)
                have q6 : x7_1 < (a0.size : Int) := of_decide_eq_true (by first | (with_reducible assumption) | assumption)
                have hx6 := bt_at a0 x7_1
                replace p6 := eq_true p6
                replace q6 := eq_true q6
                go_wp2_with (first | (go_at_call 64; (with_reducible refine (stratumref08_letter.calls (bt a0 x7_1) false _ A7.out).mono ?_); rintro e w' ⟨rfl, ⟨nd, rfl⟩⟩; (try (rw [drewN_self wr]; generalize hq_ : World.drewN wr _ = wr; have n0_ : Aside0 (wr.heap[gb149]? = some (.cells #[.int .i64 0, .string (⟨#[]⟩ : ByteArray), .int .u64 0, .int .i64 0, .int .i64 0] 47 (0, 0))) := ⟨by rw [← hq_]; exact (by (with_reducible repeat (first | refine blk_drewN ?_ _ | refine blk_drew ?_ | refine blk_alloc ?_ _)); exact BK149.out)⟩; have n1_ : Aside0 (Below w.heap.size w wr) := ⟨by rw [← hq_]; exact (by repeat (first | (with_reducible first | exact HB.out | apply below_alloc | apply pw_below_drewN | apply below_drew1 | refine below_set ?_ GE149.out) | exact HB.out))⟩; clear BK149 HB hq_; have BK149 := n0_; have HB := n1_; clear n0_ n1_)); have p9 : 0 ≤ (x7_1 : Int) := of_decide_eq_true (by first | (with_reducible assumption) | assumption); have q9 : x7_1 < (a0.size : Int) := of_decide_eq_true (by first | (with_reducible assumption) | assumption); have hx9 := bt_at a0 x7_1; replace p9 := eq_true p9; replace q9 := eq_true q9) | (go_at_call 66; (with_reducible refine (stratumref08_digit.calls (bt a0 x7_1) false _ A10.out).mono ?_); rintro e w' ⟨rfl, ⟨nd, rfl⟩⟩; (try (rw [drewN_self wr]; generalize hq_ : World.drewN wr _ = wr; have n0_ : Aside0 (wr.heap[gb149]? = some (.cells #[.int .i64 0, .string (⟨#[]⟩ : ByteArray), .int .u64 0, .int .i64 0, .int .i64 0] 47 (0, 0))) := ⟨by rw [← hq_]; exact (by (with_reducible repeat (first | refine blk_drewN ?_ _ | refine blk_drew ?_ | refine blk_alloc ?_ _)); exact BK149.out)⟩; have n1_ : Aside0 (Below w.heap.size w wr) := ⟨by rw [← hq_]; exact (by repeat (first | (with_reducible first | exact HB.out | apply below_alloc | apply pw_below_drewN | apply below_drew1 | refine below_set ?_ GE149.out) | exact HB.out))⟩; clear BK149 HB hq_; have BK149 := n0_; have HB := n1_; clear n0_ n1_)); have hcz13_0 : wr.cell? ⟨gb149, 0, none⟩ = some (.int .i64 0) := (blk_cell BK149.out 0).trans rfl; have hcz13_1 : wr.cell? ⟨gb149, 1, none⟩ = some (.string (⟨#[]⟩ : ByteArray)) := (blk_cell BK149.out 1).trans rfl; have hcz13_2 : wr.cell? ⟨gb149, 2, none⟩ = some (.int .u64 0) := (blk_cell BK149.out 2).trans rfl; have hcz13_3 : wr.cell? ⟨gb149, 3, none⟩ = some (.int .i64 0) := (blk_cell BK149.out 3).trans rfl; have hcz13_4 : wr.cell? ⟨gb149, 4, none⟩ = some (.int .i64 0) := (blk_cell BK149.out 4).trans rfl; have hfz13_0 := blk_frozen BK149.out 0; have hfz13_1 := blk_frozen BK149.out 1; have hfz13_2 := blk_frozen BK149.out 2; have hfz13_3 := blk_frozen BK149.out 3; have hfz13_4 := blk_frozen BK149.out 4))
                refine bodyPost_ret (results_ctt rfl _ _ gb149 47 #[.int .i64 0, .string (⟨#[]⟩ : ByteArray), .int .u64 0, .int .i64 0, .int .i64 0] (0, 0) _ rfl (by (with_reducible repeat (first | refine blk_drewN ?_ _ | refine blk_drew ?_ | refine blk_alloc ?_ _)); refine blk_put (cs := #[.int .i64 0, .string (⟨#[]⟩ : ByteArray), .int .u64 0, .int .i64 0, .int .i64 0]) ?_ 4 _ rfl; (with_reducible repeat (first | refine blk_drewN ?_ _ | refine blk_drew ?_ | refine blk_alloc ?_ _)); refine blk_put (cs := #[.int .i64 0, .string (⟨#[]⟩ : ByteArray), .int .u64 0, .int .i64 0, .int .i64 0]) ?_ 3 _ rfl; (with_reducible repeat (first | refine blk_drewN ?_ _ | refine blk_drew ?_ | refine blk_alloc ?_ _)); refine blk_put (cs := #[.int .i64 0, .string (⟨#[]⟩ : ByteArray), .int .u64 0, .int .i64 0, .int .i64 0]) ?_ 2 _ rfl; (with_reducible repeat (first | refine blk_drewN ?_ _ | refine blk_drew ?_ | refine blk_alloc ?_ _)); refine blk_put (cs := #[.int .i64 0, .string (⟨#[]⟩ : ByteArray), .int .u64 0, .int .i64 0, .int .i64 0]) ?_ 1 _ rfl; (with_reducible repeat (first | refine blk_drewN ?_ _ | refine blk_drew ?_ | refine blk_alloc ?_ _)); refine blk_put (cs := #[.int .i64 0, .string (⟨#[]⟩ : ByteArray), .int .u64 0, .int .i64 0, .int .i64 0]) ?_ 0 _ rfl; (with_reducible repeat (first | refine blk_drewN ?_ _ | refine blk_drew ?_ | refine blk_alloc ?_ _)); exact BK149.out) Try.underlying47 rfl (by kernel_rfl)) rfl ?_
                exact ⟨by first | rfl | (simp [errW_none, errW_some] <;> rfl) | (simp [*, errW_none, errW_some] <;> rfl), by repeat (first | (with_reducible first | exact HB.out | apply below_alloc | apply pw_below_drewN | apply below_drew1 | refine below_set ?_ GE149.out) | exact HB.out)⟩
              · rw [if_neg c12] at H
                have c12b0 : decide (64 < (wrap64 (x7_1 - a1))) = false := decide_eq_false c12
                clear c12
                by_cases c14 : 0 ≤ a1
                · rw [if_pos c14] at H
                  have c14b0 := eq_true c14
                  have c14b1 : decide (0 ≤ a1) = true := decide_eq_true c14
                  clear c14
                  by_cases c15 : a1 ≤ x7_1
                  · rw [if_pos c15] at H
                    have c15b0 := eq_true c15
                    have c15b1 : decide (a1 ≤ x7_1) = true := decide_eq_true c15
                    clear c15
                    by_cases c16 : x7_1 ≤ (a0.size : Int)
                    · rw [if_pos c16] at H
                      have c16b0 := eq_true c16
                      have c16b1 : decide (x7_1 ≤ (a0.size : Int)) = true := decide_eq_true c16
                      clear c16
                      simp only [Option.some.injEq, Prod.mk.injEq] at H
                      obtain ⟨rfl, rfl, rfl, rfl, rfl, rfl, rfl⟩ := H
                      have p6 : 0 ≤ (x7_1 : Int) := of_decide_eq_true (by first | (with_reducible assumption) | assumption)
                      have q6 : x7_1 < (a0.size : Int) := of_decide_eq_true (by first | (with_reducible assumption) | assumption)
                      have hx6 := bt_at a0 x7_1
                      replace p6 := eq_true p6
                      replace q6 := eq_true q6
                      go_wp2_with (first | (go_at_call 64; (with_reducible refine (stratumref08_letter.calls (bt a0 x7_1) false _ A7.out).mono ?_); rintro e w' ⟨rfl, ⟨nd, rfl⟩⟩; (try (rw [drewN_self wr]; generalize hq_ : World.drewN wr _ = wr; have n0_ : Aside0 (wr.heap[gb149]? = some (.cells #[.int .i64 0, .string (⟨#[]⟩ : ByteArray), .int .u64 0, .int .i64 0, .int .i64 0] 47 (0, 0))) := ⟨by rw [← hq_]; exact (by (with_reducible repeat (first | refine blk_drewN ?_ _ | refine blk_drew ?_ | refine blk_alloc ?_ _)); exact BK149.out)⟩; have n1_ : Aside0 (Below w.heap.size w wr) := ⟨by rw [← hq_]; exact (by repeat (first | (with_reducible first | exact HB.out | apply below_alloc | apply pw_below_drewN | apply below_drew1 | refine below_set ?_ GE149.out) | exact HB.out))⟩; clear BK149 HB hq_; have BK149 := n0_; have HB := n1_; clear n0_ n1_)); have p9 : 0 ≤ (x7_1 : Int) := of_decide_eq_true (by first | (with_reducible assumption) | assumption); have q9 : x7_1 < (a0.size : Int) := of_decide_eq_true (by first | (with_reducible assumption) | assumption); have hx9 := bt_at a0 x7_1; replace p9 := eq_true p9; replace q9 := eq_true q9) | (go_at_call 66; (with_reducible refine (stratumref08_digit.calls (bt a0 x7_1) false _ A10.out).mono ?_); rintro e w' ⟨rfl, ⟨nd, rfl⟩⟩; (try (rw [drewN_self wr]; generalize hq_ : World.drewN wr _ = wr; have n0_ : Aside0 (wr.heap[gb149]? = some (.cells #[.int .i64 0, .string (⟨#[]⟩ : ByteArray), .int .u64 0, .int .i64 0, .int .i64 0] 47 (0, 0))) := ⟨by rw [← hq_]; exact (by (with_reducible repeat (first | refine blk_drewN ?_ _ | refine blk_drew ?_ | refine blk_alloc ?_ _)); exact BK149.out)⟩; have n1_ : Aside0 (Below w.heap.size w wr) := ⟨by rw [← hq_]; exact (by repeat (first | (with_reducible first | exact HB.out | apply below_alloc | apply pw_below_drewN | apply below_drew1 | refine below_set ?_ GE149.out) | exact HB.out))⟩; clear BK149 HB hq_; have BK149 := n0_; have HB := n1_; clear n0_ n1_)); have hcz17_0 : wr.cell? ⟨gb149, 0, none⟩ = some (.int .i64 0) := (blk_cell BK149.out 0).trans rfl; have hcz17_1 : wr.cell? ⟨gb149, 1, none⟩ = some (.string (⟨#[]⟩ : ByteArray)) := (blk_cell BK149.out 1).trans rfl; have hcz17_2 : wr.cell? ⟨gb149, 2, none⟩ = some (.int .u64 0) := (blk_cell BK149.out 2).trans rfl; have hcz17_3 : wr.cell? ⟨gb149, 3, none⟩ = some (.int .i64 0) := (blk_cell BK149.out 3).trans rfl; have hcz17_4 : wr.cell? ⟨gb149, 4, none⟩ = some (.int .i64 0) := (blk_cell BK149.out 4).trans rfl; have hfz17_0 := blk_frozen BK149.out 0; have hfz17_1 := blk_frozen BK149.out 1; have hfz17_2 := blk_frozen BK149.out 2; have hfz17_3 := blk_frozen BK149.out 3; have hfz17_4 := blk_frozen BK149.out 4))
                      refine bodyPost_ret (results_ctt rfl _ _ gb149 47 #[.int .i64 1, .string (a0.extract (a1 : Int).toNat (x7_1 : Int).toNat), .int .u64 0, .int .i64 a1, .int .i64 x7_1] (0, 0) _ rfl (by (with_reducible repeat (first | refine blk_drewN ?_ _ | refine blk_drew ?_ | refine blk_alloc ?_ _)); refine blk_put (cs := #[.int .i64 1, .string (a0.extract (a1 : Int).toNat (x7_1 : Int).toNat), .int .u64 0, .int .i64 a1, .int .i64 0]) ?_ 4 _ rfl; (with_reducible repeat (first | refine blk_drewN ?_ _ | refine blk_drew ?_ | refine blk_alloc ?_ _)); refine blk_put (cs := #[.int .i64 1, .string (a0.extract (a1 : Int).toNat (x7_1 : Int).toNat), .int .u64 0, .int .i64 0, .int .i64 0]) ?_ 3 _ rfl; (with_reducible repeat (first | refine blk_drewN ?_ _ | refine blk_drew ?_ | refine blk_alloc ?_ _)); refine blk_put (cs := #[.int .i64 1, .string (a0.extract (a1 : Int).toNat (x7_1 : Int).toNat), .int .u64 0, .int .i64 0, .int .i64 0]) ?_ 2 _ rfl; (with_reducible repeat (first | refine blk_drewN ?_ _ | refine blk_drew ?_ | refine blk_alloc ?_ _)); refine blk_put (cs := #[.int .i64 1, .string (⟨#[]⟩ : ByteArray), .int .u64 0, .int .i64 0, .int .i64 0]) ?_ 1 _ rfl; (with_reducible repeat (first | refine blk_drewN ?_ _ | refine blk_drew ?_ | refine blk_alloc ?_ _)); refine blk_put (cs := #[.int .i64 0, .string (⟨#[]⟩ : ByteArray), .int .u64 0, .int .i64 0, .int .i64 0]) ?_ 0 _ rfl; (with_reducible repeat (first | refine blk_drewN ?_ _ | refine blk_drew ?_ | refine blk_alloc ?_ _)); exact BK149.out) Try.underlying47 rfl (by kernel_rfl)) rfl ?_
                      exact ⟨by first | rfl | (simp [errW_none, errW_some] <;> rfl) | (simp [*, errW_none, errW_some] <;> rfl), by repeat (first | (with_reducible first | exact HB.out | apply below_alloc | apply pw_below_drewN | apply below_drew1 | refine below_set ?_ GE149.out) | exact HB.out)⟩
                    · rw [if_neg c16] at H
                      exact absurd H (by simp)
                  · rw [if_neg c15] at H
                    exact absurd H (by simp)
                · rw [if_neg c14] at H
                  exact absurd H (by simp)
        · rw [if_neg c5] at H
          exact absurd H (by simp)
      · rw [if_neg c4] at H
        have c4b0 : decide (x7_1 < (a0.size : Int)) = false := decide_eq_false c4
        clear c4
        by_cases c18 : (wrap64 (x7_1 - a1)) > 64
        · rw [if_pos c18] at H
          have c18b0 : decide (64 < (wrap64 (x7_1 - a1))) = true := decide_eq_true c18
          clear c18
          simp only [Option.some.injEq, Prod.mk.injEq] at H
          obtain ⟨rfl, rfl, rfl, rfl, rfl, rfl, rfl⟩ := H
          have hcz19_0 : wr.cell? ⟨gb149, 0, none⟩ = some (.int .i64 0) := (blk_cell BK149.out 0).trans rfl
          have hcz19_1 : wr.cell? ⟨gb149, 1, none⟩ = some (.string (⟨#[]⟩ : ByteArray)) := (blk_cell BK149.out 1).trans rfl
          have hcz19_2 : wr.cell? ⟨gb149, 2, none⟩ = some (.int .u64 0) := (blk_cell BK149.out 2).trans rfl
          have hcz19_3 : wr.cell? ⟨gb149, 3, none⟩ = some (.int .i64 0) := (blk_cell BK149.out 3).trans rfl
          have hcz19_4 : wr.cell? ⟨gb149, 4, none⟩ = some (.int .i64 0) := (blk_cell BK149.out 4).trans rfl
          have hfz19_0 := blk_frozen BK149.out 0
          have hfz19_1 := blk_frozen BK149.out 1
          have hfz19_2 := blk_frozen BK149.out 2
          have hfz19_3 := blk_frozen BK149.out 3
          have hfz19_4 := blk_frozen BK149.out 4
          go_wp2
          refine bodyPost_ret (results_ctt rfl _ _ gb149 47 #[.int .i64 0, .string (⟨#[]⟩ : ByteArray), .int .u64 0, .int .i64 0, .int .i64 0] (0, 0) _ rfl (by (with_reducible repeat (first | refine blk_drewN ?_ _ | refine blk_drew ?_ | refine blk_alloc ?_ _)); refine blk_put (cs := #[.int .i64 0, .string (⟨#[]⟩ : ByteArray), .int .u64 0, .int .i64 0, .int .i64 0]) ?_ 4 _ rfl; (with_reducible repeat (first | refine blk_drewN ?_ _ | refine blk_drew ?_ | refine blk_alloc ?_ _)); refine blk_put (cs := #[.int .i64 0, .string (⟨#[]⟩ : ByteArray), .int .u64 0, .int .i64 0, .int .i64 0]) ?_ 3 _ rfl; (with_reducible repeat (first | refine blk_drewN ?_ _ | refine blk_drew ?_ | refine blk_alloc ?_ _)); refine blk_put (cs := #[.int .i64 0, .string (⟨#[]⟩ : ByteArray), .int .u64 0, .int .i64 0, .int .i64 0]) ?_ 2 _ rfl; (with_reducible repeat (first | refine blk_drewN ?_ _ | refine blk_drew ?_ | refine blk_alloc ?_ _)); refine blk_put (cs := #[.int .i64 0, .string (⟨#[]⟩ : ByteArray), .int .u64 0, .int .i64 0, .int .i64 0]) ?_ 1 _ rfl; (with_reducible repeat (first | refine blk_drewN ?_ _ | refine blk_drew ?_ | refine blk_alloc ?_ _)); refine blk_put (cs := #[.int .i64 0, .string (⟨#[]⟩ : ByteArray), .int .u64 0, .int .i64 0, .int .i64 0]) ?_ 0 _ rfl; (with_reducible repeat (first | refine blk_drewN ?_ _ | refine blk_drew ?_ | refine blk_alloc ?_ _)); exact BK149.out) Try.underlying47 rfl (by kernel_rfl)) rfl ?_
          exact ⟨by first | rfl | (simp [errW_none, errW_some] <;> rfl) | (simp [*, errW_none, errW_some] <;> rfl), by repeat (first | (with_reducible first | exact HB.out | apply below_alloc | apply pw_below_drewN | apply below_drew1 | refine below_set ?_ GE149.out) | exact HB.out)⟩
        · rw [if_neg c18] at H
          have c18b0 : decide (64 < (wrap64 (x7_1 - a1))) = false := decide_eq_false c18
          clear c18
          by_cases c20 : 0 ≤ a1
          · rw [if_pos c20] at H
            have c20b0 := eq_true c20
            have c20b1 : decide (0 ≤ a1) = true := decide_eq_true c20
            clear c20
            by_cases c21 : a1 ≤ x7_1
            · rw [if_pos c21] at H
              have c21b0 := eq_true c21
              have c21b1 : decide (a1 ≤ x7_1) = true := decide_eq_true c21
              clear c21
              by_cases c22 : x7_1 ≤ (a0.size : Int)
              · rw [if_pos c22] at H
                have c22b0 := eq_true c22
                have c22b1 : decide (x7_1 ≤ (a0.size : Int)) = true := decide_eq_true c22
                clear c22
                simp only [Option.some.injEq, Prod.mk.injEq] at H
                obtain ⟨rfl, rfl, rfl, rfl, rfl, rfl, rfl⟩ := H
                have hcz23_0 : wr.cell? ⟨gb149, 0, none⟩ = some (.int .i64 0) := (blk_cell BK149.out 0).trans rfl
                have hcz23_1 : wr.cell? ⟨gb149, 1, none⟩ = some (.string (⟨#[]⟩ : ByteArray)) := (blk_cell BK149.out 1).trans rfl
                have hcz23_2 : wr.cell? ⟨gb149, 2, none⟩ = some (.int .u64 0) := (blk_cell BK149.out 2).trans rfl
                have hcz23_3 : wr.cell? ⟨gb149, 3, none⟩ = some (.int .i64 0) := (blk_cell BK149.out 3).trans rfl
                have hcz23_4 : wr.cell? ⟨gb149, 4, none⟩ = some (.int .i64 0) := (blk_cell BK149.out 4).trans rfl
                have hfz23_0 := blk_frozen BK149.out 0
                have hfz23_1 := blk_frozen BK149.out 1
                have hfz23_2 := blk_frozen BK149.out 2
                have hfz23_3 := blk_frozen BK149.out 3
                have hfz23_4 := blk_frozen BK149.out 4
                go_wp2
                refine bodyPost_ret (results_ctt rfl _ _ gb149 47 #[.int .i64 1, .string (a0.extract (a1 : Int).toNat (x7_1 : Int).toNat), .int .u64 0, .int .i64 a1, .int .i64 x7_1] (0, 0) _ rfl (by (with_reducible repeat (first | refine blk_drewN ?_ _ | refine blk_drew ?_ | refine blk_alloc ?_ _)); refine blk_put (cs := #[.int .i64 1, .string (a0.extract (a1 : Int).toNat (x7_1 : Int).toNat), .int .u64 0, .int .i64 a1, .int .i64 0]) ?_ 4 _ rfl; (with_reducible repeat (first | refine blk_drewN ?_ _ | refine blk_drew ?_ | refine blk_alloc ?_ _)); refine blk_put (cs := #[.int .i64 1, .string (a0.extract (a1 : Int).toNat (x7_1 : Int).toNat), .int .u64 0, .int .i64 0, .int .i64 0]) ?_ 3 _ rfl; (with_reducible repeat (first | refine blk_drewN ?_ _ | refine blk_drew ?_ | refine blk_alloc ?_ _)); refine blk_put (cs := #[.int .i64 1, .string (a0.extract (a1 : Int).toNat (x7_1 : Int).toNat), .int .u64 0, .int .i64 0, .int .i64 0]) ?_ 2 _ rfl; (with_reducible repeat (first | refine blk_drewN ?_ _ | refine blk_drew ?_ | refine blk_alloc ?_ _)); refine blk_put (cs := #[.int .i64 1, .string (⟨#[]⟩ : ByteArray), .int .u64 0, .int .i64 0, .int .i64 0]) ?_ 1 _ rfl; (with_reducible repeat (first | refine blk_drewN ?_ _ | refine blk_drew ?_ | refine blk_alloc ?_ _)); refine blk_put (cs := #[.int .i64 0, .string (⟨#[]⟩ : ByteArray), .int .u64 0, .int .i64 0, .int .i64 0]) ?_ 0 _ rfl; (with_reducible repeat (first | refine blk_drewN ?_ _ | refine blk_drew ?_ | refine blk_alloc ?_ _)); exact BK149.out) Try.underlying47 rfl (by kernel_rfl)) rfl ?_
                exact ⟨by first | rfl | (simp [errW_none, errW_some] <;> rfl) | (simp [*, errW_none, errW_some] <;> rfl), by repeat (first | (with_reducible first | exact HB.out | apply below_alloc | apply pw_below_drewN | apply below_drew1 | refine below_set ?_ GE149.out) | exact HB.out)⟩
              · rw [if_neg c22] at H
                exact absurd H (by simp)
            · rw [if_neg c21] at H
              exact absurd H (by simp)
          · rw [if_neg c20] at H
            exact absurd H (by simp)
mutual
def stratumref08_number.l0 : Nat → ByteArray → Int → Int → Int → Bool → Option (Int × ByteArray × Int × Int × Int × Int × Int)
  | 0, _, _, _, _, _ => none
  | k + 1, x0, x1, x7, x8, x9 => if x7 < (x0.size : Int) then (if 0 ≤ x7 then ((stratumref08_digit.f (bt x0 x7)).bind fun t153 => (stratumref08_number.j1 k x0 x1 x7 x8 x9 t153)) else (none)) else (stratumref08_number.j1 k x0 x1 x7 x8 x9 false)
def stratumref08_number.j1 : Nat → ByteArray → Int → Int → Int → Bool → Bool → Option (Int × ByteArray × Int × Int × Int × Int × Int)
  | 0, _, _, _, _, _, _ => none
  | k + 1, x0, x1, x7, x8, x9, x21 => if x21 = true then (if 0 ≤ x7 then (if x7 < (x0.size : Int) then (if x8 > 1844674407370955161 then (stratumref08_number.l0 k x0 x1 (wrap64 (x7 + 1)) (IntKind.u64.wrap ((IntKind.u64.wrap (x8 * 10)) + (((bt x0 x7) - 48) % 256))) true) else (if (IntKind.u64.wrap (x8 * 10)) > (18446744073709551615 - (((bt x0 x7) - 48) % 256)) then (stratumref08_number.l0 k x0 x1 (wrap64 (x7 + 1)) (IntKind.u64.wrap ((IntKind.u64.wrap (x8 * 10)) + (((bt x0 x7) - 48) % 256))) true) else (stratumref08_number.l0 k x0 x1 (wrap64 (x7 + 1)) (IntKind.u64.wrap ((IntKind.u64.wrap (x8 * 10)) + (((bt x0 x7) - 48) % 256))) x9))) else (none)) else (none)) else (if x9 = true then (some (0, (⟨#[]⟩ : ByteArray), 0, 0, 0, x1, 111)) else (some (2, (⟨#[]⟩ : ByteArray), x8, x1, x7, 0, 0)))
end
def stratumref08_number.f (k : Nat) (a0 : ByteArray) (a1 : Int) : Option (Int × ByteArray × Int × Int × Int × Int × Int) := stratumref08_number.l0 k a0 a1 a1 0 false
theorem stratumref08_number.mono_l : ∀ k, (∀ y0 y1 y2 y3 y4, LeO (stratumref08_number.l0 k y0 y1 y2 y3 y4) (stratumref08_number.l0 (k + 1) y0 y1 y2 y3 y4)) ∧ (∀ y0 y1 y2 y3 y4 y5, LeO (stratumref08_number.j1 k y0 y1 y2 y3 y4 y5) (stratumref08_number.j1 (k + 1) y0 y1 y2 y3 y4 y5))
  | 0 => ⟨fun _ _ _ _ _ r h => by simp [stratumref08_number.l0] at h, fun _ _ _ _ _ _ r h => by simp [stratumref08_number.j1] at h⟩
  | k + 1 => by
    obtain ⟨ih0, ih1⟩ := stratumref08_number.mono_l k
    refine ⟨?_, ?_⟩
    · intro y0 y1 y2 y3 y4
      unfold stratumref08_number.l0
      repeat' first
      | (with_reducible exact ih0 _ _ _ _ _)
      | (with_reducible exact ih1 _ _ _ _ _ _)
      | (with_reducible exact LeO.refl _)
      | (with_reducible exact LeO.none _)
      | (with_reducible refine LeO.ite ?_ ?_)
      | (with_reducible refine LeO.bind ?_ (fun _ => ?_))
      | exact ih0 _ _ _ _ _
      | exact ih1 _ _ _ _ _ _
      | exact LeO.none _
      | refine LeO.ite ?_ ?_
      | refine LeO.bind ?_ (fun _ => ?_)
    · intro y0 y1 y2 y3 y4 y5
      unfold stratumref08_number.j1
      repeat' first
      | (with_reducible exact ih0 _ _ _ _ _)
      | (with_reducible exact ih1 _ _ _ _ _ _)
      | (with_reducible exact LeO.refl _)
      | (with_reducible exact LeO.none _)
      | (with_reducible refine LeO.ite ?_ ?_)
      | (with_reducible refine LeO.bind ?_ (fun _ => ?_))
      | exact ih0 _ _ _ _ _
      | exact ih1 _ _ _ _ _ _
      | exact LeO.none _
      | refine LeO.ite ?_ ?_
      | refine LeO.bind ?_ (fun _ => ?_)
theorem stratumref08_number.mono : ∀ a0 a1 k, LeO (stratumref08_number.f k a0 a1) (stratumref08_number.f (k + 1) a0 a1) := by
  intro a0 a1 k
  obtain ⟨ih0, ih1⟩ := stratumref08_number.mono_l k
  unfold stratumref08_number.f
  repeat' first
      | (with_reducible exact ih0 _ _ _ _ _)
      | (with_reducible exact ih1 _ _ _ _ _ _)
      | (with_reducible exact LeO.refl _)
      | (with_reducible exact LeO.none _)
      | (with_reducible refine LeO.ite ?_ ?_)
      | (with_reducible refine LeO.bind ?_ (fun _ => ?_))
      | exact ih0 _ _ _ _ _
      | exact ih1 _ _ _ _ _ _
      | exact LeO.none _
      | refine LeO.ite ?_ ?_
      | refine LeO.bind ?_ (fun _ => ?_)
set_option maxHeartbeats 8000000 in
set_option maxRecDepth 100000 in
theorem stratumref08_number.calls (k : Nat) (a0 : ByteArray) (a1 : Int) (r1 : Int) (r2 : ByteArray) (r3 : Int) (r4 : Int) (r5 : Int) (r6 : Int) (r7 : Int) (w : World) (h : stratumref08_number.f k a0 a1 = some (r1, r2, r3, r4, r5, r6, r7)) :
    Calls Try.prog 67 #[.string a0, .int .i64 a1] w fun e w' => e = .returned (.tuple #[.agg #[.int .i64 r1, .string r2, .int .u64 r3, .int .i64 r4, .int .i64 r5], .int .i64 r6, .int .i64 r7]) ∧ Below w.heap.size w w' := by
  have hu47 := Try.underlying47
  have HB := Aside0.mk (Below.refl w.heap.size w)
  have H : (stratumref08_number.l0 k a0 a1 a1 0 false) = some (r1, r2, r3, r4, r5, r6, r7) := h
  clear h
  have H' := Aside0.mk H
  clear H
  go_enter Try.func67, Try.ntmps67
  go_wp2_with (first | ((with_reducible refine gate_dst (N := 4) rfl ?_); refine box_event ?hg (N := 4) ?hd (cs := #[.int .i64 0, .string (⟨#[]⟩ : ByteArray), .int .u64 0, .int .i64 0, .int .i64 0]) (t := 47) ?hr ?_; (case hd => rfl); (case hg => rfl); (case hr => first | (go_simp; done) | (go_simp; rfl)); intro gb152 hg w3 hbox hb; have n0_ := Aside0.mk (below_step (by repeat (first | (with_reducible first | exact HB.out | apply below_alloc | apply pw_below_drewN | apply below_drew1) | exact HB.out)) hb); have n1_ := Aside0.mk (hbox); have n2_ := Aside0.mk ((by rw [hg]; exact (below_size (by repeat (first | (with_reducible first | exact HB.out | apply below_alloc | apply pw_below_drewN | apply below_drew1) | exact HB.out))) : w.heap.size ≤ gb152)); have n3_ := Aside0.mk ((by rw [hg]; exact (below_size (by repeat (first | (with_reducible first | exact HB.out | apply below_alloc | apply pw_below_drewN | apply below_drew1) | exact HB.out))) : w.heap.size ≤ gb152)); clear HB; have HB := n0_; have BK152 := n1_; have GW152 := n2_; have GE152 := n3_; clear n0_ n1_ n2_ n3_; clear hb hbox hg))
  go_loopg [7, 8, 9] k (fun kq v7 v8 v9 w' => ∃ (x7_1 : Int) (x8_1 : Int) (x9_1 : Bool), v7 = .int .i64 x7_1 ∧ v8 = .int .u64 x8_1 ∧ v9 = .bool x9_1 ∧ Aside0 (stratumref08_number.l0 kq a0 a1 x7_1 x8_1 x9_1 = some (r1, r2, r3, r4, r5, r6, r7)) ∧ Aside0 (kq ≤ k) ∧ Aside0 (w'.heap[gb152]? = some (.cells #[.int .i64 0, .string (⟨#[]⟩ : ByteArray), .int .u64 0, .int .i64 0, .int .i64 0] 47 (0, 0))) ∧ Aside0 (Below w.heap.size w w'))
  case atStart => exact ⟨(a1), (0), (false), (by first | rfl | (simp; done) | (simp [*]; done)), (by first | rfl | (simp; done) | (simp [*]; done)), (by first | rfl | (simp; done) | (simp [*]; done)), H', ⟨Nat.le_refl _⟩, ⟨by (with_reducible repeat (first | refine blk_drewN ?_ _ | refine blk_drew ?_ | refine blk_alloc ?_ _)); exact BK152.out⟩, ⟨by repeat (first | (with_reducible first | exact HB.out | apply below_alloc | apply pw_below_drewN | apply below_drew1 | refine below_set ?_ GE152.out) | exact HB.out)⟩⟩
  case round =>
    clear H'
    try clear p2
    obtain ⟨x7_1, x8_1, x9_1, rfl, rfl, rfl, HA, HK1, BK152, HB⟩ := hrel
    cases gk with
    | zero => exact absurd HA.out (by simp [stratumref08_number.l0])
    | succ k1 =>
      have H := HA.out
      clear HA
      simp only [stratumref08_number.l0] at H
      have HC4 := Aside0.mk H
      clear H
      go_upto_region 4 with (fail)
      go_cut [21] (fun v21 wc => ∃ (kq : Nat) (x21_3 : Bool), v21 = .bool x21_3 ∧ Aside0 (stratumref08_number.j1 kq a0 a1 x7_1 x8_1 x9_1 x21_3 = some (r1, r2, r3, r4, r5, r6, r7)) ∧ Aside0 (kq ≤ k1) ∧ Aside0 (wc.heap[gb152]? = some (.cells #[.int .i64 0, .string (⟨#[]⟩ : ByteArray), .int .u64 0, .int .i64 0, .int .i64 0] 47 (0, 0))) ∧ Aside0 (Below w.heap.size w wc))
      case first =>
        have H := HC4.out
        clear HC4
        by_cases c5 : x7_1 < (a0.size : Int)
        · rw [if_pos c5] at H
          have c5b0 : decide (x7_1 < (a0.size : Int)) = true := decide_eq_true c5
          clear c5
          (first | rw [c5b0] | (simp only [i64_w, i32_w]; rw [c5b0]) | skip)
          by_cases c6 : 0 ≤ x7_1
          · rw [if_pos c6] at H
            have c6b0 : decide (0 ≤ x7_1) = true := decide_eq_true c6
            clear c6
            replace H := Option.bind_eq_some_iff.mp H
            obtain ⟨t153, A80, H⟩ := H
            replace H : (stratumref08_number.j1 k1 a0 a1 x7_1 x8_1 x9_1 t153) = some (r1, r2, r3, r4, r5, r6, r7) := H
            have A8 := Aside0.mk A80
            clear A80
            have H' := Aside0.mk H
            clear H
            have p7 : 0 ≤ (x7_1 : Int) := of_decide_eq_true (by first | (with_reducible assumption) | assumption)
            have q7 : x7_1 < (a0.size : Int) := of_decide_eq_true (by first | (with_reducible assumption) | assumption)
            have hx7 := bt_at a0 x7_1
            replace p7 := eq_true p7
            replace q7 := eq_true q7
            go_wp2_with (first | (go_at_call 66; (with_reducible refine (stratumref08_digit.calls (bt a0 x7_1) t153 _ A8.out).mono ?_); rintro e w' ⟨rfl, ⟨nd, rfl⟩⟩))
            go_meet
            case rel => exact ⟨_, (t153), (by first | rfl | (simp; done) | (simp [*]; done)), H', ⟨by have := HK1.out; first | omega | exact Nat.le_refl _⟩, ⟨by (with_reducible repeat (first | refine blk_drewN ?_ _ | refine blk_drew ?_ | refine blk_alloc ?_ _)); exact BK152.out⟩, ⟨by repeat (first | (with_reducible first | exact HB.out | apply below_alloc | apply pw_below_drewN | apply below_drew1 | refine below_set ?_ GE152.out) | exact HB.out)⟩⟩
          · rw [if_neg c6] at H
            exact absurd H (by simp)
        · rw [if_neg c5] at H
          have c5b0 : decide (x7_1 < (a0.size : Int)) = false := decide_eq_false c5
          clear c5
          (first | rw [c5b0] | (simp only [i64_w, i32_w]; rw [c5b0]) | skip)
          have H' := Aside0.mk H
          clear H
          go_wp2
          go_meet
          case rel => exact ⟨_, (false), (by first | rfl | (simp; done) | (simp [*]; done)), H', ⟨by have := HK1.out; first | omega | exact Nat.le_refl _⟩, ⟨by (with_reducible repeat (first | refine blk_drewN ?_ _ | refine blk_drew ?_ | refine blk_alloc ?_ _)); exact BK152.out⟩, ⟨by repeat (first | (with_reducible first | exact HB.out | apply below_alloc | apply pw_below_drewN | apply below_drew1 | refine below_set ?_ GE152.out) | exact HB.out)⟩⟩
      case rest =>
        clear HC4
        try clear p2
        try clear c5
        try clear c5b0
        try clear c6
        try clear c6b0
        try clear p7
        try clear q7
        try clear hx7
        try clear p2
        try clear p7
        try clear q7
        obtain ⟨kq, x21_3, rfl, HA, HJ3, BK152, HB⟩ := hcut
        cases kq with
        | zero => exact absurd HA.out (by simp [stratumref08_number.j1])
        | succ kj3 =>
          have H := HA.out
          clear HA
          simp only [stratumref08_number.j1] at H
          by_cases c9 : x21_3 = true
          · subst c9
            have H1 : (if 0 ≤ x7_1 then (if x7_1 < (a0.size : Int) then (if x8_1 > 1844674407370955161 then (stratumref08_number.l0 kj3 a0 a1 (wrap64 (x7_1 + 1)) (IntKind.u64.wrap ((IntKind.u64.wrap (x8_1 * 10)) + (((bt a0 x7_1) - 48) % 256))) true) else (if (IntKind.u64.wrap (x8_1 * 10)) > (18446744073709551615 - (((bt a0 x7_1) - 48) % 256)) then (stratumref08_number.l0 kj3 a0 a1 (wrap64 (x7_1 + 1)) (IntKind.u64.wrap ((IntKind.u64.wrap (x8_1 * 10)) + (((bt a0 x7_1) - 48) % 256))) true) else (stratumref08_number.l0 kj3 a0 a1 (wrap64 (x7_1 + 1)) (IntKind.u64.wrap ((IntKind.u64.wrap (x8_1 * 10)) + (((bt a0 x7_1) - 48) % 256))) x9_1))) else (none)) else (none)) = some (r1, r2, r3, r4, r5, r6, r7) := by rw [if_pos rfl] at H; exact H
            clear H
            have H := H1
            clear H1
            by_cases c10 : 0 ≤ x7_1
            · rw [if_pos c10] at H
              have c10b0 : decide (0 ≤ x7_1) = true := decide_eq_true c10
              clear c10
              by_cases c11 : x7_1 < (a0.size : Int)
              · rw [if_pos c11] at H
                have c11b0 : decide (x7_1 < (a0.size : Int)) = true := decide_eq_true c11
                clear c11
                by_cases c13 : x8_1 > 1844674407370955161
                · rw [if_pos c13] at H
                  have c13b0 : decide (1844674407370955161 < x8_1) = true := decide_eq_true c13
                  clear c13
                  have H' := Aside0.mk H
                  clear H
                  have p12 : 0 ≤ (x7_1 : Int) := of_decide_eq_true (by first | (with_reducible assumption) | assumption)
                  have q12 : x7_1 < (a0.size : Int) := of_decide_eq_true (by first | (with_reducible assumption) | assumption)
                  have hx12 := bt_at a0 x7_1
                  replace p12 := eq_true p12
                  replace q12 := eq_true q12
                  go_wp2
                  go_roundg kj3
                  case measure => have := HK1.out; have := HJ3.out; omega
                  case rel => exact ⟨(wrap64 (x7_1 + 1)), (IntKind.u64.wrap ((IntKind.u64.wrap (x8_1 * 10)) + (((bt a0 x7_1) - 48) % 256))), (true), (by first | rfl | (simp; done) | (simp [*]; done)), (by first | rfl | (simp; done) | (simp [*]; done)), (by first | rfl | (simp; done) | (simp [*]; done)), H', ⟨by have := HK1.out; have := HJ3.out; omega⟩, ⟨by (with_reducible repeat (first | refine blk_drewN ?_ _ | refine blk_drew ?_ | refine blk_alloc ?_ _)); exact BK152.out⟩, ⟨by repeat (first | (with_reducible first | exact HB.out | apply below_alloc | apply pw_below_drewN | apply below_drew1 | refine below_set ?_ GE152.out) | exact HB.out)⟩⟩
                · rw [if_neg c13] at H
                  have c13b0 : decide (1844674407370955161 < x8_1) = false := decide_eq_false c13
                  clear c13
                  by_cases c14 : (IntKind.u64.wrap (x8_1 * 10)) > (18446744073709551615 - (((bt a0 x7_1) - 48) % 256))
                  · rw [if_pos c14] at H
                    have c14b0 : decide ((18446744073709551615 - (((bt a0 x7_1) - 48) % 256)) < (IntKind.u64.wrap (x8_1 * 10))) = true := decide_eq_true c14
                    clear c14
                    have H' := Aside0.mk H
                    clear H
                    have p12 : 0 ≤ (x7_1 : Int) := of_decide_eq_true (by first | (with_reducible assumption) | assumption)
                    have q12 : x7_1 < (a0.size : Int) := of_decide_eq_true (by first | (with_reducible assumption) | assumption)
                    have hx12 := bt_at a0 x7_1
                    replace p12 := eq_true p12
                    replace q12 := eq_true q12
                    go_wp2
                    go_roundg kj3
                    case measure => have := HK1.out; have := HJ3.out; omega
                    case rel => exact ⟨(wrap64 (x7_1 + 1)), (IntKind.u64.wrap ((IntKind.u64.wrap (x8_1 * 10)) + (((bt a0 x7_1) - 48) % 256))), (true), (by first | rfl | (simp; done) | (simp [*]; done)), (by first | rfl | (simp; done) | (simp [*]; done)), (by first | rfl | (simp; done) | (simp [*]; done)), H', ⟨by have := HK1.out; have := HJ3.out; omega⟩, ⟨by (with_reducible repeat (first | refine blk_drewN ?_ _ | refine blk_drew ?_ | refine blk_alloc ?_ _)); exact BK152.out⟩, ⟨by repeat (first | (with_reducible first | exact HB.out | apply below_alloc | apply pw_below_drewN | apply below_drew1 | refine below_set ?_ GE152.out) | exact HB.out)⟩⟩
                  · rw [if_neg c14] at H
                    have c14b0 : decide ((18446744073709551615 - (((bt a0 x7_1) - 48) % 256)) < (IntKind.u64.wrap (x8_1 * 10))) = false := decide_eq_false c14
                    clear c14
                    have H' := Aside0.mk H
                    clear H
                    have p12 : 0 ≤ (x7_1 : Int) := of_decide_eq_true (by first | (with_reducible assumption) | assumption)
                    have q12 : x7_1 < (a0.size : Int) := of_decide_eq_true (by first | (with_reducible assumption) | assumption)
                    have hx12 := bt_at a0 x7_1
                    replace p12 := eq_true p12
                    replace q12 := eq_true q12
                    go_wp2
                    go_roundg kj3
                    case measure => have := HK1.out; have := HJ3.out; omega
                    case rel => exact ⟨(wrap64 (x7_1 + 1)), (IntKind.u64.wrap ((IntKind.u64.wrap (x8_1 * 10)) + (((bt a0 x7_1) - 48) % 256))), (x9_1), (by first | rfl | (simp; done) | (simp [*]; done)), (by first | rfl | (simp; done) | (simp [*]; done)), (by first | rfl | (simp; done) | (simp [*]; done)), H', ⟨by have := HK1.out; have := HJ3.out; omega⟩, ⟨by (with_reducible repeat (first | refine blk_drewN ?_ _ | refine blk_drew ?_ | refine blk_alloc ?_ _)); exact BK152.out⟩, ⟨by repeat (first | (with_reducible first | exact HB.out | apply below_alloc | apply pw_below_drewN | apply below_drew1 | refine below_set ?_ GE152.out) | exact HB.out)⟩⟩
              · rw [if_neg c11] at H
                exact absurd H (by simp)
            · rw [if_neg c10] at H
              exact absurd H (by simp)
          · replace c9 := Bool.eq_false_iff.mpr c9
            subst c9
            have H1 : (if x9_1 = true then (some (0, (⟨#[]⟩ : ByteArray), 0, 0, 0, a1, 111)) else (some (2, (⟨#[]⟩ : ByteArray), x8_1, a1, x7_1, 0, 0))) = some (r1, r2, r3, r4, r5, r6, r7) := by rw [if_neg (show ¬ (false = true) by decide)] at H; exact H
            clear H
            have H := H1
            clear H1
            by_cases c15 : x9_1 = true
            · subst c15
              have H1 : (some (0, (⟨#[]⟩ : ByteArray), 0, 0, 0, a1, 111)) = some (r1, r2, r3, r4, r5, r6, r7) := by rw [if_pos rfl] at H; exact H
              clear H
              have H := H1
              clear H1
              simp only [Option.some.injEq, Prod.mk.injEq] at H
              obtain ⟨rfl, rfl, rfl, rfl, rfl, rfl, rfl⟩ := H
              have hcz16_0 : wc.cell? ⟨gb152, 0, none⟩ = some (.int .i64 0) := (blk_cell BK152.out 0).trans rfl
              have hcz16_1 : wc.cell? ⟨gb152, 1, none⟩ = some (.string (⟨#[]⟩ : ByteArray)) := (blk_cell BK152.out 1).trans rfl
              have hcz16_2 : wc.cell? ⟨gb152, 2, none⟩ = some (.int .u64 0) := (blk_cell BK152.out 2).trans rfl
              have hcz16_3 : wc.cell? ⟨gb152, 3, none⟩ = some (.int .i64 0) := (blk_cell BK152.out 3).trans rfl
              have hcz16_4 : wc.cell? ⟨gb152, 4, none⟩ = some (.int .i64 0) := (blk_cell BK152.out 4).trans rfl
              have hfz16_0 := blk_frozen BK152.out 0
              have hfz16_1 := blk_frozen BK152.out 1
              have hfz16_2 := blk_frozen BK152.out 2
              have hfz16_3 := blk_frozen BK152.out 3
              have hfz16_4 := blk_frozen BK152.out 4
              go_wp2
              refine bodyPost_ret (results_ctt rfl _ _ gb152 47 #[.int .i64 0, .string (⟨#[]⟩ : ByteArray), .int .u64 0, .int .i64 0, .int .i64 0] (0, 0) _ rfl (by (with_reducible repeat (first | refine blk_drewN ?_ _ | refine blk_drew ?_ | refine blk_alloc ?_ _)); refine blk_put (cs := #[.int .i64 0, .string (⟨#[]⟩ : ByteArray), .int .u64 0, .int .i64 0, .int .i64 0]) ?_ 4 _ rfl; (with_reducible repeat (first | refine blk_drewN ?_ _ | refine blk_drew ?_ | refine blk_alloc ?_ _)); refine blk_put (cs := #[.int .i64 0, .string (⟨#[]⟩ : ByteArray), .int .u64 0, .int .i64 0, .int .i64 0]) ?_ 3 _ rfl; (with_reducible repeat (first | refine blk_drewN ?_ _ | refine blk_drew ?_ | refine blk_alloc ?_ _)); refine blk_put (cs := #[.int .i64 0, .string (⟨#[]⟩ : ByteArray), .int .u64 0, .int .i64 0, .int .i64 0]) ?_ 2 _ rfl; (with_reducible repeat (first | refine blk_drewN ?_ _ | refine blk_drew ?_ | refine blk_alloc ?_ _)); refine blk_put (cs := #[.int .i64 0, .string (⟨#[]⟩ : ByteArray), .int .u64 0, .int .i64 0, .int .i64 0]) ?_ 1 _ rfl; (with_reducible repeat (first | refine blk_drewN ?_ _ | refine blk_drew ?_ | refine blk_alloc ?_ _)); refine blk_put (cs := #[.int .i64 0, .string (⟨#[]⟩ : ByteArray), .int .u64 0, .int .i64 0, .int .i64 0]) ?_ 0 _ rfl; (with_reducible repeat (first | refine blk_drewN ?_ _ | refine blk_drew ?_ | refine blk_alloc ?_ _)); exact BK152.out) Try.underlying47 rfl (by kernel_rfl)) rfl ?_
              exact ⟨by first | rfl | (simp [errW_none, errW_some] <;> rfl) | (simp [*, errW_none, errW_some] <;> rfl), by repeat (first | (with_reducible first | exact HB.out | apply below_alloc | apply pw_below_drewN | apply below_drew1 | refine below_set ?_ GE152.out) | exact HB.out)⟩
            · replace c15 := Bool.eq_false_iff.mpr c15
              subst c15
              have H1 : (some (2, (⟨#[]⟩ : ByteArray), x8_1, a1, x7_1, 0, 0)) = some (r1, r2, r3, r4, r5, r6, r7) := by rw [if_neg (show ¬ (false = true) by decide)] at H; exact H
              clear H
              have H := H1
              clear H1
              simp only [Option.some.injEq, Prod.mk.injEq] at H
              obtain ⟨rfl, rfl, rfl, rfl, rfl, rfl, rfl⟩ := H
              have hcz17_0 : wc.cell? ⟨gb152, 0, none⟩ = some (.int .i64 0) := (blk_cell BK152.out 0).trans rfl
              have hcz17_1 : wc.cell? ⟨gb152, 1, none⟩ = some (.string (⟨#[]⟩ : ByteArray)) := (blk_cell BK152.out 1).trans rfl
              have hcz17_2 : wc.cell? ⟨gb152, 2, none⟩ = some (.int .u64 0) := (blk_cell BK152.out 2).trans rfl
              have hcz17_3 : wc.cell? ⟨gb152, 3, none⟩ = some (.int .i64 0) := (blk_cell BK152.out 3).trans rfl
              have hcz17_4 : wc.cell? ⟨gb152, 4, none⟩ = some (.int .i64 0) := (blk_cell BK152.out 4).trans rfl
              have hfz17_0 := blk_frozen BK152.out 0
              have hfz17_1 := blk_frozen BK152.out 1
              have hfz17_2 := blk_frozen BK152.out 2
              have hfz17_3 := blk_frozen BK152.out 3
              have hfz17_4 := blk_frozen BK152.out 4
              go_wp2
              refine bodyPost_ret (results_ctt rfl _ _ gb152 47 #[.int .i64 2, .string (⟨#[]⟩ : ByteArray), .int .u64 x8_1, .int .i64 a1, .int .i64 x7_1] (0, 0) _ rfl (by (with_reducible repeat (first | refine blk_drewN ?_ _ | refine blk_drew ?_ | refine blk_alloc ?_ _)); refine blk_put (cs := #[.int .i64 2, .string (⟨#[]⟩ : ByteArray), .int .u64 x8_1, .int .i64 a1, .int .i64 0]) ?_ 4 _ rfl; (with_reducible repeat (first | refine blk_drewN ?_ _ | refine blk_drew ?_ | refine blk_alloc ?_ _)); refine blk_put (cs := #[.int .i64 2, .string (⟨#[]⟩ : ByteArray), .int .u64 x8_1, .int .i64 0, .int .i64 0]) ?_ 3 _ rfl; (with_reducible repeat (first | refine blk_drewN ?_ _ | refine blk_drew ?_ | refine blk_alloc ?_ _)); refine blk_put (cs := #[.int .i64 2, .string (⟨#[]⟩ : ByteArray), .int .u64 0, .int .i64 0, .int .i64 0]) ?_ 2 _ rfl; (with_reducible repeat (first | refine blk_drewN ?_ _ | refine blk_drew ?_ | refine blk_alloc ?_ _)); refine blk_put (cs := #[.int .i64 2, .string (⟨#[]⟩ : ByteArray), .int .u64 0, .int .i64 0, .int .i64 0]) ?_ 1 _ rfl; (with_reducible repeat (first | refine blk_drewN ?_ _ | refine blk_drew ?_ | refine blk_alloc ?_ _)); refine blk_put (cs := #[.int .i64 0, .string (⟨#[]⟩ : ByteArray), .int .u64 0, .int .i64 0, .int .i64 0]) ?_ 0 _ rfl; (with_reducible repeat (first | refine blk_drewN ?_ _ | refine blk_drew ?_ | refine blk_alloc ?_ _)); exact BK152.out) Try.underlying47 rfl (by kernel_rfl)) rfl ?_
              exact ⟨by first | rfl | (simp [errW_none, errW_some] <;> rfl) | (simp [*, errW_none, errW_some] <;> rfl), by repeat (first | (with_reducible first | exact HB.out | apply below_alloc | apply pw_below_drewN | apply below_drew1 | refine below_set ?_ GE152.out) | exact HB.out)⟩
def stratumref08_hex.j0 : Nat → Int → Bool → Option (Int)
  | 0, _, _ => none
  | k + 1, x0, x9 => if x9 = true then (some (((x0 - 97) % 256) + 10)) else (if x0 ≥ 65 then (if x0 ≤ 70 then (some (((x0 - 65) % 256) + 10)) else (some (-1))) else (some (-1)))
def stratumref08_hex.f (k : Nat) (a0 : Int) : Option (Int) := (stratumref08_digit.f a0).bind fun t154 => (if t154 = true then (some ((a0 - 48) % 256)) else (if a0 ≥ 97 then (stratumref08_hex.j0 k a0 (decide (a0 ≤ 102))) else (stratumref08_hex.j0 k a0 false)))
theorem stratumref08_hex.mono_l : ∀ k, (∀ y0 y1, LeO (stratumref08_hex.j0 k y0 y1) (stratumref08_hex.j0 (k + 1) y0 y1))
  | 0 => fun _ _ r h => by simp [stratumref08_hex.j0] at h
  | k + 1 => by
    have ih0 := stratumref08_hex.mono_l k
    · intro y0 y1
      unfold stratumref08_hex.j0
      repeat' first
      | (with_reducible exact ih0 _ _)
      | (with_reducible exact LeO.refl _)
      | (with_reducible exact LeO.none _)
      | (with_reducible refine LeO.ite ?_ ?_)
      | (with_reducible refine LeO.bind ?_ (fun _ => ?_))
      | exact ih0 _ _
      | exact LeO.none _
      | refine LeO.ite ?_ ?_
      | refine LeO.bind ?_ (fun _ => ?_)
theorem stratumref08_hex.mono : ∀ a0 k, LeO (stratumref08_hex.f k a0) (stratumref08_hex.f (k + 1) a0) := by
  intro a0 k
  have ih0 := stratumref08_hex.mono_l k
  unfold stratumref08_hex.f
  repeat' first
      | (with_reducible exact ih0 _ _)
      | (with_reducible exact LeO.refl _)
      | (with_reducible exact LeO.none _)
      | (with_reducible refine LeO.ite ?_ ?_)
      | (with_reducible refine LeO.bind ?_ (fun _ => ?_))
      | exact ih0 _ _
      | exact LeO.none _
      | refine LeO.ite ?_ ?_
      | refine LeO.bind ?_ (fun _ => ?_)
set_option maxHeartbeats 8000000 in
set_option maxRecDepth 100000 in
theorem stratumref08_hex.calls (k : Nat) (a0 : Int) (r : Int) (w : World) (h : stratumref08_hex.f k a0 = some r) :
    Calls Try.prog 92 #[.int .u8 a0] w fun e w' => e = .returned (.int .i64 r) ∧ Drawn0 w w' := by
  have H : ((stratumref08_digit.f a0).bind fun t154 => (if t154 = true then (some ((a0 - 48) % 256)) else (if a0 ≥ 97 then (stratumref08_hex.j0 k a0 (decide (a0 ≤ 102))) else (stratumref08_hex.j0 k a0 false)))) = some r := h
  clear h
  replace H := Option.bind_eq_some_iff.mp H
  obtain ⟨t154, A20, H⟩ := H
  replace H : (if t154 = true then (some ((a0 - 48) % 256)) else (if a0 ≥ 97 then (stratumref08_hex.j0 k a0 (decide (a0 ≤ 102))) else (stratumref08_hex.j0 k a0 false))) = some r := H
  have A2 := Aside0.mk A20
  clear A20
  by_cases c3 : t154 = true
  · subst c3
    have H1 : (some ((a0 - 48) % 256)) = some r := by rw [if_pos rfl] at H; exact H
    clear H
    have H := H1
    clear H1
    obtain rfl := Option.some.inj H
    go_enter Try.func92, Try.ntmps92
    go_wp2_with (first | ((with_reducible refine gate_callee (f := 66) rfl ?_); refine goesL_ (some 5) rfl rfl Try.func66 (by kernel_rfl) rfl #[.int .u8 a0] rfl (by (try simp only [List.map_toArray, List.map_cons, List.map_nil]); first | done | rfl | (simp only [List.length_drop, List.length_take]; rfl)) ?_; (with_reducible refine (stratumref08_digit.calls a0 true _ A2.out).mono ?_); rintro e w' ⟨rfl, ⟨nd, rfl⟩⟩; refine ⟨_, rfl, ?_⟩))
    go_ret
    exact ⟨by first | rfl | (simp; done) | (simp [*]; done), by repeat (first | exact Drawn0.refl _ | apply Drawn0.step)⟩
  · replace c3 := Bool.eq_false_iff.mpr c3
    subst c3
    have H1 : (if a0 ≥ 97 then (stratumref08_hex.j0 k a0 (decide (a0 ≤ 102))) else (stratumref08_hex.j0 k a0 false)) = some r := by rw [if_neg (show ¬ (false = true) by decide)] at H; exact H
    clear H
    have H := H1
    clear H1
    have HC4 := Aside0.mk H
    clear H
    go_enter Try.func92, Try.ntmps92
    go_upto_region 3 with (first | ((with_reducible refine gate_callee (f := 66) rfl ?_); refine goesL_ (some 5) rfl rfl Try.func66 (by kernel_rfl) rfl #[.int .u8 a0] rfl (by (try simp only [List.map_toArray, List.map_cons, List.map_nil]); first | done | rfl | (simp only [List.length_drop, List.length_take]; rfl)) ?_; (with_reducible refine (stratumref08_digit.calls a0 false _ A2.out).mono ?_); rintro e w' ⟨rfl, ⟨nd, rfl⟩⟩; refine ⟨_, rfl, ?_⟩))
    (try simp only [Act.put, List.setIfInBounds_toArray, List.set_cons_zero, List.set_cons_succ])
    go_cut [9] (fun v9 wc => ∃ (kq : Nat) (x9_3 : Bool), v9 = .bool x9_3 ∧ Aside0 (stratumref08_hex.j0 kq a0 x9_3 = some r) ∧ Aside0 (kq ≤ k) ∧ Drawn0 w wc)
    case first =>
      have H := HC4.out
      clear HC4
      by_cases c5 : a0 ≥ 97
      · rw [if_pos c5] at H
        have c5b0 : decide (97 ≤ a0) = true := decide_eq_true c5
        clear c5
        (first | rw [c5b0] | (simp only [i64_w, i32_w]; rw [c5b0]) | skip)
        have H' := Aside0.mk H
        clear H
        go_wp2
        go_meet
        case rel => exact ⟨_, (decide (a0 ≤ 102)), (by first | rfl | (simp; done) | (simp [*]; done)), H', ⟨by first | omega | exact Nat.le_refl _⟩, by repeat (first | exact Drawn0.refl _ | apply Drawn0.step)⟩
      · rw [if_neg c5] at H
        have c5b0 : decide (97 ≤ a0) = false := decide_eq_false c5
        clear c5
        (first | rw [c5b0] | (simp only [i64_w, i32_w]; rw [c5b0]) | skip)
        have H' := Aside0.mk H
        clear H
        go_wp2
        go_meet
        case rel => exact ⟨_, (false), (by first | rfl | (simp; done) | (simp [*]; done)), H', ⟨by first | omega | exact Nat.le_refl _⟩, by repeat (first | exact Drawn0.refl _ | apply Drawn0.step)⟩
    case rest =>
      clear HC4
      try clear p2
      try clear c3
      try clear c5
      try clear c5b0
      obtain ⟨kq, x9_3, rfl, HA, HJ3, ⟨mc3, rfl⟩⟩ := hcut
      cases kq with
      | zero => exact absurd HA.out (by simp [stratumref08_hex.j0])
      | succ kj3 =>
        have H := HA.out
        clear HA
        simp only [stratumref08_hex.j0] at H
        by_cases c6 : x9_3 = true
        · subst c6
          have H1 : (some (((a0 - 97) % 256) + 10)) = some r := by rw [if_pos rfl] at H; exact H
          clear H
          have H := H1
          clear H1
          obtain rfl := Option.some.inj H
          go_wp2
          go_ret
          exact ⟨by first | rfl | (simp; done) | (simp [*]; done), by repeat (first | exact Drawn0.refl _ | apply Drawn0.step)⟩
        · replace c6 := Bool.eq_false_iff.mpr c6
          subst c6
          have H1 : (if a0 ≥ 65 then (if a0 ≤ 70 then (some (((a0 - 65) % 256) + 10)) else (some (-1))) else (some (-1))) = some r := by rw [if_neg (show ¬ (false = true) by decide)] at H; exact H
          clear H
          have H := H1
          clear H1
          by_cases c7 : a0 ≥ 65
          · rw [if_pos c7] at H
            have c7b0 : decide (65 ≤ a0) = true := decide_eq_true c7
            clear c7
            by_cases c8 : a0 ≤ 70
            · rw [if_pos c8] at H
              have c8b0 : decide (a0 ≤ 70) = true := decide_eq_true c8
              clear c8
              obtain rfl := Option.some.inj H
              go_wp2
              go_ret
              exact ⟨by first | rfl | (simp; done) | (simp [*]; done), by repeat (first | exact Drawn0.refl _ | apply Drawn0.step)⟩
            · rw [if_neg c8] at H
              have c8b0 : decide (a0 ≤ 70) = false := decide_eq_false c8
              clear c8
              obtain rfl := Option.some.inj H
              go_wp2
              go_ret
              exact ⟨by first | rfl | (simp; done) | (simp [*]; done), by repeat (first | exact Drawn0.refl _ | apply Drawn0.step)⟩
          · rw [if_neg c7] at H
            have c7b0 : decide (65 ≤ a0) = false := decide_eq_false c7
            clear c7
            obtain rfl := Option.some.inj H
            go_wp2
            go_ret
            exact ⟨by first | rfl | (simp; done) | (simp [*]; done), by repeat (first | exact Drawn0.refl _ | apply Drawn0.step)⟩
end Go.Proofs.Ytbdcndkafaajpaa.X
end
section
namespace Go.Proofs.Ytbdcndkafaajpaa.X
open Go.RowKit Go.Proofs.YtbdcndkafaajpaaW.PrintWords Go.Proofs.YtbdcndkafaajpaaW.PrintLast Go.Proofs.YtbdcndkafaajpaaW.PrintMore
attribute [local go_sem] max2_int min2_int max_two min_two max_three min_three max_four min_four   -- for this text's walks alone
set_option linter.unusedVariables false
set_option linter.unusedSimpArgs false
mutual
def stratumref08_escape.j0 : Nat → ByteArray → Int → Int → Bool → Option (Int × Int)
  | 0, _, _, _, _ => none
  | k + 1, x0, x1, x14, x15 => if x15 = true then (if 0 ≤ (wrap64 (x1 + 1)) then (if (wrap64 (x1 + 1)) < (x0.size : Int) then (some (bt x0 (wrap64 (x1 + 1)), 2)) else (none)) else (none)) else (if x14 = 110 then (some (10, 2)) else (if x14 = 116 then (some (9, 2)) else (if x14 = 120 then (if (wrap64 (x1 + 3)) < (x0.size : Int) then (if 0 ≤ (wrap64 (x1 + 2)) then (if (wrap64 (x1 + 2)) < (x0.size : Int) then ((stratumref08_hex.f k (bt x0 (wrap64 (x1 + 2)))).bind fun t155 => (if t155 ≥ 0 then (if 0 ≤ (wrap64 (x1 + 3)) then ((stratumref08_hex.f k (bt x0 (wrap64 (x1 + 3)))).bind fun t156 => (stratumref08_escape.j1 k x0 x1 (decide (t156 ≥ 0)))) else (none)) else (stratumref08_escape.j1 k x0 x1 false))) else (none)) else (none)) else (stratumref08_escape.j1 k x0 x1 false)) else (some (0, 0)))))
def stratumref08_escape.j1 : Nat → ByteArray → Int → Bool → Option (Int × Int)
  | 0, _, _, _ => none
  | k + 1, x0, x1, x48 => if x48 = true then (if 0 ≤ (wrap64 (x1 + 2)) then (if (wrap64 (x1 + 2)) < (x0.size : Int) then ((stratumref08_hex.f k (bt x0 (wrap64 (x1 + 2)))).bind fun t157 => (if 0 ≤ (wrap64 (x1 + 3)) then (if (wrap64 (x1 + 3)) < (x0.size : Int) then ((stratumref08_hex.f k (bt x0 (wrap64 (x1 + 3)))).bind fun t158 => (some ((wrap64 ((wrap64 (16 * t157)) + t158)) % 256, 4))) else (none)) else (none))) else (none)) else (none)) else (some (0, 0))
end
def stratumref08_escape.f (k : Nat) (a0 : ByteArray) (a1 : Int) : Option (Int × Int) := if (wrap64 (a1 + 1)) ≥ (a0.size : Int) then (some (0, 0)) else (if 0 ≤ (wrap64 (a1 + 1)) then (if (wrap64 (a1 + 1)) < (a0.size : Int) then (if (bt a0 (wrap64 (a1 + 1))) = 92 then (stratumref08_escape.j0 k a0 a1 (bt a0 (wrap64 (a1 + 1))) ((bt a0 (wrap64 (a1 + 1))) == 92)) else (stratumref08_escape.j0 k a0 a1 (bt a0 (wrap64 (a1 + 1))) ((bt a0 (wrap64 (a1 + 1))) == 34))) else (none)) else (none))
theorem stratumref08_escape.mono_l : ∀ k, (∀ y0 y1 y2 y3, LeO (stratumref08_escape.j0 k y0 y1 y2 y3) (stratumref08_escape.j0 (k + 1) y0 y1 y2 y3)) ∧ (∀ y0 y1 y2, LeO (stratumref08_escape.j1 k y0 y1 y2) (stratumref08_escape.j1 (k + 1) y0 y1 y2))
  | 0 => ⟨fun _ _ _ _ r h => by simp [stratumref08_escape.j0] at h, fun _ _ _ r h => by simp [stratumref08_escape.j1] at h⟩
  | k + 1 => by
    obtain ⟨ih0, ih1⟩ := stratumref08_escape.mono_l k
    refine ⟨?_, ?_⟩
    · intro y0 y1 y2 y3
      unfold stratumref08_escape.j0
      repeat' first
      | (with_reducible exact ih0 _ _ _ _)
      | (with_reducible exact ih1 _ _ _)
      | (with_reducible exact stratumref08_hex.mono _ _)
      | (with_reducible exact LeO.refl _)
      | (with_reducible exact LeO.none _)
      | (with_reducible refine LeO.ite ?_ ?_)
      | (with_reducible refine LeO.bind ?_ (fun _ => ?_))
      | exact ih0 _ _ _ _
      | exact ih1 _ _ _
      | exact stratumref08_hex.mono _ _
      | exact LeO.none _
      | refine LeO.ite ?_ ?_
      | refine LeO.bind ?_ (fun _ => ?_)
    · intro y0 y1 y2
      unfold stratumref08_escape.j1
      repeat' first
      | (with_reducible exact ih0 _ _ _ _)
      | (with_reducible exact ih1 _ _ _)
      | (with_reducible exact stratumref08_hex.mono _ _)
      | (with_reducible exact LeO.refl _)
      | (with_reducible exact LeO.none _)
      | (with_reducible refine LeO.ite ?_ ?_)
      | (with_reducible refine LeO.bind ?_ (fun _ => ?_))
      | exact ih0 _ _ _ _
      | exact ih1 _ _ _
      | exact stratumref08_hex.mono _ _
      | exact LeO.none _
      | refine LeO.ite ?_ ?_
      | refine LeO.bind ?_ (fun _ => ?_)
theorem stratumref08_escape.mono : ∀ a0 a1 k, LeO (stratumref08_escape.f k a0 a1) (stratumref08_escape.f (k + 1) a0 a1) := by
  intro a0 a1 k
  obtain ⟨ih0, ih1⟩ := stratumref08_escape.mono_l k
  unfold stratumref08_escape.f
  repeat' first
      | (with_reducible exact ih0 _ _ _ _)
      | (with_reducible exact ih1 _ _ _)
      | (with_reducible exact stratumref08_hex.mono _ _)
      | (with_reducible exact LeO.refl _)
      | (with_reducible exact LeO.none _)
      | (with_reducible refine LeO.ite ?_ ?_)
      | (with_reducible refine LeO.bind ?_ (fun _ => ?_))
      | exact ih0 _ _ _ _
      | exact ih1 _ _ _
      | exact stratumref08_hex.mono _ _
      | exact LeO.none _
      | refine LeO.ite ?_ ?_
      | refine LeO.bind ?_ (fun _ => ?_)
set_option maxHeartbeats 8000000 in
set_option maxRecDepth 100000 in
theorem stratumref08_escape.calls (k : Nat) (a0 : ByteArray) (a1 : Int) (r1 : Int) (r2 : Int) (w : World) (h : stratumref08_escape.f k a0 a1 = some (r1, r2)) :
    Calls Try.prog 84 #[.string a0, .int .i64 a1] w fun e w' => e = .returned (.tuple #[.int .u8 r1, .int .i64 r2]) ∧ Drawn0 w w' := by
  have H : (if (wrap64 (a1 + 1)) ≥ (a0.size : Int) then (some (0, 0)) else (if 0 ≤ (wrap64 (a1 + 1)) then (if (wrap64 (a1 + 1)) < (a0.size : Int) then (if (bt a0 (wrap64 (a1 + 1))) = 92 then (stratumref08_escape.j0 k a0 a1 (bt a0 (wrap64 (a1 + 1))) ((bt a0 (wrap64 (a1 + 1))) == 92)) else (stratumref08_escape.j0 k a0 a1 (bt a0 (wrap64 (a1 + 1))) ((bt a0 (wrap64 (a1 + 1))) == 34))) else (none)) else (none))) = some (r1, r2) := h
  clear h
  by_cases c3 : (wrap64 (a1 + 1)) ≥ (a0.size : Int)
  · rw [if_pos c3] at H
    have c3b0 : decide ((a0.size : Int) ≤ (wrap64 (a1 + 1))) = true := decide_eq_true c3
    clear c3
    simp only [Option.some.injEq, Prod.mk.injEq] at H
    obtain ⟨rfl, rfl⟩ := H
    go_enter Try.func84, Try.ntmps84
    go_wp2
    repeat (go_quiet (fail); try go_wp2)
    go_ret2
    exact ⟨by first | rfl | (simp; done) | (simp [*]; done), by repeat (first | exact Drawn0.refl _ | apply Drawn0.step)⟩
  · rw [if_neg c3] at H
    have c3b0 : decide ((a0.size : Int) ≤ (wrap64 (a1 + 1))) = false := decide_eq_false c3
    clear c3
    obtain ⟨ji4, hji4⟩ : ∃ j_ : Int, (wrap64 (a1 + 1)) = j_ := ⟨_, rfl⟩
    replace H : (if 0 ≤ (ji4) then (if (ji4) < (a0.size : Int) then (if (bt a0 (ji4)) = 92 then (stratumref08_escape.j0 k a0 a1 (bt a0 (ji4)) ((bt a0 (ji4)) == 92)) else (stratumref08_escape.j0 k a0 a1 (bt a0 (ji4)) ((bt a0 (ji4)) == 34))) else (none)) else (none)) = some (r1, r2) := by first | (rw [hji4] at H; exact H) | (simp only [hji4] at H ⊢; exact H)
    (try rw [hji4] at c3b0)
    have hji4w : (IntKind.i64.wrap (a1 + 1)) = ji4 := (i64_w _).trans hji4
    by_cases c5 : 0 ≤ (ji4)
    · rw [if_pos c5] at H
      have c5b0 : decide (0 ≤ (ji4)) = true := decide_eq_true c5
      clear c5
      by_cases c6 : (ji4) < (a0.size : Int)
      · rw [if_pos c6] at H
        have c6b0 : decide ((ji4) < (a0.size : Int)) = true := decide_eq_true c6
        clear c6
        have HC8 := Aside0.mk H
        clear H
        have p7 : 0 ≤ ((ji4) : Int) := of_decide_eq_true (by first | (with_reducible assumption) | assumption)
        have q7 : (ji4) < (a0.size : Int) := of_decide_eq_true (by first | (with_reducible assumption) | assumption)
        have hx7 := bt_at a0 (ji4)
        replace p7 := eq_true p7
        replace q7 := eq_true q7
        go_enter Try.func84, Try.ntmps84
        go_upto_if 15 with (fail)
        repeat (go_quiet (fail); go_upto_if 15 with (fail))
        go_cut [15] (fun v15 wc => ∃ (kq : Nat) (x15_7 : Bool), v15 = .bool x15_7 ∧ Aside0 (stratumref08_escape.j0 kq a0 a1 (bt a0 (ji4)) x15_7 = some (r1, r2)) ∧ Aside0 (kq ≤ k) ∧ Drawn0 w wc)
        case first =>
          have H := HC8.out
          clear HC8
          by_cases c9 : (bt a0 (ji4)) = 92
          · rw [if_pos c9] at H
            have c9b0 : ((bt a0 (ji4)) == 92) = true := beq_iff_eq.mpr c9
            have c9b1 : ((bt a0 (ji4)) != 92) = false := bne_eq_false_iff_eq.mpr c9
            clear c9
            (first | rw [c9b0] | (simp only [i64_w, i32_w]; rw [c9b0]) | skip)
            have H' := Aside0.mk H
            clear H
            go_wp2
            repeat (go_quiet (fail); try go_wp2)
            go_meet
            case rel => exact ⟨_, (((bt a0 (ji4)) == 92)), (by first | rfl | (simp; done) | (simp [*]; done) | (simp [i64_w, IntKind.wrap_u8]; done) | ((try simp only [← hji4]); (first | rfl | (simp; done))) | (simp [*]; done)), H', ⟨by first | omega | exact Nat.le_refl _⟩, by repeat (first | exact Drawn0.refl _ | apply Drawn0.step)⟩
          · rw [if_neg c9] at H
            have c9b0 : ((bt a0 (ji4)) == 92) = false := beq_eq_false_iff_ne.mpr c9
            have c9b1 : ((bt a0 (ji4)) != 92) = true := bne_iff_ne.mpr c9
            (first | rw [c9b0] | (simp only [i64_w, i32_w]; rw [c9b0]) | skip)
            have H' := Aside0.mk H
            clear H
            go_wp2
            repeat (go_quiet (fail); try go_wp2)
            go_meet
            case rel => exact ⟨_, (((bt a0 (ji4)) == 34)), (by first | rfl | (simp; done) | (simp [*]; done) | (simp [i64_w, IntKind.wrap_u8]; done) | ((try simp only [← hji4]); (first | rfl | (simp; done))) | (simp [*]; done)), H', ⟨by first | omega | exact Nat.le_refl _⟩, by repeat (first | exact Drawn0.refl _ | apply Drawn0.step)⟩
        case rest =>
          clear HC8
          try clear p2
          try clear c3
          try clear c3b0
          try clear c5
          try clear c5b0
          try clear c6
          try clear c6b0
          try clear p6
          try clear p7
          try clear q7
          try clear hx7
          try clear c8
          try clear c9
          try clear c9b0
          try clear c9b1
          try clear p7
          try clear q7
          obtain ⟨kq, x15_7, rfl, HA, HJ7, ⟨mc7, rfl⟩⟩ := hcut
          cases kq with
          | zero => exact absurd HA.out (by simp [stratumref08_escape.j0])
          | succ kj7 =>
            have H := HA.out
            clear HA
            simp only [stratumref08_escape.j0] at H
            by_cases c10 : x15_7 = true
            · subst c10
              have H1 : (if 0 ≤ (wrap64 (a1 + 1)) then (if (wrap64 (a1 + 1)) < (a0.size : Int) then (some (bt a0 (wrap64 (a1 + 1)), 2)) else (none)) else (none)) = some (r1, r2) := by rw [if_pos rfl] at H; exact H
              clear H
              have H := H1
              clear H1
              try clear hji4
              try clear hji4w
              obtain ⟨ji11, hji11⟩ : ∃ j_ : Int, (wrap64 (a1 + 1)) = j_ := ⟨_, rfl⟩
              replace H : (if 0 ≤ (ji11) then (if (ji11) < (a0.size : Int) then (some (bt a0 (ji11), 2)) else (none)) else (none)) = some (r1, r2) := by first | (rw [hji11] at H; exact H) | (simp only [hji11] at H ⊢; exact H)
              (try rw [hji11] at c3b0)
              have hji11w : (IntKind.i64.wrap (a1 + 1)) = ji11 := (i64_w _).trans hji11
              by_cases c12 : 0 ≤ (ji11)
              · rw [if_pos c12] at H
                have c12b0 : decide (0 ≤ (ji11)) = true := decide_eq_true c12
                clear c12
                by_cases c13 : (ji11) < (a0.size : Int)
                · rw [if_pos c13] at H
                  have c13b0 : decide ((ji11) < (a0.size : Int)) = true := decide_eq_true c13
                  clear c13
                  simp only [Option.some.injEq, Prod.mk.injEq] at H
                  obtain ⟨rfl, rfl⟩ := H
                  have p14 : 0 ≤ ((ji11) : Int) := of_decide_eq_true (by first | (with_reducible assumption) | assumption)
                  have q14 : (ji11) < (a0.size : Int) := of_decide_eq_true (by first | (with_reducible assumption) | assumption)
                  have hx14 := bt_at a0 (ji11)
                  replace p14 := eq_true p14
                  replace q14 := eq_true q14
                  go_wp2
                  repeat (go_quiet (fail); try go_wp2)
                  go_ret2
                  exact ⟨by first | rfl | (simp; done) | (simp [*]; done) | (simp [i64_w, IntKind.wrap_u8]; done) | ((try simp only [← hji4]); (try simp only [← hji11]); (first | rfl | (simp; done))) | (simp [*]; done), by repeat (first | exact Drawn0.refl _ | apply Drawn0.step)⟩
                · rw [if_neg c13] at H
                  exact absurd H (by simp)
              · rw [if_neg c12] at H
                exact absurd H (by simp)
            · replace c10 := Bool.eq_false_iff.mpr c10
              subst c10
              have H1 : (if (bt a0 (ji4)) = 110 then (some (10, 2)) else (if (bt a0 (ji4)) = 116 then (some (9, 2)) else (if (bt a0 (ji4)) = 120 then (if (wrap64 (a1 + 3)) < (a0.size : Int) then (if 0 ≤ (wrap64 (a1 + 2)) then (if (wrap64 (a1 + 2)) < (a0.size : Int) then ((stratumref08_hex.f kj7 (bt a0 (wrap64 (a1 + 2)))).bind fun t155 => (if t155 ≥ 0 then (if 0 ≤ (wrap64 (a1 + 3)) then ((stratumref08_hex.f kj7 (bt a0 (wrap64 (a1 + 3)))).bind fun t156 => (stratumref08_escape.j1 kj7 a0 a1 (decide (t156 ≥ 0)))) else (none)) else (stratumref08_escape.j1 kj7 a0 a1 false))) else (none)) else (none)) else (stratumref08_escape.j1 kj7 a0 a1 false)) else (some (0, 0))))) = some (r1, r2) := by rw [if_neg (show ¬ (false = true) by decide)] at H; exact H
              clear H
              have H := H1
              clear H1
              by_cases c15 : (bt a0 (ji4)) = 110
              · rw [if_pos c15] at H
                have c15b0 : ((bt a0 (ji4)) == 110) = true := beq_iff_eq.mpr c15
                have c15b1 : ((bt a0 (ji4)) != 110) = false := bne_eq_false_iff_eq.mpr c15
                clear c15
                simp only [Option.some.injEq, Prod.mk.injEq] at H
                obtain ⟨rfl, rfl⟩ := H
                go_wp2
                repeat (go_quiet (fail); try go_wp2)
                go_ret2
                exact ⟨by first | rfl | (simp; done) | (simp [*]; done) | (simp [i64_w, IntKind.wrap_u8]; done) | ((try simp only [← hji4]); (first | rfl | (simp; done))) | (simp [*]; done), by repeat (first | exact Drawn0.refl _ | apply Drawn0.step)⟩
              · rw [if_neg c15] at H
                have c15b0 : ((bt a0 (ji4)) == 110) = false := beq_eq_false_iff_ne.mpr c15
                have c15b1 : ((bt a0 (ji4)) != 110) = true := bne_iff_ne.mpr c15
                by_cases c16 : (bt a0 (ji4)) = 116
                · rw [if_pos c16] at H
                  have c16b0 : ((bt a0 (ji4)) == 116) = true := beq_iff_eq.mpr c16
                  have c16b1 : ((bt a0 (ji4)) != 116) = false := bne_eq_false_iff_eq.mpr c16
                  clear c16
                  simp only [Option.some.injEq, Prod.mk.injEq] at H
                  obtain ⟨rfl, rfl⟩ := H
                  go_wp2
                  repeat (go_quiet (fail); try go_wp2)
                  go_ret2
                  exact ⟨by first | rfl | (simp; done) | (simp [*]; done) | (simp [i64_w, IntKind.wrap_u8]; done) | ((try simp only [← hji4]); (first | rfl | (simp; done))) | (simp [*]; done), by repeat (first | exact Drawn0.refl _ | apply Drawn0.step)⟩
                · rw [if_neg c16] at H
                  have c16b0 : ((bt a0 (ji4)) == 116) = false := beq_eq_false_iff_ne.mpr c16
                  have c16b1 : ((bt a0 (ji4)) != 116) = true := bne_iff_ne.mpr c16
                  by_cases c17 : (bt a0 (ji4)) = 120
                  · rw [if_pos c17] at H
                    have c17b0 : ((bt a0 (ji4)) == 120) = true := beq_iff_eq.mpr c17
                    have c17b1 : ((bt a0 (ji4)) != 120) = false := bne_eq_false_iff_eq.mpr c17
                    clear c17
                    have HC18 := Aside0.mk H
                    clear H
                    go_upto_region 12 with (fail)
                    repeat (go_quiet (fail); go_upto_region 12 with (fail))
                    go_cut [48] (fun v48 wc => ∃ (kq : Nat) (x48_17 : Bool), v48 = .bool x48_17 ∧ Aside0 (stratumref08_escape.j1 kq a0 a1 x48_17 = some (r1, r2)) ∧ Aside0 (kq ≤ kj7) ∧ Drawn0 w wc)
                    case first =>
                      have H := HC18.out
                      clear HC18
                      by_cases c19 : (wrap64 (a1 + 3)) < (a0.size : Int)
                      · rw [if_pos c19] at H
                        have c19b0 : decide ((wrap64 (a1 + 3)) < (a0.size : Int)) = true := decide_eq_true c19
                        clear c19
                        (first | rw [c19b0] | (simp only [i64_w, i32_w]; rw [c19b0]) | skip)
                        obtain ⟨ji20, hji20⟩ : ∃ j_ : Int, (wrap64 (a1 + 2)) = j_ := ⟨_, rfl⟩
                        replace H : (if 0 ≤ (ji20) then (if (ji20) < (a0.size : Int) then ((stratumref08_hex.f kj7 (bt a0 (ji20))).bind fun t155 => (if t155 ≥ 0 then (if 0 ≤ (wrap64 (a1 + 3)) then ((stratumref08_hex.f kj7 (bt a0 (wrap64 (a1 + 3)))).bind fun t156 => (stratumref08_escape.j1 kj7 a0 a1 (decide (t156 ≥ 0)))) else (none)) else (stratumref08_escape.j1 kj7 a0 a1 false))) else (none)) else (none)) = some (r1, r2) := by first | (rw [hji20] at H; exact H) | (simp only [hji20] at H ⊢; exact H)
                        have hji20w : (IntKind.i64.wrap (a1 + 2)) = ji20 := (i64_w _).trans hji20
                        by_cases c21 : 0 ≤ (ji20)
                        · rw [if_pos c21] at H
                          have c21b0 : decide (0 ≤ (ji20)) = true := decide_eq_true c21
                          clear c21
                          by_cases c22 : (ji20) < (a0.size : Int)
                          · rw [if_pos c22] at H
                            have c22b0 : decide ((ji20) < (a0.size : Int)) = true := decide_eq_true c22
                            clear c22
                            replace H := Option.bind_eq_some_iff.mp H
                            obtain ⟨t155, A240, H⟩ := H
                            replace H : (if t155 ≥ 0 then (if 0 ≤ (wrap64 (a1 + 3)) then ((stratumref08_hex.f kj7 (bt a0 (wrap64 (a1 + 3)))).bind fun t156 => (stratumref08_escape.j1 kj7 a0 a1 (decide (t156 ≥ 0)))) else (none)) else (stratumref08_escape.j1 kj7 a0 a1 false)) = some (r1, r2) := H
                            have A24 := Aside0.mk A240
                            clear A240
                            by_cases c25 : t155 ≥ 0
                            · rw [if_pos c25] at H
                              have c25b0 : decide (0 ≤ t155) = true := decide_eq_true c25
                              clear c25
                              obtain ⟨ji26, hji26⟩ : ∃ j_ : Int, (wrap64 (a1 + 3)) = j_ := ⟨_, rfl⟩
                              replace H : (if 0 ≤ (ji26) then ((stratumref08_hex.f kj7 (bt a0 (ji26))).bind fun t156 => (stratumref08_escape.j1 kj7 a0 a1 (decide (t156 ≥ 0)))) else (none)) = some (r1, r2) := by first | (rw [hji26] at H; exact H) | (simp only [hji26] at H ⊢; exact H)
                              (try rw [hji26] at c19b0)
                              (try rw [hji26] at A24)
                              have hji26w : (IntKind.i64.wrap (a1 + 3)) = ji26 := (i64_w _).trans hji26
                              by_cases c27 : 0 ≤ (ji26)
                              · rw [if_pos c27] at H
                                have c27b0 : decide (0 ≤ (ji26)) = true := decide_eq_true c27
                                clear c27
                                replace H := Option.bind_eq_some_iff.mp H
                                obtain ⟨t156, A290, H⟩ := H
                                replace H : (stratumref08_escape.j1 kj7 a0 a1 (decide (t156 ≥ 0))) = some (r1, r2) := H
                                have A29 := Aside0.mk A290
                                clear A290
                                have H' := Aside0.mk H
                                clear H
                                have p23 : 0 ≤ ((ji20) : Int) := of_decide_eq_true (by first | (with_reducible assumption) | assumption)
                                have q23 : (ji20) < (a0.size : Int) := of_decide_eq_true (by first | (with_reducible assumption) | assumption)
                                have hx23 := bt_at a0 (ji20)
                                replace p23 := eq_true p23
                                replace q23 := eq_true q23
                                go_wp2_with (first | (go_at_call 92; (with_reducible refine (stratumref08_hex.calls kj7 (bt a0 (ji20)) t155 _ A24.out).mono ?_); rintro e w' ⟨rfl, ⟨nd, rfl⟩⟩; (try first | exact ⟨rfl, _, World.drewN_drewN _ _ _⟩ | exact ⟨rfl, _, Eq.trans (World.drewN_drewN _ _ _) (congrArg (World.drewN _) (Nat.add_assoc _ _ _))⟩); have p28 : 0 ≤ ((ji26) : Int) := of_decide_eq_true (by first | (with_reducible assumption) | assumption); have q28 : (ji26) < (a0.size : Int) := of_decide_eq_true (by first | (with_reducible assumption) | assumption); have hx28 := bt_at a0 (ji26); replace p28 := eq_true p28; replace q28 := eq_true q28) | (go_at_call 92; (with_reducible refine (stratumref08_hex.calls kj7 (bt a0 (ji26)) t156 _ A29.out).mono ?_); rintro e w' ⟨rfl, ⟨nd, rfl⟩⟩; (try first | exact ⟨rfl, _, World.drewN_drewN _ _ _⟩ | exact ⟨rfl, _, Eq.trans (World.drewN_drewN _ _ _) (congrArg (World.drewN _) (Nat.add_assoc _ _ _))⟩)))
                                repeat (go_quiet (first | (go_at_call 92; (with_reducible refine (stratumref08_hex.calls kj7 (bt a0 (ji20)) t155 _ A24.out).mono ?_); rintro e w' ⟨rfl, ⟨nd, rfl⟩⟩; (try first | exact ⟨rfl, _, World.drewN_drewN _ _ _⟩ | exact ⟨rfl, _, Eq.trans (World.drewN_drewN _ _ _) (congrArg (World.drewN _) (Nat.add_assoc _ _ _))⟩); have p28 : 0 ≤ ((ji26) : Int) := of_decide_eq_true (by first | (with_reducible assumption) | assumption); have q28 : (ji26) < (a0.size : Int) := of_decide_eq_true (by first | (with_reducible assumption) | assumption); have hx28 := bt_at a0 (ji26); replace p28 := eq_true p28; replace q28 := eq_true q28) | (go_at_call 92; (with_reducible refine (stratumref08_hex.calls kj7 (bt a0 (ji26)) t156 _ A29.out).mono ?_); rintro e w' ⟨rfl, ⟨nd, rfl⟩⟩; (try first | exact ⟨rfl, _, World.drewN_drewN _ _ _⟩ | exact ⟨rfl, _, Eq.trans (World.drewN_drewN _ _ _) (congrArg (World.drewN _) (Nat.add_assoc _ _ _))⟩))); try go_wp2_with (first | (go_at_call 92; (with_reducible refine (stratumref08_hex.calls kj7 (bt a0 (ji20)) t155 _ A24.out).mono ?_); rintro e w' ⟨rfl, ⟨nd, rfl⟩⟩; (try first | exact ⟨rfl, _, World.drewN_drewN _ _ _⟩ | exact ⟨rfl, _, Eq.trans (World.drewN_drewN _ _ _) (congrArg (World.drewN _) (Nat.add_assoc _ _ _))⟩); have p28 : 0 ≤ ((ji26) : Int) := of_decide_eq_true (by first | (with_reducible assumption) | assumption); have q28 : (ji26) < (a0.size : Int) := of_decide_eq_true (by first | (with_reducible assumption) | assumption); have hx28 := bt_at a0 (ji26); replace p28 := eq_true p28; replace q28 := eq_true q28) | (go_at_call 92; (with_reducible refine (stratumref08_hex.calls kj7 (bt a0 (ji26)) t156 _ A29.out).mono ?_); rintro e w' ⟨rfl, ⟨nd, rfl⟩⟩; (try first | exact ⟨rfl, _, World.drewN_drewN _ _ _⟩ | exact ⟨rfl, _, Eq.trans (World.drewN_drewN _ _ _) (congrArg (World.drewN _) (Nat.add_assoc _ _ _))⟩))))
                                go_meet
                                case rel => exact ⟨_, (decide (t156 ≥ 0)), (by first | rfl | (simp; done) | (simp [*]; done)), H', ⟨by have := HJ7.out; first | omega | exact Nat.le_refl _⟩, by repeat (first | exact Drawn0.refl _ | apply Drawn0.step)⟩
                              · rw [if_neg c27] at H
                                exact absurd H (by simp)
                            · rw [if_neg c25] at H
                              have c25b0 : decide (0 ≤ t155) = false := decide_eq_false c25
                              clear c25
                              have H' := Aside0.mk H
                              clear H
                              have p23 : 0 ≤ ((ji20) : Int) := of_decide_eq_true (by first | (with_reducible assumption) | assumption)
                              have q23 : (ji20) < (a0.size : Int) := of_decide_eq_true (by first | (with_reducible assumption) | assumption)
                              have hx23 := bt_at a0 (ji20)
                              replace p23 := eq_true p23
                              replace q23 := eq_true q23
                              go_wp2_with (first | (go_at_call 92; (with_reducible refine (stratumref08_hex.calls kj7 (bt a0 (ji20)) t155 _ A24.out).mono ?_); rintro e w' ⟨rfl, ⟨nd, rfl⟩⟩; (try first | exact ⟨rfl, _, World.drewN_drewN _ _ _⟩ | exact ⟨rfl, _, Eq.trans (World.drewN_drewN _ _ _) (congrArg (World.drewN _) (Nat.add_assoc _ _ _))⟩)))
                              repeat (go_quiet (first | (go_at_call 92; (with_reducible refine (stratumref08_hex.calls kj7 (bt a0 (ji20)) t155 _ A24.out).mono ?_); rintro e w' ⟨rfl, ⟨nd, rfl⟩⟩; (try first | exact ⟨rfl, _, World.drewN_drewN _ _ _⟩ | exact ⟨rfl, _, Eq.trans (World.drewN_drewN _ _ _) (congrArg (World.drewN _) (Nat.add_assoc _ _ _))⟩))); try go_wp2_with (first | (go_at_call 92; (with_reducible refine (stratumref08_hex.calls kj7 (bt a0 (ji20)) t155 _ A24.out).mono ?_); rintro e w' ⟨rfl, ⟨nd, rfl⟩⟩; (try first | exact ⟨rfl, _, World.drewN_drewN _ _ _⟩ | exact ⟨rfl, _, Eq.trans (World.drewN_drewN _ _ _) (congrArg (World.drewN _) (Nat.add_assoc _ _ _))⟩))))
                              go_meet
                              case rel => exact ⟨_, (false), (by first | rfl | (simp; done) | (simp [*]; done)), H', ⟨by have := HJ7.out; first | omega | exact Nat.le_refl _⟩, by repeat (first | exact Drawn0.refl _ | apply Drawn0.step)⟩
                          · rw [if_neg c22] at H
                            exact absurd H (by simp)
                        · rw [if_neg c21] at H
                          exact absurd H (by simp)
                      · rw [if_neg c19] at H
                        have c19b0 : decide ((wrap64 (a1 + 3)) < (a0.size : Int)) = false := decide_eq_false c19
                        clear c19
                        (first | rw [c19b0] | (simp only [i64_w, i32_w]; rw [c19b0]) | skip)
                        have H' := Aside0.mk H
                        clear H
                        go_wp2
                        repeat (go_quiet (fail); try go_wp2)
                        go_meet
                        case rel => exact ⟨_, (false), (by first | rfl | (simp; done) | (simp [*]; done)), H', ⟨by have := HJ7.out; first | omega | exact Nat.le_refl _⟩, by repeat (first | exact Drawn0.refl _ | apply Drawn0.step)⟩
                    case rest =>
                      clear HC18
                      try clear c1
                      try clear p1
                      try clear q1
                      try clear hx1
                      try clear c2
                      try clear p2
                      try clear q2
                      try clear hx2
                      try clear c3
                      try clear c3b0
                      try clear c5
                      try clear c5b0
                      try clear c6
                      try clear c6b0
                      try clear p6
                      try clear c7
                      try clear p7
                      try clear q7
                      try clear hx7
                      try clear c8
                      try clear c9
                      try clear c9b0
                      try clear c9b1
                      try clear c10
                      try clear c12
                      try clear c12b0
                      try clear c13
                      try clear c13b0
                      try clear p14
                      try clear q14
                      try clear hx14
                      try clear c15
                      try clear c15b0
                      try clear c15b1
                      try clear c16
                      try clear c16b0
                      try clear c16b1
                      try clear c17
                      try clear c17b0
                      try clear c17b1
                      try clear c19
                      try clear c19b0
                      try clear c21
                      try clear c21b0
                      try clear c22
                      try clear c22b0
                      try clear p23
                      try clear q23
                      try clear hx23
                      try clear c25
                      try clear c25b0
                      try clear c27
                      try clear c27b0
                      try clear p28
                      try clear q28
                      try clear hx28
                      try clear p14
                      try clear p2
                      try clear p23
                      try clear p28
                      try clear p6
                      try clear p7
                      try clear q14
                      try clear q23
                      try clear q28
                      try clear q7
                      obtain ⟨kq, x48_17, rfl, HA, HJ17, ⟨mc17, rfl⟩⟩ := hcut
                      cases kq with
                      | zero => exact absurd HA.out (by simp [stratumref08_escape.j1])
                      | succ kj17 =>
                        have H := HA.out
                        clear HA
                        simp only [stratumref08_escape.j1] at H
                        by_cases c30 : x48_17 = true
                        · subst c30
                          have H1 : (if 0 ≤ (wrap64 (a1 + 2)) then (if (wrap64 (a1 + 2)) < (a0.size : Int) then ((stratumref08_hex.f kj17 (bt a0 (wrap64 (a1 + 2)))).bind fun t157 => (if 0 ≤ (wrap64 (a1 + 3)) then (if (wrap64 (a1 + 3)) < (a0.size : Int) then ((stratumref08_hex.f kj17 (bt a0 (wrap64 (a1 + 3)))).bind fun t158 => (some ((wrap64 ((wrap64 (16 * t157)) + t158)) % 256, 4))) else (none)) else (none))) else (none)) else (none)) = some (r1, r2) := by rw [if_pos rfl] at H; exact H
                          clear H
                          have H := H1
                          clear H1
                          try clear hji20
                          try clear hji20w
                          obtain ⟨ji31, hji31⟩ : ∃ j_ : Int, (wrap64 (a1 + 2)) = j_ := ⟨_, rfl⟩
                          replace H : (if 0 ≤ (ji31) then (if (ji31) < (a0.size : Int) then ((stratumref08_hex.f kj17 (bt a0 (ji31))).bind fun t157 => (if 0 ≤ (wrap64 (a1 + 3)) then (if (wrap64 (a1 + 3)) < (a0.size : Int) then ((stratumref08_hex.f kj17 (bt a0 (wrap64 (a1 + 3)))).bind fun t158 => (some ((wrap64 ((wrap64 (16 * t157)) + t158)) % 256, 4))) else (none)) else (none))) else (none)) else (none)) = some (r1, r2) := by first | (rw [hji31] at H; exact H) | (simp only [hji31] at H ⊢; exact H)
                          have hji31w : (IntKind.i64.wrap (a1 + 2)) = ji31 := (i64_w _).trans hji31
                          by_cases c32 : 0 ≤ (ji31)
                          · rw [if_pos c32] at H
                            have c32b0 : decide (0 ≤ (ji31)) = true := decide_eq_true c32
                            clear c32
                            by_cases c33 : (ji31) < (a0.size : Int)
                            · rw [if_pos c33] at H
                              have c33b0 : decide ((ji31) < (a0.size : Int)) = true := decide_eq_true c33
                              clear c33
                              replace H := Option.bind_eq_some_iff.mp H
                              obtain ⟨t157, A350, H⟩ := H
                              replace H : (if 0 ≤ (wrap64 (a1 + 3)) then (if (wrap64 (a1 + 3)) < (a0.size : Int) then ((stratumref08_hex.f kj17 (bt a0 (wrap64 (a1 + 3)))).bind fun t158 => (some ((wrap64 ((wrap64 (16 * t157)) + t158)) % 256, 4))) else (none)) else (none)) = some (r1, r2) := H
                              have A35 := Aside0.mk A350
                              clear A350
                              try clear hji26
                              try clear hji26w
                              obtain ⟨ji36, hji36⟩ : ∃ j_ : Int, (wrap64 (a1 + 3)) = j_ := ⟨_, rfl⟩
                              replace H : (if 0 ≤ (ji36) then (if (ji36) < (a0.size : Int) then ((stratumref08_hex.f kj17 (bt a0 (ji36))).bind fun t158 => (some ((wrap64 ((wrap64 (16 * t157)) + t158)) % 256, 4))) else (none)) else (none)) = some (r1, r2) := by first | (rw [hji36] at H; exact H) | (simp only [hji36] at H ⊢; exact H)
                              (try rw [hji36] at A35)
                              have hji36w : (IntKind.i64.wrap (a1 + 3)) = ji36 := (i64_w _).trans hji36
                              by_cases c37 : 0 ≤ (ji36)
                              · rw [if_pos c37] at H
                                have c37b0 : decide (0 ≤ (ji36)) = true := decide_eq_true c37
                                clear c37
                                by_cases c38 : (ji36) < (a0.size : Int)
                                · rw [if_pos c38] at H
                                  have c38b0 : decide ((ji36) < (a0.size : Int)) = true := decide_eq_true c38
                                  clear c38
                                  replace H := Option.bind_eq_some_iff.mp H
                                  obtain ⟨t158, A400, H⟩ := H
                                  replace H : (some ((wrap64 ((wrap64 (16 * t157)) + t158)) % 256, 4)) = some (r1, r2) := H
                                  have A40 := Aside0.mk A400
                                  clear A400
                                  simp only [Option.some.injEq, Prod.mk.injEq] at H
                                  obtain ⟨rfl, rfl⟩ := H
                                  have p34 : 0 ≤ ((ji31) : Int) := of_decide_eq_true (by first | (with_reducible assumption) | assumption)
                                  have q34 : (ji31) < (a0.size : Int) := of_decide_eq_true (by first | (with_reducible assumption) | assumption)
                                  have hx34 := bt_at a0 (ji31)
                                  replace p34 := eq_true p34
                                  replace q34 := eq_true q34
                                  go_wp2_with (first | (go_at_call 92; (with_reducible refine (stratumref08_hex.calls kj17 (bt a0 (ji31)) t157 _ A35.out).mono ?_); rintro e w' ⟨rfl, ⟨nd, rfl⟩⟩; (try first | exact ⟨rfl, _, World.drewN_drewN _ _ _⟩ | exact ⟨rfl, _, Eq.trans (World.drewN_drewN _ _ _) (congrArg (World.drewN _) (Nat.add_assoc _ _ _))⟩); have p39 : 0 ≤ ((ji36) : Int) := of_decide_eq_true (by first | (with_reducible assumption) | assumption); have q39 : (ji36) < (a0.size : Int) := of_decide_eq_true (by first | (with_reducible assumption) | assumption); have hx39 := bt_at a0 (ji36); replace p39 := eq_true p39; replace q39 := eq_true q39) | (go_at_call 92; (with_reducible refine (stratumref08_hex.calls kj17 (bt a0 (ji36)) t158 _ A40.out).mono ?_); rintro e w' ⟨rfl, ⟨nd, rfl⟩⟩; (try first | exact ⟨rfl, _, World.drewN_drewN _ _ _⟩ | exact ⟨rfl, _, Eq.trans (World.drewN_drewN _ _ _) (congrArg (World.drewN _) (Nat.add_assoc _ _ _))⟩)))
                                  repeat (go_quiet (first | (go_at_call 92; (with_reducible refine (stratumref08_hex.calls kj17 (bt a0 (ji31)) t157 _ A35.out).mono ?_); rintro e w' ⟨rfl, ⟨nd, rfl⟩⟩; (try first | exact ⟨rfl, _, World.drewN_drewN _ _ _⟩ | exact ⟨rfl, _, Eq.trans (World.drewN_drewN _ _ _) (congrArg (World.drewN _) (Nat.add_assoc _ _ _))⟩); have p39 : 0 ≤ ((ji36) : Int) := of_decide_eq_true (by first | (with_reducible assumption) | assumption); have q39 : (ji36) < (a0.size : Int) := of_decide_eq_true (by first | (with_reducible assumption) | assumption); have hx39 := bt_at a0 (ji36); replace p39 := eq_true p39; replace q39 := eq_true q39) | (go_at_call 92; (with_reducible refine (stratumref08_hex.calls kj17 (bt a0 (ji36)) t158 _ A40.out).mono ?_); rintro e w' ⟨rfl, ⟨nd, rfl⟩⟩; (try first | exact ⟨rfl, _, World.drewN_drewN _ _ _⟩ | exact ⟨rfl, _, Eq.trans (World.drewN_drewN _ _ _) (congrArg (World.drewN _) (Nat.add_assoc _ _ _))⟩))); try go_wp2_with (first | (go_at_call 92; (with_reducible refine (stratumref08_hex.calls kj17 (bt a0 (ji31)) t157 _ A35.out).mono ?_); rintro e w' ⟨rfl, ⟨nd, rfl⟩⟩; (try first | exact ⟨rfl, _, World.drewN_drewN _ _ _⟩ | exact ⟨rfl, _, Eq.trans (World.drewN_drewN _ _ _) (congrArg (World.drewN _) (Nat.add_assoc _ _ _))⟩); have p39 : 0 ≤ ((ji36) : Int) := of_decide_eq_true (by first | (with_reducible assumption) | assumption); have q39 : (ji36) < (a0.size : Int) := of_decide_eq_true (by first | (with_reducible assumption) | assumption); have hx39 := bt_at a0 (ji36); replace p39 := eq_true p39; replace q39 := eq_true q39) | (go_at_call 92; (with_reducible refine (stratumref08_hex.calls kj17 (bt a0 (ji36)) t158 _ A40.out).mono ?_); rintro e w' ⟨rfl, ⟨nd, rfl⟩⟩; (try first | exact ⟨rfl, _, World.drewN_drewN _ _ _⟩ | exact ⟨rfl, _, Eq.trans (World.drewN_drewN _ _ _) (congrArg (World.drewN _) (Nat.add_assoc _ _ _))⟩))))
                                  go_ret2
                                  exact ⟨by first | rfl | (simp; done) | (simp [*]; done) | (simp [i64_w, IntKind.wrap_u8]; done) | ((try simp only [← hji4]); (try simp only [← hji31]); (try simp only [← hji36]); (first | rfl | (simp; done))) | (simp [*]; done), by repeat (first | exact Drawn0.refl _ | apply Drawn0.step)⟩
                                · rw [if_neg c38] at H
                                  exact absurd H (by simp)
                              · rw [if_neg c37] at H
                                exact absurd H (by simp)
                            · rw [if_neg c33] at H
                              exact absurd H (by simp)
                          · rw [if_neg c32] at H
                            exact absurd H (by simp)
                        · replace c30 := Bool.eq_false_iff.mpr c30
                          subst c30
                          have H1 : (some (0, 0)) = some (r1, r2) := by rw [if_neg (show ¬ (false = true) by decide)] at H; exact H
                          clear H
                          have H := H1
                          clear H1
                          simp only [Option.some.injEq, Prod.mk.injEq] at H
                          obtain ⟨rfl, rfl⟩ := H
                          go_wp2
                          repeat (go_quiet (fail); try go_wp2)
                          go_ret2
                          exact ⟨by first | rfl | (simp; done) | (simp [*]; done) | (simp [i64_w, IntKind.wrap_u8]; done) | ((try simp only [← hji4]); (first | rfl | (simp; done))) | (simp [*]; done), by repeat (first | exact Drawn0.refl _ | apply Drawn0.step)⟩
                  · rw [if_neg c17] at H
                    have c17b0 : ((bt a0 (ji4)) == 120) = false := beq_eq_false_iff_ne.mpr c17
                    have c17b1 : ((bt a0 (ji4)) != 120) = true := bne_iff_ne.mpr c17
                    simp only [Option.some.injEq, Prod.mk.injEq] at H
                    obtain ⟨rfl, rfl⟩ := H
                    go_wp2
                    repeat (go_quiet (fail); try go_wp2)
                    go_ret2
                    exact ⟨by first | rfl | (simp; done) | (simp [*]; done) | (simp [i64_w, IntKind.wrap_u8]; done) | ((try simp only [← hji4]); (first | rfl | (simp; done))) | (simp [*]; done), by repeat (first | exact Drawn0.refl _ | apply Drawn0.step)⟩
      · rw [if_neg c6] at H
        exact absurd H (by simp)
    · rw [if_neg c5] at H
      exact absurd H (by simp)
mutual
def stratumref08_text.l0 : Nat → ByteArray → Int → List Int → Int → Option (Int × ByteArray × Int × Int × Int × Int × Int)
  | 0, _, _, _, _ => none
  | k + 1, x0, x1, x7, x8 => if x8 < (x0.size : Int) then (if 0 ≤ x8 then (stratumref08_text.j1 k x0 x1 x7 x8 ((bt x0 x8) != 10)) else (none)) else (stratumref08_text.j1 k x0 x1 x7 x8 false)
def stratumref08_text.j1 : Nat → ByteArray → Int → List Int → Int → Bool → Option (Int × ByteArray × Int × Int × Int × Int × Int)
  | 0, _, _, _, _, _ => none
  | k + 1, x0, x1, x7, x8, x22 => if x22 = true then (if 0 ≤ x8 then (if x8 < (x0.size : Int) then (if (bt x0 x8) = 34 then (some (3, strOfNums x7, 0, x1, wrap64 (x8 + 1), 0, 0)) else (if (bt x0 x8) = 92 then ((stratumref08_escape.f k x0 x8).bind fun bt160 => (if bt160.2 = 0 then (some (0, (⟨#[]⟩ : ByteArray), 0, 0, 0, x8, 82)) else (if x7.length < 140737488355328 then (stratumref08_text.l0 k x0 x1 (x7 ++ [bt160.1]) (wrap64 (x8 + bt160.2))) else (none)))) else (if x7.length < 140737488355328 then (stratumref08_text.l0 k x0 x1 (x7 ++ [bt x0 x8]) (wrap64 (x8 + 1))) else (none)))) else (none)) else (none)) else (some (0, (⟨#[]⟩ : ByteArray), 0, 0, 0, x1, 81))
end
def stratumref08_text.f (k : Nat) (a0 : ByteArray) (a1 : Int) : Option (Int × ByteArray × Int × Int × Int × Int × Int) := stratumref08_text.l0 k a0 a1 ([] : List Int) (wrap64 (a1 + 1))
theorem stratumref08_text.mono_l : ∀ k, (∀ y0 y1 y2 y3, LeO (stratumref08_text.l0 k y0 y1 y2 y3) (stratumref08_text.l0 (k + 1) y0 y1 y2 y3)) ∧ (∀ y0 y1 y2 y3 y4, LeO (stratumref08_text.j1 k y0 y1 y2 y3 y4) (stratumref08_text.j1 (k + 1) y0 y1 y2 y3 y4))
  | 0 => ⟨fun _ _ _ _ r h => by simp [stratumref08_text.l0] at h, fun _ _ _ _ _ r h => by simp [stratumref08_text.j1] at h⟩
  | k + 1 => by
    obtain ⟨ih0, ih1⟩ := stratumref08_text.mono_l k
    refine ⟨?_, ?_⟩
    · intro y0 y1 y2 y3
      unfold stratumref08_text.l0
      repeat' first
      | (with_reducible exact ih0 _ _ _ _)
      | (with_reducible exact ih1 _ _ _ _ _)
      | (with_reducible exact stratumref08_escape.mono _ _ _)
      | (with_reducible exact LeO.refl _)
      | (with_reducible exact LeO.none _)
      | (with_reducible refine LeO.ite ?_ ?_)
      | (with_reducible refine LeO.bind ?_ (fun _ => ?_))
      | exact ih0 _ _ _ _
      | exact ih1 _ _ _ _ _
      | exact stratumref08_escape.mono _ _ _
      | exact LeO.none _
      | refine LeO.ite ?_ ?_
      | refine LeO.bind ?_ (fun _ => ?_)
    · intro y0 y1 y2 y3 y4
      unfold stratumref08_text.j1
      repeat' first
      | (with_reducible exact ih0 _ _ _ _)
      | (with_reducible exact ih1 _ _ _ _ _)
      | (with_reducible exact stratumref08_escape.mono _ _ _)
      | (with_reducible exact LeO.refl _)
      | (with_reducible exact LeO.none _)
      | (with_reducible refine LeO.ite ?_ ?_)
      | (with_reducible refine LeO.bind ?_ (fun _ => ?_))
      | exact ih0 _ _ _ _
      | exact ih1 _ _ _ _ _
      | exact stratumref08_escape.mono _ _ _
      | exact LeO.none _
      | refine LeO.ite ?_ ?_
      | refine LeO.bind ?_ (fun _ => ?_)
theorem stratumref08_text.mono : ∀ a0 a1 k, LeO (stratumref08_text.f k a0 a1) (stratumref08_text.f (k + 1) a0 a1) := by
  intro a0 a1 k
  obtain ⟨ih0, ih1⟩ := stratumref08_text.mono_l k
  unfold stratumref08_text.f
  repeat' first
      | (with_reducible exact ih0 _ _ _ _)
      | (with_reducible exact ih1 _ _ _ _ _)
      | (with_reducible exact stratumref08_escape.mono _ _ _)
      | (with_reducible exact LeO.refl _)
      | (with_reducible exact LeO.none _)
      | (with_reducible refine LeO.ite ?_ ?_)
      | (with_reducible refine LeO.bind ?_ (fun _ => ?_))
      | exact ih0 _ _ _ _
      | exact ih1 _ _ _ _ _
      | exact stratumref08_escape.mono _ _ _
      | exact LeO.none _
      | refine LeO.ite ?_ ?_
      | refine LeO.bind ?_ (fun _ => ?_)
set_option maxHeartbeats 8000000 in
set_option maxRecDepth 100000 in
theorem stratumref08_text.calls (k : Nat) (a0 : ByteArray) (a1 : Int) (r1 : Int) (r2 : ByteArray) (r3 : Int) (r4 : Int) (r5 : Int) (r6 : Int) (r7 : Int) (w : World) (h : stratumref08_text.f k a0 a1 = some (r1, r2, r3, r4, r5, r6, r7)) :
    Calls Try.prog 68 #[.string a0, .int .i64 a1] w fun e w' => e = .returned (.tuple #[.agg #[.int .i64 r1, .string r2, .int .u64 r3, .int .i64 r4, .int .i64 r5], .int .i64 r6, .int .i64 r7]) ∧ Below w.heap.size w w' := by
  have hu47 := Try.underlying47
  have HB := Aside0.mk (Below.refl w.heap.size w)
  have H : (stratumref08_text.l0 k a0 a1 ([] : List Int) (wrap64 (a1 + 1))) = some (r1, r2, r3, r4, r5, r6, r7) := h
  clear h
  have H' := Aside0.mk H
  clear H
  go_enter Try.func68, Try.ntmps68
  go_wp2_with (first | ((with_reducible refine gate_dst (N := 4) rfl ?_); refine box_event ?hg (N := 4) ?hd (cs := #[.int .i64 0, .string (⟨#[]⟩ : ByteArray), .int .u64 0, .int .i64 0, .int .i64 0]) (t := 47) ?hr ?_; (case hd => rfl); (case hg => rfl); (case hr => first | (go_simp; done) | (go_simp; rfl)); intro gb159 hg w3 hbox hb; have n0_ := Aside0.mk (below_step (by repeat (first | (with_reducible first | exact HB.out | apply below_alloc | apply pw_below_drewN | apply below_drew1) | exact HB.out)) hb); have n1_ := Aside0.mk (hbox); have n2_ := Aside0.mk ((by rw [hg]; exact (below_size (by repeat (first | (with_reducible first | exact HB.out | apply below_alloc | apply pw_below_drewN | apply below_drew1) | exact HB.out))) : w.heap.size ≤ gb159)); have n3_ := Aside0.mk ((by rw [hg]; exact (below_size (by repeat (first | (with_reducible first | exact HB.out | apply below_alloc | apply pw_below_drewN | apply below_drew1) | exact HB.out))) : w.heap.size ≤ gb159)); clear HB; have HB := n0_; have BK159 := n1_; have GW159 := n2_; have GE159 := n3_; clear n0_ n1_ n2_ n3_; clear hb hbox hg))
  go_loopg [7, 8] k (fun kq v7 v8 w' => ∃ (x7_1 : List Int) (x8_1 : Int) (x160000_1 : Int) (x160001_1 : ByteArray) (x160002_1 : Int) (x160003_1 : Int) (x160004_1 : Int), v8 = .int .i64 x8_1 ∧ Aside0 (stratumref08_text.l0 kq a0 a1 x7_1 x8_1 = some (r1, r2, r3, r4, r5, r6, r7)) ∧ Aside0 (kq ≤ k) ∧ Aside0 (Kd.R (Kd.int .u8) 5 w' w.heap.size (fun _ => True) v7 x7_1) ∧ Aside0 (w'.heap[gb159]? = some (.cells #[.int .i64 x160000_1, .string x160001_1, .int .u64 x160002_1, .int .i64 x160003_1, .int .i64 x160004_1] 47 (0, 0))) ∧ Aside0 (Below w.heap.size w w'))
  case atStart => exact ⟨(([] : List Int)), (wrap64 (a1 + 1)), (0), ((⟨#[]⟩ : ByteArray)), (0), (0), (0), (by first | rfl | (simp; done) | (simp [*]; done)), H', ⟨Nat.le_refl _⟩, ⟨by first | exact Kd.R_nil _ _ _ _ _ | exact Kd.N_nil _ _ _ _ _ | exact Kd.V_nil _ _ _ _ _ | exact Kd.Q_nil _ _ _ _ _ | exact Kd.S_nil _ _ _ _ _⟩, ⟨by (with_reducible repeat (first | refine blk_drewN ?_ _ | refine blk_drew ?_ | refine blk_alloc ?_ _)); exact BK159.out⟩, ⟨by repeat (first | (with_reducible first | exact HB.out | apply below_alloc | apply pw_below_drewN | apply below_drew1 | refine below_set ?_ GE159.out) | exact HB.out)⟩⟩
  case round =>
    clear H'
    try clear p2
    obtain ⟨x7_1, x8_1, x160000_1, x160001_1, x160002_1, x160003_1, x160004_1, rfl, HA, HK1, HO_7, BK159, HB⟩ := hrel
    cases gk with
    | zero => exact absurd HA.out (by simp [stratumref08_text.l0])
    | succ k1 =>
      have H := HA.out
      clear HA
      simp only [stratumref08_text.l0] at H
      have HC4 := Aside0.mk H
      clear H
      go_upto_region 3 with (fail)
      go_cut [22] (fun v22 wc => ∃ (kq : Nat) (x22_3 : Bool), v22 = .bool x22_3 ∧ Aside0 (stratumref08_text.j1 kq a0 a1 x7_1 x8_1 x22_3 = some (r1, r2, r3, r4, r5, r6, r7)) ∧ Aside0 (kq ≤ k1) ∧ Aside0 (Kd.R (Kd.int .u8) 5 wc w.heap.size (fun _ => True) u7 x7_1) ∧ Aside0 (wc.heap[gb159]? = some (.cells #[.int .i64 x160000_1, .string x160001_1, .int .u64 x160002_1, .int .i64 x160003_1, .int .i64 x160004_1] 47 (0, 0))) ∧ Aside0 (Below w.heap.size w wc))
      case first =>
        have H := HC4.out
        clear HC4
        by_cases c5 : x8_1 < (a0.size : Int)
        · rw [if_pos c5] at H
          have c5b0 : decide (x8_1 < (a0.size : Int)) = true := decide_eq_true c5
          clear c5
          (first | rw [c5b0] | (simp only [i64_w, i32_w]; rw [c5b0]) | skip)
          by_cases c6 : 0 ≤ x8_1
          · rw [if_pos c6] at H
            have c6b0 : decide (0 ≤ x8_1) = true := decide_eq_true c6
            clear c6
            have H' := Aside0.mk H
            clear H
            have p7 : 0 ≤ (x8_1 : Int) := of_decide_eq_true (by first | (with_reducible assumption) | assumption)
            have q7 : x8_1 < (a0.size : Int) := of_decide_eq_true (by first | (with_reducible assumption) | assumption)
            have hx7 := bt_at a0 x8_1
            replace p7 := eq_true p7
            replace q7 := eq_true q7
            go_wp2
            go_meet
            case rel => exact ⟨_, (((bt a0 x8_1) != 10)), (by first | rfl | (simp; done) | (simp [*]; done)), H', ⟨by have := HK1.out; first | omega | exact Nat.le_refl _⟩, ⟨by (with_reducible repeat (first | apply Kd.R_alloc | apply Kd.R_drewN | apply Kd.R_drew)); exact HO_7.out⟩, ⟨by (with_reducible repeat (first | refine blk_drewN ?_ _ | refine blk_drew ?_ | refine blk_alloc ?_ _)); exact BK159.out⟩, ⟨by repeat (first | (with_reducible first | exact HB.out | apply below_alloc | apply pw_below_drewN | apply below_drew1 | refine below_set ?_ GE159.out) | exact HB.out)⟩⟩
          · rw [if_neg c6] at H
            exact absurd H (by simp)
        · rw [if_neg c5] at H
          have c5b0 : decide (x8_1 < (a0.size : Int)) = false := decide_eq_false c5
          clear c5
          (first | rw [c5b0] | (simp only [i64_w, i32_w]; rw [c5b0]) | skip)
          have H' := Aside0.mk H
          clear H
          go_wp2
          go_meet
          case rel => exact ⟨_, (false), (by first | rfl | (simp; done) | (simp [*]; done)), H', ⟨by have := HK1.out; first | omega | exact Nat.le_refl _⟩, ⟨by (with_reducible repeat (first | apply Kd.R_alloc | apply Kd.R_drewN | apply Kd.R_drew)); exact HO_7.out⟩, ⟨by (with_reducible repeat (first | refine blk_drewN ?_ _ | refine blk_drew ?_ | refine blk_alloc ?_ _)); exact BK159.out⟩, ⟨by repeat (first | (with_reducible first | exact HB.out | apply below_alloc | apply pw_below_drewN | apply below_drew1 | refine below_set ?_ GE159.out) | exact HB.out)⟩⟩
      case rest =>
        clear HC4
        try clear p2
        try clear c5
        try clear c5b0
        try clear c6
        try clear c6b0
        try clear p6
        try clear p7
        try clear q7
        try clear hx7
        try clear p2
        try clear p7
        try clear q7
        obtain ⟨kq, x22_3, rfl, HA, HJ3, HO_7, BK159, HB⟩ := hcut
        cases kq with
        | zero => exact absurd HA.out (by simp [stratumref08_text.j1])
        | succ kj3 =>
          have H := HA.out
          clear HA
          simp only [stratumref08_text.j1] at H
          by_cases c8 : x22_3 = true
          · subst c8
            have H1 : (if 0 ≤ x8_1 then (if x8_1 < (a0.size : Int) then (if (bt a0 x8_1) = 34 then (some (3, strOfNums x7_1, 0, a1, wrap64 (x8_1 + 1), 0, 0)) else (if (bt a0 x8_1) = 92 then ((stratumref08_escape.f kj3 a0 x8_1).bind fun bt160 => (if bt160.2 = 0 then (some (0, (⟨#[]⟩ : ByteArray), 0, 0, 0, x8_1, 82)) else (if x7_1.length < 140737488355328 then (stratumref08_text.l0 kj3 a0 a1 (x7_1 ++ [bt160.1]) (wrap64 (x8_1 + bt160.2))) else (none)))) else (if x7_1.length < 140737488355328 then (stratumref08_text.l0 kj3 a0 a1 (x7_1 ++ [bt a0 x8_1]) (wrap64 (x8_1 + 1))) else (none)))) else (none)) else (none)) = some (r1, r2, r3, r4, r5, r6, r7) := by rw [if_pos rfl] at H; exact H
            clear H
            have H := H1
            clear H1
            by_cases c9 : 0 ≤ x8_1
            · rw [if_pos c9] at H
              have c9b0 : decide (0 ≤ x8_1) = true := decide_eq_true c9
              clear c9
              by_cases c10 : x8_1 < (a0.size : Int)
              · rw [if_pos c10] at H
                have c10b0 : decide (x8_1 < (a0.size : Int)) = true := decide_eq_true c10
                clear c10
                by_cases c12 : (bt a0 x8_1) = 34
                · rw [if_pos c12] at H
                  have c12b0 : ((bt a0 x8_1) == 34) = true := beq_iff_eq.mpr c12
                  have c12b1 : ((bt a0 x8_1) != 34) = false := bne_eq_false_iff_eq.mpr c12
                  clear c12
                  simp only [Option.some.injEq, Prod.mk.injEq] at H
                  obtain ⟨rfl, rfl, rfl, rfl, rfl, rfl, rfl⟩ := H
                  have p11 : 0 ≤ (x8_1 : Int) := of_decide_eq_true (by first | (with_reducible assumption) | assumption)
                  have q11 : x8_1 < (a0.size : Int) := of_decide_eq_true (by first | (with_reducible assumption) | assumption)
                  have hx11 := bt_at a0 x8_1
                  replace p11 := eq_true p11
                  replace q11 := eq_true q11
                  have hcv13 := own_string (P := Try.prog) Try.underlying36 Try.underlying5 Try.underlying9 (Kd.own_of_R HO_7.out)
                  have hcz14_0 : wc.cell? ⟨gb159, 0, none⟩ = some (.int .i64 x160000_1) := (blk_cell BK159.out 0).trans rfl
                  have hcz14_1 : wc.cell? ⟨gb159, 1, none⟩ = some (.string x160001_1) := (blk_cell BK159.out 1).trans rfl
                  have hcz14_2 : wc.cell? ⟨gb159, 2, none⟩ = some (.int .u64 x160002_1) := (blk_cell BK159.out 2).trans rfl
                  have hcz14_3 : wc.cell? ⟨gb159, 3, none⟩ = some (.int .i64 x160003_1) := (blk_cell BK159.out 3).trans rfl
                  have hcz14_4 : wc.cell? ⟨gb159, 4, none⟩ = some (.int .i64 x160004_1) := (blk_cell BK159.out 4).trans rfl
                  have hfz14_0 := blk_frozen BK159.out 0
                  have hfz14_1 := blk_frozen BK159.out 1
                  have hfz14_2 := blk_frozen BK159.out 2
                  have hfz14_3 := blk_frozen BK159.out 3
                  have hfz14_4 := blk_frozen BK159.out 4
                  go_wp2
                  refine bodyPost_ret (results_ctt rfl _ _ gb159 47 #[.int .i64 3, .string (strOfNums x7_1), .int .u64 0, .int .i64 a1, .int .i64 (wrap64 (x8_1 + 1))] (0, 0) _ rfl (by (with_reducible repeat (first | refine blk_drewN ?_ _ | refine blk_drew ?_ | refine blk_alloc ?_ _)); refine blk_put (cs := #[.int .i64 3, .string (strOfNums x7_1), .int .u64 0, .int .i64 a1, .int .i64 x160004_1]) ?_ 4 _ rfl; (with_reducible repeat (first | refine blk_drewN ?_ _ | refine blk_drew ?_ | refine blk_alloc ?_ _)); refine blk_put (cs := #[.int .i64 3, .string (strOfNums x7_1), .int .u64 0, .int .i64 x160003_1, .int .i64 x160004_1]) ?_ 3 _ rfl; (with_reducible repeat (first | refine blk_drewN ?_ _ | refine blk_drew ?_ | refine blk_alloc ?_ _)); refine blk_put (cs := #[.int .i64 3, .string (strOfNums x7_1), .int .u64 x160002_1, .int .i64 x160003_1, .int .i64 x160004_1]) ?_ 2 _ rfl; (with_reducible repeat (first | refine blk_drewN ?_ _ | refine blk_drew ?_ | refine blk_alloc ?_ _)); refine blk_put (cs := #[.int .i64 3, .string x160001_1, .int .u64 x160002_1, .int .i64 x160003_1, .int .i64 x160004_1]) ?_ 1 _ rfl; (with_reducible repeat (first | refine blk_drewN ?_ _ | refine blk_drew ?_ | refine blk_alloc ?_ _)); refine blk_put (cs := #[.int .i64 x160000_1, .string x160001_1, .int .u64 x160002_1, .int .i64 x160003_1, .int .i64 x160004_1]) ?_ 0 _ rfl; (with_reducible repeat (first | refine blk_drewN ?_ _ | refine blk_drew ?_ | refine blk_alloc ?_ _)); exact BK159.out) Try.underlying47 rfl (by kernel_rfl)) rfl ?_
                  exact ⟨by first | rfl | (simp [errW_none, errW_some] <;> rfl) | (simp [*, errW_none, errW_some] <;> rfl), by repeat (first | (with_reducible first | exact HB.out | apply below_alloc | apply pw_below_drewN | apply below_drew1 | refine below_set ?_ GE159.out) | exact HB.out)⟩
                · rw [if_neg c12] at H
                  have c12b0 : ((bt a0 x8_1) == 34) = false := beq_eq_false_iff_ne.mpr c12
                  have c12b1 : ((bt a0 x8_1) != 34) = true := bne_iff_ne.mpr c12
                  by_cases c15 : (bt a0 x8_1) = 92
                  · rw [if_pos c15] at H
                    have c15b0 : ((bt a0 x8_1) == 92) = true := beq_iff_eq.mpr c15
                    have c15b1 : ((bt a0 x8_1) != 92) = false := bne_eq_false_iff_eq.mpr c15
                    clear c15
                    replace H := Option.bind_eq_some_iff.mp H
                    obtain ⟨⟨t160, t161⟩, A160, H⟩ := H
                    replace H : (if t161 = 0 then (some (0, (⟨#[]⟩ : ByteArray), 0, 0, 0, x8_1, 82)) else (if x7_1.length < 140737488355328 then (stratumref08_text.l0 kj3 a0 a1 (x7_1 ++ [t160]) (wrap64 (x8_1 + t161))) else (none))) = some (r1, r2, r3, r4, r5, r6, r7) := H
                    have A16 := Aside0.mk A160
                    clear A160
                    by_cases c17 : t161 = 0
                    · rw [if_pos c17] at H
                      have c17b0 : (t161 == 0) = true := beq_iff_eq.mpr c17
                      have c17b1 : (t161 != 0) = false := bne_eq_false_iff_eq.mpr c17
                      clear c17
                      simp only [Option.some.injEq, Prod.mk.injEq] at H
                      obtain ⟨rfl, rfl, rfl, rfl, rfl, rfl, rfl⟩ := H
                      have p11 : 0 ≤ (x8_1 : Int) := of_decide_eq_true (by first | (with_reducible assumption) | assumption)
                      have q11 : x8_1 < (a0.size : Int) := of_decide_eq_true (by first | (with_reducible assumption) | assumption)
                      have hx11 := bt_at a0 x8_1
                      replace p11 := eq_true p11
                      replace q11 := eq_true q11
                      go_wp2_with (first | ((with_reducible refine gate_callee (f := 84) rfl ?_); refine goesL_ (some 47) rfl rfl Try.func84 (by kernel_rfl) rfl #[.string a0, .int .i64 x8_1] rfl (by (try simp only [List.map_toArray, List.map_cons, List.map_nil]); first | done | rfl | (simp only [List.length_drop, List.length_take]; rfl)) ?_; (with_reducible refine (stratumref08_escape.calls kj3 a0 x8_1 t160 t161 _ A16.out).mono ?_); rintro e w' ⟨rfl, ⟨nd, rfl⟩⟩; refine ⟨_, rfl, ?_⟩; (try (rw [drewN_self wc]; generalize hq_ : World.drewN wc _ = wc; have n0_ : Aside0 (Kd.R (Kd.int .u8) 5 wc w.heap.size (fun _ => True) u7 x7_1) := ⟨by rw [← hq_]; exact (by (with_reducible repeat (first | apply Kd.R_alloc | apply Kd.R_drewN | apply Kd.R_drew)); exact HO_7.out)⟩; have n1_ : Aside0 (wc.heap[gb159]? = some (.cells #[.int .i64 x160000_1, .string x160001_1, .int .u64 x160002_1, .int .i64 x160003_1, .int .i64 x160004_1] 47 (0, 0))) := ⟨by rw [← hq_]; exact (by (with_reducible repeat (first | refine blk_drewN ?_ _ | refine blk_drew ?_ | refine blk_alloc ?_ _)); exact BK159.out)⟩; have n2_ : Aside0 (Below w.heap.size w wc) := ⟨by rw [← hq_]; exact (by repeat (first | (with_reducible first | exact HB.out | apply below_alloc | apply pw_below_drewN | apply below_drew1 | refine below_set ?_ GE159.out) | exact HB.out))⟩; clear HO_7 BK159 HB hq_; have HO_7 := n0_; have BK159 := n1_; have HB := n2_; clear n0_ n1_ n2_)); have hcz18_0 : wc.cell? ⟨gb159, 0, none⟩ = some (.int .i64 x160000_1) := (blk_cell BK159.out 0).trans rfl; have hcz18_1 : wc.cell? ⟨gb159, 1, none⟩ = some (.string x160001_1) := (blk_cell BK159.out 1).trans rfl; have hcz18_2 : wc.cell? ⟨gb159, 2, none⟩ = some (.int .u64 x160002_1) := (blk_cell BK159.out 2).trans rfl; have hcz18_3 : wc.cell? ⟨gb159, 3, none⟩ = some (.int .i64 x160003_1) := (blk_cell BK159.out 3).trans rfl; have hcz18_4 : wc.cell? ⟨gb159, 4, none⟩ = some (.int .i64 x160004_1) := (blk_cell BK159.out 4).trans rfl; have hfz18_0 := blk_frozen BK159.out 0; have hfz18_1 := blk_frozen BK159.out 1; have hfz18_2 := blk_frozen BK159.out 2; have hfz18_3 := blk_frozen BK159.out 3; have hfz18_4 := blk_frozen BK159.out 4))
                      refine bodyPost_ret (results_ctt rfl _ _ gb159 47 #[.int .i64 0, .string (⟨#[]⟩ : ByteArray), .int .u64 0, .int .i64 0, .int .i64 0] (0, 0) _ rfl (by (with_reducible repeat (first | refine blk_drewN ?_ _ | refine blk_drew ?_ | refine blk_alloc ?_ _)); refine blk_put (cs := #[.int .i64 0, .string (⟨#[]⟩ : ByteArray), .int .u64 0, .int .i64 0, .int .i64 x160004_1]) ?_ 4 _ rfl; (with_reducible repeat (first | refine blk_drewN ?_ _ | refine blk_drew ?_ | refine blk_alloc ?_ _)); refine blk_put (cs := #[.int .i64 0, .string (⟨#[]⟩ : ByteArray), .int .u64 0, .int .i64 x160003_1, .int .i64 x160004_1]) ?_ 3 _ rfl; (with_reducible repeat (first | refine blk_drewN ?_ _ | refine blk_drew ?_ | refine blk_alloc ?_ _)); refine blk_put (cs := #[.int .i64 0, .string (⟨#[]⟩ : ByteArray), .int .u64 x160002_1, .int .i64 x160003_1, .int .i64 x160004_1]) ?_ 2 _ rfl; (with_reducible repeat (first | refine blk_drewN ?_ _ | refine blk_drew ?_ | refine blk_alloc ?_ _)); refine blk_put (cs := #[.int .i64 0, .string x160001_1, .int .u64 x160002_1, .int .i64 x160003_1, .int .i64 x160004_1]) ?_ 1 _ rfl; (with_reducible repeat (first | refine blk_drewN ?_ _ | refine blk_drew ?_ | refine blk_alloc ?_ _)); refine blk_put (cs := #[.int .i64 x160000_1, .string x160001_1, .int .u64 x160002_1, .int .i64 x160003_1, .int .i64 x160004_1]) ?_ 0 _ rfl; (with_reducible repeat (first | refine blk_drewN ?_ _ | refine blk_drew ?_ | refine blk_alloc ?_ _)); exact BK159.out) Try.underlying47 rfl (by kernel_rfl)) rfl ?_
                      exact ⟨by first | rfl | (simp [errW_none, errW_some] <;> rfl) | (simp [*, errW_none, errW_some] <;> rfl), by repeat (first | (with_reducible first | exact HB.out | apply below_alloc | apply pw_below_drewN | apply below_drew1 | refine below_set ?_ GE159.out) | exact HB.out)⟩
                    · rw [if_neg c17] at H
                      have c17b0 : (t161 == 0) = false := beq_eq_false_iff_ne.mpr c17
                      have c17b1 : (t161 != 0) = true := bne_iff_ne.mpr c17
                      by_cases c19 : x7_1.length < 140737488355328
                      · rw [if_pos c19] at H
                        have LMc19 := Aside0.mk c19
                        clear c19
                        obtain ⟨y162, hy162⟩ : ∃ y_ : List Int, y_ = (x7_1 ++ [t160]) := ⟨_, rfl⟩
                        replace H : (stratumref08_text.l0 kj3 a0 a1 y162 (wrap64 (x8_1 + t161))) = some (r1, r2, r3, r4, r5, r6, r7) := by first | (rw [hy162]; with_reducible exact H) | (have H2_ := (Option.bind_some _ _).symm.trans H; rw [hy162]; with_reducible exact H2_) | (have H2_ := (Option.bind_some _ _).symm.trans H; with_reducible exact H2_) | with_reducible exact H | (rw [hy162]; exact H) | exact H
                        have Ny162 := Aside0.mk hy162
                        clear hy162
                        have H' := Aside0.mk H
                        clear H
                        have p11 : 0 ≤ (x8_1 : Int) := of_decide_eq_true (by first | (with_reducible assumption) | assumption)
                        have q11 : x8_1 < (a0.size : Int) := of_decide_eq_true (by first | (with_reducible assumption) | assumption)
                        have hx11 := bt_at a0 x8_1
                        replace p11 := eq_true p11
                        replace q11 := eq_true q11
                        go_wp2_with (first | ((with_reducible refine gate_callee (f := 84) rfl ?_); refine goesL_ (some 47) rfl rfl Try.func84 (by kernel_rfl) rfl #[.string a0, .int .i64 x8_1] rfl (by (try simp only [List.map_toArray, List.map_cons, List.map_nil]); first | done | rfl | (simp only [List.length_drop, List.length_take]; rfl)) ?_; (with_reducible refine (stratumref08_escape.calls kj3 a0 x8_1 t160 t161 _ A16.out).mono ?_); rintro e w' ⟨rfl, ⟨nd, rfl⟩⟩; refine ⟨_, rfl, ?_⟩) | ((with_reducible refine gate_builtin (b := .append) (xs := #[.tmp 54, .tmp 56]) rfl ?_); at_builtin; refine Kd.R_append (Kd.int .u8) (w0 := w) w.heap.size rfl (.tmp 54) (.tmp 56) 36 5 (.int .u8 0) 1 rfl Try.underlying36 info5 rfl (by decide) (by omega) u7 x7_1 t160 [.int .u8 t160] (fun _ => True) (fun _ => False) rfl rfl ?aP (fun _ hk => hk.elim) ?aF ?aO ?aB ?aS ?aL ?_; (case aP => exact rfl); (case aB => exact (by repeat (first | (with_reducible first | exact HB.out | apply below_alloc | apply pw_below_drewN | apply below_drew1 | refine below_set ?_ GE159.out) | exact HB.out))); (case aF => exact (fun _ _ => trivial)); (case aO => exact (by (with_reducible repeat (first | apply Kd.R_alloc | apply Kd.R_drewN | apply Kd.R_drew)); exact HO_7.out)); (case aS => exact (below_size (by repeat (first | (with_reducible first | exact HB.out | apply below_alloc | apply pw_below_drewN | apply below_drew1 | refine below_set ?_ GE159.out) | exact HB.out)))); (case aL => have := LMc19.out; omega); intro v163 w20 ho hb hg hat; rw [← Ny162.out] at ho; have n0_ := Aside0.mk (blk_grown (g := gb159) (o := .cells #[.int .i64 x160000_1, .string x160001_1, .int .u64 x160002_1, .int .i64 x160003_1, .int .i64 x160004_1] 47 (0, 0)) (by (with_reducible repeat (first | refine blk_drewN ?_ _ | refine blk_drew ?_ | refine blk_alloc ?_ _)); exact BK159.out) hg (Kd.R_ne HO_7.out BK159.out (by decide))); have n1_ := Aside0.mk (hb); have n2_ := Aside0.mk (ho); clear BK159; clear HB; clear HO_7; have BK159 := n0_; have HB := n1_; have HO164 := n2_; clear n0_ n1_ n2_; clear ho hb hg hat))
                        go_roundg kj3
                        case measure => have := HK1.out; have := HJ3.out; omega
                        case rel => exact ⟨(y162), (wrap64 (x8_1 + t161)), (x160000_1), (x160001_1), (x160002_1), (x160003_1), (x160004_1), (by first | rfl | (simp; done) | (simp [*]; done)), H', ⟨by have := HK1.out; have := HJ3.out; omega⟩, ⟨by (with_reducible repeat (first | apply Kd.R_alloc | apply Kd.R_drewN | apply Kd.R_drew)); exact HO164.out⟩, ⟨by (with_reducible repeat (first | refine blk_drewN ?_ _ | refine blk_drew ?_ | refine blk_alloc ?_ _)); exact BK159.out⟩, ⟨by repeat (first | (with_reducible first | exact HB.out | apply below_alloc | apply pw_below_drewN | apply below_drew1 | refine below_set ?_ GE159.out) | exact HB.out)⟩⟩
                      · rw [if_neg c19] at H
                        exact absurd H (by simp)
                  · rw [if_neg c15] at H
                    have c15b0 : ((bt a0 x8_1) == 92) = false := beq_eq_false_iff_ne.mpr c15
                    have c15b1 : ((bt a0 x8_1) != 92) = true := bne_iff_ne.mpr c15
                    by_cases c22 : x7_1.length < 140737488355328
                    · rw [if_pos c22] at H
                      have LMc22 := Aside0.mk c22
                      clear c22
                      obtain ⟨y165, hy165⟩ : ∃ y_ : List Int, y_ = (x7_1 ++ [bt a0 x8_1]) := ⟨_, rfl⟩
                      replace H : (stratumref08_text.l0 kj3 a0 a1 y165 (wrap64 (x8_1 + 1))) = some (r1, r2, r3, r4, r5, r6, r7) := by first | (rw [hy165]; with_reducible exact H) | (have H2_ := (Option.bind_some _ _).symm.trans H; rw [hy165]; with_reducible exact H2_) | (have H2_ := (Option.bind_some _ _).symm.trans H; with_reducible exact H2_) | with_reducible exact H | (rw [hy165]; exact H) | exact H
                      have Ny165 := Aside0.mk hy165
                      clear hy165
                      have H' := Aside0.mk H
                      clear H
                      have p11 : 0 ≤ (x8_1 : Int) := of_decide_eq_true (by first | (with_reducible assumption) | assumption)
                      have q11 : x8_1 < (a0.size : Int) := of_decide_eq_true (by first | (with_reducible assumption) | assumption)
                      have hx11 := bt_at a0 x8_1
                      replace p11 := eq_true p11
                      replace q11 := eq_true q11
                      have p21 : 0 ≤ (x8_1 : Int) := of_decide_eq_true (by first | (with_reducible assumption) | assumption)
                      have q21 : x8_1 < (a0.size : Int) := of_decide_eq_true (by first | (with_reducible assumption) | assumption)
                      have hx21 := bt_at a0 x8_1
                      replace p21 := eq_true p21
                      replace q21 := eq_true q21
                      go_wp2_with (first | ((with_reducible refine gate_builtin (b := .append) (xs := #[.tmp 26, .tmp 30]) rfl ?_); at_builtin; refine Kd.R_append (Kd.int .u8) (w0 := w) w.heap.size rfl (.tmp 26) (.tmp 30) 36 5 (.int .u8 0) 1 rfl Try.underlying36 info5 rfl (by decide) (by omega) u7 x7_1 (bt a0 x8_1) [.int .u8 (bt a0 x8_1)] (fun _ => True) (fun _ => False) rfl rfl ?aP (fun _ hk => hk.elim) ?aF ?aO ?aB ?aS ?aL ?_; (case aP => exact rfl); (case aB => exact (by repeat (first | (with_reducible first | exact HB.out | apply below_alloc | apply pw_below_drewN | apply below_drew1 | refine below_set ?_ GE159.out) | exact HB.out))); (case aF => exact (fun _ _ => trivial)); (case aO => exact (by (with_reducible repeat (first | apply Kd.R_alloc | apply Kd.R_drewN | apply Kd.R_drew)); exact HO_7.out)); (case aS => exact (below_size (by repeat (first | (with_reducible first | exact HB.out | apply below_alloc | apply pw_below_drewN | apply below_drew1 | refine below_set ?_ GE159.out) | exact HB.out)))); (case aL => have := LMc22.out; omega); intro v166 w23 ho hb hg hat; rw [← Ny165.out] at ho; have n0_ := Aside0.mk (blk_grown (g := gb159) (o := .cells #[.int .i64 x160000_1, .string x160001_1, .int .u64 x160002_1, .int .i64 x160003_1, .int .i64 x160004_1] 47 (0, 0)) (by (with_reducible repeat (first | refine blk_drewN ?_ _ | refine blk_drew ?_ | refine blk_alloc ?_ _)); exact BK159.out) hg (Kd.R_ne HO_7.out BK159.out (by decide))); have n1_ := Aside0.mk (hb); have n2_ := Aside0.mk (ho); clear BK159; clear HB; clear HO_7; have BK159 := n0_; have HB := n1_; have HO167 := n2_; clear n0_ n1_ n2_; clear ho hb hg hat))
                      go_roundg kj3
                      case measure => have := HK1.out; have := HJ3.out; omega
                      case rel => exact ⟨(y165), (wrap64 (x8_1 + 1)), (x160000_1), (x160001_1), (x160002_1), (x160003_1), (x160004_1), (by first | rfl | (simp; done) | (simp [*]; done)), H', ⟨by have := HK1.out; have := HJ3.out; omega⟩, ⟨by (with_reducible repeat (first | apply Kd.R_alloc | apply Kd.R_drewN | apply Kd.R_drew)); exact HO167.out⟩, ⟨by (with_reducible repeat (first | refine blk_drewN ?_ _ | refine blk_drew ?_ | refine blk_alloc ?_ _)); exact BK159.out⟩, ⟨by repeat (first | (with_reducible first | exact HB.out | apply below_alloc | apply pw_below_drewN | apply below_drew1 | refine below_set ?_ GE159.out) | exact HB.out)⟩⟩
                    · rw [if_neg c22] at H
                      exact absurd H (by simp)
              · rw [if_neg c10] at H
                exact absurd H (by simp)
            · rw [if_neg c9] at H
              exact absurd H (by simp)
          · replace c8 := Bool.eq_false_iff.mpr c8
            subst c8
            have H1 : (some (0, (⟨#[]⟩ : ByteArray), 0, 0, 0, a1, 81)) = some (r1, r2, r3, r4, r5, r6, r7) := by rw [if_neg (show ¬ (false = true) by decide)] at H; exact H
            clear H
            have H := H1
            clear H1
            simp only [Option.some.injEq, Prod.mk.injEq] at H
            obtain ⟨rfl, rfl, rfl, rfl, rfl, rfl, rfl⟩ := H
            have hcz24_0 : wc.cell? ⟨gb159, 0, none⟩ = some (.int .i64 x160000_1) := (blk_cell BK159.out 0).trans rfl
            have hcz24_1 : wc.cell? ⟨gb159, 1, none⟩ = some (.string x160001_1) := (blk_cell BK159.out 1).trans rfl
            have hcz24_2 : wc.cell? ⟨gb159, 2, none⟩ = some (.int .u64 x160002_1) := (blk_cell BK159.out 2).trans rfl
            have hcz24_3 : wc.cell? ⟨gb159, 3, none⟩ = some (.int .i64 x160003_1) := (blk_cell BK159.out 3).trans rfl
            have hcz24_4 : wc.cell? ⟨gb159, 4, none⟩ = some (.int .i64 x160004_1) := (blk_cell BK159.out 4).trans rfl
            have hfz24_0 := blk_frozen BK159.out 0
            have hfz24_1 := blk_frozen BK159.out 1
            have hfz24_2 := blk_frozen BK159.out 2
            have hfz24_3 := blk_frozen BK159.out 3
            have hfz24_4 := blk_frozen BK159.out 4
            go_wp2
            refine bodyPost_ret (results_ctt rfl _ _ gb159 47 #[.int .i64 0, .string (⟨#[]⟩ : ByteArray), .int .u64 0, .int .i64 0, .int .i64 0] (0, 0) _ rfl (by (with_reducible repeat (first | refine blk_drewN ?_ _ | refine blk_drew ?_ | refine blk_alloc ?_ _)); refine blk_put (cs := #[.int .i64 0, .string (⟨#[]⟩ : ByteArray), .int .u64 0, .int .i64 0, .int .i64 x160004_1]) ?_ 4 _ rfl; (with_reducible repeat (first | refine blk_drewN ?_ _ | refine blk_drew ?_ | refine blk_alloc ?_ _)); refine blk_put (cs := #[.int .i64 0, .string (⟨#[]⟩ : ByteArray), .int .u64 0, .int .i64 x160003_1, .int .i64 x160004_1]) ?_ 3 _ rfl; (with_reducible repeat (first | refine blk_drewN ?_ _ | refine blk_drew ?_ | refine blk_alloc ?_ _)); refine blk_put (cs := #[.int .i64 0, .string (⟨#[]⟩ : ByteArray), .int .u64 x160002_1, .int .i64 x160003_1, .int .i64 x160004_1]) ?_ 2 _ rfl; (with_reducible repeat (first | refine blk_drewN ?_ _ | refine blk_drew ?_ | refine blk_alloc ?_ _)); refine blk_put (cs := #[.int .i64 0, .string x160001_1, .int .u64 x160002_1, .int .i64 x160003_1, .int .i64 x160004_1]) ?_ 1 _ rfl; (with_reducible repeat (first | refine blk_drewN ?_ _ | refine blk_drew ?_ | refine blk_alloc ?_ _)); refine blk_put (cs := #[.int .i64 x160000_1, .string x160001_1, .int .u64 x160002_1, .int .i64 x160003_1, .int .i64 x160004_1]) ?_ 0 _ rfl; (with_reducible repeat (first | refine blk_drewN ?_ _ | refine blk_drew ?_ | refine blk_alloc ?_ _)); exact BK159.out) Try.underlying47 rfl (by kernel_rfl)) rfl ?_
            exact ⟨by first | rfl | (simp [errW_none, errW_some] <;> rfl) | (simp [*, errW_none, errW_some] <;> rfl), by repeat (first | (with_reducible first | exact HB.out | apply below_alloc | apply pw_below_drewN | apply below_drew1 | refine below_set ?_ GE159.out) | exact HB.out)⟩
def stratumref08_Mark.l0 : Nat → Int → ByteArray → Int → Option (Bool)
  | 0, _, _, _ => none
  | k + 1, x0, x3, x4 => if x4 < (x3.size : Int) then (if 0 ≤ x4 then (if (bt x3 x4) = x0 then (some true) else (stratumref08_Mark.l0 k x0 x3 (wrap64 (x4 + 1)))) else (none)) else (some false)
def stratumref08_Mark.f (k : Nat) (a0 : Int) : Option (Bool) := stratumref08_Mark.l0 k a0 (⟨#[123, 125, 40, 41, 58, 59, 44, 61, 43, 45, 42]⟩ : ByteArray) 0
theorem stratumref08_Mark.mono_l : ∀ k, (∀ y0 y1 y2, LeO (stratumref08_Mark.l0 k y0 y1 y2) (stratumref08_Mark.l0 (k + 1) y0 y1 y2))
  | 0 => fun _ _ _ r h => by simp [stratumref08_Mark.l0] at h
  | k + 1 => by
    have ih0 := stratumref08_Mark.mono_l k
    · intro y0 y1 y2
      unfold stratumref08_Mark.l0
      repeat' first
      | (with_reducible exact ih0 _ _ _)
      | (with_reducible exact LeO.refl _)
      | (with_reducible exact LeO.none _)
      | (with_reducible refine LeO.ite ?_ ?_)
      | (with_reducible refine LeO.bind ?_ (fun _ => ?_))
      | exact ih0 _ _ _
      | exact LeO.none _
      | refine LeO.ite ?_ ?_
      | refine LeO.bind ?_ (fun _ => ?_)
theorem stratumref08_Mark.mono : ∀ a0 k, LeO (stratumref08_Mark.f k a0) (stratumref08_Mark.f (k + 1) a0) := by
  intro a0 k
  have ih0 := stratumref08_Mark.mono_l k
  unfold stratumref08_Mark.f
  repeat' first
      | (with_reducible exact ih0 _ _ _)
      | (with_reducible exact LeO.refl _)
      | (with_reducible exact LeO.none _)
      | (with_reducible refine LeO.ite ?_ ?_)
      | (with_reducible refine LeO.bind ?_ (fun _ => ?_))
      | exact ih0 _ _ _
      | exact LeO.none _
      | refine LeO.ite ?_ ?_
      | refine LeO.bind ?_ (fun _ => ?_)
set_option maxHeartbeats 8000000 in
set_option maxRecDepth 100000 in
theorem stratumref08_Mark.calls (k : Nat) (a0 : Int) (r : Bool) (w : World) (h : stratumref08_Mark.f k a0 = some r) :
    Calls Try.prog 69 #[.int .u8 a0] w fun e w' => e = .returned (.bool r) ∧ Drawn0 w w' := by
  have H : (stratumref08_Mark.l0 k a0 (⟨#[123, 125, 40, 41, 58, 59, 44, 61, 43, 45, 42]⟩ : ByteArray) 0) = some r := h
  clear h
  have H' := Aside0.mk H
  clear H
  go_enter Try.func69, Try.ntmps69
  go_wp2
  go_loopg [4] k (fun kq v4 w' => ∃ (x4_1 : Int), v4 = .int .i64 x4_1 ∧ Aside0 (stratumref08_Mark.l0 kq a0 (⟨#[123, 125, 40, 41, 58, 59, 44, 61, 43, 45, 42]⟩ : ByteArray) x4_1 = some r) ∧ Aside0 (kq ≤ k) ∧ Drawn0 w w')
  case atStart => exact ⟨(0), (by first | rfl | (simp; done) | (simp [*]; done)), H', ⟨Nat.le_refl _⟩, by repeat (first | exact Drawn0.refl _ | apply Drawn0.step)⟩
  case round =>
    clear H'
    obtain ⟨x4_1, rfl, HA, HK1, ⟨m1, rfl⟩⟩ := hrel
    cases gk with
    | zero => exact absurd HA.out (by simp [stratumref08_Mark.l0])
    | succ k1 =>
      have H := HA.out
      clear HA
      simp only [stratumref08_Mark.l0] at H
      by_cases c2 : x4_1 < ((⟨#[123, 125, 40, 41, 58, 59, 44, 61, 43, 45, 42]⟩ : ByteArray).size : Int)
      · rw [if_pos c2] at H
        have c2b0 : decide (x4_1 < ((⟨#[123, 125, 40, 41, 58, 59, 44, 61, 43, 45, 42]⟩ : ByteArray).size : Int)) = true := decide_eq_true c2
        have c2y : decide (x4_1 < (11 : Int)) = true := c2b0
        clear c2
        by_cases c3 : 0 ≤ x4_1
        · rw [if_pos c3] at H
          have c3b0 : decide (0 ≤ x4_1) = true := decide_eq_true c3
          clear c3
          by_cases c5 : (bt (⟨#[123, 125, 40, 41, 58, 59, 44, 61, 43, 45, 42]⟩ : ByteArray) x4_1) = a0
          · rw [if_pos c5] at H
            have c5b0 : ((bt (⟨#[123, 125, 40, 41, 58, 59, 44, 61, 43, 45, 42]⟩ : ByteArray) x4_1) == a0) = true := beq_iff_eq.mpr c5
            have c5b1 : ((bt (⟨#[123, 125, 40, 41, 58, 59, 44, 61, 43, 45, 42]⟩ : ByteArray) x4_1) != a0) = false := bne_eq_false_iff_eq.mpr c5
            clear c5
            obtain rfl := Option.some.inj H
            have p4 : 0 ≤ (x4_1 : Int) := of_decide_eq_true (by first | (with_reducible assumption) | assumption)
            have q4 : x4_1 < (11 : Int) := of_decide_eq_true (by first | (with_reducible assumption) | assumption)
            have hx4 := bt_at (⟨#[123, 125, 40, 41, 58, 59, 44, 61, 43, 45, 42]⟩ : ByteArray) x4_1
            replace p4 := eq_true p4
            replace q4 := eq_true q4
            go_wp2
            go_ret
            exact ⟨by first | rfl | (simp; done) | (simp [*]; done), by repeat (first | exact Drawn0.refl _ | apply Drawn0.step)⟩
          · rw [if_neg c5] at H
            have c5b0 : ((bt (⟨#[123, 125, 40, 41, 58, 59, 44, 61, 43, 45, 42]⟩ : ByteArray) x4_1) == a0) = false := beq_eq_false_iff_ne.mpr c5
            have c5b1 : ((bt (⟨#[123, 125, 40, 41, 58, 59, 44, 61, 43, 45, 42]⟩ : ByteArray) x4_1) != a0) = true := bne_iff_ne.mpr c5
            have H' := Aside0.mk H
            clear H
            have p4 : 0 ≤ (x4_1 : Int) := of_decide_eq_true (by first | (with_reducible assumption) | assumption)
            have q4 : x4_1 < (11 : Int) := of_decide_eq_true (by first | (with_reducible assumption) | assumption)
            have hx4 := bt_at (⟨#[123, 125, 40, 41, 58, 59, 44, 61, 43, 45, 42]⟩ : ByteArray) x4_1
            replace p4 := eq_true p4
            replace q4 := eq_true q4
            go_wp2
            go_roundg k1
            case measure => have := HK1.out; omega
            case rel => exact ⟨(wrap64 (x4_1 + 1)), (by first | rfl | (simp; done) | (simp [*]; done)), H', ⟨by have := HK1.out; omega⟩, by repeat (first | exact Drawn0.refl _ | apply Drawn0.step)⟩
        · rw [if_neg c3] at H
          exact absurd H (by simp)
      · rw [if_neg c2] at H
        have c2b0 : decide (x4_1 < ((⟨#[123, 125, 40, 41, 58, 59, 44, 61, 43, 45, 42]⟩ : ByteArray).size : Int)) = false := decide_eq_false c2
        have c2y : decide (x4_1 < (11 : Int)) = false := c2b0
        clear c2
        obtain rfl := Option.some.inj H
        go_wp2
        go_ret
        exact ⟨by first | rfl | (simp; done) | (simp [*]; done), by repeat (first | exact Drawn0.refl _ | apply Drawn0.step)⟩
end Go.Proofs.Ytbdcndkafaajpaa.X
end
