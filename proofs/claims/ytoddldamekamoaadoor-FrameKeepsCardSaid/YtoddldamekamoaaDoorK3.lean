/- FrameKeeps: its walk. Conditions: the argument's and the table's readings. -/
import Derived.Test.YtoddldamekamoaaDoorK2
import Derived.Test.YtoddldamekamoaaDoorF2
import Derived.Deep.DeepMust
set_option linter.unusedVariables false
set_option linter.unusedSimpArgs false
namespace Go.Proofs.YtoddldamekamoaaDoor.K
open Go.RowKit Go.Proofs.YtoddldamekamoaaDoor.X Go.Proofs.YtoddldamekamoaaDoor.G Go.Proofs.YtoddldamekamoaaDoor.F Go.Proofs.YtoddldamekamoaaDoorW.PrintWords Go.Proofs.YtoddldamekamoaaDoorW.PrintLast Go.Proofs.YtoddldamekamoaaDoorW.PrintMore
theorem Below.low {w w' : World} {b : Nat} (h : Below w.heap.size w w') (hb : b ≤ w.heap.size) : Below b w w' := ⟨h.os, h.tape, h.output, h.size, fun i hi => h.block i (by omega)⟩
theorem less8 {w : World} {b g : Nat} {u : Value} {ys : List Int} (h : RB w b u ys) (hg : g < b) : some g ≠ u.ownBlock := fun e => by
  have := Kd.R_base h g e.symm; omega
theorem bytes_twice {l D : List Int} {E : Int} (hb : bytesOk l) (h : (D, E) = encOut l) : bytesOk (D ++ D) := by
  have e1 : D = (encOut l).1 := by rw [← h]
  have h2 : bytesOk D := by
    rw [e1]; unfold encOut
    split
    · exact fun c hc => by simp at hc
    · split
      · exact fun c hc => by simp at hc
      · exact frameOf_ok hb
  exact bytesOk_append h2 h2
theorem scan_twice {l D : List Int} {E : Int} (hb : bytesOk l) (hl : l.length ≤ 1048576) (h : (D, E) = encOut l) : (l = [] ∧ D = [] ∧ (scanW (D ++ D)).1 = []) ∨ (scanW (D ++ D)).1 = [l, l] := by
  have e1 : D = (encOut l).1 := by rw [← h]
  by_cases h0 : l = []
  · left
    have e : D = [] := by rw [e1]; unfold encOut; rw [if_pos h0]
    refine ⟨h0, e, ?_⟩
    rw [e]; rfl
  · right
    have e : D = frameOf l := by rw [e1]; unfold encOut; rw [if_neg h0, if_neg (by omega)]
    have hp : 1 ≤ l.length := by cases l with | nil => exact absurd rfl h0 | cons a t => simp
    have := scan_frames (K := [l, l]) [] (fun p hp' => by simp at hp'; subst hp'; exact ⟨hb, hp, by omega⟩)
    have e2 : frames [l, l] ++ [] = D ++ D := by unfold frames; rw [e]; simp
    rw [e2] at this
    rw [this]; rfl
set_option maxHeartbeats 8000000 in
set_option maxRecDepth 100000 in
theorem keeps_calls (w : World) (A : Option Addr) (c : Nat) (l : List Int) (hC : Kd.C (Kd.int .u8) w A l.length l) (hc : l.length ≤ c) (hb : bytesOk l) (hG : Kd.C (Kd.int .u32) w (some ⟨0, 0, none⟩) T.length T) :
    Calls Tryd.prog 8 #[.slice A l.length c] w fun e w' => e = .returned (.bool true) ∧ Below w.heap.size w w' := by
  obtain ⟨ka, hka⟩ := Ev.rounds awake_ev
  have HAW := Aside0.mk (stratumlaw21_awake.calls ka T true w hG (Nat.le_refl 16) hka)
  have HC := Aside0.mk hC
  have HCC := Aside0.mk hc
  have HBY := Aside0.mk hb
  have HG := Aside0.mk hG
  clear hC hc hb hG hka
  by_cases ck : 1048576 < l.length
  · have c1 : decide (1048576 < (l.length : Int)) = true := decide_eq_true (by omega)
    have c2 : decide (1048576 < l.length) = true := decide_eq_true ck
    go_enter Tryd.func8, Tryd.ntmps8
    go_wp2_with (go_at_call 9; (with_reducible refine HAW.out.mono ?_); rintro e w1 ⟨rfl, hb⟩; have HB1 := Aside0.mk hb; clear hb)
    go_ret
    exact ⟨rfl, HB1.out⟩
  · have c1 : decide (1048576 < (l.length : Int)) = false := decide_eq_false (by omega)
    have c2 : decide (1048576 < l.length) = false := decide_eq_false ck
    have HL : Aside0 (l.length ≤ 1048576) := ⟨by omega⟩
    obtain ⟨⟨D, E⟩, hDE⟩ : ∃ p, p = encOut l := ⟨_, rfl⟩
    have henc := enc_out HBY.out
    rw [← hDE] at henc
    have hsum := sum_eq HBY.out (by have := HL.out; omega)
    obtain ⟨s, hs⟩ : ∃ s, s = ((crcN l : Nat) : Int) := ⟨_, rfl⟩
    rw [← hs] at hsum
    have HDL : Aside0 (D.length ≤ 1048584) := ⟨by
      have e : D = (encOut l).1 := by rw [← hDE]
      rw [e]; unfold encOut; have := HL.out
      split
      · simp
      · split
        · simp
        · show (frameOf l).length ≤ _; unfold frameOf le4; simp; omega⟩
    have HENC : Aside0 (∀ W A' c', Below w.heap.size w W → Kd.C (Kd.int .u8) W A' l.length l → l.length ≤ c' → Calls Tryd.prog 14 #[.slice A' l.length c'] W fun e w' => ∃ v0, e = .returned (.tuple #[v0, .int .i64 E]) ∧ RB w' W.heap.size v0 D ∧ Below W.heap.size W w') := ⟨fun W A' c' h1 h2 h3 => frame_Encode.calls A' c' l T D E W h2 h3 (Kd.C_below HG.out h1) (Nat.le_refl 16) henc⟩
    have HSUM : Aside0 (∀ W A' c', Below w.heap.size w W → Kd.C (Kd.int .u8) W A' l.length l → l.length ≤ c' → Calls Tryd.prog 11 #[.slice A' l.length c'] W fun e w' => e = .returned (.int .u32 s) ∧ Drawn0 W w') := ⟨fun W A' c' h1 h2 h3 => frame_Sum.calls A' c' l T s W h2 h3 (Kd.C_below HG.out h1) (Nat.le_refl 16) hsum⟩
    have HCOP : Aside0 (∀ W A' c' (x : List Int), x.length ≤ 2097168 → Kd.C (Kd.int .u8) W A' x.length x → x.length ≤ c' → Calls Tryd.prog 12 #[.slice A' x.length c'] W fun e w' => ∃ v0, e = .returned v0 ∧ RB w' W.heap.size v0 x ∧ Below W.heap.size W w') := ⟨fun W A' c' x h0 h2 h3 => stratumlaw21_copied.calls A' c' x x W h2 h3 (copied_eq (by omega))⟩
    have HSAME : Aside0 (∀ W A1 c1 A2 c2 (x : List Int), x.length ≤ 2097168 → Kd.C (Kd.int .u8) W A1 x.length x → x.length ≤ c1 → Kd.C (Kd.int .u8) W A2 x.length x → x.length ≤ c2 → Calls Tryd.prog 18 #[.slice A1 x.length c1, .slice A2 x.length c2] W fun e w' => e = .returned (.bool true) ∧ Drawn0 W w') := ⟨fun W A1 c1 A2 c2 x h0 h1 h2 h3 h4 => by
      obtain ⟨k, hk⟩ := Ev.rounds (same_ev x x (by omega))
      rw [decide_eq_true rfl] at hk
      exact stratumlaw21_same.calls k A1 c1 x A2 c2 x true W h1 h2 h3 h4 hk⟩
    obtain ⟨N2, hN2⟩ : ∃ N2, N2 = (D ++ D).length := ⟨_, rfl⟩
    obtain ⟨XS, hX⟩ : ∃ XS, XS = (scanW (D ++ D)).1 := ⟨_, rfl⟩
    have HX : Aside0 ((l = [] ∧ D = [] ∧ XS = []) ∨ XS = [l, l]) := ⟨by rw [hX]; exact scan_twice HBY.out HL.out hDE⟩
    have hscan := scan_eq (l := D ++ D) (bytes_twice HBY.out hDE) (by rw [List.length_append]; have := HDL.out; omega)
    rw [← hX] at hscan
    obtain ⟨Y, hY⟩ : ∃ Y, Y = (((scanW (D ++ D)).2 : Nat) : Int) := ⟨_, rfl⟩
    rw [← hY] at hscan
    have HSCAN : Aside0 (∀ W A' c', Below w.heap.size w W → Kd.C (Kd.int .u8) W A' (D ++ D).length (D ++ D) → N2 ≤ c' → Calls Tryd.prog 16 #[.slice A' N2 c'] W fun e w' => ∃ v0, e = .returned (.tuple #[v0, .int .i64 Y]) ∧ Kd.S (Kd.slice 5 (Kd.int .u8)) 27 w' W.heap.size (fun _ => True) v0 XS ∧ Below W.heap.size W w') := ⟨fun W A' c' h1 h2 h3 => by
      rw [hN2] at h3 ⊢
      exact frame_Scan.calls A' c' (D ++ D) T XS Y W h2 h3 (Kd.C_below HG.out h1) (Nat.le_refl 16) hscan⟩
    have HALK : Aside0 (∀ W A1 c1 A2 c2, Kd.C (Kd.slice 5 (Kd.int .u8)) W A1 XS.length XS → XS.length ≤ c1 → Kd.C (Kd.slice 5 (Kd.int .u8)) W A2 XS.length XS → XS.length ≤ c2 → Calls Tryd.prog 19 #[.slice A1 XS.length c1, .slice A2 XS.length c2] W fun e w' => e = .returned (.bool true) ∧ Drawn0 W w') := ⟨fun W A1 c1 A2 c2 h1 h2 h3 h4 => by
      have hq : XS.length ≤ 4611686018427387904 ∧ ∀ r ∈ XS, r.length ≤ 4611686018427387904 := by
        rcases HX.out with ⟨_, _, h⟩ | h <;> rw [h]
        · simp
        · have := HL.out; simp; omega
      obtain ⟨k, hk⟩ := Ev.rounds (alike_ev XS XS hq.1 hq.2)
      rw [decide_eq_true rfl] at hk
      exact stratumlaw21_alike.calls k A1 c1 XS A2 c2 XS true W h1 h2 h3 h4 hk⟩
    have HXL : Aside0 (XS.length ≤ 2 ∧ ∀ x ∈ XS, x = l) := ⟨by rcases HX.out with ⟨_, _, h⟩ | h <;> rw [h] <;> simp⟩
    have HN2 : Aside0 (N2 = D.length + D.length) := ⟨by rw [hN2, List.length_append]⟩
    have HDE := Aside0.mk hDE
    clear henc hsum hs hDE hscan hY hX hN2
    go_enter Tryd.func8, Tryd.ntmps8
    go_wp2_with (first
      | (go_at_call 9; (with_reducible refine HAW.out.mono ?_); rintro e w1 ⟨rfl, hb⟩; have HB1 := Aside0.mk hb; clear hb)
      | ((with_reducible refine gate_dst (N := 33) rfl ?_); refine Kd.R_lit (Kd.int .u8) (w0 := w2) w2.heap.size 5 rfl (N := 33) rfl (xs := ([177, 178, 179] : List Int)) (inner := [.int .u8 177, .int .u8 178, .int .u8 179]) (ok := fun _ => True) (okp := fun _ => True) ?hr ?hp (fun _ hk => hk) trivial (Below.refl _ _) (Nat.le_refl _) (by simp) ?_; (case hr => first | (go_simp; done) | (go_simp; rfl)); (case hp => exact (Reps.one (show Kd.M (Kd.int .u8) _ _ _ 177 [.int .u8 177] from rfl) (Reps.one (show Kd.M (Kd.int .u8) _ _ _ 178 [.int .u8 178] from rfl) (Reps.one (show Kd.M (Kd.int .u8) _ _ _ 179 [.int .u8 179] from rfl) (Reps.none _ _))))); intro vt w3 ho hb hg_ hnew_; obtain ⟨At, ct, hvt⟩ := Kd.R_slice ho; subst hvt; have HT3 := Aside0.mk ho; have HBT := Aside0.mk hb; clear ho hb hg_ hnew_)
      | ((with_reducible refine gate_builtin (b := .append) (xs := #[.tmp 32, .tmp 33]) rfl ?_); at_builtin; refine Kd.R_append_rows (Kd.int .u8) (w0 := w1) w1.heap.size rfl (.tmp 32) (.tmp 33) 27 5 (.int .u8 0) 1 rfl Tryd.underlying27 X.info5 rfl (by decide) (by omega) (.slice Af l.length cf) l [177, 178, 179] At ([177, 178, 179] : List Int).length ct (fun _ => True) (fun _ => False) rfl rfl ?aO ?aR (fun _ _ h => h) (fun _ h => h.elim) (fun _ _ => trivial) ?aB ?aS ?aL ?_; (case aO => exact Kd.R_below HF2.out HBT.out); (case aR => exact (Kd.R_reads' HT3.out).2.2); (case aB => exact below_step HB2.out HBT.out); (case aS => exact (below_step HB2.out HBT.out).size); (case aL => have := HL.out; simp only [List.length_cons, List.length_nil]; omega); intro vF w4 ho hb hg hat; have HF4 := Aside0.mk ho; have HB4 := Aside0.mk hb; clear ho hb hg hat; obtain ⟨AF, cF, hvF⟩ := Kd.R_slice HF4.out; rw [List.length_append] at hvF; subst hvF; have HFC := Aside0.mk (Kd.R_reads' HF4.out).2; have g3 : l.length ≤ cF := (by have := HFC.out.1; omega); have g4 : (l.length : Int) ≤ (cF : Int) := (by omega); have HG3 := Aside0.mk g3; have HGV : Aside0 (Kd.C (Kd.int .u8) w4 AF l.length l) := ⟨by have h := Kd.C_take HFC.out.2 (m := l.length) (by rw [List.length_append]; omega); rwa [List.take_left] at h⟩; have hbS : Below w4.heap.size w4 w4 := Below.refl _ _; have HB4' : Aside0 (Below w.heap.size w w4) := ⟨below_step HB1.out (Below.low HB4.out (Nat.le_refl _))⟩)
      | (go_at_call 18; go_must ((with_reducible refine (HSAME.out _ _ _ _ _ D (by have := HDL.out; omega) (Kd.R_reads' HC6.out).2.2 (Kd.R_reads' HC6.out).2.1 (Kd.R_reads' HD6.out).2.2 (Kd.R_reads' HD6.out).2.1).mono ?_); rintro e w7 ⟨rfl, ⟨n2, rfl⟩⟩))
      | (go_at_call 14; have HC5 := HC5; go_must ((with_reducible refine (HENC.out _ _ _ (below_step HB4'.out hbS) (Kd.C_below HGV.out hbS) HG3.out).mono ?_); rintro e w6 ⟨vd, rfl, ho, hb⟩; obtain ⟨Ad, cd, hvd⟩ := Kd.R_slice ho; subst hvd; have HD6 := Aside0.mk ho; have HC6 := Aside0.mk (Kd.R_below HC5.out hb); have HCL := Aside0.mk (Kd.R_lt HC5.out); have HS6 := Aside0.mk (show w5.heap.size ≤ w6.heap.size from hb.size); have hbS := below_step hbS hb; clear ho hb))
      | (go_at_call 14; go_must ((with_reducible refine (HENC.out _ _ _ (below_step HB4'.out (pw_below_drewN hbS _)) (Kd.C_drewN HGV.out _) HG3.out).mono ?_); rintro e w5 ⟨vc, rfl, ho, hb⟩; obtain ⟨Ac, cc, hvc⟩ := Kd.R_slice ho; subst hvc; have HC5 := Aside0.mk ho; have HS5 := Aside0.mk (show w4.heap.size ≤ w5.heap.size from hb.size); have hbS := below_step (pw_below_drewN hbS _) hb; clear ho hb))
      | (go_at_call 11; have HC6 := HC6; go_must ((with_reducible refine (HSUM.out _ _ _ (below_step HB4'.out (pw_below_drewN hbS _)) (Kd.C_below HGV.out (pw_below_drewN hbS _)) HG3.out).mono ?_); rintro e w8 ⟨rfl, ⟨n3, rfl⟩⟩))
      | (go_at_call 11; go_must ((with_reducible refine (HSUM.out _ _ _ HB4'.out HGV.out HG3.out).mono ?_); rintro e w5 ⟨rfl, ⟨n1, rfl⟩⟩))
      | (go_at_call 12; (with_reducible refine (HCOP.out _ _ _ l (by have := HL.out; omega) (Kd.C_below HC.out HB1.out) HCC.out).mono ?_); rintro e w2 ⟨vf, rfl, ho, hb⟩; obtain ⟨Af, cf, hvf⟩ := Kd.R_slice ho; subst hvf; have HF2 := Aside0.mk ho; have HB2 := Aside0.mk hb; clear ho hb))
    refine (HCOP.out _ Ac cc D (by have := HDL.out; omega) (Kd.C_drewN (Kd.R_reads' HC6.out).2.2 _) (Kd.R_reads' HC6.out).2.1).mono ?_
    rintro e w7 ⟨vw, rfl, ho, hb⟩
    obtain ⟨Aw, cw, hvw⟩ := Kd.R_slice ho
    subst hvw
    have HW7 : Aside0 (RB w7 w6.heap.size (.slice Aw D.length cw) D) := ⟨ho⟩
    have HF7 : Aside0 (RB w7 w1.heap.size (.slice AF (l.length + 3) cF) (l ++ [177, 178, 179])) := ⟨Kd.R_below (Kd.R_below HF4.out hbS) (below_step (pw_below_drewN (Below.refl _ _) _) hb)⟩
    have HC7 : Aside0 (RB w7 w4.heap.size (.slice Ac D.length cc) D) := ⟨Kd.R_below HC6.out (below_step (pw_below_drewN (Below.refl _ _) _) hb)⟩
    have HD7 : Aside0 (RB w7 w5.heap.size (.slice Ad D.length cd) D) := ⟨Kd.R_below HD6.out (below_step (pw_below_drewN (Below.refl _ _) _) hb)⟩
    have HFO : Aside0 (∀ k, (Value.slice AF (l.length + 3) cF).ownBlock = some k → k < w4.heap.size) := ⟨Kd.R_lt HF4.out⟩
    have HCO : Aside0 (∀ k, (Value.slice Ac D.length cc).ownBlock = some k → k < w5.heap.size) := ⟨HCL.out⟩
    have HB7 : Aside0 (Below w.heap.size w w7) := ⟨below_step (below_step HB4'.out hbS) (below_step (pw_below_drewN (Below.refl _ _) _) hb)⟩
    have HDO : Aside0 (∀ k, (Value.slice Ad D.length cd).ownBlock = some k → k < w6.heap.size) := ⟨Kd.R_lt HD6.out⟩
    have HS1 : Aside0 (w.heap.size ≤ w1.heap.size) := ⟨HB1.out.size⟩
    have HS4 : Aside0 (w1.heap.size ≤ w4.heap.size) := ⟨HB4.out.size⟩
    clear ho hb hbS HC6 HD6 HC5 HGV HT3 HBT HF2 HB2 HF4 HFC HCL
    go_wp2
    go_loopw [12] (fun ti wr => ∃ (i : Nat) (ys : List Int), ti = .int .i64 (i : Int) ∧ Aside0 (i ≤ D.length) ∧ Aside0 (ys.length = D.length) ∧ Aside0 (RB wr w4.heap.size (.slice Ac D.length cc) ys) ∧ Aside0 (RB wr w1.heap.size (.slice AF (l.length + 3) cF) (l ++ [177, 178, 179])) ∧ Aside0 (RB wr w5.heap.size (.slice Ad D.length cd) D) ∧ Aside0 (RB wr w6.heap.size (.slice Aw D.length cw) D) ∧ Aside0 (Below w.heap.size w wr)) (fun ti _ => D.length - left ti)
    case atStart => exact ⟨0, D, rfl, ⟨Nat.zero_le _⟩, ⟨rfl⟩, HC7, HF7, HD7, HW7, HB7⟩
    case round =>
      obtain ⟨i, ys, rfl, hi, HYL, HYR, HFr, HDr, HWr, HBr⟩ := hrel
      by_cases ci : i < D.length
      · have d1 : decide ((i : Int) < (D.length : Int)) = true := decide_eq_true (by omega)
        have d2 : decide (i < D.length) = true := decide_eq_true ci
        have HW := Aside0.mk (nextN i D.length (by have := HDL.out; omega) ci)
        have ML := Aside0.mk (lessN i D.length (by have := HDL.out; omega) ci)
        obtain ⟨g, cap, hgv, hg4, _⟩ := Kd.R_form HYR.out (by have := HYL.out; omega)
        have hA : Ac = some ⟨g, 0, none⟩ := by injection hgv
        have HG5 : Aside0 (g < w5.heap.size) := ⟨HCO.out g (by rw [hA]; simp [Value.ownBlock])⟩
        have HG4 : Aside0 (w4.heap.size ≤ g) := ⟨hg4⟩
        have HYR2 := HYR
        rw [hA] at HYR2
        rw [hA]
        obtain ⟨hx, hz⟩ := Kd.R_celln 0 HYR2.out (i : Int) (by omega) (by omega)
        rw [Int.toNat_natCast] at hx hz
        have HPUT := Aside0.mk (Kd.R_putg HYR2.out (i : Int) 90)
        have HGA := Aside0.mk hA
        have HFN : Aside0 (some g ≠ (Value.slice AF (l.length + 3) cF).ownBlock) := ⟨fun e => by have := HFO.out g e.symm; have := HG4.out; omega⟩
        clear hA hgv hg4
        go_wp2
        refine ⟨⟨i + 1, ys.set i 90, by first | rw [HW.out] | rfl, ⟨by omega⟩, ⟨by rw [List.length_set]; exact HYL.out⟩, ⟨HPUT.out.1⟩, ⟨keep8 HFr.out HPUT.out.2 (fun k hk => by injection hk with hk; subst hk; exact HFN.out)⟩, ⟨keep8 HDr.out HPUT.out.2 (fun k hk => by injection hk with hk; subst hk; exact less8 HDr.out HG5.out)⟩, ⟨keep8 HWr.out HPUT.out.2 (fun k hk => by injection hk with hk; subst hk; exact less8 HWr.out (by have := HG5.out; have := HS6.out; omega))⟩, ⟨HBr.out.setCell (p := ⟨g, i, none⟩) (by have := HG4.out; have := HS4.out; have := HS1.out; show w.heap.size ≤ g; omega) _⟩⟩, by first | exact ML.out | (show D.length - ((i : Int) + 1).toNat < D.length - ((i : Nat) : Int).toNat; omega)⟩
      · have d1 : decide ((i : Int) < (D.length : Int)) = false := decide_eq_false (by omega)
        have d2 : decide (i < D.length) = false := decide_eq_false ci
        obtain ⟨W, hW⟩ : ∃ W, W = wr := ⟨_, rfl⟩
        rw [← hW] at HFr HDr HWr HBr
        rw [← hW]
        clear hW ci
        obtain ⟨gF, capF, hgF, hgF1, _⟩ := Kd.R_form HFr.out (by rw [List.length_append]; simp)
        have hAF : AF = some ⟨gF, 0, none⟩ := by injection hgF
        subst hAF
        have hy1 := (Kd.R_celln 0 HFr.out (l.length : Int) (by omega) (by omega)).1
        have hy2 := (Kd.R_celln 0 HFr.out ((l.length : Int) + 2) (by omega) (by omega)).1
        have hv1 : rdOf 0 (l ++ [(177 : Int), 178, 179]) (l.length : Int) = 177 := by unfold rdOf; simp
        have hv2 : rdOf 0 (l ++ [(177 : Int), 178, 179]) ((l.length : Int) + 2) = 179 := by
          unfold rdOf; rw [show ((l.length : Int) + 2).toNat = l.length + 2 by omega]; simp
        rw [hv1, Int.toNat_natCast] at hy1
        rw [hv2, show ((l.length : Int) + 2).toNat = l.length + 2 by omega] at hy2
        have HGV : Aside0 (Kd.C (Kd.int .u8) W (some ⟨gF, 0, none⟩) l.length l) := ⟨by
          have h := Kd.C_take (Kd.R_reads' HFr.out).2.2 (m := l.length) (by rw [List.length_append]; omega)
          rwa [List.take_left] at h⟩
        have hL : l.length ≤ 1048576 := HL.out
        have w2' : wrap64 ((l.length : Int) + 2) = (l.length : Int) + 2 := by unfold wrap64; omega
        clear hv1 hv2 hgF
        go_wp2_with (first
          | (go_at_call 18; (with_reducible refine (HSAME.out _ _ _ _ _ l (by omega) (Kd.C_drewN HGV.out _) HG3.out (Kd.C_drewN (Kd.C_below HC.out HBr.out) _) HCC.out).mono ?_); rintro e w9 ⟨rfl, ⟨n5, rfl⟩⟩)
          | (go_at_call 18; (with_reducible refine (HSAME.out _ _ _ _ _ D (by have := HDL.out; omega) (Kd.R_reads' HDr.out).2.2 (Kd.R_reads' HDr.out).2.1 (Kd.R_reads' HWr.out).2.2 (Kd.R_reads' HWr.out).2.1).mono ?_); rintro e w8 ⟨rfl, ⟨n4, rfl⟩⟩))
        refine (HCOP.out _ Ad cd D (by have := HDL.out; omega) (Kd.C_drewN (Kd.R_reads' HDr.out).2.2 _) (Kd.R_reads' HDr.out).2.1).mono ?_
        rintro e w10 ⟨vz, rfl, ho, hb⟩
        obtain ⟨Az, cz, hvz⟩ := Kd.R_slice ho
        subst hvz
        have hWW : Below W.heap.size W w10 := below_step (pw_below_drewN (Below.refl _ _) _) hb
        have HZ10 : Aside0 (RB w10 W.heap.size (.slice Az D.length cz) D) := ⟨ho⟩
        have HD10 := Aside0.mk (Kd.R_below HDr.out hWW)
        have HB10 : Aside0 (Below w.heap.size w w10) := ⟨Below.trans HBr.out (Below.low hWW HBr.out.size)⟩
        have HWS : Aside0 (W.heap.size ≤ w10.heap.size) := ⟨hWW.size⟩
        have HW0 : Aside0 (w.heap.size ≤ W.heap.size) := ⟨HBr.out.size⟩
        have HDW : Aside0 (∀ k, (Value.slice Ad D.length cd).ownBlock = some k → k < W.heap.size) := ⟨Kd.R_lt HDr.out⟩
        clear ho hb hWW hy1 hy2 HFr HWr HGV HDr w2'
        have w3' : wrap64 (2 * (D.length : Int)) = (N2 : Int) := by have := HN2.out; have := HDL.out; unfold wrap64; omega
        go_wp2_with (first
          | ((with_reducible refine gate_builtin (b := .append) (xs := #[.tmp 105, .tmp 106]) rfl ?_); go_must (at_builtin; refine Kd.R_append_rows (Kd.int .u8) (w0 := w10) W.heap.size rfl (.tmp 105) (.tmp 106) 27 5 (.int .u8 0) 1 rfl Tryd.underlying27 X.info5 rfl (by decide) (by omega) (.slice Az D.length cz) D D Ad D.length cd (fun _ => True) (fun _ => False) rfl rfl HZ10.out (Kd.R_reads' HD10.out).2.2 (fun _ _ h => h) (fun _ h => h.elim) (fun _ _ => trivial) (Below.refl _ _) HWS.out ?aL ?_; (case aL => have := HDL.out; omega); intro vA w11 ho hb hg hat; have HA11 := Aside0.mk ho; have HB11 := Aside0.mk hb; clear ho hb hg hat; obtain ⟨AA, cA, hvA⟩ := Kd.R_slice HA11.out; subst hvA))
          | ((with_reducible refine gate_dst (N := 108) rfl ?_); go_must (refine Kd.R_lit (Kd.int .u8) (w0 := w11) w11.heap.size 5 rfl (N := 108) rfl (xs := ([193, 194, 195] : List Int)) (inner := [.int .u8 193, .int .u8 194, .int .u8 195]) (ok := fun _ => True) (okp := fun _ => True) ?hr ?hp (fun _ hk => hk) trivial (Below.refl _ _) (Nat.le_refl _) (by simp) ?_; (case hr => first | (go_simp; done) | (go_simp; rfl)); (case hp => exact (Reps.one (show Kd.M (Kd.int .u8) _ _ _ 193 [.int .u8 193] from rfl) (Reps.one (show Kd.M (Kd.int .u8) _ _ _ 194 [.int .u8 194] from rfl) (Reps.one (show Kd.M (Kd.int .u8) _ _ _ 195 [.int .u8 195] from rfl) (Reps.none _ _))))); intro vt w12 ho hb hg_ hnew_; obtain ⟨At, ct, hvt⟩ := Kd.R_slice ho; subst hvt; have HT12 := Aside0.mk ho; have HBT := Aside0.mk hb; clear ho hb hg_ hnew_))
          | ((with_reducible refine gate_builtin (b := .append) (xs := #[.tmp 107, .tmp 108]) rfl ?_); go_must (at_builtin; refine Kd.R_append_rows (Kd.int .u8) (w0 := w10) W.heap.size rfl (.tmp 107) (.tmp 108) 27 5 (.int .u8 0) 1 rfl Tryd.underlying27 X.info5 rfl (by decide) (by omega) (.slice AA (D ++ D).length cA) (D ++ D) [193, 194, 195] At ([193, 194, 195] : List Int).length ct (fun _ => True) (fun _ => False) rfl rfl ?aO ?aR (fun _ _ h => h) (fun _ h => h.elim) (fun _ _ => trivial) ?aB ?aS ?aL ?_; (case aO => exact Kd.R_below HA11.out HBT.out); (case aR => exact (Kd.R_reads' HT12.out).2.2); (case aB => exact Below.trans HB11.out (Below.low HBT.out (by have h2 := HB11.out.size; have h3 := HWS.out; omega))); (case aS => have h1 := HBT.out.size; have h2 := HB11.out.size; have h3 := HWS.out; omega); (case aL => rw [List.length_append]; have := HDL.out; simp only [List.length_cons, List.length_nil]; omega); intro vT w13 ho hb hg hat; have HT13 := Aside0.mk ho; have HB13 := Aside0.mk hb; clear ho hb hg hat; obtain ⟨AT, cT, hvT⟩ := Kd.R_slice HT13.out; rw [List.length_append, List.length_append] at hvT; subst hvT; have g5 : N2 ≤ cT := (by have h1 := (Kd.R_reads' HT13.out).2.1; have h2 := HN2.out; omega); have g6 : (N2 : Int) ≤ (cT : Int) := (by omega))))
        have HT13 : Aside0 (RB w13 W.heap.size (.slice AT (D.length + D.length + 3) cT) (D ++ D ++ [193, 194, 195])) := ⟨HT13.out⟩
        obtain ⟨gT, capT, hgT, hgT1, hgT2, _⟩ := Kd.R_form HT13.out (by rw [List.length_append]; simp)
        have hAT : AT = some ⟨gT, 0, none⟩ := by injection hgT
        subst hAT
        have HTC : Aside0 (Kd.C (Kd.int .u8) w13 (some ⟨gT, 0, none⟩) (D ++ D).length (D ++ D)) := ⟨by
          have h := Kd.C_take (Kd.R_reads' HT13.out).2.2 (m := (D ++ D).length) (by simp only [List.length_append]; omega)
          rwa [List.take_left] at h⟩
        have HBw13 : Aside0 (Below w.heap.size w w13) := ⟨Below.trans HB10.out (HB13.out.mono HW0.out)⟩
        have HCT := Aside0.mk g5
        have HTG : Aside0 (W.heap.size ≤ gT ∧ gT < w13.heap.size) := ⟨⟨hgT1, hgT2⟩⟩
        have hz1 := (Kd.R_celln 0 HT13.out (N2 : Int) (by omega) (by have := HN2.out; omega)).1
        have hv3 : rdOf 0 (D ++ D ++ [(193 : Int), 194, 195]) (N2 : Int) = 193 := by
          unfold rdOf; rw [Int.toNat_natCast, HN2.out, ← List.length_append]; simp
        rw [hv3, Int.toNat_natCast] at hz1
        have hlt3 : N2 < D.length + D.length + 3 := by have := HN2.out; omega
        have hlt4 : (N2 : Int) < (D.length : Int) + (D.length : Int) + 3 := by omega
        have HZ1 := Aside0.mk hz1
        clear hv3 hgT hgT1 hgT2 HA11 HB11 HT12 HBT HZ10 HD10 g5 g6 hz1
        refine (HSCAN.out _ _ _ HBw13.out HTC.out HCT.out).mono ?_
        rintro e w14 ⟨vl, rfl, ho, hb⟩
        obtain ⟨rl, Al, cl, hvl, hll, hkl, hrl, hnl⟩ := S_rows ho
        subst hvl
        have HLC : Aside0 (Kd.C (Kd.slice 5 (Kd.int .u8)) w14 Al XS.length XS ∧ XS.length ≤ cl) := ⟨(Kd.S_reads' ho).2.2, (Kd.S_reads' ho).2.1⟩
        have HKL := Aside0.mk hkl
        have HRL := Aside0.mk hrl
        have HNL := Aside0.mk hnl
        have HLL := Aside0.mk hll
        have HB14 := Aside0.mk hb
        clear ho hb hkl hrl hnl hll
        go_wp2_with fail
        refine (HSCAN.out _ _ _ (below_step HBw13.out HB14.out) (Kd.C_below HTC.out HB14.out) HCT.out).mono ?_
        rintro e w15 ⟨vk, rfl, ho, hb⟩
        obtain ⟨rk, Ak, ckk, hvk, hlk, hkk, hrk, hnk⟩ := S_rows ho
        subst hvk
        have HKC : Aside0 (Kd.C (Kd.slice 5 (Kd.int .u8)) w15 Ak XS.length XS ∧ XS.length ≤ ckk) := ⟨(Kd.S_reads' ho).2.2, (Kd.S_reads' ho).2.1⟩
        have HKK := Aside0.mk hkk
        have HRK := Aside0.mk hrk
        have HNK := Aside0.mk hnk
        have HLK := Aside0.mk hlk
        have HLC2 : Aside0 (Kd.C (Kd.slice 5 (Kd.int .u8)) w15 Al XS.length XS ∧ XS.length ≤ cl) := ⟨Kd.C_below HLC.out.1 hb, HLC.out.2⟩
        have hz1 := (HZ1.out)
        have hz2 : w15.cell? ⟨gT, N2, none⟩ = some (.int .u8 193) := by
          have h := below_step HB14.out hb
          have e : w15.cell? ⟨gT, N2, none⟩ = w13.cell? ⟨gT, N2, none⟩ := h.cell (p := ⟨gT, N2, none⟩) HTG.out.2
          rw [e]; exact hz1
        have HB15 := Aside0.mk hb
        clear ho hb hkk hrk hnk hlk hz1
        have hway : ∃ bq bd : Bool, ((XS.length : Int) != 2) = bq ∧ decide (0 < (D.length : Int)) = bd ∧ decide (0 < D.length) = bd ∧ ((bq = true ∧ bd = false) ∨ bq = false) := by
          rcases HX.out with ⟨_, h1, h2⟩ | h
          · rw [h1, h2]; exact ⟨true, false, rfl, rfl, rfl, .inl ⟨rfl, rfl⟩⟩
          · rw [h]; exact ⟨false, _, rfl, rfl, by simp, .inr rfl⟩
        obtain ⟨bq, bd, q1, q2, q3, q4⟩ := hway
        rcases q4 with ⟨rfl, rfl⟩ | rfl
        all_goals
          go_wp2_with (first
            | (go_at_call 19; (with_reducible refine (HALK.out _ _ _ _ _ HLC2.out.1 HLC2.out.2 HKC.out.1 HKC.out.2).mono ?_); rintro e w16 ⟨rfl, ⟨n6, rfl⟩⟩)
            | ((with_reducible refine gate_dst (N := 147) rfl ?_); go_must (refine Kd.R_lit kv (w0 := w15.drewN n6) w15.heap.size 27 rfl (N := 147) rfl (xs := ([] : List Rw)) (inner := []) (ok := fun _ => True) (okp := fun _ => True) ?hr (Reps.none _ _) (fun _ hk => hk) trivial (Below.refl _ _) (Nat.le_refl _) (by simp) ?_; (case hr => first | (go_simp; done) | (go_simp; rfl)); intro ve w17 ho hb hg_ hnew_; obtain ⟨Ae, ce, hve⟩ := Kd.R_slice ho; subst hve; have HE := Aside0.mk ho; have HB17 : Aside0 (Below w15.heap.size w15 w17) := ⟨below_step (pw_below_drewN (Below.refl _ _) _) hb⟩; clear ho hb hg_ hnew_))
            | ((with_reducible refine gate_builtin (b := .append) (xs := #[.tmp 147, .tmp 148]) rfl ?_); go_must (at_builtin; refine Kd.R_append_rows kv (w0 := w17) w15.heap.size rfl (.tmp 147) (.tmp 148) 22 27 (.slice none 0 0) 24 rfl Tryd.underlying22 infoL rfl (by decide) (by omega) (.slice Ae ([] : List Rw).length ce) [] rl Al XS.length cl (fun _ => True) (fun _ => False) rfl rfl HE.out ?aR (fun _ _ h => h) (fun _ h => h.elim) (fun _ _ => trivial) (Below.refl _ _) HB17.out.size ?aL ?_; (case aR => have h := (Kd.R_reads' HKL.out).2.2; rw [HLL.out] at h; exact Kd.C_below h (below_step HB15.out HB17.out)); (case aL => have := HXL.out.1; simp only [List.length_nil]; omega); intro vO w18 ho hb hg hat; rw [List.nil_append] at ho; have HO18 := Aside0.mk ho; have HB18 := Aside0.mk (show Below w15.heap.size w17 w18 from hb); clear ho hb hg hat; obtain ⟨AO, cO, hvO⟩ := Kd.R_slice HO18.out; subst hvO))
            | ((with_reducible refine gate_builtin (b := .append) (xs := #[.tmp 149, .tmp 150]) rfl ?_); go_must (at_builtin; refine Kd.R_append_rows kv (w0 := w17) w15.heap.size rfl (.tmp 149) (.tmp 150) 22 27 (.slice none 0 0) 24 rfl Tryd.underlying22 infoL rfl (by decide) (by omega) (.slice AO rl.length cO) rl rk Ak XS.length ckk (fun _ => True) (fun _ => False) rfl rfl HO18.out ?aR (fun _ _ h => h) (fun _ h => h.elim) (fun _ _ => trivial) HB18.out ?aS ?aL ?_; (case aR => have h := (Kd.R_reads' HKK.out).2.2; rw [HLK.out] at h; exact Kd.C_below h (HB17.out.trans HB18.out)); (case aS => have h1 := HB17.out.size; have h2 := HB18.out.size; omega); (case aL => have := HXL.out.1; have := HLL.out; omega); intro vP w19 ho hb hg hat; obtain ⟨rs, hrs⟩ : ∃ rs, rs = rl ++ rk := ⟨_, rfl⟩; rw [← hrs] at ho; have HRS := Aside0.mk hrs; clear hrs; have HO19 := Aside0.mk ho; have HB19 := Aside0.mk (show Below w15.heap.size w17 w19 from hb); clear ho hb hg hat; obtain ⟨AP, cP, hvP⟩ := Kd.R_slice HO19.out; subst hvP)))
          have HBB : Aside0 (Below w15.heap.size w15 w19) := ⟨HB17.out.trans HB19.out⟩
          have HB19w : Aside0 (Below w.heap.size w w19) := ⟨below_step (below_step HBw13.out HB14.out) (below_step HB15.out HBB.out)⟩
          have HT19 : Aside0 (RB w19 W.heap.size (.slice (some ⟨gT, 0, none⟩) (D.length + D.length + 3) cT) (D ++ D ++ [193, 194, 195])) := ⟨Kd.R_below HT13.out (below_step HB14.out (below_step HB15.out HBB.out))⟩
          have HRW : Aside0 (∀ r ∈ rl ++ rk, RB w19 w13.heap.size r.v l) := ⟨fun r hr => by
            rcases List.mem_append.1 hr with h | h
            · obtain ⟨j, hj⟩ := List.getElem?_of_mem h
              obtain ⟨x, hx, hR⟩ := HRL.out j r hj
              rw [HXL.out.2 x (List.mem_of_getElem? hx)] at hR
              exact Kd.R_below hR (below_step HB15.out HBB.out)
            · obtain ⟨j, hj⟩ := List.getElem?_of_mem h
              obtain ⟨x, hx, hR⟩ := HRK.out j r hj
              rw [HXL.out.2 x (List.mem_of_getElem? hx)] at hR
              exact Kd.R_lower (Kd.R_below hR HBB.out) HB14.out.size⟩
          have HNT : Aside0 (NoTwo (rl ++ rk)) := ⟨NoTwo.append HNL.out HNK.out (fun j r k hr hk => by
            obtain ⟨x, _, hR⟩ := HRL.out j r hr
            exact Kd.R_lt hR k hk) (fun j r k hr hk => by
            obtain ⟨x, _, hR⟩ := HRK.out j r hr
            exact Kd.R_base hR k hk)⟩
          have HTL : Aside0 (gT < w15.heap.size) := ⟨by have h1 := HTG.out.2; have h2 := HB14.out.size; have h3 := HB15.out.size; omega⟩
          have hrs := HRS.out
          rw [← hrs] at HRW HNT
          have HRSL : Aside0 (rs.length ≤ 4) := ⟨by rw [hrs, List.length_append]; have := HLL.out; have := HLK.out; have := HXL.out.1; omega⟩
          have HN2L : Aside0 (N2 ≤ 2097168) := ⟨by have := HN2.out; have := HDL.out; omega⟩
          obtain ⟨W4, hW4⟩ : ∃ W4, W4 = w19 := ⟨_, rfl⟩
          rw [← hW4] at HO19 HRW HT19 HB19w
          rw [← hW4]
          clear hW4 hrs HBB HB17 HB18 HB19 HO18 HE HKL HKK HRL HRK HNL HNK HLC HLC2 HKC hz2 q1 q2 q3
          go_loopw [20] (fun ti wr => ∃ (i : Nat) (ys : List Int), ti = .int .i64 (i : Int) ∧ Aside0 (i ≤ N2) ∧ Aside0 (ys.length = D.length + D.length + 3) ∧ Aside0 (RB wr W.heap.size (.slice (some ⟨gT, 0, none⟩) (D.length + D.length + 3) cT) ys) ∧ Aside0 (Kd.R kv 27 wr w15.heap.size (fun _ => True) (.slice AP rs.length cP) rs) ∧ Aside0 (∀ r ∈ rs, RB wr w13.heap.size r.v l) ∧ Aside0 (Below w.heap.size w wr)) (fun ti _ => N2 - left ti)
          case atStart => exact ⟨0, _, rfl, ⟨Nat.zero_le _⟩, ⟨by simp only [List.length_append, List.length_cons, List.length_nil]⟩, HT19, HO19, HRW, HB19w⟩
          case round =>
            obtain ⟨i, ys, rfl, hi, HYL, HYR, HOr, HRr, HBr2⟩ := hrel
            by_cases ci : i < N2
            · have d1 : decide ((i : Int) < (N2 : Int)) = true := decide_eq_true (by omega)
              have d2 : decide (i < N2) = true := decide_eq_true ci
              have HW := Aside0.mk (nextN i N2 (by have := HN2L.out; omega) ci)
              have ML := Aside0.mk (lessN i N2 (by have := HN2L.out; omega) ci)
              obtain ⟨hx, hz⟩ := Kd.R_celln 0 HYR.out (i : Int) (by omega) (by have := HN2.out; omega)
              rw [Int.toNat_natCast] at hx hz
              have HPUT := Aside0.mk (Kd.R_putg HYR.out (i : Int) 17)
              go_wp2
              refine ⟨⟨i + 1, ys.set i 17, by first | rw [HW.out] | rfl, ⟨by omega⟩, ⟨by rw [List.length_set]; exact HYL.out⟩, ⟨HPUT.out.1⟩, ⟨Kd.R_grown2 HOr.out rfl HPUT.out.2 (fun k hk e => by injection hk with hk; subst hk; have := Kd.R_base HOr.out _ e.symm; have := HTL.out; omega)⟩, ⟨fun r hr => keep8 (HRr.out r hr) HPUT.out.2 (fun k hk => by injection hk with hk; subst hk; exact less8 (HRr.out r hr) HTG.out.2)⟩, ⟨HBr2.out.setCell (p := ⟨gT, i, none⟩) (by have := HTG.out.1; have := HW0.out; show w.heap.size ≤ gT; omega) _⟩⟩, by first | exact ML.out | (show N2 - ((i : Int) + 1).toNat < N2 - ((i : Nat) : Int).toNat; omega)⟩
            · have d1 : decide ((i : Int) < (N2 : Int)) = false := decide_eq_false (by omega)
              have d2 : decide (i < N2) = false := decide_eq_false ci
              obtain ⟨W5, hW5⟩ : ∃ W5, W5 = wr := ⟨_, rfl⟩
              rw [← hW5] at HOr HRr HBr2
              rw [← hW5]
              clear hW5 ci
              go_wp2
              clear d1 d2
              go_loopw [21] (fun ti wr => ∃ (i m : Nat), ti = .int .i64 (i : Int) ∧ Aside0 (i ≤ rs.length) ∧ wr = W5.drewN m) (fun ti _ => rs.length - left ti)
              case atStart => exact ⟨0, 0, rfl, ⟨Nat.zero_le _⟩, rfl⟩
              case round =>
                obtain ⟨i, m, rfl, hi, rfl⟩ := hrel
                by_cases ci : i < rs.length
                · have d1 : decide ((i : Int) < (rs.length : Int)) = true := decide_eq_true (by omega)
                  have d2 : decide (i < rs.length) = true := decide_eq_true ci
                  have HW := Aside0.mk (nextN i rs.length (by have := HRSL.out; omega) ci)
                  have ML := Aside0.mk (lessN i rs.length (by have := HRSL.out; omega) ci)
                  obtain ⟨go, hgo, _, hHD⟩ := HD_of_kv (by omega) HOr.out
                  subst hgo
                  obtain ⟨r, hri⟩ : ∃ r, rs[i]? = some r := ⟨rs[i], List.getElem?_eq_getElem ci⟩
                  have hRr := HRr.out r (List.mem_of_getElem? hri)
                  obtain ⟨Ar, cr, hrv⟩ := Kd.R_slice hRr
                  have hcell : W5.cell? ⟨go, i, none⟩ = some (.slice Ar l.length cr) := by rw [← hrv]; exact hHD.cell (by rw [List.getElem?_map, hri]; rfl)
                  rw [hrv] at hRr
                  have HSM := Aside0.mk (HSAME.out (W5.drewN m) Ar cr A c l (by omega) (Kd.C_drewN (Kd.R_reads' hRr).2.2 _) (Kd.R_reads' hRr).2.1 (Kd.C_drewN (Kd.C_below HC.out HBr2.out) _) HCC.out)
                  clear hHD hri hRr hrv
                  go_wp2_with (go_at_call 18; (with_reducible refine HSM.out.mono ?_); rintro e w20 ⟨rfl, ⟨n7, rfl⟩⟩)
                  refine ⟨⟨i + 1, m + n7, by first | rw [HW.out] | rfl, ⟨by omega⟩, rfl⟩, by first | exact ML.out | (show rs.length - ((i : Int) + 1).toNat < rs.length - ((i : Nat) : Int).toNat; omega)⟩
                · have d1 : decide ((i : Int) < (rs.length : Int)) = false := decide_eq_false (by omega)
                  have d2 : decide (i < rs.length) = false := decide_eq_false ci
                  have HFIN : Aside0 (∀ W', W' = W5.drewN m → Calls Tryd.prog 20 #[.slice AP rs.length cP] W' fun e w' => e = .returned (.bool true) ∧ Below w.heap.size w w') := ⟨fun W' hW' => by
                    have hB5 : Below w.heap.size w W' := by rw [hW']; exact pw_below_drewN HBr2.out _
                    by_cases h0 : rs.length = 0
                    · rw [h0]
                      exact (apart0_calls W' AP cP).mono fun e w' ⟨he, hb⟩ => ⟨he, below_step hB5 hb⟩
                    · have hOd : Kd.R kv 27 W' w15.heap.size (fun _ => True) (.slice AP rs.length cP) rs := by rw [hW']; exact Kd.R_drewN HOr.out _
                      obtain ⟨go, hgo, _, hHD⟩ := HD_of_kv (by omega) hOd
                      subst hgo
                      refine (apart_calls W' w.heap.size go cP rs.length rs rfl (by have := HRSL.out; omega) (by omega) (Kd.R_reads' hOd).2.1 hHD (fun j r hj => ⟨l, by rw [hW']; exact Kd.R_lower (Kd.R_drewN (HRr.out r (List.mem_of_getElem? hj)) _) HBw13.out.size, fun h => absurd h (by omega)⟩) HNT.out hB5.size (fun r hr => ?_)).mono fun e w' ⟨he, hb⟩ => ⟨he, hB5.trans hb⟩
                      have := (Kd.R_reads' (HRr.out r hr)).1
                      have := HL.out
                      omega⟩
                  clear ci
                  go_wp2_with fail
                  refine (HFIN.out _ rfl).mono ?_
                  rintro e w21 ⟨rfl, hb⟩
                  have HBZ := Aside0.mk hb
                  clear hb
                  go_wp2
                  go_ret
                  exact ⟨rfl, HBZ.out⟩
end Go.Proofs.YtoddldamekamoaaDoor.K
