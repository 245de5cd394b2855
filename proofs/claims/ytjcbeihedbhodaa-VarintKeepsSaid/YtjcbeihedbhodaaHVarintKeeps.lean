/- VarintKeeps: its walk. No condition but the row's own. -/
import Derived.Test.YtjcbeihedbhodaaV1
import Derived.Test.YtjcbeihedbhodaaV2
namespace Go.Proofs.Ytjcbeihedbhodaa.X
open Go.RowKit Go.Proofs.YtjcbeihedbhodaaW.PrintWords Go.Proofs.YtjcbeihedbhodaaW.PrintLast Go.Proofs.YtjcbeihedbhodaaW.PrintMore Go.Proofs.Ytjcbeihedbhodaa.Pure
set_option linter.unusedVariables false
set_option linter.unusedSimpArgs false

def stratumlaw02_VarintKeeps.Pure : Prop := True
theorem Below.low {w w' : World} {b : Nat} (h : Below w.heap.size w w') (hb : b ≤ w.heap.size) : Below b w w' := ⟨h.os, h.tape, h.output, h.size, fun i hi => h.block i (by omega)⟩
def left : Value → Nat
  | .int _ i => i.toNat
  | _ => 0
/-- What full holds at j. -/
def tg (l : List Int) (j : Nat) : Int := if j < l.length then rd l (j : Int) else 90
theorem byte_form {w : World} {base n c : Nat} {A : Option Addr} {xs : List Int} {ok : Nat → Prop} (h : Kd.R (Kd.int .u8) 5 w base ok (.slice A n c) xs) (hp : 0 < xs.length) : ∃ g, A = some ⟨g, 0, none⟩ := by
  obtain ⟨g, cap, e, _⟩ := Kd.R_form h hp
  injection e with e1
  exact ⟨g, e1⟩
theorem nextN (i n : Nat) (hn : n ≤ 4611686018427387903) (h : i < n) : wrap64 ((i : Int) + 1) = ((i + 1 : Nat) : Int) := by unfold wrap64; omega
theorem lessN (i n : Nat) (hn : n ≤ 4611686018427387903) (h : i < n) : n - (wrap64 ((i : Int) + 1)).toNat < n - ((i : Nat) : Int).toNat := by
  rw [nextN i n hn h, Int.toNat_natCast, Int.toNat_natCast]; omega
theorem tg_set {l xs : List Int} {i N : Nat} (hN : xs.length = N) (hi : i < N) (h : ∀ j, j < i → rd xs (j : Int) = tg l j) (v : Int) (hv : v = tg l i) : ∀ j, j < i + 1 → rd (xs.set i v) (j : Int) = tg l j := fun j hj => by
  unfold rd at *
  rw [Int.toNat_natCast]
  by_cases e : j = i
  · subst e; rw [List.getD_eq_getElem?_getD, List.getElem?_set_self (by omega)]; exact hv
  · rw [List.getD_eq_getElem?_getD, List.getElem?_set_ne (Ne.symm e), ← List.getD_eq_getElem?_getD]
    have := h j (by omega); rwa [Int.toNat_natCast] at this
theorem keep8 {w w1 : World} {b : Nat} {u : Value} {ys : List Int} {row : Option Nat} (h : Kd.R (Kd.int .u8) 5 w b (fun _ => True) u ys) (hg : w.grownBy w1 row) (hne : ∀ k, row = some k → some k ≠ u.ownBlock) : Kd.R (Kd.int .u8) 5 w1 b (fun _ => True) u ys := Kd.R_grown2 h rfl hg hne
theorem apart8 {w : World} {b : Nat} {u v v1 : Value} {ys : List Int} (h : Kd.R (Kd.int .u8) 5 w b (fun _ => True) u ys) (hne : ∀ k, v.ownBlock = some k → some k ≠ u.ownBlock) (hat : v1.ownBlock = v.ownBlock ∨ ∃ b, v1.ownBlock = some b ∧ w.heap.size ≤ b) : ∀ k, v1.ownBlock = some k → some k ≠ u.ownBlock := fun k hk e => by
  rcases hat with a | ⟨b, a, hb⟩
  · exact hne k (a ▸ hk) e
  · rw [a] at hk; injection hk with hk; subst hk
    have := Kd.R_lt h _ e.symm; omega
theorem less8 {w : World} {b g : Nat} {u : Value} {ys : List Int} (h : Kd.R (Kd.int .u8) 5 w b (fun _ => True) u ys) (hg : g < b) : some g ≠ u.ownBlock := fun e => by
  have := Kd.R_base h g e.symm; omega
theorem far8 {w w1 : World} {b g : Nat} {u : Value} {ys : List Int} (h : Kd.R (Kd.int .u8) 5 w b (fun _ => True) u ys) (hg : w.grownBy w1 (some g)) (hb : g < b) : Kd.R (Kd.int .u8) 5 w1 b (fun _ => True) u ys := keep8 h hg (fun k hk => by injection hk with hk; subst hk; exact less8 h hb)
set_option maxHeartbeats 4000000 in
set_option maxRecDepth 100000 in
theorem keeps_calls (w : World) (A : Option Addr) (c : Nat) (l : List Int) (x : Int) (hC : Kd.C (Kd.int .u8) w A l.length l) (hc : l.length ≤ c) (hb : Bytes l) (h0 : 0 ≤ x) (h1 : x < 18446744073709551616) :
    Calls Try.prog 8 #[.slice A l.length c, .int .u64 x] w fun e w' => e = .returned (.bool true) ∧ Below w.heap.size w w' := by
  obtain ⟨k, hk⟩ := Ev.rounds lives_ev
  have HC := Aside0.mk hC
  have HCC := Aside0.mk hc
  have HLV := Aside0.mk (stratumlaw02_lives.calls k true w hk)
  have HBY := Aside0.mk hb
  have HX := Aside0.mk (And.intro h0 h1)
  clear hC hc hk hb h0 h1
  by_cases ck : 1048576 < l.length
  · have c1 : decide (1048576 < (l.length : Int)) = true := decide_eq_true (by omega)
    have c2 : decide (1048576 < l.length) = true := decide_eq_true ck
    go_enter Try.func8, Try.ntmps8
    go_wp2_with (go_at_call 9; (with_reducible refine HLV.out.mono ?_); rintro e w1 ⟨rfl, hb⟩; have HB1 := Aside0.mk hb; clear hb)
    go_ret
    exact ⟨rfl, HB1.out⟩
  · have c1 : decide (1048576 < (l.length : Int)) = false := decide_eq_false (by omega)
    have c2 : decide (1048576 < l.length) = false := decide_eq_false ck
    obtain ⟨N, hN⟩ : ∃ N : Nat, N = l.length + 20 := ⟨_, rfl⟩
    have HN := Aside0.mk hN
    have HL : Aside0 (l.length ≤ 1048576) := ⟨by omega⟩
    have hW : wrap64 ((l.length : Int) + 20) = (N : Int) := by unfold wrap64; omega
    have hj0 : decide (0 ≤ (N : Int)) = true := decide_eq_true (by omega)
    have hj1 : decide ((N : Int).toNat ≤ 281474976710656) = true := decide_eq_true (by omega)
    clear hN
    go_enter Try.func8, Try.ntmps8
    go_wp2_with (first | (go_at_call 9; (with_reducible refine HLV.out.mono ?_); rintro e w1 ⟨rfl, hb⟩; have HB1 := Aside0.mk hb; clear hb) | ((with_reducible refine gate_dst (N := 27) rfl ?_); go_loud (refine Kd.R_make (Kd.int .u8) _ 5 rfl (N := 27) rfl 22 _ _ rfl ((l.length : Int) + 20) rfl rfl Try.underlying22 (.int .u8 0) 1 info5 rfl (by decide) (by omega) 0 (ok := fun _ => True) (okp := fun _ => True) rfl (fun _ hk => hk) trivial (by omega) (by have := HL.out; omega) (Below.refl _ _) (Nat.le_refl _) ?_; intro vf w2 ho hb hg_ hnew_; rw [show ((l.length : Int) + 20).toNat = N by have := HN.out; omega] at ho; have HF := Aside0.mk ho; have HB2 := Aside0.mk (below_step HB1.out hb); clear ho hb hg_ hnew_)))
    obtain ⟨Af, cf, hvf⟩ := Kd.R_slice HF.out
    rw [List.length_replicate] at hvf
    subst hvf
    have HF0 : Aside0 ((List.replicate N (0 : Int)).length = N) := ⟨List.length_replicate ..⟩
    go_loopw [6] (fun ti wr => ∃ (i : Nat) (xs : List Int), ti = .int .i64 (i : Int) ∧ Aside0 (i ≤ N) ∧ Aside0 (xs.length = N) ∧ Aside0 (∀ j, j < i → rd xs (j : Int) = tg l j) ∧ Aside0 (Kd.R (Kd.int .u8) 5 wr w.heap.size (fun _ => True) (.slice Af N cf) xs) ∧ Aside0 (Below w.heap.size w wr)) (fun ti _ => N - left ti)
    case atStart => exact ⟨0, _, rfl, ⟨Nat.zero_le _⟩, HF0, ⟨fun j hj => absurd hj (by omega)⟩, ⟨Kd.R_lower HF.out HB1.out.size⟩, HB2⟩
    case round =>
      obtain ⟨i, xs, rfl, hi, HXL, HXT, HXR, HB⟩ := hrel
      by_cases ci : i < N
      · have d1 : decide ((i : Int) < (N : Int)) = true := decide_eq_true (by omega)
        have d2 : decide (i < N) = true := decide_eq_true ci
        obtain ⟨gf, hgf⟩ := byte_form HXR.out (by have := HXL.out; omega)
        subst hgf
        have HW := Aside0.mk (nextN i N (by have := HN.out; have := HL.out; omega) ci)
        have ML := Aside0.mk (lessN i N (by have := HN.out; have := HL.out; omega) ci)
        obtain ⟨hx, hz⟩ := Kd.R_celln 0 HXR.out (i : Int) (by omega) (by omega)
        rw [Int.toNat_natCast] at hx hz
        by_cases cl : i < l.length
        · have e1 : decide ((i : Int) < (l.length : Int)) = true := decide_eq_true (by omega)
          have e2 : decide (i < l.length) = true := decide_eq_true cl
          have HBS : Aside0 (Below w.heap.size w (wr.setCell ⟨gf, i, none⟩ (.int .u8 90))) := ⟨HB.out.setCell (p := ⟨gf, i, none⟩) (Kd.R_base HXR.out gf (by simp [Value.ownBlock])) _⟩
          obtain ⟨ad, rfl, hb⟩ := Kd.at_int (Kd.C_below HC.out HBS.out) (i : Int) (by omega) (by omega)
          rw [Int.toNat_natCast] at hb
          have HP1 := Aside0.mk (Kd.R_putg HXR.out (i : Int) 90).1
          have HP2 := Aside0.mk (Kd.R_putg HP1.out (i : Int) (rd l (i : Int))).1
          go_wp2
          exact ⟨⟨i + 1, (xs.set i 90).set i (rd l (i : Int)), rfl, ⟨by omega⟩, ⟨by simp only [List.length_set]; exact HXL.out⟩, ⟨by rw [List.set_set]; exact tg_set HXL.out ci HXT.out _ (by unfold tg; rw [if_pos cl])⟩, HP2, ⟨HBS.out.setCell (p := ⟨gf, i, none⟩) (Kd.R_base HXR.out gf (by simp [Value.ownBlock])) _⟩⟩, by show N - ((i : Int) + 1).toNat < N - ((i : Nat) : Int).toNat; omega⟩
        · have e1 : decide ((i : Int) < (l.length : Int)) = false := decide_eq_false (by omega)
          have e2 : decide (i < l.length) = false := decide_eq_false cl
          have HP1 := Aside0.mk (Kd.R_putg HXR.out (i : Int) 90).1
          go_wp2
          exact ⟨⟨i + 1, xs.set i 90, by rw [HW.out], ⟨by omega⟩, ⟨by simp only [List.length_set]; exact HXL.out⟩, ⟨tg_set HXL.out ci HXT.out _ (by unfold tg; rw [if_neg cl])⟩, HP1, ⟨HB.out.setCell (p := ⟨gf, i, none⟩) (Kd.R_base HXR.out gf (by simp [Value.ownBlock])) _⟩⟩, ML.out⟩
      · have d1 : decide ((i : Int) < (N : Int)) = false := decide_eq_false (by omega)
        have d2 : decide (i < N) = false := decide_eq_false ci
        obtain ⟨gf, hgf⟩ := byte_form HXR.out (by have := HXL.out; have := HN.out; omega)
        subst hgf
        have hxs : xs.take l.length = l := by
          apply List.ext_getElem
          · rw [List.length_take]; have := HXL.out; have := HN.out; omega
          · intro j h1 h2
            have := HXT.out j (by have := HN.out; omega)
            unfold rd tg at this
            rw [if_pos h2, Int.toNat_natCast, List.getD_eq_getElem?_getD, List.getElem?_eq_getElem (by have := HXL.out; have := HN.out; omega)] at this
            unfold rd at this
            rw [Int.toNat_natCast, List.getD_eq_getElem?_getD, List.getElem?_eq_getElem h2] at this
            rw [List.getElem_take]; simpa using this
        obtain ⟨hz0, hcf, hCX⟩ := Kd.R_reads' HXR.out
        clear hz0
        have hCL := Kd.C_take hCX (m := l.length) (by have := HXL.out; have := HN.out; omega)
        rw [hxs] at hCL
        have HCL := Aside0.mk hCL
        have e1 : decide ((l.length : Int) ≤ (cf : Int)) = true := decide_eq_true (by have := HN.out; omega)
        have e2 : decide (l.length ≤ cf) = true := decide_eq_true (by have := HN.out; omega)
        have e3 : l.length ≤ cf := by have := HN.out; omega
        have e4 : (l.length : Int) ≤ (cf : Int) := by omega
        have HCF : Aside0 (l.length ≤ cf) := ⟨by have := HN.out; omega⟩
        obtain ⟨W, hW⟩ : ∃ W, W = wr := ⟨_, rfl⟩
        rw [← hW] at HXR HB HCL
        rw [← hW]
        clear hW hxs hCX hCL hcf
        obtain ⟨kt, hkt⟩ := Ev.rounds (take_ev HBY.out (by have := HL.out; omega))
        obtain ⟨L, hL⟩ : ∃ L, L = venc x.toNat := ⟨_, rfl⟩
        obtain ⟨⟨t1, t2, t3⟩, ht⟩ : ∃ t, t = tk 0 0 l := ⟨_, rfl⟩
        rw [← ht] at hkt
        have hput := put_eq (l := l) (by have := HL.out; omega) HX.out.1 HX.out.2
        have hsize := size_eq HX.out.1 HX.out.2
        rw [← hL] at hput hsize
        obtain ⟨R0, hR0⟩ : ∃ R0, R0 = l ++ L := ⟨_, rfl⟩
        have HR0 := Aside0.mk hR0
        rw [← hR0] at hput
        have HAL : Aside0 (∀ A1 c1 A2 c2 W', Kd.C (Kd.int .u8) W' A1 R0.length R0 → R0.length ≤ c1 → Kd.C (Kd.int .u8) W' A2 R0.length R0 → R0.length ≤ c2 → Calls Try.prog 10 #[.slice A1 R0.length c1, .slice A2 R0.length c2] W' fun e w' => e = .returned (.bool true) ∧ Drawn0 W' w') := ⟨fun A1 c1 A2 c2 W' h1 h2 h3 h4 => stratumlaw02_alike.calls A1 c1 R0 A2 c2 R0 true W' h1 h2 h3 h4 (alike_self _)⟩
        have HLL : Aside0 (L.length ≤ 10) := ⟨by rw [hL]; exact venc_len10 (by have := HX.out; omega)⟩
        have HPUT : Aside0 (∀ W', Below W.heap.size W W' → Calls Try.prog 11 #[.slice (some ⟨gf, 0, none⟩) l.length cf, .int .u64 x] W' fun e w' => ∃ v0, e = .returned v0 ∧ Kd.R (Kd.int .u8) 5 w' W'.heap.size (fun _ => True) v0 R0 ∧ Below W'.heap.size W' w') := ⟨fun W' h => varint_Put.calls _ cf l x _ W' (Kd.C_below HCL.out h) HCF.out hput⟩
        have HTK1 : Aside0 (∀ W', Below W.heap.size W W' → Calls Try.prog 20 #[.slice (some ⟨gf, 0, none⟩) l.length cf] W' fun e w' => e = .returned (.tuple #[.int .u64 t1, .int .i64 t2, .int .i64 t3]) ∧ Drawn0 W' w') := ⟨fun W' h => varint_Take.calls kt _ cf l _ _ _ W' (Kd.C_below HCL.out h) HCF.out hkt⟩
        have HTK2 : Aside0 (∀ W', Below w.heap.size w W' → Calls Try.prog 20 #[.slice A l.length c] W' fun e w' => e = .returned (.tuple #[.int .u64 t1, .int .i64 t2, .int .i64 t3]) ∧ Drawn0 W' w') := ⟨fun W' h => varint_Take.calls kt _ c l _ _ _ W' (Kd.C_below HC.out h) HCC.out hkt⟩
        clear hkt hput ht hL hR0
        have hbS : Below W.heap.size W W := Below.refl _ _
        go_wp2_with (first
          | (go_at_call 10; (with_reducible refine (HAL.out _ _ _ _ _ (Kd.C_below HPC.out (pw_below_drewN (Below.refl _ _) _)) HPC1.out (Kd.C_below HQC.out (pw_below_drewN (Below.refl _ _) _)) HQC1.out).mono ?_); rintro e w8 ⟨rfl, ⟨n3, rfl⟩⟩)
          | (go_at_call 11; have hg_ := HPR; (with_reducible refine (HPUT.out _ hbS).mono ?_); rintro e w6 ⟨vq, rfl, ho, hb⟩; obtain ⟨Aq, cq, hvq⟩ := Kd.R_slice ho; subst hvq; have HQR := Aside0.mk ho; have HPR2 := Aside0.mk (Kd.R_below HPR.out hb); have HPL := Aside0.mk (Kd.R_lt HPR.out); have hbS := below_step hbS hb; have HPC := Aside0.mk (Kd.R_reads' HPR2.out).2.2; have HPC1 := Aside0.mk (Kd.R_reads' HPR2.out).2.1; have HQC := Aside0.mk (Kd.R_reads' HQR.out).2.2; have HQC1 := Aside0.mk (Kd.R_reads' HQR.out).2.1; clear ho hb hg_)
          | (go_at_call 11; (with_reducible refine (HPUT.out _ hbS).mono ?_); rintro e w5 ⟨vp, rfl, ho, hb⟩; obtain ⟨Ap, cp, hvp⟩ := Kd.R_slice ho; subst hvp; have HPR := Aside0.mk ho; have HS5 := Aside0.mk hb.size; have hbS := below_step hbS hb; clear ho hb)
          | (go_at_call 20; (with_reducible refine (HTK1.out _ hbS).mono ?_); rintro e w7 ⟨rfl, ⟨n1, rfl⟩⟩)
          | (go_at_call 20; (with_reducible refine (HTK2.out _ (Below.trans HB.out (Below.low (pw_below_drewN hbS _) HB.out.size))).mono ?_); rintro e w7 ⟨rfl, ⟨n2, rfl⟩⟩))
        have HGF : Aside0 (gf < W.heap.size) := ⟨Kd.R_lt HXR.out gf (by simp [Value.ownBlock])⟩
        have HPQ : Aside0 (∀ k, (Value.slice Ap R0.length cp).ownBlock = some k → some k ≠ (Value.slice Aq R0.length cq).ownBlock) := ⟨fun k hk e => by have h1 := HPL.out k hk; have h2 := Kd.R_base HQR.out k e.symm; omega⟩
        have HX6 := Aside0.mk (Kd.R_below HXR.out hbS)
        have HB6 := Aside0.mk (Below.trans HB.out (Below.low hbS HB.out.size))
        have HRL : Aside0 (R0.length ≤ 1048586) := ⟨by rw [HR0.out, List.length_append]; have := HL.out; have := HLL.out; omega⟩
        clear hbS
        go_loopw [15] (fun ti wr => ∃ (i : Nat) (ys : List Int), ti = .int .i64 (i : Int) ∧ Aside0 (i ≤ N) ∧ Aside0 (ys.length = N) ∧ Aside0 (∀ j, i ≤ j → j < N → rd ys (j : Int) = tg l j) ∧ Aside0 (Kd.R (Kd.int .u8) 5 wr w.heap.size (fun _ => True) (.slice (some ⟨gf, 0, none⟩) N cf) ys) ∧ Aside0 (Kd.R (Kd.int .u8) 5 wr W.heap.size (fun _ => True) (.slice Ap R0.length cp) R0) ∧ Aside0 (Kd.R (Kd.int .u8) 5 wr w5.heap.size (fun _ => True) (.slice Aq R0.length cq) R0) ∧ Aside0 (Below w.heap.size w wr)) (fun ti _ => N - left ti)
        case atStart => exact ⟨0, xs, rfl, ⟨Nat.zero_le _⟩, HXL, ⟨fun j _ hj => HXT.out j (by omega)⟩, ⟨Kd.R_drewN HX6.out _⟩, ⟨Kd.R_drewN HPR2.out _⟩, ⟨Kd.R_drewN HQR.out _⟩, ⟨pw_below_drewN HB6.out _⟩⟩
        case round =>
          obtain ⟨i, ys, rfl, hi, HYL, HYT, HYR, HP, HQ, HBB⟩ := hrel
          by_cases ci : i < N
          · have d1 : decide ((i : Int) < (N : Int)) = true := decide_eq_true (by omega)
            have d2 : decide (i < N) = true := decide_eq_true ci
            have HW := Aside0.mk (nextN i N (by have := HN.out; have := HL.out; omega) ci)
            have ML := Aside0.mk (lessN i N (by have := HN.out; have := HL.out; omega) ci)
            obtain ⟨hx, hz⟩ := Kd.R_celln 0 HYR.out (i : Int) (by omega) (by omega)
            rw [Int.toNat_natCast] at hx hz
            have hv : rd ys (i : Int) = tg l i := HYT.out i (Nat.le_refl _) ci
            have hrd : rdOf 0 ys (i : Int) = rd ys (i : Int) := rfl
            rw [hrd, hv] at hx
            have HPUT : Aside0 (∀ n, Kd.R (Kd.int .u8) 5 ((wr.drewN n).setCell ⟨gf, i, none⟩ (.int .u8 0)) w.heap.size (fun _ => True) (.slice (some ⟨gf, 0, none⟩) N cf) (ys.set i 0) ∧ (wr.drewN n).grownBy ((wr.drewN n).setCell ⟨gf, i, none⟩ (.int .u8 0)) (some gf)) := ⟨fun n => Kd.R_putg (Kd.R_drewN HYR.out n) (i : Int) 0⟩
            have HFIN : Aside0 (∀ n, ∃ (i' : Nat) (ys' : List Int), Value.int .i64 ((i + 1 : Nat) : Int) = .int .i64 (i' : Int) ∧ Aside0 (i' ≤ N) ∧ Aside0 (ys'.length = N) ∧ Aside0 (∀ j, i' ≤ j → j < N → rd ys' (j : Int) = tg l j) ∧ Aside0 (Kd.R (Kd.int .u8) 5 ((wr.drewN n).setCell ⟨gf, i, none⟩ (.int .u8 0)) w.heap.size (fun _ => True) (.slice (some ⟨gf, 0, none⟩) N cf) ys') ∧ Aside0 (Kd.R (Kd.int .u8) 5 ((wr.drewN n).setCell ⟨gf, i, none⟩ (.int .u8 0)) W.heap.size (fun _ => True) (.slice Ap R0.length cp) R0) ∧ Aside0 (Kd.R (Kd.int .u8) 5 ((wr.drewN n).setCell ⟨gf, i, none⟩ (.int .u8 0)) w5.heap.size (fun _ => True) (.slice Aq R0.length cq) R0) ∧ Aside0 (Below w.heap.size w ((wr.drewN n).setCell ⟨gf, i, none⟩ (.int .u8 0)))) := ⟨fun n => ⟨i + 1, ys.set i 0, rfl, ⟨by omega⟩, ⟨by rw [List.length_set]; exact HYL.out⟩, ⟨fun j h1 h2 => by
                have := HYT.out j (by omega) h2
                unfold rd at *
                rw [Int.toNat_natCast] at *
                rw [List.getD_eq_getElem?_getD, List.getElem?_set_ne (by omega), ← List.getD_eq_getElem?_getD]; exact this⟩, ⟨(HPUT.out n).1⟩, ⟨far8 (Kd.R_drewN HP.out n) (HPUT.out n).2 HGF.out⟩, ⟨far8 (Kd.R_drewN HQ.out n) (HPUT.out n).2 (by have := HGF.out; have := HS5.out; omega)⟩, ⟨(pw_below_drewN HBB.out n).setCell (p := ⟨gf, i, none⟩) (Kd.R_base HYR.out gf (by simp [Value.ownBlock])) _⟩⟩⟩
            by_cases cl : i < l.length
            · have e1' : decide ((i : Int) < (l.length : Int)) = true := decide_eq_true (by omega)
              have e2' : decide (i < l.length) = true := decide_eq_true cl
              have e3' : decide ((l.length : Int) ≤ (i : Int)) = false := decide_eq_false (by omega)
              have e4' : decide (l.length ≤ i) = false := decide_eq_false (by omega)
              have ht : tg l i = rd l (i : Int) := by unfold tg; rw [if_pos cl]
              obtain ⟨ad, rfl, hb⟩ := Kd.at_int (Kd.C_below HC.out HBB.out) (i : Int) (by omega) (by omega)
              rw [Int.toNat_natCast] at hb
              rw [ht] at hx
              clear hv hrd ht
              obtain ⟨y, hy⟩ : ∃ y, y = rd l (i : Int) := ⟨_, rfl⟩
              rw [← hy] at hb hx
              clear hy
              go_wp2
              go_quiet (fail)
              go_wp2
              first | exact ⟨HFIN.out _, by show N - ((i : Int) + 1).toNat < N - ((i : Nat) : Int).toNat; omega⟩ | exact ⟨by rw [HW.out]; exact HFIN.out _, ML.out⟩
            · have e1' : decide ((i : Int) < (l.length : Int)) = false := decide_eq_false (by omega)
              have e2' : decide (i < l.length) = false := decide_eq_false cl
              have e3' : decide ((l.length : Int) ≤ (i : Int)) = true := decide_eq_true (by omega)
              have e4' : decide (l.length ≤ i) = true := decide_eq_true (by omega)
              have ht : tg l i = 90 := by unfold tg; rw [if_neg cl]
              rw [ht] at hx
              clear hv hrd ht
              go_wp2
              go_quiet (fail)
              go_wp2
              first | exact ⟨HFIN.out _, by show N - ((i : Int) + 1).toNat < N - ((i : Nat) : Int).toNat; omega⟩ | exact ⟨by rw [HW.out]; exact HFIN.out _, ML.out⟩
          · have d1 : decide ((i : Int) < (N : Int)) = false := decide_eq_false (by omega)
            have d2 : decide (i < N) = false := decide_eq_false ci
            obtain ⟨W2, hW2⟩ : ∃ W2, W2 = wr := ⟨_, rfl⟩
            rw [← hW2] at HYR HP HQ HBB
            rw [← hW2]
            clear hW2 ci HYT HYL
            have HQRd := Aside0.mk (Kd.R_reads' HQ.out)
            have HI5 : Aside0 ((Try.prog.info? 5).map (fun i => (i.zero, i.size, i.bytes)) = some (some (.int .u8 0), 1, 1)) := ⟨info5⟩
            go_wp2_with (first
              | ((with_reducible refine gate_dst (N := 131) rfl ?_); refine Kd.R_lit (Kd.int .u8) (w0 := W2) W2.heap.size 5 rfl (N := 131) rfl (xs := ([] : List Int)) (inner := []) (ok := fun _ => True) (okp := fun _ => True) ?hr (Reps.none _ _) (fun _ hk => hk) trivial (Below.refl _ _) (Nat.le_refl _) (by simp) ?_; (case hr => first | (go_simp; done) | (go_simp; rfl)); intro ve w10 ho hb hg_ hnew_; obtain ⟨Ae, ce, hve⟩ := Kd.R_slice ho; subst hve; have HE := Aside0.mk ho; have HBE := Aside0.mk hb; clear ho hb hg_ hnew_)
              | ((with_reducible refine gate_builtin (b := .append) (xs := #[.tmp 131, .tmp 132]) rfl ?_); at_builtin; refine Kd.R_append_rows (Kd.int .u8) (w0 := W2) W2.heap.size rfl (.tmp 131) (.tmp 132) 22 5 (.int .u8 0) 1 rfl Try.underlying22 HI5.out rfl (by decide) (by omega) (.slice Ae ([] : List Int).length ce) [] R0 Aq R0.length cq (fun _ => True) (fun _ => False) rfl rfl HE.out ?aR (fun _ _ h => h) (fun _ h => h.elim) (fun _ _ => trivial) HBE.out HBE.out.size ?aL ?_; (case aR => exact Kd.C_below HQRd.out.2.2 HBE.out); (case aL => have := HRL.out; simp only [List.length_nil]; omega); intro vw w11 ho hb hg hat_; rw [List.nil_append] at ho; obtain ⟨Aw, cw, hvw⟩ := Kd.R_slice ho; subst hvw; have HWT := Aside0.mk ho; have HBW := Aside0.mk hb; clear ho hb hg hat_))
            have HP11 := Aside0.mk (Kd.R_below HP.out HBW.out)
            have HQ11 := Aside0.mk (Kd.R_below HQ.out HBW.out)
            have HPW : Aside0 (∀ k, (Value.slice Ap R0.length cp).ownBlock = some k → some k ≠ (Value.slice Aw R0.length cw).ownBlock) := ⟨fun k hk e => by have h1 := Kd.R_lt HP.out k hk; have h2 := Kd.R_base HWT.out k e.symm; omega⟩
            have HZ11 := Aside0.mk (Below.trans HBB.out (Below.low HBW.out HBB.out.size))
            have HBP : Aside0 (w.heap.size ≤ W.heap.size) := ⟨HB.out.size⟩
            go_loopw [17] (fun ti wr => ∃ (i : Nat) (ps : List Int), ti = .int .i64 (i : Int) ∧ Aside0 (i ≤ R0.length) ∧ Aside0 (ps.length = R0.length) ∧ Aside0 (Kd.R (Kd.int .u8) 5 wr W.heap.size (fun _ => True) (.slice Ap R0.length cp) ps) ∧ Aside0 (Kd.R (Kd.int .u8) 5 wr w5.heap.size (fun _ => True) (.slice Aq R0.length cq) R0) ∧ Aside0 (Kd.R (Kd.int .u8) 5 wr W2.heap.size (fun _ => True) (.slice Aw R0.length cw) R0) ∧ Aside0 (Below w.heap.size w wr)) (fun ti _ => R0.length - left ti)
            case atStart => exact ⟨0, R0, rfl, ⟨Nat.zero_le _⟩, ⟨rfl⟩, HP11, HQ11, HWT, HZ11⟩
            case round =>
              obtain ⟨i, ps, rfl, hi, HPL3, HP3, HQ3, HW3, HB3⟩ := hrel
              by_cases ci : i < R0.length
              · have d1 : decide ((i : Int) < (R0.length : Int)) = true := decide_eq_true (by omega)
                have d2 : decide (i < R0.length) = true := decide_eq_true ci
                have HW := Aside0.mk (nextN i R0.length (by have := HRL.out; omega) ci)
                have ML := Aside0.mk (lessN i R0.length (by have := HRL.out; omega) ci)
                obtain ⟨gp, hgp⟩ := byte_form HP3.out (by have := HPL3.out; omega)
                rw [hgp] at HP3 HPQ HPW
                rw [hgp]
                obtain ⟨hx, hz⟩ := Kd.R_celln 0 HP3.out (i : Int) (by omega) (by omega)
                rw [Int.toNat_natCast] at hx hz
                have HST := Aside0.mk (Kd.R_putg HP3.out (i : Int) 255)
                have HFIN : Aside0 (∃ (i' : Nat) (ps' : List Int), Value.int .i64 ((i + 1 : Nat) : Int) = .int .i64 (i' : Int) ∧ Aside0 (i' ≤ R0.length) ∧ Aside0 (ps'.length = R0.length) ∧ Aside0 (Kd.R (Kd.int .u8) 5 (wr.setCell ⟨gp, i, none⟩ (.int .u8 255)) W.heap.size (fun _ => True) (.slice Ap R0.length cp) ps') ∧ Aside0 (Kd.R (Kd.int .u8) 5 (wr.setCell ⟨gp, i, none⟩ (.int .u8 255)) w5.heap.size (fun _ => True) (.slice Aq R0.length cq) R0) ∧ Aside0 (Kd.R (Kd.int .u8) 5 (wr.setCell ⟨gp, i, none⟩ (.int .u8 255)) W2.heap.size (fun _ => True) (.slice Aw R0.length cw) R0) ∧ Aside0 (Below w.heap.size w (wr.setCell ⟨gp, i, none⟩ (.int .u8 255)))) := ⟨⟨i + 1, ps.set i 255, rfl, ⟨by omega⟩, ⟨by rw [List.length_set]; exact HPL3.out⟩, ⟨by rw [hgp]; exact HST.out.1⟩, ⟨keep8 (row := some gp) HQ3.out HST.out.2 (fun k hk => HPQ.out k (by rw [← hk]; simp [Value.ownBlock]))⟩, ⟨keep8 (row := some gp) HW3.out HST.out.2 (fun k hk => HPW.out k (by rw [← hk]; simp [Value.ownBlock]))⟩, ⟨HB3.out.setCell (p := ⟨gp, i, none⟩) (by have h1 := Kd.R_base HP3.out gp (by simp [Value.ownBlock]); have := HBP.out; simp; omega) _⟩⟩⟩
                rw [hgp] at HFIN
                clear hgp
                go_wp2
                first | exact ⟨HFIN.out, by show R0.length - ((i : Int) + 1).toNat < R0.length - ((i : Nat) : Int).toNat; omega⟩ | exact ⟨by rw [HW.out]; exact HFIN.out, ML.out⟩
              · have d1 : decide ((i : Int) < (R0.length : Int)) = false := decide_eq_false (by omega)
                have d2 : decide (i < R0.length) = false := decide_eq_false ci
                obtain ⟨W3, hW3⟩ : ∃ W3, W3 = wr := ⟨_, rfl⟩
                rw [← hW3] at HP3 HQ3 HW3 HB3
                rw [← hW3]
                clear hW3 ci
                have HBPQ : Aside0 (∀ k, (Value.slice Ap R0.length cp).ownBlock = some k → k < W3.heap.size) := ⟨Kd.R_lt HP3.out⟩
                go_wp2
                go_loopw [7, 18] (fun tp tk wr => ∃ (k : Nat) (Az : Option Addr) (cz : Nat) (zs : List Int), tk = .int .i64 (k : Int) ∧ tp = .slice Az (R0.length + k) cz ∧ Aside0 (k ≤ 16) ∧ Aside0 (zs.length = R0.length + k) ∧ Aside0 (Kd.R (Kd.int .u8) 5 wr w.heap.size (fun _ => True) (.slice Az (R0.length + k) cz) zs) ∧ Aside0 (Kd.R (Kd.int .u8) 5 wr w5.heap.size (fun _ => True) (.slice Aq R0.length cq) R0) ∧ Aside0 (Kd.R (Kd.int .u8) 5 wr W2.heap.size (fun _ => True) (.slice Aw R0.length cw) R0) ∧ Aside0 (∀ k', (Value.slice Az (R0.length + k) cz).ownBlock = some k' → some k' ≠ (Value.slice Aq R0.length cq).ownBlock) ∧ Aside0 (∀ k', (Value.slice Az (R0.length + k) cz).ownBlock = some k' → some k' ≠ (Value.slice Aw R0.length cw).ownBlock) ∧ Aside0 (Below w.heap.size w wr)) (fun _ tk _ => 16 - left tk)
                case atStart => exact ⟨0, Ap, cp, ps, rfl, rfl, ⟨by omega⟩, HPL3, ⟨Kd.R_lower HP3.out HBP.out⟩, HQ3, HW3, HPQ, HPW, HB3⟩
                case round =>
                  obtain ⟨k, Az, cz, zs, rfl, rfl, hk, HZL, HZ, HQ4, HW4, HZQ, HZW, HB4⟩ := hrel
                  by_cases ck : k < 16
                  · have e1' : decide ((k : Int) < 16) = true := decide_eq_true (by omega)
                    have e2' : decide (k < 16) = true := decide_eq_true ck
                    have CK := Aside0.mk ck
                    have W3' := Aside0.mk (nextN k 16 (by omega) ck)
                    have ML3 := Aside0.mk (lessN k 16 (by omega) ck)
                    clear ck
                    go_wp2_with ((with_reducible refine gate_builtin (b := .append) (xs := #[.tmp 147, .tmp 148]) rfl ?_); at_builtin; refine Kd.R_append (Kd.int .u8) (w0 := w) w.heap.size rfl (.tmp 147) (.tmp 148) 22 5 (.int .u8 0) 1 rfl Try.underlying22 HI5.out rfl (by decide) (by omega) (.slice Az (R0.length + k) cz) zs 238 [.int .u8 238] (fun _ => True) (fun _ => False) rfl rfl (show Kd.M (Kd.int .u8) _ _ _ 238 [.int .u8 238] from rfl) (fun _ hk => hk.elim) (fun _ _ => trivial) HZ.out HB4.out HB4.out.size (by have := HZL.out; have := HRL.out; have := CK.out; omega) ?_; intro v1 w12 ho hb hg hat; obtain ⟨A1, cc1, hv1⟩ := Kd.R_slice ho; rw [show (zs ++ [(238 : Int)]).length = R0.length + (k + 1) by rw [List.length_append, HZL.out]; rfl] at hv1; subst hv1; have HZ5 := Aside0.mk ho; have HB5 := Aside0.mk hb; have HG5 := Aside0.mk hg; have HAT5 := Aside0.mk hat; clear ho hb hg hat)
                    exact ⟨⟨k + 1, A1, cc1, zs ++ [238], by rw [W3'.out], rfl, ⟨by have := CK.out; omega⟩, ⟨by rw [List.length_append, HZL.out]; rfl⟩, HZ5, ⟨keep8 HQ4.out HG5.out HZQ.out⟩, ⟨keep8 HW4.out HG5.out HZW.out⟩, ⟨apart8 HQ4.out HZQ.out HAT5.out⟩, ⟨apart8 HW4.out HZW.out HAT5.out⟩, HB5⟩, ML3.out⟩
                  · have e1' : decide ((k : Int) < 16) = false := decide_eq_false (by omega)
                    have e2' : decide (k < 16) = false := decide_eq_false ck
                    have HQE := Aside0.mk (Kd.R_reads' HQ4.out)
                    have HWE := Aside0.mk (Kd.R_reads' HW4.out)
                    have HQT : Aside0 (Kd.C (Kd.int .u8) wr Aq l.length l) := ⟨by
                      have h := Kd.C_take HQE.out.2.2 (m := l.length) (by rw [HR0.out, List.length_append]; omega)
                      have e : R0.take l.length = l := by rw [HR0.out]; exact List.take_left
                      rwa [e] at h⟩
                    have HLQ : Aside0 (l.length ≤ cq) := ⟨by have := HQE.out.2.1; rw [HR0.out, List.length_append] at this; omega⟩
                    have HBL := Aside0.mk (Kd.C_below HC.out HB4.out)
                    have HSZ : Aside0 (∀ W', Calls Try.prog 13 #[.int .u64 x] W' fun e w' => e = .returned (.int .i64 (L.length : Int)) ∧ Drawn0 W' w') := ⟨fun W' => varint_Size.calls x _ W' hsize⟩
                    have HAL2 : Aside0 (∀ W', Kd.C (Kd.int .u8) W' Aq l.length l → Kd.C (Kd.int .u8) W' A l.length l → Calls Try.prog 10 #[.slice Aq l.length cq, .slice A l.length c] W' fun e w' => e = .returned (.bool true) ∧ Drawn0 W' w') := ⟨fun W' h1 h2 => stratumlaw02_alike.calls Aq cq l A c l true W' h1 HLQ.out h2 HCC.out (alike_self _)⟩
                    have hlen : wrap64 ((l.length : Int) + (L.length : Int)) = (R0.length : Int) := by have := HR0.out; have := HL.out; have := HLL.out; rw [HR0.out, List.length_append]; unfold wrap64; omega
                    have g1 : decide ((l.length : Int) ≤ (cq : Int)) = true := decide_eq_true (by have := HLQ.out; omega)
                    have g2 : decide (l.length ≤ cq) = true := decide_eq_true HLQ.out
                    have g3 : l.length ≤ cq := HLQ.out
                    have g4 : (l.length : Int) ≤ (cq : Int) := by omega
                    clear hsize ck
                    go_wp2_with (first
                      | (go_at_call 10; (with_reducible refine (HAL2.out _ (Kd.C_drewN HQT.out _) (Kd.C_drewN HBL.out _)).mono ?_); rintro e w15 ⟨rfl, ⟨n6, rfl⟩⟩)
                      | (go_at_call 10; (with_reducible refine (HAL.out _ _ _ _ _ HQE.out.2.2 HQE.out.2.1 HWE.out.2.2 HWE.out.2.1).mono ?_); rintro e w13 ⟨rfl, ⟨n4, rfl⟩⟩)
                      | (go_at_call 13; (with_reducible refine (HSZ.out _).mono ?_); rintro e w14 ⟨rfl, ⟨n5, rfl⟩⟩))
                    go_ret
                    exact ⟨rfl, pw_below_drewN HB4.out _⟩
theorem stratumlaw02_VarintKeeps.walk (P : stratumlaw02_VarintKeeps.Pure) (a0 : Option Addr) (len0 cap0 : Nat) (z0 : List Int) (a1 : Int) (w : World) (w0 : (a0 = none ∧ len0 = 0 ∧ cap0 = 0 ∧ z0 = []) ∨ ∃ x, a0 = some x ∧ len0 ≤ cap0 ∧ cap0 ≤ maxLen ∧ z0.length = cap0 ∧ (∀ i, i < z0.length → w.cell? (x.add i) = some (.int .u8 (z0.getD i 0))) ∧ ∀ n ∈ z0, (Lit.int .u8 n).wf = true) (y0 : len0 * 1 ≤ 140737488351232) (w1 : (Lit.int .u64 a1).wf = true) :
    Calls Try.prog 8 #[.slice a0 len0 cap0, .int .u64 a1] w fun e w' => e = .returned (.bool true) ∧ Below w.heap.size w w' := by
  obtain ⟨l0, rfl, hr0, hm0, hw0, hc0⟩ := ReadsInt.ofRowC w0
  have hx := u64b w1
  exact keeps_calls w a0 cap0 l0 a1 (Kd.C_of_reads (d := (0 : Int)) (h1 := fun _ => rfl) hr0) hc0 (fun x h => u8b (hw0 x h)) hx.1 hx.2
end Go.Proofs.Ytjcbeihedbhodaa.X
