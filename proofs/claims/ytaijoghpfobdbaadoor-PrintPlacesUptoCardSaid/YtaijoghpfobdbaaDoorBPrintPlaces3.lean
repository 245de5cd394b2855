/- The texts of the law PrintPlaces, put together by a program of this workplace out of its own texts and of what the kit's print has written: walks of the functions, plain laws. No condition but those in the theorems. -/
import Derived.Test.YtaijoghpfobdbaaDoorBPrintPlaces0
import Derived.Test.YtaijoghpfobdbaaDoorBPrintPlaces1
import Derived.Test.YtaijoghpfobdbaaDoorBPrintPlaces2
section
set_option linter.unusedVariables false
set_option linter.unusedSimpArgs false
namespace Go.Proofs.YtaijoghpfobdbaaDoor.W
open Go.RowKit Go.Proofs.YtaijoghpfobdbaaDoor.X Go.Proofs.YtaijoghpfobdbaaDoorW.PrintWords Go.Proofs.YtaijoghpfobdbaaDoorW.PrintLast Go.Proofs.YtaijoghpfobdbaaDoorW.PrintMore
open Go.Proofs.YtaijoghpfobdbaaDoor.P (Nd StD VeD EvD)
theorem get_of {α : Type} {l : List α} {i : Nat} {x : α} (h : l[i]? = some x) (hi : i < l.length) : l[i] = x := by rw [List.getElem?_eq_getElem hi] at h; injection h
set_option maxHeartbeats 8000000 in
set_option maxRecDepth 100000 in
theorem steps_calls (w : World) (A1 A2 : Option Addr) (c1 c2 : Nat) (xs ys : List StD) (h1 : Kd.C kS w A1 xs.length xs) (h2 : Kd.C kS w A2 ys.length ys) (hx : xs.length ≤ 4611686018427387904) (hv : ∀ d, d ∈ xs → d.val.length ≤ 4611686018427387904) (hs : sL sS xs ys) :
    Calls Tryd.prog 31 #[.slice A1 xs.length c1, .slice A2 ys.length c2] w fun e w' => e = .returned (.bool true) ∧ Below w.heap.size w w' := by
  have hlen := hs.len
  have H1 := Aside0.mk h1
  have H2 := Aside0.mk h2
  have HX := Aside0.mk hx
  have HV := Aside0.mk hv
  have HS := Aside0.mk hs
  have HLE := Aside0.mk hlen
  rw [← hlen]
  clear h1 h2 hx hv hs hlen
  go_enter Tryd.func31, Tryd.ntmps31
  go_wp2_with fail
  go_loopw [5] (fun ti wr => ∃ i : Nat, ti = .int .i64 (i : Int) ∧ Aside0 (i ≤ xs.length) ∧ Aside0 (Below w.heap.size w wr)) (fun ti _ => xs.length - left ti)
  case atStart => exact ⟨0, rfl, ⟨Nat.zero_le _⟩, ⟨Below.refl _ _⟩⟩
  case round =>
    obtain ⟨i, rfl, hi, HB⟩ := hrel
    rename World => wa
    by_cases hlt : i < xs.length
    · have d1 : decide ((i : Int) < (xs.length : Int)) = true := decide_eq_true (by omega)
      have d2 : decide (i < xs.length) = true := decide_eq_true hlt
      have hlt2 : i < ys.length := by rw [← HLE.out]; exact hlt
      obtain ⟨x, y, hx, hy, e0, e1, e2, e3, e4, e5, hvv⟩ := HS.out.at i hlt
      obtain ⟨ad1, B1, n1, hA1, hB1, hf⟩ := at_S' (Kd.C_below H1.out HB.out) i hlt
      obtain ⟨ad2, B2, n2, hA2, hB2, hg⟩ := at_S' (Kd.C_below H2.out HB.out) i hlt2
      subst hA1 hA2
      rw [get_of hx hlt] at hB1 hf
      rw [get_of hy hlt2] at hB2 hg
      have HVX := Aside0.mk (HV.out x (List.mem_of_getElem? hx))
      obtain ⟨x0, x1, x2, x3, x4, x5, x6, x7⟩ := hf wa (Below.refl _ _)
      rw [e0] at x0
      rw [e1] at x1
      rw [e2] at x2
      rw [e3] at x3
      rw [e4] at x4
      rw [e5] at x5
      obtain ⟨p, hp⟩ : ∃ p, p = x.pl := ⟨_, rfl⟩
      rw [← hp] at x7
      have hvl := hvv.len
      obtain ⟨W1, hW1⟩ : ∃ W1, W1 = wa.alloc (.cells #[.int .i64 y.k, .string y.a, .string y.b, .string y.c, .string y.sep, .string y.ty, .slice B1 x.val.length n1, .int .i64 p] 55) := ⟨_, rfl⟩
      have hb1 : Below wa.heap.size wa W1 := by rw [hW1]; exact below_alloc (Below.refl _ _) _
      obtain ⟨y0, y1, y2, y3, y4, y5, y6, y7⟩ := hg W1 hb1
      obtain ⟨W2, hW2⟩ : ∃ W2, W2 = W1.alloc (.cells #[.int .i64 y.k, .string y.a, .string y.b, .string y.c, .string y.sep, .string y.ty, .slice B2 y.val.length n2, .int .i64 y.pl] 55) := ⟨_, rfl⟩
      have hb2 : Below W1.heap.size W1 W2 := by rw [hW2]; exact below_alloc (Below.refl _ _) _
      have hb12 := below_step hb1 hb2
      have hbx : W2.heap[wa.heap.size]? = some (.cells #[.int .i64 y.k, .string y.a, .string y.b, .string y.c, .string y.sep, .string y.ty, .slice B1 x.val.length n1, .int .i64 p] 55 (0, 0)) := blk_below (by rw [hW1]; exact blk_new _ _) hb2
      have hby : W2.heap[wa.heap.size + 1]? = some (.cells #[.int .i64 y.k, .string y.a, .string y.b, .string y.c, .string y.sep, .string y.ty, .slice B2 y.val.length n2, .int .i64 y.pl] 55 (0, 0)) := by
        have hz : W1.heap.size = wa.heap.size + 1 := by rw [hW1]; simp
        rw [← hz, hW2]; exact blk_new _ _
      obtain ⟨s0, s1, s2, s3, s4, s5, s6, s7⟩ := box8 hbx
      obtain ⟨t0, t1, t2, t3, t4, t5, t6, t7⟩ := box8 hby
      have HNC := Aside0.mk (nodes_calls W2 B1 B2 n1 n2 x.val y.val (Kd.C_below hB1 hb12) (Kd.C_below hB2 hb12) HVX.out hvv)
      have HB2 := Aside0.mk (below_step HB.out hb12)
      have HW2 := Aside0.mk hW2
      have HW1 := Aside0.mk hW1
      have HLT := Aside0.mk hlt
      have W3 : Aside0 (wrap64 ((i : Int) + 1) = ((i + 1 : Nat) : Int)) := ⟨by have := HX.out; unfold wrap64; omega⟩
      rw [hW1] at y0 y1 y2 y3 y4 y5 y6 y7
      rw [hW2, hW1] at s0 s1 s2 s3 s4 s5 s6 s7 t0 t1 t2 t3 t4 t5 t6 t7
      clear hx hy e0 e1 e2 e3 e4 e5 hvv hB1 hf hB2 hg hp hvl hb1 hb2 hb12 hbx hby hW1 hW2
      go_wp2_with fail
      rw [← HW1.out, ← HW2.out]
      refine HNC.out.mono ?_
      rintro e w5 ⟨rfl, hb5⟩
      have HB5 := Aside0.mk (below_step HB2.out hb5)
      clear hb5 x0 x1 x2 x3 x4 x5 x6 x7 y0 y1 y2 y3 y4 y5 y6 y7 s0 s1 s2 s3 s4 s5 s6 s7 t0 t1 t2 t3 t4 t5 t6 t7
      go_wp2_with fail
      rw [W3.out]
      go_roundw
      case measure => have := HLT.out; simp only [left, Int.toNat_natCast]; omega
      case rel => exact ⟨i + 1, rfl, ⟨HLT.out⟩, HB5⟩
    · have d1 : decide ((i : Int) < (xs.length : Int)) = false := decide_eq_false (by omega)
      have d2 : decide (i < xs.length) = false := decide_eq_false hlt
      go_wp2_with fail
      go_ret
      exact ⟨rfl, HB.out⟩
def LenT (es : List EvD) : Prop := es.length ≤ 4611686018427387904 ∧ ∀ e, e ∈ es → e.vers.length ≤ 4611686018427387904 ∧ ∀ v, v ∈ e.vers → v.steps.length ≤ 4611686018427387904 ∧ ∀ d, d ∈ v.steps → d.val.length ≤ 4611686018427387904
set_option maxHeartbeats 16000000 in
set_option maxRecDepth 100000 in
theorem trees_calls (w : World) (A1 A2 : Option Addr) (c1 c2 : Nat) (xs ys : List EvD) (h1 : Kd.C kE w A1 xs.length xs) (h2 : Kd.C kE w A2 ys.length ys) (hx : LenT xs) (hs : sL sE xs ys) :
    Calls Tryd.prog 13 #[.agg #[.slice A1 xs.length c1], .agg #[.slice A2 ys.length c2]] w fun e w' => e = .returned (.bool true) ∧ Below w.heap.size w w' := by
  have hlen := hs.len
  rw [← hlen]
  obtain ⟨g, hg⟩ : ∃ g, g = w.heap.size := ⟨_, rfl⟩
  obtain ⟨wA, hwA⟩ : ∃ wA, wA = (w.alloc (.cells #[.slice A1 xs.length c1] 24)).alloc (.cells #[.slice A2 xs.length c2] 24) := ⟨_, rfl⟩
  have hb0 : Below w.heap.size w wA := by rw [hwA]; exact below_step (below_alloc (Below.refl _ _) _) (below_alloc (Below.refl _ _) _)
  have HG0 := Aside0.mk (show wA.heap[g]? = some (.cells #[.slice A1 xs.length c1] 24 (0, 0)) by rw [hwA, hg]; exact blk_alloc (blk_new _ _) _)
  have HG1 := Aside0.mk (show wA.heap[g + 1]? = some (.cells #[.slice A2 xs.length c2] 24 (0, 0)) by
    have hz : (w.alloc (.cells #[.slice A1 xs.length c1] 24)).heap.size = g + 1 := by rw [hg]; simp
    rw [← hz, hwA]; exact blk_new _ _)
  have HB0 := Aside0.mk hb0
  have H1 := Aside0.mk h1
  have H2 := Aside0.mk h2
  have HX := Aside0.mk hx
  have HS := Aside0.mk hs
  have HLE := Aside0.mk hlen
  have HWA := Aside0.mk hwA
  have q0 := (blk_cell HG0.out 0).trans rfl
  have q1 := (blk_cell HG1.out 0).trans rfl
  have p0 : ((w.alloc (.cells #[.slice A1 xs.length c1] 24)).alloc (.cells #[.slice A2 xs.length c2] 24)).cell? ⟨w.heap.size, 0, none⟩ = some (.slice A1 xs.length c1) := by rw [← hwA, ← hg]; exact q0
  have p1 : ((w.alloc (.cells #[.slice A1 xs.length c1] 24)).alloc (.cells #[.slice A2 xs.length c2] 24)).cell? ⟨w.heap.size + 1, 0, none⟩ = some (.slice A2 xs.length c2) := by rw [← hwA, ← hg]; exact q1
  clear h1 h2 hx hs hlen hwA hb0
  go_enter Tryd.func13, Tryd.ntmps13
  go_wp2_with fail
  rw [← HWA.out, ← hg]
  clear p0 p1 q0 q1 hg
  go_loopw [5] (fun ti wr => ∃ i : Nat, ti = .int .i64 (i : Int) ∧ Aside0 (i ≤ xs.length) ∧ Aside0 (Below wA.heap.size wA wr)) (fun ti _ => xs.length - left ti)
  case atStart => exact ⟨0, rfl, ⟨Nat.zero_le _⟩, ⟨Below.refl _ _⟩⟩
  case round =>
    obtain ⟨i, rfl, hi, HB⟩ := hrel
    rename World => wa
    have q0 := (blk_cell (blk_below HG0.out HB.out) 0).trans rfl
    have q1 : ∀ w', Below wa.heap.size wa w' → w'.cell? ⟨g + 1, 0, none⟩ = some (.slice A2 xs.length c2) := fun w' hb => (blk_cell (blk_below (blk_below HG1.out HB.out) hb) 0).trans rfl
    have HBw := Aside0.mk (below_step HB0.out HB.out)
    by_cases hlt : i < xs.length
    · have d1 : decide ((i : Int) < (xs.length : Int)) = true := decide_eq_true (by omega)
      have d2 : decide (i < xs.length) = true := decide_eq_true hlt
      have hlt2 : i < ys.length := by rw [← HLE.out]; exact hlt
      obtain ⟨x, y, hx, hy, e0, hvv⟩ := HS.out.at i hlt
      obtain ⟨ad1, B1, n1, hA1, hB1, hf⟩ := at_E' (Kd.C_below H1.out HBw.out) i hlt
      obtain ⟨ad2, B2, n2, hA2, hB2, hg⟩ := at_E' (Kd.C_below H2.out HBw.out) i hlt2
      subst hA1 hA2
      rw [get_of hx hlt] at hB1 hf
      rw [get_of hy hlt2] at hB2 hg
      have HVX := Aside0.mk (HX.out.2 x (List.mem_of_getElem? hx))
      obtain ⟨x0, x1, x2⟩ := hf wa (Below.refl _ _)
      rw [e0] at x0
      obtain ⟨p, hp⟩ : ∃ p, p = x.pl := ⟨_, rfl⟩
      rw [← hp] at x2
      have hvl := hvv.len
      obtain ⟨b5, hb5⟩ : ∃ b, b = wa.heap.size := ⟨_, rfl⟩
      obtain ⟨W1, hW1⟩ : ∃ W1, W1 = wa.alloc (.cells #[.string y.name, .slice B1 x.vers.length n1, .int .i64 p] 50) := ⟨_, rfl⟩
      have hb1 : Below wa.heap.size wa W1 := by rw [hW1]; exact below_alloc (Below.refl _ _) _
      obtain ⟨y0, y1, y2⟩ := hg W1 hb1
      rw [← hvl] at y1 hB2
      have qq := q1 W1 hb1
      obtain ⟨W2, hW2⟩ : ∃ W2, W2 = W1.alloc (.cells #[.string y.name, .slice B2 x.vers.length n2, .int .i64 y.pl] 50) := ⟨_, rfl⟩
      have hb2 : Below W1.heap.size W1 W2 := by rw [hW2]; exact below_alloc (Below.refl _ _) _
      have hb12 := below_step hb1 hb2
      have HXB := Aside0.mk (show W2.heap[b5]? = some (.cells #[.string y.name, .slice B1 x.vers.length n1, .int .i64 p] 50 (0, 0)) from blk_below (by rw [hW1, hb5]; exact blk_new _ _) hb2)
      have HYB := Aside0.mk (show W2.heap[b5 + 1]? = some (.cells #[.string y.name, .slice B2 x.vers.length n2, .int .i64 y.pl] 50 (0, 0)) by
        have hz : W1.heap.size = b5 + 1 := by rw [hW1, hb5]; simp
        rw [← hz, hW2]; exact blk_new _ _)
      have s0 := (blk_cell HXB.out 0).trans rfl
      have s1 := (blk_cell HXB.out 1).trans rfl
      have t0 := (blk_cell HYB.out 0).trans rfl
      have t1 := (blk_cell HYB.out 1).trans rfl
      have HCX := Aside0.mk (Kd.C_below hB1 hb12)
      have HCY := Aside0.mk (show Kd.C kV W2 B2 y.vers.length y.vers by rw [← hvl]; exact Kd.C_below hB2 hb12)
      have HVV := Aside0.mk hvv
      have HBW := Aside0.mk (below_step HB.out hb12)
      have HW2 := Aside0.mk hW2
      have HW1 := Aside0.mk hW1
      have HLT := Aside0.mk hlt
      have W3 : Aside0 (wrap64 ((i : Int) + 1) = ((i + 1 : Nat) : Int)) := ⟨by have := HX.out.1; unfold wrap64; omega⟩
      rw [hW1] at y0 y1 y2 qq
      rw [hb5] at s0 s1 t0 t1
      rw [hW2, hW1] at s0 s1 t0 t1
      clear hx hy e0 hvv hB1 hf hB2 hg hp hvl hb1 hb2 hb12 hW1 hW2 q1
      go_wp2_with fail
      rw [← HW1.out, ← HW2.out, ← hb5]
      clear x0 x1 x2 y0 y1 y2 s0 s1 t0 t1 q0 qq hb5
      obtain ⟨nm, hnm⟩ : ∃ nm, nm = y.name := ⟨_, rfl⟩
      obtain ⟨yp, hyp⟩ : ∃ yp, yp = y.pl := ⟨_, rfl⟩
      rw [← hnm] at HXB HYB
      rw [← hyp] at HYB
      clear hnm hyp
      go_loopw [8] (fun tk wr => ∃ k : Nat, tk = .int .i64 (k : Int) ∧ Aside0 (k ≤ x.vers.length) ∧ Aside0 (Below W2.heap.size W2 wr)) (fun tk _ => x.vers.length - left tk)
      case atStart => exact ⟨0, rfl, ⟨Nat.zero_le _⟩, ⟨Below.refl _ _⟩⟩
      case round =>
        obtain ⟨k, rfl, hk, HBk⟩ := hrel
        rename World => wb
        have s1 := (blk_cell (blk_below HXB.out HBk.out) 1).trans rfl
        by_cases ckt : k < x.vers.length
        · have f1 : decide ((k : Int) < (x.vers.length : Int)) = true := decide_eq_true (by omega)
          have f2 : decide (k < x.vers.length) = true := decide_eq_true ckt
          have ckt2 : k < y.vers.length := by rw [← HVV.out.len]; exact ckt
          obtain ⟨xv, yv, hxv, hyv, e0, hst⟩ := HVV.out.at k ckt
          obtain ⟨ad3, D1, m1, hA3, hD1, hfv⟩ := at_V' (Kd.C_below HCX.out HBk.out) k ckt
          obtain ⟨ad4, D2, m2, hA4, hD2, hgv⟩ := at_V' (Kd.C_below HCY.out HBk.out) k ckt2
          subst hA3 hA4
          rw [get_of hxv ckt] at hD1 hfv
          rw [get_of hyv ckt2] at hD2 hgv
          have HVS := Aside0.mk (HVX.out.2 xv (List.mem_of_getElem? hxv))
          have hsl := hst.len
          have HSC := Aside0.mk (fun w' (hb : Below wb.heap.size wb w') => steps_calls w' D1 D2 m1 m2 xv.steps yv.steps (Kd.C_below hD1 hb) (Kd.C_below hD2 hb) HVS.out.1 HVS.out.2 hst)
          have HCK := Aside0.mk ckt
          have W4 : Aside0 (wrap64 ((k : Int) + 1) = ((k + 1 : Nat) : Int)) := ⟨by have := HVX.out.1; have := HCK.out; unfold wrap64; omega⟩
          have HF := Aside0.mk (fun w' (hb : Below wb.heap.size wb w') => (show w'.cell? ⟨b5, 1, none⟩ = some (.slice (some ad3) x.vers.length n1) ∧ w'.cell? ⟨b5 + 1, 1, none⟩ = some (.slice (some ad4) x.vers.length n2) ∧ w'.cell? (ad3.add (k * 3)) = some (.int .u64 yv.num) ∧ w'.cell? ⟨(ad3.add (k * 3)).block, (ad3.add (k * 3)).off + 1, none⟩ = some (.slice D1 xv.steps.length m1) ∧ w'.cell? (ad4.add (k * 3)) = some (.int .u64 yv.num) ∧ w'.cell? ⟨(ad4.add (k * 3)).block, (ad4.add (k * 3)).off + 1, none⟩ = some (.slice D2 yv.steps.length m2) from ⟨(blk_cell (blk_below (blk_below HXB.out HBk.out) hb) 1).trans rfl, (blk_cell (blk_below (blk_below HYB.out HBk.out) hb) 1).trans rfl, by rw [← e0]; exact (hfv w' hb).1, (hfv w' hb).2.1, (hgv w' hb).1, (hgv w' hb).2.1⟩))
          obtain ⟨nv, hnv⟩ : ∃ nv, nv = yv.num := ⟨_, rfl⟩
          rw [← hnv] at HF
          clear hxv hyv e0 hst hD1 hD2 hfv hgv hsl hnv
          go_wp2_with fail
          clear s1
          refine start_ (n := 29) (S := (fun w' : World => w'.cell? ⟨b5, 1, none⟩ = some (.slice (some ad3) x.vers.length n1) ∧ w'.cell? ⟨b5 + 1, 1, none⟩ = some (.slice (some ad4) x.vers.length n2) ∧ w'.cell? (ad3.add (k * 3)) = some (.int .u64 nv) ∧ w'.cell? ⟨(ad3.add (k * 3)).block, (ad3.add (k * 3)).off + 1, none⟩ = some (.slice D1 xv.steps.length m1) ∧ w'.cell? (ad4.add (k * 3)) = some (.int .u64 nv) ∧ w'.cell? ⟨(ad4.add (k * 3)).block, (ad4.add (k * 3)).off + 1, none⟩ = some (.slice D2 yv.steps.length m2))) (ds := []) #[false, false, false, false, false, false, false, false, false, false, false, false, false, false, false, false, false, false, false, false, false, false, false, false, false, false, false, false, false] (by kernel_rfl) rfl rfl (HF.out wb.drew (below_drew1 (Below.refl _ _))) (fun hHeld => ?_)
          refine pure_ (i := 0) (N := some 54) (v := ?_) (a' := ?_) #[true, false, false, false, false, false, false, false, false, false, false, false, false, false, false, false, false, false, false, false, false, false, false, false, false, false, false, false, false] rfl rfl (by kernel_rfl) (fun _ _ _ h => h) (Or.inl ⟨by rfl, ?_⟩) ?_ ?_
          rotate_left
          · intro w'
            go_simp
            with_reducible rfl
          rotate_left
          · simp only [Act.put, List.setIfInBounds_toArray, List.set_cons_zero, List.set_cons_succ, i64_w, i32_w]
            rfl
          refine take_ (i := 1) (N := some 55) (v := ?_) (a' := ?_) #[true, true, false, false, false, false, false, false, false, false, false, false, false, false, false, false, false, false, false, false, false, false, false, false, false, false, false, false, false] rfl rfl (by kernel_rfl) (fun _ _ _ h => h) (Or.inl ⟨by rfl, ?_⟩) hHeld ?_ ?_
          rotate_left
          · intro w' hS'
            obtain ⟨s0, s1, s2, s3, s4, s5⟩ : w'.cell? ⟨b5, 1, none⟩ = some (.slice (some ad3) x.vers.length n1) ∧ w'.cell? ⟨b5 + 1, 1, none⟩ = some (.slice (some ad4) x.vers.length n2) ∧ w'.cell? (ad3.add (k * 3)) = some (.int .u64 nv) ∧ w'.cell? ⟨(ad3.add (k * 3)).block, (ad3.add (k * 3)).off + 1, none⟩ = some (.slice D1 xv.steps.length m1) ∧ w'.cell? (ad4.add (k * 3)) = some (.int .u64 nv) ∧ w'.cell? ⟨(ad4.add (k * 3)).block, (ad4.add (k * 3)).off + 1, none⟩ = some (.slice D2 yv.steps.length m2) := hS'
            go_simp
            with_reducible rfl
          rotate_left
          · simp only [Act.put, List.setIfInBounds_toArray, List.set_cons_zero, List.set_cons_succ, i64_w, i32_w]
            rfl
          refine pure_ (i := 2) (N := some 56) (v := ?_) (a' := ?_) #[true, true, true, false, false, false, false, false, false, false, false, false, false, false, false, false, false, false, false, false, false, false, false, false, false, false, false, false, false] rfl rfl (by kernel_rfl) (fun _ _ _ h => h) (Or.inl ⟨by rfl, ?_⟩) ?_ ?_
          rotate_left
          · intro w'
            go_simp
            with_reducible rfl
          rotate_left
          · simp only [Act.put, List.setIfInBounds_toArray, List.set_cons_zero, List.set_cons_succ, i64_w, i32_w]
            rfl
          refine pure_ (i := 3) (N := some 57) (v := ?_) (a' := ?_) #[true, true, true, true, false, false, false, false, false, false, false, false, false, false, false, false, false, false, false, false, false, false, false, false, false, false, false, false, false] rfl rfl (by kernel_rfl) (fun _ _ _ h => h) (Or.inl ⟨by rfl, ?_⟩) ?_ ?_
          rotate_left
          · intro w'
            go_simp
            with_reducible rfl
          rotate_left
          · simp only [Act.put, List.setIfInBounds_toArray, List.set_cons_zero, List.set_cons_succ, i64_w, i32_w]
            rfl
          refine pure_ (i := 4) (N := some 58) (v := ?_) (a' := ?_) #[true, true, true, true, true, false, false, false, false, false, false, false, false, false, false, false, false, false, false, false, false, false, false, false, false, false, false, false, false] rfl rfl (by kernel_rfl) (fun _ _ _ h => h) (Or.inl ⟨by rfl, ?_⟩) ?_ ?_
          rotate_left
          · intro w'
            go_simp
            with_reducible rfl
          rotate_left
          · simp only [Act.put, List.setIfInBounds_toArray, List.set_cons_zero, List.set_cons_succ, i64_w, i32_w]
            rfl
          refine take_ (i := 5) (N := some 59) (v := ?_) (a' := ?_) #[true, true, true, true, true, true, false, false, false, false, false, false, false, false, false, false, false, false, false, false, false, false, false, false, false, false, false, false, false] rfl rfl (by kernel_rfl) (fun _ _ _ h => h) (Or.inl ⟨by rfl, ?_⟩) hHeld ?_ ?_
          rotate_left
          · intro w' hS'
            obtain ⟨s0, s1, s2, s3, s4, s5⟩ : w'.cell? ⟨b5, 1, none⟩ = some (.slice (some ad3) x.vers.length n1) ∧ w'.cell? ⟨b5 + 1, 1, none⟩ = some (.slice (some ad4) x.vers.length n2) ∧ w'.cell? (ad3.add (k * 3)) = some (.int .u64 nv) ∧ w'.cell? ⟨(ad3.add (k * 3)).block, (ad3.add (k * 3)).off + 1, none⟩ = some (.slice D1 xv.steps.length m1) ∧ w'.cell? (ad4.add (k * 3)) = some (.int .u64 nv) ∧ w'.cell? ⟨(ad4.add (k * 3)).block, (ad4.add (k * 3)).off + 1, none⟩ = some (.slice D2 yv.steps.length m2) := hS'
            go_simp
            with_reducible rfl
          rotate_left
          · simp only [Act.put, List.setIfInBounds_toArray, List.set_cons_zero, List.set_cons_succ, i64_w, i32_w]
            rfl
          refine pure_ (i := 6) (N := some 60) (v := ?_) (a' := ?_) #[true, true, true, true, true, true, true, false, false, false, false, false, false, false, false, false, false, false, false, false, false, false, false, false, false, false, false, false, false] rfl rfl (by kernel_rfl) (fun _ _ _ h => h) (Or.inl ⟨by rfl, ?_⟩) ?_ ?_
          rotate_left
          · intro w'
            go_simp
            with_reducible rfl
          rotate_left
          · simp only [Act.put, List.setIfInBounds_toArray, List.set_cons_zero, List.set_cons_succ, i64_w, i32_w]
            rfl
          refine take_ (i := 7) (N := some 61) (v := ?_) (a' := ?_) #[true, true, true, true, true, true, true, true, false, false, false, false, false, false, false, false, false, false, false, false, false, false, false, false, false, false, false, false, false] rfl rfl (by kernel_rfl) (fun _ _ _ h => h) (Or.inl ⟨by rfl, ?_⟩) hHeld ?_ ?_
          rotate_left
          · intro w' hS'
            obtain ⟨s0, s1, s2, s3, s4, s5⟩ : w'.cell? ⟨b5, 1, none⟩ = some (.slice (some ad3) x.vers.length n1) ∧ w'.cell? ⟨b5 + 1, 1, none⟩ = some (.slice (some ad4) x.vers.length n2) ∧ w'.cell? (ad3.add (k * 3)) = some (.int .u64 nv) ∧ w'.cell? ⟨(ad3.add (k * 3)).block, (ad3.add (k * 3)).off + 1, none⟩ = some (.slice D1 xv.steps.length m1) ∧ w'.cell? (ad4.add (k * 3)) = some (.int .u64 nv) ∧ w'.cell? ⟨(ad4.add (k * 3)).block, (ad4.add (k * 3)).off + 1, none⟩ = some (.slice D2 yv.steps.length m2) := hS'
            go_simp
            with_reducible rfl
          rotate_left
          · simp only [Act.put, List.setIfInBounds_toArray, List.set_cons_zero, List.set_cons_succ, i64_w, i32_w]
            rfl
          refine pure_ (i := 8) (N := some 62) (v := ?_) (a' := ?_) #[true, true, true, true, true, true, true, true, true, false, false, false, false, false, false, false, false, false, false, false, false, false, false, false, false, false, false, false, false] rfl rfl (by kernel_rfl) (fun _ _ _ h => h) (Or.inl ⟨by rfl, ?_⟩) ?_ ?_
          rotate_left
          · intro w'
            go_simp
            with_reducible rfl
          rotate_left
          · simp only [Act.put, List.setIfInBounds_toArray, List.set_cons_zero, List.set_cons_succ, i64_w, i32_w]
            rfl
          refine pure_ (i := 9) (N := some 63) (v := ?_) (a' := ?_) #[true, true, true, true, true, true, true, true, true, true, false, false, false, false, false, false, false, false, false, false, false, false, false, false, false, false, false, false, false] rfl rfl (by kernel_rfl) (fun _ _ _ h => h) (Or.inl ⟨by rfl, ?_⟩) ?_ ?_
          rotate_left
          · intro w'
            go_simp
            with_reducible rfl
          rotate_left
          · simp only [Act.put, List.setIfInBounds_toArray, List.set_cons_zero, List.set_cons_succ, i64_w, i32_w]
            rfl
          refine pure_ (i := 10) (N := some 64) (v := ?_) (a' := ?_) #[true, true, true, true, true, true, true, true, true, true, true, false, false, false, false, false, false, false, false, false, false, false, false, false, false, false, false, false, false] rfl rfl (by kernel_rfl) (fun _ _ _ h => h) (Or.inl ⟨by rfl, ?_⟩) ?_ ?_
          rotate_left
          · intro w'
            go_simp
            with_reducible rfl
          rotate_left
          · simp only [Act.put, List.setIfInBounds_toArray, List.set_cons_zero, List.set_cons_succ, i64_w, i32_w]
            rfl
          refine take_ (i := 11) (N := some 65) (v := ?_) (a' := ?_) #[true, true, true, true, true, true, true, true, true, true, true, true, false, false, false, false, false, false, false, false, false, false, false, false, false, false, false, false, false] rfl rfl (by kernel_rfl) (fun _ _ _ h => h) (Or.inl ⟨by rfl, ?_⟩) hHeld ?_ ?_
          rotate_left
          · intro w' hS'
            obtain ⟨s0, s1, s2, s3, s4, s5⟩ : w'.cell? ⟨b5, 1, none⟩ = some (.slice (some ad3) x.vers.length n1) ∧ w'.cell? ⟨b5 + 1, 1, none⟩ = some (.slice (some ad4) x.vers.length n2) ∧ w'.cell? (ad3.add (k * 3)) = some (.int .u64 nv) ∧ w'.cell? ⟨(ad3.add (k * 3)).block, (ad3.add (k * 3)).off + 1, none⟩ = some (.slice D1 xv.steps.length m1) ∧ w'.cell? (ad4.add (k * 3)) = some (.int .u64 nv) ∧ w'.cell? ⟨(ad4.add (k * 3)).block, (ad4.add (k * 3)).off + 1, none⟩ = some (.slice D2 yv.steps.length m2) := hS'
            go_simp
            with_reducible rfl
          rotate_left
          · simp only [Act.put, List.setIfInBounds_toArray, List.set_cons_zero, List.set_cons_succ, i64_w, i32_w]
            rfl
          refine pure_ (i := 12) (N := some 66) (v := ?_) (a' := ?_) #[true, true, true, true, true, true, true, true, true, true, true, true, true, false, false, false, false, false, false, false, false, false, false, false, false, false, false, false, false] rfl rfl (by kernel_rfl) (fun _ _ _ h => h) (Or.inl ⟨by rfl, ?_⟩) ?_ ?_
          rotate_left
          · intro w'
            go_simp
            with_reducible rfl
          rotate_left
          · simp only [Act.put, List.setIfInBounds_toArray, List.set_cons_zero, List.set_cons_succ, i64_w, i32_w]
            rfl
          refine pure_ (i := 13) (N := some 67) (v := ?_) (a' := ?_) #[true, true, true, true, true, true, true, true, true, true, true, true, true, true, false, false, false, false, false, false, false, false, false, false, false, false, false, false, false] rfl rfl (by kernel_rfl) (fun _ _ _ h => h) (Or.inl ⟨by rfl, ?_⟩) ?_ ?_
          rotate_left
          · intro w'
            go_simp
            with_reducible rfl
          rotate_left
          · simp only [Act.put, List.setIfInBounds_toArray, List.set_cons_zero, List.set_cons_succ, i64_w, i32_w]
            rfl
          refine pure_ (i := 14) (N := some 68) (v := ?_) (a' := ?_) #[true, true, true, true, true, true, true, true, true, true, true, true, true, true, true, false, false, false, false, false, false, false, false, false, false, false, false, false, false] rfl rfl (by kernel_rfl) (fun _ _ _ h => h) (Or.inl ⟨by rfl, ?_⟩) ?_ ?_
          rotate_left
          · intro w'
            go_simp
            with_reducible rfl
          rotate_left
          · simp only [Act.put, List.setIfInBounds_toArray, List.set_cons_zero, List.set_cons_succ, i64_w, i32_w]
            rfl
          refine take_ (i := 15) (N := some 69) (v := ?_) (a' := ?_) #[true, true, true, true, true, true, true, true, true, true, true, true, true, true, true, true, false, false, false, false, false, false, false, false, false, false, false, false, false] rfl rfl (by kernel_rfl) (fun _ _ _ h => h) (Or.inl ⟨by rfl, ?_⟩) hHeld ?_ ?_
          rotate_left
          · intro w' hS'
            obtain ⟨s0, s1, s2, s3, s4, s5⟩ : w'.cell? ⟨b5, 1, none⟩ = some (.slice (some ad3) x.vers.length n1) ∧ w'.cell? ⟨b5 + 1, 1, none⟩ = some (.slice (some ad4) x.vers.length n2) ∧ w'.cell? (ad3.add (k * 3)) = some (.int .u64 nv) ∧ w'.cell? ⟨(ad3.add (k * 3)).block, (ad3.add (k * 3)).off + 1, none⟩ = some (.slice D1 xv.steps.length m1) ∧ w'.cell? (ad4.add (k * 3)) = some (.int .u64 nv) ∧ w'.cell? ⟨(ad4.add (k * 3)).block, (ad4.add (k * 3)).off + 1, none⟩ = some (.slice D2 yv.steps.length m2) := hS'
            go_simp
            with_reducible rfl
          rotate_left
          · simp only [Act.put, List.setIfInBounds_toArray, List.set_cons_zero, List.set_cons_succ, i64_w, i32_w]
            rfl
          refine pure_ (i := 16) (N := some 70) (v := ?_) (a' := ?_) #[true, true, true, true, true, true, true, true, true, true, true, true, true, true, true, true, true, false, false, false, false, false, false, false, false, false, false, false, false] rfl rfl (by kernel_rfl) (fun _ _ _ h => h) (Or.inl ⟨by rfl, ?_⟩) ?_ ?_
          rotate_left
          · intro w'
            go_simp
            with_reducible rfl
          rotate_left
          · simp only [Act.put, List.setIfInBounds_toArray, List.set_cons_zero, List.set_cons_succ, i64_w, i32_w]
            rfl
          refine pure_ (i := 17) (N := some 71) (v := ?_) (a' := ?_) #[true, true, true, true, true, true, true, true, true, true, true, true, true, true, true, true, true, true, false, false, false, false, false, false, false, false, false, false, false] rfl rfl (by kernel_rfl) (fun _ _ _ h => h) (Or.inl ⟨by rfl, ?_⟩) ?_ ?_
          rotate_left
          · intro w'
            go_simp
            with_reducible rfl
          rotate_left
          · simp only [Act.put, List.setIfInBounds_toArray, List.set_cons_zero, List.set_cons_succ, i64_w, i32_w]
            rfl
          refine pure_ (i := 18) (N := some 72) (v := ?_) (a' := ?_) #[true, true, true, true, true, true, true, true, true, true, true, true, true, true, true, true, true, true, true, false, false, false, false, false, false, false, false, false, false] rfl rfl (by kernel_rfl) (fun _ _ _ h => h) (Or.inl ⟨by rfl, ?_⟩) ?_ ?_
          rotate_left
          · intro w'
            go_simp
            with_reducible rfl
          rotate_left
          · simp only [Act.put, List.setIfInBounds_toArray, List.set_cons_zero, List.set_cons_succ, i64_w, i32_w]
            rfl
          refine take_ (i := 19) (N := some 73) (v := ?_) (a' := ?_) #[true, true, true, true, true, true, true, true, true, true, true, true, true, true, true, true, true, true, true, true, false, false, false, false, false, false, false, false, false] rfl rfl (by kernel_rfl) (fun _ _ _ h => h) (Or.inl ⟨by rfl, ?_⟩) hHeld ?_ ?_
          rotate_left
          · intro w' hS'
            obtain ⟨s0, s1, s2, s3, s4, s5⟩ : w'.cell? ⟨b5, 1, none⟩ = some (.slice (some ad3) x.vers.length n1) ∧ w'.cell? ⟨b5 + 1, 1, none⟩ = some (.slice (some ad4) x.vers.length n2) ∧ w'.cell? (ad3.add (k * 3)) = some (.int .u64 nv) ∧ w'.cell? ⟨(ad3.add (k * 3)).block, (ad3.add (k * 3)).off + 1, none⟩ = some (.slice D1 xv.steps.length m1) ∧ w'.cell? (ad4.add (k * 3)) = some (.int .u64 nv) ∧ w'.cell? ⟨(ad4.add (k * 3)).block, (ad4.add (k * 3)).off + 1, none⟩ = some (.slice D2 yv.steps.length m2) := hS'
            go_simp
            with_reducible rfl
          rotate_left
          · simp only [Act.put, List.setIfInBounds_toArray, List.set_cons_zero, List.set_cons_succ, i64_w, i32_w]
            rfl
          refine pure_ (i := 20) (N := some 74) (v := ?_) (a' := ?_) #[true, true, true, true, true, true, true, true, true, true, true, true, true, true, true, true, true, true, true, true, true, false, false, false, false, false, false, false, false] rfl rfl (by kernel_rfl) (fun _ _ _ h => h) (Or.inl ⟨by rfl, ?_⟩) ?_ ?_
          rotate_left
          · intro w'
            go_simp
            with_reducible rfl
          rotate_left
          · simp only [Act.put, List.setIfInBounds_toArray, List.set_cons_zero, List.set_cons_succ, i64_w, i32_w]
            rfl
          refine take_ (i := 21) (N := some 75) (v := ?_) (a' := ?_) #[true, true, true, true, true, true, true, true, true, true, true, true, true, true, true, true, true, true, true, true, true, true, false, false, false, false, false, false, false] rfl rfl (by kernel_rfl) (fun _ _ _ h => h) (Or.inl ⟨by rfl, ?_⟩) hHeld ?_ ?_
          rotate_left
          · intro w' hS'
            obtain ⟨s0, s1, s2, s3, s4, s5⟩ : w'.cell? ⟨b5, 1, none⟩ = some (.slice (some ad3) x.vers.length n1) ∧ w'.cell? ⟨b5 + 1, 1, none⟩ = some (.slice (some ad4) x.vers.length n2) ∧ w'.cell? (ad3.add (k * 3)) = some (.int .u64 nv) ∧ w'.cell? ⟨(ad3.add (k * 3)).block, (ad3.add (k * 3)).off + 1, none⟩ = some (.slice D1 xv.steps.length m1) ∧ w'.cell? (ad4.add (k * 3)) = some (.int .u64 nv) ∧ w'.cell? ⟨(ad4.add (k * 3)).block, (ad4.add (k * 3)).off + 1, none⟩ = some (.slice D2 yv.steps.length m2) := hS'
            go_simp
            with_reducible rfl
          rotate_left
          · simp only [Act.put, List.setIfInBounds_toArray, List.set_cons_zero, List.set_cons_succ, i64_w, i32_w]
            rfl
          refine pure_ (i := 22) (N := some 76) (v := ?_) (a' := ?_) #[true, true, true, true, true, true, true, true, true, true, true, true, true, true, true, true, true, true, true, true, true, true, true, false, false, false, false, false, false] rfl rfl (by kernel_rfl) (fun _ _ _ h => h) (Or.inl ⟨by rfl, ?_⟩) ?_ ?_
          rotate_left
          · intro w'
            go_simp
            with_reducible rfl
          rotate_left
          · simp only [Act.put, List.setIfInBounds_toArray, List.set_cons_zero, List.set_cons_succ, i64_w, i32_w]
            rfl
          refine pure_ (i := 23) (N := some 77) (v := ?_) (a' := ?_) #[true, true, true, true, true, true, true, true, true, true, true, true, true, true, true, true, true, true, true, true, true, true, true, true, false, false, false, false, false] rfl rfl (by kernel_rfl) (fun _ _ _ h => h) (Or.inl ⟨by rfl, ?_⟩) ?_ ?_
          rotate_left
          · intro w'
            go_simp
            with_reducible rfl
          rotate_left
          · simp only [Act.put, List.setIfInBounds_toArray, List.set_cons_zero, List.set_cons_succ, i64_w, i32_w]
            rfl
          refine pure_ (i := 24) (N := some 78) (v := ?_) (a' := ?_) #[true, true, true, true, true, true, true, true, true, true, true, true, true, true, true, true, true, true, true, true, true, true, true, true, true, false, false, false, false] rfl rfl (by kernel_rfl) (fun _ _ _ h => h) (Or.inl ⟨by rfl, ?_⟩) ?_ ?_
          rotate_left
          · intro w'
            go_simp
            with_reducible rfl
          rotate_left
          · simp only [Act.put, List.setIfInBounds_toArray, List.set_cons_zero, List.set_cons_succ, i64_w, i32_w]
            rfl
          refine take_ (i := 25) (N := some 79) (v := ?_) (a' := ?_) #[true, true, true, true, true, true, true, true, true, true, true, true, true, true, true, true, true, true, true, true, true, true, true, true, true, true, false, false, false] rfl rfl (by kernel_rfl) (fun _ _ _ h => h) (Or.inl ⟨by rfl, ?_⟩) hHeld ?_ ?_
          rotate_left
          · intro w' hS'
            obtain ⟨s0, s1, s2, s3, s4, s5⟩ : w'.cell? ⟨b5, 1, none⟩ = some (.slice (some ad3) x.vers.length n1) ∧ w'.cell? ⟨b5 + 1, 1, none⟩ = some (.slice (some ad4) x.vers.length n2) ∧ w'.cell? (ad3.add (k * 3)) = some (.int .u64 nv) ∧ w'.cell? ⟨(ad3.add (k * 3)).block, (ad3.add (k * 3)).off + 1, none⟩ = some (.slice D1 xv.steps.length m1) ∧ w'.cell? (ad4.add (k * 3)) = some (.int .u64 nv) ∧ w'.cell? ⟨(ad4.add (k * 3)).block, (ad4.add (k * 3)).off + 1, none⟩ = some (.slice D2 yv.steps.length m2) := hS'
            go_simp
            with_reducible rfl
          rotate_left
          · simp only [Act.put, List.setIfInBounds_toArray, List.set_cons_zero, List.set_cons_succ, i64_w, i32_w]
            rfl
          refine one_ (i := 26) (N := some 80) #[true, true, true, true, true, true, true, true, true, true, true, true, true, true, true, true, true, true, true, true, true, true, true, true, true, true, true, false, false] rfl rfl (by kernel_rfl) (by decide) (fun K hK => ?_)
          refine goes_ Tryd.func31 (by kernel_rfl) rfl #[.slice D1 xv.steps.length m1, .slice D2 yv.steps.length m2] (by rfl) rfl rfl (by (try simp only [List.map_toArray, List.map_cons, List.map_nil]); first | done | rfl) ?_
          refine (HSC.out wb.drew (below_drew1 (Below.refl _ _))).mono ?_
          rintro e wq ⟨rfl, hbq⟩
          have hbd : Below wb.heap.size wb wq := below_step (below_drew1 (Below.refl _ _)) hbq
          have HBQ := Aside0.mk (below_step HBk.out hbd)
          have SQ := HF.out wq hbd
          clear hbq hbd
          refine ⟨_, rfl, ?_⟩
          refine hK.out _ _ SQ (fun hHeld => ?_)
          clear hK K
          refine pure_ (i := 27) (N := some 81) (v := ?_) (a' := ?_) #[true, true, true, true, true, true, true, true, true, true, true, true, true, true, true, true, true, true, true, true, true, true, true, true, true, true, true, true, false] rfl rfl (by kernel_rfl) (fun _ _ _ h => h) (Or.inl ⟨by rfl, ?_⟩) ?_ ?_
          rotate_left
          · intro w'
            go_simp
            with_reducible rfl
          rotate_left
          · simp only [Act.put, List.setIfInBounds_toArray, List.set_cons_zero, List.set_cons_succ, i64_w, i32_w]
            rfl
          refine pure_ (i := 28) (N := some 82) (v := ?_) (a' := ?_) #[true, true, true, true, true, true, true, true, true, true, true, true, true, true, true, true, true, true, true, true, true, true, true, true, true, true, true, true, true] rfl rfl (by kernel_rfl) (fun _ _ _ h => h) (Or.inl ⟨by rfl, ?_⟩) ?_ ?_
          rotate_left
          · intro w'
            go_simp
            with_reducible rfl
          rotate_left
          · simp only [Act.put, List.setIfInBounds_toArray, List.set_cons_zero, List.set_cons_succ, i64_w, i32_w]
            rfl
          refine done_ (by kernel_rfl) ?_
          go_wp2_with fail
          rw [W4.out]
          go_roundw
          case measure => have := HCK.out; simp only [left, Int.toNat_natCast]; omega
          case rel => exact ⟨k + 1, rfl, ⟨HCK.out⟩, HBQ⟩
        · have f1 : decide ((k : Int) < (x.vers.length : Int)) = false := decide_eq_false (by omega)
          have f2 : decide (k < x.vers.length) = false := decide_eq_false ckt
          go_wp2_with fail
          rw [W3.out]
          go_roundw
          case measure => have := HLT.out; simp only [left, Int.toNat_natCast]; omega
          case rel => exact ⟨i + 1, rfl, ⟨HLT.out⟩, ⟨below_step HBW.out HBk.out⟩⟩
    · have d1 : decide ((i : Int) < (xs.length : Int)) = false := decide_eq_false (by omega)
      have d2 : decide (i < xs.length) = false := decide_eq_false hlt
      go_wp2_with fail
      go_ret
      exact ⟨rfl, HBw.out⟩
end Go.Proofs.YtaijoghpfobdbaaDoor.W
end
section
set_option linter.unusedVariables false
set_option linter.unusedSimpArgs false
namespace Go.Proofs.YtaijoghpfobdbaaDoor.W
open Go.RowKit Go.Proofs.YtaijoghpfobdbaaDoor.X Go.Proofs.YtaijoghpfobdbaaDoorW.PrintWords Go.Proofs.YtaijoghpfobdbaaDoorW.PrintLast Go.Proofs.YtaijoghpfobdbaaDoorW.PrintMore
section
variable {P : Program} {ops : Array Oper} {rest : List Oper} {o : Oper} {a : Act} {Q : Exit → Act → World → Prop} {α : Type}
end
end Go.Proofs.YtaijoghpfobdbaaDoor.W
end
section
set_option linter.unusedVariables false
set_option linter.unusedSimpArgs false
namespace Go.Proofs.YtaijoghpfobdbaaDoor.W
open Go.RowKit Go.Proofs.YtaijoghpfobdbaaDoor.X Go.Proofs.YtaijoghpfobdbaaDoorW.PrintWords Go.Proofs.YtaijoghpfobdbaaDoorW.PrintLast Go.Proofs.YtaijoghpfobdbaaDoorW.PrintMore
open Go.Proofs.YtaijoghpfobdbaaDoor.P (Nd StD VeD EvD)
def Row {α : Type} (cells : α → List Value) (sz t : Nat) (w : World) (g : Nat) (xs : List α) : Prop :=
  ∃ cur : Array Value, w.heap[g]? = some (.cells cur t (0, 0)) ∧ ∀ (j : Nat) (p : α), xs[j]? = some p → ∀ (i : Nat) (u : Value), (cells p)[i]? = some u → cur[j * sz + i]? = some u
section
variable {α β : Type} {cells : α → List Value} {sz t : Nat} {w w' : World} {g : Nat} {xs : List α}
theorem Row.below (h : Row cells sz t w g xs) (hb : Below w.heap.size w w') : Row cells sz t w' g xs := by
  obtain ⟨cur, h1, h2⟩ := h
  exact ⟨cur, blk_below h1 hb, h2⟩
theorem Row.grown (h : Row cells sz t w g xs) {row : Option Nat} (hg : w.grownBy w' row) {t' : Nat} (ht : t ≠ t') (hr : ∀ k, row = some k → ∃ cs, w.heap[k]? = some (.cells cs t' (0, 0))) : Row cells sz t w' g xs := by
  obtain ⟨cur, h1, h2⟩ := h
  refine ⟨cur, blk_grown h1 hg (fun e => ?_), h2⟩
  obtain ⟨cs, hc⟩ := hr g e.symm
  rw [h1] at hc
  injection hc with hc
  injection hc with _ hc _
  exact ht hc
theorem Row.cell (h : Row cells sz t w g xs) {j : Nat} {p : α} (hj : xs[j]? = some p) {i : Nat} {u : Value} (hi : (cells p)[i]? = some u) : w.cell? ⟨g, j * sz + i, none⟩ = some u := by
  obtain ⟨cur, h1, h2⟩ := h
  rw [blk_cell h1]
  exact h2 j p hj i u hi
theorem Row.C (h : Row cells sz t w g xs) (d : Kd β) (hsz : d.sz = sz) (ys : List β) (hn : ys.length ≤ 9223372036854775807) (hK : ∀ (j : Nat) (y : β), ys[j]? = some y → ∃ x, xs[j]? = some x ∧ d.K w y (cells x)) : Kd.C d w (some ⟨g, 0, none⟩) ys.length ys := by
  refine ⟨rfl, hn, fun _ => ⟨_, rfl, fun j y hy => ?_⟩⟩
  obtain ⟨x, hx, hk⟩ := hK j y hy
  refine ⟨cells x, d.K_len hk, hk, fun i u hu => ?_⟩
  show w.cell? ((⟨g, 0, none⟩ : Addr).add (j * d.sz + i)) = some u
  rw [Lib.add_plain, Nat.zero_add, hsz]
  exact h.cell hx hu
theorem R_row {d : Kd α} {base : Nat} {ok : Nat → Prop} {A : Option Addr} {n c : Nat} (hM : ∀ {w : World} {base : Nat} {ok : Nat → Prop} {x : α} {cs : List Value}, d.M w base ok x cs → cs = cells x) (hsz : d.sz = sz) (h : d.R t w base ok (.slice A n c) xs) (hne : xs ≠ []) :
    ∃ g, A = some ⟨g, 0, none⟩ ∧ n = xs.length ∧ xs.length ≤ c ∧ base ≤ g ∧ Row cells sz t w g xs := by
  obtain ⟨_, inner, hown, hr⟩ := h
  rcases hown.2 with ⟨_, h0⟩ | ⟨g, cap, cur, hv, hb, hg, hnc, hcm, hcs, htake⟩
  · exact absurd (List.length_eq_zero_iff.1 h0) hne
  · injection hv with h1 h2 h3
    subst h1 h2 h3
    refine ⟨g, rfl, rfl, hnc, hb, cur, hg, fun j p hj i u hu => ?_⟩
    have hm := hr.2 j p hj
    have hj2 := (List.getElem?_eq_some_iff.1 hj).1
    rw [hsz] at hm htake
    have he := hM hm
    have hi : i < sz := by
      have h1 := (List.getElem?_eq_some_iff.1 hu).1
      rw [← he] at h1
      have := List.length_take_le sz (inner.drop (j * sz))
      omega
    rw [← he] at hu
    rw [List.getElem?_take, if_pos hi, List.getElem?_drop] at hu
    rw [← htake, List.getElem?_take] at hu
    split at hu
    · rw [Array.getElem?_toList] at hu; exact hu
    · cases hu
end
structure StV where
  k : Int
  a : ByteArray
  b : ByteArray
  c : ByteArray
  sep : ByteArray
  ty : ByteArray
  s : Sl
  pl : Int
structure VeV where
  num : Int
  s : Sl
  pl : Int
structure EvV where
  name : ByteArray
  s : Sl
  pl : Int
def stvCs (x : StV) : List Value := [.int .i64 x.k, .string x.a, .string x.b, .string x.c, .string x.sep, .string x.ty, .slice x.s.A x.s.n x.s.c, .int .i64 x.pl]
def vevCs (x : VeV) : List Value := [.int .u64 x.num, .slice x.s.A x.s.n x.s.c, .int .i64 x.pl]
def evvCs (x : EvV) : List Value := [.string x.name, .slice x.s.A x.s.n x.s.c, .int .i64 x.pl]
def kst : Kd StV := Kd.iso (Kd.pair (Kd.int .i64) (Kd.pair Kd.string (Kd.pair Kd.string (Kd.pair Kd.string (Kd.pair Kd.string (Kd.pair Kd.string (Kd.pair ksl (Kd.int .i64)))))))) (fun x : StV => (x.k, x.a, x.b, x.c, x.sep, x.ty, x.s, x.pl))
def kve : Kd VeV := Kd.iso (Kd.pair (Kd.int .u64) (Kd.pair ksl (Kd.int .i64))) (fun x : VeV => (x.num, x.s, x.pl))
def kev : Kd EvV := Kd.iso (Kd.pair Kd.string (Kd.pair ksl (Kd.int .i64))) (fun x : EvV => (x.name, x.s, x.pl))
section
variable {w : World} {base : Nat} {ok : Nat → Prop} {cs : List Value}
theorem kst_mkM (w : World) (base : Nat) (ok : Nat → Prop) (x : StV) : kst.M w base ok x (stvCs x) := ⟨[_], [_, _, _, _, _, _, _], rfl, rfl, ⟨[_], [_, _, _, _, _, _], rfl, rfl, ⟨[_], [_, _, _, _, _], rfl, rfl, ⟨[_], [_, _, _, _], rfl, rfl, ⟨[_], [_, _, _], rfl, rfl, ⟨[_], [_, _], rfl, rfl, ⟨[_], [_], rfl, rfl, rfl⟩⟩⟩⟩⟩⟩⟩
theorem kst_openM {x : StV} (h : kst.M w base ok x cs) : cs = stvCs x := by
  obtain ⟨_, _, rfl, rfl, ⟨_, _, rfl, rfl, ⟨_, _, rfl, rfl, ⟨_, _, rfl, rfl, ⟨_, _, rfl, rfl, ⟨_, _, rfl, rfl, ⟨_, _, rfl, rfl, rfl⟩⟩⟩⟩⟩⟩⟩ := h
  exact rfl
theorem kve_mkM (w : World) (base : Nat) (ok : Nat → Prop) (x : VeV) : kve.M w base ok x (vevCs x) := ⟨[_], [_, _], rfl, rfl, ⟨[_], [_], rfl, rfl, rfl⟩⟩
theorem kve_openM {x : VeV} (h : kve.M w base ok x cs) : cs = vevCs x := by
  obtain ⟨_, _, rfl, rfl, ⟨_, _, rfl, rfl, rfl⟩⟩ := h
  exact rfl
theorem kev_mkM (w : World) (base : Nat) (ok : Nat → Prop) (x : EvV) : kev.M w base ok x (evvCs x) := ⟨[_], [_, _], rfl, rfl, ⟨[_], [_], rfl, rfl, rfl⟩⟩
theorem kev_openM {x : EvV} (h : kev.M w base ok x cs) : cs = evvCs x := by
  obtain ⟨_, _, rfl, rfl, ⟨_, _, rfl, rfl, rfl⟩⟩ := h
  exact rfl
theorem kn_openM {x : Nd} (h : k46.M w base ok x cs) : cs = ndCs x := k46_openM h
end
theorem flat_ev : Flat kev := fun h => h
def mN : Nd := ⟨77, 0, 0, ⟨#[]⟩, 0⟩
def mS : StV := ⟨77, ⟨#[]⟩, ⟨#[]⟩, ⟨#[]⟩, ⟨#[]⟩, ⟨#[]⟩, ⟨none, 0, 0⟩, 0⟩
def mV : VeV := ⟨77, ⟨none, 0, 0⟩, 0⟩
def mE : EvV := ⟨⟨#[109, 97, 114, 107]⟩, ⟨none, 0, 0⟩, 0⟩
def LN (w : World) (s : Sl) (ns : List Nd) : Prop := ∃ g, s.A = some ⟨g, 0, none⟩ ∧ s.n = ns.length ∧ ns.length + 1 ≤ s.c ∧ Row ndCs 5 46 w g (ns ++ [mN])
def SP (w : World) (fs : List StV) (ss : List StD) : Prop := fs.length = ss.length ∧ ∀ (j : Nat) (f : StV) (s : StD), fs[j]? = some f → ss[j]? = some s → (f.k = s.k ∧ f.a = s.a ∧ f.b = s.b ∧ f.c = s.c ∧ f.sep = s.sep ∧ f.ty = s.ty ∧ f.pl = s.pl) ∧ LN w f.s s.val
def LS (w : World) (s : Sl) (ss : List StD) : Prop := ∃ (g : Nat) (fs : List StV), s.A = some ⟨g, 0, none⟩ ∧ s.n = ss.length ∧ ss.length + 1 ≤ s.c ∧ Row stvCs 8 55 w g (fs ++ [mS]) ∧ SP w fs ss
def VP (w : World) (fs : List VeV) (vs : List VeD) : Prop := fs.length = vs.length ∧ ∀ (j : Nat) (f : VeV) (v : VeD), fs[j]? = some f → vs[j]? = some v → (f.num = v.num ∧ f.pl = v.pl) ∧ LS w f.s v.steps
def LV (w : World) (s : Sl) (vs : List VeD) : Prop := ∃ (g : Nat) (fs : List VeV), s.A = some ⟨g, 0, none⟩ ∧ s.n = vs.length ∧ vs.length + 1 ≤ s.c ∧ Row vevCs 3 53 w g (fs ++ [mV]) ∧ VP w fs vs
def EP (w : World) (fs : List EvV) (es : List EvD) : Prop := fs.length = es.length ∧ ∀ (j : Nat) (f : EvV) (e : EvD), fs[j]? = some f → es[j]? = some e → (f.name = e.name ∧ f.pl = e.pl) ∧ LV w f.s e.vers
def LE (w : World) (s : Sl) (es : List EvD) : Prop := ∃ (g : Nat) (fs : List EvV), s.A = some ⟨g, 0, none⟩ ∧ s.n = es.length ∧ es.length + 1 ≤ s.c ∧ Row evvCs 3 50 w g (fs ++ [mE]) ∧ EP w fs es
structure KeepT (ts : List Nat) (w w' : World) : Prop where
  row : ∀ {α : Type} {cells : α → List Value} {sz t g : Nat} {xs : List α}, t ∈ ts → Row cells sz t w g xs → Row cells sz t w' g xs
theorem KeepT.below {ts : List Nat} {w w' : World} (hb : Below w.heap.size w w') : KeepT ts w w' := ⟨fun _ h => h.below hb⟩
theorem KeepT.trans {ts : List Nat} {w w' w2 : World} (h : KeepT ts w w') (k : KeepT ts w' w2) : KeepT ts w w2 := ⟨fun ht hr => k.row ht (h.row ht hr)⟩
theorem KeepT.grown {ts : List Nat} {w w' : World} {α : Type} {d : Kd α} {e base : Nat} {ok : Nat → Prop} {v : Value} {xs : List α} (hr : d.R e w base ok v xs) (hg : w.grownBy w' v.ownBlock) (he : e ∉ ts) : KeepT ts w w' :=
  ⟨fun ht h => h.grown hg (fun e' => he (by rw [← e']; exact ht)) (fun k hk => R_type hr hk)⟩
section
variable {w w' : World} {ts : List Nat}
theorem LN.keep {s : Sl} {ns : List Nd} (h : LN w s ns) (hk : KeepT ts w w') (ht : 46 ∈ ts) : LN w' s ns := by
  obtain ⟨g, h1, h2, h3, h4⟩ := h
  exact ⟨g, h1, h2, h3, hk.row ht h4⟩
theorem SP.keep {fs : List StV} {ss : List StD} (h : SP w fs ss) (hk : KeepT ts w w') (ht : 46 ∈ ts) : SP w' fs ss :=
  ⟨h.1, fun j f s hf hs => ⟨(h.2 j f s hf hs).1, (h.2 j f s hf hs).2.keep hk ht⟩⟩
theorem LS.keep {s : Sl} {ss : List StD} (h : LS w s ss) (hk : KeepT ts w w') (ht : 46 ∈ ts) (ht2 : 55 ∈ ts) : LS w' s ss := by
  obtain ⟨g, fs, h1, h2, h3, h4, h5⟩ := h
  exact ⟨g, fs, h1, h2, h3, hk.row ht2 h4, h5.keep hk ht⟩
theorem VP.keep {fs : List VeV} {vs : List VeD} (h : VP w fs vs) (hk : KeepT ts w w') (ht : 46 ∈ ts) (ht2 : 55 ∈ ts) : VP w' fs vs :=
  ⟨h.1, fun j f s hf hs => ⟨(h.2 j f s hf hs).1, (h.2 j f s hf hs).2.keep hk ht ht2⟩⟩
theorem LV.keep {s : Sl} {vs : List VeD} (h : LV w s vs) (hk : KeepT ts w w') (ht : 46 ∈ ts) (ht2 : 55 ∈ ts) (ht3 : 53 ∈ ts) : LV w' s vs := by
  obtain ⟨g, fs, h1, h2, h3, h4, h5⟩ := h
  exact ⟨g, fs, h1, h2, h3, hk.row ht3 h4, h5.keep hk ht ht2⟩
theorem EP.keep {fs : List EvV} {es : List EvD} (h : EP w fs es) (hk : KeepT ts w w') (ht : 46 ∈ ts) (ht2 : 55 ∈ ts) (ht3 : 53 ∈ ts) : EP w' fs es :=
  ⟨h.1, fun j f s hf hs => ⟨(h.2 j f s hf hs).1, (h.2 j f s hf hs).2.keep hk ht ht2 ht3⟩⟩
theorem LE.below {s : Sl} {es : List EvD} (h : LE w s es) (hb : Below w.heap.size w w') : LE w' s es := by
  obtain ⟨g, fs, h1, h2, h3, h4, h5⟩ := h
  exact ⟨g, fs, h1, h2, h3, h4.below hb, h5.keep (ts := [46, 55, 53]) (KeepT.below hb) (by decide) (by decide) (by decide)⟩
theorem zip_snoc {α β : Type} {R : α → β → Prop} {fs : List α} {ss : List β} {f : α} {s : β} (h1 : fs.length = ss.length) (h2 : ∀ (j : Nat) (x : α) (y : β), fs[j]? = some x → ss[j]? = some y → R x y) (h3 : R f s) : (fs ++ [f]).length = (ss ++ [s]).length ∧ ∀ (j : Nat) (x : α) (y : β), (fs ++ [f])[j]? = some x → (ss ++ [s])[j]? = some y → R x y := by
  refine ⟨by rw [List.length_append, List.length_append, h1]; rfl, fun j x y hx hy => ?_⟩
  by_cases hj : j < fs.length
  · rw [List.getElem?_append_left hj] at hx
    rw [List.getElem?_append_left (by omega)] at hy
    exact h2 j x y hx hy
  · have hl := (List.getElem?_eq_some_iff.1 hx).1
    rw [List.length_append, List.length_singleton] at hl
    obtain rfl : j = fs.length := by omega
    rw [List.getElem?_concat_length] at hx
    rw [h1, List.getElem?_concat_length] at hy
    injection hx with hx
    injection hy with hy
    subst hx hy
    exact h3
theorem front {α : Type} {xs : List α} {m x : α} {j : Nat} (h : xs[j]? = some x) : (xs ++ [m])[j]? = some x := by
  rw [List.getElem?_append_left (List.getElem?_eq_some_iff.1 h).1]; exact h
theorem zip_get {α β : Type} {fs : List α} {ss : List β} {j : Nat} {y : β} (h : fs.length = ss.length) (hy : ss[j]? = some y) : ∃ x, fs[j]? = some x :=
  ⟨_, List.getElem?_eq_getElem (by rw [h]; exact (List.getElem?_eq_some_iff.1 hy).1)⟩
theorem LN.read {s : Sl} {ns : List Nd} (h : LN w s ns) (hl : ns.length ≤ 9223372036854775807) : Kd.C k46 w s.A ns.length ns := by
  obtain ⟨g, h1, h2, h3, h4⟩ := h
  rw [h1]
  exact h4.C k46 rfl ns hl (fun j y hy => ⟨y, front hy, k46_mk w y⟩)
theorem LS.read {s : Sl} {ss : List StD} (h : LS w s ss) (hl : ss.length ≤ 9223372036854775807) (hv : ∀ d, d ∈ ss → d.val.length ≤ 9223372036854775807) : Kd.C kS w s.A ss.length ss := by
  obtain ⟨g, fs, h1, h2, h3, h4, h5⟩ := h
  rw [h1]
  refine h4.C kS rfl ss hl (fun j y hy => ?_)
  obtain ⟨f, hf⟩ := zip_get h5.1 hy
  obtain ⟨⟨e0, e1, e2, e3, e4, e5, e6⟩, hn⟩ := h5.2 j f y hf hy
  refine ⟨f, front hf, ?_⟩
  have hr := hn.read (hv y (List.mem_of_getElem? hy))
  obtain ⟨_, _, q2, q3, _⟩ := hn
  have := R.kS_mk w y f.s.A f.s.c (by omega) hr
  unfold stvCs
  rw [e0, e1, e2, e3, e4, e5, e6, q2]
  exact this
theorem LV.read {s : Sl} {vs : List VeD} (h : LV w s vs) (hl : vs.length ≤ 9223372036854775807) (hv : ∀ v, v ∈ vs → v.steps.length ≤ 9223372036854775807 ∧ ∀ d, d ∈ v.steps → d.val.length ≤ 9223372036854775807) : Kd.C kV w s.A vs.length vs := by
  obtain ⟨g, fs, h1, h2, h3, h4, h5⟩ := h
  rw [h1]
  refine h4.C kV rfl vs hl (fun j y hy => ?_)
  obtain ⟨f, hf⟩ := zip_get h5.1 hy
  obtain ⟨⟨e0, e1⟩, hn⟩ := h5.2 j f y hf hy
  refine ⟨f, front hf, ?_⟩
  have hr := hn.read (hv y (List.mem_of_getElem? hy)).1 (hv y (List.mem_of_getElem? hy)).2
  obtain ⟨_, _, _, q2, q3, _⟩ := hn
  have := R.kV_mk w y f.s.A f.s.c (by omega) hr
  unfold vevCs
  rw [e0, e1, q2]
  exact this
theorem LE.read {s : Sl} {es : List EvD} (h : LE w s es) (hl : LenT es) : Kd.C kE w s.A es.length es := by
  obtain ⟨g, fs, h1, h2, h3, h4, h5⟩ := h
  rw [h1]
  refine h4.C kE rfl es (by have := hl.1; omega) (fun j y hy => ?_)
  obtain ⟨f, hf⟩ := zip_get h5.1 hy
  obtain ⟨⟨e0, e1⟩, hn⟩ := h5.2 j f y hf hy
  refine ⟨f, front hf, ?_⟩
  have hm := hl.2 y (List.mem_of_getElem? hy)
  have hr := hn.read (by omega) (fun v hv => ⟨by have := (hm.2 v hv).1; omega, fun d hd => by have := (hm.2 v hv).2 d hd; omega⟩)
  obtain ⟨_, _, _, q2, q3, _⟩ := hn
  have := R.kE_mk w y f.s.A f.s.c (by omega) hr
  unfold evvCs
  rw [e0, e1, q2]
  exact this
end
end Go.Proofs.YtaijoghpfobdbaaDoor.W
end
section
set_option linter.unusedVariables false
set_option linter.unusedSimpArgs false
namespace Go.Proofs.YtaijoghpfobdbaaDoor.W
open Go.RowKit Go.Proofs.YtaijoghpfobdbaaDoor.X Go.Proofs.YtaijoghpfobdbaaDoorW.PrintWords Go.Proofs.YtaijoghpfobdbaaDoorW.PrintLast Go.Proofs.YtaijoghpfobdbaaDoorW.PrintMore
open Go.Proofs.YtaijoghpfobdbaaDoor.P (Tr Nd)
end Go.Proofs.YtaijoghpfobdbaaDoor.W
end
section
set_option linter.unusedVariables false
set_option linter.unusedSimpArgs false
namespace Go.Proofs.YtaijoghpfobdbaaDoor.W
open Go.Proofs.YtaijoghpfobdbaaDoor.P (Tr Nd kd sg build dep dmx tx txs txN)
end Go.Proofs.YtaijoghpfobdbaaDoor.W
end
section
set_option linter.unusedVariables false
set_option linter.unusedSimpArgs false
namespace Go.Proofs.YtaijoghpfobdbaaDoor.W
open Go.RowKit Go.Proofs.YtaijoghpfobdbaaDoor.X Go.Proofs.YtaijoghpfobdbaaDoorW.PrintWords Go.Proofs.YtaijoghpfobdbaaDoorW.PrintLast Go.Proofs.YtaijoghpfobdbaaDoorW.PrintMore
open Go.Proofs.YtaijoghpfobdbaaDoor.P (Tr Nd tx)
theorem infoN : (Tryd.prog.info? 46).map (fun i => (i.zero, i.size, i.bytes)) = some (some (.agg #[.int .i64 0, .int .i64 0, .int .u64 0, .string ⟨#[]⟩, .int .i64 0]), 5, 48) := by kernel_rfl
end Go.Proofs.YtaijoghpfobdbaaDoor.W
end
section
set_option linter.unusedVariables false
set_option linter.unusedSimpArgs false
namespace Go.Proofs.YtaijoghpfobdbaaDoor.W
open Go.RowKit Go.Proofs.YtaijoghpfobdbaaDoor.X Go.Proofs.YtaijoghpfobdbaaDoorW.PrintWords Go.Proofs.YtaijoghpfobdbaaDoorW.PrintLast Go.Proofs.YtaijoghpfobdbaaDoorW.PrintMore
open Go.Proofs.YtaijoghpfobdbaaDoor.P (Nd StD VeD EvD)
def shN (p : Int) (n : Nd) : Nd := ⟨n.f0, n.f1, n.f2, n.f3, wrap64 (n.f4 + p)⟩
def shS (p : Int) (d : StD) : StD := ⟨d.k, d.a, d.b, d.c, d.sep, d.ty, d.val.map (shN p), wrap64 (d.pl + p)⟩
def shV (p : Int) (v : VeD) : VeD := ⟨v.num, v.steps.map (shS p), wrap64 (v.pl + p)⟩
def shE (p : Int) (e : EvD) : EvD := ⟨e.name, e.vers.map (shV p), wrap64 (e.pl + p)⟩
def LenP (es : List EvD) : Prop := es.length ≤ 65536 ∧ ∀ e, e ∈ es → e.vers.length ≤ 65536 ∧ ∀ v, v ∈ e.vers → v.steps.length ≤ 65536 ∧ ∀ d, d ∈ v.steps → d.val.length ≤ 65536
theorem infoSt : (Tryd.prog.info? 55).map (fun i => (i.zero, i.size, i.bytes)) = some (some (.agg #[.int .i64 0, .string ⟨#[]⟩, .string ⟨#[]⟩, .string ⟨#[]⟩, .string ⟨#[]⟩, .string ⟨#[]⟩, .slice none 0 0, .int .i64 0]), 8, 120) := by kernel_rfl
theorem infoVe : (Tryd.prog.info? 53).map (fun i => (i.zero, i.size, i.bytes)) = some (some (.agg #[.int .u64 0, .slice none 0 0, .int .i64 0]), 3, 40) := by kernel_rfl
theorem infoEv : (Tryd.prog.info? 50).map (fun i => (i.zero, i.size, i.bytes)) = some (some (.agg #[.string ⟨#[]⟩, .slice none 0 0, .int .i64 0]), 3, 48) := by kernel_rfl
theorem grown_set (w : World) (g i : Nat) (v : Value) : w.grownBy (w.setCell ⟨g, i, none⟩ v) (some g) := ⟨rfl, rfl, rfl, by simp, fun k _ hk => Below.heap_setCell w ⟨g, i, none⟩ v k (fun e => hk (by rw [e]))⟩
theorem map_next {α β : Type} (f : α → β) (l : List α) (i : Nat) (x : α) (h : l[i]? = some x) : (l.take (i + 1)).map f = (l.take i).map f ++ [f x] := by
  have hi := (List.getElem?_eq_some_iff.1 h).1
  rw [List.take_succ_eq_append_getElem hi, List.map_append, get_of h hi]; rfl
theorem map_len {α β : Type} (f : α → β) (l : List α) (i : Nat) (h : i ≤ l.length) : ((l.take i).map f).length = i := by rw [List.length_map, List.length_take]; omega
theorem ln_of {w5 w8 : World} {b13 n c5 : Nat} {A5 : Option Addr} {cs : Array Value} {ns : List Nd} {base : Nat} {ok : Nat → Prop} {q7 q7' : Int} (hx : w5.heap[b13]? = some (.cells cs 55 (0, 0))) (ho : Kd.R k46 46 w5 base ok (.slice A5 (n + 1) c5) (ns.map (shN q7') ++ [mN])) (hw : w8 = (w5.setCell ⟨b13, 6, none⟩ (.slice A5 n c5)).setCell ⟨b13, 7, none⟩ (.int .i64 q7)) : LN w8 ⟨A5, n, c5⟩ (ns.map (shN q7')) := by
  obtain ⟨g, h1, h2, h3, h4, h5⟩ := R_row (cells := ndCs) (sz := 5) kn_openM rfl ho (by simp)
  rw [List.length_append, List.length_singleton] at h2 h3
  have r1 := h5.grown (grown_set w5 b13 6 (.slice A5 n c5)) (t' := 55) (by decide) (fun k hk => by injection hk with hk; subst hk; exact ⟨_, hx⟩)
  have r2 := r1.grown (grown_set _ b13 7 (.int .i64 q7)) (t' := 55) (by decide) (fun k hk => by injection hk with hk; subst hk; exact ⟨_, blk_set hx 6 _⟩)
  rw [← hw] at r2
  exact ⟨g, h1, (by show n = _; omega), h3, r2⟩
set_option maxHeartbeats 16000000 in
set_option maxRecDepth 100000 in
theorem copied_calls (w : World) (A : Option Addr) (c : Nat) (es : List EvD) (p : Int) (hC : Kd.C kE w A es.length es) (hS : LenP es) :
    Calls Tryd.prog 19 #[.agg #[.slice A es.length c], .int .i64 p] w fun e w' => ∃ s : Sl, e = .returned (.agg #[.slice s.A es.length s.c]) ∧ LE w' s (es.map (shE p)) ∧ Below w.heap.size w w' := by
  obtain ⟨b0, hb0⟩ : ∃ b0, b0 = w.heap.size := ⟨_, rfl⟩
  obtain ⟨w0, hw0⟩ : ∃ w0, w0 = ((w.alloc (.cells #[.slice A es.length c] 24)).alloc (.cells #[.slice none 0 0] 24)).alloc (.cells #[.slice none 0 0] 24) := ⟨_, rfl⟩
  have hB0 : Below w.heap.size w w0 := by rw [hw0]; exact below_step (below_step (below_alloc (Below.refl _ _) _) (below_alloc (Below.refl _ _) _)) (below_alloc (Below.refl _ _) _)
  have hz1 : (w.alloc (.cells #[.slice A es.length c] 24)).heap.size = b0 + 1 := by rw [hb0]; simp
  have hz2 : ((w.alloc (.cells #[.slice A es.length c] 24)).alloc (.cells #[.slice none 0 0] 24)).heap.size = b0 + 2 := by rw [hb0]; simp
  have HZ : Aside0 (w0.heap.size = b0 + 3) := ⟨by rw [hw0, hb0]; simp⟩
  have HX0 := Aside0.mk (show w0.heap[b0]? = some (.cells #[.slice A es.length c] 24 (0, 0)) by rw [hw0, hb0]; exact blk_alloc (blk_alloc (blk_new _ _) _) _)
  have HX1 := Aside0.mk (show w0.heap[b0 + 1]? = some (.cells #[.slice none 0 0] 24 (0, 0)) by rw [hw0, ← hz1]; exact blk_alloc (blk_new _ _) _)
  have HX2 := Aside0.mk (show w0.heap[b0 + 2]? = some (.cells #[.slice none 0 0] 24 (0, 0)) by rw [hw0, ← hz2]; exact blk_new _ _)
  have HC := Aside0.mk hC
  have HS := Aside0.mk hS
  have HB0 := Aside0.mk hB0
  have HE0 := Aside0.mk hw0
  have HBZ := Aside0.mk hb0
  clear hC hS hB0 hz1 hz2 hw0
  go_enter Tryd.func19, Tryd.ntmps19
  go_wp2
  rw [← HE0.out, ← hb0]
  clear hb0
  go_loopw [6] (fun ti wr => ∃ (i : Nat) (vE : Value) (fs : List EvV), ti = .int .i64 (i : Int) ∧ Aside0 (i ≤ es.length) ∧ Aside0 (wr.heap[b0]? = some (.cells #[.slice A es.length c] 24 (0, 0)) ∧ wr.heap[b0 + 1]? = some (.cells #[.slice none 0 0] 24 (0, 0)) ∧ wr.heap[b0 + 2]? = some (.cells #[vE] 24 (0, 0))) ∧ Aside0 (Kd.R kev 50 wr (b0 + 3) (fun _ => True) vE fs) ∧ Aside0 (EP wr fs ((es.take i).map (shE p))) ∧ Aside0 (Below w.heap.size w wr)) (fun ti _ => es.length - left ti)
  case atStart => exact ⟨0, _, [], rfl, ⟨Nat.zero_le _⟩, ⟨HX0.out, HX1.out, HX2.out⟩, ⟨Kd.R_nil _ _ _ _ _⟩, ⟨rfl, fun j f e hf => by simp at hf⟩, HB0⟩
  case round =>
    obtain ⟨i, vE, fE, rfl, hi, HX, HRE, HEP, HB⟩ := hrel
    rename World => wa
    have y0 := (blk_cell HX.out.1 0).trans rfl
    by_cases ci : i < es.length
    · have c1 : decide ((i : Int) < (es.length : Int)) = true := decide_eq_true (by omega)
      have c2 : decide (i < es.length) = true := decide_eq_true ci
      obtain ⟨ad, Bv, cv, hA, hCv, hx⟩ := at_E' (Kd.C_below HC.out HB.out) i ci
      subst hA
      obtain ⟨hx0, hx1, hx2⟩ := hx wa (Below.refl _ _)
      obtain ⟨ev, hev⟩ : ∃ ev, es[i]? = some ev := ⟨_, List.getElem?_eq_getElem ci⟩
      rw [get_of hev ci] at hx0 hx1 hx2 hCv
      have HI := Aside0.mk hev
      have HIL := Aside0.mk ci
      have HS1 := Aside0.mk (HS.out.2 ev (List.mem_of_getElem? hev))
      obtain ⟨b7, hb7⟩ : ∃ b7, b7 = wa.heap.size := ⟨_, rfl⟩
      obtain ⟨w7, hw7⟩ : ∃ w7, w7 = wa.alloc (.cells #[.string ev.name, .slice Bv ev.vers.length cv, .int .i64 ev.pl] 50) := ⟨_, rfl⟩
      have hB7 : Below wa.heap.size wa w7 := by rw [hw7]; exact below_alloc (Below.refl _ _) _
      have HX7 := Aside0.mk (show w7.heap[b7]? = some (.cells #[.string ev.name, .slice Bv ev.vers.length cv, .int .i64 ev.pl] 50 (0, 0)) by rw [hw7, hb7]; exact blk_new _ _)
      have HCV := Aside0.mk (Kd.C_below hCv hB7)
      have HB7 := Aside0.mk hB7
      have HE7 := Aside0.mk hw7
      have HZ7 := Aside0.mk hb7
      have W1 : Aside0 (wrap64 ((i : Int) + 1) = ((i + 1 : Nat) : Int)) := ⟨by have := HS.out.1; have := HIL.out; unfold wrap64; omega⟩
      clear hx hev hB7 hw7 hCv
      go_wp2_with fail
      rw [← HE7.out, ← hb7]
      clear hb7 hx0 hx1 hx2 y0
      go_loopw [8, 9] (fun t8 tk wr => ∃ (k : Nat) (fv : List VeV), tk = .int .i64 (k : Int) ∧ Aside0 (k ≤ ev.vers.length) ∧ Aside0 (Kd.R kve 53 wr w7.heap.size (fun _ => True) t8 fv) ∧ Aside0 (VP wr fv ((ev.vers.take k).map (shV p))) ∧ Aside0 (Below w7.heap.size w7 wr)) (fun _ tk _ => ev.vers.length - left tk)
      case atStart => exact ⟨0, [], rfl, ⟨Nat.zero_le _⟩, ⟨Kd.R_nil _ _ _ _ _⟩, ⟨rfl, fun j f e hf => by simp at hf⟩, ⟨Below.refl _ _⟩⟩
      case round =>
        obtain ⟨k, fV, rfl, hk, HRV, HVP, HBk⟩ := hrel
        rename World => wb
        have z1 := (blk_cell (blk_below HX7.out HBk.out) 1).trans rfl
        by_cases ck : k < ev.vers.length
        · have d1 : decide ((k : Int) < (ev.vers.length : Int)) = true := decide_eq_true (by omega)
          have d2 : decide (k < ev.vers.length) = true := decide_eq_true ck
          obtain ⟨av, Bs, cs, hAv, hCs, hvv⟩ := at_V' (Kd.C_below HCV.out HBk.out) k ck
          subst hAv
          obtain ⟨hv0, hv1, hv2⟩ := hvv wb (Below.refl _ _)
          obtain ⟨ve, hve⟩ : ∃ ve, ev.vers[k]? = some ve := ⟨_, List.getElem?_eq_getElem ck⟩
          rw [get_of hve ck] at hv0 hv1 hv2 hCs
          have HK := Aside0.mk hve
          have HKL := Aside0.mk ck
          have HS2 := Aside0.mk (HS1.out.2 ve (List.mem_of_getElem? hve))
          obtain ⟨b10, hb10⟩ : ∃ b, b = wb.heap.size := ⟨_, rfl⟩
          obtain ⟨w10, hw10⟩ : ∃ w', w' = wb.alloc (.cells #[.int .u64 ve.num, .slice Bs ve.steps.length cs, .int .i64 ve.pl] 53) := ⟨_, rfl⟩
          have hB10 : Below wb.heap.size wb w10 := by rw [hw10]; exact below_alloc (Below.refl _ _) _
          have HX10 := Aside0.mk (show w10.heap[b10]? = some (.cells #[.int .u64 ve.num, .slice Bs ve.steps.length cs, .int .i64 ve.pl] 53 (0, 0)) by rw [hw10, hb10]; exact blk_new _ _)
          have HCS := Aside0.mk (Kd.C_below hCs hB10)
          have HB10 := Aside0.mk hB10
          have HE10 := Aside0.mk hw10
          have HZ10 := Aside0.mk hb10
          have W2 : Aside0 (wrap64 ((k : Int) + 1) = ((k + 1 : Nat) : Int)) := ⟨by have := HS1.out.1; have := HKL.out; unfold wrap64; omega⟩
          clear hvv hve hB10 hw10 hCs
          go_wp2_with fail
          rw [← HE10.out, ← hb10]
          clear hb10 hv0 hv1 hv2 z1
          go_loopw [11, 12] (fun t11 tj wr => ∃ (j : Nat) (fs : List StV), tj = .int .i64 (j : Int) ∧ Aside0 (j ≤ ve.steps.length) ∧ Aside0 (Kd.R kst 55 wr w10.heap.size (fun _ => True) t11 fs) ∧ Aside0 (SP wr fs ((ve.steps.take j).map (shS p))) ∧ Aside0 (Below w10.heap.size w10 wr)) (fun _ tj _ => ve.steps.length - left tj)
          case atStart => exact ⟨0, [], rfl, ⟨Nat.zero_le _⟩, ⟨Kd.R_nil _ _ _ _ _⟩, ⟨rfl, fun j f e hf => by simp at hf⟩, ⟨Below.refl _ _⟩⟩
          case round =>
            obtain ⟨j, fS, rfl, hj, HRS, HSP, HBj⟩ := hrel
            rename World => wc
            have u1 := (blk_cell (blk_below HX10.out HBj.out) 1).trans rfl
            by_cases cj : j < ve.steps.length
            · have e1 : decide ((j : Int) < (ve.steps.length : Int)) = true := decide_eq_true (by omega)
              have e2 : decide (j < ve.steps.length) = true := decide_eq_true cj
              obtain ⟨ast, Bn, cn, hAs, hCn, hss⟩ := at_S' (Kd.C_below HCS.out HBj.out) j cj
              subst hAs
              obtain ⟨hs0, hs1, hs2, hs3, hs4, hs5, hs6, hs7⟩ := hss wc (Below.refl _ _)
              obtain ⟨st, hst⟩ : ∃ st, ve.steps[j]? = some st := ⟨_, List.getElem?_eq_getElem cj⟩
              rw [get_of hst cj] at hs0 hs1 hs2 hs3 hs4 hs5 hs6 hs7 hCn
              have HJ := Aside0.mk hst
              have HJL := Aside0.mk cj
              have HS3 := Aside0.mk (HS2.out.2 st (List.mem_of_getElem? hst))
              obtain ⟨b13, hb13⟩ : ∃ b, b = wc.heap.size := ⟨_, rfl⟩
              obtain ⟨w13, hw13⟩ : ∃ w', w' = wc.alloc (.cells #[.int .i64 st.k, .string st.a, .string st.b, .string st.c, .string st.sep, .string st.ty, .slice Bn st.val.length cn, .int .i64 st.pl] 55) := ⟨_, rfl⟩
              have hB13 : Below wc.heap.size wc w13 := by rw [hw13]; exact below_alloc (Below.refl _ _) _
              have HX13 := Aside0.mk (show w13.heap[b13]? = some (.cells #[.int .i64 st.k, .string st.a, .string st.b, .string st.c, .string st.sep, .string st.ty, .slice Bn st.val.length cn, .int .i64 st.pl] 55 (0, 0)) by rw [hw13, hb13]; exact blk_new _ _)
              have HCN := Aside0.mk (Kd.C_below hCn hB13)
              have HB13 := Aside0.mk hB13
              have HE13 := Aside0.mk hw13
              have HZ13 := Aside0.mk hb13
              have W3 : Aside0 (wrap64 ((j : Int) + 1) = ((j + 1 : Nat) : Int)) := ⟨by have := HS2.out.1; have := HJL.out; unfold wrap64; omega⟩
              clear hss hst hB13 hw13 hCn
              go_wp2_with fail
              rw [← HE13.out, ← hb13]
              clear hb13 hs0 hs1 hs2 hs3 hs4 hs5 hs6 hs7 u1
              go_loopw [14, 15] (fun t14 tm wr => ∃ m : Nat, tm = .int .i64 (m : Int) ∧ Aside0 (m ≤ st.val.length) ∧ Aside0 (Kd.R k46 46 wr w13.heap.size (fun _ => True) t14 ((st.val.take m).map (shN p))) ∧ Aside0 (Below w13.heap.size w13 wr)) (fun _ tm _ => st.val.length - left tm)
              case atStart => exact ⟨0, rfl, ⟨Nat.zero_le _⟩, ⟨Kd.R_nil _ _ _ _ _⟩, ⟨Below.refl _ _⟩⟩
              case round =>
                obtain ⟨m, rfl, hm, HRN, HBm⟩ := hrel
                rename World => wd
                have r6 := (blk_cell (blk_below HX13.out HBm.out) 6).trans rfl
                obtain ⟨A14, c14, hv14⟩ := Kd.R_slice HRN.out
                rw [map_len _ _ _ hm.out] at hv14
                subst hv14
                by_cases cm : m < st.val.length
                · have f1 : decide ((m : Int) < (st.val.length : Int)) = true := decide_eq_true (by omega)
                  have f2 : decide (m < st.val.length) = true := decide_eq_true cm
                  obtain ⟨nd, hnd⟩ : ∃ nd, st.val[m]? = some nd := ⟨_, List.getElem?_eq_getElem cm⟩
                  obtain ⟨an, hAn, n0, n1, n2, n3, n4⟩ := at_nd (Kd.C_below HCN.out HBm.out) hnd
                  subst hAn
                  have HMN := Aside0.mk (map_next (shN p) st.val m nd hnd)
                  have HML := Aside0.mk cm
                  have W4 : Aside0 (wrap64 ((m : Int) + 1) = ((m + 1 : Nat) : Int)) := ⟨by have := HS3.out; have := HML.out; unfold wrap64; omega⟩
                  obtain ⟨q, hq⟩ : ∃ q, q = wrap64 (nd.f4 + p) := ⟨_, rfl⟩
                  have HQ := Aside0.mk hq
                  have hq2 : ∀ [Inhabited Unit], wrap64 (nd.f4 + p) = q := by intro _; exact hq.symm
                  clear hnd hq
                  go_wp2_with (first
                    | ((with_reducible refine gate_builtin (b := .append) (xs := #[.tmp 71, .tmp 73]) rfl ?_); go_must (at_builtin; refine Kd.R_append k46 (w0 := w13) w13.heap.size rfl (.tmp 71) (.tmp 73) 25 46 (.agg #[.int .i64 0, .int .i64 0, .int .u64 0, .string ⟨#[]⟩, .int .i64 0]) 48 rfl Tryd.underlying25 infoN rfl (by decide) (by omega) (.slice A14 m c14) ((st.val.take m).map (shN p)) ⟨nd.f0, nd.f1, nd.f2, nd.f3, q⟩ [.int .i64 nd.f0, .int .i64 nd.f1, .int .u64 nd.f2, .string nd.f3, .int .i64 q] (fun _ => True) (fun _ => False) rfl (by first | rfl | simp [Act.eval]) (k46_mkM _ _ _ ⟨nd.f0, nd.f1, nd.f2, nd.f3, q⟩) (fun _ hk => hk.elim) (fun _ _ => trivial) (Kd.R_alloc HRN.out _) (below_alloc HBm.out _) (by have := HBm.out.size; simp; omega) (by rw [map_len _ _ _ hm.out]; have := HS3.out; omega) ?_; intro v1 w5 ho hb hg hat; have HO := Aside0.mk ho; have HB5 := Aside0.mk hb; clear ho hb hg hat))
                    | fail)
                  rw [W4.out]
                  go_roundw
                  case measure => have := HML.out; simp only [left, Int.toNat_natCast]; omega
                  case rel =>
                    refine ⟨m + 1, rfl, ⟨HML.out⟩, ⟨?_⟩, HB5⟩
                    rw [HMN.out, show shN p nd = ⟨nd.f0, nd.f1, nd.f2, nd.f3, q⟩ by unfold shN; rw [← HQ.out]]
                    exact HO.out
                · have f1 : decide ((m : Int) < (st.val.length : Int)) = false := decide_eq_false (by omega)
                  have f2 : decide (m < st.val.length) = false := decide_eq_false cm
                  have hme : m = st.val.length := by have := hm.out; omega
                  subst hme
                  have HRM : Aside0 (Kd.R k46 46 wd w13.heap.size (fun _ => True) (.slice A14 st.val.length c14) (st.val.map (shN p))) := ⟨by have h := HRN.out; rwa [List.take_length] at h⟩
                  obtain ⟨q7, hq7⟩ : ∃ q, q = wrap64 (st.pl + p) := ⟨_, rfl⟩
                  have HQ7 := Aside0.mk hq7
                  have hq72 : ∀ [Inhabited Unit], wrap64 (st.pl + p) = q7 := by intro _; exact hq7.symm
                  have W5 : ∀ [Inhabited Unit], wrap64 (st.val.length : Int) = (st.val.length : Int) := by intro _; have := HS3.out; unfold wrap64; omega
                  obtain ⟨A11, c11, hv11⟩ := Kd.R_slice HRS.out
                  have hfl : fS.length = j := by have h := HSP.out.1; rw [map_len _ _ _ hj.out] at h; exact h
                  rw [hfl] at hv11
                  subst hv11
                  have HFL := Aside0.mk hfl
                  clear hq7 hfl cm
                  go_wp2_with (first
                    | ((with_reducible refine gate_builtin (b := .append) (xs := #[.tmp 75, .tmp 77]) rfl ?_); go_must (at_builtin; refine Kd.R_append k46 (w0 := w13) w13.heap.size rfl (.tmp 75) (.tmp 77) 25 46 (.agg #[.int .i64 0, .int .i64 0, .int .u64 0, .string ⟨#[]⟩, .int .i64 0]) 48 rfl Tryd.underlying25 infoN rfl (by decide) (by omega) (.slice A14 st.val.length c14) (st.val.map (shN p)) mN [.int .i64 77, .int .i64 0, .int .u64 0, .string ⟨#[]⟩, .int .i64 0] (fun _ => True) (fun _ => False) rfl (by first | rfl | simp [Act.eval]) (k46_mkM _ _ _ mN) (fun _ hk => hk.elim) (fun _ _ => trivial) HRM.out HBm.out HBm.out.size (by rw [List.length_map]; have := HS3.out; omega) ?_; intro v1 w5 ho hb hg hat; obtain ⟨A5, c5, hv5⟩ := Kd.R_slice ho; rw [List.length_append, List.length_map, List.length_singleton] at hv5; subst hv5; have HO := Aside0.mk ho; have HB5 := Aside0.mk hb; have hroom := (Kd.R_reads' ho).2.1; obtain ⟨i0, hi0, _, hsz0, _⟩ := info_parts infoN; have hcut := cut_to (P := Tryd.prog) 25 46 .i64 Tryd.underlying25 hi0 A5 (st.val.length + 1) c5 (st.val.length : Int) (by omega) (by omega) hroom; rw [Int.toNat_natCast] at hcut; have HX5 := Aside0.mk (blk_grown (blk_below HX13.out HBm.out) hg (Kd.R_ne HRM.out (blk_below HX13.out HBm.out) (by decide))); obtain ⟨s0, s1, s2, s3, s4, s5, s6, s7⟩ := box8 HX5.out; have fz6 := blk_frozen HX5.out 6; have fz7 := blk_frozen HX5.out 7; obtain ⟨w8, hw8⟩ : ∃ w8, w8 = (w5.setCell ⟨b13, 6, none⟩ (.slice A5 st.val.length c5)).setCell ⟨b13, 7, none⟩ (.int .i64 q7) := ⟨_, rfl⟩; have hb58 : Below wc.heap.size wc w8 := (by rw [hw8]; exact ((below_step HB13.out hb).setCell (p := ⟨b13, 6, none⟩) (by rw [HZ13.out]; exact Nat.le_refl _) _).setCell (p := ⟨b13, 7, none⟩) (by rw [HZ13.out]; exact Nat.le_refl _) _); have HRS8 := Aside0.mk (Kd.R_below HRS.out hb58); have HBj8 := Aside0.mk (below_step HBj.out hb58); have HSP8 := Aside0.mk (HSP.out.keep (ts := [46]) (KeepT.below hb58) (by decide)); have HLN8 : Aside0 (LN w8 ⟨A5, st.val.length, c5⟩ (st.val.map (shN p))) := ⟨ln_of HX5.out ho hw8⟩; have HW8 := Aside0.mk hw8; rw [hw8] at HRS8 HBj8; clear ho hb hg hat hroom hi0 hsz0 hw8 hb58))
                    | ((with_reducible refine gate_builtin (b := .append) (xs := #[.tmp 90, .tmp 92]) rfl ?_); go_must (at_builtin; refine Kd.R_append kst (w0 := w10) w10.heap.size rfl (.tmp 90) (.tmp 92) 51 55 (.agg #[.int .i64 0, .string ⟨#[]⟩, .string ⟨#[]⟩, .string ⟨#[]⟩, .string ⟨#[]⟩, .string ⟨#[]⟩, .slice none 0 0, .int .i64 0]) 120 rfl Tryd.underlying51 infoSt rfl (by decide) (by omega) (.slice A11 j c11) fS ⟨st.k, st.a, st.b, st.c, st.sep, st.ty, ⟨A5, st.val.length, c5⟩, q7⟩ [.int .i64 st.k, .string st.a, .string st.b, .string st.c, .string st.sep, .string st.ty, .slice A5 st.val.length c5, .int .i64 q7] (fun _ => True) (fun _ => False) rfl (by first | rfl | simp [Act.eval]) (kst_mkM _ _ _ ⟨st.k, st.a, st.b, st.c, st.sep, st.ty, ⟨A5, st.val.length, c5⟩, q7⟩) (fun _ hk => hk.elim) (fun _ _ => trivial) HRS8.out HBj8.out HBj8.out.size (by rw [HFL.out]; have := HS2.out.1; have := HJL.out; omega) ?_; intro v3 w9 ho hb hg hat; have HO9 := Aside0.mk ho; have HB9 := Aside0.mk hb; have HK9 := Aside0.mk (KeepT.grown (ts := [46]) HRS8.out hg (by decide)); clear ho hb hg hat))
                    | fail)
                  rw [W3.out]
                  go_roundw
                  case measure => have := HJL.out; simp only [left, Int.toNat_natCast]; omega
                  case rel =>
                    refine ⟨j + 1, fS ++ [⟨st.k, st.a, st.b, st.c, st.sep, st.ty, ⟨A5, st.val.length, c5⟩, q7⟩], rfl, ⟨HJL.out⟩, HO9, ⟨?_⟩, HB9⟩
                    rw [map_next (shS p) ve.steps j st HJ.out]
                    have hk9 := HK9.out
                    rw [← HW8.out] at hk9
                    have h := HSP8.out.keep hk9 (by decide)
                    exact zip_snoc h.1 h.2 ⟨⟨rfl, rfl, rfl, rfl, rfl, rfl, HQ7.out⟩, HLN8.out.keep hk9 (by decide)⟩
            · have e1 : decide ((j : Int) < (ve.steps.length : Int)) = false := decide_eq_false (by omega)
              have e2 : decide (j < ve.steps.length) = false := decide_eq_false cj
              have hje : j = ve.steps.length := by have := hj.out; omega
              subst hje
              obtain ⟨A11, c11, hv11⟩ := Kd.R_slice HRS.out
              have hfl : fS.length = ve.steps.length := by have h := HSP.out.1; rw [map_len _ _ _ (Nat.le_refl _)] at h; exact h
              rw [hfl] at hv11
              subst hv11
              have HFL := Aside0.mk hfl
              have HN6 : Aside0 (ve.steps.length ≤ 65536) := ⟨HS2.out.1⟩
              have HSPn : Aside0 (SP wc fS (ve.steps.map (shS p))) := ⟨by have h := HSP.out; rwa [List.take_length] at h⟩
              obtain ⟨q10, hq10⟩ : ∃ q, q = wrap64 (ve.pl + p) := ⟨_, rfl⟩
              have HQ10 := Aside0.mk hq10
              have hq102 : ∀ [Inhabited Unit], wrap64 (ve.pl + p) = q10 := by intro _; exact hq10.symm
              have hq103 : IntKind.i64.wrap (ve.pl + p) = q10 := by rw [i64_w]; exact hq10.symm
              have W5 : ∀ [Inhabited Unit], wrap64 (ve.steps.length : Int) = (ve.steps.length : Int) := by intro _; have := HN6.out; unfold wrap64; omega
              have W6 : IntKind.i64.wrap (ve.steps.length : Int) = (ve.steps.length : Int) := by have := HN6.out; rw [i64_w]; unfold wrap64; omega
              have W7 : IntKind.i64.wrap (((ve.steps.length + 1 : Nat) : Int) - 1) = (ve.steps.length : Int) := by have := HN6.out; rw [i64_w]; unfold wrap64; omega
              have W8 : ∀ [Inhabited Unit], wrap64 (((ve.steps.length + 1 : Nat) : Int) - 1) = (ve.steps.length : Int) := by intro _; have := HN6.out; unfold wrap64; omega
              clear hq10 hfl cj
              go_wp2_with (first
                | ((with_reducible refine gate_builtin (b := .append) (xs := #[.tmp 94, .tmp 96]) rfl ?_); go_must (at_builtin; refine Kd.R_append kst (w0 := w10) w10.heap.size rfl (.tmp 94) (.tmp 96) 51 55 (.agg #[.int .i64 0, .string ⟨#[]⟩, .string ⟨#[]⟩, .string ⟨#[]⟩, .string ⟨#[]⟩, .string ⟨#[]⟩, .slice none 0 0, .int .i64 0]) 120 rfl Tryd.underlying51 infoSt rfl (by decide) (by omega) (.slice A11 ve.steps.length c11) fS mS [.int .i64 77, .string ⟨#[]⟩, .string ⟨#[]⟩, .string ⟨#[]⟩, .string ⟨#[]⟩, .string ⟨#[]⟩, .slice none 0 0, .int .i64 0] (fun _ => True) (fun _ => False) rfl (by first | rfl | simp [Act.eval]) (kst_mkM _ _ _ mS) (fun _ hk => hk.elim) (fun _ _ => trivial) HRS.out HBj.out HBj.out.size (by rw [HFL.out]; have := HN6.out; omega) ?_; intro v1 w5 ho hb hg hat; obtain ⟨A12, c12, hv12⟩ := Kd.R_slice ho; rw [List.length_append, HFL.out, List.length_singleton] at hv12; subst hv12; have HO11 := Aside0.mk ho; have HB11 := Aside0.mk hb; have HX105 := Aside0.mk (blk_grown (blk_below HX10.out HBj.out) hg (Kd.R_ne HRS.out (blk_below HX10.out HBj.out) (by decide))); have HSP5 := Aside0.mk (HSPn.out.keep (KeepT.grown (ts := [46]) HRS.out hg (by decide)) (by decide)); clear ho hb hg hat u1))
                | fail)
              have hroom := (Kd.R_reads' HO11.out).2.1
              obtain ⟨i0, hi0, _, hsz0, _⟩ := info_parts infoSt
              have hcut := cut_to (P := Tryd.prog) 51 55 .i64 Tryd.underlying51 hi0 A12 (ve.steps.length + 1) c12 (ve.steps.length : Int) (by omega) (by omega) (by have := hroom; omega)
              rw [Int.toNat_natCast] at hcut
              have HLS5 : Aside0 (LS w5 ⟨A12, ve.steps.length, c12⟩ (ve.steps.map (shS p))) := ⟨by
                obtain ⟨g, h1, h2, h3, h4, h5⟩ := R_row (cells := stvCs) (sz := 8) kst_openM rfl HO11.out (by simp)
                rw [List.length_append, List.length_singleton, HFL.out] at h3
                exact ⟨g, fS, h1, by rw [List.length_map], by rw [List.length_map]; exact h3, h5, HSP5.out⟩⟩
              have HBb5 := Aside0.mk (below_step HB10.out HB11.out)
              have HRV5 := Aside0.mk (Kd.R_below HRV.out HBb5.out)
              have HVP5 := Aside0.mk (HVP.out.keep (ts := [46, 55]) (KeepT.below HBb5.out) (by decide) (by decide))
              have HBk5 := Aside0.mk (below_step HBk.out HBb5.out)
              obtain ⟨A8, c8, hv8⟩ := Kd.R_slice HRV5.out
              have hvl : fV.length = k := by have h := HVP.out.1; rw [map_len _ _ _ hk.out] at h; exact h
              rw [hvl] at hv8
              subst hv8
              have HVL := Aside0.mk hvl
              clear hroom hi0 hsz0 hvl
              go_wp2
              refine start_ (n := 16) (S := (fun w' : World => ∃ B, w'.heap[b10]? = some (.cells #[.int .u64 ve.num, B, .int .i64 ve.pl] 53 (0, 0)))) (ds := []) #[false, false, false, false, false, false, false, false, false, false, false, false, false, false, false, false] (by kernel_rfl) rfl rfl ⟨_, HX105.out⟩ (fun hHeld => ?_)
              refine pure_ (i := 0) (N := some 98) (v := ?_) (a' := ?_) #[true, false, false, false, false, false, false, false, false, false, false, false, false, false, false, false] rfl rfl (by kernel_rfl) (fun _ _ _ h => h) (Or.inl ⟨by rfl, ?_⟩) ?_ ?_
              rotate_left
              · intro w'
                go_simp
                with_reducible rfl
              rotate_left
              · simp only [Act.put, List.setIfInBounds_toArray, List.set_cons_zero, List.set_cons_succ, i64_w, i32_w]
                rfl
              refine pure_ (i := 1) (N := some 99) (v := ?_) (a' := ?_) #[true, true, false, false, false, false, false, false, false, false, false, false, false, false, false, false] rfl rfl (by kernel_rfl) (fun _ _ _ h => h) (Or.inl ⟨by rfl, ?_⟩) ?_ ?_
              rotate_left
              · intro w'
                go_simp
                with_reducible rfl
              rotate_left
              · simp only [Act.put, List.setIfInBounds_toArray, List.set_cons_zero, List.set_cons_succ, i64_w, i32_w]
                rfl
              refine take_ (i := 2) (N := some 100) (v := ?_) (a' := ?_) #[true, true, true, false, false, false, false, false, false, false, false, false, false, false, false, false] rfl rfl (by kernel_rfl) (fun _ _ _ h => h) (Or.inl ⟨by rfl, ?_⟩) hHeld ?_ ?_
              rotate_left
              · intro w' hS'
                obtain ⟨B, hS'⟩ := hS'
                have s0 := (blk_cell hS' 0).trans rfl
                have s2 := (blk_cell hS' 2).trans rfl
                clear hS'
                go_simp
                with_reducible rfl
              rotate_left
              · simp only [Act.put, List.setIfInBounds_toArray, List.set_cons_zero, List.set_cons_succ, i64_w, i32_w]
                rfl
              refine pure_ (i := 3) (N := some 101) (v := ?_) (a' := ?_) #[true, true, true, true, false, false, false, false, false, false, false, false, false, false, false, false] rfl rfl (by kernel_rfl) (fun _ _ _ h => h) (Or.inl ⟨by rfl, ?_⟩) ?_ ?_
              rotate_left
              · intro w'
                go_simp
                with_reducible rfl
              rotate_left
              · simp only [Act.put, List.setIfInBounds_toArray, List.set_cons_zero, List.set_cons_succ, i64_w, i32_w]
                rfl
              refine pure_ (i := 4) (N := some 102) (v := ?_) (a' := ?_) #[true, true, true, true, true, false, false, false, false, false, false, false, false, false, false, false] rfl rfl (by kernel_rfl) (fun _ _ _ h => h) (Or.inl ⟨by rfl, ?_⟩) ?_ ?_
              rotate_left
              · intro w'
                go_simp
                with_reducible rfl
              rotate_left
              · simp only [Act.put, List.setIfInBounds_toArray, List.set_cons_zero, List.set_cons_succ, i64_w, i32_w]
                rfl
              refine pure_ (i := 5) (N := some 103) (v := ?_) (a' := ?_) #[true, true, true, true, true, true, false, false, false, false, false, false, false, false, false, false] rfl rfl (by kernel_rfl) (fun _ _ _ h => h) (Or.inl ⟨by rfl, ?_⟩) ?_ ?_
              rotate_left
              · intro w'
                go_simp
                with_reducible rfl
              rotate_left
              · simp only [Act.put, List.setIfInBounds_toArray, List.set_cons_zero, List.set_cons_succ, i64_w, i32_w]
                rfl
              refine pure_ (i := 6) (N := some 104) (v := ?_) (a' := ?_) #[true, true, true, true, true, true, true, false, false, false, false, false, false, false, false, false] rfl rfl (by kernel_rfl) (fun _ _ _ h => h) (Or.inl ⟨by rfl, ?_⟩) ?_ ?_
              rotate_left
              · intro w'
                go_simp
                with_reducible rfl
              rotate_left
              · simp only [Act.put, List.setIfInBounds_toArray, List.set_cons_zero, List.set_cons_succ, i64_w, i32_w]
                rfl
              refine pure_ (i := 7) (N := some 105) (v := ?_) (a' := ?_) #[true, true, true, true, true, true, true, true, false, false, false, false, false, false, false, false] rfl rfl (by kernel_rfl) (fun _ _ _ h => h) (Or.inl ⟨by rfl, ?_⟩) ?_ ?_
              rotate_left
              · intro w'
                go_simp
                with_reducible rfl
              rotate_left
              · simp only [Act.put, List.setIfInBounds_toArray, List.set_cons_zero, List.set_cons_succ, i64_w, i32_w]
                rfl
              refine pure_ (i := 8) (N := some 106) (v := ?_) (a' := ?_) #[true, true, true, true, true, true, true, true, true, false, false, false, false, false, false, false] rfl rfl (by kernel_rfl) (fun _ _ _ h => h) (Or.inl ⟨by rfl, ?_⟩) ?_ ?_
              rotate_left
              · intro w'
                go_simp
                with_reducible rfl
              rotate_left
              · simp only [Act.put, List.setIfInBounds_toArray, List.set_cons_zero, List.set_cons_succ, i64_w, i32_w]
                rfl
              refine take_ (i := 9) (N := some 107) (v := ?_) (a' := ?_) #[true, true, true, true, true, true, true, true, true, true, false, false, false, false, false, false] rfl rfl (by kernel_rfl) (fun _ _ _ h => h) (Or.inl ⟨by rfl, ?_⟩) hHeld ?_ ?_
              rotate_left
              · intro w' hS'
                obtain ⟨B, hS'⟩ := hS'
                have s0 := (blk_cell hS' 0).trans rfl
                have s2 := (blk_cell hS' 2).trans rfl
                clear hS'
                go_simp
                with_reducible rfl
              rotate_left
              · simp only [Act.put, List.setIfInBounds_toArray, List.set_cons_zero, List.set_cons_succ, i64_w, i32_w]
                rfl
              refine pure_ (i := 10) (N := some 108) (v := ?_) (a' := ?_) #[true, true, true, true, true, true, true, true, true, true, true, false, false, false, false, false] rfl rfl (by kernel_rfl) (fun _ _ _ h => h) (Or.inl ⟨by rfl, ?_⟩) ?_ ?_
              rotate_left
              · intro w'
                go_simp
                with_reducible rfl
              rotate_left
              · simp only [Act.put, List.setIfInBounds_toArray, List.set_cons_zero, List.set_cons_succ, i64_w, i32_w]
                rfl
              refine pure_ (i := 11) (N := some 109) (v := ?_) (a' := ?_) #[true, true, true, true, true, true, true, true, true, true, true, true, false, false, false, false] rfl rfl (by kernel_rfl) (fun _ _ _ h => h) (Or.inl ⟨by rfl, ?_⟩) ?_ ?_
              rotate_left
              · intro w'
                go_simp
                with_reducible rfl
              rotate_left
              · simp only [Act.put, List.setIfInBounds_toArray, List.set_cons_zero, List.set_cons_succ, i64_w, i32_w]
                rfl
              refine pure_ (i := 12) (N := some 110) (v := ?_) (a' := ?_) #[true, true, true, true, true, true, true, true, true, true, true, true, true, false, false, false] rfl rfl (by kernel_rfl) (fun _ _ _ h => h) (Or.inl ⟨by rfl, ?_⟩) ?_ ?_
              rotate_left
              · intro w'
                go_simp
                with_reducible rfl
              rotate_left
              · simp only [Act.put, List.setIfInBounds_toArray, List.set_cons_zero, List.set_cons_succ, i64_w, i32_w]
                rfl
              obtain ⟨w5b, hw5b⟩ : ∃ w', w' = w5.drew.alloc (.cells (vevCs (⟨ve.num, ⟨A12, ve.steps.length, c12⟩, q10⟩ : VeV)).toArray 53) := ⟨_, rfl⟩
              have hb5b : Below w5.heap.size w5 w5b := by rw [hw5b]; exact below_step (below_drew1 (Below.refl _ _)) (below_alloc (Below.refl _ _) _)
              have HB5B := Aside0.mk hb5b
              have HW5B := Aside0.mk hw5b
              have HX10b := Aside0.mk (blk_below HX105.out hb5b)
              refine one_ (i := 13) (N := some 111) #[true, true, true, true, true, true, true, true, true, true, true, true, true, true, false, false] rfl rfl (by kernel_rfl) (by decide) (fun K hK => ?_)
              refine value_ (w1 := w5b) (v := ?_) (by rfl) rfl ?_ ?_
              rotate_left
              · rw [hw5b]
                go_simp
                first | rfl | (constructor <;> rfl)
              clear hw5b hb5b
              refine hK.out _ _ ⟨_, HX10b.out⟩ (fun hHeld => ?_)
              clear hK K
              refine one_ (i := 14) (N := some 112) #[true, true, true, true, true, true, true, true, true, true, true, true, true, true, true, false] rfl rfl (by kernel_rfl) (by decide) (fun K hK => ?_)
              refine Kd.R_step_at (N := some 112) rfl kve (w0 := w7) w7.heap.size (by rfl) (.tmp 98) (.tmp 111) 48 53 (.agg #[.int .u64 0, .slice none 0 0, .int .i64 0]) 40 rfl Tryd.underlying48 infoVe rfl (by decide) (by omega) (.slice A8 k c8) fV (⟨ve.num, ⟨A12, ve.steps.length, c12⟩, q10⟩ : VeV) (vevCs (⟨ve.num, ⟨A12, ve.steps.length, c12⟩, q10⟩ : VeV)) (fun _ => True) (fun _ => False) (by rfl) ⟨w5.heap.size, 0, none⟩ 1 (by rfl) (by rw [HW5B.out]; exact World.news_of_block (cs := (vevCs (⟨ve.num, ⟨A12, ve.steps.length, c12⟩, q10⟩ : VeV)).toArray) (t := 53) (fr := (0, 0)) (heap_alloc_new _ _)) (kve_mkM _ _ _ (⟨ve.num, ⟨A12, ve.steps.length, c12⟩, q10⟩ : VeV)) (fun _ hk => hk.elim) (fun _ _ => trivial) (Kd.R_below HRV5.out HB5B.out) (below_step HBk5.out HB5B.out) (below_step HBk5.out HB5B.out).size (by rw [HVL.out]; have := HS1.out.1; have := HKL.out; omega) ?_
              intro v1 w12 ho hb12 hwt
              obtain ⟨A8', c8', hv8'⟩ := Kd.R_slice ho
              rw [List.length_append, HVL.out, List.length_singleton] at hv8'
              subst hv8'
              have hg12 := hwt.grown
              have HO12 := Aside0.mk ho
              have HB12 := Aside0.mk hb12
              have HK12 := Aside0.mk (KeepT.grown (ts := [46, 55]) (Kd.R_below HRV5.out HB5B.out) hg12 (by decide))
              have HX10c := Aside0.mk (show ∃ B, w12.heap[b10]? = some (.cells #[.int .u64 ve.num, B, .int .i64 ve.pl] 53 (0, 0)) from ⟨_, blk_grown HX10b.out hg12 (fun e => by have h1 := Kd.R_lt HRV.out b10 e.symm; rw [HZ10.out] at h1; omega)⟩)
              clear ho hb12 hwt hg12
              refine hK.out _ _ HX10c.out (fun hHeld => ?_)
              clear hK K
              refine pure_ (i := 15) (N := some 8) (v := ?_) (a' := ?_) #[true, true, true, true, true, true, true, true, true, true, true, true, true, true, true, true] rfl rfl (by kernel_rfl) (fun _ _ _ h => h) (Or.inl ⟨by rfl, ?_⟩) ?_ ?_
              rotate_left
              · intro w'
                go_simp
                with_reducible rfl
              rotate_left
              · simp only [Act.put, List.setIfInBounds_toArray, List.set_cons_zero, List.set_cons_succ, i64_w, i32_w]
                rfl
              refine done_ (by kernel_rfl) ?_
              clear hcut
              go_wp2_with fail
              rw [W2.out]
              go_roundw
              case measure => have := HKL.out; simp only [left, Int.toNat_natCast]; omega
              case rel =>
                refine ⟨k + 1, fV ++ [(⟨ve.num, ⟨A12, ve.steps.length, c12⟩, q10⟩ : VeV)], rfl, ⟨HKL.out⟩, HO12, ⟨?_⟩, HB12⟩
                rw [map_next (shV p) ev.vers k ve HK.out]
                have kb := (KeepT.below (ts := [46, 55]) HB5B.out).trans HK12.out
                have h := HVP5.out.keep kb (by decide) (by decide)
                exact zip_snoc h.1 h.2 ⟨⟨rfl, HQ10.out⟩, HLS5.out.keep kb (by decide) (by decide)⟩
        · have d1 : decide ((k : Int) < (ev.vers.length : Int)) = false := decide_eq_false (by omega)
          have d2 : decide (k < ev.vers.length) = false := decide_eq_false ck
          have hke : k = ev.vers.length := by have := hk.out; omega
          subst hke
          obtain ⟨A8, c8, hv8⟩ := Kd.R_slice HRV.out
          have hfl : fV.length = ev.vers.length := by have h := HVP.out.1; rw [map_len _ _ _ (Nat.le_refl _)] at h; exact h
          rw [hfl] at hv8
          subst hv8
          have HFL := Aside0.mk hfl
          have HN6 : Aside0 (ev.vers.length ≤ 65536) := ⟨HS1.out.1⟩
          have HVPn : Aside0 (VP wb fV (ev.vers.map (shV p))) := ⟨by have h := HVP.out; rwa [List.take_length] at h⟩
          obtain ⟨q7, hq7⟩ : ∃ q, q = wrap64 (ev.pl + p) := ⟨_, rfl⟩
          have HQ7 := Aside0.mk hq7
          have hq72 : ∀ [Inhabited Unit], wrap64 (ev.pl + p) = q7 := by intro _; exact hq7.symm
          have hq73 : IntKind.i64.wrap (ev.pl + p) = q7 := by rw [i64_w]; exact hq7.symm
          have W5 : ∀ [Inhabited Unit], wrap64 (ev.vers.length : Int) = (ev.vers.length : Int) := by intro _; have := HN6.out; unfold wrap64; omega
          have W6 : IntKind.i64.wrap (ev.vers.length : Int) = (ev.vers.length : Int) := by have := HN6.out; rw [i64_w]; unfold wrap64; omega
          have W7 : IntKind.i64.wrap (((ev.vers.length + 1 : Nat) : Int) - 1) = (ev.vers.length : Int) := by have := HN6.out; rw [i64_w]; unfold wrap64; omega
          have W8 : ∀ [Inhabited Unit], wrap64 (((ev.vers.length + 1 : Nat) : Int) - 1) = (ev.vers.length : Int) := by intro _; have := HN6.out; unfold wrap64; omega
          clear hq7 hfl ck
          go_wp2_with (first
            | ((with_reducible refine gate_builtin (b := .append) (xs := #[.tmp 113, .tmp 115]) rfl ?_); go_must (at_builtin; refine Kd.R_append kve (w0 := w7) w7.heap.size rfl (.tmp 113) (.tmp 115) 48 53 (.agg #[.int .u64 0, .slice none 0 0, .int .i64 0]) 40 rfl Tryd.underlying48 infoVe rfl (by decide) (by omega) (.slice A8 ev.vers.length c8) fV mV [.int .u64 77, .slice none 0 0, .int .i64 0] (fun _ => True) (fun _ => False) rfl (by first | rfl | simp [Act.eval]) (kve_mkM _ _ _ mV) (fun _ hk => hk.elim) (fun _ _ => trivial) HRV.out HBk.out HBk.out.size (by rw [HFL.out]; have := HN6.out; omega) ?_; intro v1 w5 ho hb hg hat; obtain ⟨A12, c12, hv12⟩ := Kd.R_slice ho; rw [List.length_append, HFL.out, List.length_singleton] at hv12; subst hv12; have HO11 := Aside0.mk ho; have HB11 := Aside0.mk hb; have HX75 := Aside0.mk (blk_grown (blk_below HX7.out HBk.out) hg (Kd.R_ne HRV.out (blk_below HX7.out HBk.out) (by decide))); have HVP5 := Aside0.mk (HVPn.out.keep (KeepT.grown (ts := [46, 55]) HRV.out hg (by decide)) (by decide) (by decide)); clear ho hb hg hat z1))
            | fail)
          have hroom := (Kd.R_reads' HO11.out).2.1
          obtain ⟨i0, hi0, _, hsz0, _⟩ := info_parts infoVe
          have hcut := cut_to (P := Tryd.prog) 48 53 .i64 Tryd.underlying48 hi0 A12 (ev.vers.length + 1) c12 (ev.vers.length : Int) (by omega) (by omega) (by have := hroom; omega)
          rw [Int.toNat_natCast] at hcut
          have HLV5 : Aside0 (LV w5 ⟨A12, ev.vers.length, c12⟩ (ev.vers.map (shV p))) := ⟨by
            obtain ⟨g, h1, h2, h3, h4, h5⟩ := R_row (cells := vevCs) (sz := 3) kve_openM rfl HO11.out (by simp)
            rw [List.length_append, List.length_singleton, HFL.out] at h3
            exact ⟨g, fV, h1, by rw [List.length_map], by rw [List.length_map]; exact h3, h5, HVP5.out⟩⟩
          have HBa5 := Aside0.mk (below_step HB7.out HB11.out)
          have HRE5 := Aside0.mk (Kd.R_below HRE.out HBa5.out)
          have HEP5 := Aside0.mk (HEP.out.keep (ts := [46, 55, 53]) (KeepT.below HBa5.out) (by decide) (by decide) (by decide))
          have HB5 := Aside0.mk (below_step HB.out HBa5.out)
          have HX05 : Aside0 (w5.heap[b0]? = some (.cells #[.slice (some ad) es.length c] 24 (0, 0)) ∧ w5.heap[b0 + 1]? = some (.cells #[.slice none 0 0] 24 (0, 0)) ∧ w5.heap[b0 + 2]? = some (.cells #[vE] 24 (0, 0))) := ⟨blk_below HX.out.1 HBa5.out, blk_below HX.out.2.1 HBa5.out, blk_below HX.out.2.2 HBa5.out⟩
          obtain ⟨AE, cE, hvE⟩ := Kd.R_slice HRE5.out
          have hel : fE.length = i := by have h := HEP.out.1; rw [map_len _ _ _ hi.out] at h; exact h
          rw [hel] at hvE
          subst hvE
          have HEL := Aside0.mk hel
          have HZb : Aside0 (b0 + 3 ≤ w5.heap.size) := ⟨by have h1 := blk_lt HX05.out.2.2; omega⟩
          clear hroom hi0 hsz0 hel
          go_wp2
          refine start_ (n := 18) (S := (fun w' : World => w'.cell? ⟨b0 + 2, 0, none⟩ = some (.slice AE i cE) ∧ w'.cell? ⟨b7, 0, none⟩ = some (.string ev.name) ∧ w'.cell? ⟨b7, 2, none⟩ = some (.int .i64 ev.pl))) (ds := [17]) #[false, false, false, false, false, false, false, false, false, false, false, false, false, false, false, false, false, false] (by kernel_rfl) rfl rfl (show _ ∧ _ from ⟨(blk_cell HX05.out.2.2 0).trans rfl, (blk_cell HX75.out 0).trans rfl, (blk_cell HX75.out 2).trans rfl⟩) (fun hHeld => ?_)
          refine pure_ (i := 0) (N := some 117) (v := ?_) (a' := ?_) #[true, false, false, false, false, false, false, false, false, false, false, false, false, false, false, false, false, false] rfl rfl (by kernel_rfl) (fun _ _ _ h => h) (Or.inl ⟨by rfl, ?_⟩) ?_ ?_
          rotate_left
          · intro w'
            go_simp
            with_reducible rfl
          rotate_left
          · simp only [Act.put, List.setIfInBounds_toArray, List.set_cons_zero, List.set_cons_succ, i64_w, i32_w]
            rfl
          refine take_ (i := 1) (N := some 118) (v := ?_) (a' := ?_) #[true, true, false, false, false, false, false, false, false, false, false, false, false, false, false, false, false, false] rfl rfl (by kernel_rfl) (fun _ _ _ h => h) (Or.inl ⟨by rfl, ?_⟩) hHeld ?_ ?_
          rotate_left
          · intro w' hS'
            obtain ⟨s0, s1, s2⟩ : w'.cell? ⟨b0 + 2, 0, none⟩ = some (.slice AE i cE) ∧ w'.cell? ⟨b7, 0, none⟩ = some (.string ev.name) ∧ w'.cell? ⟨b7, 2, none⟩ = some (.int .i64 ev.pl) := hS'
            go_simp
            with_reducible rfl
          rotate_left
          · simp only [Act.put, List.setIfInBounds_toArray, List.set_cons_zero, List.set_cons_succ, i64_w, i32_w]
            rfl
          refine pure_ (i := 2) (N := some 119) (v := ?_) (a' := ?_) #[true, true, true, false, false, false, false, false, false, false, false, false, false, false, false, false, false, false] rfl rfl (by kernel_rfl) (fun _ _ _ h => h) (Or.inl ⟨by rfl, ?_⟩) ?_ ?_
          rotate_left
          · intro w'
            go_simp
            with_reducible rfl
          rotate_left
          · simp only [Act.put, List.setIfInBounds_toArray, List.set_cons_zero, List.set_cons_succ, i64_w, i32_w]
            rfl
          refine take_ (i := 3) (N := some 120) (v := ?_) (a' := ?_) #[true, true, true, true, false, false, false, false, false, false, false, false, false, false, false, false, false, false] rfl rfl (by kernel_rfl) (fun _ _ _ h => h) (Or.inl ⟨by rfl, ?_⟩) hHeld ?_ ?_
          rotate_left
          · intro w' hS'
            obtain ⟨s0, s1, s2⟩ : w'.cell? ⟨b0 + 2, 0, none⟩ = some (.slice AE i cE) ∧ w'.cell? ⟨b7, 0, none⟩ = some (.string ev.name) ∧ w'.cell? ⟨b7, 2, none⟩ = some (.int .i64 ev.pl) := hS'
            go_simp
            with_reducible rfl
          rotate_left
          · simp only [Act.put, List.setIfInBounds_toArray, List.set_cons_zero, List.set_cons_succ, i64_w, i32_w]
            rfl
          refine pure_ (i := 4) (N := some 121) (v := ?_) (a' := ?_) #[true, true, true, true, true, false, false, false, false, false, false, false, false, false, false, false, false, false] rfl rfl (by kernel_rfl) (fun _ _ _ h => h) (Or.inl ⟨by rfl, ?_⟩) ?_ ?_
          rotate_left
          · intro w'
            go_simp
            with_reducible rfl
          rotate_left
          · simp only [Act.put, List.setIfInBounds_toArray, List.set_cons_zero, List.set_cons_succ, i64_w, i32_w]
            rfl
          refine pure_ (i := 5) (N := some 122) (v := ?_) (a' := ?_) #[true, true, true, true, true, true, false, false, false, false, false, false, false, false, false, false, false, false] rfl rfl (by kernel_rfl) (fun _ _ _ h => h) (Or.inl ⟨by rfl, ?_⟩) ?_ ?_
          rotate_left
          · intro w'
            go_simp
            with_reducible rfl
          rotate_left
          · simp only [Act.put, List.setIfInBounds_toArray, List.set_cons_zero, List.set_cons_succ, i64_w, i32_w]
            rfl
          refine pure_ (i := 6) (N := some 123) (v := ?_) (a' := ?_) #[true, true, true, true, true, true, true, false, false, false, false, false, false, false, false, false, false, false] rfl rfl (by kernel_rfl) (fun _ _ _ h => h) (Or.inl ⟨by rfl, ?_⟩) ?_ ?_
          rotate_left
          · intro w'
            go_simp
            with_reducible rfl
          rotate_left
          · simp only [Act.put, List.setIfInBounds_toArray, List.set_cons_zero, List.set_cons_succ, i64_w, i32_w]
            rfl
          refine pure_ (i := 7) (N := some 124) (v := ?_) (a' := ?_) #[true, true, true, true, true, true, true, true, false, false, false, false, false, false, false, false, false, false] rfl rfl (by kernel_rfl) (fun _ _ _ h => h) (Or.inl ⟨by rfl, ?_⟩) ?_ ?_
          rotate_left
          · intro w'
            go_simp
            with_reducible rfl
          rotate_left
          · simp only [Act.put, List.setIfInBounds_toArray, List.set_cons_zero, List.set_cons_succ, i64_w, i32_w]
            rfl
          refine pure_ (i := 8) (N := some 125) (v := ?_) (a' := ?_) #[true, true, true, true, true, true, true, true, true, false, false, false, false, false, false, false, false, false] rfl rfl (by kernel_rfl) (fun _ _ _ h => h) (Or.inl ⟨by rfl, ?_⟩) ?_ ?_
          rotate_left
          · intro w'
            go_simp
            with_reducible rfl
          rotate_left
          · simp only [Act.put, List.setIfInBounds_toArray, List.set_cons_zero, List.set_cons_succ, i64_w, i32_w]
            rfl
          refine pure_ (i := 9) (N := some 126) (v := ?_) (a' := ?_) #[true, true, true, true, true, true, true, true, true, true, false, false, false, false, false, false, false, false] rfl rfl (by kernel_rfl) (fun _ _ _ h => h) (Or.inl ⟨by rfl, ?_⟩) ?_ ?_
          rotate_left
          · intro w'
            go_simp
            with_reducible rfl
          rotate_left
          · simp only [Act.put, List.setIfInBounds_toArray, List.set_cons_zero, List.set_cons_succ, i64_w, i32_w]
            rfl
          refine take_ (i := 10) (N := some 127) (v := ?_) (a' := ?_) #[true, true, true, true, true, true, true, true, true, true, true, false, false, false, false, false, false, false] rfl rfl (by kernel_rfl) (fun _ _ _ h => h) (Or.inl ⟨by rfl, ?_⟩) hHeld ?_ ?_
          rotate_left
          · intro w' hS'
            obtain ⟨s0, s1, s2⟩ : w'.cell? ⟨b0 + 2, 0, none⟩ = some (.slice AE i cE) ∧ w'.cell? ⟨b7, 0, none⟩ = some (.string ev.name) ∧ w'.cell? ⟨b7, 2, none⟩ = some (.int .i64 ev.pl) := hS'
            go_simp
            with_reducible rfl
          rotate_left
          · simp only [Act.put, List.setIfInBounds_toArray, List.set_cons_zero, List.set_cons_succ, i64_w, i32_w]
            rfl
          refine pure_ (i := 11) (N := some 128) (v := ?_) (a' := ?_) #[true, true, true, true, true, true, true, true, true, true, true, true, false, false, false, false, false, false] rfl rfl (by kernel_rfl) (fun _ _ _ h => h) (Or.inl ⟨by rfl, ?_⟩) ?_ ?_
          rotate_left
          · intro w'
            go_simp
            with_reducible rfl
          rotate_left
          · simp only [Act.put, List.setIfInBounds_toArray, List.set_cons_zero, List.set_cons_succ, i64_w, i32_w]
            rfl
          refine pure_ (i := 12) (N := some 129) (v := ?_) (a' := ?_) #[true, true, true, true, true, true, true, true, true, true, true, true, true, false, false, false, false, false] rfl rfl (by kernel_rfl) (fun _ _ _ h => h) (Or.inl ⟨by rfl, ?_⟩) ?_ ?_
          rotate_left
          · intro w'
            go_simp
            with_reducible rfl
          rotate_left
          · simp only [Act.put, List.setIfInBounds_toArray, List.set_cons_zero, List.set_cons_succ, i64_w, i32_w]
            rfl
          refine pure_ (i := 13) (N := some 130) (v := ?_) (a' := ?_) #[true, true, true, true, true, true, true, true, true, true, true, true, true, true, false, false, false, false] rfl rfl (by kernel_rfl) (fun _ _ _ h => h) (Or.inl ⟨by rfl, ?_⟩) ?_ ?_
          rotate_left
          · intro w'
            go_simp
            with_reducible rfl
          rotate_left
          · simp only [Act.put, List.setIfInBounds_toArray, List.set_cons_zero, List.set_cons_succ, i64_w, i32_w]
            rfl
          obtain ⟨w5b, hw5b⟩ : ∃ w', w' = w5.drew.alloc (.cells (evvCs (⟨ev.name, ⟨A12, ev.vers.length, c12⟩, q7⟩ : EvV)).toArray 50) := ⟨_, rfl⟩
          have hb5b : Below w5.heap.size w5 w5b := by rw [hw5b]; exact below_step (below_drew1 (Below.refl _ _)) (below_alloc (Below.refl _ _) _)
          have HB5B := Aside0.mk hb5b
          have HW5B := Aside0.mk hw5b
          have HX7b := Aside0.mk (blk_below HX75.out hb5b)
          have HX2b := Aside0.mk (blk_below HX05.out.2.2 hb5b)
          refine one_ (i := 14) (N := some 131) #[true, true, true, true, true, true, true, true, true, true, true, true, true, true, true, false, false, false] rfl rfl (by kernel_rfl) (by decide) (fun K hK => ?_)
          refine value_ (w1 := w5b) (v := ?_) (by rfl) rfl ?_ ?_
          rotate_left
          · rw [hw5b]
            go_simp
            first | rfl | (constructor <;> rfl)
          clear hw5b hb5b
          refine hK.out _ _ (show _ ∧ _ from ⟨(blk_cell HX2b.out 0).trans rfl, (blk_cell HX7b.out 0).trans rfl, (blk_cell HX7b.out 2).trans rfl⟩) (fun hHeld => ?_)
          clear hK K
          refine one_ (i := 15) (N := some 132) #[true, true, true, true, true, true, true, true, true, true, true, true, true, true, true, true, false, false] rfl rfl (by kernel_rfl) (by decide) (fun K hK => ?_)
          refine Kd.R_step_at (N := some 132) rfl kev (w0 := w5b) (b0 + 3) (by rfl) (.tmp 118) (.tmp 131) 22 50 (.agg #[.string ⟨#[]⟩, .slice none 0 0, .int .i64 0]) 48 rfl Tryd.underlying22 infoEv rfl (by decide) (by omega) (.slice AE i cE) fE (⟨ev.name, ⟨A12, ev.vers.length, c12⟩, q7⟩ : EvV) (evvCs (⟨ev.name, ⟨A12, ev.vers.length, c12⟩, q7⟩ : EvV)) (fun _ => True) (fun _ => False) (by rfl) ⟨w5.heap.size, 0, none⟩ 1 (by rfl) (by rw [HW5B.out]; exact World.news_of_block (cs := (evvCs (⟨ev.name, ⟨A12, ev.vers.length, c12⟩, q7⟩ : EvV)).toArray) (t := 50) (fr := (0, 0)) (heap_alloc_new _ _)) (kev_mkM _ _ _ (⟨ev.name, ⟨A12, ev.vers.length, c12⟩, q7⟩ : EvV)) (fun _ hk => hk.elim) (fun _ _ => trivial) (Kd.R_below HRE5.out HB5B.out) (Below.refl _ _) (by have := HZb.out; have := HB5B.out.size; omega) (by rw [HEL.out]; have := HS.out.1; have := HIL.out; omega) ?_
          intro v1 w12 ho hb12 hwt
          obtain ⟨AE', cE', hv8'⟩ := Kd.R_slice ho
          rw [List.length_append, HEL.out, List.length_singleton] at hv8'
          subst hv8'
          have hg12 := hwt.grown
          have HO12 := Aside0.mk ho
          have HB12 := Aside0.mk hb12
          have HK12 := Aside0.mk (KeepT.grown (ts := [46, 55, 53]) (Kd.R_below HRE5.out HB5B.out) hg12 (by decide))
          have HX7c := Aside0.mk (blk_grown HX7b.out hg12 (fun e => by have h1 := Kd.R_lt HRE.out b7 e.symm; rw [HZ7.out] at h1; omega))
          have HX2c := Aside0.mk (blk_grown HX2b.out hg12 (fun e => by have h1 := Kd.R_base HRE.out (b0 + 2) e.symm; omega))
          have HX0c := Aside0.mk (blk_grown (blk_below HX05.out.1 HB5B.out) hg12 (fun e => by have h1 := Kd.R_base HRE.out b0 e.symm; omega))
          have HX1c := Aside0.mk (blk_grown (blk_below HX05.out.2.1 HB5B.out) hg12 (fun e => by have h1 := Kd.R_base HRE.out (b0 + 1) e.symm; omega))
          clear ho hb12 hwt hg12
          refine hK.out _ _ (show _ ∧ _ from ⟨(blk_cell HX2c.out 0).trans rfl, (blk_cell HX7c.out 0).trans rfl, (blk_cell HX7c.out 2).trans rfl⟩) (fun hHeld => ?_)
          clear hK K
          refine pure_ (i := 16) (N := some 133) (v := ?_) (a' := ?_) #[true, true, true, true, true, true, true, true, true, true, true, true, true, true, true, true, true, false] rfl rfl (by kernel_rfl) (fun _ _ _ h => h) (Or.inl ⟨by rfl, ?_⟩) ?_ ?_
          rotate_left
          · intro w'
            go_simp
            with_reducible rfl
          rotate_left
          · simp only [Act.put, List.setIfInBounds_toArray, List.set_cons_zero, List.set_cons_succ, i64_w, i32_w]
            rfl
          have yo := (blk_cell HX2c.out 0).trans rfl
          have fo := blk_frozen HX2c.out 0
          refine last_ (i := 17) (N := none) #[true, true, true, true, true, true, true, true, true, true, true, true, true, true, true, true, true, true] rfl rfl (by kernel_rfl) (by decide) (fun K hK => ?_)
          refine skip_ (w1 := ?_) (by rfl) rfl ?_ ?_
          rotate_left
          · go_simp
            first | rfl | (constructor <;> rfl)
          refine hK.out _ _ ?_
          clear hK K
          refine done_ (by kernel_rfl) ?_
          clear hcut yo fo
          go_wp2_with fail
          rw [W1.out]
          go_roundw
          case measure => have := HIL.out; simp only [left, Int.toNat_natCast]; omega
          case rel =>
            have hbw : Below w.heap.size w w12 := HB5.out.trans ((Below.lowr HB5B.out HB5.out.size).trans (Below.lowr HB12.out (by rw [← HBZ.out]; omega)))
            have kb := (KeepT.below (ts := [46, 55, 53]) HB5B.out).trans HK12.out
            have ks : KeepT [46, 55, 53] w12 (w12.setCell ⟨b0 + 2, 0, none⟩ (.slice AE' (i + 1) cE')) := ⟨fun ht h => h.grown (grown_set w12 (b0 + 2) 0 _) (t' := 24) (fun e => by rw [e] at ht; revert ht; decide) (fun k hk => by injection hk with hk; subst hk; exact ⟨_, HX2c.out⟩)⟩
            refine ⟨i + 1, .slice AE' (i + 1) cE', fE ++ [(⟨ev.name, ⟨A12, ev.vers.length, c12⟩, q7⟩ : EvV)], rfl, ⟨HIL.out⟩, ⟨blk_far HX0c.out (p := ⟨b0 + 2, 0, none⟩) (by show b0 ≠ b0 + 2; omega) _, blk_far HX1c.out (p := ⟨b0 + 2, 0, none⟩) (by show b0 + 1 ≠ b0 + 2; omega) _, blk_set HX2c.out 0 _⟩, ⟨Kd.R_set HO12.out HX2c.out (by decide) 0 _⟩, ⟨?_⟩, ⟨hbw.setCell (p := ⟨b0 + 2, 0, none⟩) (by rw [← HBZ.out]; show b0 ≤ b0 + 2; omega) _⟩⟩
            rw [map_next (shE p) es i ev HI.out]
            have h := (HEP5.out.keep kb (by decide) (by decide) (by decide)).keep ks (by decide) (by decide) (by decide)
            exact zip_snoc h.1 h.2 ⟨⟨rfl, HQ7.out⟩, (HLV5.out.keep kb (by decide) (by decide) (by decide)).keep ks (by decide) (by decide) (by decide)⟩
    · have c1 : decide ((i : Int) < (es.length : Int)) = false := decide_eq_false (by omega)
      have c2 : decide (i < es.length) = false := decide_eq_false ci
      have hie : i = es.length := by have := hi.out; omega
      subst hie
      obtain ⟨AE, cE, hvE⟩ := Kd.R_slice HRE.out
      have hel : fE.length = es.length := by have h := HEP.out.1; rw [map_len _ _ _ (Nat.le_refl _)] at h; exact h
      rw [hel] at hvE
      subst hvE
      have HEL := Aside0.mk hel
      have HEPn : Aside0 (EP wa fE (es.map (shE p))) := ⟨by have h := HEP.out; rwa [List.take_length] at h⟩
      have HREw : Aside0 (Kd.R kev 50 wa w.heap.size (fun _ => True) (.slice AE es.length cE) fE) := ⟨R_flat flat_ev HRE.out (fun _ _ => rfl) (fun k hk => by have := Kd.R_base HRE.out k hk; rw [← HBZ.out]; omega)⟩
      have y2 := (blk_cell HX.out.2.2 0).trans rfl
      have W8 : ∀ [Inhabited Unit], wrap64 (es.length : Int) = (es.length : Int) := by intro _; have := HS.out.1; unfold wrap64; omega
      clear hel ci
      go_wp2_with (first
        | ((with_reducible refine gate_builtin (b := .append) (xs := #[.tmp 135, .tmp 137]) rfl ?_); go_must (at_builtin; refine Kd.R_append kev (w0 := w) w.heap.size rfl (.tmp 135) (.tmp 137) 22 50 (.agg #[.string ⟨#[]⟩, .slice none 0 0, .int .i64 0]) 48 rfl Tryd.underlying22 infoEv rfl (by decide) (by omega) (.slice AE es.length cE) fE mE [.string ⟨#[109, 97, 114, 107]⟩, .slice none 0 0, .int .i64 0] (fun _ => True) (fun _ => False) rfl (by first | rfl | simp [Act.eval]) (kev_mkM _ _ _ mE) (fun _ hk => hk.elim) (fun _ _ => trivial) HREw.out HB.out HB.out.size (by rw [HEL.out]; have := HS.out.1; omega) ?_; intro v1 w5 ho hb hg hat; obtain ⟨A12, c12, hv12⟩ := Kd.R_slice ho; rw [List.length_append, HEL.out, List.length_singleton] at hv12; subst hv12; have HO11 := Aside0.mk ho; have HB11 := Aside0.mk hb; have HX15 := Aside0.mk (blk_grown HX.out.2.1 hg (Kd.R_ne HRE.out HX.out.2.1 (by decide))); have HEP5 := Aside0.mk (HEPn.out.keep (KeepT.grown (ts := [46, 55, 53]) HRE.out hg (by decide)) (by decide) (by decide) (by decide)); have hroom := (Kd.R_reads' ho).2.1; obtain ⟨i0, hi0, _, hsz0, _⟩ := info_parts infoEv; have hcut := cut_to (P := Tryd.prog) 22 50 .i64 Tryd.underlying22 hi0 A12 (es.length + 1) c12 (es.length : Int) (by omega) (by omega) (by have := hroom; omega); rw [Int.toNat_natCast] at hcut; have yo := (blk_cell HX15.out 0).trans rfl; have fo := blk_frozen HX15.out 0; clear ho hb hg hat y0 y2 hroom hi0 hsz0))
        | fail)
      refine bodyPost_ret (results_c rfl _ _ (b0 + 1) 24 #[.slice A12 es.length c12] (0, 0) _ rfl (blk_set HX15.out 0 _) Tryd.underlying24 rfl (by kernel_rfl)) rfl ?_
      have ks : KeepT [46, 55, 53, 50] w5 (w5.setCell ⟨b0 + 1, 0, none⟩ (.slice A12 es.length c12)) := ⟨fun ht h => h.grown (grown_set w5 (b0 + 1) 0 _) (t' := 24) (fun e => by rw [e] at ht; revert ht; decide) (fun k hk => by injection hk with hk; subst hk; exact ⟨_, HX15.out⟩)⟩
      refine ⟨⟨A12, es.length, c12⟩, rfl, ?_, HB11.out.setCell (p := ⟨b0 + 1, 0, none⟩) (by rw [← HBZ.out]; show b0 ≤ b0 + 1; omega) _⟩
      obtain ⟨g, h1, h2, h3, h4, h5⟩ := R_row (cells := evvCs) (sz := 3) kev_openM rfl HO11.out (by simp)
      rw [List.length_append, List.length_singleton, HEL.out] at h3
      exact ⟨g, fE, h1, by rw [List.length_map], by rw [List.length_map]; exact h3, ks.row (by decide) h5, HEP5.out.keep ks (by decide) (by decide) (by decide)⟩
end Go.Proofs.YtaijoghpfobdbaaDoor.W
end
section
set_option linter.unusedVariables false
set_option linter.unusedSimpArgs false
namespace Go.Proofs.YtaijoghpfobdbaaDoor.W
open Go.RowKit Go.Proofs.YtaijoghpfobdbaaDoor.X Go.Proofs.YtaijoghpfobdbaaDoorW.PrintWords Go.Proofs.YtaijoghpfobdbaaDoorW.PrintLast Go.Proofs.YtaijoghpfobdbaaDoorW.PrintMore
open Go.Proofs.YtaijoghpfobdbaaDoor.P (Nd StD VeD EvD)
section
variable {P : Program}
theorem cut_cap (t e : TypeId) (kh : IntKind) {i : TypeInfo} (ht : P.underlying t = some (.slice e)) (hi : P.info? e = some i) (A : Option Addr) (n c : Nat) (j : Int) (h0 : 0 ≤ j) (hj : j ≤ c) :
    ∀ W : World, (Instr.slice t (.slice A n c) none (some (.int kh j)) none).run P W = .ok (.slice A j.toNat c) W := by
  intro W
  have hel : P.elem t = e := by simp [Program.elem, ht]
  have hu : P.underlying t = some (.slice (P.elem t)) := by rw [hel]; exact ht
  have ha : (A.map fun x => x.add 0) = A := by cases A <;> simp [Addr.add]
  rw [run_slice_h W t A n c hu kh j h0 hj, hel]
  simp [sizeOf, typeInfo, hi, sliced, Result.andThen, ha]
end
theorem Row.cellB {α : Type} {cells : α → List Value} {sz t : Nat} {w w' : World} {g : Nat} {xs : List α} (h : Row cells sz t w g xs) (hb : Below w.heap.size w w') {j : Nat} {p : α} (hj : xs[j]? = some p) {i : Nat} {u : Value} (hi : (cells p)[i]? = some u) : w'.cell? ⟨g, j * sz + i, none⟩ = some u := (h.below hb).cell hj hi
theorem mark_at {α : Type} {fs : List α} {m : α} {n : Nat} (h : fs.length = n) : (fs ++ [m])[n]? = some m := by rw [← h, List.getElem?_concat_length]
theorem map_at {α β : Type} {f : α → β} {l : List α} {i : Nat} {x : α} (h : l[i]? = some x) : (l.map f)[i]? = some (f x) := by rw [List.getElem?_map, h]; rfl
theorem LN.view {w : World} {s : Sl} {ns : List Nd} {p : Int} (h : LN w s (ns.map (shN p))) : ∃ g, s.A = some ⟨g, 0, none⟩ ∧ ns.length + 1 ≤ s.c ∧ ∀ w', Below w.heap.size w w' → w'.cell? ⟨g, ns.length * 5, none⟩ = some (.int .i64 77) ∧ ∀ (m : Nat) (n : Nd), ns[m]? = some n → w'.cell? ⟨g, m * 5 + 4, none⟩ = some (.int .i64 (wrap64 (n.f4 + p))) := by
  obtain ⟨g, h1, h2, h3, h4⟩ := h
  rw [List.length_map] at h3
  refine ⟨g, h1, h3, fun w' hb => ⟨?_, fun m n hm => ?_⟩⟩
  · have := h4.cellB hb (mark_at (m := mN) (show (ns.map (shN p)).length = ns.length by simp)) (i := 0) rfl
    rw [Nat.add_zero] at this; exact this
  · exact h4.cellB hb (front (map_at hm)) (i := 4) rfl
theorem LS.view {w : World} {s : Sl} {ss : List StD} {p : Int} (h : LS w s (ss.map (shS p))) : ∃ g, s.A = some ⟨g, 0, none⟩ ∧ ss.length + 1 ≤ s.c ∧ (∀ w', Below w.heap.size w w' → w'.cell? ⟨g, ss.length * 8, none⟩ = some (.int .i64 77)) ∧ ∀ (j : Nat) (d : StD), ss[j]? = some d → ∃ sn, LN w sn (d.val.map (shN p)) ∧ ∀ w', Below w.heap.size w w' → w'.cell? ⟨g, j * 8 + 6, none⟩ = some (.slice sn.A d.val.length sn.c) ∧ w'.cell? ⟨g, j * 8 + 7, none⟩ = some (.int .i64 (wrap64 (d.pl + p))) := by
  obtain ⟨g, fs, h1, h2, h3, h4, h5⟩ := h
  rw [List.length_map] at h3
  have hl : fs.length = ss.length := by have := h5.1; rwa [List.length_map] at this
  refine ⟨g, h1, h3, fun w' hb => ?_, fun j d hj => ?_⟩
  · have := h4.cellB hb (mark_at (m := mS) hl) (i := 0) rfl
    rw [Nat.add_zero] at this; exact this
  · obtain ⟨f, hf⟩ := zip_get h5.1 (map_at (f := shS p) hj)
    obtain ⟨⟨_, _, _, _, _, _, e6⟩, hn⟩ := h5.2 j f _ hf (map_at hj)
    refine ⟨f.s, hn, fun w' hb => ⟨?_, ?_⟩⟩
    · have := h4.cellB hb (front hf) (i := 6) rfl
      obtain ⟨_, _, q, _⟩ := hn
      rw [show (shS p d).val = d.val.map (shN p) from rfl, List.length_map] at q
      rw [q] at this; exact this
    · have := h4.cellB hb (front hf) (i := 7) rfl
      rw [e6] at this; exact this
theorem LV.view {w : World} {s : Sl} {vs : List VeD} {p : Int} (h : LV w s (vs.map (shV p))) : ∃ g, s.A = some ⟨g, 0, none⟩ ∧ vs.length + 1 ≤ s.c ∧ (∀ w', Below w.heap.size w w' → w'.cell? ⟨g, vs.length * 3, none⟩ = some (.int .u64 77)) ∧ ∀ (k : Nat) (v : VeD), vs[k]? = some v → ∃ ss, LS w ss (v.steps.map (shS p)) ∧ ∀ w', Below w.heap.size w w' → w'.cell? ⟨g, k * 3 + 1, none⟩ = some (.slice ss.A v.steps.length ss.c) ∧ w'.cell? ⟨g, k * 3 + 2, none⟩ = some (.int .i64 (wrap64 (v.pl + p))) := by
  obtain ⟨g, fs, h1, h2, h3, h4, h5⟩ := h
  rw [List.length_map] at h3
  have hl : fs.length = vs.length := by have := h5.1; rwa [List.length_map] at this
  refine ⟨g, h1, h3, fun w' hb => ?_, fun k v hk => ?_⟩
  · have := h4.cellB hb (mark_at (m := mV) hl) (i := 0) rfl
    rw [Nat.add_zero] at this; exact this
  · obtain ⟨f, hf⟩ := zip_get h5.1 (map_at (f := shV p) hk)
    obtain ⟨⟨_, e6⟩, hn⟩ := h5.2 k f _ hf (map_at hk)
    refine ⟨f.s, hn, fun w' hb => ⟨?_, ?_⟩⟩
    · have := h4.cellB hb (front hf) (i := 1) rfl
      obtain ⟨_, _, _, q, _⟩ := hn
      rw [show (shV p v).steps = v.steps.map (shS p) from rfl, List.length_map] at q
      rw [q] at this; exact this
    · have := h4.cellB hb (front hf) (i := 2) rfl
      rw [e6] at this; exact this
theorem LE.view {w : World} {s : Sl} {es : List EvD} {p : Int} (h : LE w s (es.map (shE p))) : ∃ g, s.A = some ⟨g, 0, none⟩ ∧ es.length + 1 ≤ s.c ∧ (∀ w', Below w.heap.size w w' → w'.cell? ⟨g, es.length * 3, none⟩ = some (.string ⟨#[109, 97, 114, 107]⟩)) ∧ ∀ (i : Nat) (e : EvD), es[i]? = some e → ∃ sv, LV w sv (e.vers.map (shV p)) ∧ ∀ w', Below w.heap.size w w' → w'.cell? ⟨g, i * 3 + 1, none⟩ = some (.slice sv.A e.vers.length sv.c) ∧ w'.cell? ⟨g, i * 3 + 2, none⟩ = some (.int .i64 (wrap64 (e.pl + p))) := by
  obtain ⟨g, fs, h1, h2, h3, h4, h5⟩ := h
  rw [List.length_map] at h3
  have hl : fs.length = es.length := by have := h5.1; rwa [List.length_map] at this
  refine ⟨g, h1, h3, fun w' hb => ?_, fun i e hi => ?_⟩
  · have := h4.cellB hb (mark_at (m := mE) hl) (i := 0) rfl
    rw [Nat.add_zero] at this; exact this
  · obtain ⟨f, hf⟩ := zip_get h5.1 (map_at (f := shE p) hi)
    obtain ⟨⟨_, e6⟩, hn⟩ := h5.2 i f _ hf (map_at hi)
    refine ⟨f.s, hn, fun w' hb => ⟨?_, ?_⟩⟩
    · have := h4.cellB hb (front hf) (i := 1) rfl
      obtain ⟨_, _, _, q, _⟩ := hn
      rw [show (shE p e).vers = e.vers.map (shV p) from rfl, List.length_map] at q
      rw [q] at this; exact this
    · have := h4.cellB hb (front hf) (i := 2) rfl
      rw [e6] at this; exact this
theorem sl_map {α : Type} {r : α → α → Prop} {f : α → α} {l : List α} (h : ∀ x, x ∈ l → r (f x) x) : sL r (l.map f) l :=
  ⟨List.length_map _, fun i x y hx hy => by
    rw [List.getElem?_map, hy] at hx
    injection hx with hx
    subst hx
    exact h y (List.mem_of_getElem? hy)⟩
theorem sE_map (p : Int) (es : List EvD) : sL sE (es.map (shE p)) es :=
  sl_map fun e _ => ⟨rfl, sl_map fun v _ => ⟨rfl, sl_map fun d _ => ⟨rfl, rfl, rfl, rfl, rfl, rfl, sl_map fun n _ => ⟨rfl, rfl, rfl, rfl⟩⟩⟩⟩
theorem LenT_map (p : Int) {es : List EvD} (h : LenP es) : LenT (es.map (shE p)) := by
  refine ⟨by rw [List.length_map]; have := h.1; omega, fun e he => ?_⟩
  obtain ⟨e0, he0, rfl⟩ := List.mem_map.1 he
  have h1 := h.2 e0 he0
  refine ⟨by show (e0.vers.map (shV p)).length ≤ _; rw [List.length_map]; omega, fun v hv => ?_⟩
  obtain ⟨v0, hv0, rfl⟩ := List.mem_map.1 (show v ∈ e0.vers.map (shV p) from hv)
  have h2 := h1.2 v0 hv0
  refine ⟨by show (v0.steps.map (shS p)).length ≤ _; rw [List.length_map]; omega, fun d hd => ?_⟩
  obtain ⟨d0, hd0, rfl⟩ := List.mem_map.1 (show d ∈ v0.steps.map (shS p) from hd)
  have h3 := h2.2 d0 hd0
  show (d0.val.map (shN p)).length ≤ _
  rw [List.length_map]; omega
end Go.Proofs.YtaijoghpfobdbaaDoor.W
end
section
set_option linter.unusedVariables false
set_option linter.unusedSimpArgs false
namespace Go.Proofs.YtaijoghpfobdbaaDoor.W
open Go.RowKit Go.Proofs.YtaijoghpfobdbaaDoor.X Go.Proofs.YtaijoghpfobdbaaDoorW.PrintWords
open Go.Proofs.YtaijoghpfobdbaaDoor.P (Nd Tr StD VeD EvD kd sg build dep dmx tx txs txN judgeE goodB noV stE allE veE evE wholeE txV lineT stT veT evT schT schE wrs)
mutual
def shT (p : Int) : Tr → Tr
  | .mk n ks => .mk (shN p n) (shTs p ks)
def shTs (p : Int) : List Tr → List Tr
  | [] => []
  | t :: ts => shT p t :: shTs p ts
end
theorem shTs_map (p : Int) : ∀ l, shTs p l = l.map (shT p)
  | [] => rfl
  | t :: l => by rw [shTs, shTs_map p l]; rfl
theorem kd_sh (p : Int) (n : Nd) : kd (shN p n) = kd n := rfl
mutual
theorem dep_sh (p : Int) : ∀ t, dep (shT p t) = dep t
  | .mk n ks => by rw [shT, dep, dep, dmx_sh p ks]
theorem dmx_sh (p : Int) : ∀ l, dmx (shTs p l) = dmx l
  | [] => rfl
  | t :: l => by rw [shTs, dmx, dmx, dep_sh p t, dmx_sh p l]
end
theorem txN_sh (p : Int) (n : Nd) (l : List (List UInt8)) : txN (shN p n) l = txN n l := rfl
mutual
theorem tx_sh (p : Int) : ∀ t, tx (shT p t) = tx t
  | .mk n ks => by rw [shT, tx, tx, txs_sh p ks, txN_sh]
theorem txs_sh (p : Int) : ∀ l, txs (shTs p l) = txs l
  | [] => rfl
  | t :: l => by rw [shTs, txs, txs, tx_sh p t, txs_sh p l]
end
theorem sg_sh (p : Int) (st : List Tr) (n : Nd) : sg (st.map (shT p)) (shN p n) = (sg st n).map (List.map (shT p)) := by
  unfold sg
  rw [kd_sh]
  cases kd n with
  | none => rfl
  | some k =>
    simp only [List.length_map]
    by_cases h : k ≤ st.length
    · rw [if_pos h, if_pos h, Option.map_some, List.map_append, List.map_take, List.map_cons, List.map_nil, shT, shTs_map, List.map_drop]
    · rw [if_neg h, if_neg h]; rfl
theorem build_sh (p : Int) : ∀ (ns : List Nd) (st : List Tr), build (ns.map (shN p)) (st.map (shT p)) = (build ns st).map (List.map (shT p))
  | [], st => rfl
  | n :: ns, st => by
    rw [List.map_cons, build, build, sg_sh]
    cases sg st n with
    | none => rfl
    | some s => exact build_sh p ns s
theorem build_none {ns : List Nd} {p : Int} (h : ¬ ∃ t, build ns [] = some [t]) : ¬ ∃ t, build (ns.map (shN p)) [] = some [t] := by
  rintro ⟨t, ht⟩
  have hb := build_sh p ns []
  rw [List.map_nil] at hb
  rw [hb] at ht
  cases hq : build ns [] with
  | none => rw [hq] at ht; cases ht
  | some st =>
    rw [hq, Option.map_some] at ht
    injection ht with ht
    obtain ⟨x, hx⟩ := P.len_one (l := st) (by have := congrArg List.length ht; simpa using this)
    exact h ⟨x, by rw [hq, hx]⟩
theorem build_one {ns : List Nd} {p : Int} {t : Tr} (h : build ns [] = some [t]) : build (ns.map (shN p)) [] = some [shT p t] := by
  have hb := build_sh p ns []
  rw [List.map_nil, h] at hb
  exact hb
theorem judge_sh (p : Int) (ns : List Nd) : judgeE (ns.map (shN p)) = judgeE ns := by
  by_cases h : ∃ t, build ns [] = some [t]
  · obtain ⟨t, ht⟩ := h
    rw [judgeE_one ht, judgeE_one (build_one ht), dep_sh]
  · rw [judgeE_none h, judgeE_none (build_none h)]
theorem good_sh (p : Int) (d : StD) : goodB (shS p d) = goodB d := by
  have : noV (shS p d) = noV d := by show decide ((d.val.map (shN p)).length = 0) = decide (d.val.length = 0); rw [List.length_map]
  unfold goodB
  rw [this]; rfl
theorem stE_sh (p : Int) (d : StD) : stE (shS p d) = stE d := by
  unfold stE
  rw [good_sh, show (shS p d).val = d.val.map (shN p) from rfl, List.length_map, judge_sh]
theorem allE_map {α : Type} (f : α → Int) (g : α → α) (h : ∀ x, f (g x) = f x) (l : List α) : allE f (l.map g) = allE f l := by
  unfold allE
  rw [List.foldl_map]
  simp only [h]
theorem veE_sh (p : Int) (v : VeD) : veE (shV p v) = veE v := allE_map stE (shS p) (stE_sh p) v.steps
theorem evE_sh (p : Int) (e : EvD) : evE (shE p e) = evE e := by
  have h : allE veE (e.vers.map (shV p)) = allE veE e.vers := allE_map veE (shV p) (veE_sh p) e.vers
  unfold evE
  rw [show (shE p e).vers = e.vers.map (shV p) from rfl, List.length_map, h]; rfl
theorem whole_sh (p : Int) (es : List EvD) : wholeE (es.map (shE p)) = wholeE es := allE_map evE (shE p) (evE_sh p) es
theorem txV_sh (p : Int) (ns : List Nd) (h : ∃ t, build ns [] = some [t]) : txV (ns.map (shN p)) = txV ns := by
  obtain ⟨t, ht⟩ := h
  rw [txV_of ht, txV_of (build_one ht), tx_sh]
theorem flat_map {α : Type} (f : α → List UInt8) (g : α → α) (l : List α) (h : ∀ x, x ∈ l → f (g x) = f x) : (l.map g).flatMap f = l.flatMap f := by
  induction l with
  | nil => rfl
  | cons x l ih =>
    rw [List.map_cons, List.flatMap_cons, List.flatMap_cons, h x List.mem_cons_self, ih (fun y hy => h y (List.mem_cons_of_mem _ hy))]
theorem stT_sh (p : Int) (d : StD) (h : stE d = 0) : stT (shS p d) = stT d := by
  have hv : d.val.length ≠ 0 → ∃ t, build d.val [] = some [t] := by
    intro h0
    unfold stE at h
    by_cases hg : goodB d = true
    · rw [if_pos hg, if_neg h0] at h
      obtain ⟨t, ht, _⟩ := judge_zero h
      exact ⟨t, ht⟩
    · rw [if_neg hg] at h; cases h
  have hl : lineT (shS p d) = lineT d := by
    unfold lineT
    rw [show (shS p d).val = d.val.map (shN p) from rfl, List.length_map]
    by_cases h0 : d.val.length = 0
    · rw [if_pos h0, if_pos h0]; rfl
    · rw [if_neg h0, if_neg h0, txV_sh p d.val (hv h0)]; rfl
  unfold stT
  rw [hl]
theorem veT_sh (p : Int) (v : VeD) (h : veE v = 0) : veT (shV p v) = veT v := by
  have hz := P.allE_zero stE P.stE_ok v.steps h
  unfold veT
  rw [show (shV p v).steps = v.steps.map (shS p) from rfl, flat_map stT (shS p) v.steps (fun d hd => stT_sh p d (hz d hd))]; rfl
theorem evT_sh (p : Int) (e : EvD) (h : evE e = 0) : evT (shE p e) = evT e := by
  have h2 : allE veE e.vers = 0 := by
    unfold evE at h
    split at h
    · exact h
    · cases h
  have hz := P.allE_zero veE P.veE_ok e.vers h2
  unfold evT
  rw [show (shE p e).vers = e.vers.map (shV p) from rfl, flat_map veT (shV p) e.vers (fun v hv => veT_sh p v (hz v hv))]; rfl
theorem schE_sh (p : Int) (es : List EvD) : schE (es.map (shE p)) = schE es := by
  unfold schE
  rw [whole_sh]
  by_cases h : wholeE es = 0
  · have hz := P.allE_zero evE P.evE_ok es h
    rw [if_pos h, if_pos h]
    unfold schT
    rw [flat_map evT (shE p) es (fun e he => evT_sh p e (hz e he))]
  · rw [if_neg h, if_neg h]
theorem GoodE_sh (p : Int) {es : List EvD} (h : GoodE es) : GoodE (es.map (shE p)) := by
  intro e he v hv
  obtain ⟨e0, he0, rfl⟩ := List.mem_map.1 he
  obtain ⟨v0, hv0, rfl⟩ := List.mem_map.1 (show v ∈ e0.vers.map (shV p) from hv)
  refine ⟨(h e0 he0 v0 hv0).1, fun d hd => ?_⟩
  obtain ⟨d0, hd0, rfl⟩ := List.mem_map.1 (show d ∈ v0.steps.map (shS p) from hd)
  have h3 := (h e0 he0 v0 hv0).2 d0 hd0
  refine ⟨by show (d0.val.map (shN p)).length ≤ _; rw [List.length_map]; exact h3.1, fun n hn => ?_⟩
  obtain ⟨n0, hn0, rfl⟩ := List.mem_map.1 (show n ∈ d0.val.map (shN p) from hn)
  exact h3.2 n0 hn0
def cntS (d : StD) : Nat := 1 + d.val.length
def cntV (v : VeD) : Nat := 1 + (v.steps.map cntS).sum
def cntE (e : EvD) : Nat := 1 + (e.vers.map cntV).sum
def cnt (es : List EvD) : Nat := (es.map cntE).sum
theorem sum_mem {α : Type} (f : α → Nat) {l : List α} {x : α} (h : x ∈ l) : f x ≤ (l.map f).sum := by
  induction l with
  | nil => cases h
  | cons y l ih =>
    rw [List.map_cons, List.sum_cons]
    rcases List.mem_cons.1 h with rfl | h
    · omega
    · have := ih h; omega
theorem sum_len {α : Type} (f : α → Nat) (l : List α) (h : ∀ x, 1 ≤ f x) : l.length ≤ (l.map f).sum := by
  induction l with
  | nil => simp
  | cons y l ih => rw [List.map_cons, List.sum_cons, List.length_cons]; have := h y; omega
theorem cntE_eq (e : EvD) : cntE e = 1 + (e.vers.map cntV).sum := rfl
theorem cntV_eq (v : VeD) : cntV v = 1 + (v.steps.map cntS).sum := rfl
theorem cntS_eq (d : StD) : cntS d = 1 + d.val.length := rfl
theorem cnt_eq (es : List EvD) : cnt es = (es.map cntE).sum := rfl
theorem cnt_len {es : List EvD} (h : cnt es ≤ 65536) : LenP es := by
  have q0 := cnt_eq es
  have h0 := sum_len cntE es (fun e => by rw [cntE_eq]; omega)
  refine ⟨by omega, fun e he => ?_⟩
  have h1 := sum_mem cntE he
  have q1 := cntE_eq e
  have h2 := sum_len cntV e.vers (fun e => by rw [cntV_eq]; omega)
  refine ⟨by omega, fun v hv => ?_⟩
  have h3 := sum_mem cntV hv
  have q3 := cntV_eq v
  have h4 := sum_len cntS v.steps (fun e => by rw [cntS_eq]; omega)
  refine ⟨by omega, fun d hd => ?_⟩
  have h5 := sum_mem cntS hd
  have q5 := cntS_eq d
  omega
end Go.Proofs.YtaijoghpfobdbaaDoor.W
end
section
set_option linter.unusedVariables false
set_option linter.unusedSimpArgs false
namespace Go.Proofs.YtaijoghpfobdbaaDoor.W
open Go.RowKit Go.Proofs.YtaijoghpfobdbaaDoor.X Go.Proofs.YtaijoghpfobdbaaDoorW.PrintWords Go.Proofs.YtaijoghpfobdbaaDoorW.PrintLast Go.Proofs.YtaijoghpfobdbaaDoorW.PrintMore
open Go.Proofs.YtaijoghpfobdbaaDoor.P (Nd StD VeD EvD)
set_option maxHeartbeats 16000000 in
set_option maxRecDepth 100000 in
theorem marked_calls (w : World) (s : Sl) (A : Option Addr) (c : Nat) (es : List EvD) (p : Int) (hC : Kd.C kE w A es.length es) (hU : LE w s (es.map (shE p))) (hS : LenP es) :
    Calls Tryd.prog 20 #[.agg #[.slice s.A es.length s.c], .agg #[.slice A es.length c], .int .i64 p] w fun e w' => e = .returned (.bool true) ∧ Below w.heap.size w w' := by
  obtain ⟨g, hg⟩ : ∃ g, g = w.heap.size := ⟨_, rfl⟩
  obtain ⟨gE, hgE, hcE, hmE, hvE⟩ := hU.view
  have HTR := Aside0.mk (fun w' (hb : Below w.heap.size w w') => (show Calls Tryd.prog 13 #[.agg #[.slice s.A es.length s.c], .agg #[.slice A es.length c]] w' fun e w'' => e = .returned (.bool true) ∧ Below w'.heap.size w' w'' by
    have h1 := (hU.below hb).read (LenT_map p hS)
    have := trees_calls w' s.A A s.c c (es.map (shE p)) es h1 (Kd.C_below hC hb) (LenT_map p hS) (sE_map p es)
    rw [List.length_map] at this
    exact this))
  rw [hgE] at HTR ⊢
  obtain ⟨cu, hcu⟩ : ∃ cu, cu = s.c := ⟨_, rfl⟩
  rw [← hcu] at HTR hcE ⊢
  obtain ⟨wA, hwA⟩ : ∃ wA, wA = (w.alloc (.cells #[.slice (some ⟨gE, 0, none⟩) es.length cu] 24)).alloc (.cells #[.slice A es.length c] 24) := ⟨_, rfl⟩
  have hb0 : Below w.heap.size w wA := by rw [hwA]; exact below_step (below_alloc (Below.refl _ _) _) (below_alloc (Below.refl _ _) _)
  have HG0 := Aside0.mk (show wA.heap[g]? = some (.cells #[.slice (some ⟨gE, 0, none⟩) es.length cu] 24 (0, 0)) by rw [hwA, hg]; exact blk_alloc (blk_new _ _) _)
  have HG1 := Aside0.mk (show wA.heap[g + 1]? = some (.cells #[.slice A es.length c] 24 (0, 0)) by
    have hz : (w.alloc (.cells #[.slice (some ⟨gE, 0, none⟩) es.length cu] 24)).heap.size = g + 1 := by rw [hg]; simp
    rw [← hz, hwA]; exact blk_new _ _)
  have HB0 := Aside0.mk hb0
  have HC := Aside0.mk hC
  have HS := Aside0.mk hS
  have HVE := Aside0.mk hvE
  have HWA := Aside0.mk hwA
  have q0 := (blk_cell HG0.out 0).trans rfl
  have q1 := (blk_cell HG1.out 0).trans rfl
  have p0 : ((w.alloc (.cells #[.slice (some ⟨gE, 0, none⟩) es.length cu] 24)).alloc (.cells #[.slice A es.length c] 24)).cell? ⟨w.heap.size, 0, none⟩ = some (.slice (some ⟨gE, 0, none⟩) es.length cu) := by rw [← hwA, ← hg]; exact q0
  have p1 : ((w.alloc (.cells #[.slice (some ⟨gE, 0, none⟩) es.length cu] 24)).alloc (.cells #[.slice A es.length c] 24)).cell? ⟨w.heap.size + 1, 0, none⟩ = some (.slice A es.length c) := by rw [← hwA, ← hg]; exact q1
  have pm : ((w.alloc (.cells #[.slice (some ⟨gE, 0, none⟩) es.length cu] 24)).alloc (.cells #[.slice A es.length c] 24)).cell? ⟨gE, es.length * 3, none⟩ = some (.string ⟨#[109, 97, 114, 107]⟩) := by rw [← hwA]; exact hmE _ hb0
  obtain ⟨i0, hi0, _, hsz0, _⟩ := info_parts infoEv
  have hcut := cut_cap (P := Tryd.prog) 22 50 .i64 Tryd.underlying22 hi0 (some ⟨gE, 0, none⟩) es.length cu ((es.length : Int) + 1) (by omega) (by omega)
  rw [show ((es.length : Int) + 1).toNat = es.length + 1 by omega] at hcut
  have W0 : ∀ [Inhabited Unit], wrap64 ((es.length : Int) + 1) = (es.length : Int) + 1 := by intro _; have := hS.1; unfold wrap64; omega
  clear hC hU hS hvE hmE hcE hwA hb0 q0 q1 hi0 hsz0 hgE hcu
  go_enter Tryd.func20, Tryd.ntmps20
  go_wp2_with fail
  rw [← HWA.out, ← hg]
  refine (HTR.out wA HB0.out).mono ?_
  rintro e w1 ⟨rfl, hb1⟩
  have HB1 := Aside0.mk hb1
  have HB1w := Aside0.mk (below_step HB0.out hb1)
  clear p0 p1 pm hcut hb1 hg W0
  go_wp2_with fail
  go_loopw [8] (fun ti wr => ∃ i : Nat, ti = .int .i64 (i : Int) ∧ Aside0 (i ≤ es.length) ∧ Aside0 (Below w1.heap.size w1 wr)) (fun ti _ => es.length - left ti)
  case atStart => exact ⟨0, rfl, ⟨Nat.zero_le _⟩, ⟨Below.refl _ _⟩⟩
  case round =>
    obtain ⟨i, rfl, hi, HB⟩ := hrel
    rename World => wa
    have HBw := Aside0.mk (below_step HB1w.out HB.out)
    have HBA := Aside0.mk (below_step HB1.out HB.out)
    by_cases ci : i < es.length
    · have d1 : decide ((i : Int) < (es.length : Int)) = true := decide_eq_true (by omega)
      have d2 : decide (i < es.length) = true := decide_eq_true ci
      have bi : (i : Int) < (es.length : Int) := by omega
      obtain ⟨ev, hev⟩ : ∃ ev, es[i]? = some ev := ⟨_, List.getElem?_eq_getElem ci⟩
      obtain ⟨sv, hsv, hue⟩ := HVE.out i ev hev
      obtain ⟨gV, hgV, hcV, hmV, hvV⟩ := hsv.view
      obtain ⟨cV, hcV2⟩ : ∃ cV, cV = sv.c := ⟨_, rfl⟩
      rw [hgV, ← hcV2] at hue
      rw [← hcV2] at hcV
      obtain ⟨ad, Bt, ct, hA, hCt, hte⟩ := at_E' (Kd.C_below HC.out HBw.out) i ci
      subst hA
      rw [get_of hev ci] at hCt hte
      have HS1 := Aside0.mk (HS.out.2 ev (List.mem_of_getElem? hev))
      have HIL := Aside0.mk ci
      have HF := Aside0.mk (fun w' (hb : Below wa.heap.size wa w') => (show w'.cell? ⟨g, 0, none⟩ = some (.slice (some ⟨gE, 0, none⟩) es.length cu) ∧ w'.cell? ⟨g + 1, 0, none⟩ = some (.slice (some ad) es.length c) ∧ w'.cell? ⟨gE, i * 3 + 1, none⟩ = some (.slice (some ⟨gV, 0, none⟩) ev.vers.length cV) ∧ w'.cell? ⟨gE, i * 3 + 2, none⟩ = some (.int .i64 (wrap64 (ev.pl + p))) ∧ w'.cell? ⟨(ad.add (i * 3)).block, (ad.add (i * 3)).off + 1, none⟩ = some (.slice Bt ev.vers.length ct) ∧ w'.cell? ⟨(ad.add (i * 3)).block, (ad.add (i * 3)).off + 2, none⟩ = some (.int .i64 ev.pl) ∧ w'.cell? ⟨gV, ev.vers.length * 3, none⟩ = some (.int .u64 77) from ⟨(blk_cell (blk_below HG0.out (below_step HBA.out hb)) 0).trans rfl, (blk_cell (blk_below HG1.out (below_step HBA.out hb)) 0).trans rfl, (hue w' (below_step HBw.out hb)).1, (hue w' (below_step HBw.out hb)).2, (hte w' hb).2.1, (hte w' hb).2.2, hmV w' (below_step HBw.out hb)⟩))
      have HVV := Aside0.mk hvV
      have HCT := Aside0.mk hCt
      have HEV := Aside0.mk hev
      obtain ⟨i0, hi0, _, hsz0, _⟩ := info_parts infoVe
      have hcut := cut_cap (P := Tryd.prog) 48 53 .i64 Tryd.underlying48 hi0 (some ⟨gV, 0, none⟩) ev.vers.length cV ((ev.vers.length : Int) + 1) (by omega) (by omega)
      rw [show ((ev.vers.length : Int) + 1).toNat = ev.vers.length + 1 by omega] at hcut
      have b1 : (ev.vers.length : Int) < (ev.vers.length : Int) + 1 := by omega
      have W1 : Aside0 (wrap64 ((i : Int) + 1) = ((i + 1 : Nat) : Int)) := ⟨by have := HS.out.1; have := HIL.out; unfold wrap64; omega⟩
      have W2 : ∀ [Inhabited Unit], wrap64 ((ev.vers.length : Int) + 1) = (ev.vers.length : Int) + 1 := by intro _; have := HS1.out.1; unfold wrap64; omega
      have W3 : IntKind.i64.wrap ((ev.vers.length : Int) + 1) = (ev.vers.length : Int) + 1 := by have := HS1.out.1; rw [i64_w]; unfold wrap64; omega
      obtain ⟨q7, hq7⟩ : ∃ q, q = wrap64 (ev.pl + p) := ⟨_, rfl⟩
      have W4 : ∀ [Inhabited Unit], wrap64 (ev.pl + p) = q7 := by intro _; exact hq7.symm
      have W5 : IntKind.i64.wrap (ev.pl + p) = q7 := by rw [i64_w]; exact hq7.symm
      rw [← hq7] at HF
      obtain ⟨x0, x1, x2, x3, x4, x5, x6⟩ := HF.out wa (Below.refl _ _)
      clear hev hsv hue hgV hcV hmV hvV hcV2 hCt hte hi0 hsz0 hq7
      go_wp2_with fail
      clear x0 x1 x2 x3 x4 x5 x6
      refine start_ (n := 28) (S := (fun w' : World => Below wa.heap.size wa w')) (ds := []) #[false, false, false, false, false, false, false, false, false, false, false, false, false, false, false, false, false, false, false, false, false, false, false, false, false, false, false, false] (by kernel_rfl) rfl rfl (below_drew1 (Below.refl _ _)) (fun hHeld => ?_)
      refine pure_ (i := 0) (N := some 59) (v := ?_) (a' := ?_) #[true, false, false, false, false, false, false, false, false, false, false, false, false, false, false, false, false, false, false, false, false, false, false, false, false, false, false, false] rfl rfl (by kernel_rfl) (fun _ _ _ h => h) (Or.inl ⟨by rfl, ?_⟩) ?_ ?_
      rotate_left
      · intro w'
        go_simp
        with_reducible rfl
      rotate_left
      · simp only [Act.put, List.setIfInBounds_toArray, List.set_cons_zero, List.set_cons_succ, i64_w, i32_w]
        rfl
      refine pure_ (i := 1) (N := some 60) (v := ?_) (a' := ?_) #[true, true, false, false, false, false, false, false, false, false, false, false, false, false, false, false, false, false, false, false, false, false, false, false, false, false, false, false] rfl rfl (by kernel_rfl) (fun _ _ _ h => h) (Or.inl ⟨by rfl, ?_⟩) ?_ ?_
      rotate_left
      · intro w'
        go_simp
        with_reducible rfl
      rotate_left
      · simp only [Act.put, List.setIfInBounds_toArray, List.set_cons_zero, List.set_cons_succ, i64_w, i32_w]
        rfl
      refine pure_ (i := 2) (N := some 61) (v := ?_) (a' := ?_) #[true, true, true, false, false, false, false, false, false, false, false, false, false, false, false, false, false, false, false, false, false, false, false, false, false, false, false, false] rfl rfl (by kernel_rfl) (fun _ _ _ h => h) (Or.inl ⟨by rfl, ?_⟩) ?_ ?_
      rotate_left
      · intro w'
        go_simp
        with_reducible rfl
      rotate_left
      · simp only [Act.put, List.setIfInBounds_toArray, List.set_cons_zero, List.set_cons_succ, i64_w, i32_w]
        rfl
      refine pure_ (i := 3) (N := some 62) (v := ?_) (a' := ?_) #[true, true, true, true, false, false, false, false, false, false, false, false, false, false, false, false, false, false, false, false, false, false, false, false, false, false, false, false] rfl rfl (by kernel_rfl) (fun _ _ _ h => h) (Or.inl ⟨by rfl, ?_⟩) ?_ ?_
      rotate_left
      · intro w'
        go_simp
        with_reducible rfl
      rotate_left
      · simp only [Act.put, List.setIfInBounds_toArray, List.set_cons_zero, List.set_cons_succ, i64_w, i32_w]
        rfl
      refine pure_ (i := 4) (N := some 63) (v := ?_) (a' := ?_) #[true, true, true, true, true, false, false, false, false, false, false, false, false, false, false, false, false, false, false, false, false, false, false, false, false, false, false, false] rfl rfl (by kernel_rfl) (fun _ _ _ h => h) (Or.inl ⟨by rfl, ?_⟩) ?_ ?_
      rotate_left
      · intro w'
        go_simp
        with_reducible rfl
      rotate_left
      · simp only [Act.put, List.setIfInBounds_toArray, List.set_cons_zero, List.set_cons_succ, i64_w, i32_w]
        rfl
      refine pure_ (i := 5) (N := some 64) (v := ?_) (a' := ?_) #[true, true, true, true, true, true, false, false, false, false, false, false, false, false, false, false, false, false, false, false, false, false, false, false, false, false, false, false] rfl rfl (by kernel_rfl) (fun _ _ _ h => h) (Or.inl ⟨by rfl, ?_⟩) ?_ ?_
      rotate_left
      · intro w'
        go_simp
        with_reducible rfl
      rotate_left
      · simp only [Act.put, List.setIfInBounds_toArray, List.set_cons_zero, List.set_cons_succ, i64_w, i32_w]
        rfl
      refine pure_ (i := 6) (N := some 65) (v := ?_) (a' := ?_) #[true, true, true, true, true, true, true, false, false, false, false, false, false, false, false, false, false, false, false, false, false, false, false, false, false, false, false, false] rfl rfl (by kernel_rfl) (fun _ _ _ h => h) (Or.inl ⟨by rfl, ?_⟩) ?_ ?_
      rotate_left
      · intro w'
        go_simp
        with_reducible rfl
      rotate_left
      · simp only [Act.put, List.setIfInBounds_toArray, List.set_cons_zero, List.set_cons_succ, i64_w, i32_w]
        rfl
      refine pure_ (i := 7) (N := some 66) (v := ?_) (a' := ?_) #[true, true, true, true, true, true, true, true, false, false, false, false, false, false, false, false, false, false, false, false, false, false, false, false, false, false, false, false] rfl rfl (by kernel_rfl) (fun _ _ _ h => h) (Or.inl ⟨by rfl, ?_⟩) ?_ ?_
      rotate_left
      · intro w'
        go_simp
        with_reducible rfl
      rotate_left
      · simp only [Act.put, List.setIfInBounds_toArray, List.set_cons_zero, List.set_cons_succ, i64_w, i32_w]
        rfl
      refine pure_ (i := 8) (N := some 67) (v := ?_) (a' := ?_) #[true, true, true, true, true, true, true, true, true, false, false, false, false, false, false, false, false, false, false, false, false, false, false, false, false, false, false, false] rfl rfl (by kernel_rfl) (fun _ _ _ h => h) (Or.inl ⟨by rfl, ?_⟩) ?_ ?_
      rotate_left
      · intro w'
        go_simp
        with_reducible rfl
      rotate_left
      · simp only [Act.put, List.setIfInBounds_toArray, List.set_cons_zero, List.set_cons_succ, i64_w, i32_w]
        rfl
      refine take_ (i := 9) (N := some 68) (v := ?_) (a' := ?_) #[true, true, true, true, true, true, true, true, true, true, false, false, false, false, false, false, false, false, false, false, false, false, false, false, false, false, false, false] rfl rfl (by kernel_rfl) (fun _ _ _ h => h) (Or.inl ⟨by rfl, ?_⟩) hHeld ?_ ?_
      rotate_left
      · intro w' hS'
        obtain ⟨x0, x1, x2, x3, x4, x5, x6⟩ := HF.out w' hS'
        clear hS'
        go_simp
        with_reducible rfl
      rotate_left
      · simp only [Act.put, List.setIfInBounds_toArray, List.set_cons_zero, List.set_cons_succ, i64_w, i32_w]
        rfl
      refine pure_ (i := 10) (N := some 69) (v := ?_) (a' := ?_) #[true, true, true, true, true, true, true, true, true, true, true, false, false, false, false, false, false, false, false, false, false, false, false, false, false, false, false, false] rfl rfl (by kernel_rfl) (fun _ _ _ h => h) (Or.inl ⟨by rfl, ?_⟩) ?_ ?_
      rotate_left
      · intro w'
        go_simp
        with_reducible rfl
      rotate_left
      · simp only [Act.put, List.setIfInBounds_toArray, List.set_cons_zero, List.set_cons_succ, i64_w, i32_w]
        rfl
      refine pure_ (i := 11) (N := some 70) (v := ?_) (a' := ?_) #[true, true, true, true, true, true, true, true, true, true, true, true, false, false, false, false, false, false, false, false, false, false, false, false, false, false, false, false] rfl rfl (by kernel_rfl) (fun _ _ _ h => h) (Or.inl ⟨by rfl, ?_⟩) ?_ ?_
      rotate_left
      · intro w'
        go_simp
        with_reducible rfl
      rotate_left
      · simp only [Act.put, List.setIfInBounds_toArray, List.set_cons_zero, List.set_cons_succ, i64_w, i32_w]
        rfl
      refine pure_ (i := 12) (N := some 71) (v := ?_) (a' := ?_) #[true, true, true, true, true, true, true, true, true, true, true, true, true, false, false, false, false, false, false, false, false, false, false, false, false, false, false, false] rfl rfl (by kernel_rfl) (fun _ _ _ h => h) (Or.inl ⟨by rfl, ?_⟩) ?_ ?_
      rotate_left
      · intro w'
        go_simp
        with_reducible rfl
      rotate_left
      · simp only [Act.put, List.setIfInBounds_toArray, List.set_cons_zero, List.set_cons_succ, i64_w, i32_w]
        rfl
      refine take_ (i := 13) (N := some 72) (v := ?_) (a' := ?_) #[true, true, true, true, true, true, true, true, true, true, true, true, true, true, false, false, false, false, false, false, false, false, false, false, false, false, false, false] rfl rfl (by kernel_rfl) (fun _ _ _ h => h) (Or.inl ⟨by rfl, ?_⟩) hHeld ?_ ?_
      rotate_left
      · intro w' hS'
        obtain ⟨x0, x1, x2, x3, x4, x5, x6⟩ := HF.out w' hS'
        clear hS'
        go_simp
        with_reducible rfl
      rotate_left
      · simp only [Act.put, List.setIfInBounds_toArray, List.set_cons_zero, List.set_cons_succ, i64_w, i32_w]
        rfl
      refine pure_ (i := 14) (N := some 73) (v := ?_) (a' := ?_) #[true, true, true, true, true, true, true, true, true, true, true, true, true, true, true, false, false, false, false, false, false, false, false, false, false, false, false, false] rfl rfl (by kernel_rfl) (fun _ _ _ h => h) (Or.inl ⟨by rfl, ?_⟩) ?_ ?_
      rotate_left
      · intro w'
        go_simp
        with_reducible rfl
      rotate_left
      · simp only [Act.put, List.setIfInBounds_toArray, List.set_cons_zero, List.set_cons_succ, i64_w, i32_w]
        rfl
      refine pure_ (i := 15) (N := some 74) (v := ?_) (a' := ?_) #[true, true, true, true, true, true, true, true, true, true, true, true, true, true, true, true, false, false, false, false, false, false, false, false, false, false, false, false] rfl rfl (by kernel_rfl) (fun _ _ _ h => h) (Or.inl ⟨by rfl, ?_⟩) ?_ ?_
      rotate_left
      · intro w'
        go_simp
        with_reducible rfl
      rotate_left
      · simp only [Act.put, List.setIfInBounds_toArray, List.set_cons_zero, List.set_cons_succ, i64_w, i32_w]
        rfl
      refine pure_ (i := 16) (N := some 75) (v := ?_) (a' := ?_) #[true, true, true, true, true, true, true, true, true, true, true, true, true, true, true, true, true, false, false, false, false, false, false, false, false, false, false, false] rfl rfl (by kernel_rfl) (fun _ _ _ h => h) (Or.inl ⟨by rfl, ?_⟩) ?_ ?_
      rotate_left
      · intro w'
        go_simp
        with_reducible rfl
      rotate_left
      · simp only [Act.put, List.setIfInBounds_toArray, List.set_cons_zero, List.set_cons_succ, i64_w, i32_w]
        rfl
      refine take_ (i := 17) (N := some 76) (v := ?_) (a' := ?_) #[true, true, true, true, true, true, true, true, true, true, true, true, true, true, true, true, true, true, false, false, false, false, false, false, false, false, false, false] rfl rfl (by kernel_rfl) (fun _ _ _ h => h) (Or.inl ⟨by rfl, ?_⟩) hHeld ?_ ?_
      rotate_left
      · intro w' hS'
        obtain ⟨x0, x1, x2, x3, x4, x5, x6⟩ := HF.out w' hS'
        clear hS'
        go_simp
        with_reducible rfl
      rotate_left
      · simp only [Act.put, List.setIfInBounds_toArray, List.set_cons_zero, List.set_cons_succ, i64_w, i32_w]
        rfl
      refine pure_ (i := 18) (N := some 77) (v := ?_) (a' := ?_) #[true, true, true, true, true, true, true, true, true, true, true, true, true, true, true, true, true, true, true, false, false, false, false, false, false, false, false, false] rfl rfl (by kernel_rfl) (fun _ _ _ h => h) (Or.inl ⟨by rfl, ?_⟩) ?_ ?_
      rotate_left
      · intro w'
        go_simp
        with_reducible rfl
      rotate_left
      · simp only [Act.put, List.setIfInBounds_toArray, List.set_cons_zero, List.set_cons_succ, i64_w, i32_w]
        rfl
      refine take_ (i := 19) (N := some 78) (v := ?_) (a' := ?_) #[true, true, true, true, true, true, true, true, true, true, true, true, true, true, true, true, true, true, true, true, false, false, false, false, false, false, false, false] rfl rfl (by kernel_rfl) (fun _ _ _ h => h) (Or.inl ⟨by rfl, ?_⟩) hHeld ?_ ?_
      rotate_left
      · intro w' hS'
        obtain ⟨x0, x1, x2, x3, x4, x5, x6⟩ := HF.out w' hS'
        clear hS'
        go_simp
        with_reducible rfl
      rotate_left
      · simp only [Act.put, List.setIfInBounds_toArray, List.set_cons_zero, List.set_cons_succ, i64_w, i32_w]
        rfl
      refine pure_ (i := 20) (N := some 79) (v := ?_) (a' := ?_) #[true, true, true, true, true, true, true, true, true, true, true, true, true, true, true, true, true, true, true, true, true, false, false, false, false, false, false, false] rfl rfl (by kernel_rfl) (fun _ _ _ h => h) (Or.inl ⟨by rfl, ?_⟩) ?_ ?_
      rotate_left
      · intro w'
        go_simp
        with_reducible rfl
      rotate_left
      · simp only [Act.put, List.setIfInBounds_toArray, List.set_cons_zero, List.set_cons_succ, i64_w, i32_w]
        rfl
      refine pure_ (i := 21) (N := some 80) (v := ?_) (a' := ?_) #[true, true, true, true, true, true, true, true, true, true, true, true, true, true, true, true, true, true, true, true, true, true, false, false, false, false, false, false] rfl rfl (by kernel_rfl) (fun _ _ _ h => h) (Or.inl ⟨by rfl, ?_⟩) ?_ ?_
      rotate_left
      · intro w'
        go_simp
        with_reducible rfl
      rotate_left
      · simp only [Act.put, List.setIfInBounds_toArray, List.set_cons_zero, List.set_cons_succ, i64_w, i32_w]
        rfl
      refine pure_ (i := 22) (N := some 81) (v := ?_) (a' := ?_) #[true, true, true, true, true, true, true, true, true, true, true, true, true, true, true, true, true, true, true, true, true, true, true, false, false, false, false, false] rfl rfl (by kernel_rfl) (fun _ _ _ h => h) (Or.inl ⟨by rfl, ?_⟩) ?_ ?_
      rotate_left
      · intro w'
        go_simp
        with_reducible rfl
      rotate_left
      · simp only [Act.put, List.setIfInBounds_toArray, List.set_cons_zero, List.set_cons_succ, i64_w, i32_w]
        rfl
      refine take_ (i := 23) (N := some 82) (v := ?_) (a' := ?_) #[true, true, true, true, true, true, true, true, true, true, true, true, true, true, true, true, true, true, true, true, true, true, true, true, false, false, false, false] rfl rfl (by kernel_rfl) (fun _ _ _ h => h) (Or.inl ⟨by rfl, ?_⟩) hHeld ?_ ?_
      rotate_left
      · intro w' hS'
        obtain ⟨x0, x1, x2, x3, x4, x5, x6⟩ := HF.out w' hS'
        clear hS'
        go_simp
        with_reducible rfl
      rotate_left
      · simp only [Act.put, List.setIfInBounds_toArray, List.set_cons_zero, List.set_cons_succ, i64_w, i32_w]
        rfl
      refine pure_ (i := 24) (N := some 83) (v := ?_) (a' := ?_) #[true, true, true, true, true, true, true, true, true, true, true, true, true, true, true, true, true, true, true, true, true, true, true, true, true, false, false, false] rfl rfl (by kernel_rfl) (fun _ _ _ h => h) (Or.inl ⟨by rfl, ?_⟩) ?_ ?_
      rotate_left
      · intro w'
        go_simp
        with_reducible rfl
      rotate_left
      · simp only [Act.put, List.setIfInBounds_toArray, List.set_cons_zero, List.set_cons_succ, i64_w, i32_w]
        rfl
      refine pure_ (i := 25) (N := some 84) (v := ?_) (a' := ?_) #[true, true, true, true, true, true, true, true, true, true, true, true, true, true, true, true, true, true, true, true, true, true, true, true, true, true, false, false] rfl rfl (by kernel_rfl) (fun _ _ _ h => h) (Or.inl ⟨by rfl, ?_⟩) ?_ ?_
      rotate_left
      · intro w'
        go_simp
        with_reducible rfl
      rotate_left
      · simp only [Act.put, List.setIfInBounds_toArray, List.set_cons_zero, List.set_cons_succ, i64_w, i32_w]
        rfl
      refine pure_ (i := 26) (N := some 85) (v := ?_) (a' := ?_) #[true, true, true, true, true, true, true, true, true, true, true, true, true, true, true, true, true, true, true, true, true, true, true, true, true, true, true, false] rfl rfl (by kernel_rfl) (fun _ _ _ h => h) (Or.inl ⟨by rfl, ?_⟩) ?_ ?_
      rotate_left
      · intro w'
        go_simp
        with_reducible rfl
      rotate_left
      · simp only [Act.put, List.setIfInBounds_toArray, List.set_cons_zero, List.set_cons_succ, i64_w, i32_w]
        rfl
      refine pure_ (i := 27) (N := some 86) (v := ?_) (a' := ?_) #[true, true, true, true, true, true, true, true, true, true, true, true, true, true, true, true, true, true, true, true, true, true, true, true, true, true, true, true] rfl rfl (by kernel_rfl) (fun _ _ _ h => h) (Or.inl ⟨by rfl, ?_⟩) ?_ ?_
      rotate_left
      · intro w'
        go_simp
        with_reducible rfl
      rotate_left
      · simp only [Act.put, List.setIfInBounds_toArray, List.set_cons_zero, List.set_cons_succ, i64_w, i32_w]
        rfl
      refine done_ (by kernel_rfl) ?_
      clear hcut
      go_wp2_with fail
      have HBd := Aside0.mk (show Below w1.heap.size w1 wa.drew from below_step HB.out (below_drew1 (Below.refl _ _)))
      have HBdw := Aside0.mk (show Below w.heap.size w wa.drew from below_step HBw.out (below_drew1 (Below.refl _ _)))
      have HBad := Aside0.mk (show Below wa.heap.size wa wa.drew from below_drew1 (Below.refl _ _))
      obtain ⟨we, hwe⟩ : ∃ we, we = wa.drew := ⟨_, rfl⟩
      rw [← hwe] at HBd HBdw HBad ⊢
      clear hwe
      go_loopw [11] (fun tk wr => ∃ k : Nat, tk = .int .i64 (k : Int) ∧ Aside0 (k ≤ ev.vers.length) ∧ Aside0 (Below we.heap.size we wr)) (fun tk _ => ev.vers.length - left tk)
      case atStart => exact ⟨0, rfl, ⟨Nat.zero_le _⟩, ⟨Below.refl _ _⟩⟩
      case round =>
        obtain ⟨k, rfl, hk, HBk⟩ := hrel
        rename World => wb
        have HBwb := Aside0.mk (below_step HBdw.out HBk.out)
        by_cases ck : k < ev.vers.length
        · have d1 : decide ((k : Int) < (ev.vers.length : Int)) = true := decide_eq_true (by omega)
          have d2 : decide (k < ev.vers.length) = true := decide_eq_true ck
          have bk : (k : Int) < (ev.vers.length : Int) := by omega
          obtain ⟨ve, hve⟩ : ∃ ve, ev.vers[k]? = some ve := ⟨_, List.getElem?_eq_getElem ck⟩
          obtain ⟨ss, hss, hue⟩ := HVV.out k ve hve
          obtain ⟨gS, hgS, hcS, hmS, hvS⟩ := hss.view
          obtain ⟨cS, hcS2⟩ : ∃ cS, cS = ss.c := ⟨_, rfl⟩
          rw [hgS, ← hcS2] at hue
          rw [← hcS2] at hcS
          obtain ⟨adv, Bs, cs, hA, hCs, hte⟩ := at_V' (Kd.C_below HCT.out (below_step HBad.out HBk.out)) k ck
          subst hA
          rw [get_of hve ck] at hCs hte
          have HS2 := Aside0.mk (HS1.out.2 ve (List.mem_of_getElem? hve))
          have HKL := Aside0.mk ck
          have HFV := Aside0.mk (fun w' (hb : Below wb.heap.size wb w') => (show w'.cell? ⟨gV, k * 3 + 1, none⟩ = some (.slice (some ⟨gS, 0, none⟩) ve.steps.length cS) ∧ w'.cell? ⟨gV, k * 3 + 2, none⟩ = some (.int .i64 (wrap64 (ve.pl + p))) ∧ w'.cell? ⟨(adv.add (k * 3)).block, (adv.add (k * 3)).off + 1, none⟩ = some (.slice Bs ve.steps.length cs) ∧ w'.cell? ⟨(adv.add (k * 3)).block, (adv.add (k * 3)).off + 2, none⟩ = some (.int .i64 ve.pl) ∧ w'.cell? ⟨gS, ve.steps.length * 8, none⟩ = some (.int .i64 77) from ⟨(hue w' (below_step HBwb.out hb)).1, (hue w' (below_step HBwb.out hb)).2, (hte w' hb).2.1, (hte w' hb).2.2, hmS w' (below_step HBwb.out hb)⟩))
          have HVS := Aside0.mk hvS
          have HCS := Aside0.mk hCs
          have HVEk := Aside0.mk hve
          obtain ⟨i0, hi0, _, hsz0, _⟩ := info_parts infoSt
          have hcut := cut_cap (P := Tryd.prog) 51 55 .i64 Tryd.underlying51 hi0 (some ⟨gS, 0, none⟩) ve.steps.length cS ((ve.steps.length : Int) + 1) (by omega) (by omega)
          rw [show ((ve.steps.length : Int) + 1).toNat = ve.steps.length + 1 by omega] at hcut
          have b2 : (ve.steps.length : Int) < (ve.steps.length : Int) + 1 := by omega
          have V1 : Aside0 (wrap64 ((k : Int) + 1) = ((k + 1 : Nat) : Int)) := ⟨by have := HS1.out.1; have := HKL.out; unfold wrap64; omega⟩
          have V2 : ∀ [Inhabited Unit], wrap64 ((ve.steps.length : Int) + 1) = (ve.steps.length : Int) + 1 := by intro _; have := HS2.out.1; unfold wrap64; omega
          have V3 : IntKind.i64.wrap ((ve.steps.length : Int) + 1) = (ve.steps.length : Int) + 1 := by have := HS2.out.1; rw [i64_w]; unfold wrap64; omega
          obtain ⟨qv, hqv⟩ : ∃ q, q = wrap64 (ve.pl + p) := ⟨_, rfl⟩
          have V4 : ∀ [Inhabited Unit], wrap64 (ve.pl + p) = qv := by intro _; exact hqv.symm
          have V5 : IntKind.i64.wrap (ve.pl + p) = qv := by rw [i64_w]; exact hqv.symm
          rw [← hqv] at HFV
          obtain ⟨x0, x1, x2, x3, x4⟩ := HFV.out wb (Below.refl _ _)
          clear hve hss hue hgS hcS hmS hvS hcS2 hCs hte hi0 hsz0 hqv
          go_wp2_with fail
          clear x0 x1 x2 x3 x4
          refine start_ (n := 26) (S := (fun w' : World => Below wb.heap.size wb w')) (ds := []) #[false, false, false, false, false, false, false, false, false, false, false, false, false, false, false, false, false, false, false, false, false, false, false, false, false, false] (by kernel_rfl) rfl rfl (below_drew1 (Below.refl _ _)) (fun hHeld => ?_)
          refine pure_ (i := 0) (N := some 98) (v := ?_) (a' := ?_) #[true, false, false, false, false, false, false, false, false, false, false, false, false, false, false, false, false, false, false, false, false, false, false, false, false, false] rfl rfl (by kernel_rfl) (fun _ _ _ h => h) (Or.inl ⟨by rfl, ?_⟩) ?_ ?_
          rotate_left
          · intro w'
            go_simp
            with_reducible rfl
          rotate_left
          · simp only [Act.put, List.setIfInBounds_toArray, List.set_cons_zero, List.set_cons_succ, i64_w, i32_w]
            rfl
          refine pure_ (i := 1) (N := some 99) (v := ?_) (a' := ?_) #[true, true, false, false, false, false, false, false, false, false, false, false, false, false, false, false, false, false, false, false, false, false, false, false, false, false] rfl rfl (by kernel_rfl) (fun _ _ _ h => h) (Or.inl ⟨by rfl, ?_⟩) ?_ ?_
          rotate_left
          · intro w'
            go_simp
            with_reducible rfl
          rotate_left
          · simp only [Act.put, List.setIfInBounds_toArray, List.set_cons_zero, List.set_cons_succ, i64_w, i32_w]
            rfl
          refine pure_ (i := 2) (N := some 100) (v := ?_) (a' := ?_) #[true, true, true, false, false, false, false, false, false, false, false, false, false, false, false, false, false, false, false, false, false, false, false, false, false, false] rfl rfl (by kernel_rfl) (fun _ _ _ h => h) (Or.inl ⟨by rfl, ?_⟩) ?_ ?_
          rotate_left
          · intro w'
            go_simp
            with_reducible rfl
          rotate_left
          · simp only [Act.put, List.setIfInBounds_toArray, List.set_cons_zero, List.set_cons_succ, i64_w, i32_w]
            rfl
          refine pure_ (i := 3) (N := some 101) (v := ?_) (a' := ?_) #[true, true, true, true, false, false, false, false, false, false, false, false, false, false, false, false, false, false, false, false, false, false, false, false, false, false] rfl rfl (by kernel_rfl) (fun _ _ _ h => h) (Or.inl ⟨by rfl, ?_⟩) ?_ ?_
          rotate_left
          · intro w'
            go_simp
            with_reducible rfl
          rotate_left
          · simp only [Act.put, List.setIfInBounds_toArray, List.set_cons_zero, List.set_cons_succ, i64_w, i32_w]
            rfl
          refine pure_ (i := 4) (N := some 102) (v := ?_) (a' := ?_) #[true, true, true, true, true, false, false, false, false, false, false, false, false, false, false, false, false, false, false, false, false, false, false, false, false, false] rfl rfl (by kernel_rfl) (fun _ _ _ h => h) (Or.inl ⟨by rfl, ?_⟩) ?_ ?_
          rotate_left
          · intro w'
            go_simp
            with_reducible rfl
          rotate_left
          · simp only [Act.put, List.setIfInBounds_toArray, List.set_cons_zero, List.set_cons_succ, i64_w, i32_w]
            rfl
          refine pure_ (i := 5) (N := some 103) (v := ?_) (a' := ?_) #[true, true, true, true, true, true, false, false, false, false, false, false, false, false, false, false, false, false, false, false, false, false, false, false, false, false] rfl rfl (by kernel_rfl) (fun _ _ _ h => h) (Or.inl ⟨by rfl, ?_⟩) ?_ ?_
          rotate_left
          · intro w'
            go_simp
            with_reducible rfl
          rotate_left
          · simp only [Act.put, List.setIfInBounds_toArray, List.set_cons_zero, List.set_cons_succ, i64_w, i32_w]
            rfl
          refine pure_ (i := 6) (N := some 104) (v := ?_) (a' := ?_) #[true, true, true, true, true, true, true, false, false, false, false, false, false, false, false, false, false, false, false, false, false, false, false, false, false, false] rfl rfl (by kernel_rfl) (fun _ _ _ h => h) (Or.inl ⟨by rfl, ?_⟩) ?_ ?_
          rotate_left
          · intro w'
            go_simp
            with_reducible rfl
          rotate_left
          · simp only [Act.put, List.setIfInBounds_toArray, List.set_cons_zero, List.set_cons_succ, i64_w, i32_w]
            rfl
          refine pure_ (i := 7) (N := some 105) (v := ?_) (a' := ?_) #[true, true, true, true, true, true, true, true, false, false, false, false, false, false, false, false, false, false, false, false, false, false, false, false, false, false] rfl rfl (by kernel_rfl) (fun _ _ _ h => h) (Or.inl ⟨by rfl, ?_⟩) ?_ ?_
          rotate_left
          · intro w'
            go_simp
            with_reducible rfl
          rotate_left
          · simp only [Act.put, List.setIfInBounds_toArray, List.set_cons_zero, List.set_cons_succ, i64_w, i32_w]
            rfl
          refine pure_ (i := 8) (N := some 106) (v := ?_) (a' := ?_) #[true, true, true, true, true, true, true, true, true, false, false, false, false, false, false, false, false, false, false, false, false, false, false, false, false, false] rfl rfl (by kernel_rfl) (fun _ _ _ h => h) (Or.inl ⟨by rfl, ?_⟩) ?_ ?_
          rotate_left
          · intro w'
            go_simp
            with_reducible rfl
          rotate_left
          · simp only [Act.put, List.setIfInBounds_toArray, List.set_cons_zero, List.set_cons_succ, i64_w, i32_w]
            rfl
          refine take_ (i := 9) (N := some 107) (v := ?_) (a' := ?_) #[true, true, true, true, true, true, true, true, true, true, false, false, false, false, false, false, false, false, false, false, false, false, false, false, false, false] rfl rfl (by kernel_rfl) (fun _ _ _ h => h) (Or.inl ⟨by rfl, ?_⟩) hHeld ?_ ?_
          rotate_left
          · intro w' hS'
            obtain ⟨x0, x1, x2, x3, x4⟩ := HFV.out w' hS'
            clear hS'
            go_simp
            with_reducible rfl
          rotate_left
          · simp only [Act.put, List.setIfInBounds_toArray, List.set_cons_zero, List.set_cons_succ, i64_w, i32_w]
            rfl
          refine pure_ (i := 10) (N := some 108) (v := ?_) (a' := ?_) #[true, true, true, true, true, true, true, true, true, true, true, false, false, false, false, false, false, false, false, false, false, false, false, false, false, false] rfl rfl (by kernel_rfl) (fun _ _ _ h => h) (Or.inl ⟨by rfl, ?_⟩) ?_ ?_
          rotate_left
          · intro w'
            go_simp
            with_reducible rfl
          rotate_left
          · simp only [Act.put, List.setIfInBounds_toArray, List.set_cons_zero, List.set_cons_succ, i64_w, i32_w]
            rfl
          refine pure_ (i := 11) (N := some 109) (v := ?_) (a' := ?_) #[true, true, true, true, true, true, true, true, true, true, true, true, false, false, false, false, false, false, false, false, false, false, false, false, false, false] rfl rfl (by kernel_rfl) (fun _ _ _ h => h) (Or.inl ⟨by rfl, ?_⟩) ?_ ?_
          rotate_left
          · intro w'
            go_simp
            with_reducible rfl
          rotate_left
          · simp only [Act.put, List.setIfInBounds_toArray, List.set_cons_zero, List.set_cons_succ, i64_w, i32_w]
            rfl
          refine pure_ (i := 12) (N := some 110) (v := ?_) (a' := ?_) #[true, true, true, true, true, true, true, true, true, true, true, true, true, false, false, false, false, false, false, false, false, false, false, false, false, false] rfl rfl (by kernel_rfl) (fun _ _ _ h => h) (Or.inl ⟨by rfl, ?_⟩) ?_ ?_
          rotate_left
          · intro w'
            go_simp
            with_reducible rfl
          rotate_left
          · simp only [Act.put, List.setIfInBounds_toArray, List.set_cons_zero, List.set_cons_succ, i64_w, i32_w]
            rfl
          refine pure_ (i := 13) (N := some 111) (v := ?_) (a' := ?_) #[true, true, true, true, true, true, true, true, true, true, true, true, true, true, false, false, false, false, false, false, false, false, false, false, false, false] rfl rfl (by kernel_rfl) (fun _ _ _ h => h) (Or.inl ⟨by rfl, ?_⟩) ?_ ?_
          rotate_left
          · intro w'
            go_simp
            with_reducible rfl
          rotate_left
          · simp only [Act.put, List.setIfInBounds_toArray, List.set_cons_zero, List.set_cons_succ, i64_w, i32_w]
            rfl
          refine pure_ (i := 14) (N := some 112) (v := ?_) (a' := ?_) #[true, true, true, true, true, true, true, true, true, true, true, true, true, true, true, false, false, false, false, false, false, false, false, false, false, false] rfl rfl (by kernel_rfl) (fun _ _ _ h => h) (Or.inl ⟨by rfl, ?_⟩) ?_ ?_
          rotate_left
          · intro w'
            go_simp
            with_reducible rfl
          rotate_left
          · simp only [Act.put, List.setIfInBounds_toArray, List.set_cons_zero, List.set_cons_succ, i64_w, i32_w]
            rfl
          refine pure_ (i := 15) (N := some 113) (v := ?_) (a' := ?_) #[true, true, true, true, true, true, true, true, true, true, true, true, true, true, true, true, false, false, false, false, false, false, false, false, false, false] rfl rfl (by kernel_rfl) (fun _ _ _ h => h) (Or.inl ⟨by rfl, ?_⟩) ?_ ?_
          rotate_left
          · intro w'
            go_simp
            with_reducible rfl
          rotate_left
          · simp only [Act.put, List.setIfInBounds_toArray, List.set_cons_zero, List.set_cons_succ, i64_w, i32_w]
            rfl
          refine take_ (i := 16) (N := some 114) (v := ?_) (a' := ?_) #[true, true, true, true, true, true, true, true, true, true, true, true, true, true, true, true, true, false, false, false, false, false, false, false, false, false] rfl rfl (by kernel_rfl) (fun _ _ _ h => h) (Or.inl ⟨by rfl, ?_⟩) hHeld ?_ ?_
          rotate_left
          · intro w' hS'
            obtain ⟨x0, x1, x2, x3, x4⟩ := HFV.out w' hS'
            clear hS'
            go_simp
            with_reducible rfl
          rotate_left
          · simp only [Act.put, List.setIfInBounds_toArray, List.set_cons_zero, List.set_cons_succ, i64_w, i32_w]
            rfl
          refine pure_ (i := 17) (N := some 115) (v := ?_) (a' := ?_) #[true, true, true, true, true, true, true, true, true, true, true, true, true, true, true, true, true, true, false, false, false, false, false, false, false, false] rfl rfl (by kernel_rfl) (fun _ _ _ h => h) (Or.inl ⟨by rfl, ?_⟩) ?_ ?_
          rotate_left
          · intro w'
            go_simp
            with_reducible rfl
          rotate_left
          · simp only [Act.put, List.setIfInBounds_toArray, List.set_cons_zero, List.set_cons_succ, i64_w, i32_w]
            rfl
          refine pure_ (i := 18) (N := some 116) (v := ?_) (a' := ?_) #[true, true, true, true, true, true, true, true, true, true, true, true, true, true, true, true, true, true, true, false, false, false, false, false, false, false] rfl rfl (by kernel_rfl) (fun _ _ _ h => h) (Or.inl ⟨by rfl, ?_⟩) ?_ ?_
          rotate_left
          · intro w'
            go_simp
            with_reducible rfl
          rotate_left
          · simp only [Act.put, List.setIfInBounds_toArray, List.set_cons_zero, List.set_cons_succ, i64_w, i32_w]
            rfl
          refine pure_ (i := 19) (N := some 117) (v := ?_) (a' := ?_) #[true, true, true, true, true, true, true, true, true, true, true, true, true, true, true, true, true, true, true, true, false, false, false, false, false, false] rfl rfl (by kernel_rfl) (fun _ _ _ h => h) (Or.inl ⟨by rfl, ?_⟩) ?_ ?_
          rotate_left
          · intro w'
            go_simp
            with_reducible rfl
          rotate_left
          · simp only [Act.put, List.setIfInBounds_toArray, List.set_cons_zero, List.set_cons_succ, i64_w, i32_w]
            rfl
          refine pure_ (i := 20) (N := some 118) (v := ?_) (a' := ?_) #[true, true, true, true, true, true, true, true, true, true, true, true, true, true, true, true, true, true, true, true, true, false, false, false, false, false] rfl rfl (by kernel_rfl) (fun _ _ _ h => h) (Or.inl ⟨by rfl, ?_⟩) ?_ ?_
          rotate_left
          · intro w'
            go_simp
            with_reducible rfl
          rotate_left
          · simp only [Act.put, List.setIfInBounds_toArray, List.set_cons_zero, List.set_cons_succ, i64_w, i32_w]
            rfl
          refine take_ (i := 21) (N := some 119) (v := ?_) (a' := ?_) #[true, true, true, true, true, true, true, true, true, true, true, true, true, true, true, true, true, true, true, true, true, true, false, false, false, false] rfl rfl (by kernel_rfl) (fun _ _ _ h => h) (Or.inl ⟨by rfl, ?_⟩) hHeld ?_ ?_
          rotate_left
          · intro w' hS'
            obtain ⟨x0, x1, x2, x3, x4⟩ := HFV.out w' hS'
            clear hS'
            go_simp
            with_reducible rfl
          rotate_left
          · simp only [Act.put, List.setIfInBounds_toArray, List.set_cons_zero, List.set_cons_succ, i64_w, i32_w]
            rfl
          refine pure_ (i := 22) (N := some 120) (v := ?_) (a' := ?_) #[true, true, true, true, true, true, true, true, true, true, true, true, true, true, true, true, true, true, true, true, true, true, true, false, false, false] rfl rfl (by kernel_rfl) (fun _ _ _ h => h) (Or.inl ⟨by rfl, ?_⟩) ?_ ?_
          rotate_left
          · intro w'
            go_simp
            with_reducible rfl
          rotate_left
          · simp only [Act.put, List.setIfInBounds_toArray, List.set_cons_zero, List.set_cons_succ, i64_w, i32_w]
            rfl
          refine pure_ (i := 23) (N := some 121) (v := ?_) (a' := ?_) #[true, true, true, true, true, true, true, true, true, true, true, true, true, true, true, true, true, true, true, true, true, true, true, true, false, false] rfl rfl (by kernel_rfl) (fun _ _ _ h => h) (Or.inl ⟨by rfl, ?_⟩) ?_ ?_
          rotate_left
          · intro w'
            go_simp
            with_reducible rfl
          rotate_left
          · simp only [Act.put, List.setIfInBounds_toArray, List.set_cons_zero, List.set_cons_succ, i64_w, i32_w]
            rfl
          refine pure_ (i := 24) (N := some 122) (v := ?_) (a' := ?_) #[true, true, true, true, true, true, true, true, true, true, true, true, true, true, true, true, true, true, true, true, true, true, true, true, true, false] rfl rfl (by kernel_rfl) (fun _ _ _ h => h) (Or.inl ⟨by rfl, ?_⟩) ?_ ?_
          rotate_left
          · intro w'
            go_simp
            with_reducible rfl
          rotate_left
          · simp only [Act.put, List.setIfInBounds_toArray, List.set_cons_zero, List.set_cons_succ, i64_w, i32_w]
            rfl
          refine pure_ (i := 25) (N := some 123) (v := ?_) (a' := ?_) #[true, true, true, true, true, true, true, true, true, true, true, true, true, true, true, true, true, true, true, true, true, true, true, true, true, true] rfl rfl (by kernel_rfl) (fun _ _ _ h => h) (Or.inl ⟨by rfl, ?_⟩) ?_ ?_
          rotate_left
          · intro w'
            go_simp
            with_reducible rfl
          rotate_left
          · simp only [Act.put, List.setIfInBounds_toArray, List.set_cons_zero, List.set_cons_succ, i64_w, i32_w]
            rfl
          refine done_ (by kernel_rfl) ?_
          clear hcut
          go_wp2_with fail
          have HBf := Aside0.mk (show Below wb.heap.size wb wb.drew from below_drew1 (Below.refl _ _))
          obtain ⟨wf, hwf⟩ : ∃ wf, wf = wb.drew := ⟨_, rfl⟩
          rw [← hwf] at HBf ⊢
          clear hwf
          go_loopw [13] (fun tj wr => ∃ j : Nat, tj = .int .i64 (j : Int) ∧ Aside0 (j ≤ ve.steps.length) ∧ Aside0 (Below wf.heap.size wf wr)) (fun tj _ => ve.steps.length - left tj)
          case atStart => exact ⟨0, rfl, ⟨Nat.zero_le _⟩, ⟨Below.refl _ _⟩⟩
          case round =>
            obtain ⟨j, rfl, hj, HBj⟩ := hrel
            rename World => wc
            have HBbc := Aside0.mk (below_step HBf.out HBj.out)
            have HBwc := Aside0.mk (below_step HBwb.out HBbc.out)
            by_cases cj : j < ve.steps.length
            · have d1 : decide ((j : Int) < (ve.steps.length : Int)) = true := decide_eq_true (by omega)
              have d2 : decide (j < ve.steps.length) = true := decide_eq_true cj
              have bj : (j : Int) < (ve.steps.length : Int) := by omega
              have dk : k < ev.vers.length := HKL.out
              obtain ⟨st, hst⟩ : ∃ st, ve.steps[j]? = some st := ⟨_, List.getElem?_eq_getElem cj⟩
              obtain ⟨sn, hsn, hue⟩ := HVS.out j st hst
              obtain ⟨gN, hgN, hcN, hmN⟩ := hsn.view
              obtain ⟨cN, hcN2⟩ : ∃ cN, cN = sn.c := ⟨_, rfl⟩
              rw [hgN, ← hcN2] at hue
              rw [← hcN2] at hcN
              obtain ⟨ads, Bn, cn, hA, hCn, hte⟩ := at_S' (Kd.C_below HCS.out HBbc.out) j cj
              subst hA
              rw [get_of hst cj] at hCn hte
              have HS3 := Aside0.mk (HS2.out.2 st (List.mem_of_getElem? hst))
              have HJL := Aside0.mk cj
              have HFS := Aside0.mk (fun w' (hb : Below wc.heap.size wc w') => (show w'.cell? ⟨gS, j * 8 + 6, none⟩ = some (.slice (some ⟨gN, 0, none⟩) st.val.length cN) ∧ w'.cell? ⟨gS, j * 8 + 7, none⟩ = some (.int .i64 (wrap64 (st.pl + p))) ∧ w'.cell? ⟨(ads.add (j * 8)).block, (ads.add (j * 8)).off + 6, none⟩ = some (.slice Bn st.val.length cn) ∧ w'.cell? ⟨(ads.add (j * 8)).block, (ads.add (j * 8)).off + 7, none⟩ = some (.int .i64 st.pl) ∧ w'.cell? ⟨gN, st.val.length * 5, none⟩ = some (.int .i64 77) ∧ w'.cell? ⟨(adv.add (k * 3)).block, (adv.add (k * 3)).off + 1, none⟩ = some (.slice (some ads) ve.steps.length cs) from ⟨(hue w' (below_step HBwc.out hb)).1, (hue w' (below_step HBwc.out hb)).2, (hte w' hb).2.2.2.2.2.2.1, (hte w' hb).2.2.2.2.2.2.2, (hmN w' (below_step HBwc.out hb)).1, (HFV.out w' (below_step HBbc.out hb)).2.2.1⟩))
              have HMN := Aside0.mk (fun w' (hb : Below wc.heap.size wc w') => (hmN w' (below_step HBwc.out hb)).2)
              have HCN := Aside0.mk hCn
              obtain ⟨i0, hi0, _, hsz0, _⟩ := info_parts infoN
              have hcut := cut_cap (P := Tryd.prog) 25 46 .i64 Tryd.underlying25 hi0 (some ⟨gN, 0, none⟩) st.val.length cN ((st.val.length : Int) + 1) (by omega) (by omega)
              rw [show ((st.val.length : Int) + 1).toNat = st.val.length + 1 by omega] at hcut
              have b3 : (st.val.length : Int) < (st.val.length : Int) + 1 := by omega
              have U1 : Aside0 (wrap64 ((j : Int) + 1) = ((j + 1 : Nat) : Int)) := ⟨by have := HS2.out.1; have := HJL.out; unfold wrap64; omega⟩
              have U2 : ∀ [Inhabited Unit], wrap64 ((st.val.length : Int) + 1) = (st.val.length : Int) + 1 := by intro _; have := HS3.out; unfold wrap64; omega
              have U3 : IntKind.i64.wrap ((st.val.length : Int) + 1) = (st.val.length : Int) + 1 := by have := HS3.out; rw [i64_w]; unfold wrap64; omega
              obtain ⟨qs, hqs⟩ : ∃ q, q = wrap64 (st.pl + p) := ⟨_, rfl⟩
              have U4 : ∀ [Inhabited Unit], wrap64 (st.pl + p) = qs := by intro _; exact hqs.symm
              have U5 : IntKind.i64.wrap (st.pl + p) = qs := by rw [i64_w]; exact hqs.symm
              rw [← hqs] at HFS
              obtain ⟨x0, x1, x2, x3, x4, x5⟩ := HFS.out wc (Below.refl _ _)
              clear hst hsn hue hgN hcN hmN hcN2 hCn hte hi0 hsz0 hqs
              go_wp2_with fail
              clear x0 x1 x2 x3 x4 x5
              refine start_ (n := 30) (S := (fun w' : World => Below wc.heap.size wc w')) (ds := []) #[false, false, false, false, false, false, false, false, false, false, false, false, false, false, false, false, false, false, false, false, false, false, false, false, false, false, false, false, false, false] (by kernel_rfl) rfl rfl (below_drew1 (Below.refl _ _)) (fun hHeld => ?_)
              refine pure_ (i := 0) (N := some 135) (v := ?_) (a' := ?_) #[true, false, false, false, false, false, false, false, false, false, false, false, false, false, false, false, false, false, false, false, false, false, false, false, false, false, false, false, false, false] rfl rfl (by kernel_rfl) (fun _ _ _ h => h) (Or.inl ⟨by rfl, ?_⟩) ?_ ?_
              rotate_left
              · intro w'
                go_simp
                with_reducible rfl
              rotate_left
              · simp only [Act.put, List.setIfInBounds_toArray, List.set_cons_zero, List.set_cons_succ, i64_w, i32_w]
                rfl
              refine pure_ (i := 1) (N := some 136) (v := ?_) (a' := ?_) #[true, true, false, false, false, false, false, false, false, false, false, false, false, false, false, false, false, false, false, false, false, false, false, false, false, false, false, false, false, false] rfl rfl (by kernel_rfl) (fun _ _ _ h => h) (Or.inl ⟨by rfl, ?_⟩) ?_ ?_
              rotate_left
              · intro w'
                go_simp
                with_reducible rfl
              rotate_left
              · simp only [Act.put, List.setIfInBounds_toArray, List.set_cons_zero, List.set_cons_succ, i64_w, i32_w]
                rfl
              refine pure_ (i := 2) (N := some 137) (v := ?_) (a' := ?_) #[true, true, true, false, false, false, false, false, false, false, false, false, false, false, false, false, false, false, false, false, false, false, false, false, false, false, false, false, false, false] rfl rfl (by kernel_rfl) (fun _ _ _ h => h) (Or.inl ⟨by rfl, ?_⟩) ?_ ?_
              rotate_left
              · intro w'
                go_simp
                with_reducible rfl
              rotate_left
              · simp only [Act.put, List.setIfInBounds_toArray, List.set_cons_zero, List.set_cons_succ, i64_w, i32_w]
                rfl
              refine pure_ (i := 3) (N := some 138) (v := ?_) (a' := ?_) #[true, true, true, true, false, false, false, false, false, false, false, false, false, false, false, false, false, false, false, false, false, false, false, false, false, false, false, false, false, false] rfl rfl (by kernel_rfl) (fun _ _ _ h => h) (Or.inl ⟨by rfl, ?_⟩) ?_ ?_
              rotate_left
              · intro w'
                go_simp
                with_reducible rfl
              rotate_left
              · simp only [Act.put, List.setIfInBounds_toArray, List.set_cons_zero, List.set_cons_succ, i64_w, i32_w]
                rfl
              refine pure_ (i := 4) (N := some 139) (v := ?_) (a' := ?_) #[true, true, true, true, true, false, false, false, false, false, false, false, false, false, false, false, false, false, false, false, false, false, false, false, false, false, false, false, false, false] rfl rfl (by kernel_rfl) (fun _ _ _ h => h) (Or.inl ⟨by rfl, ?_⟩) ?_ ?_
              rotate_left
              · intro w'
                go_simp
                with_reducible rfl
              rotate_left
              · simp only [Act.put, List.setIfInBounds_toArray, List.set_cons_zero, List.set_cons_succ, i64_w, i32_w]
                rfl
              refine pure_ (i := 5) (N := some 140) (v := ?_) (a' := ?_) #[true, true, true, true, true, true, false, false, false, false, false, false, false, false, false, false, false, false, false, false, false, false, false, false, false, false, false, false, false, false] rfl rfl (by kernel_rfl) (fun _ _ _ h => h) (Or.inl ⟨by rfl, ?_⟩) ?_ ?_
              rotate_left
              · intro w'
                go_simp
                with_reducible rfl
              rotate_left
              · simp only [Act.put, List.setIfInBounds_toArray, List.set_cons_zero, List.set_cons_succ, i64_w, i32_w]
                rfl
              refine pure_ (i := 6) (N := some 141) (v := ?_) (a' := ?_) #[true, true, true, true, true, true, true, false, false, false, false, false, false, false, false, false, false, false, false, false, false, false, false, false, false, false, false, false, false, false] rfl rfl (by kernel_rfl) (fun _ _ _ h => h) (Or.inl ⟨by rfl, ?_⟩) ?_ ?_
              rotate_left
              · intro w'
                go_simp
                with_reducible rfl
              rotate_left
              · simp only [Act.put, List.setIfInBounds_toArray, List.set_cons_zero, List.set_cons_succ, i64_w, i32_w]
                rfl
              refine pure_ (i := 7) (N := some 142) (v := ?_) (a' := ?_) #[true, true, true, true, true, true, true, true, false, false, false, false, false, false, false, false, false, false, false, false, false, false, false, false, false, false, false, false, false, false] rfl rfl (by kernel_rfl) (fun _ _ _ h => h) (Or.inl ⟨by rfl, ?_⟩) ?_ ?_
              rotate_left
              · intro w'
                go_simp
                with_reducible rfl
              rotate_left
              · simp only [Act.put, List.setIfInBounds_toArray, List.set_cons_zero, List.set_cons_succ, i64_w, i32_w]
                rfl
              refine pure_ (i := 8) (N := some 143) (v := ?_) (a' := ?_) #[true, true, true, true, true, true, true, true, true, false, false, false, false, false, false, false, false, false, false, false, false, false, false, false, false, false, false, false, false, false] rfl rfl (by kernel_rfl) (fun _ _ _ h => h) (Or.inl ⟨by rfl, ?_⟩) ?_ ?_
              rotate_left
              · intro w'
                go_simp
                with_reducible rfl
              rotate_left
              · simp only [Act.put, List.setIfInBounds_toArray, List.set_cons_zero, List.set_cons_succ, i64_w, i32_w]
                rfl
              refine take_ (i := 9) (N := some 144) (v := ?_) (a' := ?_) #[true, true, true, true, true, true, true, true, true, true, false, false, false, false, false, false, false, false, false, false, false, false, false, false, false, false, false, false, false, false] rfl rfl (by kernel_rfl) (fun _ _ _ h => h) (Or.inl ⟨by rfl, ?_⟩) hHeld ?_ ?_
              rotate_left
              · intro w' hS'
                obtain ⟨x0, x1, x2, x3, x4, x5⟩ := HFS.out w' hS'
                clear hS'
                go_simp
                with_reducible rfl
              rotate_left
              · simp only [Act.put, List.setIfInBounds_toArray, List.set_cons_zero, List.set_cons_succ, i64_w, i32_w]
                rfl
              refine pure_ (i := 10) (N := some 145) (v := ?_) (a' := ?_) #[true, true, true, true, true, true, true, true, true, true, true, false, false, false, false, false, false, false, false, false, false, false, false, false, false, false, false, false, false, false] rfl rfl (by kernel_rfl) (fun _ _ _ h => h) (Or.inl ⟨by rfl, ?_⟩) ?_ ?_
              rotate_left
              · intro w'
                go_simp
                with_reducible rfl
              rotate_left
              · simp only [Act.put, List.setIfInBounds_toArray, List.set_cons_zero, List.set_cons_succ, i64_w, i32_w]
                rfl
              refine pure_ (i := 11) (N := some 146) (v := ?_) (a' := ?_) #[true, true, true, true, true, true, true, true, true, true, true, true, false, false, false, false, false, false, false, false, false, false, false, false, false, false, false, false, false, false] rfl rfl (by kernel_rfl) (fun _ _ _ h => h) (Or.inl ⟨by rfl, ?_⟩) ?_ ?_
              rotate_left
              · intro w'
                go_simp
                with_reducible rfl
              rotate_left
              · simp only [Act.put, List.setIfInBounds_toArray, List.set_cons_zero, List.set_cons_succ, i64_w, i32_w]
                rfl
              refine pure_ (i := 12) (N := some 147) (v := ?_) (a' := ?_) #[true, true, true, true, true, true, true, true, true, true, true, true, true, false, false, false, false, false, false, false, false, false, false, false, false, false, false, false, false, false] rfl rfl (by kernel_rfl) (fun _ _ _ h => h) (Or.inl ⟨by rfl, ?_⟩) ?_ ?_
              rotate_left
              · intro w'
                go_simp
                with_reducible rfl
              rotate_left
              · simp only [Act.put, List.setIfInBounds_toArray, List.set_cons_zero, List.set_cons_succ, i64_w, i32_w]
                rfl
              refine pure_ (i := 13) (N := some 148) (v := ?_) (a' := ?_) #[true, true, true, true, true, true, true, true, true, true, true, true, true, true, false, false, false, false, false, false, false, false, false, false, false, false, false, false, false, false] rfl rfl (by kernel_rfl) (fun _ _ _ h => h) (Or.inl ⟨by rfl, ?_⟩) ?_ ?_
              rotate_left
              · intro w'
                go_simp
                with_reducible rfl
              rotate_left
              · simp only [Act.put, List.setIfInBounds_toArray, List.set_cons_zero, List.set_cons_succ, i64_w, i32_w]
                rfl
              refine pure_ (i := 14) (N := some 149) (v := ?_) (a' := ?_) #[true, true, true, true, true, true, true, true, true, true, true, true, true, true, true, false, false, false, false, false, false, false, false, false, false, false, false, false, false, false] rfl rfl (by kernel_rfl) (fun _ _ _ h => h) (Or.inl ⟨by rfl, ?_⟩) ?_ ?_
              rotate_left
              · intro w'
                go_simp
                with_reducible rfl
              rotate_left
              · simp only [Act.put, List.setIfInBounds_toArray, List.set_cons_zero, List.set_cons_succ, i64_w, i32_w]
                rfl
              refine pure_ (i := 15) (N := some 150) (v := ?_) (a' := ?_) #[true, true, true, true, true, true, true, true, true, true, true, true, true, true, true, true, false, false, false, false, false, false, false, false, false, false, false, false, false, false] rfl rfl (by kernel_rfl) (fun _ _ _ h => h) (Or.inl ⟨by rfl, ?_⟩) ?_ ?_
              rotate_left
              · intro w'
                go_simp
                with_reducible rfl
              rotate_left
              · simp only [Act.put, List.setIfInBounds_toArray, List.set_cons_zero, List.set_cons_succ, i64_w, i32_w]
                rfl
              refine take_ (i := 16) (N := some 151) (v := ?_) (a' := ?_) #[true, true, true, true, true, true, true, true, true, true, true, true, true, true, true, true, true, false, false, false, false, false, false, false, false, false, false, false, false, false] rfl rfl (by kernel_rfl) (fun _ _ _ h => h) (Or.inl ⟨by rfl, ?_⟩) hHeld ?_ ?_
              rotate_left
              · intro w' hS'
                obtain ⟨x0, x1, x2, x3, x4, x5⟩ := HFS.out w' hS'
                clear hS'
                go_simp
                with_reducible rfl
              rotate_left
              · simp only [Act.put, List.setIfInBounds_toArray, List.set_cons_zero, List.set_cons_succ, i64_w, i32_w]
                rfl
              refine pure_ (i := 17) (N := some 152) (v := ?_) (a' := ?_) #[true, true, true, true, true, true, true, true, true, true, true, true, true, true, true, true, true, true, false, false, false, false, false, false, false, false, false, false, false, false] rfl rfl (by kernel_rfl) (fun _ _ _ h => h) (Or.inl ⟨by rfl, ?_⟩) ?_ ?_
              rotate_left
              · intro w'
                go_simp
                with_reducible rfl
              rotate_left
              · simp only [Act.put, List.setIfInBounds_toArray, List.set_cons_zero, List.set_cons_succ, i64_w, i32_w]
                rfl
              refine pure_ (i := 18) (N := some 153) (v := ?_) (a' := ?_) #[true, true, true, true, true, true, true, true, true, true, true, true, true, true, true, true, true, true, true, false, false, false, false, false, false, false, false, false, false, false] rfl rfl (by kernel_rfl) (fun _ _ _ h => h) (Or.inl ⟨by rfl, ?_⟩) ?_ ?_
              rotate_left
              · intro w'
                go_simp
                with_reducible rfl
              rotate_left
              · simp only [Act.put, List.setIfInBounds_toArray, List.set_cons_zero, List.set_cons_succ, i64_w, i32_w]
                rfl
              refine pure_ (i := 19) (N := some 154) (v := ?_) (a' := ?_) #[true, true, true, true, true, true, true, true, true, true, true, true, true, true, true, true, true, true, true, true, false, false, false, false, false, false, false, false, false, false] rfl rfl (by kernel_rfl) (fun _ _ _ h => h) (Or.inl ⟨by rfl, ?_⟩) ?_ ?_
              rotate_left
              · intro w'
                go_simp
                with_reducible rfl
              rotate_left
              · simp only [Act.put, List.setIfInBounds_toArray, List.set_cons_zero, List.set_cons_succ, i64_w, i32_w]
                rfl
              refine pure_ (i := 20) (N := some 155) (v := ?_) (a' := ?_) #[true, true, true, true, true, true, true, true, true, true, true, true, true, true, true, true, true, true, true, true, true, false, false, false, false, false, false, false, false, false] rfl rfl (by kernel_rfl) (fun _ _ _ h => h) (Or.inl ⟨by rfl, ?_⟩) ?_ ?_
              rotate_left
              · intro w'
                go_simp
                with_reducible rfl
              rotate_left
              · simp only [Act.put, List.setIfInBounds_toArray, List.set_cons_zero, List.set_cons_succ, i64_w, i32_w]
                rfl
              refine take_ (i := 21) (N := some 156) (v := ?_) (a' := ?_) #[true, true, true, true, true, true, true, true, true, true, true, true, true, true, true, true, true, true, true, true, true, true, false, false, false, false, false, false, false, false] rfl rfl (by kernel_rfl) (fun _ _ _ h => h) (Or.inl ⟨by rfl, ?_⟩) hHeld ?_ ?_
              rotate_left
              · intro w' hS'
                obtain ⟨x0, x1, x2, x3, x4, x5⟩ := HFS.out w' hS'
                clear hS'
                go_simp
                with_reducible rfl
              rotate_left
              · simp only [Act.put, List.setIfInBounds_toArray, List.set_cons_zero, List.set_cons_succ, i64_w, i32_w]
                rfl
              refine pure_ (i := 22) (N := some 157) (v := ?_) (a' := ?_) #[true, true, true, true, true, true, true, true, true, true, true, true, true, true, true, true, true, true, true, true, true, true, true, false, false, false, false, false, false, false] rfl rfl (by kernel_rfl) (fun _ _ _ h => h) (Or.inl ⟨by rfl, ?_⟩) ?_ ?_
              rotate_left
              · intro w'
                go_simp
                with_reducible rfl
              rotate_left
              · simp only [Act.put, List.setIfInBounds_toArray, List.set_cons_zero, List.set_cons_succ, i64_w, i32_w]
                rfl
              refine pure_ (i := 23) (N := some 158) (v := ?_) (a' := ?_) #[true, true, true, true, true, true, true, true, true, true, true, true, true, true, true, true, true, true, true, true, true, true, true, true, false, false, false, false, false, false] rfl rfl (by kernel_rfl) (fun _ _ _ h => h) (Or.inl ⟨by rfl, ?_⟩) ?_ ?_
              rotate_left
              · intro w'
                go_simp
                with_reducible rfl
              rotate_left
              · simp only [Act.put, List.setIfInBounds_toArray, List.set_cons_zero, List.set_cons_succ, i64_w, i32_w]
                rfl
              refine pure_ (i := 24) (N := some 159) (v := ?_) (a' := ?_) #[true, true, true, true, true, true, true, true, true, true, true, true, true, true, true, true, true, true, true, true, true, true, true, true, true, false, false, false, false, false] rfl rfl (by kernel_rfl) (fun _ _ _ h => h) (Or.inl ⟨by rfl, ?_⟩) ?_ ?_
              rotate_left
              · intro w'
                go_simp
                with_reducible rfl
              rotate_left
              · simp only [Act.put, List.setIfInBounds_toArray, List.set_cons_zero, List.set_cons_succ, i64_w, i32_w]
                rfl
              refine take_ (i := 25) (N := some 160) (v := ?_) (a' := ?_) #[true, true, true, true, true, true, true, true, true, true, true, true, true, true, true, true, true, true, true, true, true, true, true, true, true, true, false, false, false, false] rfl rfl (by kernel_rfl) (fun _ _ _ h => h) (Or.inl ⟨by rfl, ?_⟩) hHeld ?_ ?_
              rotate_left
              · intro w' hS'
                obtain ⟨x0, x1, x2, x3, x4, x5⟩ := HFS.out w' hS'
                clear hS'
                go_simp
                with_reducible rfl
              rotate_left
              · simp only [Act.put, List.setIfInBounds_toArray, List.set_cons_zero, List.set_cons_succ, i64_w, i32_w]
                rfl
              refine pure_ (i := 26) (N := some 161) (v := ?_) (a' := ?_) #[true, true, true, true, true, true, true, true, true, true, true, true, true, true, true, true, true, true, true, true, true, true, true, true, true, true, true, false, false, false] rfl rfl (by kernel_rfl) (fun _ _ _ h => h) (Or.inl ⟨by rfl, ?_⟩) ?_ ?_
              rotate_left
              · intro w'
                go_simp
                with_reducible rfl
              rotate_left
              · simp only [Act.put, List.setIfInBounds_toArray, List.set_cons_zero, List.set_cons_succ, i64_w, i32_w]
                rfl
              refine pure_ (i := 27) (N := some 162) (v := ?_) (a' := ?_) #[true, true, true, true, true, true, true, true, true, true, true, true, true, true, true, true, true, true, true, true, true, true, true, true, true, true, true, true, false, false] rfl rfl (by kernel_rfl) (fun _ _ _ h => h) (Or.inl ⟨by rfl, ?_⟩) ?_ ?_
              rotate_left
              · intro w'
                go_simp
                with_reducible rfl
              rotate_left
              · simp only [Act.put, List.setIfInBounds_toArray, List.set_cons_zero, List.set_cons_succ, i64_w, i32_w]
                rfl
              refine pure_ (i := 28) (N := some 163) (v := ?_) (a' := ?_) #[true, true, true, true, true, true, true, true, true, true, true, true, true, true, true, true, true, true, true, true, true, true, true, true, true, true, true, true, true, false] rfl rfl (by kernel_rfl) (fun _ _ _ h => h) (Or.inl ⟨by rfl, ?_⟩) ?_ ?_
              rotate_left
              · intro w'
                go_simp
                with_reducible rfl
              rotate_left
              · simp only [Act.put, List.setIfInBounds_toArray, List.set_cons_zero, List.set_cons_succ, i64_w, i32_w]
                rfl
              refine pure_ (i := 29) (N := some 164) (v := ?_) (a' := ?_) #[true, true, true, true, true, true, true, true, true, true, true, true, true, true, true, true, true, true, true, true, true, true, true, true, true, true, true, true, true, true] rfl rfl (by kernel_rfl) (fun _ _ _ h => h) (Or.inl ⟨by rfl, ?_⟩) ?_ ?_
              rotate_left
              · intro w'
                go_simp
                with_reducible rfl
              rotate_left
              · simp only [Act.put, List.setIfInBounds_toArray, List.set_cons_zero, List.set_cons_succ, i64_w, i32_w]
                rfl
              refine done_ (by kernel_rfl) ?_
              clear hcut
              go_wp2_with fail
              have HBg := Aside0.mk (show Below wc.heap.size wc wc.drew from below_drew1 (Below.refl _ _))
              obtain ⟨wg, hwg⟩ : ∃ wg, wg = wc.drew := ⟨_, rfl⟩
              rw [← hwg] at HBg ⊢
              clear hwg
              go_loopw [15] (fun tm wr => ∃ m : Nat, tm = .int .i64 (m : Int) ∧ Aside0 (m ≤ st.val.length) ∧ Aside0 (Below wg.heap.size wg wr)) (fun tm _ => st.val.length - left tm)
              case atStart => exact ⟨0, rfl, ⟨Nat.zero_le _⟩, ⟨Below.refl _ _⟩⟩
              case round =>
                obtain ⟨m, rfl, hm, HBm⟩ := hrel
                rename World => wd
                have HBcd := Aside0.mk (below_step HBg.out HBm.out)
                by_cases cm : m < st.val.length
                · have d1 : decide ((m : Int) < (st.val.length : Int)) = true := decide_eq_true (by omega)
                  have d2 : decide (m < st.val.length) = true := decide_eq_true cm
                  have bm : (m : Int) < (st.val.length : Int) := by omega
                  have dk : k < ev.vers.length := HKL.out
                  have dj : j < ve.steps.length := HJL.out
                  obtain ⟨nd, hnd⟩ : ∃ nd, st.val[m]? = some nd := ⟨_, List.getElem?_eq_getElem cm⟩
                  have HML := Aside0.mk cm
                  obtain ⟨an, hA, _⟩ := at_nd (Kd.C_below HCN.out HBcd.out) hnd
                  subst hA
                  have HFN := Aside0.mk (fun w' (hb : Below wd.heap.size wd w') => (show w'.cell? ⟨gN, m * 5 + 4, none⟩ = some (.int .i64 (wrap64 (nd.f4 + p))) ∧ w'.cell? ⟨(an.add (m * 5)).block, (an.add (m * 5)).off + 4, none⟩ = some (.int .i64 nd.f4) ∧ w'.cell? ⟨(adv.add (k * 3)).block, (adv.add (k * 3)).off + 1, none⟩ = some (.slice (some ads) ve.steps.length cs) ∧ w'.cell? ⟨(ads.add (j * 8)).block, (ads.add (j * 8)).off + 6, none⟩ = some (.slice (some an) st.val.length cn) from by
                    have hb2 := below_step HBcd.out hb
                    obtain ⟨_, q1, _, _, _, _, q2⟩ := at_nd (Kd.C_below HCN.out hb2) hnd
                    injection q1 with q1
                    subst q1
                    exact ⟨HMN.out w' hb2 m nd hnd, q2, (HFS.out w' hb2).2.2.2.2.2, (HFS.out w' hb2).2.2.1⟩))
                  have T1 : Aside0 (wrap64 ((m : Int) + 1) = ((m + 1 : Nat) : Int)) := ⟨by have := HS3.out; have := HML.out; unfold wrap64; omega⟩
                  obtain ⟨qn, hqn⟩ : ∃ q, q = wrap64 (nd.f4 + p) := ⟨_, rfl⟩
                  have T4 : ∀ [Inhabited Unit], wrap64 (nd.f4 + p) = qn := by intro _; exact hqn.symm
                  have T5 : IntKind.i64.wrap (nd.f4 + p) = qn := by rw [i64_w]; exact hqn.symm
                  rw [← hqn] at HFN
                  clear hnd hqn
                  go_wp2_with fail
                  refine start_ (n := 21) (S := (fun w' : World => Below wd.heap.size wd w')) (ds := []) #[false, false, false, false, false, false, false, false, false, false, false, false, false, false, false, false, false, false, false, false, false] (by kernel_rfl) rfl rfl (below_drew1 (Below.refl _ _)) (fun hHeld => ?_)
                  refine pure_ (i := 0) (N := some 171) (v := ?_) (a' := ?_) #[true, false, false, false, false, false, false, false, false, false, false, false, false, false, false, false, false, false, false, false, false] rfl rfl (by kernel_rfl) (fun _ _ _ h => h) (Or.inl ⟨by rfl, ?_⟩) ?_ ?_
                  rotate_left
                  · intro w'
                    go_simp
                    with_reducible rfl
                  rotate_left
                  · simp only [Act.put, List.setIfInBounds_toArray, List.set_cons_zero, List.set_cons_succ, i64_w, i32_w]
                    rfl
                  refine pure_ (i := 1) (N := some 172) (v := ?_) (a' := ?_) #[true, true, false, false, false, false, false, false, false, false, false, false, false, false, false, false, false, false, false, false, false] rfl rfl (by kernel_rfl) (fun _ _ _ h => h) (Or.inl ⟨by rfl, ?_⟩) ?_ ?_
                  rotate_left
                  · intro w'
                    go_simp
                    with_reducible rfl
                  rotate_left
                  · simp only [Act.put, List.setIfInBounds_toArray, List.set_cons_zero, List.set_cons_succ, i64_w, i32_w]
                    rfl
                  refine pure_ (i := 2) (N := some 173) (v := ?_) (a' := ?_) #[true, true, true, false, false, false, false, false, false, false, false, false, false, false, false, false, false, false, false, false, false] rfl rfl (by kernel_rfl) (fun _ _ _ h => h) (Or.inl ⟨by rfl, ?_⟩) ?_ ?_
                  rotate_left
                  · intro w'
                    go_simp
                    with_reducible rfl
                  rotate_left
                  · simp only [Act.put, List.setIfInBounds_toArray, List.set_cons_zero, List.set_cons_succ, i64_w, i32_w]
                    rfl
                  refine pure_ (i := 3) (N := some 174) (v := ?_) (a' := ?_) #[true, true, true, true, false, false, false, false, false, false, false, false, false, false, false, false, false, false, false, false, false] rfl rfl (by kernel_rfl) (fun _ _ _ h => h) (Or.inl ⟨by rfl, ?_⟩) ?_ ?_
                  rotate_left
                  · intro w'
                    go_simp
                    with_reducible rfl
                  rotate_left
                  · simp only [Act.put, List.setIfInBounds_toArray, List.set_cons_zero, List.set_cons_succ, i64_w, i32_w]
                    rfl
                  refine take_ (i := 4) (N := some 175) (v := ?_) (a' := ?_) #[true, true, true, true, true, false, false, false, false, false, false, false, false, false, false, false, false, false, false, false, false] rfl rfl (by kernel_rfl) (fun _ _ _ h => h) (Or.inl ⟨by rfl, ?_⟩) hHeld ?_ ?_
                  rotate_left
                  · intro w' hS'
                    obtain ⟨x0, x1, x2, x3⟩ := HFN.out w' hS'
                    clear hS'
                    go_simp
                    with_reducible rfl
                  rotate_left
                  · simp only [Act.put, List.setIfInBounds_toArray, List.set_cons_zero, List.set_cons_succ, i64_w, i32_w]
                    rfl
                  refine pure_ (i := 5) (N := some 176) (v := ?_) (a' := ?_) #[true, true, true, true, true, true, false, false, false, false, false, false, false, false, false, false, false, false, false, false, false] rfl rfl (by kernel_rfl) (fun _ _ _ h => h) (Or.inl ⟨by rfl, ?_⟩) ?_ ?_
                  rotate_left
                  · intro w'
                    go_simp
                    with_reducible rfl
                  rotate_left
                  · simp only [Act.put, List.setIfInBounds_toArray, List.set_cons_zero, List.set_cons_succ, i64_w, i32_w]
                    rfl
                  refine pure_ (i := 6) (N := some 177) (v := ?_) (a' := ?_) #[true, true, true, true, true, true, true, false, false, false, false, false, false, false, false, false, false, false, false, false, false] rfl rfl (by kernel_rfl) (fun _ _ _ h => h) (Or.inl ⟨by rfl, ?_⟩) ?_ ?_
                  rotate_left
                  · intro w'
                    go_simp
                    with_reducible rfl
                  rotate_left
                  · simp only [Act.put, List.setIfInBounds_toArray, List.set_cons_zero, List.set_cons_succ, i64_w, i32_w]
                    rfl
                  refine pure_ (i := 7) (N := some 178) (v := ?_) (a' := ?_) #[true, true, true, true, true, true, true, true, false, false, false, false, false, false, false, false, false, false, false, false, false] rfl rfl (by kernel_rfl) (fun _ _ _ h => h) (Or.inl ⟨by rfl, ?_⟩) ?_ ?_
                  rotate_left
                  · intro w'
                    go_simp
                    with_reducible rfl
                  rotate_left
                  · simp only [Act.put, List.setIfInBounds_toArray, List.set_cons_zero, List.set_cons_succ, i64_w, i32_w]
                    rfl
                  refine pure_ (i := 8) (N := some 179) (v := ?_) (a' := ?_) #[true, true, true, true, true, true, true, true, true, false, false, false, false, false, false, false, false, false, false, false, false] rfl rfl (by kernel_rfl) (fun _ _ _ h => h) (Or.inl ⟨by rfl, ?_⟩) ?_ ?_
                  rotate_left
                  · intro w'
                    go_simp
                    with_reducible rfl
                  rotate_left
                  · simp only [Act.put, List.setIfInBounds_toArray, List.set_cons_zero, List.set_cons_succ, i64_w, i32_w]
                    rfl
                  refine take_ (i := 9) (N := some 180) (v := ?_) (a' := ?_) #[true, true, true, true, true, true, true, true, true, true, false, false, false, false, false, false, false, false, false, false, false] rfl rfl (by kernel_rfl) (fun _ _ _ h => h) (Or.inl ⟨by rfl, ?_⟩) hHeld ?_ ?_
                  rotate_left
                  · intro w' hS'
                    obtain ⟨x0, x1, x2, x3⟩ := HFN.out w' hS'
                    clear hS'
                    go_simp
                    with_reducible rfl
                  rotate_left
                  · simp only [Act.put, List.setIfInBounds_toArray, List.set_cons_zero, List.set_cons_succ, i64_w, i32_w]
                    rfl
                  refine pure_ (i := 10) (N := some 181) (v := ?_) (a' := ?_) #[true, true, true, true, true, true, true, true, true, true, true, false, false, false, false, false, false, false, false, false, false] rfl rfl (by kernel_rfl) (fun _ _ _ h => h) (Or.inl ⟨by rfl, ?_⟩) ?_ ?_
                  rotate_left
                  · intro w'
                    go_simp
                    with_reducible rfl
                  rotate_left
                  · simp only [Act.put, List.setIfInBounds_toArray, List.set_cons_zero, List.set_cons_succ, i64_w, i32_w]
                    rfl
                  refine pure_ (i := 11) (N := some 182) (v := ?_) (a' := ?_) #[true, true, true, true, true, true, true, true, true, true, true, true, false, false, false, false, false, false, false, false, false] rfl rfl (by kernel_rfl) (fun _ _ _ h => h) (Or.inl ⟨by rfl, ?_⟩) ?_ ?_
                  rotate_left
                  · intro w'
                    go_simp
                    with_reducible rfl
                  rotate_left
                  · simp only [Act.put, List.setIfInBounds_toArray, List.set_cons_zero, List.set_cons_succ, i64_w, i32_w]
                    rfl
                  refine pure_ (i := 12) (N := some 183) (v := ?_) (a' := ?_) #[true, true, true, true, true, true, true, true, true, true, true, true, true, false, false, false, false, false, false, false, false] rfl rfl (by kernel_rfl) (fun _ _ _ h => h) (Or.inl ⟨by rfl, ?_⟩) ?_ ?_
                  rotate_left
                  · intro w'
                    go_simp
                    with_reducible rfl
                  rotate_left
                  · simp only [Act.put, List.setIfInBounds_toArray, List.set_cons_zero, List.set_cons_succ, i64_w, i32_w]
                    rfl
                  refine take_ (i := 13) (N := some 184) (v := ?_) (a' := ?_) #[true, true, true, true, true, true, true, true, true, true, true, true, true, true, false, false, false, false, false, false, false] rfl rfl (by kernel_rfl) (fun _ _ _ h => h) (Or.inl ⟨by rfl, ?_⟩) hHeld ?_ ?_
                  rotate_left
                  · intro w' hS'
                    obtain ⟨x0, x1, x2, x3⟩ := HFN.out w' hS'
                    clear hS'
                    go_simp
                    with_reducible rfl
                  rotate_left
                  · simp only [Act.put, List.setIfInBounds_toArray, List.set_cons_zero, List.set_cons_succ, i64_w, i32_w]
                    rfl
                  refine pure_ (i := 14) (N := some 185) (v := ?_) (a' := ?_) #[true, true, true, true, true, true, true, true, true, true, true, true, true, true, true, false, false, false, false, false, false] rfl rfl (by kernel_rfl) (fun _ _ _ h => h) (Or.inl ⟨by rfl, ?_⟩) ?_ ?_
                  rotate_left
                  · intro w'
                    go_simp
                    with_reducible rfl
                  rotate_left
                  · simp only [Act.put, List.setIfInBounds_toArray, List.set_cons_zero, List.set_cons_succ, i64_w, i32_w]
                    rfl
                  refine pure_ (i := 15) (N := some 186) (v := ?_) (a' := ?_) #[true, true, true, true, true, true, true, true, true, true, true, true, true, true, true, true, false, false, false, false, false] rfl rfl (by kernel_rfl) (fun _ _ _ h => h) (Or.inl ⟨by rfl, ?_⟩) ?_ ?_
                  rotate_left
                  · intro w'
                    go_simp
                    with_reducible rfl
                  rotate_left
                  · simp only [Act.put, List.setIfInBounds_toArray, List.set_cons_zero, List.set_cons_succ, i64_w, i32_w]
                    rfl
                  refine pure_ (i := 16) (N := some 187) (v := ?_) (a' := ?_) #[true, true, true, true, true, true, true, true, true, true, true, true, true, true, true, true, true, false, false, false, false] rfl rfl (by kernel_rfl) (fun _ _ _ h => h) (Or.inl ⟨by rfl, ?_⟩) ?_ ?_
                  rotate_left
                  · intro w'
                    go_simp
                    with_reducible rfl
                  rotate_left
                  · simp only [Act.put, List.setIfInBounds_toArray, List.set_cons_zero, List.set_cons_succ, i64_w, i32_w]
                    rfl
                  refine take_ (i := 17) (N := some 188) (v := ?_) (a' := ?_) #[true, true, true, true, true, true, true, true, true, true, true, true, true, true, true, true, true, true, false, false, false] rfl rfl (by kernel_rfl) (fun _ _ _ h => h) (Or.inl ⟨by rfl, ?_⟩) hHeld ?_ ?_
                  rotate_left
                  · intro w' hS'
                    obtain ⟨x0, x1, x2, x3⟩ := HFN.out w' hS'
                    clear hS'
                    go_simp
                    with_reducible rfl
                  rotate_left
                  · simp only [Act.put, List.setIfInBounds_toArray, List.set_cons_zero, List.set_cons_succ, i64_w, i32_w]
                    rfl
                  refine pure_ (i := 18) (N := some 189) (v := ?_) (a' := ?_) #[true, true, true, true, true, true, true, true, true, true, true, true, true, true, true, true, true, true, true, false, false] rfl rfl (by kernel_rfl) (fun _ _ _ h => h) (Or.inl ⟨by rfl, ?_⟩) ?_ ?_
                  rotate_left
                  · intro w'
                    go_simp
                    with_reducible rfl
                  rotate_left
                  · simp only [Act.put, List.setIfInBounds_toArray, List.set_cons_zero, List.set_cons_succ, i64_w, i32_w]
                    rfl
                  refine pure_ (i := 19) (N := some 190) (v := ?_) (a' := ?_) #[true, true, true, true, true, true, true, true, true, true, true, true, true, true, true, true, true, true, true, true, false] rfl rfl (by kernel_rfl) (fun _ _ _ h => h) (Or.inl ⟨by rfl, ?_⟩) ?_ ?_
                  rotate_left
                  · intro w'
                    go_simp
                    with_reducible rfl
                  rotate_left
                  · simp only [Act.put, List.setIfInBounds_toArray, List.set_cons_zero, List.set_cons_succ, i64_w, i32_w]
                    rfl
                  refine pure_ (i := 20) (N := some 191) (v := ?_) (a' := ?_) #[true, true, true, true, true, true, true, true, true, true, true, true, true, true, true, true, true, true, true, true, true] rfl rfl (by kernel_rfl) (fun _ _ _ h => h) (Or.inl ⟨by rfl, ?_⟩) ?_ ?_
                  rotate_left
                  · intro w'
                    go_simp
                    with_reducible rfl
                  rotate_left
                  · simp only [Act.put, List.setIfInBounds_toArray, List.set_cons_zero, List.set_cons_succ, i64_w, i32_w]
                    rfl
                  refine done_ (by kernel_rfl) ?_
                  go_wp2_with fail
                  rw [T1.out]
                  go_roundw
                  case measure => have := HML.out; simp only [left, Int.toNat_natCast]; omega
                  case rel => exact ⟨m + 1, rfl, ⟨HML.out⟩, ⟨below_step HBm.out (below_drew1 (Below.refl _ _))⟩⟩
                · have d1 : decide ((m : Int) < (st.val.length : Int)) = false := decide_eq_false (by omega)
                  have d2 : decide (m < st.val.length) = false := decide_eq_false cm
                  go_wp2_with fail
                  rw [U1.out]
                  go_roundw
                  case measure => have := HJL.out; simp only [left, Int.toNat_natCast]; omega
                  case rel => exact ⟨j + 1, rfl, ⟨HJL.out⟩, ⟨below_step HBj.out HBcd.out⟩⟩
            · have d1 : decide ((j : Int) < (ve.steps.length : Int)) = false := decide_eq_false (by omega)
              have d2 : decide (j < ve.steps.length) = false := decide_eq_false cj
              go_wp2_with fail
              rw [V1.out]
              go_roundw
              case measure => have := HKL.out; simp only [left, Int.toNat_natCast]; omega
              case rel => exact ⟨k + 1, rfl, ⟨HKL.out⟩, ⟨below_step HBk.out HBbc.out⟩⟩
        · have d1 : decide ((k : Int) < (ev.vers.length : Int)) = false := decide_eq_false (by omega)
          have d2 : decide (k < ev.vers.length) = false := decide_eq_false ck
          go_wp2_with fail
          rw [W1.out]
          go_roundw
          case measure => have := HIL.out; simp only [left, Int.toNat_natCast]; omega
          case rel => exact ⟨i + 1, rfl, ⟨HIL.out⟩, ⟨below_step HBd.out HBk.out⟩⟩
    · have d1 : decide ((i : Int) < (es.length : Int)) = false := decide_eq_false (by omega)
      have d2 : decide (i < es.length) = false := decide_eq_false ci
      go_wp2_with fail
      go_ret
      exact ⟨rfl, HBw.out⟩
end Go.Proofs.YtaijoghpfobdbaaDoor.W
end
section
set_option linter.unusedVariables false
set_option linter.unusedSimpArgs false
namespace Go.Proofs.YtaijoghpfobdbaaDoor.W
open Go.RowKit Go.Proofs.YtaijoghpfobdbaaDoor.X Go.Proofs.YtaijoghpfobdbaaDoorW.PrintWords Go.Proofs.YtaijoghpfobdbaaDoorW.PrintLast Go.Proofs.YtaijoghpfobdbaaDoorW.PrintMore
open Go.Proofs.YtaijoghpfobdbaaDoor.P (Tr Nd Wrote put fin build tx dep judgeE StD VeD EvD goodB nameB wrs stE allE veE evE wholeE stT veT evT schT schE)
def SizE (es : List EvD) : Prop := es.length ≤ 1048576 ∧ ∀ e, e ∈ es → R.ES e
theorem SizE.len {es : List EvD} (h : SizE es) : LenE es :=
  ⟨by have := h.1; omega, fun e he => ⟨by have := (h.2 e he).2.1; omega, fun v hv => ⟨by have := ((h.2 e he).2.2 v hv).2.1; omega, fun d hd => by have := (((h.2 e he).2.2 v hv).2.2 d hd).2.1; omega⟩⟩⟩
end Go.Proofs.YtaijoghpfobdbaaDoor.W
end
section
set_option linter.unusedVariables false
set_option linter.unusedSimpArgs false
namespace Go.Proofs.YtaijoghpfobdbaaDoor.W
open Go.RowKit Go.Proofs.YtaijoghpfobdbaaDoor.X Go.Proofs.YtaijoghpfobdbaaDoorW.PrintWords Go.Proofs.YtaijoghpfobdbaaDoorW.PrintLast Go.Proofs.YtaijoghpfobdbaaDoorW.PrintMore
open Go.Proofs.YtaijoghpfobdbaaDoor.P (Nd StD VeD EvD schE)
def sm {α : Type} (f : α → Nat) (l : List α) (i : Nat) : Nat := ((l.take i).map f).sum
theorem sm_zero {α : Type} (f : α → Nat) (l : List α) : sm f l 0 = 0 := rfl
theorem sm_next {α : Type} (f : α → Nat) (l : List α) (i : Nat) (x : α) (h : l[i]? = some x) : sm f l (i + 1) = sm f l i + f x := by
  unfold sm
  rw [map_next f l i x h, List.sum_append, List.sum_cons, List.sum_nil, Nat.add_zero]
theorem sm_all {α : Type} (f : α → Nat) (l : List α) : sm f l l.length = (l.map f).sum := by unfold sm; rw [List.take_length]
set_option maxHeartbeats 16000000 in
set_option maxRecDepth 100000 in
theorem places_calls (w : World) (A : Option Addr) (c : Nat) (es : List EvD) (q : Int) (hC : Kd.C kE w A es.length es) (hS : SizE es) (hT : U.Tab w.heap.size w) :
    Calls Tryd.prog 8 #[.agg #[.slice A es.length c], .int .i64 q] w fun e w' => e = .returned (.bool true) ∧ Below w.heap.size w w' := by
  obtain ⟨w0, hw0⟩ : ∃ w0, w0 = w.alloc (.cells #[.slice A es.length c] 24) := ⟨_, rfl⟩
  have hB0 : Below w.heap.size w w0 := by rw [hw0]; exact below_alloc (Below.refl _ _) _
  obtain ⟨g, hg⟩ : ∃ g, g = w.heap.size := ⟨_, rfl⟩
  have HX0 := Aside0.mk (show w0.heap[g]? = some (.cells #[.slice A es.length c] 24 (0, 0)) by rw [hw0, hg]; exact blk_new _ _)
  have HC := Aside0.mk hC
  have HS := Aside0.mk hS
  have HT := Aside0.mk hT
  have HB0 := Aside0.mk hB0
  have HE0 := Aside0.mk hw0
  have HGE : Aside0 (GoodE es) := ⟨fun e he v hv => ⟨((hS.2 e he).2.2 v hv).1, fun d hd => ⟨by have := (((hS.2 e he).2.2 v hv).2.2 d hd).2.1; omega, fun n hn => ((((hS.2 e he).2.2 v hv).2.2 d hd).2.2 n hn).1⟩⟩⟩
  have HSL := Aside0.mk (SizE.len hS)
  clear hC hS hT hB0 hw0
  go_enter Tryd.func8, Tryd.ntmps8
  go_wp2_with fail
  rw [← HE0.out, ← hg]
  have HG := Aside0.mk hg
  clear hg
  refine (awake_calls w0 (Tab.high (HT.out.step HB0.out) HB0.out.size)).mono ?_
  rintro e w1 ⟨rfl, hb1⟩
  have HB1 := Aside0.mk (below_step HB0.out hb1)
  have HX1 := Aside0.mk (blk_below HX0.out hb1)
  clear hb1
  go_wp2_with fail
  go_loopw [5, 6] (fun tn ti wr => ∃ n i : Nat, tn = .int .i64 (n : Int) ∧ ti = .int .i64 (i : Int) ∧ Aside0 (i ≤ es.length) ∧ Aside0 (n ≤ 65536 → n = sm cntE es i) ∧ Aside0 (n ≤ 4611686018427387904) ∧ Aside0 (Below w1.heap.size w1 wr)) (fun _ ti _ => es.length - left ti)
  case atStart => exact ⟨0, 0, rfl, rfl, ⟨Nat.zero_le _⟩, ⟨fun _ => by rw [sm_zero]⟩, ⟨Nat.zero_le _⟩, ⟨Below.refl _ _⟩⟩
  case round =>
    obtain ⟨n, i, rfl, rfl, hi, HNi, HMi, HBi⟩ := hrel
    rename World => wi
    by_cases cn : n ≤ 65536
    · have hi2 := hi.out
      have e1 : decide ((n : Int) ≤ 65536) = true := decide_eq_true (by omega)
      have e2 : decide (n ≤ 65536) = true := decide_eq_true (by omega)
      have e3 : decide ((n : Int) > 65536) = false := decide_eq_false (by omega)
      have e4 : decide ((65536 : Int) < (n : Int)) = false := decide_eq_false (by omega)
      have e5 : decide (65536 < n) = false := decide_eq_false (by omega)
      by_cases ci : i < es.length
      · have HLi := Aside0.mk ci
        have HUi := Aside0.mk cn
        have d1 : decide ((i : Int) < (es.length : Int)) = true := decide_eq_true (by omega)
        have d2 : decide (i < es.length) = true := decide_eq_true (by omega)
        clear hi2
        obtain ⟨ev, hev⟩ : ∃ ev, es[i]? = some ev := ⟨_, List.getElem?_eq_getElem ci⟩
        obtain ⟨adi, Bi, cci, hA, hCi, hti⟩ := at_E' HC.out i ci
        subst hA
        rw [get_of hev ci] at hCi hti
        have HCV := Aside0.mk hCi
        have HTE := Aside0.mk hti
        have HSE := Aside0.mk (HSL.out.2 ev (List.mem_of_getElem? hev))
        have HNE := Aside0.mk (sm_next cntE es i ev hev)
        have Wi : Aside0 (wrap64 ((i : Int) + 1) = ((i + 1 : Nat) : Int)) := ⟨by have := HSL.out.1; have := HLi.out; unfold wrap64; omega⟩
        have W2 : Aside0 (wrap64 ((n : Int) + 1) = ((n + 1 : Nat) : Int)) := ⟨by have := HUi.out; unfold wrap64; omega⟩
        have y0 := (blk_cell (blk_below HX1.out HBi.out) 0).trans rfl
        clear hev hCi hti cn ci
        go_wp2_with fail
        clear y0 d1 d2 e1 e2 e3 e4 e5
        go_loopw [5, 7] (fun tn ti wr => ∃ m j : Nat, tn = .int .i64 (m : Int) ∧ ti = .int .i64 (j : Int) ∧ Aside0 (j ≤ ev.vers.length) ∧ Aside0 (m ≤ 65536 → m = sm cntE es i + 1 + sm cntV ev.vers j) ∧ Aside0 (m ≤ 4611686018427387904) ∧ Aside0 (Below w1.heap.size w1 wr)) (fun _ ti _ => ev.vers.length - left ti)
        case atStart => exact ⟨n + 1, 0, congrArg _ W2.out, rfl, ⟨Nat.zero_le _⟩, ⟨fun _ => by have h1 := HNi.out HUi.out; rw [sm_zero]; omega⟩, ⟨by have := HUi.out; omega⟩, HBi⟩
        case round =>
          obtain ⟨m, j, rfl, rfl, hj, HNj, HMj, HBj⟩ := hrel
          rename World => wj
          by_cases cn : m ≤ 65536
          · have hj2 := hj.out
            have e1 : decide ((m : Int) ≤ 65536) = true := decide_eq_true (by omega)
            have e2 : decide (m ≤ 65536) = true := decide_eq_true (by omega)
            have e3 : decide ((m : Int) > 65536) = false := decide_eq_false (by omega)
            have e4 : decide ((65536 : Int) < (m : Int)) = false := decide_eq_false (by omega)
            have e5 : decide (65536 < m) = false := decide_eq_false (by omega)
            by_cases ci : j < ev.vers.length
            · have HLj := Aside0.mk ci
              have HUj := Aside0.mk cn
              have d1 : decide ((j : Int) < (ev.vers.length : Int)) = true := decide_eq_true (by omega)
              have d2 : decide (j < ev.vers.length) = true := decide_eq_true (by omega)
              clear hj2
              obtain ⟨ve, hve⟩ : ∃ ve, ev.vers[j]? = some ve := ⟨_, List.getElem?_eq_getElem ci⟩
              obtain ⟨adj, Bj, ccj, hA, hCj, htj⟩ := at_V' HCV.out j ci
              subst hA
              rw [get_of hve ci] at hCj htj
              have HCS := Aside0.mk hCj
              have HTV := Aside0.mk htj
              have HSV := Aside0.mk (HSE.out.2 ve (List.mem_of_getElem? hve))
              have HNV := Aside0.mk (sm_next cntV ev.vers j ve hve)
              have Wj : Aside0 (wrap64 ((j : Int) + 1) = ((j + 1 : Nat) : Int)) := ⟨by have := HSE.out.1; have := HLj.out; unfold wrap64; omega⟩
              have W2 : Aside0 (wrap64 ((m : Int) + 1) = ((m + 1 : Nat) : Int)) := ⟨by have := HUj.out; unfold wrap64; omega⟩
              have hBj := below_step HB1.out HBj.out
              have bi : (i : Int) < (es.length : Int) := by have := HLi.out; omega
              have y0 := (blk_cell (blk_below HX1.out HBj.out) 0).trans rfl
              have y1 := (HTE.out wj hBj).2.1
              clear hve hCj htj cn ci hBj
              go_wp2_with fail
              clear y0 y1 d1 d2 e1 e2 e3 e4 e5
              go_loopw [5, 8] (fun tn ti wr => ∃ r k : Nat, tn = .int .i64 (r : Int) ∧ ti = .int .i64 (k : Int) ∧ Aside0 (k ≤ ve.steps.length) ∧ Aside0 (r ≤ 65536 → r = sm cntE es i + 1 + sm cntV ev.vers j + 1 + sm cntS ve.steps k) ∧ Aside0 (r ≤ 4611686018427387904) ∧ Aside0 (Below w1.heap.size w1 wr)) (fun _ ti _ => ve.steps.length - left ti)
              case atStart => exact ⟨m + 1, 0, congrArg _ W2.out, rfl, ⟨Nat.zero_le _⟩, ⟨fun _ => by have h1 := HNj.out HUj.out; rw [sm_zero]; omega⟩, ⟨by have := HUj.out; omega⟩, HBj⟩
              case round =>
                obtain ⟨r, k, rfl, rfl, hk, HNk, HMk, HBk⟩ := hrel
                rename World => wk
                by_cases cn : r ≤ 65536
                · have hk2 := hk.out
                  have e1 : decide ((r : Int) ≤ 65536) = true := decide_eq_true (by omega)
                  have e2 : decide (r ≤ 65536) = true := decide_eq_true (by omega)
                  have e3 : decide ((r : Int) > 65536) = false := decide_eq_false (by omega)
                  have e4 : decide ((65536 : Int) < (r : Int)) = false := decide_eq_false (by omega)
                  have e5 : decide (65536 < r) = false := decide_eq_false (by omega)
                  by_cases ci : k < ve.steps.length
                  · have HLk := Aside0.mk ci
                    have HUk := Aside0.mk cn
                    have d1 : decide ((k : Int) < (ve.steps.length : Int)) = true := decide_eq_true (by omega)
                    have d2 : decide (k < ve.steps.length) = true := decide_eq_true (by omega)
                    clear hk2
                    obtain ⟨st, hst⟩ : ∃ st, ve.steps[k]? = some st := ⟨_, List.getElem?_eq_getElem ci⟩
                    obtain ⟨adk, Bk, cck, hA, hCk, htk⟩ := at_S' HCS.out k ci
                    subst hA
                    rw [get_of hst ci] at hCk htk
                    have HVL := Aside0.mk ((HSV.out.2 st (List.mem_of_getElem? hst)))
                    have W1 : Aside0 (wrap64 ((k : Int) + 1) = ((k + 1 : Nat) : Int)) := ⟨by have := HSV.out.1; have := HLk.out; unfold wrap64; omega⟩
                    have W3 : Aside0 (wrap64 ((r : Int) + wrap64 (1 + (st.val.length : Int))) = ((r + (1 + st.val.length) : Nat) : Int)) := ⟨by have := HVL.out; have := HUk.out; unfold wrap64; omega⟩
                    have hBk := below_step HB1.out HBk.out
                    have bi : (i : Int) < (es.length : Int) := by have := HLi.out; omega
                    have bj : (j : Int) < (ev.vers.length : Int) := by have := HLj.out; omega
                    have bk : (k : Int) < (ve.steps.length : Int) := by omega
                    have y0 := (blk_cell (blk_below HX1.out HBk.out) 0).trans rfl
                    have y1 := (HTE.out wk hBk).2.1
                    have y2 := (HTV.out wk hBk).2.1
                    have y3 := (htk wk hBk).2.2.2.2.2.2.1
                    have HNX := Aside0.mk (sm_next cntS ve.steps k st hst)
                    clear hst hCk htk cn ci hBk
                    go_wp2_with fail
                    rw [W1.out]
                    go_roundw
                    case measure => have := HLk.out; simp only [left, Int.toNat_natCast]; omega
                    case rel => exact ⟨r + (1 + st.val.length), k + 1, congrArg _ W3.out, rfl, ⟨HLk.out⟩, ⟨fun _ => by have h1 := HNk.out HUk.out; have h2 := HNX.out; rw [cntS_eq] at h2; omega⟩, ⟨by have := HVL.out; have := HUk.out; omega⟩, HBk⟩
                  · have HLk := Aside0.mk (show k = ve.steps.length by omega)
                    have HUk := Aside0.mk cn
                    have d1 : decide ((k : Int) < (ve.steps.length : Int)) = false := decide_eq_false (by omega)
                    have d2 : decide (k < ve.steps.length) = false := decide_eq_false (by omega)
                    clear hk2
                    have bi : (i : Int) < (es.length : Int) := by have := HLi.out; omega
                    have bj : (j : Int) < (ev.vers.length : Int) := by have := HLj.out; omega
                    have hBk := below_step HB1.out HBk.out
                    have y0 := (blk_cell (blk_below HX1.out HBk.out) 0).trans rfl
                    have y1 := (HTE.out wk hBk).2.1
                    have y2 := (HTV.out wk hBk).2.1
                    clear cn ci hBk
                    go_wp2_with fail
                    rw [Wj.out]
                    go_roundw
                    case measure => have := HLj.out; simp only [left, Int.toNat_natCast]; omega
                    case rel => exact ⟨r, j + 1, rfl, rfl, ⟨HLj.out⟩, ⟨fun h => by have h1 := HNk.out HUk.out; have h2 := HNV.out; have h3 := sm_all cntS ve.steps; have h4 := cntV_eq ve; rw [← HLk.out] at h3; omega⟩, HMk, HBk⟩
                · have hk2 := hk.out
                  have e1 : decide ((r : Int) ≤ 65536) = false := decide_eq_false (by omega)
                  have e2 : decide (r ≤ 65536) = false := decide_eq_false (by omega)
                  have e3 : decide ((r : Int) > 65536) = true := decide_eq_true (by omega)
                  have e4 : decide ((65536 : Int) < (r : Int)) = true := decide_eq_true (by omega)
                  have e5 : decide (65536 < r) = true := decide_eq_true (by omega)
                  by_cases ci : k < ve.steps.length
                  · have HLk := Aside0.mk ci
                    have HUk := Aside0.mk cn
                    have d1 : decide ((k : Int) < (ve.steps.length : Int)) = true := decide_eq_true (by omega)
                    have d2 : decide (k < ve.steps.length) = true := decide_eq_true (by omega)
                    clear hk2
                    have bi : (i : Int) < (es.length : Int) := by have := HLi.out; omega
                    have bj : (j : Int) < (ev.vers.length : Int) := by have := HLj.out; omega
                    have hBk := below_step HB1.out HBk.out
                    have y0 := (blk_cell (blk_below HX1.out HBk.out) 0).trans rfl
                    have y1 := (HTE.out wk hBk).2.1
                    have y2 := (HTV.out wk hBk).2.1
                    clear cn ci hBk
                    go_wp2_with fail
                    rw [Wj.out]
                    go_roundw
                    case measure => have := HLj.out; simp only [left, Int.toNat_natCast]; omega
                    case rel => exact ⟨r, j + 1, rfl, rfl, ⟨HLj.out⟩, ⟨fun h => by exact absurd h HUk.out⟩, HMk, HBk⟩
                  · have HLk := Aside0.mk (show k = ve.steps.length by omega)
                    have HUk := Aside0.mk cn
                    have d1 : decide ((k : Int) < (ve.steps.length : Int)) = false := decide_eq_false (by omega)
                    have d2 : decide (k < ve.steps.length) = false := decide_eq_false (by omega)
                    clear hk2
                    have bi : (i : Int) < (es.length : Int) := by have := HLi.out; omega
                    have bj : (j : Int) < (ev.vers.length : Int) := by have := HLj.out; omega
                    have hBk := below_step HB1.out HBk.out
                    have y0 := (blk_cell (blk_below HX1.out HBk.out) 0).trans rfl
                    have y1 := (HTE.out wk hBk).2.1
                    have y2 := (HTV.out wk hBk).2.1
                    clear cn ci hBk
                    go_wp2_with fail
                    rw [Wj.out]
                    go_roundw
                    case measure => have := HLj.out; simp only [left, Int.toNat_natCast]; omega
                    case rel => exact ⟨r, j + 1, rfl, rfl, ⟨HLj.out⟩, ⟨fun h => by exact absurd h HUk.out⟩, HMk, HBk⟩
            · have HLj := Aside0.mk (show j = ev.vers.length by omega)
              have HUj := Aside0.mk cn
              have d1 : decide ((j : Int) < (ev.vers.length : Int)) = false := decide_eq_false (by omega)
              have d2 : decide (j < ev.vers.length) = false := decide_eq_false (by omega)
              clear hj2
              have bi : (i : Int) < (es.length : Int) := by have := HLi.out; omega
              have hBj := below_step HB1.out HBj.out
              have y0 := (blk_cell (blk_below HX1.out HBj.out) 0).trans rfl
              have y1 := (HTE.out wj hBj).2.1
              clear cn ci hBj
              go_wp2_with fail
              rw [Wi.out]
              go_roundw
              case measure => have := HLi.out; simp only [left, Int.toNat_natCast]; omega
              case rel => exact ⟨m, i + 1, rfl, rfl, ⟨HLi.out⟩, ⟨fun h => by have h1 := HNj.out HUj.out; have h2 := HNE.out; have h3 := sm_all cntV ev.vers; have h4 := cntE_eq ev; rw [← HLj.out] at h3; omega⟩, HMj, HBj⟩
          · have hj2 := hj.out
            have e1 : decide ((m : Int) ≤ 65536) = false := decide_eq_false (by omega)
            have e2 : decide (m ≤ 65536) = false := decide_eq_false (by omega)
            have e3 : decide ((m : Int) > 65536) = true := decide_eq_true (by omega)
            have e4 : decide ((65536 : Int) < (m : Int)) = true := decide_eq_true (by omega)
            have e5 : decide (65536 < m) = true := decide_eq_true (by omega)
            by_cases ci : j < ev.vers.length
            · have HLj := Aside0.mk ci
              have HUj := Aside0.mk cn
              have d1 : decide ((j : Int) < (ev.vers.length : Int)) = true := decide_eq_true (by omega)
              have d2 : decide (j < ev.vers.length) = true := decide_eq_true (by omega)
              clear hj2
              have bi : (i : Int) < (es.length : Int) := by have := HLi.out; omega
              have hBj := below_step HB1.out HBj.out
              have y0 := (blk_cell (blk_below HX1.out HBj.out) 0).trans rfl
              have y1 := (HTE.out wj hBj).2.1
              clear cn ci hBj
              go_wp2_with fail
              rw [Wi.out]
              go_roundw
              case measure => have := HLi.out; simp only [left, Int.toNat_natCast]; omega
              case rel => exact ⟨m, i + 1, rfl, rfl, ⟨HLi.out⟩, ⟨fun h => by exact absurd h HUj.out⟩, HMj, HBj⟩
            · have HLj := Aside0.mk (show j = ev.vers.length by omega)
              have HUj := Aside0.mk cn
              have d1 : decide ((j : Int) < (ev.vers.length : Int)) = false := decide_eq_false (by omega)
              have d2 : decide (j < ev.vers.length) = false := decide_eq_false (by omega)
              clear hj2
              have bi : (i : Int) < (es.length : Int) := by have := HLi.out; omega
              have hBj := below_step HB1.out HBj.out
              have y0 := (blk_cell (blk_below HX1.out HBj.out) 0).trans rfl
              have y1 := (HTE.out wj hBj).2.1
              clear cn ci hBj
              go_wp2_with fail
              rw [Wi.out]
              go_roundw
              case measure => have := HLi.out; simp only [left, Int.toNat_natCast]; omega
              case rel => exact ⟨m, i + 1, rfl, rfl, ⟨HLi.out⟩, ⟨fun h => by exact absurd h HUj.out⟩, HMj, HBj⟩
      · have HLi := Aside0.mk (show i = es.length by omega)
        have HUi := Aside0.mk cn
        have d1 : decide ((i : Int) < (es.length : Int)) = false := decide_eq_false (by omega)
        have d2 : decide (i < es.length) = false := decide_eq_false (by omega)
        clear hi2
        have hP : LenP es := cnt_len (by have h1 := HNi.out cn; have h2 := sm_all cntE es; rw [← HLi.out] at h2; rw [cnt_eq]; omega)
        have HP := Aside0.mk hP
        have HX2 := Aside0.mk (blk_below HX1.out HBi.out)
        have HB2 := Aside0.mk (below_step HB1.out HBi.out)
        clear cn ci hP
        have y0 := (blk_cell HX2.out 0).trans rfl
        go_wp2_with fail
        refine (copied_calls wi A c es q (Kd.C_below HC.out HB2.out) HP.out).mono ?_
        rintro e w3 ⟨s, rfl, hLE, hb3⟩
        have HLE := Aside0.mk hLE
        have HB3 := Aside0.mk (below_step HB2.out hb3)
        have HX3 := Aside0.mk (blk_below HX2.out hb3)
        clear y0 hb3 hLE
        obtain ⟨g3, hg3⟩ : ∃ g3, g3 = w3.heap.size := ⟨_, rfl⟩
        obtain ⟨w4, hw4⟩ : ∃ w4, w4 = w3.alloc (.cells #[.slice s.A es.length s.c] 24) := ⟨_, rfl⟩
        have hb4 : Below w3.heap.size w3 w4 := by rw [hw4]; exact below_alloc (Below.refl _ _) _
        have HX4 := Aside0.mk (blk_below HX3.out hb4)
        have HG4 := Aside0.mk (show w4.heap[g3]? = some (.cells #[.slice s.A es.length s.c] 24 (0, 0)) by rw [hw4, hg3]; exact blk_new _ _)
        have HB4 := Aside0.mk (below_step HB3.out hb4)
        have HLE4 := Aside0.mk (HLE.out.below hb4)
        have HW4 := Aside0.mk hw4
        have y0 : (w3.alloc (.cells #[.slice s.A es.length s.c] 24)).cell? ⟨g, 0, none⟩ = some (.slice A es.length c) := by rw [← hw4]; exact (blk_cell HX4.out 0).trans rfl
        clear hb4 hw4
        obtain ⟨⟨sv, ev⟩, hv⟩ : ∃ p, p = schE es := ⟨_, rfl⟩
        have HV := Aside0.mk hv
        clear hv
        go_wp2_with fail
        rw [← HW4.out, ← hg3]
        clear y0 hg3
        refine (schema_calls w4 A c es (Kd.C_below HC.out HB4.out) HGE.out (Tab.high (HT.out.step HB4.out) HB4.out.size)).mono ?_
        rintro e w5 ⟨rfl, hb5⟩
        rw [← HV.out]
        have HB5 := Aside0.mk (below_step HB4.out hb5)
        have HX5 := Aside0.mk (blk_below HX4.out hb5)
        have HG5 := Aside0.mk (blk_below HG4.out hb5)
        have HLE5 := Aside0.mk (HLE4.out.below hb5)
        clear hb5
        have y0 := (blk_cell HG5.out 0).trans rfl
        go_wp2_with fail
        have HSC := Aside0.mk (show Calls Tryd.prog 11 #[.agg #[.slice s.A es.length s.c]] w5 fun e w' => e = .returned (.tuple #[.string sv, .int .i64 ev]) ∧ Below w5.heap.size w5 w' by
          have h := schema_calls w5 s.A s.c (es.map (shE q)) (HLE5.out.read (LenT_map q HP.out)) (GoodE_sh q HGE.out) (Tab.high (HT.out.step HB5.out) HB5.out.size)
          rw [List.length_map, schE_sh, ← HV.out] at h
          exact h)
        refine HSC.out.mono ?_
        rintro e w6 ⟨rfl, hb6⟩
        have HB6 := Aside0.mk (below_step HB5.out hb6)
        have HX6 := Aside0.mk (blk_below HX5.out hb6)
        have HG6 := Aside0.mk (blk_below HG5.out hb6)
        have HLE6 := Aside0.mk (HLE5.out.below hb6)
        clear hb6 y0
        have y0 := (blk_cell HX6.out 0).trans rfl
        have y1 := (blk_cell HG6.out 0).trans rfl
        go_wp2_with fail
        refine (marked_calls w6 s A c es q (Kd.C_below HC.out HB6.out) HLE6.out HP.out).mono ?_
        rintro e w7 ⟨rfl, hb7⟩
        have HB7 := Aside0.mk (below_step HB6.out hb7)
        clear y0 y1 hb7
        go_wp2_with fail
        go_ret
        exact ⟨rfl, HB7.out⟩
    · have hi2 := hi.out
      have e1 : decide ((n : Int) ≤ 65536) = false := decide_eq_false (by omega)
      have e2 : decide (n ≤ 65536) = false := decide_eq_false (by omega)
      have e3 : decide ((n : Int) > 65536) = true := decide_eq_true (by omega)
      have e4 : decide ((65536 : Int) < (n : Int)) = true := decide_eq_true (by omega)
      have e5 : decide (65536 < n) = true := decide_eq_true (by omega)
      by_cases ci : i < es.length
      · have HLi := Aside0.mk ci
        have HUi := Aside0.mk cn
        have d1 : decide ((i : Int) < (es.length : Int)) = true := decide_eq_true (by omega)
        have d2 : decide (i < es.length) = true := decide_eq_true (by omega)
        clear hi2
        clear cn ci
        have y0 := (blk_cell (blk_below HX1.out HBi.out) 0).trans rfl
        go_wp2_with fail
        go_ret
        exact ⟨rfl, below_step HB1.out HBi.out⟩
      · have HLi := Aside0.mk (show i = es.length by omega)
        have HUi := Aside0.mk cn
        have d1 : decide ((i : Int) < (es.length : Int)) = false := decide_eq_false (by omega)
        have d2 : decide (i < es.length) = false := decide_eq_false (by omega)
        clear hi2
        clear cn ci
        have y0 := (blk_cell (blk_below HX1.out HBi.out) 0).trans rfl
        go_wp2_with fail
        go_ret
        exact ⟨rfl, below_step HB1.out HBi.out⟩
end Go.Proofs.YtaijoghpfobdbaaDoor.W
end
