/- The texts of the law PrintValues, put together by a program of this workplace out of its own texts and of what the kit's print has written: walks of the functions, plain laws. No condition but those in the theorems. -/
import Derived.Test.YtaijoghpfobdbaaDoorBPrintValues0
import Derived.Test.YtaijoghpfobdbaaDoorBPrintValues1
import Derived.Test.YtaijoghpfobdbaaDoorBPrintValues2
import Derived.Test.YtaijoghpfobdbaaDoorBPrintValues3
section
set_option linter.unusedVariables false
set_option linter.unusedSimpArgs false
namespace Go.Proofs.YtaijoghpfobdbaaDoor.W
open Go.RowKit Go.Proofs.YtaijoghpfobdbaaDoor.X Go.Proofs.YtaijoghpfobdbaaDoorW.PrintWords Go.Proofs.YtaijoghpfobdbaaDoorW.PrintLast Go.Proofs.YtaijoghpfobdbaaDoorW.PrintMore
open Go.Proofs.YtaijoghpfobdbaaDoor.P (Wrote puts put fin)
theorem infoB : (Tryd.prog.info? 5).map (fun i => (i.zero, i.size, i.bytes)) = some (some (.int .u8 0), 1, 1) := by kernel_rfl
abbrev rowB (w : World) (B : Nat) (v : Value) (bs : List UInt8) : Prop := w.ownsRow B 5 1 v (T.nums bs).length (nums .u8 (T.nums bs))
structure Ro (w : World) (B b : Nat) (bs : List UInt8) : Prop where
  row : ∃ v, w.heap[b]? = some (.cells #[v] 101 (0, 0)) ∧ rowB w B v bs
  lo : B ≤ b
  base : B ≤ w.heap.size
  len : bs.length ≤ 9437184
section
variable {w w' w1 w2 : World} {B b : Nat} {bs : List UInt8}
theorem Fw.other (h : Fw B b w w') {k : Nat} {cs : Array Value} {t : TypeId} {f : Nat × Nat} (hk : w.heap[k]? = some (.cells cs t f)) (h5 : t ≠ 5) (hb : k ≠ b) : w'.heap[k]? = some (.cells cs t f) := by
  refine h.ok k _ hk (fun e => hb (by injection e with e)) (fun c fz e => ?_)
  injection e with _ e _
  exact h5 e
theorem Ro.lt (h : Ro w B b bs) : b < w.heap.size := by
  obtain ⟨v, hb, _⟩ := h.row
  exact blk_lt hb
theorem Ro.blkne (h : Ro w B b bs) {k : Nat} {cs : Array Value} {t : TypeId} {f : Nat × Nat} (hk : w.heap[k]? = some (.cells cs t f)) (h5 : t ≠ 101) : k ≠ b := by
  rintro rfl
  obtain ⟨v, hb, _⟩ := h.row
  rw [hb] at hk
  injection hk with hk
  injection hk with _ hk _
  exact h5 hk.symm
theorem Ro.below (h : Ro w B b bs) (hb : Below w.heap.size w w') : Ro w' B b bs := by
  obtain ⟨v, h1, h2⟩ := h.row
  exact ⟨⟨v, blk_below h1 hb, own_below h2 hb⟩, h.lo, Nat.le_trans h.base hb.size, h.len⟩
theorem own_ne {v : Value} {n : Nat} {xs : List Value} (h : w.ownsRow B 5 1 v n xs) {k : Nat} {cs : Array Value} {t : TypeId} (hk : w.heap[k]? = some (.cells cs t (0, 0))) (h5 : t ≠ 5) : some k ≠ v.ownBlock := by
  intro e
  rcases h.2 with ⟨rfl, _⟩ | ⟨g, cap, cur, rfl, _, hg, _⟩
  · cases e
  · simp only [Value.ownBlock, Option.some.injEq] at e
    subst e
    rw [hg] at hk
    injection hk with hk
    injection hk with _ hk _
    exact h5 hk.symm
theorem fresh_Ro (w : World) : Ro (w.alloc (.cells #[.slice none 0 0] 101)) w.heap.size w.heap.size [] :=
  ⟨⟨_, blk_new _ _, World.ownsRow_nil _ _ _ _⟩, Nat.le_refl _, by simp, by simp⟩
theorem ok_grown {v : Value} {n : Nat} {xs : List Value} (h : w.ownsRow B 5 1 v n xs) (hg : w.grownBy w1 v.ownBlock) : Bd.OK (some b) w w1 := by
  intro k o hk _ hc
  have hlt := blk_lt hk
  rw [hg.block k hlt (fun e => ?_)]; exact hk
  rcases h.2 with ⟨rfl, _⟩ | ⟨g, cap, cur, rfl, _, hgg, _⟩
  · cases e
  · simp only [Value.ownBlock, Option.some.injEq] at e
    subst e
    rw [hgg] at hk
    injection hk with hk
    exact hc _ _ hk.symm
end
set_option maxHeartbeats 2000000 in
set_option maxRecDepth 100000 in
theorem put_calls {B b : Nat} {bs : List UInt8} (w : World) (s : ByteArray) (hR : Ro w B b bs) (hs : s.size ≤ 8388608) :
    Calls Tryd.prog 42 #[.pointer (some ⟨b, 0, none⟩), .string s] w fun e w' => e = .returned (.tuple #[]) ∧ Ro w' B b (put bs s.data.toList) ∧ Fw B b w w' := by
  obtain ⟨v, hb, ho⟩ := hR.row
  obtain ⟨A, c, hv⟩ := own_slice ho
  rw [T.nums_len] at hv
  subst hv
  have HR := Aside0.mk hR
  have HO := Aside0.mk ho
  have HB := Aside0.mk hb
  have HS := Aside0.mk hs
  have y0 := (blk_cell hb 0).trans rfl
  clear hR ho hb hs
  by_cases hM : bs.length ≤ P.M
  · have c1 : decide (((bs.length : Nat) : Int) > 1048576) = false := decide_eq_false (by have : P.M = 1048576 := rfl; omega)
    have c2 : decide ((1048576 : Int) < ((bs.length : Nat) : Int)) = false := decide_eq_false (by have : P.M = 1048576 := rfl; omega)
    have HP : Aside0 (put bs s.data.toList = bs ++ s.data.toList) := ⟨by unfold put; rw [if_pos hM]⟩
    have HM := Aside0.mk hM
    clear hM
    go_enter Tryd.func42, Tryd.ntmps42
    go_wp2_with (first
      | ((with_reducible refine gate_builtin (b := .append) (xs := #[.tmp 14, .tmp 15]) rfl ?_); go_must (at_builtin; refine print_append_str (w0 := w) B rfl (.tmp 14) (.tmp 15) 70 9 5 rfl Tryd.underlying70 Tryd.underlying9 infoB (.slice A bs.length c) (T.nums bs) s rfl rfl HO.out (Below.refl _ _) HR.out.base (by rw [T.nums_len]; have := HR.out.len; have := HS.out; omega) ?_; intro v1 w1 hown hbl hg; obtain ⟨A1, c1', hv1⟩ := own_slice hown; rw [List.length_append] at hv1; subst hv1; have HO1 := Aside0.mk hown; have HB1 := Aside0.mk hbl; have HG1 := Aside0.mk hg; have HX1 := Aside0.mk (blk_grown HB.out hg (own_ne HO.out HB.out (by decide))); have y1 := (blk_cell HX1.out 0).trans rfl; have f1 := blk_frozen HX1.out 0; clear hown hbl hg))
      | fail)
    go_end0
    refine ⟨rfl, ⟨⟨.slice A1 ((T.nums bs).length + (bytesOf s).length) c1', ?_, ?_⟩, HR.out.lo, ?_, ?_⟩, ⟨HB1.out.setCell (p := ⟨b, 0, none⟩) HR.out.lo _, ?_⟩⟩
    · exact blk_set HX1.out 0 _
    · have hn : T.nums (put bs s.data.toList) = T.nums bs ++ bytesOf s := by rw [HP.out]; unfold T.nums bytesOf; rw [List.map_append]
      rw [rowB, hn]
      exact own_setCell HO1.out (p := ⟨b, 0, none⟩) (own_ne HO1.out HX1.out (by decide)) _
    · exact Nat.le_trans HR.out.base (Nat.le_trans HB1.out.size (by simp))
    · have := HM.out; have h2 : P.M = 1048576 := rfl; have := HS.out; rw [HP.out, List.length_append, data_length]; omega
    · exact Lib.OthersKept.trans (ok_grown HO.out HG1.out) (Bd.ok_set b w1 0 _)
  · have c1 : decide (((bs.length : Nat) : Int) > 1048576) = true := decide_eq_true (by have : P.M = 1048576 := rfl; omega)
    have c2 : decide ((1048576 : Int) < ((bs.length : Nat) : Int)) = true := decide_eq_true (by have : P.M = 1048576 := rfl; omega)
    have HP : Aside0 (put bs s.data.toList = bs) := ⟨by unfold put; rw [if_neg hM]⟩
    clear hM
    go_enter Tryd.func42, Tryd.ntmps42
    go_wp2_with fail
    refine bodyPost_ret (results_none rfl _ _ _) rfl ?_
    exact ⟨rfl, by rw [HP.out]; exact HR.out, Fw.refl _ _ _⟩
set_option maxHeartbeats 2000000 in
set_option maxRecDepth 100000 in
theorem otext_calls {B b : Nat} {bs : List UInt8} (w : World) (hR : Ro w B b bs) :
    Calls Tryd.prog 40 #[.pointer (some ⟨b, 0, none⟩)] w fun e w' => e = .returned (.tuple #[.string (fin bs).1, .int .i64 (fin bs).2]) ∧ Below w.heap.size w w' := by
  obtain ⟨v, hb, ho⟩ := hR.row
  obtain ⟨A, c, hv⟩ := own_slice ho
  rw [T.nums_len] at hv
  subst hv
  have HR := Aside0.mk hR
  have HO := Aside0.mk ho
  have y0 := (blk_cell hb 0).trans rfl
  clear hR ho hb
  by_cases hM : bs.length ≤ P.M
  · have c1 : decide (((bs.length : Nat) : Int) > 1048576) = false := decide_eq_false (by have : P.M = 1048576 := rfl; omega)
    have c2 : decide ((1048576 : Int) < ((bs.length : Nat) : Int)) = false := decide_eq_false (by have : P.M = 1048576 := rfl; omega)
    have HF : Aside0 (fin bs = (⟨bs.toArray⟩, 0)) := ⟨by unfold fin; rw [if_neg (by omega)]⟩
    clear hM
    go_enter Tryd.func40, Tryd.ntmps40
    have hcv : (convert 70 9 (.slice A bs.length c)).run Tryd.prog w = .ok (.string (strOfNums (T.nums bs))) w := own_string Tryd.underlying70 Tryd.underlying5 Tryd.underlying9 HO.out
    rw [T.strOf] at hcv
    go_wp2_with fail
    go_ret2
    exact ⟨by rw [HF.out]; rfl, Below.refl _ _⟩
  · have c1 : decide (((bs.length : Nat) : Int) > 1048576) = true := decide_eq_true (by have : P.M = 1048576 := rfl; omega)
    have c2 : decide ((1048576 : Int) < ((bs.length : Nat) : Int)) = true := decide_eq_true (by have : P.M = 1048576 := rfl; omega)
    have HF : Aside0 (fin bs = (⟨#[]⟩, 2)) := ⟨by unfold fin; rw [if_pos (by omega)]⟩
    clear hM
    go_enter Tryd.func40, Tryd.ntmps40
    go_wp2_with fail
    go_ret2
    exact ⟨by rw [HF.out]; rfl, Below.refl _ _⟩
end Go.Proofs.YtaijoghpfobdbaaDoor.W
end
section
set_option linter.unusedVariables false
set_option linter.unusedSimpArgs false
namespace Go.Proofs.YtaijoghpfobdbaaDoor.P
open Go.RowKit Go.Proofs.YtaijoghpfobdbaaDoor.L
theorem dec_short (u : Nat) (hu : u < 18446744073709551616) : (Lib.decDigits u).length ≤ 20 := by
  rcases Nat.eq_zero_or_pos u with rfl | h
  · rw [Lib.decDigits, dif_pos (by decide)]
    simp
  · rw [Lib.decDigits_length]
    have := Lib.numDigits_eq u h hu
    split at this <;> omega
end Go.Proofs.YtaijoghpfobdbaaDoor.P
namespace Go.Proofs.YtaijoghpfobdbaaDoor.W
end Go.Proofs.YtaijoghpfobdbaaDoor.W
namespace Go.Proofs.YtaijoghpfobdbaaDoor.W
open Go.Proofs.YtaijoghpfobdbaaDoor.P (Tr Nd kd sg build dep dmx tx txs txN)
end Go.Proofs.YtaijoghpfobdbaaDoor.W
end
section
set_option linter.unusedVariables false
set_option linter.unusedSimpArgs false
namespace Go.Proofs.YtaijoghpfobdbaaDoor.W
open Go.RowKit Go.Proofs.YtaijoghpfobdbaaDoor.X Go.Proofs.YtaijoghpfobdbaaDoorW.PrintWords Go.Proofs.YtaijoghpfobdbaaDoorW.PrintLast Go.Proofs.YtaijoghpfobdbaaDoorW.PrintMore
open Go.Proofs.YtaijoghpfobdbaaDoor.P (Tr Nd Wrote puts put fin kd kr sg build tx txs WF It ptx pw pk pkK sz szs Gd Gds ahd btw bhd)
def fc (fs : List Nat) : Array Value := (fs.map fun (x : Nat) => Value.int .i64 (x : Int)).toArray
theorem fc_made (m : Nat) : madeCells #[.int .i64 0] m = fc (List.replicate m 0) := by
  unfold fc
  apply Array.ext
  · simp [madeCells]
  · intro i h1 h2
    simp [madeCells, Nat.mod_one]
theorem fc_set (fs : List Nat) (i x : Nat) : (fc fs).setIfInBounds i (.int .i64 (x : Int)) = fc (fs.set i x) := by
  unfold fc
  rw [List.setIfInBounds_toArray, List.map_set]
theorem fc_get (fs : List Nat) (i : Nat) (h : i < fs.length) : (fc fs)[i]? = some (.int .i64 ((fs.getD i 0 : Nat) : Int)) := by
  unfold fc
  simp [List.getD_eq_getElem?_getD, h]
def fF (fs : List Nat) (j : Nat) : Nat := fs.getD j 0
theorem fF_set {fs : List Nat} {i x : Nat} (h : i < fs.length) : fF (fs.set i x) i = x ∧ ∀ j, j < i → fF fs j = fF (fs.set i x) j := by
  unfold fF
  refine ⟨by rw [List.getD_eq_getElem?_getD, List.getElem?_set_self h]; rfl, fun j hj => ?_⟩
  rw [List.getD_eq_getElem?_getD, List.getD_eq_getElem?_getD, List.getElem?_set_ne (by omega)]
theorem flat_int : Flat (Kd.int .i64) := fun h => h
theorem R_type {α : Type} {d : Kd α} {e base : Nat} {w : World} {ok : Nat → Prop} {v : Value} {xs : List α} (h : d.R e w base ok v xs) {k : Nat} (hk : v.ownBlock = some k) : ∃ cs, w.heap[k]? = some (.cells cs e (0, 0)) := by
  obtain ⟨inner, ho⟩ := Kd.R_own h
  rcases ho.2 with ⟨rfl, _⟩ | ⟨g, cap, cur, rfl, _, hg, _⟩
  · cases hk
  · simp only [Value.ownBlock, Option.some.injEq] at hk
    subst hk
    exact ⟨cur, hg⟩
section
variable {w w' w0 w1 : World} {B b : Nat} {bs : List UInt8}
theorem R_fw {base : Nat} {ok : Nat → Prop} {v : Value} {xs : List Int} (h : Kd.R (Kd.int .i64) 3 w base ok v xs) (hF : Fw B b w w') (hR : Ro w B b bs) : Kd.R (Kd.int .i64) 3 w' base (fun _ => True) v xs :=
  R_flat flat_int h (fun k hk => by
    obtain ⟨cs, hc⟩ := R_type h hk
    rw [hF.other hc (by decide) (hR.blkne hc (by decide)), hc]) (fun k hk => Kd.R_base h k hk)
theorem Ro.grown {base : Nat} {ok : Nat → Prop} {v : Value} {xs : List Int} (h : Ro w B b bs) (hr : Kd.R (Kd.int .i64) 3 w base ok v xs) (hg : w.grownBy w1 v.ownBlock) : Ro w1 B b bs := by
  obtain ⟨u, h1, h2⟩ := h.row
  refine ⟨⟨u, blk_grown h1 hg (fun e => ?_), own_move h2 (fun k hk => ?_)⟩, h.lo, Nat.le_trans h.base hg.size, h.len⟩
  · obtain ⟨cs, hc⟩ := R_type hr e.symm
    exact h.blkne hc (by decide) rfl
  · refine hg.block k (h2.lt k hk).2 (fun e => ?_)
    obtain ⟨cs, hc⟩ := R_type hr e.symm
    exact own_ne h2 hc (by decide) hk.symm
theorem Fw.grown {row : Option Nat} (h : Fw B b w0 w) (hB : B ≤ w0.heap.size) (hg : w.grownBy w1 row) (hb : ∀ k, row = some k → w0.heap.size ≤ k) : Fw B b w0 w1 := by
  refine ⟨h.below.grown hg (Nat.le_trans hB h.below.size) (fun k hk => Nat.le_trans hB (hb k hk)), fun k o hk h1 h2 => ?_⟩
  have h3 := h.ok k o hk h1 h2
  rw [hg.block k (blk_lt h3) (fun e => ?_)]
  · exact h3
  · have := hb k e.symm
    have := blk_lt hk
    omega
theorem Fw.andBelow (h : Fw B b w0 w) (hB : B ≤ w0.heap.size) (hb : Below w.heap.size w w1) : Fw B b w0 w1 := h.trans (Fw.of_below hb (Nat.le_trans hB h.below.size))
end
theorem ahd_size {n : Nd} (hr : 0 ≤ n.f2 ∧ n.f2 < 18446744073709551616) (hs : n.f3.size ≤ 1048576) : (T.ba (ahd n)).size ≤ 8388608 := by
  rw [T.ba_size]
  unfold ahd
  split
  · have := P.dec_short n.f2.toNat (by omega); omega
  · split
    · have := (P.quote_len n.f3.data.toList).2
      rw [data_length] at this
      omega
    · repeat' split
      all_goals simp
theorem btw_size (n : Nd) : (T.ba (btw n)).size ≤ 8388608 := by
  rw [T.ba_size]
  unfold btw
  repeat' split
  all_goals simp
theorem bhd_size (n : Nd) : (T.ba (bhd n)).size ≤ 8388608 := by
  rw [T.ba_size]
  unfold bhd
  split <;> simp
theorem rkids_calls (n : Nd) (w : World) : Calls Tryd.prog 68 #[.agg #[.int .i64 n.f0, .int .i64 n.f1, .int .u64 n.f2, .string n.f3, .int .i64 n.f4]] w fun e w' => e = .returned (.int .i64 (kr n)) ∧ Below w.heap.size w w' := by
  obtain ⟨k, hk⟩ := (P.rkids_ev n).rounds
  exact stratumref10_kids.calls k _ _ _ _ _ _ w hk
theorem rahead_calls (n : Nd) (hr : 0 ≤ n.f2 ∧ n.f2 < 18446744073709551616) (hs : n.f3.size ≤ 1048576) (w : World) : Calls Tryd.prog 72 #[.agg #[.int .i64 n.f0, .int .i64 n.f1, .int .u64 n.f2, .string n.f3, .int .i64 n.f4]] w fun e w' => e = .returned (.string (T.ba (ahd n))) ∧ Below w.heap.size w w' := by
  obtain ⟨k, hk⟩ := (T.rahead_ev n hr (by omega)).rounds
  exact stratumref10_ahead.calls k _ _ _ _ _ _ w hk
theorem rbetween_calls (n : Nd) (w : World) : Calls Tryd.prog 70 #[.agg #[.int .i64 n.f0, .int .i64 n.f1, .int .u64 n.f2, .string n.f3, .int .i64 n.f4]] w fun e w' => e = .returned (.string (T.ba (btw n))) ∧ Below w.heap.size w w' :=
  stratumref10_between.calls _ _ _ _ _ _ w (T.rbetween_eq n)
theorem rbehind_calls (n : Nd) (w : World) : Calls Tryd.prog 71 #[.agg #[.int .i64 n.f0, .int .i64 n.f1, .int .u64 n.f2, .string n.f3, .int .i64 n.f4]] w fun e w' => e = .returned (.string (T.ba (bhd n))) ∧ Below w.heap.size w w' :=
  stratumref10_behind.calls _ _ _ _ _ _ w (T.rbehind_eq n)
theorem kd_kr_q {n : Nd} {q : Nat} (h : kd n = some q) : kr n = (q : Int) := by
  rw [P.kd_kr] at h
  split at h
  · cases h
  · rename_i hn
    injection h with h
    omega
theorem at_nd {w : World} {A : Option Addr} {ns : List Nd} {x : Nat} {n : Nd} (h : Kd.C k46 w A ns.length ns) (hx : ns[x]? = some n) : ∃ ad, A = some ad ∧ w.cell? (ad.add (x * 5)) = some (.int .i64 n.f0) ∧ w.cell? ⟨(ad.add (x * 5)).block, (ad.add (x * 5)).off + 1, none⟩ = some (.int .i64 n.f1) ∧ w.cell? ⟨(ad.add (x * 5)).block, (ad.add (x * 5)).off + 2, none⟩ = some (.int .u64 n.f2) ∧ w.cell? ⟨(ad.add (x * 5)).block, (ad.add (x * 5)).off + 3, none⟩ = some (.string n.f3) ∧ w.cell? ⟨(ad.add (x * 5)).block, (ad.add (x * 5)).off + 4, none⟩ = some (.int .i64 n.f4) := by
  obtain ⟨hlt, hg⟩ := List.getElem?_eq_some_iff.1 hx
  obtain ⟨ad, h1, h2⟩ := at_T46 h (x : Int) (by omega) (by omega)
  have : rd_T46 ns (x : Int) = n := by
    rw [P.rd_nd ns x _ _ (List.drop_eq_getElem_cons hlt), hg]
  rw [this, Int.toNat_natCast] at h2
  exact ⟨ad, h1, h2⟩
end Go.Proofs.YtaijoghpfobdbaaDoor.W
end
section
set_option linter.unusedVariables false
set_option linter.unusedSimpArgs false
namespace Go.Proofs.YtaijoghpfobdbaaDoor.W
open Go.RowKit Go.Proofs.YtaijoghpfobdbaaDoor.X Go.Proofs.YtaijoghpfobdbaaDoorW.PrintWords Go.Proofs.YtaijoghpfobdbaaDoorW.PrintLast Go.Proofs.YtaijoghpfobdbaaDoorW.PrintMore
open Go.Proofs.YtaijoghpfobdbaaDoor.P (Tr Nd Wrote puts put fin kd kr sg build tx txs WF It ptx pw pk pkK sz szs Gd Gds ahd btw bhd)
theorem infoI : (Tryd.prog.info? 3).map (fun i => (i.zero, i.size, i.bytes)) = some (some (.int .i64 0), 1, 8) := by kernel_rfl
set_option maxHeartbeats 8000000 in
set_option maxRecDepth 100000 in
theorem rwrite_calls {B b : Nat} {bs : List UInt8} (w : World) (A : Option Addr) (c : Nat) (ns : List Nd) (t : Tr) (hR : Ro w B b bs) (hC : RdN B w A ns) (hns : ns.length ≤ 1099511627776) (hr : Rng ns) (hs : ∀ n ∈ ns, n.f3.size ≤ 1048576) (hb : build ns [] = some [t]) :
    Calls Tryd.prog 39 #[.pointer (some ⟨b, 0, none⟩), .slice A ns.length c] w fun e w' => e = .returned (.tuple #[]) ∧ ∃ r, Ro w' B b r ∧ Wrote bs (tx t) r ∧ Fw B b w w' := by
  have HR := Aside0.mk hR
  have HC := Aside0.mk hC
  have HN := Aside0.mk hns
  have HRg := Aside0.mk hr
  have HS := Aside0.mk hs
  have HB := Aside0.mk hb
  have hmk := print_make (P := Tryd.prog) 85 3 .i64 8 Tryd.underlying85 infoI (by omega) ns.length (by omega)
  obtain ⟨F, hF⟩ : ∃ F, F = w.heap.size := ⟨_, rfl⟩
  obtain ⟨w1, hw1⟩ : ∃ w1, w1 = w.alloc (.cells (madeCells #[.int .i64 0] ns.length) 3) := ⟨_, rfl⟩
  have HB1 : Aside0 (Below w.heap.size w w1) := ⟨by rw [hw1]; exact below_alloc (Below.refl _ _) _⟩
  have HX1 : Aside0 (w1.heap[F]? = some (.cells (fc (List.replicate ns.length 0)) 3 (0, 0))) := ⟨by rw [hw1, hF, fc_made]; exact blk_new _ _⟩
  have HW1 := Aside0.mk hw1
  have HFz := Aside0.mk hF
  clear hR hC hns hr hs hb hw1
  go_enter Tryd.func39, Tryd.ntmps39
  go_wp2
  rw [← HW1.out, ← hF]
  clear hF hmk
  go_loopw [5] (fun ti wr => ∃ (i : Nat) (st : List Tr) (fs : List Nat), ti = .int .i64 (i : Int) ∧ Aside0 (i ≤ ns.length) ∧ Aside0 (build ns [] = build (ns.drop i) st) ∧ Aside0 (fs.length = ns.length) ∧ Aside0 (Gds ns (fF fs) st 0 ∧ szs st = i) ∧ Aside0 (wr.heap[F]? = some (.cells (fc fs) 3 (0, 0))) ∧ Aside0 (Below w.heap.size w wr)) (fun ti _ => ns.length - left ti)
  case atStart => exact ⟨0, [], _, rfl, ⟨Nat.zero_le _⟩, ⟨rfl⟩, ⟨List.length_replicate⟩, ⟨trivial, rfl⟩, HX1, HB1⟩
  case round =>
    obtain ⟨i, st, fs, rfl, hi, HBu, HFL, HG, HX, HBw⟩ := hrel
    rename World => wa
    by_cases ci : i < ns.length
    · have c1 : decide ((i : Int) < (ns.length : Int)) = true := decide_eq_true (by omega)
      have c2 : decide (i < ns.length) = true := decide_eq_true ci
      obtain ⟨n, hn⟩ : ∃ n, ns[i]? = some n := ⟨_, List.getElem?_eq_getElem ci⟩
      have HNI := Aside0.mk hn
      have hsg : ∃ st', sg st n = some st' ∧ build ns [] = build (ns.drop (i + 1)) st' := by
        have h1 := HBu.out
        rw [List.drop_eq_getElem_cons ci, build] at h1
        have h2 : ns[i] = n := by rw [List.getElem?_eq_getElem ci] at hn; injection hn
        rw [h2] at h1
        cases hq : sg st n with
        | none => rw [hq, HB.out] at h1; cases h1
        | some st' => rw [hq] at h1; exact ⟨st', rfl, h1⟩
      obtain ⟨st', hst, hbn⟩ := hsg
      obtain ⟨q, hkq, hql, _⟩ := P.sg_some hst
      have HST := Aside0.mk hst
      have HBN := Aside0.mk hbn
      have HKQ := Aside0.mk hkq
      have HQL := Aside0.mk hql
      have HKI := Aside0.mk (rkids_calls n)
      rw [kd_kr_q hkq] at HKI
      have HI := Aside0.mk ci
      clear hst hbn hkq hql hn ci
      go_wp2
      go_loopw [6, 7] (fun t6 t7 wr2 => ∃ k : Nat, t7 = .int .i64 (k : Int) ∧ t6 = .int .i64 ((szs (st.take (st.length - k)) : Nat) : Int) ∧ Aside0 (k ≤ q) ∧ Aside0 (Below wa.heap.size wa wr2)) (fun _ t7 _ => q - left t7)
      case atStart => exact ⟨0, rfl, by rw [Nat.sub_zero, List.take_length, HG.out.2], ⟨Nat.zero_le _⟩, ⟨Below.refl _ _⟩⟩
      case round =>
        obtain ⟨k, rfl, rfl, hk, HB2⟩ := hrel
        obtain ⟨ad, hA, hx0, hx1, hx2, hx3, hx4⟩ := at_nd (HC.out.out wr (Below.lowr (below_step HBw.out HB2.out) HR.out.base)) HNI.out
        subst hA
        have c1 : decide ((i : Int) < (ns.length : Int)) = true := decide_eq_true (by have := HI.out; omega)
        have c2 : decide (i < ns.length) = true := decide_eq_true HI.out
        have hil : i < ns.length := HI.out
        go_wp2_with fail
        refine (HKI.out wr).mono ?_
        rintro e w3 ⟨rfl, hb3⟩
        have HB3 := Aside0.mk (below_step HB2.out hb3)
        clear hb3 hx0 hx1 hx2 hx3 hx4
        by_cases ck : k < q
        · have e1 : decide ((k : Int) < (q : Int)) = true := decide_eq_true (by omega)
          have e2 : decide (k < q) = true := decide_eq_true ck
          obtain ⟨j, hj⟩ : ∃ j, st.length - k = j + 1 := ⟨st.length - k - 1, by have := HQL.out; omega⟩
          have hjl : j < st.length := by omega
          have hpos := P.len_szs (st.take (j + 1))
          rw [List.length_take] at hpos
          obtain ⟨m, hm⟩ : ∃ m, szs (st.take (j + 1)) = m + 1 := ⟨szs (st.take (j + 1)) - 1, by omega⟩
          have hle : m + 1 ≤ ns.length := by
            have h1 := P.szs_app (st.take (j + 1)) (st.drop (j + 1))
            rw [List.take_append_drop, HG.out.2, hm] at h1
            have := HI.out
            omega
          have hbk := P.Gds_back HG.out.1 hjl
          rw [Nat.zero_add, Nat.zero_add, hm, Nat.add_sub_cancel] at hbk
          have hcell : w3.cell? ⟨F, m, none⟩ = some (.int .i64 ((szs (st.take j) : Nat) : Int)) := by
            rw [blk_cell (blk_below HX.out HB3.out) m, fc_get fs m (by rw [HFL.out]; omega)]
            show some (Value.int .i64 ((fF fs m : Nat) : Int)) = _
            rw [hbk]
          have W0 : ∀ [Inhabited Unit], wrap64 (m : Int) = (m : Int) := by intro _; have := HN.out; unfold wrap64; omega
          have d1 : decide ((m : Int) < (ns.length : Int)) = true := decide_eq_true (by omega)
          have d2 : decide (m < ns.length) = true := decide_eq_true (by omega)
          have hml : m < ns.length := by omega
          have W1 : Aside0 (wrap64 ((k : Int) + 1) = ((k + 1 : Nat) : Int)) := ⟨by have := HQL.out; have := HI.out; have := HN.out; have := HG.out.2; have := P.len_szs st; unfold wrap64; omega⟩
          have HCK := Aside0.mk ck
          have HSK : Aside0 (st.length - (k + 1) = j) := ⟨by omega⟩
          rw [hj, hm]
          clear hj hjl hpos hm hle hbk ck
          go_wp2_with fail
          rw [W1.out]
          go_roundw
          case measure => have := HCK.out; simp only [left, Int.toNat_natCast]; omega
          case rel => exact ⟨k + 1, rfl, by rw [HSK.out], ⟨HCK.out⟩, HB3⟩
        · have e1 : decide ((k : Int) < (q : Int)) = false := decide_eq_false (by omega)
          have e2 : decide (k < q) = false := decide_eq_false ck
          have hkq : k = q := by have := hk.out; omega
          subst hkq
          have HX3 := Aside0.mk (blk_below HX.out HB3.out)
          have y0 := (blk_cell HX3.out i).trans (fc_get fs i (by rw [HFL.out]; exact HI.out))
          have f0 := blk_frozen HX3.out i
          have hil : i < ns.length := HI.out
          have W1 : Aside0 (wrap64 ((i : Int) + 1) = ((i + 1 : Nat) : Int)) := ⟨by have := HI.out; have := HN.out; unfold wrap64; omega⟩
          obtain ⟨a, ha⟩ : ∃ a, a = szs (st.take (st.length - k)) := ⟨_, rfl⟩
          rw [← ha]
          have HAq := Aside0.mk ha
          clear ck ha
          go_wp2_with fail
          rw [W1.out]
          go_roundw
          case measure => have := HI.out; simp only [left, Int.toNat_natCast]; omega
          case rel =>
            have hs2 := fF_set (fs := fs) (i := i) (x := a) (by rw [HFL.out]; exact HI.out)
            have hgd := P.Gds_step (g := fF (fs.set i a)) HG.out.1 (by rw [HG.out.2]; exact HNI.out) HST.out (by rw [HG.out.2]; exact hs2.2) k HKQ.out (by rw [HG.out.2, hs2.1, HAq.out])
            refine ⟨i + 1, st', fs.set i a, rfl, ⟨HI.out⟩, ⟨HBN.out⟩, ⟨by rw [List.length_set]; exact HFL.out⟩, ⟨hgd.1, by rw [hgd.2, HG.out.2]⟩, ⟨?_⟩, ⟨?_⟩⟩
            · have := blk_set HX3.out i (.int .i64 (a : Int))
              rw [fc_set] at this
              exact this
            · exact (below_step HBw.out HB3.out).setCell (p := ⟨F, i, none⟩) (by rw [← HFz.out]; exact Nat.le_refl _) _
    · have c1 : decide ((i : Int) < (ns.length : Int)) = false := decide_eq_false (by omega)
      have c2 : decide (i < ns.length) = false := decide_eq_false ci
      have hiN : i = ns.length := by have := hi.out; omega
      subst hiN
      have hst : st = [t] := by
        have h1 := HBu.out
        rw [List.drop_length, build, HB.out] at h1
        injection h1 with h1
        exact h1.symm
      subst hst
      obtain ⟨hgt, hsz⟩ := HG.out
      rw [Gds] at hgt
      have hszt : sz t = ns.length := by rw [← hsz]; simp [szs]
      have HGT := Aside0.mk hgt.1
      have HSZ := Aside0.mk hszt
      have HWT := Aside0.mk (P.build_wf HB.out HRg.out (by simp) t (by simp))
      have hpos := P.sz_pos t
      obtain ⟨m, hm⟩ : ∃ m, ns.length = m + 1 := ⟨ns.length - 1, by omega⟩
      have HM := Aside0.mk hm
      have W0 : ∀ [Inhabited Unit], wrap64 ((ns.length : Int) - 1) = (m : Int) := by intro _; have := HN.out; rw [hm]; unfold wrap64; omega
      obtain ⟨wB, hwB⟩ : ∃ wB, wB = wa.alloc (.cells #[.int .i64 (m : Int)] 3) := ⟨_, rfl⟩
      have hbB : Below wa.heap.size wa wB := by rw [hwB]; exact below_alloc (Below.refl _ _) _
      obtain ⟨G, hG⟩ : ∃ G, G = wa.heap.size := ⟨_, rfl⟩
      have HBB := Aside0.mk (below_step HBw.out hbB)
      have HXB := Aside0.mk (blk_below HX.out hbB)
      have HRB := Aside0.mk (HR.out.below (below_step HBw.out hbB))
      have HFB := Aside0.mk (Fw.of_below (b := b) (below_step HBw.out hbB) HR.out.base)
      have HEB := Aside0.mk hwB
      have HGw : Aside0 (w.heap.size ≤ G ∧ F < G) := ⟨by rw [hG]; exact ⟨HBw.out.size, blk_lt HX.out⟩⟩
      have HRT : Aside0 (Kd.R (Kd.int .i64) 3 wB G (fun _ => True) (.slice (some ⟨G, 0, none⟩) 1 1) [(m : Int)]) := ⟨by
        rw [hwB, hG]
        exact ⟨fun _ _ => trivial, [.int .i64 (m : Int)], (show (wa.alloc (.cells #[.int .i64 (m : Int)] 3)).ownsRow wa.heap.size 3 1 (.slice (some ⟨wa.heap.size, 0, none⟩) 1 1) 1 [.int .i64 (m : Int)] by simpa using World.ownsRow_lit (base := wa.heap.size) (e := 3) (size := 1) wa #[.int .i64 (m : Int)] 1 (Nat.le_refl _) (by simp [maxLen]) (by simp)), (Reps.none _ _).snoc (p := (m : Int)) (c := [.int .i64 (m : Int)]) rfl rfl⟩⟩
      have HGB : Aside0 (G ≤ wB.heap.size) := ⟨by rw [hwB, hG]; simp⟩
      have HCD : Aside0 ([(m : Int)] = [It.nd 0 t].map It.code) := ⟨by simp only [List.map_cons, List.map_nil, It.code]; rw [HSZ.out, hm]; simp⟩
      clear hgt hsz hszt hpos hm hwB hbB ci
      go_wp2_with fail
      rw [← HEB.out, ← hG]
      rw [W0]
      clear hG W0
      go_loopg [8] (3 * ns.length - 1) (fun gz t8 wr => ∃ (its : List It) (s ob : List UInt8), Aside0 (Kd.R (Kd.int .i64) 3 wr G (fun _ => True) t8 (its.map It.code)) ∧ Aside0 (∀ i, i ∈ its → i.ok ns (fF fs)) ∧ Aside0 (pw its = gz ∧ gz ≤ 3 * ns.length) ∧ Aside0 (Wrote bs s ob ∧ s ++ ptx its = tx t) ∧ Aside0 (Ro wr B b ob) ∧ Aside0 (Fw B b w wr) ∧ Aside0 (wr.heap[F]? = some (.cells (fc fs) 3 (0, 0))) ∧ Aside0 (G ≤ wr.heap.size))
      case atStart =>
        refine ⟨[.nd 0 t], [], bs, ⟨by rw [← HCD.out]; exact HRT.out⟩, ⟨?_⟩, ⟨?_⟩, ⟨Wrote.refl bs, by rw [P.ptx_one]; rfl⟩, HRB, HFB, HXB, HGB⟩
        · intro i hi
          rw [List.mem_singleton] at hi
          subst hi
          exact ⟨HGT.out, HWT.out⟩
        · simp only [pw, It.w, HSZ.out]; omega
      case round =>
        obtain ⟨its, s, ob, HTR, HOK, HPW, HWO, HRO, HFW, HXF, HGS⟩ := hrel
        rename World => wc
        obtain ⟨Aq, cq, hq⟩ := Kd.R_slice HTR.out
        subst hq
        rw [List.length_map] at HTR
        rcases List.eq_nil_or_concat its with hnil | ⟨ip, it, hit⟩
        · have hl0 : its.length = 0 := by rw [hnil]; rfl
          have HNIL := Aside0.mk hnil
          rw [List.length_map, hl0]
          clear hl0 hnil
          go_wp2_with fail
          go_end0
          refine ⟨rfl, ob, HRO.out, ?_, HFW.out⟩
          have h := HWO.out.2
          rw [HNIL.out] at h
          simp only [ptx, List.reverse_nil, List.flatMap_nil, List.append_nil] at h
          rw [← h]
          exact HWO.out.1
        · have hit2 : its = ip ++ [it] := by simpa using hit
          clear hit
          subst hit2
          obtain ⟨p, hp⟩ : ∃ p, p = ip.length := ⟨_, rfl⟩
          have hL : (ip ++ [it]).length = p + 1 := by rw [List.length_append, hp]; rfl
          rw [List.length_map, hL]
          rw [hL] at HTR
          obtain ⟨cv, hcode⟩ : ∃ cv, cv = it.code := ⟨_, rfl⟩
          have hcs : ((ip ++ [it]).map It.code) = ip.map It.code ++ [cv] := by rw [List.map_append, hcode]; rfl
          rw [hcs] at HTR
          have hpb : p + 1 ≤ 3 * ns.length := by
            have h1 := P.len_pw (ip ++ [it])
            rw [hL] at h1
            have := HPW.out
            omega
          have hrds := Kd.R_reads' HTR.out
          have hlen2 : (ip.map It.code ++ [cv]).length = p + 1 := by rw [List.length_append, List.length_map, hp]; rfl
          rw [hlen2] at hrds
          obtain ⟨ad2, hA2, hy⟩ := Kd.at_int hrds.2.2 (p : Int) (by omega) (by omega)
          subst hA2
          have hrd : rd (ip.map It.code ++ [cv]) (p : Int) = cv := by
            unfold rd
            rw [Int.toNat_natCast, List.getD_eq_getElem?_getD, hp, ← List.length_map (f := It.code), List.getElem?_concat_length]; rfl
          rw [hrd, Int.toNat_natCast] at hy
          obtain ⟨i0, hi0, _, hsz0, _⟩ := info_parts infoI
          have hcuto := cut_to (P := Tryd.prog) 85 3 .i64 Tryd.underlying85 hi0 (some ad2) (p + 1) cq (p : Int) (by omega) (by omega) hrds.2.1
          rw [Int.toNat_natCast] at hcuto
          have HTK : Aside0 (Kd.R (Kd.int .i64) 3 wc G (fun _ => True) (.slice (some ad2) p cq) (ip.map It.code)) := ⟨by
            have := Kd.R_take (m := p) HTR.out (by rw [hlen2]; omega)
            rwa [List.take_left' (by rw [List.length_map, hp])] at this⟩
          have g1 : decide ((0 : Int) < ((p + 1 : Nat) : Int)) = true := decide_eq_true (by omega)
          have g2 : decide (((p + 1 : Nat) : Int) > 0) = true := decide_eq_true (by omega)
          have W0 : ∀ [Inhabited Unit], wrap64 (((p + 1 : Nat) : Int) - 1) = (p : Int) := by intro _; have := HN.out; unfold wrap64; omega
          have W0' : ∀ [Inhabited Unit], wrap64 (p : Int) = (p : Int) := by intro _; have := HN.out; unfold wrap64; omega
          have g3 : decide ((p : Int) < ((p + 1 : Nat) : Int)) = true := decide_eq_true (by omega)
          have hok := HOK.out it (by simp)
          have HPB := Aside0.mk hpb
          have HP := Aside0.mk hp
          clear hL hcs hrds hlen2 hrd hi0 hsz0 hpb hp
          cases it with
          | bt x n =>
            have hxn : ns[x]? = some n := hok
            have hxl : x < ns.length := (List.getElem?_eq_some_iff.1 hxn).1
            have hcv : cv = -1 - (2 * (x : Int) + 0) := hcode
            obtain ⟨y, hy2⟩ : ∃ y : Nat, y = 2 * x + 0 := ⟨_, rfl⟩
            have d1 : decide (cv < 0) = true := decide_eq_true (by omega)
            have d0 : cv < 0 := by omega
            have W1 : ∀ [Inhabited Unit], wrap64 (-1 - cv) = (y : Int) := by intro _; have := HN.out; unfold wrap64; omega
            have m1 : (y : Int) % 2 = 0 := by omega
            have m2 : Int.tmod (y : Int) 2 = 0 := by rw [Int.tmod_eq_emod_of_nonneg (by omega)]; exact m1
            have q1 : (y : Int) / 2 = (x : Int) := by omega
            have q2 : Int.tdiv (y : Int) 2 = (x : Int) := by rw [Int.tdiv_eq_ediv_of_nonneg (by omega)]; exact q1
            have W2 : ∀ [Inhabited Unit], wrap64 (x : Int) = (x : Int) := by intro _; have := HN.out; unfold wrap64; omega
            have x1 : decide ((x : Int) < (ns.length : Int)) = true := decide_eq_true (by omega)
            obtain ⟨ad3, hA3, hx0, hx1, hx2, hx3, hx4⟩ := at_nd (HC.out.out wc HFW.out.below) hxn
            subst hA3
            have HXL := Aside0.mk hxn
            clear hcv hcode hok hxn hy2
            go_wp2_with fail
            refine (rbetween_calls n wc).mono ?_
            rintro e w4 ⟨rfl, hb4⟩
            have HRO4 := Aside0.mk (HRO.out.below hb4)
            have HFW4 := Aside0.mk (HFW.out.andBelow HR.out.base hb4)
            have HXF4 := Aside0.mk (blk_below HXF.out hb4)
            have HTR4 := Aside0.mk (Kd.R_below HTK.out hb4)
            have HGS4 : Aside0 (G ≤ w4.heap.size) := ⟨Nat.le_trans HGS.out hb4.size⟩
            clear hb4 hx0 hx1 hx2 hx3 hx4
            go_wp2_with fail
            refine (put_calls w4 (T.ba (btw n)) HRO4.out (btw_size n)).mono ?_
            rintro e w5 ⟨rfl, hr5, hf5⟩
            have HRO5 := Aside0.mk hr5
            have HF5 := Aside0.mk hf5
            clear hr5 hf5
            go_wp2_with fail
            go_roundg (pw ip)
            case measure => have := HPW.out.1; rw [P.pw_app] at this; simp only [pw, It.w] at this; omega
            case rel =>
              refine ⟨ip, s ++ btw n, _, ⟨R_fw HTR4.out HF5.out HRO4.out⟩, ⟨fun i hi => HOK.out i (List.mem_append_left _ hi)⟩, ⟨rfl, ?_⟩, ⟨HWO.out.1.trans (Wrote.put ob _), ?_⟩, HRO5, ⟨HFW4.out.trans HF5.out⟩, ⟨HF5.out.other HXF4.out (by decide) (HRO4.out.blkne HXF4.out (by decide))⟩, ⟨Nat.le_trans HGS4.out HF5.out.size⟩⟩
              · have := HPW.out; rw [P.pw_app] at this; omega
              · have h := HWO.out.2
                rw [P.ptx_app, P.ptx_one] at h
                rw [List.append_assoc]
                exact h
          | bh x n =>
            have hxn : ns[x]? = some n := hok
            have hxl : x < ns.length := (List.getElem?_eq_some_iff.1 hxn).1
            have hcv : cv = -1 - (2 * (x : Int) + 1) := hcode
            obtain ⟨y, hy2⟩ : ∃ y : Nat, y = 2 * x + 1 := ⟨_, rfl⟩
            have d1 : decide (cv < 0) = true := decide_eq_true (by omega)
            have d0 : cv < 0 := by omega
            have W1 : ∀ [Inhabited Unit], wrap64 (-1 - cv) = (y : Int) := by intro _; have := HN.out; unfold wrap64; omega
            have m1 : (y : Int) % 2 = 1 := by omega
            have m2 : Int.tmod (y : Int) 2 = 1 := by rw [Int.tmod_eq_emod_of_nonneg (by omega)]; exact m1
            have q1 : (y : Int) / 2 = (x : Int) := by omega
            have q2 : Int.tdiv (y : Int) 2 = (x : Int) := by rw [Int.tdiv_eq_ediv_of_nonneg (by omega)]; exact q1
            have W2 : ∀ [Inhabited Unit], wrap64 (x : Int) = (x : Int) := by intro _; have := HN.out; unfold wrap64; omega
            have x1 : decide ((x : Int) < (ns.length : Int)) = true := decide_eq_true (by omega)
            obtain ⟨ad3, hA3, hx0, hx1, hx2, hx3, hx4⟩ := at_nd (HC.out.out wc HFW.out.below) hxn
            subst hA3
            have HXL := Aside0.mk hxn
            clear hcv hcode hok hxn hy2
            go_wp2_with fail
            refine (rbehind_calls n wc).mono ?_
            rintro e w4 ⟨rfl, hb4⟩
            have HRO4 := Aside0.mk (HRO.out.below hb4)
            have HFW4 := Aside0.mk (HFW.out.andBelow HR.out.base hb4)
            have HXF4 := Aside0.mk (blk_below HXF.out hb4)
            have HTR4 := Aside0.mk (Kd.R_below HTK.out hb4)
            have HGS4 : Aside0 (G ≤ w4.heap.size) := ⟨Nat.le_trans HGS.out hb4.size⟩
            clear hb4 hx0 hx1 hx2 hx3 hx4
            go_wp2_with fail
            refine (put_calls w4 (T.ba (bhd n)) HRO4.out (bhd_size n)).mono ?_
            rintro e w5 ⟨rfl, hr5, hf5⟩
            have HRO5 := Aside0.mk hr5
            have HF5 := Aside0.mk hf5
            clear hr5 hf5
            go_wp2_with fail
            go_roundg (pw ip)
            case measure => have := HPW.out.1; rw [P.pw_app] at this; simp only [pw, It.w] at this; omega
            case rel =>
              refine ⟨ip, s ++ bhd n, _, ⟨R_fw HTR4.out HF5.out HRO4.out⟩, ⟨fun i hi => HOK.out i (List.mem_append_left _ hi)⟩, ⟨rfl, ?_⟩, ⟨HWO.out.1.trans (Wrote.put ob _), ?_⟩, HRO5, ⟨HFW4.out.trans HF5.out⟩, ⟨HF5.out.other HXF4.out (by decide) (HRO4.out.blkne HXF4.out (by decide))⟩, ⟨Nat.le_trans HGS4.out HF5.out.size⟩⟩
              · have := HPW.out; rw [P.pw_app] at this; omega
              · have h := HWO.out.2
                rw [P.ptx_app, P.ptx_one] at h
                rw [List.append_assoc]
                exact h
          | nd a t2 =>
            cases t2 with
            | mk n ks =>
            obtain ⟨hgd, hwf⟩ := hok
            rw [Gd] at hgd
            have hkd : kd n = some ks.length ∧ (∀ t, t ∈ ks → WF t) := by cases hwf with | mk _ _ hk _ h => exact ⟨hk, h⟩
            obtain ⟨x, hx⟩ : ∃ x, x = a + szs ks := ⟨_, rfl⟩
            rw [← hx] at hgd
            have hxn : ns[x]? = some n := hgd.1
            have hxl : x < ns.length := (List.getElem?_eq_some_iff.1 hxn).1
            have hcv : cv = (x : Int) := by rw [hcode, It.code, sz, hx]; omega
            subst hcv
            have HGK := Aside0.mk hgd.2.2
            have HKD := Aside0.mk hkd
            have HXE := Aside0.mk hx
            have HXN := Aside0.mk hxn
            have HXL := Aside0.mk hxl
            have hnm := List.mem_of_getElem? hxn
            have HNR := Aside0.mk (HRg.out n hnm)
            have HNS := Aside0.mk (HS.out n hnm)
            have HKR := Aside0.mk (rkids_calls n)
            rw [kd_kr_q hkd.1] at HKR
            have d0 : ¬ (x : Int) < 0 := by omega
            have d1 : decide ((x : Int) < 0) = false := decide_eq_false d0
            have W2 : ∀ [Inhabited Unit], wrap64 (x : Int) = (x : Int) := by intro _; have := HN.out; unfold wrap64; omega
            have x1 : decide ((x : Int) < (ns.length : Int)) = true := decide_eq_true (by omega)
            obtain ⟨ad3, hA3, hx0, hx1, hx2, hx3, hx4⟩ := at_nd (HC.out.out wc HFW.out.below) hxn
            subst hA3
            clear hgd hwf hkd hx hxn hnm hcode
            go_wp2_with fail
            refine (rahead_calls n HNR.out HNS.out wc).mono ?_
            rintro e w4 ⟨rfl, hb4⟩
            have HRO4 := Aside0.mk (HRO.out.below hb4)
            have HFW4 := Aside0.mk (HFW.out.andBelow HR.out.base hb4)
            have HXF4 := Aside0.mk (blk_below HXF.out hb4)
            have HTR4 := Aside0.mk (Kd.R_below HTK.out hb4)
            have HGS4 : Aside0 (G ≤ w4.heap.size) := ⟨Nat.le_trans HGS.out hb4.size⟩
            clear hb4 hx0 hx1 hx2 hx3 hx4
            go_wp2_with fail
            refine (put_calls w4 (T.ba (ahd n)) HRO4.out (ahd_size HNR.out HNS.out)).mono ?_
            rintro e w5 ⟨rfl, hr5, hf5⟩
            have HRO5 := Aside0.mk hr5
            have HFW5 := Aside0.mk (HFW4.out.trans hf5)
            have HXF5 := Aside0.mk (hf5.other HXF4.out (by decide) (HRO4.out.blkne HXF4.out (by decide)))
            have HTR5 := Aside0.mk (R_fw HTR4.out hf5 HRO4.out)
            have HGS5 : Aside0 (G ≤ w5.heap.size) := ⟨Nat.le_trans HGS4.out hf5.size⟩
            clear hr5 hf5
            obtain ⟨ob5, hob5⟩ : ∃ o, o = put ob (T.ba (ahd n)).data.toList := ⟨_, rfl⟩
            have HWO5 : Aside0 (Wrote bs (s ++ ahd n) ob5) := ⟨by rw [hob5]; exact HWO.out.1.trans (Wrote.put ob _)⟩
            rw [← hob5] at HRO5
            clear hob5
            obtain ⟨y, hy2⟩ : ∃ y : Nat, y = 2 * x := ⟨_, rfl⟩
            obtain ⟨cB, hcB⟩ : ∃ cB : Int, cB = (It.bh x n).code := ⟨_, rfl⟩
            obtain ⟨cT, hcT⟩ : ∃ cT : Int, cT = (It.bt x n).code := ⟨_, rfl⟩
            obtain ⟨xm, hxm⟩ : ∃ xm : Int, xm = (x : Int) - 1 := ⟨_, rfl⟩
            have W3 : ∀ [Inhabited Unit], wrap64 (2 * (x : Int)) = (y : Int) := by intro _; have := HN.out; unfold wrap64; omega
            have W4 : ∀ [Inhabited Unit], wrap64 ((y : Int) + 1) = (y : Int) + 1 := by intro _; have := HN.out; unfold wrap64; omega
            have W5 : ∀ [Inhabited Unit], wrap64 (-1 - ((y : Int) + 1)) = cB := by intro _; have := HN.out; rw [hcB, It.code]; unfold wrap64; omega
            have W6 : ∀ [Inhabited Unit], wrap64 (-1 - (y : Int)) = cT := by intro _; have := HN.out; rw [hcT, It.code]; unfold wrap64; omega
            have W7 : ∀ [Inhabited Unit], wrap64 ((x : Int) - 1) = xm := by intro _; have := HN.out; rw [hxm]; unfold wrap64; omega
            have HCB := Aside0.mk hcB
            have HCT := Aside0.mk hcT
            have HXM := Aside0.mk hxm
            obtain ⟨cs, hcs⟩ : ∃ cs, cs = ip.map It.code := ⟨_, rfl⟩
            have HCS := Aside0.mk hcs
            have HCL : Aside0 (cs.length = p) := ⟨by rw [hcs, List.length_map, HP.out]⟩
            rw [← hcs] at HTR5
            clear hcB hcT hxm hy2 hcs
            clear hcuto hy
            go_wp2_with (first
              | ((with_reducible refine gate_builtin (b := .append) (xs := #[.tmp 88, .tmp 93]) rfl ?_); go_must (at_builtin; refine Kd.R_append (Kd.int .i64) (w0 := w5) G rfl (.tmp 88) (.tmp 93) 85 3 (.int .i64 0) 8 rfl Tryd.underlying85 infoI rfl (by decide) (by omega) (.slice (some ad2) p cq) cs cB [.int .i64 cB] (fun _ => True) (fun _ => False) rfl (by first | rfl | simp [Act.eval]) (show (Kd.int .i64).M _ _ _ cB [.int .i64 cB] from rfl) (fun _ hk => hk.elim) (fun _ _ => trivial) HTR5.out (Below.refl _ _) HGS5.out (by rw [HCL.out]; have := HPB.out; have := HN.out; omega) ?_; intro v6 w6 ho hb hg hat; obtain ⟨A6, c6, hv6⟩ := Kd.R_slice ho; rw [List.length_append, List.length_singleton] at hv6; subst hv6; have HTR6 := Aside0.mk ho; have HRO6 := Aside0.mk (HRO5.out.grown HTR5.out hg); have HFW6 := Aside0.mk (HFW5.out.grown HR.out.base hg (fun k hk => Nat.le_trans HGw.out.1 (Kd.R_base HTR5.out k hk))); have HXF6 := Aside0.mk (blk_grown HXF5.out hg (fun e => by have := Kd.R_base HTR5.out F e.symm; have := HGw.out.2; omega)); have HGS6 : Aside0 (G ≤ w6.heap.size) := ⟨Nat.le_trans HGS5.out hg.size⟩; obtain ⟨ad4, hA4, hz0, hz1, hz2, hz3, hz4⟩ := at_nd (HC.out.out w6 HFW6.out.below) HXN.out; injection hA4 with hA4; subst hA4; clear ho hb hg hat))
              | fail)
            refine (HKR.out w6).mono ?_
            rintro e w7 ⟨rfl, hb7⟩
            have HRO7 := Aside0.mk (HRO6.out.below hb7)
            have HFW7 := Aside0.mk (HFW6.out.andBelow HR.out.base hb7)
            have HXF7 := Aside0.mk (blk_below HXF6.out hb7)
            have HTR7 := Aside0.mk (Kd.R_below HTR6.out hb7)
            have HGS7 : Aside0 (G ≤ w7.heap.size) := ⟨Nat.le_trans HGS6.out hb7.size⟩
            have HKL : Aside0 (ks.length ≤ ns.length) := ⟨by have := P.len_szs ks; have := HXE.out; have := HXL.out; omega⟩
            clear hz0 hz1 hz2 hz3 hz4 hb7
            go_wp2_with fail
            go_loopw [8, 10, 11] (fun t8 t10 t11 wr => ∃ k : Nat, t11 = .int .i64 (k : Int) ∧ t10 = .int .i64 (((a + szs (ks.take k) : Nat) : Int) - 1) ∧ Aside0 (k ≤ ks.length) ∧ Aside0 (Kd.R (Kd.int .i64) 3 wr G (fun _ => True) t8 ((ip ++ [It.bh x n] ++ pkK x n ks a k).map It.code)) ∧ Aside0 (Ro wr B b ob5) ∧ Aside0 (Fw B b w wr) ∧ Aside0 (wr.heap[F]? = some (.cells (fc fs) 3 (0, 0))) ∧ Aside0 (G ≤ wr.heap.size)) (fun _ _ t11 _ => left t11)
            case atStart =>
              refine ⟨ks.length, rfl, ?_, ⟨Nat.le_refl _⟩, ⟨?_⟩, HRO7, HFW7, HXF7, HGS7⟩
              · rw [List.take_length, HXM.out, HXE.out]
              · rw [P.pkK_all, List.append_nil, List.map_append, List.map_cons, List.map_nil, ← HCS.out, ← HCB.out]; exact HTR7.out
            case round =>
              obtain ⟨k, rfl, rfl, hk, HTRi, HROi, HFWi, HXFi, HGSi⟩ := hrel
              rename World => wd
              obtain ⟨Ai, ci, hvi⟩ := Kd.R_slice HTRi.out
              subst hvi
              obtain ⟨li, hli⟩ : ∃ li, li = (ip ++ [It.bh x n] ++ pkK x n ks a k).map It.code := ⟨_, rfl⟩
              rw [← hli] at HTRi ⊢
              have HLI := Aside0.mk hli
              clear hli
              cases k with
              | zero =>
                have e1 : decide (((0 : Nat) : Int) > 0) = false := by decide
                go_wp2_with fail
                go_roundg (pw (ip ++ [It.bh x n] ++ pk x n false ks a))
                case measure =>
                  have h1 := HPW.out.1
                  have h2 := P.pk_w x n false ks a
                  rw [P.pw_app] at h1 ⊢
                  rw [P.pw_app]
                  simp only [pw, It.w, sz] at h1 ⊢
                  omega
                case rel =>
                  refine ⟨ip ++ [It.bh x n] ++ pk x n false ks a, s ++ ahd n, ob5, ⟨by rw [← P.pkK_zero, ← HLI.out]; exact HTRi.out⟩, ⟨?_⟩, ⟨rfl, ?_⟩, ⟨HWO5.out, ?_⟩, HROi, HFWi, HXFi, HGSi⟩
                  · intro i hi
                    rcases List.mem_append.1 hi with hi | hi
                    · rcases List.mem_append.1 hi with hi | hi
                      · exact HOK.out i (List.mem_append_left _ hi)
                      · rw [List.mem_singleton] at hi; subst hi; exact HXN.out
                    · exact P.pk_ok HXN.out false ks a HGK.out HKD.out.2 i hi
                  · have h1 := HPW.out
                    have h2 := P.pk_w x n false ks a
                    rw [P.pw_app] at h1 ⊢
                    rw [P.pw_app]
                    simp only [pw, It.w, sz] at h1 ⊢
                    omega
                  · have h := HWO.out.2
                    rw [P.ptx_app, P.ptx_one, It.tx, P.tx_eq HKD.out.1] at h
                    rw [P.ptx_app, P.ptx_app, P.ptx_one, P.pk_false, It.tx, List.append_assoc, ← List.append_assoc (P.sepB _ _), ← List.append_assoc (ahd n)]
                    exact h
              | succ j =>
                have hjl : j < ks.length := by have := hk.out; omega
                obtain ⟨m2, hm2⟩ : ∃ m2, a + szs (ks.take (j + 1)) = m2 + 1 := ⟨a + szs (ks.take (j + 1)) - 1, by have := P.len_szs (ks.take (j + 1)); rw [List.length_take] at this; omega⟩
                have hbk := P.Gds_back HGK.out hjl
                rw [hm2, Nat.add_sub_cancel] at hbk
                have hm2l : m2 < ns.length := by
                  have h1 := P.szs_app (ks.take (j + 1)) (ks.drop (j + 1))
                  rw [List.take_append_drop] at h1
                  have := HXE.out; have := HXL.out
                  omega
                obtain ⟨v2, hv2⟩ : ∃ v2, v2 = a + szs (ks.take j) := ⟨_, rfl⟩
                rw [← hv2] at hbk
                have hcell : ∀ wz : World, wz.heap[F]? = some (.cells (fc fs) 3 (0, 0)) → wz.cell? ⟨F, m2, none⟩ = some (.int .i64 (v2 : Int)) := fun wz hz => by
                  rw [blk_cell hz m2, fc_get fs m2 (by rw [HFL.out]; exact hm2l)]
                  show some (Value.int .i64 ((fF fs m2 : Nat) : Int)) = _
                  rw [hbk]
                have HCE := Aside0.mk hcell
                have hnc : (It.nd (a + szs (ks.take j)) ks[j]).code = (m2 : Int) := by rw [P.nd_code hjl, hm2]; rfl
                have hnx := P.pkK_next x n ks a j hjl
                obtain ⟨nd0, hnd0⟩ : ∃ d, d = It.nd (a + szs (ks.take j)) ks[j] := ⟨_, rfl⟩
                rw [← hnd0] at hnc hnx
                have HNC := Aside0.mk hnc
                have HNX := Aside0.mk hnx
                have hv2l : v2 ≤ ns.length := by
                  have h1 := P.szs_app (ks.take j) (ks.drop j)
                  rw [List.take_append_drop] at h1
                  have := HXE.out; have := HXL.out
                  omega
                have HLL : Aside0 (li.length ≤ 8796093022208) := ⟨by
                  rw [HLI.out, List.length_map]
                  have h1 := P.len_pw (ip ++ [It.bh x n] ++ pkK x n ks a (j + 1))
                  have h2 := P.pk_w x n (decide (0 < j + 1)) (ks.drop (j + 1)) (a + szs (ks.take (j + 1)))
                  have h3 := P.szs_app (ks.take (j + 1)) (ks.drop (j + 1))
                  rw [List.take_append_drop] at h3
                  have h4 := HPW.out
                  rw [P.pw_app] at h4 h1
                  rw [P.pw_app] at h1
                  unfold pkK at h1 ⊢
                  simp only [pw, It.w, sz] at h4 h1
                  have := HN.out
                  omega⟩
                have e1 : decide (((j + 1 : Nat) : Int) > 0) = true := decide_eq_true (by omega)
                have V1 : ∀ [Inhabited Unit], wrap64 (m2 : Int) = (m2 : Int) := by intro _; have := HN.out; unfold wrap64; omega
                have V2 : ∀ [Inhabited Unit], wrap64 ((v2 : Int) - 1) = (v2 : Int) - 1 := by intro _; have := HN.out; unfold wrap64; omega
                have V3 : ∀ [Inhabited Unit], wrap64 (j : Int) = (j : Int) := by intro _; have := HN.out; have := HKL.out; unfold wrap64; omega
                have z1 : decide ((m2 : Int) < (ns.length : Int)) = true := decide_eq_true (by omega)
                have HV2 := Aside0.mk hv2
                have HJL := Aside0.mk hjl
                rw [hm2]
                rw [show (((m2 + 1 : Nat) : Int) - 1) = (m2 : Int) by omega]
                clear hv2 hbk hm2 hcell hv2l hnc hnx hnd0 hjl
                by_cases cj : 0 < j
                · have e2 : decide (((j + 1 : Nat) : Int) > 1) = true := decide_eq_true (by omega)
                  have e3 : decide ((1 : Int) < ((j : Int) + 1)) = true := decide_eq_true (by omega)
                  have e4 : decide (0 < j) = true := decide_eq_true cj
                  have HCJ := Aside0.mk cj
                  go_wp2_with (first
                    | ((with_reducible refine gate_builtin (b := .append) (xs := #[.tmp 106, .tmp 108]) rfl ?_); go_must (at_builtin; refine Kd.R_append (Kd.int .i64) (w0 := wd) G rfl (.tmp 106) (.tmp 108) 85 3 (.int .i64 0) 8 rfl Tryd.underlying85 infoI rfl (by decide) (by omega) (.slice Ai li.length ci) li (m2 : Int) [.int .i64 (m2 : Int)] (fun _ => True) (fun _ => False) rfl (by first | rfl | simp [Act.eval]) (show (Kd.int .i64).M _ _ _ (m2 : Int) [.int .i64 (m2 : Int)] from rfl) (fun _ hk => hk.elim) (fun _ _ => trivial) HTRi.out (Below.refl _ _) HGSi.out (by have := HLL.out; omega) ?_; intro v8 w8 ho hb hg hat; obtain ⟨A8, c8, hv8⟩ := Kd.R_slice ho; rw [List.length_append, List.length_singleton] at hv8; subst hv8; have HTR8 := Aside0.mk ho; have HRO8 := Aside0.mk (HROi.out.grown HTRi.out hg); have HFW8 := Aside0.mk (HFWi.out.grown HR.out.base hg (fun k hk => Nat.le_trans HGw.out.1 (Kd.R_base HTRi.out k hk))); have HXF8 := Aside0.mk (blk_grown HXFi.out hg (fun e => by have := Kd.R_base HTRi.out F e.symm; have := HGw.out.2; omega)); have HGS8 : Aside0 (G ≤ w8.heap.size) := ⟨Nat.le_trans HGSi.out hg.size⟩; have hcl := HCE.out _ HXF8.out; clear ho hb hg hat))
                    | ((with_reducible refine gate_builtin (b := .append) (xs := #[.tmp 112, .tmp 116]) rfl ?_); go_must (at_builtin; refine Kd.R_append (Kd.int .i64) (w0 := w8) G rfl (.tmp 112) (.tmp 116) 85 3 (.int .i64 0) 8 rfl Tryd.underlying85 infoI rfl (by decide) (by omega) (.slice A8 (li.length + 1) c8) (li ++ [(m2 : Int)]) cT [.int .i64 cT] (fun _ => True) (fun _ => False) rfl (by first | rfl | simp [Act.eval]) (show (Kd.int .i64).M _ _ _ cT [.int .i64 cT] from rfl) (fun _ hk => hk.elim) (fun _ _ => trivial) HTR8.out (Below.refl _ _) HGS8.out (by rw [List.length_append, List.length_singleton]; have := HLL.out; omega) ?_; intro v9 w9 ho hb hg hat; obtain ⟨A9, c9, hv9⟩ := Kd.R_slice ho; rw [List.length_append, List.length_singleton] at hv9; subst hv9; have HTR9 := Aside0.mk ho; have HRO9 := Aside0.mk (HRO8.out.grown HTR8.out hg); have HFW9 := Aside0.mk (HFW8.out.grown HR.out.base hg (fun k hk => Nat.le_trans HGw.out.1 (Kd.R_base HTR8.out k hk))); have HXF9 := Aside0.mk (blk_grown HXF8.out hg (fun e => by have := Kd.R_base HTR8.out F e.symm; have := HGw.out.2; omega)); have HGS9 : Aside0 (G ≤ w9.heap.size) := ⟨Nat.le_trans HGS8.out hg.size⟩; have hcl2 := HCE.out _ HXF9.out; clear ho hb hg hat))
                    | fail)
                  rw [V3]
                  go_roundw
                  case measure => simp only [left, Int.toNat_natCast]; omega
                  case rel =>
                    refine ⟨j, rfl, by rw [V2, HV2.out], ⟨by have := HJL.out; omega⟩, ⟨?_⟩, HRO9, HFW9, HXF9, HGS9⟩
                    rw [HNX.out, if_pos HCJ.out, ← List.append_assoc, ← List.append_assoc, List.map_append, List.map_append, ← HLI.out, List.map_cons, List.map_nil, HNC.out, List.map_cons, List.map_nil, ← HCT.out]
                    have h9 := HTR9.out
                    simp only [List.length_append, List.length_singleton] at h9
                    exact h9
                · have e2 : decide (((j + 1 : Nat) : Int) > 1) = false := decide_eq_false (by omega)
                  have hj0 : j = 0 := by omega
                  subst hj0
                  go_wp2_with (first
                    | ((with_reducible refine gate_builtin (b := .append) (xs := #[.tmp 106, .tmp 108]) rfl ?_); go_must (at_builtin; refine Kd.R_append (Kd.int .i64) (w0 := wd) G rfl (.tmp 106) (.tmp 108) 85 3 (.int .i64 0) 8 rfl Tryd.underlying85 infoI rfl (by decide) (by omega) (.slice Ai li.length ci) li (m2 : Int) [.int .i64 (m2 : Int)] (fun _ => True) (fun _ => False) rfl (by first | rfl | simp [Act.eval]) (show (Kd.int .i64).M _ _ _ (m2 : Int) [.int .i64 (m2 : Int)] from rfl) (fun _ hk => hk.elim) (fun _ _ => trivial) HTRi.out (Below.refl _ _) HGSi.out (by have := HLL.out; omega) ?_; intro v8 w8 ho hb hg hat; obtain ⟨A8, c8, hv8⟩ := Kd.R_slice ho; rw [List.length_append, List.length_singleton] at hv8; subst hv8; have HTR8 := Aside0.mk ho; have HRO8 := Aside0.mk (HROi.out.grown HTRi.out hg); have HFW8 := Aside0.mk (HFWi.out.grown HR.out.base hg (fun k hk => Nat.le_trans HGw.out.1 (Kd.R_base HTRi.out k hk))); have HXF8 := Aside0.mk (blk_grown HXFi.out hg (fun e => by have := Kd.R_base HTRi.out F e.symm; have := HGw.out.2; omega)); have HGS8 : Aside0 (G ≤ w8.heap.size) := ⟨Nat.le_trans HGSi.out hg.size⟩; have hcl := HCE.out _ HXF8.out; clear ho hb hg hat))
                    | fail)
                  go_roundw
                  case measure => simp only [left, Int.toNat_natCast]; omega
                  case rel =>
                    refine ⟨0, rfl, by rw [V2, HV2.out], ⟨by have := HJL.out; omega⟩, ⟨?_⟩, HRO8, HFW8, HXF8, HGS8⟩
                    rw [HNX.out, if_neg (by omega), List.append_nil, ← List.append_assoc, List.map_append, ← HLI.out, List.map_cons, List.map_nil, HNC.out]
                    exact HTR8.out
end Go.Proofs.YtaijoghpfobdbaaDoor.W
end
section
set_option linter.unusedVariables false
set_option linter.unusedSimpArgs false
namespace Go.Proofs.YtaijoghpfobdbaaDoor.W
open Go.RowKit Go.Proofs.YtaijoghpfobdbaaDoor.X Go.Proofs.YtaijoghpfobdbaaDoorW.PrintWords Go.Proofs.YtaijoghpfobdbaaDoorW.PrintLast Go.Proofs.YtaijoghpfobdbaaDoorW.PrintMore
open Go.Proofs.YtaijoghpfobdbaaDoor.P (Tr Nd Wrote put fin build tx dep dmx pile rj)
theorem rjudge_calls (w : World) (A : Option Addr) (c : Nat) (ns : List Nd) (hC : Kd.C k46 w A ns.length ns) (hc : ns.length ≤ c) (hns : ns.length ≤ 1099511627776) : Calls Tryd.prog 38 #[.slice A ns.length c] w fun e w' => e = .returned (.tuple #[.bool (rj (build ns [])).1, .int .i64 (rj (build ns [])).2]) ∧ Below w.heap.size w w' := by
  obtain ⟨k, hk⟩ := (P.rjudge_ev ns (by omega)).rounds
  exact stratumref10_judge.calls k A c ns _ _ w hC hc hk
theorem rj_one {ns : List Nd} {t : Tr} (h : build ns [] = some [t]) : rj (build ns []) = (true, (dep t : Int)) := by
  rw [h]
  simp [rj, P.pile_len, dmx]
theorem rj_not {ns : List Nd} (h : ∀ t, build ns [] ≠ some [t]) : (rj (build ns [])).1 = false := by
  unfold rj
  split
  · rename_i st hst
    simp only [P.pile_len]
    match st, hst with
    | [], _ => rfl
    | [t], hst => exact absurd hst (h t)
    | a :: b :: l, _ => simp; omega
  · rfl
theorem valE_not {ns : List Nd} (h : ∀ t, build ns [] ≠ some [t]) : valE ns = (⟨#[]⟩, 1) := valE_none (fun ⟨t, ht⟩ => h t ht)
set_option maxHeartbeats 4000000 in
set_option maxRecDepth 100000 in
theorem rvalue_calls (w : World) (A : Option Addr) (c : Nat) (ns : List Nd) (hC : Kd.C k46 w A ns.length ns) (hc : ns.length ≤ c) (hns : ns.length ≤ 1099511627776) (hr : Rng ns) (hs : ∀ n ∈ ns, n.f3.size ≤ 1048576) :
    Calls Tryd.prog 17 #[.slice A ns.length c] w fun e w' => e = .returned (.tuple #[.string (valE ns).1, .int .i64 (valE ns).2]) ∧ Below w.heap.size w w' := by
  have HC := Aside0.mk hC
  have HN := Aside0.mk hns
  have HR := Aside0.mk hr
  have HS := Aside0.mk hs
  have HJ := Aside0.mk (rjudge_calls w A c ns hC hc hns)
  clear hC hc hns hr hs
  by_cases hb : ∃ t, build ns [] = some [t]
  · obtain ⟨t, hb⟩ := hb
    rw [rj_one hb] at HJ
    have HB := Aside0.mk hb
    by_cases hd : 100 < dep t
    · have d1 : decide ((dep t : Int) > 100) = true := decide_eq_true (by omega)
      have d2 : decide ((100 : Int) < (dep t : Int)) = true := decide_eq_true (by omega)
      have HV : Aside0 (valE ns = (⟨#[]⟩, 91)) := ⟨by rw [valE_one hb, if_pos hd]⟩
      clear hb
      go_enter Tryd.func17, Tryd.ntmps17
      go_wp2_with fail
      refine HJ.out.mono ?_
      rintro e w1 ⟨rfl, hb1⟩
      have HB1 := Aside0.mk hb1
      clear hb1
      go_wp2_with fail
      go_ret2
      exact ⟨by rw [HV.out]; rfl, HB1.out⟩
    · have d1 : decide ((dep t : Int) > 100) = false := decide_eq_false (by omega)
      have d2 : decide ((100 : Int) < (dep t : Int)) = false := decide_eq_false (by omega)
      have HV : Aside0 (valE ns = finT (tx t)) := ⟨by rw [valE_one hb, if_neg hd]⟩
      clear hb
      go_enter Tryd.func17, Tryd.ntmps17
      go_wp2_with fail
      refine HJ.out.mono ?_
      rintro e w1 ⟨rfl, hb1⟩
      have HB1 := Aside0.mk hb1
      obtain ⟨w2, hw2⟩ : ∃ w2, w2 = w1.alloc (.cells #[.slice none 0 0] 101) := ⟨_, rfl⟩
      have hb2 : Below w1.heap.size w1 w2 := by rw [hw2]; exact below_alloc (Below.refl _ _) _
      have HB2 := Aside0.mk (below_step hb1 hb2)
      have HRO2 : Aside0 (Ro w2 w1.heap.size w1.heap.size []) := ⟨by rw [hw2]; exact fresh_Ro w1⟩
      have HE2 := Aside0.mk hw2
      clear hb1 hb2 hw2
      go_wp2_with fail
      rw [← HE2.out]
      refine (rwrite_calls w2 A c ns t HRO2.out ⟨fun w' k => Kd.C_below HC.out (HB2.out.trans (Below.lowr k HB1.out.size))⟩ HN.out HR.out HS.out HB.out).mono ?_
      rintro e w3 ⟨rfl, r, hr3, hwr3, hf3⟩
      have HR3 := Aside0.mk hr3
      have HW3 := Aside0.mk hwr3
      have HF3 := Aside0.mk hf3
      clear hr3 hwr3 hf3
      go_wp2_with fail
      refine (otext_calls w3 HR3.out).mono ?_
      rintro e w4 ⟨rfl, hb4⟩
      have HB4 := Aside0.mk hb4
      have HFI : Aside0 (fin r = valE ns) := ⟨by rw [HV.out]; exact fin_T HW3.out⟩
      rw [HFI.out]
      clear hb4
      go_wp2_with fail
      go_ret2
      refine ⟨rfl, HB2.out.trans ?_⟩
      exact Below.lowr (HF3.out.below.trans (Below.lowr HB4.out HR3.out.base)) HB1.out.size
  · have HV := Aside0.mk (valE_not fun t h => hb ⟨t, h⟩)
    have hj := rj_not fun t h => hb ⟨t, h⟩
    obtain ⟨jp, hjp⟩ : ∃ jp, jp = rj (build ns []) := ⟨_, rfl⟩
    rw [← hjp] at HJ hj
    clear hb hjp
    obtain ⟨j1, j2⟩ := jp
    simp only at hj
    subst hj
    go_enter Tryd.func17, Tryd.ntmps17
    go_wp2_with fail
    refine HJ.out.mono ?_
    rintro e w1 ⟨rfl, hb1⟩
    have HB1 := Aside0.mk hb1
    clear hb1
    go_wp2_with fail
    go_ret2
    exact ⟨by rw [HV.out]; rfl, HB1.out⟩
set_option maxHeartbeats 4000000 in
set_option maxRecDepth 100000 in
theorem values_calls (w : World) (A : Option Addr) (c : Nat) (ns : List Nd) (hC : Kd.C k46 w A ns.length ns) (hc : ns.length ≤ c) (hns : ns.length ≤ 1099511627776) (hr : Rng ns) (hs : ∀ n ∈ ns, n.f3.size ≤ 1048576) (hT : U.Tab w.heap.size w) :
    Calls Tryd.prog 5 #[.slice A ns.length c] w fun e w' => e = .returned (.bool true) ∧ Below w.heap.size w w' := by
  have HC := Aside0.mk hC
  have HCC := Aside0.mk hc
  have HN := Aside0.mk hns
  have HR := Aside0.mk hr
  have HS := Aside0.mk hs
  have HT := Aside0.mk hT
  clear hC hc hns hr hs hT
  go_enter Tryd.func5, Tryd.ntmps5
  go_wp2_with fail
  refine (awake_calls w HT.out).mono ?_
  rintro e w1 ⟨rfl, hb1⟩
  have HB1 := Aside0.mk hb1
  clear hb1
  obtain ⟨⟨sv, ev⟩, hv⟩ : ∃ p, p = valE ns := ⟨_, rfl⟩
  have HV := Aside0.mk hv
  clear hv
  go_wp2_with fail
  refine (value_calls w1 A c ns (Kd.C_below HC.out HB1.out) HN.out HR.out (Tab.high (HT.out.step HB1.out) HB1.out.size)).mono ?_
  rintro e w2 ⟨rfl, hb2⟩
  have HB2 := Aside0.mk (below_step HB1.out hb2)
  rw [← HV.out]
  clear hb2
  go_wp2_with fail
  refine (rvalue_calls w2 A c ns (Kd.C_below HC.out HB2.out) HCC.out HN.out HR.out HS.out).mono ?_
  rintro e w3 ⟨rfl, hb3⟩
  have HB3 := Aside0.mk (below_step HB2.out hb3)
  rw [← HV.out]
  clear hb3
  go_wp2_with fail
  go_ret
  exact ⟨rfl, HB3.out⟩
end Go.Proofs.YtaijoghpfobdbaaDoor.W
end
