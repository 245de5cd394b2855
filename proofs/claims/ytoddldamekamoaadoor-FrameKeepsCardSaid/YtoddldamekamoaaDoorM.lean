/- Words of this workplace: make with a capacity. Plain lemmas over the kit's printed words. -/
import Derived.Test.YtoddldamekamoaaDoorWWords
import Derived.Lib.ConvBytes
import Derived.Lib.SlBytesConst
import Derived.Lib.SmallJoins
import Derived.Laws.IdiomStrings
set_option linter.unusedVariables false
set_option linter.unusedSimpArgs false
namespace Go.Proofs.YtoddldamekamoaaDoorW.PrintWords
open Go.RowKit
abbrev tb : Bool := true
abbrev fb : Bool := false
theorem sT {α : Type _} {l : List α} {i : Nat} {a : α} : l.toArray.setIfInBounds i a = (l.set i a).toArray := List.setIfInBounds_toArray _ _ _
theorem sZ {α : Type _} {x : α} {xs : List α} {a : α} : (x :: xs).set 0 a = a :: xs := List.set_cons_zero
theorem sS {α : Type _} {x : α} {xs : List α} {n : Nat} {a : α} : (x :: xs).set (n + 1) a = x :: xs.set n a := List.set_cons_succ
theorem w64_div (c : Int) (n : Nat) (h0 : 0 ≤ c) (h1 : c ≤ 9223372036854775807) : wrap64 (c / (n : Int)) = c / (n : Int) := by
  have a := Int.ediv_nonneg h0 (show (0 : Int) ≤ (n : Int) by omega)
  have b := Int.ediv_le_self (n : Int) h0
  unfold wrap64; omega
theorem w64_div26 (n : Nat) : wrap64 ((67108864 : Int) / (n : Int)) = (67108864 : Int) / (n : Int) := w64_div _ n (by omega) (by omega)
theorem w64_div12 (n : Nat) : wrap64 ((4096 : Int) / (n : Int)) = (4096 : Int) / (n : Int) := w64_div _ n (by omega) (by omega)
theorem tdiv12 (x : Int) : Int.tdiv 4096 x = 4096 / x := Int.tdiv_eq_ediv_of_nonneg (by omega)
theorem w64_add2 {a b : Nat} (h : a + b ≤ 9223372036854775807) : wrap64 ((a : Int) + (b : Int)) = (a : Int) + (b : Int) := by unfold wrap64; omega
theorem isE_ (l : List UInt8) : l.isEmpty = !(l != []) := by cases l <;> rfl
theorem u64_w64 (x : Int) : IntKind.u64.wrap (wrap64 x) = IntKind.u64.wrap x := by
  rw [IntKind.wrap_u64, IntKind.wrap_u64]; unfold wrap64; omega
/-- What a package variable's cells hold, out of its reading. -/
theorem glob_cell {k : IntKind} {w : World} {b n : Nat} {xs : List Int} (h : Kd.C (Kd.int k) w (some ⟨b, 0, none⟩) n xs) (i : Nat) (hi : i < n) : w.cell? ⟨b, i, none⟩ = some (.int k (rd xs (i : Int))) := by
  obtain ⟨_, _, h2⟩ := Kd.reads_of_C (d := (0 : Int)) (h1 := fun _ => rfl) h
  obtain ⟨ad, e, hc⟩ := h2 (by omega)
  have := hc i hi
  cases e
  have e2 : (⟨b, 0, none⟩ : Addr).add i = ⟨b, i, none⟩ := by
    unfold Addr.add
    by_cases c : i = 0
    · simp [c]
    · simp [c]
  rw [e2] at this
  exact this
theorem blk_setS {w : World} {g i : Nat} {cs : Array Value} {t : TypeId} {fr : Nat × Nat} (h : w.heap[g]? = some (.cells cs t fr)) (v : Value) : (w.setCell ⟨g, i, none⟩ v).heap[g]? = some (.cells (cs.setIfInBounds i v) t fr) := Go.Joins.block_setCell h v
theorem blk_setN {w : World} {g g' i : Nat} {o : Obj} (hne : g ≠ g') (h : w.heap[g]? = some o) (v : Value) : (w.setCell ⟨g', i, none⟩ v).heap[g]? = some o := (Below.heap_setCell w ⟨g', i, none⟩ v g hne).trans h
theorem blk_d0 {w w' : World} {g : Nat} {o : Obj} (hd : Drawn0 w w') (h : w.heap[g]? = some o) : w'.heap[g]? = some o := by
  obtain ⟨⟨m, rfl⟩⟩ := hd
  exact blk_drewN h m
namespace Kd
section
variable {α : Type} {P : Program} {ops : Array Oper} {rest : List Oper} {o : Oper} {a : Act} {Q : Exit → Act → World → Prop}
theorem take_made (z : Array Value) (n m : Nat) (h : n ≤ m) : (madeCells z m).toList.take n = (madeCells z n).toList := by
  apply List.ext_getElem
  · simp [size_madeCells]; omega
  · intro i h1 h2
    simp [madeCells]
theorem R_make2 (d : Kd α) {w0 W : World} (base e : Nat) (hgd : o.guard = none) {N : Tmp} (hd : o.dst = some N) (t : TypeId) (x y : Operand) (ho : o.op = .makeSlice t x y) (kl kc : IntKind) (n m : Int) (hx : a.eval x = .int kl n) (hy : a.eval y = .int kc m)
    (ht : P.underlying t = some (.slice e)) (z : Value) (bytes : Nat) (hinfo : (P.info? e).map (fun i => (i.zero, i.size, i.bytes)) = some (some z, d.sz, bytes)) (hz : z.cells.size = d.sz) (hs0 : 0 < d.sz) (hb0 : 0 < bytes)
    (z0 : α) {ok okp : Nat → Prop} (hzero : d.M W base okp z0 z.cells.toList) (hok : ∀ k, okp k → ok k) (hfresh : ok W.heap.size) (h0 : 0 ≤ n) (hnm : n ≤ m) (hl : m.toNat * bytes ≤ 281474976710656) (HB : Below base w0 W) (hbase : base ≤ W.heap.size)
    (h : ∀ v1 w1, d.R e w1 base ok v1 (List.replicate n.toNat z0) → Below base w0 w1 → W.grownBy w1 none → (∃ b, v1.ownBlock = some b ∧ W.heap.size ≤ b) → wpList P ops Q rest (a.put o.dst v1) w1) : wpList P ops Q (o :: rest) a W := by
  obtain ⟨m, rfl⟩ := Int.eq_ofNat_of_zero_le (show 0 ≤ m by omega)
  obtain ⟨n, rfl⟩ := Int.eq_ofNat_of_zero_le h0
  simp only [Int.toNat_natCast] at hl h
  have hnm' : n ≤ m := by omega
  obtain ⟨i0, hi, hzz⟩ := Option.map_eq_some_iff.1 hinfo
  simp only [Prod.mk.injEq] at hzz
  obtain ⟨hz0, hz1, hz2⟩ := hzz
  have hm : m ≤ 281474976710656 := Nat.le_trans (Nat.le_mul_of_pos_right _ hb0) hl
  have hr := run_make (P := P) W t e i0 z ht hi hz0 kl kc (n : Int) (m : Int) (by omega) (by omega)
    (by
      have h3 : ((i0.bytes * m : Nat) : Int) ≤ 281474976710656 := by rw [hz2, Nat.mul_comm]; omega
      rwa [Int.natCast_mul] at h3) (by omega)
  simp only [Int.toNat_natCast] at hr
  rw [hz1] at hr
  have hrun : (execOp a.eval o).run P W = .ok (.value (.slice (some ⟨W.heap.size, 0, none⟩) n m)) (W.alloc (.cells (madeCells z.cells (m * d.sz)) e)) := by
    simp [execOp, ho, hx, hy, hr]
  refine event_run hgd hrun (h _ _ ⟨fun k hk => ?_, (madeCells z.cells (n * d.sz)).toList, ?_, ?_⟩ (HB.alloc hbase _) (World.grownBy_alloc W _ none) ⟨W.heap.size, by simp [Value.ownBlock], Nat.le_refl _⟩)
  · have : W.heap.size = k := by simpa [Value.ownBlock] using hk
    subst this
    exact hfresh
  · refine ⟨by simp [size_madeCells], .inr ⟨W.heap.size, m, madeCells z.cells (m * d.sz), by simp, hbase, ?_, by simpa using hnm', by simp [maxLen]; omega, size_madeCells _ _, ?_⟩⟩
    · show (W.heap.push _)[W.heap.size]? = _
      simp
    · rw [List.length_replicate]
      exact take_made _ _ _ (Nat.mul_le_mul_right _ hnm')
  · refine (reps_made hz hs0 hzero n).imp_ (fun p c hp => d.M_mono (fun k hk => ⟨hok k hk.1, fun he => ?_⟩) (M_below (d.M_bound hp) (below_alloc (Below.refl _ _) _)))
    have h3 : k = W.heap.size := by simpa [Value.ownBlock] using he
    have := hk.2.2.1
    omega
/-- '[]byte(s)': what it makes is read; the world is only greater. -/
theorem R_strbytes {w0 W : World} (base : Nat) (hgd : o.guard = none) (x : Operand) (src dst e : TypeId) (ho : o.op = .convert src dst x) (s : ByteArray) (hx : a.eval x = .string s)
    {u : TypeDesc} (hs : P.underlying src = some u) (hd : P.underlying dst = some (.slice e)) (he : P.underlying e = some (.int .u8)) (HB : Below base w0 W)
    (h : ∀ A c w1, (Kd.int .u8).C w1 A (bytesOf s).length (bytesOf s) → (bytesOf s).length ≤ c → Below W.heap.size W w1 → wpList P ops Q rest (a.put o.dst (.slice A (bytesOf s).length c)) w1) (hm : s.size ≤ 9223372036854775807) : wpList P ops Q (o :: rest) a W := by
  have hrun : (execOp a.eval o).run P W = .ok (.value (.slice (some ⟨W.heap.size, 0, none⟩) s.size (grownCap W s.size 0 e))) (Lib.bytesWorld W e s) := by
    simp [execOp, ho, hx, Lib.run_convert_string_bytes W src dst e s hs hd he]
  have hl := bytesOf_length s
  refine event_run hgd hrun ?_
  have h2 := h (some ⟨W.heap.size, 0, none⟩) (grownCap W s.size 0 e) (Lib.bytesWorld W e s) (by rw [hl]; exact Kd.C_of_reads (d := (0 : Int)) (h1 := fun _ => rfl) (bytes_reads W e s hm)) (by rw [hl]; exact grownCap_ge W s.size 0 e) (bytes_below (Below.refl _ _) (Nat.le_refl _) e s)
  rwa [hl] at h2
/-- '[]byte("..")' of a constant: a literal, marked as a string's; what it makes is read, the world is only greater. -/
theorem R_litconv {o2 : Oper} {w0 W : World} (base : Nat) (hgd : o.guard = none) (hgd2 : o2.guard = none) {N1 : Tmp} (hd : o.dst = some N1) (t e : TypeId) (ho2 : o2.op = .convert t t (.tmp N1)) {xs : List Int} {inner : List Value} (hin : inner = xs.map (Value.int .u8))
    (hrun : (execOp a.eval o).run P W = .ok (.value (.slice (some ⟨W.heap.size, 0, none⟩) xs.length xs.length)) (W.alloc (.cells inner.toArray e)))
    (hev : ∀ v, (a.put (some N1) v).eval (.tmp N1) = v) (ht : P.underlying t = some (.slice e)) (he : P.underlying e = some (.int .u8)) (HB : Below base w0 W)
    (h : ∀ A c w1, (Kd.int .u8).C w1 A xs.length xs → xs.length ≤ c → Below W.heap.size W w1 → wpList P ops Q rest ((a.put o.dst (.slice A xs.length c)).put o2.dst (.slice A xs.length c)) w1) (hm : xs.length ≤ 9223372036854775807) : wpList P ops Q (o :: o2 :: rest) a W := by
  subst hin
  refine event_run hgd hrun ?_
  have hr2 : (execOp (a.put o.dst (.slice (some ⟨W.heap.size, 0, none⟩) xs.length xs.length)).eval o2).run P (W.alloc (.cells (xs.map (Value.int .u8)).toArray e)) = .ok (.value (.slice (some ⟨W.heap.size, 0, none⟩) xs.length xs.length)) (W.alloc (.cells (xs.map (Value.int .u8)).toArray e ((xs.map (Value.int .u8)).toArray.size, (xs.map (Value.int .u8)).toArray.size + 1))) := by
    rw [hd]
    simp only [execOp, ho2, hev]
    rw [show (convert t t (.slice (some ⟨W.heap.size, 0, none⟩) xs.length xs.length)) = _ from rfl]
    simp [Lib.run_convert_bytes_const (P := P) W t e (xs.map (Value.int .u8)).toArray xs.length xs.length ht he]
  refine event_run hgd2 hr2 (h _ _ _ (Kd.C_of_reads (d := (0 : Int)) (h1 := fun _ => rfl) ⟨rfl, hm, fun _ => ⟨_, rfl, fun j hj => ?_⟩⟩) (Nat.le_refl _) ((Below.refl _ _).alloc (Nat.le_refl _) _))
  have hc := World.cell?_alloc_mark W (xs.map (Value.int .u8)).toArray e ((xs.map (Value.int .u8)).toArray.size, (xs.map (Value.int .u8)).toArray.size + 1) j
  have ha : (⟨W.heap.size, 0, none⟩ : Addr).add j = ⟨W.heap.size, j, none⟩ := by
    unfold Addr.add
    by_cases c : j = 0
    · simp [c]
    · simp [c]
  rw [ha, hc]
  simp [hj]
end
end Kd
end Go.Proofs.YtoddldamekamoaaDoorW.PrintWords
