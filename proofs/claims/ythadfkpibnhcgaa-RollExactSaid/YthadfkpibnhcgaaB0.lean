/- Books in memory: what the calls that only look answer. Conditions: those in the theorems. -/
import Derived.Test.YthadfkpibnhcgaaX2
import Derived.Test.YthadfkpibnhcgaaWWords
import Derived.Test.YthadfkpibnhcgaaWLast
import Derived.Test.YthadfkpibnhcgaaWMore
import Derived.Test.YthadfkpibnhcgaaM
import Derived.BigCall
import Derived.Laws.Externs
set_option linter.unusedVariables false
set_option linter.unusedSimpArgs false
namespace Go.Proofs.Ythadfkpibnhcgaa.B
open Go.RowKit Go.Proofs.Ythadfkpibnhcgaa.X Go.Proofs.YthadfkpibnhcgaaW.PrintWords Go.Proofs.YthadfkpibnhcgaaW.PrintLast Go.Proofs.YthadfkpibnhcgaaW.PrintMore

/-- A book's cells: its entries, its closed families. -/
def bk (v : Value) (cl : Nat → Bool) : Array Value := #[v, .bool (cl 0), .bool (cl 1), .bool (cl 2), .bool (cl 3), .bool (cl 4), .bool (cl 5)]
/-- A book at block g of w; its rows lie from base on. -/
structure IsB (w : World) (base g : Nat) (v : Value) (es : List S44) (cl : Nat → Bool) : Prop where
  blk : w.heap[g]? = some (.cells (bk v cl) 55 (0, 0))
  le : base ≤ g
  row : Kd.R k44 44 w base (fun _ => True) v es
theorem IsB.below {w w' : World} {base g : Nat} {v : Value} {es : List S44} {cl : Nat → Bool} (h : IsB w base g v es cl) (hb : Below w.heap.size w w') : IsB w' base g v es cl :=
  ⟨blk_below h.blk hb, h.le, Kd.R_below h.row hb⟩
theorem w64s {x : Int} (h0 : -4611686018427387904 ≤ x) (h1 : x ≤ 4611686018427387904) : wrap64 x = x := by unfold wrap64; omega
def cnt (es : List S44) (f : Int) : Nat := (es.filter fun e => e.f0 == f).length
/-- The number of the first entry of this family and name; 0: none. -/
def fnd : List S44 → Int → ByteArray → Int
  | [], _, _ => 0
  | e :: t, f, n => if e.f0 = f ∧ e.f2 = n then e.f1 else fnd t f n
/-- The first entry of this family and number. -/
def att : List S44 → Int → Int → Option S44
  | [], _, _ => none
  | e :: t, f, n => if e.f0 = f ∧ e.f1 = n then some e else att t f n
def left : Value → Nat
  | .int _ i => i.toNat
  | _ => 0
theorem rd_at (es : List S44) (k : Nat) (h : k < es.length) : rd_T44 es (k : Int) = es[k] := by
  unfold rd_T44; rw [Int.toNat_natCast, List.getD_eq_getElem?_getD, List.getElem?_eq_getElem h]; rfl
theorem drop_rd (es : List S44) (k : Nat) (h : k < es.length) : es.drop k = rd_T44 es (k : Int) :: es.drop (k + 1) := by
  rw [rd_at es k h]; exact List.drop_eq_getElem_cons h
theorem cnt_snoc (es : List S44) (k : Nat) (f : Int) (h : k < es.length) : cnt (es.take (k + 1)) f = cnt (es.take k) f + if (rd_T44 es (k : Int)).f0 == f then 1 else 0 := by
  have e : es.take (k + 1) = es.take k ++ [rd_T44 es (k : Int)] := by
    rw [List.take_succ_eq_append_getElem h, rd_at es k h]
  rw [e]; unfold cnt; rw [List.filter_append, List.length_append]
  congr 1
  simp only [List.filter_cons, List.filter_nil]; split <;> rfl
theorem cnt_le (es : List S44) (f : Int) : cnt es f ≤ es.length := List.length_filter_le _ _
theorem ret_int {k : IntKind} {a b : Int} (h : a = b) : Ending.returned (.int k a) = .returned (.int k b) := by rw [h]
/-- i + 1 of an index, as the walk asks it. -/
theorem next1 (i n : Nat) (hn : n ≤ 4611686018427387903) (h : i < n) : wrap64 ((i : Int) + 1) = ((i + 1 : Nat) : Int) := by rw [w64s (by omega) (by omega)]; rfl
theorem less (i n : Nat) (hn : n ≤ 4611686018427387903) (h : i < n) : n - (wrap64 ((i : Int) + 1)).toNat < n - ((i : Nat) : Int).toNat := by
  rw [next1 i n hn h, Int.toNat_natCast, Int.toNat_natCast]; omega
set_option maxHeartbeats 1000000 in
set_option maxRecDepth 100000 in
theorem count_calls (w : World) (base g : Nat) (v : Value) (es : List S44) (cl : Nat → Bool) (f : Int) (hB : IsB w base g v es cl) (hn : es.length ≤ 4611686018427387903) :
    Calls Try.prog 13 #[.pointer (some ⟨g, 0, none⟩), .int .i64 f] w fun e w' => e = .returned (.int .i64 (cnt es f : Int)) ∧ Below w.heap.size w w' := by
  obtain ⟨A, c, rfl, hlc, hrd⟩ := Kd.R_reads hB.row
  have h0 : w.cell? ⟨g, 0, none⟩ = some (.slice A es.length c) := (blk_cell hB.blk 0).trans rfl
  have HR := Aside0.mk hrd
  have HN := Aside0.mk hn
  clear hrd hlc hB hn
  go_enter Try.func13, Try.ntmps13
  go_wp2
  go_loopw [5, 15] (fun tn ti wr => ∃ i : Nat, ti = .int .i64 (i : Int) ∧ tn = .int .i64 ((cnt (es.take i) f : Nat) : Int) ∧ Aside0 (i ≤ es.length) ∧ Aside0 (Below w.heap.size w wr)) (fun _ ti _ => es.length - left ti)
  case atStart => exact ⟨0, rfl, rfl, ⟨Nat.zero_le _⟩, ⟨Below.refl _ _⟩⟩
  case round =>
    obtain ⟨i, rfl, rfl, hi, HB⟩ := hrel
    by_cases ci : i < es.length
    · have c1 : decide ((i : Int) < (es.length : Int)) = true := decide_eq_true (by omega)
      have c2 : decide (i < es.length) = true := decide_eq_true ci
      obtain ⟨ad, rfl, hx0, hx1, hx2, hx3⟩ := at_T44 (Kd.C_below HR.out HB.out) (i : Int) (by omega) (by omega)
      rw [Int.toNat_natCast] at hx0 hx1 hx2 hx3
      obtain ⟨f0, hf0⟩ : ∃ f0, f0 = (rd_T44 es (i : Int)).f0 := ⟨_, rfl⟩
      have HF := Aside0.mk hf0
      rw [← hf0] at hx0
      clear hf0
      have HS := Aside0.mk (cnt_snoc es i f ci)
      have W1 : Aside0 (wrap64 ((i : Int) + 1) = ((i + 1 : Nat) : Int)) := ⟨next1 i _ HN.out ci⟩
      have W2 : Aside0 (wrap64 (((cnt (es.take i) f : Nat) : Int) + 1) = ((cnt (es.take i) f + 1 : Nat) : Int)) := ⟨by have := HN.out; have := cnt_le (es.take i) f; rw [List.length_take] at this; rw [w64s (by omega) (by omega)]; rfl⟩
      have ML := Aside0.mk (less i es.length HN.out ci)
      by_cases ce : f0 = f
      all_goals
        first
        | (have c3 : (f0 == f) = true := beq_iff_eq.2 ce)
        | (have c3 : (f0 == f) = false := beq_eq_false_iff_ne.2 ce)
        clear ce
        go_wp2
        refine ⟨⟨i + 1, by rw [W1.out], ?_, ⟨by omega⟩, ⟨below_alloc HB.out _⟩⟩, ML.out⟩
        rw [HS.out, ← HF.out, c3]
        first | rw [W2.out]; rfl | rfl
    · have c1 : decide ((i : Int) < (es.length : Int)) = false := decide_eq_false (by omega)
      have c2 : decide (i < es.length) = false := decide_eq_false ci
      have HI : Aside0 (es.take i = es) := ⟨List.take_of_length_le (by omega)⟩
      go_wp2
      go_ret
      exact ⟨by rw [HI.out]; rfl, HB.out⟩
set_option maxHeartbeats 1000000 in
set_option maxRecDepth 100000 in
theorem find_calls (w : World) (base g : Nat) (v : Value) (es : List S44) (cl : Nat → Bool) (f : Int) (nm : ByteArray) (hB : IsB w base g v es cl) (hn : es.length ≤ 4611686018427387903) :
    Calls Try.prog 22 #[.pointer (some ⟨g, 0, none⟩), .int .i64 f, .string nm] w fun e w' => e = .returned (.int .i64 (fnd es f nm)) ∧ Below w.heap.size w w' := by
  obtain ⟨A, c, rfl, hlc, hrd⟩ := Kd.R_reads hB.row
  have h0 : w.cell? ⟨g, 0, none⟩ = some (.slice A es.length c) := (blk_cell hB.blk 0).trans rfl
  have HR := Aside0.mk hrd
  have HN := Aside0.mk hn
  clear hrd hlc hB hn
  go_enter Try.func22, Try.ntmps22
  go_wp2
  go_loopw [16] (fun ti wr => ∃ i : Nat, ti = .int .i64 (i : Int) ∧ Aside0 (fnd (es.drop i) f nm = fnd es f nm) ∧ Aside0 (i ≤ es.length) ∧ Aside0 (Below w.heap.size w wr)) (fun ti _ => es.length - left ti)
  case atStart => exact ⟨0, rfl, ⟨rfl⟩, ⟨Nat.zero_le _⟩, ⟨Below.refl _ _⟩⟩
  case round =>
    obtain ⟨i, rfl, HX, hi, HB⟩ := hrel
    by_cases ci : i < es.length
    · have c1 : decide ((i : Int) < (es.length : Int)) = true := decide_eq_true (by omega)
      have c2 : decide (i < es.length) = true := decide_eq_true ci
      obtain ⟨ad, rfl, hx0, hx1, hx2, hx3⟩ := at_T44 (Kd.C_below HR.out HB.out) (i : Int) (by omega) (by omega)
      rw [Int.toNat_natCast] at hx0 hx1 hx2 hx3
      have HS := Aside0.mk (drop_rd es i ci)
      obtain ⟨x, hx⟩ : ∃ x, x = rd_T44 es (i : Int) := ⟨_, rfl⟩
      rw [← hx] at hx0 hx1 hx2 hx3 HS
      clear hx
      have W1 : Aside0 (wrap64 ((i : Int) + 1) = ((i + 1 : Nat) : Int)) := ⟨next1 i _ HN.out ci⟩
      have ML := Aside0.mk (less i es.length HN.out ci)
      by_cases ce : x.f0 = f
      · have c3 : (x.f0 == f) = true := beq_iff_eq.2 ce
        by_cases cn : x.f2 = nm
        · have c4 : (x.f2.toList == nm.toList) = true := by rw [cn]; exact beq_self_eq_true _
          have HE : Aside0 (fnd es f nm = x.f1) := ⟨by rw [← HX.out, HS.out, fnd, if_pos ⟨ce, cn⟩]⟩
          clear ce cn
          go_wp2
          go_ret
          exact ⟨ret_int HE.out.symm, below_alloc HB.out _⟩
        · have c4 : (x.f2.toList == nm.toList) = false := by rw [beq_eq_false_iff_ne]; intro h; exact cn (ByteArray.ext (Array.toList_inj.1 (by rwa [ByteArray.toList_eq, ByteArray.toList_eq] at h)))
          have HE : Aside0 (fnd (es.drop (i + 1)) f nm = fnd es f nm) := ⟨by rw [← HX.out, HS.out, fnd, if_neg (fun h => cn h.2)]⟩
          clear ce cn
          go_wp2
          exact ⟨⟨i + 1, by rw [W1.out], HE, ⟨by omega⟩, ⟨below_alloc HB.out _⟩⟩, ML.out⟩
      · have c3 : (x.f0 == f) = false := beq_eq_false_iff_ne.2 ce
        have HE : Aside0 (fnd (es.drop (i + 1)) f nm = fnd es f nm) := ⟨by rw [← HX.out, HS.out, fnd, if_neg (fun h => ce h.1)]⟩
        clear ce
        go_wp2
        exact ⟨⟨i + 1, by rw [W1.out], HE, ⟨by omega⟩, ⟨below_alloc HB.out _⟩⟩, ML.out⟩
    · have c1 : decide ((i : Int) < (es.length : Int)) = false := decide_eq_false (by omega)
      have c2 : decide (i < es.length) = false := decide_eq_false ci
      have HE : Aside0 (fnd es f nm = 0) := ⟨by rw [← HX.out, List.drop_of_length_le (by omega)]; rfl⟩
      go_wp2
      go_ret
      exact ⟨ret_int HE.out.symm, HB.out⟩
theorem set4 {w : World} {g : Nat} {t : TypeId} {a b c d a' b' c' d' : Value} (h : w.heap[g]? = some (.cells #[a, b, c, d] t (0, 0))) : ((((w.setCell ⟨g, 0, none⟩ a').setCell ⟨g, 1, none⟩ b').setCell ⟨g, 2, none⟩ c').setCell ⟨g, 3, none⟩ d').heap[g]? = some (.cells #[a', b', c', d'] t (0, 0)) :=
  blk_set (blk_set (blk_set (blk_set h 0 a') 1 b') 2 c') 3 d'
theorem below4 {w W : World} {g : Nat} {a' b' c' d' : Value} (h : Below w.heap.size w W) (hg : w.heap.size ≤ g) : Below w.heap.size w ((((W.setCell ⟨g, 0, none⟩ a').setCell ⟨g, 1, none⟩ b').setCell ⟨g, 2, none⟩ c').setCell ⟨g, 3, none⟩ d') :=
  below_set (below_set (below_set (below_set h hg) hg) hg) hg
/-- What At answers. -/
def atOut (o : Option S44) : Value := match o with
  | some x => .tuple #[.agg #[.int .i64 x.f0, .int .i64 x.f1, .string x.f2, .int .i64 x.f3], .bool true]
  | none => .tuple #[.agg #[.int .i64 0, .int .i64 0, .string ⟨#[]⟩, .int .i64 0], .bool false]
set_option maxHeartbeats 1000000 in
set_option maxRecDepth 100000 in
theorem at_calls (w : World) (base g : Nat) (v : Value) (es : List S44) (cl : Nat → Bool) (f n : Int) (hB : IsB w base g v es cl) (hn : es.length ≤ 4611686018427387903) :
    Calls Try.prog 23 #[.pointer (some ⟨g, 0, none⟩), .int .i64 f, .int .i64 n] w fun e w' => e = .returned (atOut (att es f n)) ∧ Below w.heap.size w w' := by
  obtain ⟨A, c, rfl, hlc, hrd⟩ := Kd.R_reads hB.row
  have h0 : w.cell? ⟨g, 0, none⟩ = some (.slice A es.length c) := (blk_cell hB.blk 0).trans rfl
  have hg : g < w.heap.size := blk_lt hB.blk
  have hu44 := Try.underlying44
  have HR := Aside0.mk hrd
  have HN := Aside0.mk hn
  clear hrd hlc hB hn
  go_enter Try.func23, Try.ntmps23
  go_wp2
  go_loopw [18] (fun ti wr => ∃ i : Nat, ti = .int .i64 (i : Int) ∧ Aside0 (att (es.drop i) f n = att es f n) ∧ Aside0 (i ≤ es.length) ∧ Aside0 (Below w.heap.size w wr) ∧ Aside0 (wr.heap[w.heap.size]? = some (.cells #[.int .i64 0, .int .i64 0, .string ⟨#[]⟩, .int .i64 0] 44 (0, 0)))) (fun ti _ => es.length - left ti)
  case atStart => exact ⟨0, rfl, ⟨rfl⟩, ⟨Nat.zero_le _⟩, ⟨below_alloc (Below.refl _ _) _⟩, ⟨blk_new _ _⟩⟩
  case round =>
    obtain ⟨i, rfl, HX, hi, HB, HK⟩ := hrel
    have hz : w.heap.size < wr.heap.size := blk_lt HK.out
    have hk0 : wr.cell? ⟨w.heap.size, 0, none⟩ = some (.int .i64 0) := (blk_cell HK.out 0).trans rfl
    have hk1 : wr.cell? ⟨w.heap.size, 1, none⟩ = some (.int .i64 0) := (blk_cell HK.out 1).trans rfl
    have hk2 : wr.cell? ⟨w.heap.size, 2, none⟩ = some (.string ⟨#[]⟩) := (blk_cell HK.out 2).trans rfl
    have hk3 : wr.cell? ⟨w.heap.size, 3, none⟩ = some (.int .i64 0) := (blk_cell HK.out 3).trans rfl
    have hq0 := blk_frozen HK.out 0
    have hq1 := blk_frozen HK.out 1
    have hq2 := blk_frozen HK.out 2
    have hq3 := blk_frozen HK.out 3
    by_cases ci : i < es.length
    · have c1 : decide ((i : Int) < (es.length : Int)) = true := decide_eq_true (by omega)
      have c2 : decide (i < es.length) = true := decide_eq_true ci
      obtain ⟨ad, rfl, hx0, hx1, hx2, hx3⟩ := at_T44 (Kd.C_below HR.out HB.out) (i : Int) (by omega) (by omega)
      rw [Int.toNat_natCast] at hx0 hx1 hx2 hx3
      have HS := Aside0.mk (drop_rd es i ci)
      obtain ⟨x, hx⟩ : ∃ x, x = rd_T44 es (i : Int) := ⟨_, rfl⟩
      rw [← hx] at hx0 hx1 hx2 hx3 HS
      clear hx
      have W1 : Aside0 (wrap64 ((i : Int) + 1) = ((i + 1 : Nat) : Int)) := ⟨next1 i _ HN.out ci⟩
      have ML := Aside0.mk (less i es.length HN.out ci)
      by_cases ce : x.f0 = f
      · have c3 : (x.f0 == f) = true := beq_iff_eq.2 ce
        by_cases cn : x.f1 = n
        · have c4 : (x.f1 == n) = true := beq_iff_eq.2 cn
          have HE : Aside0 (att es f n = some x) := ⟨by rw [← HX.out, HS.out, att, if_pos ⟨ce, cn⟩]⟩
          clear ce cn
          go_wp2
          refine bodyPost_ret (results_ct rfl _ _ w.heap.size 44 #[.int .i64 x.f0, .int .i64 x.f1, .string x.f2, .int .i64 x.f3] (0, 0) _ rfl (blk_alloc (set4 HK.out) _) Try.underlying44 rfl (by kernel_rfl)) rfl ?_
          exact ⟨by rw [HE.out]; rfl, below_alloc (below4 HB.out (Nat.le_refl _)) _⟩
        · have c4 : (x.f1 == n) = false := beq_eq_false_iff_ne.2 cn
          have HE : Aside0 (att (es.drop (i + 1)) f n = att es f n) := ⟨by rw [← HX.out, HS.out, att, if_neg (fun h => cn h.2)]⟩
          clear ce cn
          go_wp2
          exact ⟨⟨i + 1, by rw [W1.out], HE, ⟨by omega⟩, ⟨below_alloc HB.out _⟩, ⟨blk_alloc HK.out _⟩⟩, ML.out⟩
      · have c3 : (x.f0 == f) = false := beq_eq_false_iff_ne.2 ce
        have HE : Aside0 (att (es.drop (i + 1)) f n = att es f n) := ⟨by rw [← HX.out, HS.out, att, if_neg (fun h => ce h.1)]⟩
        clear ce
        go_wp2
        exact ⟨⟨i + 1, by rw [W1.out], HE, ⟨by omega⟩, ⟨below_alloc HB.out _⟩, ⟨blk_alloc HK.out _⟩⟩, ML.out⟩
    · have c1 : decide ((i : Int) < (es.length : Int)) = false := decide_eq_false (by omega)
      have c2 : decide (i < es.length) = false := decide_eq_false ci
      have HE : Aside0 (att es f n = none) := ⟨by rw [← HX.out, List.drop_of_length_le (by omega)]; rfl⟩
      go_wp2
      refine bodyPost_ret (results_ct rfl _ _ w.heap.size 44 #[.int .i64 0, .int .i64 0, .string ⟨#[]⟩, .int .i64 0] (0, 0) _ rfl (set4 HK.out) Try.underlying44 rfl (by kernel_rfl)) rfl ?_
      exact ⟨by rw [HE.out]; rfl, below4 HB.out (Nat.le_refl _)⟩
end Go.Proofs.Ythadfkpibnhcgaa.B
