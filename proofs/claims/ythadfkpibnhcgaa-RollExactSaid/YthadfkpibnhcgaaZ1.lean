/- The reference's books in memory: At, Open, Close, Enter; none at all. Conditions: those in the theorems. -/
import Derived.Test.YthadfkpibnhcgaaZ0
set_option linter.unusedVariables false
set_option linter.unusedSimpArgs false
namespace Go.Proofs.Ythadfkpibnhcgaa.B
open Go.RowKit Go.Proofs.Ythadfkpibnhcgaa.X Go.Proofs.YthadfkpibnhcgaaW.PrintWords Go.Proofs.YthadfkpibnhcgaaW.PrintLast Go.Proofs.YthadfkpibnhcgaaW.PrintMore

set_option maxHeartbeats 1000000 in
set_option maxRecDepth 100000 in
theorem rat_calls (w : World) (base g : Nat) (v u : Value) (es : List S44) (cs : List Int) (f n : Int) (hB : IsR w base g v u es cs) (hn : es.length ≤ 64) :
    Calls Try.prog 30 #[.pointer (some ⟨g, 0, none⟩), .int .i64 f, .int .i64 n] w fun e w' => e = .returned (atOut (att es f n)) ∧ Below w.heap.size w w' := by
  have hu44 := Try.underlying44
  have HX0 := Aside0.mk (below_alloc (Below.refl w.heap.size w) (.cells #[.int .i64 0, .int .i64 0, .string ⟨#[]⟩, .int .i64 0] 44))
  have HALL := Aside0.mk (rall_reads (w.alloc (.cells #[.int .i64 0, .int .i64 0, .string ⟨#[]⟩, .int .i64 0] 44)) base g v u es cs (hB.below HX0.out) hn)
  have HN := Aside0.mk hn
  clear hB hn
  go_enter Try.func30, Try.ntmps30
  go_wp2_with (go_at_call 19; (with_reducible refine HALL.out.mono ?_); rintro e w1 ⟨A, c, rfl, hr, hb⟩; have HR := Aside0.mk hr; have HB := Aside0.mk (below_step HX0.out hb); have HK := Aside0.mk (blk_below (blk_new w (.cells #[.int .i64 0, .int .i64 0, .string ⟨#[]⟩, .int .i64 0] 44)) hb); clear hr hb)
  go_loopw [9] (fun ti wr => ∃ i : Nat, ti = .int .i64 (i : Int) ∧ Aside0 (att (es.drop i) f n = att es f n) ∧ Aside0 (i ≤ es.length) ∧ Aside0 (wr = w1)) (fun ti _ => es.length - left ti)
  case atStart => exact ⟨0, rfl, ⟨rfl⟩, ⟨Nat.zero_le _⟩, ⟨rfl⟩⟩
  case round =>
    obtain ⟨i, rfl, HX, hi, ⟨hw⟩⟩ := hrel
    subst hw
    have hk0 : wr.cell? ⟨w.heap.size, 0, none⟩ = some (.int .i64 0) := (blk_cell HK.out 0).trans rfl
    have hk1 : wr.cell? ⟨w.heap.size, 1, none⟩ = some (.int .i64 0) := (blk_cell HK.out 1).trans rfl
    have hk2 : wr.cell? ⟨w.heap.size, 2, none⟩ = some (.string ⟨#[]⟩) := (blk_cell HK.out 2).trans rfl
    have hk3 : wr.cell? ⟨w.heap.size, 3, none⟩ = some (.int .i64 0) := (blk_cell HK.out 3).trans rfl
    have hq0 := blk_frozen HK.out 0
    have hq1 := blk_frozen HK.out 1
    have hq2 := blk_frozen HK.out 2
    have hq3 := blk_frozen HK.out 3
    by_cases ci : i < es.length
    · have c1 : decide ((i : Int) < (es.length : Int)) = true := decide_eq_true (by omega)
      have c2 : decide (i < es.length) = true := decide_eq_true ci
      obtain ⟨ad, rfl, hx0, hx1, hx2, hx3⟩ := at_T44 HR.out (i : Int) (by omega) (by omega)
      rw [Int.toNat_natCast] at hx0 hx1 hx2 hx3
      have HS := Aside0.mk (drop_rd es i ci)
      obtain ⟨x, hx⟩ : ∃ x, x = rd_T44 es (i : Int) := ⟨_, rfl⟩
      rw [← hx] at hx0 hx1 hx2 hx3 HS
      clear hx
      have W1 : Aside0 (wrap64 ((i : Int) + 1) = ((i + 1 : Nat) : Int)) := ⟨next1 i es.length (by have := HN.out; omega) ci⟩
      have ML := Aside0.mk (less i es.length (by have := HN.out; omega) ci)
      by_cases ce : x.f0 = f
      · have c3 : (x.f0 == f) = true := beq_iff_eq.2 ce
        by_cases cn : x.f1 = n
        · have c4 : (x.f1 == n) = true := beq_iff_eq.2 cn
          have HE : Aside0 (att es f n = some x) := ⟨by rw [← HX.out, HS.out, att, if_pos ⟨ce, cn⟩]⟩
          clear ce cn
          go_wp2
          refine bodyPost_ret (results_ct rfl _ _ w.heap.size 44 #[.int .i64 x.f0, .int .i64 x.f1, .string x.f2, .int .i64 x.f3] (0, 0) _ rfl (set4 HK.out) Try.underlying44 rfl (by kernel_rfl)) rfl ?_
          exact ⟨by rw [HE.out]; rfl, below4 HB.out (Nat.le_refl _)⟩
        · have c4 : (x.f1 == n) = false := beq_eq_false_iff_ne.2 cn
          have HE : Aside0 (att (es.drop (i + 1)) f n = att es f n) := ⟨by rw [← HX.out, HS.out, att, if_neg (fun h => cn h.2)]⟩
          clear ce cn
          go_wp2
          exact ⟨⟨i + 1, by rw [W1.out], HE, ⟨by omega⟩, ⟨by trivial⟩⟩, ML.out⟩
      · have c3 : (x.f0 == f) = false := beq_eq_false_iff_ne.2 ce
        have HE : Aside0 (att (es.drop (i + 1)) f n = att es f n) := ⟨by rw [← HX.out, HS.out, att, if_neg (fun h => ce h.1)]⟩
        clear ce
        go_wp2
        exact ⟨⟨i + 1, by rw [W1.out], HE, ⟨by omega⟩, ⟨by trivial⟩⟩, ML.out⟩
    · have c1 : decide ((i : Int) < (es.length : Int)) = false := decide_eq_false (by omega)
      have c2 : decide (i < es.length) = false := decide_eq_false ci
      have HE : Aside0 (att es f n = none) := ⟨by rw [← HX.out, List.drop_of_length_le (by omega)]; rfl⟩
      go_wp2
      refine bodyPost_ret (results_ct rfl _ _ w.heap.size 44 #[.int .i64 0, .int .i64 0, .string ⟨#[]⟩, .int .i64 0] (0, 0) _ rfl (set4 HK.out) Try.underlying44 rfl (by kernel_rfl)) rfl ?_
      exact ⟨by rw [HE.out]; rfl, below4 HB.out (Nat.le_refl _)⟩
/-- Is the family open, by the list of closed ones? -/
def opn (cs : List Int) (f : Int) : Bool := isF f && !cs.contains f
theorem con_drop (cs : List Int) (i : Nat) (h : i < cs.length) (f : Int) : (cs.drop i).contains f = (rd cs (i : Int) == f || (cs.drop (i + 1)).contains f) := by
  have e : rd cs (i : Int) = cs[i] := by unfold rd; rw [Int.toNat_natCast, List.getD_eq_getElem?_getD, List.getElem?_eq_getElem h]; rfl
  rw [e, List.drop_eq_getElem_cons h, List.contains_cons]
  congr 1
  rw [Bool.eq_iff_iff, beq_iff_eq, beq_iff_eq]; exact eq_comm
set_option maxHeartbeats 1000000 in
set_option maxRecDepth 100000 in
theorem ropen_calls (w : World) (base g : Nat) (v u : Value) (es : List S44) (cs : List Int) (f : Int) (hB : IsR w base g v u es cs) (hn : cs.length ≤ 64) :
    Calls Try.prog 20 #[.pointer (some ⟨g, 0, none⟩), .int .i64 f] w fun e w' => e = .returned (.bool (opn cs f)) ∧ w = w' := by
  cases hf : isF f with
  | false =>
    have HI := Aside0.mk (hf ▸ fam_calls f w)
    have HE : Aside0 (opn cs f = false) := ⟨by unfold opn; rw [hf]; rfl⟩
    clear hf hB hn
    go_enter Try.func20, Try.ntmps20
    go_wp2_with (go_at_call 31; (with_reducible refine HI.out.mono ?_); rintro e w1 ⟨rfl, rfl⟩)
    go_ret
    exact ⟨by rw [HE.out]; rfl, rfl⟩
  | true =>
    have HI := Aside0.mk (hf ▸ fam_calls f w)
    have HE : Aside0 (opn cs f = !cs.contains f) := ⟨by unfold opn; rw [hf]; rfl⟩
    obtain ⟨A, c, hv, hlc, hrd⟩ := Kd.R_reads hB.shut
    subst hv
    have h0 : w.cell? ⟨g, 1, none⟩ = some (.slice A cs.length c) := (blk_cell hB.blk 1).trans rfl
    have HR := Aside0.mk hrd
    have HN := Aside0.mk hn
    clear hf hB hn hrd hlc
    go_enter Try.func20, Try.ntmps20
    go_wp2_with (go_at_call 31; (with_reducible refine HI.out.mono ?_); rintro e w1 ⟨rfl, rfl⟩)
    go_loopw [5] (fun ti wr => ∃ i : Nat, ti = .int .i64 (i : Int) ∧ Aside0 ((cs.drop i).contains f = cs.contains f) ∧ Aside0 (i ≤ cs.length) ∧ Aside0 (wr = w)) (fun ti _ => cs.length - left ti)
    case atStart => exact ⟨0, rfl, ⟨rfl⟩, ⟨Nat.zero_le _⟩, ⟨rfl⟩⟩
    case round =>
      obtain ⟨i, rfl, HX, hi, ⟨hw⟩⟩ := hrel
      subst hw
      by_cases ci : i < cs.length
      · have c1 : decide ((i : Int) < (cs.length : Int)) = true := decide_eq_true (by omega)
        have c2 : decide (i < cs.length) = true := decide_eq_true ci
        obtain ⟨ad, cc, rfl, _, hK, hc0⟩ := Kd.C_get HR.out 0 (i : Int) (by omega) (by omega)
        have hK' : cc = [.int .i64 (rd cs (i : Int))] := hK
        subst hK'
        have hx0 := hc0 0 _ rfl
        have hsz1 : (Kd.int .i64).sz = 1 := rfl
        rw [hsz1, Nat.mul_one, Nat.add_zero, Int.toNat_natCast] at hx0
        have HS := Aside0.mk (con_drop cs i ci f)
        obtain ⟨x, hx⟩ : ∃ x, x = rd cs (i : Int) := ⟨_, rfl⟩
        rw [← hx] at hx0 HS
        clear hx hc0 hK hsz1
        have W1 : Aside0 (wrap64 ((i : Int) + 1) = ((i + 1 : Nat) : Int)) := ⟨next1 i cs.length (by have := HN.out; omega) ci⟩
        have ML := Aside0.mk (less i cs.length (by have := HN.out; omega) ci)
        by_cases ce : x = f
        · have c3 : (x == f) = true := beq_iff_eq.2 ce
          have HC : Aside0 (opn cs f = false) := ⟨by rw [HE.out, ← HX.out, HS.out, c3]; rfl⟩
          clear ce
          go_wp2
          go_ret
          exact ⟨by rw [HC.out]; rfl, rfl⟩
        · have c3 : (x == f) = false := beq_eq_false_iff_ne.2 ce
          have HC : Aside0 ((cs.drop (i + 1)).contains f = cs.contains f) := ⟨by rw [← HX.out, HS.out, c3, Bool.false_or]⟩
          clear ce
          go_wp2
          exact ⟨⟨i + 1, by rw [W1.out], HC, ⟨by omega⟩, ⟨by trivial⟩⟩, ML.out⟩
      · have c1 : decide ((i : Int) < (cs.length : Int)) = false := decide_eq_false (by omega)
        have c2 : decide (i < cs.length) = false := decide_eq_false ci
        have HC : Aside0 (opn cs f = true) := ⟨by rw [HE.out, ← HX.out, List.drop_of_length_le (by omega)]; rfl⟩
        go_wp2
        go_ret
        exact ⟨by rw [HC.out]; rfl, rfl⟩
end Go.Proofs.Ythadfkpibnhcgaa.B
