/- The texts of the law PrintSchemas, put together by a program of this workplace out of its own texts and of what the kit's print has written: walks of the functions, plain laws. No condition but those in the theorems. -/
import Derived.Maps.OwnOps
import Derived.Carry
import Derived.Laws.Entries
import Derived.KernelRfl
import Derived.Test.YtaijoghpfobdbaaDoorRows
import Derived.Lib.LaidTab
import Derived.LaidSub
import Derived.LaidLaws
import Derived.Deep.Slices
import Derived.SizedLaws
import Derived.ChangeSlices
import Derived.OpenShut
import Derived.DataReads
import Derived.DataElems
import Derived.ChangeAt
import Derived.WalkKit
import Derived.ProofKit
import Derived.Test.YtaijoghpfobdbaaDoorBPrintSchemas0
import Derived.Test.YtaijoghpfobdbaaDoorBPrintSchemas1
import Derived.Test.YtaijoghpfobdbaaDoorBPrintSchemas2
section
set_option linter.unusedVariables false
set_option linter.unusedSimpArgs false
namespace Go.Proofs.YtaijoghpfobdbaaDoor.W
open Go.RowKit Go.Proofs.YtaijoghpfobdbaaDoor.X Go.Proofs.YtaijoghpfobdbaaDoorW.PrintWords Go.Proofs.YtaijoghpfobdbaaDoorW.PrintLast Go.Proofs.YtaijoghpfobdbaaDoorW.PrintMore
open Go.Proofs.YtaijoghpfobdbaaDoor.P (Tr Nd Wrote puts put fin kv kd sg build dep dmx pile judgeE tx txs txN sepL WF StD VeD EvD wordB nameB emB noV goodB wordList)
theorem box8 {W : World} {b : Nat} {a0 a1 a2 a3 a4 a5 a6 a7 : Value} {t : TypeId} (h : W.heap[b]? = some (.cells #[a0, a1, a2, a3, a4, a5, a6, a7] t (0, 0))) : W.cell? ⟨b, 0, none⟩ = some a0 ∧ W.cell? ⟨b, 1, none⟩ = some a1 ∧ W.cell? ⟨b, 2, none⟩ = some a2 ∧ W.cell? ⟨b, 3, none⟩ = some a3 ∧ W.cell? ⟨b, 4, none⟩ = some a4 ∧ W.cell? ⟨b, 5, none⟩ = some a5 ∧ W.cell? ⟨b, 6, none⟩ = some a6 ∧ W.cell? ⟨b, 7, none⟩ = some a7 :=
  ⟨(blk_cell h 0).trans rfl, (blk_cell h 1).trans rfl, (blk_cell h 2).trans rfl, (blk_cell h 3).trans rfl, (blk_cell h 4).trans rfl, (blk_cell h 5).trans rfl, (blk_cell h 6).trans rfl, (blk_cell h 7).trans rfl⟩
set_option maxHeartbeats 8000000 in
set_option maxRecDepth 100000 in
theorem good1 (w : World) (a b c sep ty : ByteArray) (A : Option Addr) (n cc : Nat) (pl : Int) (val : List Nd) (hn : n = val.length) :
    Calls Tryd.prog 48 #[.agg #[.int .i64 1, .string a, .string b, .string c, .string sep, .string ty, .slice A n cc, .int .i64 pl]] w fun e w' => e = .returned (.bool (goodB ⟨1, a, b, c, sep, ty, val, pl⟩)) ∧ Below w.heap.size w w' := by
  obtain ⟨e1, z1⟩ : ∃ e1, (sep.toList == []) = e1 := ⟨_, rfl⟩
  obtain ⟨e2, z2⟩ : ∃ e2, (ty.toList == []) = e2 := ⟨_, rfl⟩
  obtain ⟨e4, z4⟩ : ∃ e4, (c.toList == []) = e4 := ⟨_, rfl⟩
  obtain ⟨e3, z3⟩ : ∃ e3, ((n : Int) == 0) = e3 := ⟨_, rfl⟩
  have z3' : (n == 0) = e3 := by rw [← z3, Bool.eq_iff_iff, beq_iff_eq, beq_iff_eq]; omega
  have HNV : noV ⟨1, a, b, c, sep, ty, val, pl⟩ = e3 := by rw [← z3', hn, Bool.eq_iff_iff]; simp [noV]
  obtain ⟨nm, hnm⟩ : ∃ nm, nm = [a, ty].all nameB := ⟨_, rfl⟩
  obtain ⟨em, hem⟩ : ∃ em, em = [b, c, sep].all emB := ⟨_, rfl⟩
  have HGD : Aside0 (goodB ⟨1, a, b, c, sep, ty, val, pl⟩ = (nm && em)) := ⟨by
    rw [hnm, hem]; unfold goodB; simp only [HNV]; subst z1 z2 z4; rfl⟩
  have HNM := Aside0.mk (fun (w : World) (g n cg : Nat) (hg : w.heap[g]? = some (.cells #[.string a, .string ty] 9 (0, 0))) (hn : n = 2) => (show Calls Tryd.prog 47 #[.slice (some ⟨g, 0, none⟩) n cg] w fun e w' => e = .returned (.bool nm) ∧ Below w.heap.size w w' from by rw [hnm]; exact names_calls w g n cg [a, ty] hg hn (by omega)))
  have HEM := Aside0.mk (fun (w : World) (g n cg : Nat) (hg : w.heap[g]? = some (.cells #[.string b, .string c, .string sep] 9 (0, 0))) (hn : n = 3) => (show Calls Tryd.prog 85 #[.slice (some ⟨g, 0, none⟩) n cg] w fun e w' => e = .returned (.bool em) ∧ Below w.heap.size w w' from by rw [hem]; exact empty_calls w g n cg [b, c, sep] hg hn (by omega)))
  clear hnm hem
  obtain ⟨wA, hwA⟩ : ∃ wA, wA = w.alloc (.cells #[.int .i64 1, .string a, .string b, .string c, .string sep, .string ty, .slice A n cc, .int .i64 pl] 55) := ⟨_, rfl⟩
  have hbA : Below w.heap.size w wA := by rw [hwA]; exact below_alloc (Below.refl _ _) _
  have hxA : wA.heap[w.heap.size]? = some (.cells #[.int .i64 1, .string a, .string b, .string c, .string sep, .string ty, .slice A n cc, .int .i64 pl] 55 (0, 0)) := by rw [hwA]; exact blk_new _ _
  have HBA := Aside0.mk hbA
  have HXA := Aside0.mk hxA
  have HSZ : Aside0 (wA.heap.size = w.heap.size + 1) := ⟨by rw [hwA]; simp⟩
  have HE := Aside0.mk hwA
  clear hn HNV hwA hbA hxA
  go_enter Tryd.func48, Tryd.ntmps48
  cases e1 <;> cases e2 <;> cases e3 <;> cases e4
  all_goals
    go_wp2_with fail
    rw [← HE.out, ← HSZ.out]
    refine (HNM.out _ wA.heap.size 2 2 (blk_new _ _) rfl).mono ?_
    rintro e w1 ⟨rfl, hb1⟩
    have hb1' : Below wA.heap.size wA w1 := below_step (below_alloc (Below.refl _ _) _) hb1
    have HB1 := Aside0.mk (below_step HBA.out hb1')
    obtain ⟨y0, y1, y2, y3, y4, y5, y6, y7⟩ := box8 (blk_below HXA.out hb1')
    have HB1A := Aside0.mk hb1'
    clear hb1 hb1'
    cases nm
    · go_wp2
      go_ret
      exact ⟨by rw [HGD.out]; rfl, HB1.out⟩
    · go_wp2_with fail
      refine (HEM.out _ w1.heap.size 3 3 (blk_new _ _) rfl).mono ?_
      rintro e w2 ⟨rfl, hb2⟩
      have hb2' : Below w1.heap.size w1 w2 := below_step (below_alloc (Below.refl _ _) _) hb2
      have HB2 := Aside0.mk (below_step HB1.out hb2')
      have q6 := (box8 (blk_below (blk_below HXA.out HB1A.out) hb2')).2.2.2.2.2.2.1
      clear hb2 hb2'
      cases em
      · go_wp2
        go_ret
        exact ⟨by rw [HGD.out]; rfl, HB2.out⟩
      · go_wp2
        go_ret
        exact ⟨by rw [HGD.out]; rfl, HB2.out⟩
set_option maxHeartbeats 8000000 in
set_option maxRecDepth 100000 in
theorem good2 (w : World) (a b c sep ty : ByteArray) (A : Option Addr) (n cc : Nat) (pl : Int) (val : List Nd) (hn : n = val.length) :
    Calls Tryd.prog 48 #[.agg #[.int .i64 2, .string a, .string b, .string c, .string sep, .string ty, .slice A n cc, .int .i64 pl]] w fun e w' => e = .returned (.bool (goodB ⟨2, a, b, c, sep, ty, val, pl⟩)) ∧ Below w.heap.size w w' := by
  obtain ⟨e1, z1⟩ : ∃ e1, (sep.toList == []) = e1 := ⟨_, rfl⟩
  obtain ⟨e2, z2⟩ : ∃ e2, (ty.toList == []) = e2 := ⟨_, rfl⟩
  obtain ⟨e4, z4⟩ : ∃ e4, (c.toList == []) = e4 := ⟨_, rfl⟩
  obtain ⟨e3, z3⟩ : ∃ e3, ((n : Int) == 0) = e3 := ⟨_, rfl⟩
  have z3' : (n == 0) = e3 := by rw [← z3, Bool.eq_iff_iff, beq_iff_eq, beq_iff_eq]; omega
  have HNV : noV ⟨2, a, b, c, sep, ty, val, pl⟩ = e3 := by rw [← z3', hn, Bool.eq_iff_iff]; simp [noV]
  obtain ⟨nm, hnm⟩ : ∃ nm, nm = [a, b].all nameB := ⟨_, rfl⟩
  have HGD : Aside0 (goodB ⟨2, a, b, c, sep, ty, val, pl⟩ = ((nm && e4) && (e1 && e2 && e3))) := ⟨by
    rw [hnm]; unfold goodB; simp only [HNV]; subst z1 z2 z4; rfl⟩
  have HNM := Aside0.mk (fun (w : World) (g n cg : Nat) (hg : w.heap[g]? = some (.cells #[.string a, .string b] 9 (0, 0))) (hn : n = 2) => (show Calls Tryd.prog 47 #[.slice (some ⟨g, 0, none⟩) n cg] w fun e w' => e = .returned (.bool nm) ∧ Below w.heap.size w w' from by rw [hnm]; exact names_calls w g n cg [a, b] hg hn (by omega)))
  clear hnm
  obtain ⟨wA, hwA⟩ : ∃ wA, wA = w.alloc (.cells #[.int .i64 2, .string a, .string b, .string c, .string sep, .string ty, .slice A n cc, .int .i64 pl] 55) := ⟨_, rfl⟩
  have hbA : Below w.heap.size w wA := by rw [hwA]; exact below_alloc (Below.refl _ _) _
  have hxA : wA.heap[w.heap.size]? = some (.cells #[.int .i64 2, .string a, .string b, .string c, .string sep, .string ty, .slice A n cc, .int .i64 pl] 55 (0, 0)) := by rw [hwA]; exact blk_new _ _
  have HBA := Aside0.mk hbA
  have HXA := Aside0.mk hxA
  have HSZ : Aside0 (wA.heap.size = w.heap.size + 1) := ⟨by rw [hwA]; simp⟩
  have HE := Aside0.mk hwA
  clear hn HNV hwA hbA hxA
  go_enter Tryd.func48, Tryd.ntmps48
  cases e1 <;> cases e2 <;> cases e3 <;> cases e4
  all_goals
    go_wp2_with fail
    rw [← HE.out, ← HSZ.out]
    refine (HNM.out _ wA.heap.size 2 2 (blk_new _ _) rfl).mono ?_
    rintro e w1 ⟨rfl, hb1⟩
    have hb1' : Below wA.heap.size wA w1 := below_step (below_alloc (Below.refl _ _) _) hb1
    have HB1 := Aside0.mk (below_step HBA.out hb1')
    obtain ⟨y0, y1, y2, y3, y4, y5, y6, y7⟩ := box8 (blk_below HXA.out hb1')
    have HB1A := Aside0.mk hb1'
    clear hb1 hb1'
    cases nm
    · go_wp2
      go_ret
      exact ⟨by rw [HGD.out]; rfl, HB1.out⟩
    · go_wp2
      go_ret
      exact ⟨by rw [HGD.out]; rfl, HB1.out⟩
set_option maxHeartbeats 8000000 in
set_option maxRecDepth 100000 in
theorem good3 (w : World) (a b c sep ty : ByteArray) (A : Option Addr) (n cc : Nat) (pl : Int) (val : List Nd) (hn : n = val.length) :
    Calls Tryd.prog 48 #[.agg #[.int .i64 3, .string a, .string b, .string c, .string sep, .string ty, .slice A n cc, .int .i64 pl]] w fun e w' => e = .returned (.bool (goodB ⟨3, a, b, c, sep, ty, val, pl⟩)) ∧ Below w.heap.size w w' := by
  obtain ⟨e1, z1⟩ : ∃ e1, (sep.toList == []) = e1 := ⟨_, rfl⟩
  obtain ⟨e2, z2⟩ : ∃ e2, (ty.toList == []) = e2 := ⟨_, rfl⟩
  obtain ⟨e4, z4⟩ : ∃ e4, (c.toList == []) = e4 := ⟨_, rfl⟩
  obtain ⟨e3, z3⟩ : ∃ e3, ((n : Int) == 0) = e3 := ⟨_, rfl⟩
  have z3' : (n == 0) = e3 := by rw [← z3, Bool.eq_iff_iff, beq_iff_eq, beq_iff_eq]; omega
  have HNV : noV ⟨3, a, b, c, sep, ty, val, pl⟩ = e3 := by rw [← z3', hn, Bool.eq_iff_iff]; simp [noV]
  obtain ⟨nm, hnm⟩ : ∃ nm, nm = [a, b, c].all nameB := ⟨_, rfl⟩
  have HGD : Aside0 (goodB ⟨3, a, b, c, sep, ty, val, pl⟩ = ((nm && e2) && e3)) := ⟨by
    rw [hnm]; unfold goodB; simp only [HNV]; subst z1 z2 z4; rfl⟩
  have HNM := Aside0.mk (fun (w : World) (g n cg : Nat) (hg : w.heap[g]? = some (.cells #[.string a, .string b, .string c] 9 (0, 0))) (hn : n = 3) => (show Calls Tryd.prog 47 #[.slice (some ⟨g, 0, none⟩) n cg] w fun e w' => e = .returned (.bool nm) ∧ Below w.heap.size w w' from by rw [hnm]; exact names_calls w g n cg [a, b, c] hg hn (by omega)))
  clear hnm
  obtain ⟨wA, hwA⟩ : ∃ wA, wA = w.alloc (.cells #[.int .i64 3, .string a, .string b, .string c, .string sep, .string ty, .slice A n cc, .int .i64 pl] 55) := ⟨_, rfl⟩
  have hbA : Below w.heap.size w wA := by rw [hwA]; exact below_alloc (Below.refl _ _) _
  have hxA : wA.heap[w.heap.size]? = some (.cells #[.int .i64 3, .string a, .string b, .string c, .string sep, .string ty, .slice A n cc, .int .i64 pl] 55 (0, 0)) := by rw [hwA]; exact blk_new _ _
  have HBA := Aside0.mk hbA
  have HXA := Aside0.mk hxA
  have HSZ : Aside0 (wA.heap.size = w.heap.size + 1) := ⟨by rw [hwA]; simp⟩
  have HE := Aside0.mk hwA
  clear hn HNV hwA hbA hxA
  go_enter Tryd.func48, Tryd.ntmps48
  cases e1 <;> cases e2 <;> cases e3 <;> cases e4
  all_goals
    go_wp2_with fail
    rw [← HE.out, ← HSZ.out]
    refine (HNM.out _ wA.heap.size 3 3 (blk_new _ _) rfl).mono ?_
    rintro e w1 ⟨rfl, hb1⟩
    have hb1' : Below wA.heap.size wA w1 := below_step (below_alloc (Below.refl _ _) _) hb1
    have HB1 := Aside0.mk (below_step HBA.out hb1')
    obtain ⟨y0, y1, y2, y3, y4, y5, y6, y7⟩ := box8 (blk_below HXA.out hb1')
    have HB1A := Aside0.mk hb1'
    clear hb1 hb1'
    cases nm
    · go_wp2
      go_ret
      exact ⟨by rw [HGD.out]; rfl, HB1.out⟩
    · go_wp2
      go_ret
      exact ⟨by rw [HGD.out]; rfl, HB1.out⟩
set_option maxHeartbeats 8000000 in
set_option maxRecDepth 100000 in
theorem good4 (w : World) (a b c sep ty : ByteArray) (A : Option Addr) (n cc : Nat) (pl : Int) (val : List Nd) (hn : n = val.length) :
    Calls Tryd.prog 48 #[.agg #[.int .i64 4, .string a, .string b, .string c, .string sep, .string ty, .slice A n cc, .int .i64 pl]] w fun e w' => e = .returned (.bool (goodB ⟨4, a, b, c, sep, ty, val, pl⟩)) ∧ Below w.heap.size w w' := by
  obtain ⟨e1, z1⟩ : ∃ e1, (sep.toList == []) = e1 := ⟨_, rfl⟩
  obtain ⟨e2, z2⟩ : ∃ e2, (ty.toList == []) = e2 := ⟨_, rfl⟩
  obtain ⟨e4, z4⟩ : ∃ e4, (c.toList == []) = e4 := ⟨_, rfl⟩
  obtain ⟨e3, z3⟩ : ∃ e3, ((n : Int) == 0) = e3 := ⟨_, rfl⟩
  have z3' : (n == 0) = e3 := by rw [← z3, Bool.eq_iff_iff, beq_iff_eq, beq_iff_eq]; omega
  have HNV : noV ⟨4, a, b, c, sep, ty, val, pl⟩ = e3 := by rw [← z3', hn, Bool.eq_iff_iff]; simp [noV]
  obtain ⟨nm, hnm⟩ : ∃ nm, nm = [a, b, c].all nameB := ⟨_, rfl⟩
  have HGD : Aside0 (goodB ⟨4, a, b, c, sep, ty, val, pl⟩ = ((nm && e2) && e3)) := ⟨by
    rw [hnm]; unfold goodB; simp only [HNV]; subst z1 z2 z4; rfl⟩
  have HNM := Aside0.mk (fun (w : World) (g n cg : Nat) (hg : w.heap[g]? = some (.cells #[.string a, .string b, .string c] 9 (0, 0))) (hn : n = 3) => (show Calls Tryd.prog 47 #[.slice (some ⟨g, 0, none⟩) n cg] w fun e w' => e = .returned (.bool nm) ∧ Below w.heap.size w w' from by rw [hnm]; exact names_calls w g n cg [a, b, c] hg hn (by omega)))
  clear hnm
  obtain ⟨wA, hwA⟩ : ∃ wA, wA = w.alloc (.cells #[.int .i64 4, .string a, .string b, .string c, .string sep, .string ty, .slice A n cc, .int .i64 pl] 55) := ⟨_, rfl⟩
  have hbA : Below w.heap.size w wA := by rw [hwA]; exact below_alloc (Below.refl _ _) _
  have hxA : wA.heap[w.heap.size]? = some (.cells #[.int .i64 4, .string a, .string b, .string c, .string sep, .string ty, .slice A n cc, .int .i64 pl] 55 (0, 0)) := by rw [hwA]; exact blk_new _ _
  have HBA := Aside0.mk hbA
  have HXA := Aside0.mk hxA
  have HSZ : Aside0 (wA.heap.size = w.heap.size + 1) := ⟨by rw [hwA]; simp⟩
  have HE := Aside0.mk hwA
  clear hn HNV hwA hbA hxA
  go_enter Tryd.func48, Tryd.ntmps48
  cases e1 <;> cases e2 <;> cases e3 <;> cases e4
  all_goals
    go_wp2_with fail
    rw [← HE.out, ← HSZ.out]
    refine (HNM.out _ wA.heap.size 3 3 (blk_new _ _) rfl).mono ?_
    rintro e w1 ⟨rfl, hb1⟩
    have hb1' : Below wA.heap.size wA w1 := below_step (below_alloc (Below.refl _ _) _) hb1
    have HB1 := Aside0.mk (below_step HBA.out hb1')
    obtain ⟨y0, y1, y2, y3, y4, y5, y6, y7⟩ := box8 (blk_below HXA.out hb1')
    have HB1A := Aside0.mk hb1'
    clear hb1 hb1'
    cases nm
    · go_wp2
      go_ret
      exact ⟨by rw [HGD.out]; rfl, HB1.out⟩
    · go_wp2
      go_ret
      exact ⟨by rw [HGD.out]; rfl, HB1.out⟩
set_option maxHeartbeats 8000000 in
set_option maxRecDepth 100000 in
theorem good5 (w : World) (a b c sep ty : ByteArray) (A : Option Addr) (n cc : Nat) (pl : Int) (val : List Nd) (hn : n = val.length) :
    Calls Tryd.prog 48 #[.agg #[.int .i64 5, .string a, .string b, .string c, .string sep, .string ty, .slice A n cc, .int .i64 pl]] w fun e w' => e = .returned (.bool (goodB ⟨5, a, b, c, sep, ty, val, pl⟩)) ∧ Below w.heap.size w w' := by
  obtain ⟨e1, z1⟩ : ∃ e1, (sep.toList == []) = e1 := ⟨_, rfl⟩
  obtain ⟨e2, z2⟩ : ∃ e2, (ty.toList == []) = e2 := ⟨_, rfl⟩
  obtain ⟨e4, z4⟩ : ∃ e4, (c.toList == []) = e4 := ⟨_, rfl⟩
  obtain ⟨e3, z3⟩ : ∃ e3, ((n : Int) == 0) = e3 := ⟨_, rfl⟩
  have z3' : (n == 0) = e3 := by rw [← z3, Bool.eq_iff_iff, beq_iff_eq, beq_iff_eq]; omega
  have HNV : noV ⟨5, a, b, c, sep, ty, val, pl⟩ = e3 := by rw [← z3', hn, Bool.eq_iff_iff]; simp [noV]
  obtain ⟨nm, hnm⟩ : ∃ nm, nm = [a, ty].all nameB := ⟨_, rfl⟩
  obtain ⟨em, hem⟩ : ∃ em, em = [b, c, sep].all emB := ⟨_, rfl⟩
  have HGD : Aside0 (goodB ⟨5, a, b, c, sep, ty, val, pl⟩ = ((nm && em) && e3)) := ⟨by
    rw [hnm, hem]; unfold goodB; simp only [HNV]; subst z1 z2 z4; rfl⟩
  have HNM := Aside0.mk (fun (w : World) (g n cg : Nat) (hg : w.heap[g]? = some (.cells #[.string a, .string ty] 9 (0, 0))) (hn : n = 2) => (show Calls Tryd.prog 47 #[.slice (some ⟨g, 0, none⟩) n cg] w fun e w' => e = .returned (.bool nm) ∧ Below w.heap.size w w' from by rw [hnm]; exact names_calls w g n cg [a, ty] hg hn (by omega)))
  have HEM := Aside0.mk (fun (w : World) (g n cg : Nat) (hg : w.heap[g]? = some (.cells #[.string b, .string c, .string sep] 9 (0, 0))) (hn : n = 3) => (show Calls Tryd.prog 85 #[.slice (some ⟨g, 0, none⟩) n cg] w fun e w' => e = .returned (.bool em) ∧ Below w.heap.size w w' from by rw [hem]; exact empty_calls w g n cg [b, c, sep] hg hn (by omega)))
  clear hnm hem
  obtain ⟨wA, hwA⟩ : ∃ wA, wA = w.alloc (.cells #[.int .i64 5, .string a, .string b, .string c, .string sep, .string ty, .slice A n cc, .int .i64 pl] 55) := ⟨_, rfl⟩
  have hbA : Below w.heap.size w wA := by rw [hwA]; exact below_alloc (Below.refl _ _) _
  have hxA : wA.heap[w.heap.size]? = some (.cells #[.int .i64 5, .string a, .string b, .string c, .string sep, .string ty, .slice A n cc, .int .i64 pl] 55 (0, 0)) := by rw [hwA]; exact blk_new _ _
  have HBA := Aside0.mk hbA
  have HXA := Aside0.mk hxA
  have HSZ : Aside0 (wA.heap.size = w.heap.size + 1) := ⟨by rw [hwA]; simp⟩
  have HE := Aside0.mk hwA
  clear hn HNV hwA hbA hxA
  go_enter Tryd.func48, Tryd.ntmps48
  cases e1 <;> cases e2 <;> cases e3 <;> cases e4
  all_goals
    go_wp2_with fail
    rw [← HE.out, ← HSZ.out]
    refine (HNM.out _ wA.heap.size 2 2 (blk_new _ _) rfl).mono ?_
    rintro e w1 ⟨rfl, hb1⟩
    have hb1' : Below wA.heap.size wA w1 := below_step (below_alloc (Below.refl _ _) _) hb1
    have HB1 := Aside0.mk (below_step HBA.out hb1')
    obtain ⟨y0, y1, y2, y3, y4, y5, y6, y7⟩ := box8 (blk_below HXA.out hb1')
    have HB1A := Aside0.mk hb1'
    clear hb1 hb1'
    cases nm
    · go_wp2
      go_ret
      exact ⟨by rw [HGD.out]; rfl, HB1.out⟩
    · go_wp2_with fail
      refine (HEM.out _ w1.heap.size 3 3 (blk_new _ _) rfl).mono ?_
      rintro e w2 ⟨rfl, hb2⟩
      have hb2' : Below w1.heap.size w1 w2 := below_step (below_alloc (Below.refl _ _) _) hb2
      have HB2 := Aside0.mk (below_step HB1.out hb2')
      have q6 := (box8 (blk_below (blk_below HXA.out HB1A.out) hb2')).2.2.2.2.2.2.1
      clear hb2 hb2'
      cases em
      · go_wp2
        go_ret
        exact ⟨by rw [HGD.out]; rfl, HB2.out⟩
      · go_wp2
        go_ret
        exact ⟨by rw [HGD.out]; rfl, HB2.out⟩
set_option maxHeartbeats 8000000 in
set_option maxRecDepth 100000 in
theorem good6 (w : World) (a b c sep ty : ByteArray) (A : Option Addr) (n cc : Nat) (pl : Int) (val : List Nd) (hn : n = val.length) :
    Calls Tryd.prog 48 #[.agg #[.int .i64 6, .string a, .string b, .string c, .string sep, .string ty, .slice A n cc, .int .i64 pl]] w fun e w' => e = .returned (.bool (goodB ⟨6, a, b, c, sep, ty, val, pl⟩)) ∧ Below w.heap.size w w' := by
  obtain ⟨e1, z1⟩ : ∃ e1, (sep.toList == []) = e1 := ⟨_, rfl⟩
  obtain ⟨e2, z2⟩ : ∃ e2, (ty.toList == []) = e2 := ⟨_, rfl⟩
  obtain ⟨e4, z4⟩ : ∃ e4, (c.toList == []) = e4 := ⟨_, rfl⟩
  obtain ⟨e3, z3⟩ : ∃ e3, ((n : Int) == 0) = e3 := ⟨_, rfl⟩
  have z3' : (n == 0) = e3 := by rw [← z3, Bool.eq_iff_iff, beq_iff_eq, beq_iff_eq]; omega
  have HNV : noV ⟨6, a, b, c, sep, ty, val, pl⟩ = e3 := by rw [← z3', hn, Bool.eq_iff_iff]; simp [noV]
  obtain ⟨nm, hnm⟩ : ∃ nm, nm = [a].all nameB := ⟨_, rfl⟩
  obtain ⟨em, hem⟩ : ∃ em, em = [b, c].all emB := ⟨_, rfl⟩
  have HGD : Aside0 (goodB ⟨6, a, b, c, sep, ty, val, pl⟩ = ((nm && em) && (e1 && e2 && e3))) := ⟨by
    rw [hnm, hem]; unfold goodB; simp only [HNV]; subst z1 z2 z4; rfl⟩
  have HNM := Aside0.mk (fun (w : World) (g n cg : Nat) (hg : w.heap[g]? = some (.cells #[.string a] 9 (0, 0))) (hn : n = 1) => (show Calls Tryd.prog 47 #[.slice (some ⟨g, 0, none⟩) n cg] w fun e w' => e = .returned (.bool nm) ∧ Below w.heap.size w w' from by rw [hnm]; exact names_calls w g n cg [a] hg hn (by omega)))
  have HEM := Aside0.mk (fun (w : World) (g n cg : Nat) (hg : w.heap[g]? = some (.cells #[.string b, .string c] 9 (0, 0))) (hn : n = 2) => (show Calls Tryd.prog 85 #[.slice (some ⟨g, 0, none⟩) n cg] w fun e w' => e = .returned (.bool em) ∧ Below w.heap.size w w' from by rw [hem]; exact empty_calls w g n cg [b, c] hg hn (by omega)))
  clear hnm hem
  obtain ⟨wA, hwA⟩ : ∃ wA, wA = w.alloc (.cells #[.int .i64 6, .string a, .string b, .string c, .string sep, .string ty, .slice A n cc, .int .i64 pl] 55) := ⟨_, rfl⟩
  have hbA : Below w.heap.size w wA := by rw [hwA]; exact below_alloc (Below.refl _ _) _
  have hxA : wA.heap[w.heap.size]? = some (.cells #[.int .i64 6, .string a, .string b, .string c, .string sep, .string ty, .slice A n cc, .int .i64 pl] 55 (0, 0)) := by rw [hwA]; exact blk_new _ _
  have HBA := Aside0.mk hbA
  have HXA := Aside0.mk hxA
  have HSZ : Aside0 (wA.heap.size = w.heap.size + 1) := ⟨by rw [hwA]; simp⟩
  have HE := Aside0.mk hwA
  clear hn HNV hwA hbA hxA
  go_enter Tryd.func48, Tryd.ntmps48
  cases e1 <;> cases e2 <;> cases e3 <;> cases e4
  all_goals
    go_wp2_with fail
    rw [← HE.out, ← HSZ.out]
    refine (HNM.out _ wA.heap.size 1 1 (blk_new _ _) rfl).mono ?_
    rintro e w1 ⟨rfl, hb1⟩
    have hb1' : Below wA.heap.size wA w1 := below_step (below_alloc (Below.refl _ _) _) hb1
    have HB1 := Aside0.mk (below_step HBA.out hb1')
    obtain ⟨y0, y1, y2, y3, y4, y5, y6, y7⟩ := box8 (blk_below HXA.out hb1')
    have HB1A := Aside0.mk hb1'
    clear hb1 hb1'
    cases nm
    · go_wp2
      go_ret
      exact ⟨by rw [HGD.out]; rfl, HB1.out⟩
    · go_wp2_with fail
      refine (HEM.out _ w1.heap.size 2 2 (blk_new _ _) rfl).mono ?_
      rintro e w2 ⟨rfl, hb2⟩
      have hb2' : Below w1.heap.size w1 w2 := below_step (below_alloc (Below.refl _ _) _) hb2
      have HB2 := Aside0.mk (below_step HB1.out hb2')
      have q6 := (box8 (blk_below (blk_below HXA.out HB1A.out) hb2')).2.2.2.2.2.2.1
      clear hb2 hb2'
      cases em
      · go_wp2
        go_ret
        exact ⟨by rw [HGD.out]; rfl, HB2.out⟩
      · go_wp2
        go_ret
        exact ⟨by rw [HGD.out]; rfl, HB2.out⟩
set_option maxHeartbeats 8000000 in
set_option maxRecDepth 100000 in
theorem good0 (w : World) (k : Int) (a b c sep ty : ByteArray) (A : Option Addr) (n cc : Nat) (pl : Int) (val : List Nd) (hn : n = val.length) (hk : k ≠ 1 ∧ k ≠ 2 ∧ k ≠ 3 ∧ k ≠ 4 ∧ k ≠ 5 ∧ k ≠ 6) :
    Calls Tryd.prog 48 #[.agg #[.int .i64 k, .string a, .string b, .string c, .string sep, .string ty, .slice A n cc, .int .i64 pl]] w fun e w' => e = .returned (.bool (goodB ⟨k, a, b, c, sep, ty, val, pl⟩)) ∧ Below w.heap.size w w' := by
  obtain ⟨e1, z1⟩ : ∃ e1, (sep.toList == []) = e1 := ⟨_, rfl⟩
  obtain ⟨e2, z2⟩ : ∃ e2, (ty.toList == []) = e2 := ⟨_, rfl⟩
  obtain ⟨e4, z4⟩ : ∃ e4, (c.toList == []) = e4 := ⟨_, rfl⟩
  obtain ⟨e3, z3⟩ : ∃ e3, ((n : Int) == 0) = e3 := ⟨_, rfl⟩
  have z3' : (n == 0) = e3 := by rw [← z3, Bool.eq_iff_iff, beq_iff_eq, beq_iff_eq]; omega
  have HNV : noV ⟨k, a, b, c, sep, ty, val, pl⟩ = e3 := by rw [← z3', hn, Bool.eq_iff_iff]; simp [noV]
  have HGD : Aside0 (goodB ⟨k, a, b, c, sep, ty, val, pl⟩ = false) := ⟨by
    unfold goodB; rw [if_neg hk.1, if_neg hk.2.1, if_neg (fun h => h.elim hk.2.2.1 hk.2.2.2.1), if_neg hk.2.2.2.2.1, if_neg hk.2.2.2.2.2]⟩
  have k1 : (k == 1) = false := beq_eq_false_iff_ne.2 hk.1
  have k2 : (k == 2) = false := beq_eq_false_iff_ne.2 hk.2.1
  have k3 : (k == 3) = false := beq_eq_false_iff_ne.2 hk.2.2.1
  have k4 : (k == 4) = false := beq_eq_false_iff_ne.2 hk.2.2.2.1
  have k5 : (k == 5) = false := beq_eq_false_iff_ne.2 hk.2.2.2.2.1
  have k6 : (k == 6) = false := beq_eq_false_iff_ne.2 hk.2.2.2.2.2
  clear hk
  obtain ⟨wA, hwA⟩ : ∃ wA, wA = w.alloc (.cells #[.int .i64 k, .string a, .string b, .string c, .string sep, .string ty, .slice A n cc, .int .i64 pl] 55) := ⟨_, rfl⟩
  have hbA : Below w.heap.size w wA := by rw [hwA]; exact below_alloc (Below.refl _ _) _
  have hxA : wA.heap[w.heap.size]? = some (.cells #[.int .i64 k, .string a, .string b, .string c, .string sep, .string ty, .slice A n cc, .int .i64 pl] 55 (0, 0)) := by rw [hwA]; exact blk_new _ _
  have HBA := Aside0.mk hbA
  have HXA := Aside0.mk hxA
  have HSZ : Aside0 (wA.heap.size = w.heap.size + 1) := ⟨by rw [hwA]; simp⟩
  have HE := Aside0.mk hwA
  clear hn HNV hwA hbA hxA
  go_enter Tryd.func48, Tryd.ntmps48
  cases e1 <;> cases e2 <;> cases e3
  all_goals
    go_wp2
    go_ret
    exact ⟨by rw [HGD.out]; rfl, by rw [← HE.out]; exact HBA.out⟩
theorem good_calls (w : World) (k : Int) (a b c sep ty : ByteArray) (A : Option Addr) (n cc : Nat) (pl : Int) (val : List Nd) (hn : n = val.length) :
    Calls Tryd.prog 48 #[.agg #[.int .i64 k, .string a, .string b, .string c, .string sep, .string ty, .slice A n cc, .int .i64 pl]] w fun e w' => e = .returned (.bool (goodB ⟨k, a, b, c, sep, ty, val, pl⟩)) ∧ Below w.heap.size w w' := by
  by_cases h1 : k = 1
  · subst h1; exact good1 w a b c sep ty A n cc pl val hn
  by_cases h2 : k = 2
  · subst h2; exact good2 w a b c sep ty A n cc pl val hn
  by_cases h3 : k = 3
  · subst h3; exact good3 w a b c sep ty A n cc pl val hn
  by_cases h4 : k = 4
  · subst h4; exact good4 w a b c sep ty A n cc pl val hn
  by_cases h5 : k = 5
  · subst h5; exact good5 w a b c sep ty A n cc pl val hn
  by_cases h6 : k = 6
  · subst h6; exact good6 w a b c sep ty A n cc pl val hn
  exact good0 w k a b c sep ty A n cc pl val hn ⟨h1, h2, h3, h4, h5, h6⟩
end Go.Proofs.YtaijoghpfobdbaaDoor.W
end
section
set_option linter.unusedVariables false
set_option linter.unusedSimpArgs false
namespace Go.Proofs.YtaijoghpfobdbaaDoor.W
open Go.RowKit Go.Proofs.YtaijoghpfobdbaaDoor.X Go.Proofs.YtaijoghpfobdbaaDoorW.PrintWords Go.Proofs.YtaijoghpfobdbaaDoorW.PrintLast Go.Proofs.YtaijoghpfobdbaaDoorW.PrintMore
open Go.Proofs.YtaijoghpfobdbaaDoor.P (Tr Nd Wrote puts put fin kv kd sg build dep dmx pile judgeE tx txs txN sepL WF StD VeD EvD wordB nameB emB noV goodB wordList wrs stE allE veE evE wholeE)
def kS : Kd StD := Kd.iso (Kd.pair (Kd.int .i64) (Kd.pair Kd.string (Kd.pair Kd.string (Kd.pair Kd.string (Kd.pair Kd.string (Kd.pair Kd.string (Kd.pair (Kd.slice 46 k46) (Kd.int .i64)))))))) (fun x : StD => (x.k, x.a, x.b, x.c, x.sep, x.ty, x.val, x.pl))
def kV : Kd VeD := Kd.iso (Kd.pair (Kd.int .u64) (Kd.pair (Kd.slice 55 kS) (Kd.int .i64))) (fun x : VeD => (x.num, x.steps, x.pl))
def kE : Kd EvD := Kd.iso (Kd.pair Kd.string (Kd.pair (Kd.slice 53 kV) (Kd.int .i64))) (fun x : EvD => (x.name, x.vers, x.pl))
theorem kS_open {w : World} {x : StD} {cs : List Value} (h : kS.K w x cs) : ∃ A c, cs = [.int .i64 x.k, .string x.a, .string x.b, .string x.c, .string x.sep, .string x.ty, .slice A x.val.length c, .int .i64 x.pl] ∧ Kd.C k46 w A x.val.length x.val := by
  obtain ⟨_, _, rfl, rfl, ⟨_, _, rfl, rfl, ⟨_, _, rfl, rfl, ⟨_, _, rfl, rfl, ⟨_, _, rfl, rfl, ⟨_, _, rfl, rfl, ⟨_, _, rfl, ⟨A, c, rfl, hc, hC⟩, rfl⟩⟩⟩⟩⟩⟩⟩ := h
  exact ⟨A, c, rfl, hC⟩
theorem kV_open {w : World} {x : VeD} {cs : List Value} (h : kV.K w x cs) : ∃ A c, cs = [.int .u64 x.num, .slice A x.steps.length c, .int .i64 x.pl] ∧ Kd.C kS w A x.steps.length x.steps := by
  obtain ⟨_, _, rfl, rfl, ⟨_, _, rfl, ⟨A, c, rfl, hc, hC⟩, rfl⟩⟩ := h
  exact ⟨A, c, rfl, hC⟩
theorem kE_open {w : World} {x : EvD} {cs : List Value} (h : kE.K w x cs) : ∃ A c, cs = [.string x.name, .slice A x.vers.length c, .int .i64 x.pl] ∧ Kd.C kV w A x.vers.length x.vers := by
  obtain ⟨_, _, rfl, rfl, ⟨_, _, rfl, ⟨A, c, rfl, hc, hC⟩, rfl⟩⟩ := h
  exact ⟨A, c, rfl, hC⟩
section
variable {w : World} {A : Option Addr}
theorem at_E {xs : List EvD} (h : Kd.C kE w A xs.length xs) (i : Nat) (hi : i < xs.length) : ∃ ad B c, A = some ad ∧ w.cell? (ad.add (i * 3)) = some (.string xs[i].name) ∧ w.cell? ⟨(ad.add (i * 3)).block, (ad.add (i * 3)).off + 1, none⟩ = some (.slice B xs[i].vers.length c) ∧ w.cell? ⟨(ad.add (i * 3)).block, (ad.add (i * 3)).off + 2, none⟩ = some (.int .i64 xs[i].pl) ∧ Kd.C kV w B xs[i].vers.length xs[i].vers := by
  obtain ⟨ad, cs, e, _, hK, hc0⟩ := Kd.C_get h xs[i] (i : Int) (by omega) (by omega)
  rw [Int.toNat_natCast] at hK hc0
  rw [List.getD_eq_getElem?_getD, List.getElem?_eq_getElem hi, Option.getD_some] at hK
  have hc : ∀ j u, cs[j]? = some u → w.cell? (ad.add (i * 3 + j)) = some u := hc0
  obtain ⟨B, c, rfl, hC⟩ := kE_open hK
  exact ⟨ad, B, c, e, hc 0 _ rfl, by rw [← add_field _ _ 1 (by omega)]; exact hc 1 _ rfl, by rw [← add_field _ _ 2 (by omega)]; exact hc 2 _ rfl, hC⟩
theorem at_V {xs : List VeD} (h : Kd.C kV w A xs.length xs) (i : Nat) (hi : i < xs.length) : ∃ ad B c, A = some ad ∧ w.cell? (ad.add (i * 3)) = some (.int .u64 xs[i].num) ∧ w.cell? ⟨(ad.add (i * 3)).block, (ad.add (i * 3)).off + 1, none⟩ = some (.slice B xs[i].steps.length c) ∧ w.cell? ⟨(ad.add (i * 3)).block, (ad.add (i * 3)).off + 2, none⟩ = some (.int .i64 xs[i].pl) ∧ Kd.C kS w B xs[i].steps.length xs[i].steps := by
  obtain ⟨ad, cs, e, _, hK, hc0⟩ := Kd.C_get h xs[i] (i : Int) (by omega) (by omega)
  rw [Int.toNat_natCast] at hK hc0
  rw [List.getD_eq_getElem?_getD, List.getElem?_eq_getElem hi, Option.getD_some] at hK
  have hc : ∀ j u, cs[j]? = some u → w.cell? (ad.add (i * 3 + j)) = some u := hc0
  obtain ⟨B, c, rfl, hC⟩ := kV_open hK
  exact ⟨ad, B, c, e, hc 0 _ rfl, by rw [← add_field _ _ 1 (by omega)]; exact hc 1 _ rfl, by rw [← add_field _ _ 2 (by omega)]; exact hc 2 _ rfl, hC⟩
theorem at_S {xs : List StD} (h : Kd.C kS w A xs.length xs) (i : Nat) (hi : i < xs.length) : ∃ ad B c, A = some ad ∧ w.cell? (ad.add (i * 8)) = some (.int .i64 xs[i].k) ∧ w.cell? ⟨(ad.add (i * 8)).block, (ad.add (i * 8)).off + 1, none⟩ = some (.string xs[i].a) ∧ w.cell? ⟨(ad.add (i * 8)).block, (ad.add (i * 8)).off + 2, none⟩ = some (.string xs[i].b) ∧ w.cell? ⟨(ad.add (i * 8)).block, (ad.add (i * 8)).off + 3, none⟩ = some (.string xs[i].c) ∧ w.cell? ⟨(ad.add (i * 8)).block, (ad.add (i * 8)).off + 4, none⟩ = some (.string xs[i].sep) ∧ w.cell? ⟨(ad.add (i * 8)).block, (ad.add (i * 8)).off + 5, none⟩ = some (.string xs[i].ty) ∧ w.cell? ⟨(ad.add (i * 8)).block, (ad.add (i * 8)).off + 6, none⟩ = some (.slice B xs[i].val.length c) ∧ w.cell? ⟨(ad.add (i * 8)).block, (ad.add (i * 8)).off + 7, none⟩ = some (.int .i64 xs[i].pl) ∧ Kd.C k46 w B xs[i].val.length xs[i].val := by
  obtain ⟨ad, cs, e, _, hK, hc0⟩ := Kd.C_get h xs[i] (i : Int) (by omega) (by omega)
  rw [Int.toNat_natCast] at hK hc0
  rw [List.getD_eq_getElem?_getD, List.getElem?_eq_getElem hi, Option.getD_some] at hK
  have hc : ∀ j u, cs[j]? = some u → w.cell? (ad.add (i * 8 + j)) = some u := hc0
  obtain ⟨B, c, rfl, hC⟩ := kS_open hK
  exact ⟨ad, B, c, e, hc 0 _ rfl, by rw [← add_field _ _ 1 (by omega)]; exact hc 1 _ rfl, by rw [← add_field _ _ 2 (by omega)]; exact hc 2 _ rfl, by rw [← add_field _ _ 3 (by omega)]; exact hc 3 _ rfl, by rw [← add_field _ _ 4 (by omega)]; exact hc 4 _ rfl, by rw [← add_field _ _ 5 (by omega)]; exact hc 5 _ rfl, by rw [← add_field _ _ 6 (by omega)]; exact hc 6 _ rfl, by rw [← add_field _ _ 7 (by omega)]; exact hc 7 _ rfl, hC⟩
end
theorem wrs_assoc (a b c : Int) : wrs (wrs a b) c = wrs a (wrs b c) := by
  unfold wrs
  by_cases a1 : a = 1 <;> by_cases b1 : b = 1 <;> by_cases c1 : c = 1 <;> by_cases a9 : a = 91 <;> by_cases b9 : b = 91 <;> by_cases c9 : c = 91 <;> simp [a1, b1, c1, a9, b9, c9]
theorem wrs_nil {a : Int} (h : P.okE a) : wrs a 0 = a := by
  unfold wrs
  rcases h with rfl | rfl | rfl <;> rfl
def BdE (es : List EvD) : Prop := ∀ e, e ∈ es → ∀ v, v ∈ e.vers → ∀ d, d ∈ v.steps → d.val.length ≤ 1099511627776
set_option maxHeartbeats 8000000 in
set_option maxRecDepth 100000 in
theorem whole_calls (w : World) (A : Option Addr) (c : Nat) (es : List EvD) (hC : Kd.C kE w A es.length es) (hbd : BdE es) :
    Calls Tryd.prog 24 #[.agg #[.slice A es.length c]] w fun e w' => e = .returned (.int .i64 (wholeE es)) ∧ Below w.heap.size w w' := by
  obtain ⟨w0, hw0⟩ : ∃ w0, w0 = w.alloc (.cells #[.slice A es.length c] 24) := ⟨_, rfl⟩
  have hB0 : Below w.heap.size w w0 := by rw [hw0]; exact below_alloc (Below.refl _ _) _
  have HC := Aside0.mk hC
  have HBD := Aside0.mk hbd
  have HB0 := Aside0.mk hB0
  have HE0 := Aside0.mk hw0
  have HM := Aside0.mk hC.2.1
  clear hC hbd hB0 hw0
  go_enter Tryd.func24, Tryd.ntmps24
  go_wp2
  rw [← HE0.out]
  go_loopw [3, 13] (fun t3 ti wr => ∃ (i : Nat) (x : Int), ti = .int .i64 (i : Int) ∧ t3 = .int .i64 x ∧ Aside0 (i ≤ es.length) ∧ Aside0 (x = allE evE (es.take i) ∧ x ≠ 1) ∧ Aside0 (Below w.heap.size w wr)) (fun _ ti _ => es.length - left ti)
  case atStart => exact ⟨0, 0, rfl, rfl, ⟨Nat.zero_le _⟩, ⟨rfl, by decide⟩, HB0⟩
  case round =>
    obtain ⟨i, x, rfl, rfl, hi, HX, HB⟩ := hrel
    by_cases ci : i < es.length
    · have c1 : decide ((i : Int) < (es.length : Int)) = true := decide_eq_true (by omega)
      have c2 : decide (i < es.length) = true := decide_eq_true ci
      obtain ⟨ad, Bv, cv, rfl, hx0, hx1, hx2, hCv⟩ := at_E (Kd.C_below HC.out HB.out) i ci
      have HI := Aside0.mk ci
      have HNX := Aside0.mk (P.allE_next evE es i ci)
      have HBA := Aside0.mk (fun h => P.allE_bad evE es i ci h)
      have HBD1 := Aside0.mk (HBD.out es[i] (List.getElem_mem ci))
      obtain ⟨ev, hev⟩ : ∃ ev, ev = es[i] := ⟨_, rfl⟩
      rw [← hev] at hx0 hx1 hx2 hCv HNX HBA HBD1
      clear hev
      have HCV := Aside0.mk hCv
      obtain ⟨w1, hw1⟩ : ∃ w1, w1 = wr.alloc (.cells #[.string ev.name, .slice Bv ev.vers.length cv, .int .i64 ev.pl] 50) := ⟨_, rfl⟩
      have hb1 : Below wr.heap.size wr w1 := by rw [hw1]; exact below_alloc (Below.refl _ _) _
      obtain ⟨b1, hbq⟩ : ∃ b1, b1 = wr.heap.size := ⟨_, rfl⟩
      have HX1 := Aside0.mk (show w1.heap[b1]? = some (.cells #[.string ev.name, .slice Bv ev.vers.length cv, .int .i64 ev.pl] 50 (0, 0)) from by rw [hw1, hbq]; exact blk_new _ _)
      have HS1 : Aside0 (w1.heap.size = b1 + 1) := ⟨by rw [hw1, hbq]; simp⟩
      have HB1 := Aside0.mk (below_step HB.out hb1)
      have HCV1 := Aside0.mk (Kd.C_below hCv hb1)
      have HE1 := Aside0.mk hw1
      clear hw1 hb1 hCv
      go_wp2_with fail
      rw [← HE1.out, ← hbq, ← HS1.out]
      clear hbq
      obtain ⟨nb, hnb⟩ : ∃ nb, nb = [ev.name].all nameB := ⟨_, rfl⟩
      have hnc := names_calls (w1.alloc (.cells #[.string ev.name] 9)) w1.heap.size 1 1 [ev.name] (blk_new _ _) rfl (by decide)
      rw [← hnb] at hnc
      have HNB : Aside0 (nameB ev.name = nb) := ⟨by rw [hnb]; simp⟩
      refine hnc.mono ?_
      rintro e w2 ⟨rfl, hb2⟩
      have hb2' : Below w1.heap.size w1 w2 := below_step (below_alloc (Below.refl _ _) _) hb2
      have HB2 := Aside0.mk (below_step HB1.out hb2')
      have HX2 := Aside0.mk (blk_below HX1.out hb2')
      have HCV2 := Aside0.mk (Kd.C_below HCV1.out hb2')
      have y0 := (blk_cell HX2.out 0).trans rfl
      have y1 := (blk_cell HX2.out 1).trans rfl
      have y2 := (blk_cell HX2.out 2).trans rfl
      clear hb2 hb2' hnc hnb hx0 hx1 hx2
      cases nb with
      | false =>
        have HBAD : Aside0 (wholeE es = 1) := ⟨HBA.out (by unfold evE; rw [if_neg (fun h => by rw [HNB.out] at h; cases h.1)])⟩
        go_wp2
        go_ret
        exact ⟨by rw [HBAD.out]; rfl, HB2.out⟩
      | true =>
        by_cases cz : ev.vers.length = 0
        · have z1 : ((ev.vers.length : Int) == 0) = true := by rw [beq_iff_eq]; omega
          have z2 : (ev.vers.length == 0) = true := beq_iff_eq.2 cz
          have HBAD : Aside0 (wholeE es = 1) := ⟨HBA.out (by unfold evE; rw [if_neg (fun h => h.2 cz)])⟩
          clear cz
          go_wp2
          go_ret
          exact ⟨by rw [HBAD.out]; rfl, HB2.out⟩
        have z1 : ((ev.vers.length : Int) == 0) = false := by rw [beq_eq_false_iff_ne]; omega
        have z2 : (ev.vers.length == 0) = false := beq_eq_false_iff_ne.2 cz
        have HEV : Aside0 (evE ev = allE veE ev.vers) := ⟨by unfold evE; rw [if_pos ⟨HNB.out, cz⟩]⟩
        clear cz
        have HXE : Aside0 (P.okE x) := ⟨by rw [HX.out.1]; exact P.allE_ok _ _⟩
        have HMV := Aside0.mk HCV2.out.2.1
        obtain ⟨wQ, hwQ⟩ : ∃ wQ, wQ = w2 := ⟨_, rfl⟩
        go_wp2
        go_loopw [3, 31] (fun t3 ti wr => ∃ (k : Nat) (x2 : Int), ti = .int .i64 (k : Int) ∧ t3 = .int .i64 x2 ∧ Aside0 (k ≤ ev.vers.length) ∧ Aside0 (x2 = wrs x (allE veE (ev.vers.take k)) ∧ x2 ≠ 1) ∧ Aside0 (Below w2.heap.size w2 wr)) (fun _ ti _ => ev.vers.length - left ti)
        case atStart => exact ⟨0, x, rfl, rfl, ⟨Nat.zero_le _⟩, ⟨(wrs_nil HXE.out).symm, HX.out.2⟩, ⟨Below.refl _ _⟩⟩
        case round =>
          obtain ⟨k, x2, rfl, rfl, hk, HX2', HBk⟩ := hrel
          clear y0 y1 y2 hwQ
          by_cases ck : k < ev.vers.length
          · have d1 : decide ((k : Int) < (ev.vers.length : Int)) = true := decide_eq_true (by omega)
            have d2 : decide (k < ev.vers.length) = true := decide_eq_true ck
            obtain ⟨av, Bs, cs, hAv, hv0, hv1, hv2, hCs⟩ := at_V (Kd.C_below HCV2.out HBk.out) k ck
            subst hAv
            have HK := Aside0.mk ck
            have HNV := Aside0.mk (P.allE_next veE ev.vers k ck)
            have HBV := Aside0.mk (fun h => P.allE_bad veE ev.vers k ck h)
            have HBD2 := Aside0.mk (HBD1.out ev.vers[k] (List.getElem_mem ck))
            obtain ⟨ve, hve⟩ : ∃ ve, ve = ev.vers[k] := ⟨_, rfl⟩
            rw [← hve] at hv0 hv1 hv2 hCs HNV HBV HBD2
            clear hve
            obtain ⟨w3, hw3⟩ : ∃ w3, w3 = wr.alloc (.cells #[.int .u64 ve.num, .slice Bs ve.steps.length cs, .int .i64 ve.pl] 53) := ⟨_, rfl⟩
            have hb3 : Below wr.heap.size wr w3 := by rw [hw3]; exact below_alloc (Below.refl _ _) _
            have HB3 := Aside0.mk (below_step HBk.out hb3)
            have HCS3 := Aside0.mk (Kd.C_below hCs hb3)
            have HE3 := Aside0.mk hw3
            have HMS := Aside0.mk hCs.2.1
            clear hw3 hb3 hCs
            go_wp2
            rw [← HE3.out]
            clear hv0 hv1 hv2
            go_loopw [3, 38] (fun t3 ti wr => ∃ (j : Nat) (x3 : Int), ti = .int .i64 (j : Int) ∧ t3 = .int .i64 x3 ∧ Aside0 (j ≤ ve.steps.length) ∧ Aside0 (x3 = wrs x2 (allE stE (ve.steps.take j)) ∧ x3 ≠ 1) ∧ Aside0 (Below w3.heap.size w3 wr)) (fun _ ti _ => ve.steps.length - left ti)
            case atStart => exact ⟨0, x2, rfl, rfl, ⟨Nat.zero_le _⟩, ⟨(wrs_nil (by rw [HX2'.out.1]; exact P.wrs_ok _ _)).symm, HX2'.out.2⟩, ⟨Below.refl _ _⟩⟩
            case round =>
              obtain ⟨j, x3, rfl, rfl, hj, HX3, HBj⟩ := hrel
              by_cases cj : j < ve.steps.length
              · have f1 : decide ((j : Int) < (ve.steps.length : Int)) = true := decide_eq_true (by omega)
                have f2 : decide (j < ve.steps.length) = true := decide_eq_true cj
                obtain ⟨ast, Bn, cn, hAs, hs0, hs1, hs2, hs3, hs4, hs5, hs6, hs7, hCn⟩ := at_S (Kd.C_below HCS3.out HBj.out) j cj
                subst hAs
                have HJ := Aside0.mk cj
                have HNS := Aside0.mk (P.allE_next stE ve.steps j cj)
                have HBS := Aside0.mk (fun h => P.allE_bad stE ve.steps j cj h)
                have HBD3 := Aside0.mk (HBD2.out ve.steps[j] (List.getElem_mem cj))
                obtain ⟨st, hst⟩ : ∃ st, st = ve.steps[j] := ⟨_, rfl⟩
                rw [← hst] at hs0 hs1 hs2 hs3 hs4 hs5 hs6 hs7 hCn HNS HBS HBD3
                clear hst
                obtain ⟨w4, hw4⟩ : ∃ w4, w4 = wr.alloc (.cells #[.int .i64 st.k, .string st.a, .string st.b, .string st.c, .string st.sep, .string st.ty, .slice Bn st.val.length cn, .int .i64 st.pl] 55) := ⟨_, rfl⟩
                have hb4 : Below wr.heap.size wr w4 := by rw [hw4]; exact below_alloc (Below.refl _ _) _
                have HX4 := Aside0.mk (show w4.heap[wr.heap.size]? = some (.cells #[.int .i64 st.k, .string st.a, .string st.b, .string st.c, .string st.sep, .string st.ty, .slice Bn st.val.length cn, .int .i64 st.pl] 55 (0, 0)) from by rw [hw4]; exact blk_new _ _)
                have HB4 := Aside0.mk (below_step HBj.out hb4)
                have HCN4 := Aside0.mk (Kd.C_below hCn hb4)
                have HE4 := Aside0.mk hw4
                have W1 : Aside0 (wrap64 ((j : Int) + 1) = ((j + 1 : Nat) : Int)) := ⟨by have := HMS.out; unfold wrap64; omega⟩
                clear hw4 hb4 hCn
                go_wp2_with fail
                rw [← HE4.out]
                clear hs0 hs1 hs2 hs3 hs4 hs5 hs6 hs7
                obtain ⟨gb, hgb⟩ : ∃ gb, gb = goodB st := ⟨_, rfl⟩
                have hgc := good_calls w4 st.k st.a st.b st.c st.sep st.ty Bn st.val.length cn st.pl st.val rfl
                rw [show (⟨st.k, st.a, st.b, st.c, st.sep, st.ty, st.val, st.pl⟩ : StD) = st from rfl, ← hgb] at hgc
                refine hgc.mono ?_
                rintro e w5 ⟨rfl, hb5⟩
                have HB5 := Aside0.mk (below_step HB4.out hb5)
                have HX5 := Aside0.mk (blk_below HX4.out hb5)
                have HCN5 := Aside0.mk (Kd.C_below HCN4.out hb5)
                have y6 := (box8 HX5.out).2.2.2.2.2.2.1
                have HGB := Aside0.mk hgb
                have HBW := Aside0.mk (below_step HB2.out (below_step HB3.out HB5.out))
                have HCHAIN : Aside0 (stE st = 1 → wholeE es = 1) := ⟨fun h => HBA.out (by rw [HEV.out]; exact HBV.out (HBS.out h))⟩
                clear hb5 hgc hgb
                cases gb with
                | false =>
                  have HBAD : Aside0 (wholeE es = 1) := ⟨HCHAIN.out (by unfold stE; rw [if_neg (by rw [← HGB.out]; decide)])⟩
                  go_wp2
                  go_ret
                  exact ⟨by rw [HBAD.out]; rfl, HBW.out⟩
                | true =>
                  by_cases cl : st.val.length = 0
                  · have u1 : ((st.val.length : Int) == 0) = true := by rw [beq_iff_eq]; omega
                    have u2 : (st.val.length == 0) = true := beq_iff_eq.2 cl
                    have HST : Aside0 (stE st = 0) := ⟨by unfold stE; rw [if_pos HGB.out.symm, if_pos cl]⟩
                    clear cl
                    go_wp2
                    rw [W1.out]
                    go_roundw
                    case measure => have := HJ.out; simp only [left, Int.toNat_natCast]; omega
                    case rel => exact ⟨j + 1, x3, rfl, rfl, ⟨HJ.out⟩, ⟨by rw [HNS.out, HST.out, wrs_nil (P.allE_ok _ _)]; exact HX3.out⟩, HB5⟩
                  · have u1 : ((st.val.length : Int) == 0) = false := by rw [beq_eq_false_iff_ne]; omega
                    have u2 : (st.val.length == 0) = false := beq_eq_false_iff_ne.2 cl
                    have HST : Aside0 (stE st = judgeE st.val) := ⟨by unfold stE; rw [if_pos HGB.out.symm, if_neg cl]⟩
                    clear cl
                    go_wp2_with fail
                    refine (judge_calls w5 Bn cn st.val HCN5.out (by have := HBD3.out; omega)).mono ?_
                    rintro e w6 ⟨rfl, hb6⟩
                    have HB6 := Aside0.mk (below_step HB5.out hb6)
                    have HBW6 := Aside0.mk (below_step HBW.out hb6)
                    rw [← HST.out]
                    clear hb6
                    have hok := P.stE_ok st
                    obtain ⟨se, hse⟩ : ∃ se, se = stE st := ⟨_, rfl⟩
                    have HSE := Aside0.mk hse
                    rw [← hse] at hok ⊢
                    clear hse
                    rcases hok with rfl | rfl | rfl
                    · go_wp2
                      rw [W1.out]
                      go_roundw
                      case measure => have := HJ.out; simp only [left, Int.toNat_natCast]; omega
                      case rel => exact ⟨j + 1, x3, rfl, rfl, ⟨HJ.out⟩, ⟨by rw [HNS.out, ← HSE.out, wrs_nil (P.allE_ok _ _)]; exact HX3.out⟩, HB6⟩
                    · go_wp2
                      go_ret
                      exact ⟨by rw [HCHAIN.out HSE.out.symm]; rfl, HBW6.out⟩
                    · go_wp2
                      rw [W1.out]
                      go_roundw
                      case measure => have := HJ.out; simp only [left, Int.toNat_natCast]; omega
                      case rel =>
                        refine ⟨j + 1, 91, rfl, rfl, ⟨HJ.out⟩, ⟨?_, by decide⟩, HB6⟩
                        rw [HNS.out, ← HSE.out, ← wrs_assoc, ← HX3.out.1]
                        unfold wrs
                        rw [if_neg (fun h => h.elim HX3.out.2 (by decide)), if_pos (.inr rfl)]
              · have f1 : decide ((j : Int) < (ve.steps.length : Int)) = false := decide_eq_false (by omega)
                have f2 : decide (j < ve.steps.length) = false := decide_eq_false cj
                have HJE : Aside0 (ve.steps.take j = ve.steps) := ⟨List.take_of_length_le (by omega)⟩
                have W1 : Aside0 (wrap64 ((k : Int) + 1) = ((k + 1 : Nat) : Int)) := ⟨by have := HMV.out; have := HK.out; unfold wrap64; omega⟩
                go_wp2
                rw [W1.out]
                go_roundw
                case measure => have := HK.out; simp only [left, Int.toNat_natCast]; omega
                case rel =>
                  refine ⟨k + 1, x3, rfl, rfl, ⟨HK.out⟩, ⟨?_, HX3.out.2⟩, ⟨below_step HB3.out HBj.out⟩⟩
                  rw [HNV.out, ← wrs_assoc, ← HX2'.out.1, show veE ve = allE stE ve.steps from rfl, ← HJE.out]
                  rw [HX3.out.1, HJE.out]
          · have d1 : decide ((k : Int) < (ev.vers.length : Int)) = false := decide_eq_false (by omega)
            have d2 : decide (k < ev.vers.length) = false := decide_eq_false ck
            have HKE : Aside0 (ev.vers.take k = ev.vers) := ⟨List.take_of_length_le (by omega)⟩
            have W1 : Aside0 (wrap64 ((i : Int) + 1) = ((i + 1 : Nat) : Int)) := ⟨by have := HM.out; have := HI.out; unfold wrap64; omega⟩
            go_wp2
            rw [W1.out]
            go_roundw
            case measure => have := HI.out; simp only [left, Int.toNat_natCast]; omega
            case rel =>
              refine ⟨i + 1, x2, rfl, rfl, ⟨HI.out⟩, ⟨?_, HX2'.out.2⟩, ⟨below_step HB2.out HBk.out⟩⟩
              rw [HNX.out, HEV.out, ← HX.out.1, HX2'.out.1, HKE.out]
    · have c1 : decide ((i : Int) < (es.length : Int)) = false := decide_eq_false (by omega)
      have c2 : decide (i < es.length) = false := decide_eq_false ci
      have HIE : Aside0 (es.take i = es) := ⟨List.take_of_length_le (by omega)⟩
      go_wp2
      go_ret
      exact ⟨by rw [HX.out.1, HIE.out]; rfl, HB.out⟩
end Go.Proofs.YtaijoghpfobdbaaDoor.W
end
section
set_option linter.unusedVariables false
set_option linter.unusedSimpArgs false
namespace Go.Proofs.YtaijoghpfobdbaaDoor.W
open Go.RowKit Go.Proofs.YtaijoghpfobdbaaDoor.X Go.Proofs.YtaijoghpfobdbaaDoorW.PrintWords Go.Proofs.YtaijoghpfobdbaaDoorW.PrintLast Go.Proofs.YtaijoghpfobdbaaDoorW.PrintMore
open Go.Proofs.YtaijoghpfobdbaaDoor.P (Tr Nd Wrote puts put fin kv kd sg build dep dmx pile judgeE tx txs txN sepL WF StD VeD EvD wordB nameB emB noV goodB wordList wrs stE allE veE evE wholeE lineT txV)
structure RdN (B : Nat) (w : World) (A : Option Addr) (xs : List Nd) : Prop where
  out : ∀ w', Below B w w' → Kd.C k46 w' A xs.length xs
theorem RdN.step {B : Nat} {w w' : World} {A : Option Addr} {xs : List Nd} (h : RdN B w A xs) (hb : Below B w w') : RdN B w' A xs := ⟨fun _ k => h.out _ (hb.trans k)⟩
theorem txV_of {ns : List Nd} {t : Tr} (h : build ns [] = some [t]) : txV ns = tx t := by unfold txV; rw [h]
set_option maxHeartbeats 4000000 in
set_option maxRecDepth 100000 in
theorem ren_calls {B b : Nat} {bs : List UInt8} (w : World) (sa sb sc sep ty : ByteArray) (A : Option Addr) (n cc : Nat) (pl : Int) (val : List Nd) (hW : Wr w B b bs) (hs : sa.size ≤ 8388608 ∧ sb.size ≤ 8388608 ∧ sc.size ≤ 8388608 ∧ ty.size ≤ 8388608) :
    Calls Tryd.prog 50 #[.pointer (some ⟨b, 0, none⟩), .agg #[.int .i64 2, .string sa, .string sb, .string sc, .string sep, .string ty, .slice A n cc, .int .i64 pl]] w fun e w' => e = .returned (.tuple #[]) ∧ ∃ r, Wr w' B b r ∧ Wrote bs (lineT ⟨2, sa, sb, sc, sep, ty, val, pl⟩) r ∧ Fw B b w w' := by
  obtain ⟨wA, hwA⟩ : ∃ wA, wA = w.alloc (.cells #[.int .i64 2, .string sa, .string sb, .string sc, .string sep, .string ty, .slice A n cc, .int .i64 pl] 55) := ⟨_, rfl⟩
  have hbA : Below w.heap.size w wA := by rw [hwA]; exact below_alloc (Below.refl _ _) _
  have HW0 := Aside0.mk (hW.below hbA)
  have HF0 := Aside0.mk (Fw.of_below (b := b) hbA hW.base)
  have HX0 := Aside0.mk (show wA.heap[w.heap.size]? = some (.cells #[.int .i64 2, .string sa, .string sb, .string sc, .string sep, .string ty, .slice A n cc, .int .i64 pl] 55 (0, 0)) from by rw [hwA]; exact blk_new _ _)
  have HSZ : Aside0 (wA.heap.size = w.heap.size + 1) := ⟨by rw [hwA]; simp⟩
  have HE := Aside0.mk hwA
  have HS := Aside0.mk hs
  clear hW hs hwA hbA
  go_enter Tryd.func50, Tryd.ntmps50
  go_wp2_with fail
  rw [← HE.out, ← HSZ.out]
  refine (say_lit wA [⟨#[114, 101, 110, 97, 109, 101, 32]⟩, sa, ⟨#[32, 116, 111, 32]⟩, sb] 4 rfl HW0.out (by simp) (by intro p hp; simp only [List.mem_cons, List.not_mem_nil, or_false] at hp; rcases hp with rfl | rfl | rfl | rfl <;> first | decide | exact HS.out.1 | exact HS.out.2.1 | exact HS.out.2.2.1 | exact HS.out.2.2.2)).mono ?_
  rintro e w1 ⟨rfl, r1, hW1, hr1, hf1⟩
  have HW1 := Aside0.mk hW1
  have HR1 := Aside0.mk hr1
  have HF1 := Aside0.mk (HF0.out.trans hf1)
  have HX1 := Aside0.mk (hf1.blk HW0.out HX0.out (by decide) (by decide))
  clear hW1 hr1 hf1
  go_wp2
  go_end0
  refine ⟨rfl, r1, HW1.out, ?_, HF1.out⟩
  have h := HR1.out
  have e : lineT ⟨2, sa, sb, sc, sep, ty, val, pl⟩ = (([⟨#[114, 101, 110, 97, 109, 101, 32]⟩, sa, ⟨#[32, 116, 111, 32]⟩, sb] : List ByteArray).flatMap fun p => p.data.toList) := by
    simp [P.lineT]
  rw [e]; exact h
set_option maxHeartbeats 4000000 in
set_option maxRecDepth 100000 in
theorem spl_calls {B b : Nat} {bs : List UInt8} (w : World) (sa sb sc sep ty : ByteArray) (A : Option Addr) (n cc : Nat) (pl : Int) (val : List Nd) (hW : Wr w B b bs) (hs : sa.size ≤ 8388608 ∧ sb.size ≤ 8388608 ∧ sc.size ≤ 8388608 ∧ ty.size ≤ 8388608) :
    Calls Tryd.prog 51 #[.pointer (some ⟨b, 0, none⟩), .agg #[.int .i64 3, .string sa, .string sb, .string sc, .string sep, .string ty, .slice A n cc, .int .i64 pl]] w fun e w' => e = .returned (.tuple #[]) ∧ ∃ r, Wr w' B b r ∧ Wrote bs (lineT ⟨3, sa, sb, sc, sep, ty, val, pl⟩) r ∧ Fw B b w w' := by
  obtain ⟨wA, hwA⟩ : ∃ wA, wA = w.alloc (.cells #[.int .i64 3, .string sa, .string sb, .string sc, .string sep, .string ty, .slice A n cc, .int .i64 pl] 55) := ⟨_, rfl⟩
  have hbA : Below w.heap.size w wA := by rw [hwA]; exact below_alloc (Below.refl _ _) _
  have HW0 := Aside0.mk (hW.below hbA)
  have HF0 := Aside0.mk (Fw.of_below (b := b) hbA hW.base)
  have HX0 := Aside0.mk (show wA.heap[w.heap.size]? = some (.cells #[.int .i64 3, .string sa, .string sb, .string sc, .string sep, .string ty, .slice A n cc, .int .i64 pl] 55 (0, 0)) from by rw [hwA]; exact blk_new _ _)
  have HSZ : Aside0 (wA.heap.size = w.heap.size + 1) := ⟨by rw [hwA]; simp⟩
  have HE := Aside0.mk hwA
  have HS := Aside0.mk hs
  clear hW hs hwA hbA
  go_enter Tryd.func51, Tryd.ntmps51
  go_wp2_with fail
  rw [← HE.out, ← HSZ.out]
  refine (say_lit wA [⟨#[115, 112, 108, 105, 116, 32]⟩, sa, ⟨#[32, 97, 116, 32]⟩] 3 rfl HW0.out (by simp) (by intro p hp; simp only [List.mem_cons, List.not_mem_nil, or_false] at hp; rcases hp with rfl | rfl | rfl <;> first | decide | exact HS.out.1 | exact HS.out.2.1 | exact HS.out.2.2.1 | exact HS.out.2.2.2)).mono ?_
  rintro e w1 ⟨rfl, r1, hW1, hr1, hf1⟩
  have HW1 := Aside0.mk hW1
  have HR1 := Aside0.mk hr1
  have HF1 := Aside0.mk (HF0.out.trans hf1)
  have HX1 := Aside0.mk (hf1.blk HW0.out HX0.out (by decide) (by decide))
  clear hW1 hr1 hf1
  obtain ⟨y0, y1, y2, y3, y4, y5, y6, y7⟩ := box8 HX1.out
  go_wp2_with fail
  refine (quote_calls w1 sep HW1.out).mono ?_
  rintro e w2 ⟨rfl, r2, hW2, hr2, hf2⟩
  have HW2 := Aside0.mk hW2
  have HR2 := Aside0.mk hr2
  have HF2 := Aside0.mk (HF1.out.trans hf2)
  have HX2 := Aside0.mk (hf2.blk HW1.out HX1.out (by decide) (by decide))
  clear hW2 hr2 hf2
  obtain ⟨y0, y1, y2, y3, y4, y5, y6, y7⟩ := box8 HX2.out
  go_wp2_with fail
  refine (say_lit w2 [⟨#[32, 105, 110, 116, 111, 32]⟩, sb, ⟨#[44, 32]⟩, sc] 4 rfl HW2.out (by simp) (by intro p hp; simp only [List.mem_cons, List.not_mem_nil, or_false] at hp; rcases hp with rfl | rfl | rfl | rfl <;> first | decide | exact HS.out.1 | exact HS.out.2.1 | exact HS.out.2.2.1 | exact HS.out.2.2.2)).mono ?_
  rintro e w3 ⟨rfl, r3, hW3, hr3, hf3⟩
  have HW3 := Aside0.mk hW3
  have HR3 := Aside0.mk hr3
  have HF3 := Aside0.mk (HF2.out.trans hf3)
  have HX3 := Aside0.mk (hf3.blk HW2.out HX2.out (by decide) (by decide))
  clear hW3 hr3 hf3
  go_wp2
  go_end0
  refine ⟨rfl, r3, HW3.out, ?_, HF3.out⟩
  have h := ((HR1.out.trans HR2.out).trans HR3.out)
  have e : lineT ⟨3, sa, sb, sc, sep, ty, val, pl⟩ = (((([⟨#[115, 112, 108, 105, 116, 32]⟩, sa, ⟨#[32, 97, 116, 32]⟩] : List ByteArray).flatMap fun p => p.data.toList) ++ L.Quote sep.data.toList) ++ (([⟨#[32, 105, 110, 116, 111, 32]⟩, sb, ⟨#[44, 32]⟩, sc] : List ByteArray).flatMap fun p => p.data.toList)) := by
    simp [P.lineT]
  rw [e]; exact h
set_option maxHeartbeats 4000000 in
set_option maxRecDepth 100000 in
theorem joi_calls {B b : Nat} {bs : List UInt8} (w : World) (sa sb sc sep ty : ByteArray) (A : Option Addr) (n cc : Nat) (pl : Int) (val : List Nd) (hW : Wr w B b bs) (hs : sa.size ≤ 8388608 ∧ sb.size ≤ 8388608 ∧ sc.size ≤ 8388608 ∧ ty.size ≤ 8388608) :
    Calls Tryd.prog 52 #[.pointer (some ⟨b, 0, none⟩), .agg #[.int .i64 4, .string sa, .string sb, .string sc, .string sep, .string ty, .slice A n cc, .int .i64 pl]] w fun e w' => e = .returned (.tuple #[]) ∧ ∃ r, Wr w' B b r ∧ Wrote bs (lineT ⟨4, sa, sb, sc, sep, ty, val, pl⟩) r ∧ Fw B b w w' := by
  obtain ⟨wA, hwA⟩ : ∃ wA, wA = w.alloc (.cells #[.int .i64 4, .string sa, .string sb, .string sc, .string sep, .string ty, .slice A n cc, .int .i64 pl] 55) := ⟨_, rfl⟩
  have hbA : Below w.heap.size w wA := by rw [hwA]; exact below_alloc (Below.refl _ _) _
  have HW0 := Aside0.mk (hW.below hbA)
  have HF0 := Aside0.mk (Fw.of_below (b := b) hbA hW.base)
  have HX0 := Aside0.mk (show wA.heap[w.heap.size]? = some (.cells #[.int .i64 4, .string sa, .string sb, .string sc, .string sep, .string ty, .slice A n cc, .int .i64 pl] 55 (0, 0)) from by rw [hwA]; exact blk_new _ _)
  have HSZ : Aside0 (wA.heap.size = w.heap.size + 1) := ⟨by rw [hwA]; simp⟩
  have HE := Aside0.mk hwA
  have HS := Aside0.mk hs
  clear hW hs hwA hbA
  go_enter Tryd.func52, Tryd.ntmps52
  go_wp2_with fail
  rw [← HE.out, ← HSZ.out]
  refine (say_lit wA [⟨#[106, 111, 105, 110, 32]⟩, sa, ⟨#[44, 32]⟩, sb, ⟨#[32, 119, 105, 116, 104, 32]⟩] 5 rfl HW0.out (by simp) (by intro p hp; simp only [List.mem_cons, List.not_mem_nil, or_false] at hp; rcases hp with rfl | rfl | rfl | rfl | rfl <;> first | decide | exact HS.out.1 | exact HS.out.2.1 | exact HS.out.2.2.1 | exact HS.out.2.2.2)).mono ?_
  rintro e w1 ⟨rfl, r1, hW1, hr1, hf1⟩
  have HW1 := Aside0.mk hW1
  have HR1 := Aside0.mk hr1
  have HF1 := Aside0.mk (HF0.out.trans hf1)
  have HX1 := Aside0.mk (hf1.blk HW0.out HX0.out (by decide) (by decide))
  clear hW1 hr1 hf1
  obtain ⟨y0, y1, y2, y3, y4, y5, y6, y7⟩ := box8 HX1.out
  go_wp2_with fail
  refine (quote_calls w1 sep HW1.out).mono ?_
  rintro e w2 ⟨rfl, r2, hW2, hr2, hf2⟩
  have HW2 := Aside0.mk hW2
  have HR2 := Aside0.mk hr2
  have HF2 := Aside0.mk (HF1.out.trans hf2)
  have HX2 := Aside0.mk (hf2.blk HW1.out HX1.out (by decide) (by decide))
  clear hW2 hr2 hf2
  obtain ⟨y0, y1, y2, y3, y4, y5, y6, y7⟩ := box8 HX2.out
  go_wp2_with fail
  refine (say_lit w2 [⟨#[32, 105, 110, 116, 111, 32]⟩, sc] 2 rfl HW2.out (by simp) (by intro p hp; simp only [List.mem_cons, List.not_mem_nil, or_false] at hp; rcases hp with rfl | rfl <;> first | decide | exact HS.out.1 | exact HS.out.2.1 | exact HS.out.2.2.1 | exact HS.out.2.2.2)).mono ?_
  rintro e w3 ⟨rfl, r3, hW3, hr3, hf3⟩
  have HW3 := Aside0.mk hW3
  have HR3 := Aside0.mk hr3
  have HF3 := Aside0.mk (HF2.out.trans hf3)
  have HX3 := Aside0.mk (hf3.blk HW2.out HX2.out (by decide) (by decide))
  clear hW3 hr3 hf3
  go_wp2
  go_end0
  refine ⟨rfl, r3, HW3.out, ?_, HF3.out⟩
  have h := ((HR1.out.trans HR2.out).trans HR3.out)
  have e : lineT ⟨4, sa, sb, sc, sep, ty, val, pl⟩ = (((([⟨#[106, 111, 105, 110, 32]⟩, sa, ⟨#[44, 32]⟩, sb, ⟨#[32, 119, 105, 116, 104, 32]⟩] : List ByteArray).flatMap fun p => p.data.toList) ++ L.Quote sep.data.toList) ++ (([⟨#[32, 105, 110, 116, 111, 32]⟩, sc] : List ByteArray).flatMap fun p => p.data.toList)) := by
    simp [P.lineT]
  rw [e]; exact h
set_option maxHeartbeats 4000000 in
set_option maxRecDepth 100000 in
theorem ret_calls {B b : Nat} {bs : List UInt8} (w : World) (sa sb sc sep ty : ByteArray) (A : Option Addr) (n cc : Nat) (pl : Int) (val : List Nd) (hW : Wr w B b bs) (hs : sa.size ≤ 8388608 ∧ sb.size ≤ 8388608 ∧ sc.size ≤ 8388608 ∧ ty.size ≤ 8388608) :
    Calls Tryd.prog 53 #[.pointer (some ⟨b, 0, none⟩), .agg #[.int .i64 5, .string sa, .string sb, .string sc, .string sep, .string ty, .slice A n cc, .int .i64 pl]] w fun e w' => e = .returned (.tuple #[]) ∧ ∃ r, Wr w' B b r ∧ Wrote bs (lineT ⟨5, sa, sb, sc, sep, ty, val, pl⟩) r ∧ Fw B b w w' := by
  obtain ⟨wA, hwA⟩ : ∃ wA, wA = w.alloc (.cells #[.int .i64 5, .string sa, .string sb, .string sc, .string sep, .string ty, .slice A n cc, .int .i64 pl] 55) := ⟨_, rfl⟩
  have hbA : Below w.heap.size w wA := by rw [hwA]; exact below_alloc (Below.refl _ _) _
  have HW0 := Aside0.mk (hW.below hbA)
  have HF0 := Aside0.mk (Fw.of_below (b := b) hbA hW.base)
  have HX0 := Aside0.mk (show wA.heap[w.heap.size]? = some (.cells #[.int .i64 5, .string sa, .string sb, .string sc, .string sep, .string ty, .slice A n cc, .int .i64 pl] 55 (0, 0)) from by rw [hwA]; exact blk_new _ _)
  have HSZ : Aside0 (wA.heap.size = w.heap.size + 1) := ⟨by rw [hwA]; simp⟩
  have HE := Aside0.mk hwA
  have HS := Aside0.mk hs
  clear hW hs hwA hbA
  go_enter Tryd.func53, Tryd.ntmps53
  go_wp2_with fail
  rw [← HE.out, ← HSZ.out]
  refine (say_lit wA [⟨#[114, 101, 116, 121, 112, 101, 32]⟩, sa, ⟨#[32, 116, 111, 32]⟩, ty] 4 rfl HW0.out (by simp) (by intro p hp; simp only [List.mem_cons, List.not_mem_nil, or_false] at hp; rcases hp with rfl | rfl | rfl | rfl <;> first | decide | exact HS.out.1 | exact HS.out.2.1 | exact HS.out.2.2.1 | exact HS.out.2.2.2)).mono ?_
  rintro e w1 ⟨rfl, r1, hW1, hr1, hf1⟩
  have HW1 := Aside0.mk hW1
  have HR1 := Aside0.mk hr1
  have HF1 := Aside0.mk (HF0.out.trans hf1)
  have HX1 := Aside0.mk (hf1.blk HW0.out HX0.out (by decide) (by decide))
  clear hW1 hr1 hf1
  go_wp2
  go_end0
  refine ⟨rfl, r1, HW1.out, ?_, HF1.out⟩
  have h := HR1.out
  have e : lineT ⟨5, sa, sb, sc, sep, ty, val, pl⟩ = (([⟨#[114, 101, 116, 121, 112, 101, 32]⟩, sa, ⟨#[32, 116, 111, 32]⟩, ty] : List ByteArray).flatMap fun p => p.data.toList) := by
    simp [P.lineT]
  rw [e]; exact h
set_option maxHeartbeats 4000000 in
set_option maxRecDepth 100000 in
theorem dro_calls {B b : Nat} {bs : List UInt8} (w : World) (sa sb sc sep ty : ByteArray) (A : Option Addr) (n cc : Nat) (pl : Int) (val : List Nd) (hW : Wr w B b bs) (hs : sa.size ≤ 8388608 ∧ sb.size ≤ 8388608 ∧ sc.size ≤ 8388608 ∧ ty.size ≤ 8388608) :
    Calls Tryd.prog 54 #[.pointer (some ⟨b, 0, none⟩), .agg #[.int .i64 6, .string sa, .string sb, .string sc, .string sep, .string ty, .slice A n cc, .int .i64 pl]] w fun e w' => e = .returned (.tuple #[]) ∧ ∃ r, Wr w' B b r ∧ Wrote bs (lineT ⟨6, sa, sb, sc, sep, ty, val, pl⟩) r ∧ Fw B b w w' := by
  obtain ⟨wA, hwA⟩ : ∃ wA, wA = w.alloc (.cells #[.int .i64 6, .string sa, .string sb, .string sc, .string sep, .string ty, .slice A n cc, .int .i64 pl] 55) := ⟨_, rfl⟩
  have hbA : Below w.heap.size w wA := by rw [hwA]; exact below_alloc (Below.refl _ _) _
  have HW0 := Aside0.mk (hW.below hbA)
  have HF0 := Aside0.mk (Fw.of_below (b := b) hbA hW.base)
  have HX0 := Aside0.mk (show wA.heap[w.heap.size]? = some (.cells #[.int .i64 6, .string sa, .string sb, .string sc, .string sep, .string ty, .slice A n cc, .int .i64 pl] 55 (0, 0)) from by rw [hwA]; exact blk_new _ _)
  have HSZ : Aside0 (wA.heap.size = w.heap.size + 1) := ⟨by rw [hwA]; simp⟩
  have HE := Aside0.mk hwA
  have HS := Aside0.mk hs
  clear hW hs hwA hbA
  go_enter Tryd.func54, Tryd.ntmps54
  go_wp2_with fail
  rw [← HE.out, ← HSZ.out]
  refine (say_lit wA [⟨#[100, 114, 111, 112, 32]⟩, sa] 2 rfl HW0.out (by simp) (by intro p hp; simp only [List.mem_cons, List.not_mem_nil, or_false] at hp; rcases hp with rfl | rfl <;> first | decide | exact HS.out.1 | exact HS.out.2.1 | exact HS.out.2.2.1 | exact HS.out.2.2.2)).mono ?_
  rintro e w1 ⟨rfl, r1, hW1, hr1, hf1⟩
  have HW1 := Aside0.mk hW1
  have HR1 := Aside0.mk hr1
  have HF1 := Aside0.mk (HF0.out.trans hf1)
  have HX1 := Aside0.mk (hf1.blk HW0.out HX0.out (by decide) (by decide))
  clear hW1 hr1 hf1
  go_wp2
  go_end0
  refine ⟨rfl, r1, HW1.out, ?_, HF1.out⟩
  have h := HR1.out
  have e : lineT ⟨6, sa, sb, sc, sep, ty, val, pl⟩ = (([⟨#[100, 114, 111, 112, 32]⟩, sa] : List ByteArray).flatMap fun p => p.data.toList) := by
    simp [P.lineT]
  rw [e]; exact h
set_option maxHeartbeats 4000000 in
set_option maxRecDepth 100000 in
theorem add_calls {B b : Nat} {bs : List UInt8} (w : World) (sa sb sc sep ty : ByteArray) (A : Option Addr) (n cc : Nat) (pl : Int) (val : List Nd) (hW : Wr w B b bs) (hs : sa.size ≤ 8388608 ∧ sb.size ≤ 8388608 ∧ sc.size ≤ 8388608 ∧ ty.size ≤ 8388608) (hn : n = val.length) (hE : val.length ≠ 0 → judgeE val = 0) (hl : val.length ≤ 1099511627776) (hr : Rng val) (hT : U.Tab B w) (hC : RdN B w A val) :
    Calls Tryd.prog 49 #[.pointer (some ⟨b, 0, none⟩), .agg #[.int .i64 1, .string sa, .string sb, .string sc, .string sep, .string ty, .slice A n cc, .int .i64 pl]] w fun e w' => e = .returned (.tuple #[]) ∧ ∃ r, Wr w' B b r ∧ Wrote bs (lineT ⟨1, sa, sb, sc, sep, ty, val, pl⟩) r ∧ Fw B b w w' := by
  obtain ⟨wA, hwA⟩ : ∃ wA, wA = w.alloc (.cells #[.int .i64 1, .string sa, .string sb, .string sc, .string sep, .string ty, .slice A n cc, .int .i64 pl] 55) := ⟨_, rfl⟩
  have hbA : Below w.heap.size w wA := by rw [hwA]; exact below_alloc (Below.refl _ _) _
  have HW0 := Aside0.mk (hW.below hbA)
  have HF0 := Aside0.mk (Fw.of_below (b := b) hbA hW.base)
  have HX0 := Aside0.mk (show wA.heap[w.heap.size]? = some (.cells #[.int .i64 1, .string sa, .string sb, .string sc, .string sep, .string ty, .slice A n cc, .int .i64 pl] 55 (0, 0)) from by rw [hwA]; exact blk_new _ _)
  have HSZ : Aside0 (wA.heap.size = w.heap.size + 1) := ⟨by rw [hwA]; simp⟩
  have HE := Aside0.mk hwA
  have HS := Aside0.mk hs
  have HT0 := Aside0.mk (hT.step HF0.out.below)
  have HC0 := Aside0.mk (hC.step HF0.out.below)
  have HL := Aside0.mk hl
  have HRG := Aside0.mk hr
  subst hn
  clear hl hr hT hC
  clear hW hs hwA hbA
  by_cases hv : val.length = 0
  · have z1 : decide (0 < (val.length : Int)) = false := decide_eq_false (by omega)
    have z2 : decide (0 < val.length) = false := decide_eq_false (by omega)
    have HLN : Aside0 (lineT ⟨1, sa, sb, sc, sep, ty, val, pl⟩ = (([⟨#[97, 100, 100, 32]⟩, sa, ⟨#[58, 32]⟩, ty] : List ByteArray).flatMap fun p => p.data.toList)) := ⟨by simp [P.lineT, hv]⟩
    clear hE hv
    go_enter Tryd.func49, Tryd.ntmps49
    go_wp2_with fail
    rw [← HE.out, ← HSZ.out]
    refine (say_lit wA [⟨#[97, 100, 100, 32]⟩, sa, ⟨#[58, 32]⟩, ty] 4 rfl HW0.out (by simp) (by intro p hp; simp only [List.mem_cons, List.not_mem_nil, or_false] at hp; rcases hp with rfl | rfl | rfl | rfl <;> first | decide | exact HS.out.1 | exact HS.out.2.1 | exact HS.out.2.2.1 | exact HS.out.2.2.2)).mono ?_
    rintro e w1 ⟨rfl, r1, hW1, hr1, hf1⟩
    have HW1 := Aside0.mk hW1
    have HR1 := Aside0.mk hr1
    have HF1 := Aside0.mk (HF0.out.trans hf1)
    have HX1 := Aside0.mk (hf1.blk HW0.out HX0.out (by decide) (by decide))
    clear hW1 hr1 hf1
    obtain ⟨y0, y1, y2, y3, y4, y5, y6, y7⟩ := box8 HX1.out
    go_wp2
    go_end0
    exact ⟨rfl, r1, HW1.out, by rw [HLN.out]; exact HR1.out, HF1.out⟩
  · have z1 : decide (0 < (val.length : Int)) = true := decide_eq_true (by omega)
    have z2 : decide (0 < val.length) = true := decide_eq_true (by omega)
    obtain ⟨t, hb, _⟩ := judge_zero (hE hv)
    have HB := Aside0.mk hb
    have HWF := Aside0.mk (P.build_wf hb HRG.out (by simp) t (by simp))
    have HLN : Aside0 (lineT ⟨1, sa, sb, sc, sep, ty, val, pl⟩ = (([⟨#[97, 100, 100, 32]⟩, sa, ⟨#[58, 32]⟩, ty] : List ByteArray).flatMap fun p => p.data.toList) ++ ((([⟨#[32, 61, 32]⟩] : List ByteArray).flatMap fun p => p.data.toList) ++ tx t)) := ⟨by rw [← txV_of hb]; simp [P.lineT, hv]⟩
    clear hE hv hb
    go_enter Tryd.func49, Tryd.ntmps49
    go_wp2_with fail
    rw [← HE.out, ← HSZ.out]
    refine (say_lit wA [⟨#[97, 100, 100, 32]⟩, sa, ⟨#[58, 32]⟩, ty] 4 rfl HW0.out (by simp) (by intro p hp; simp only [List.mem_cons, List.not_mem_nil, or_false] at hp; rcases hp with rfl | rfl | rfl | rfl <;> first | decide | exact HS.out.1 | exact HS.out.2.1 | exact HS.out.2.2.1 | exact HS.out.2.2.2)).mono ?_
    rintro e w1 ⟨rfl, r1, hW1, hr1, hf1⟩
    have HW1 := Aside0.mk hW1
    have HR1 := Aside0.mk hr1
    have HFA1 := Aside0.mk hf1.below
    have HF1 := Aside0.mk (HF0.out.trans hf1)
    have HX1 := Aside0.mk (hf1.blk HW0.out HX0.out (by decide) (by decide))
    clear hW1 hr1 hf1
    obtain ⟨y0, y1, y2, y3, y4, y5, y6, y7⟩ := box8 HX1.out
    go_wp2_with fail
    refine (say_lit w1 [⟨#[32, 61, 32]⟩] 1 rfl HW1.out (by simp) (by intro p hp; rw [List.mem_singleton] at hp; subst hp; first | decide | exact HS.out.1)).mono ?_
    rintro e w2 ⟨rfl, r2, hW2, hr2, hf2⟩
    have HW2 := Aside0.mk hW2
    have HR2 := Aside0.mk hr2
    have HFD := Aside0.mk (HFA1.out.trans hf2.below)
    have HF2 := Aside0.mk (HF1.out.trans hf2)
    have HX2 := Aside0.mk (hf2.blk HW1.out HX1.out (by decide) (by decide))
    clear hW2 hr2 hf2
    obtain ⟨y0, y1, y2, y3, y4, y5, y6, y7⟩ := box8 HX2.out
    have HC2 := Aside0.mk ((HC0.out.step (HFD.out)).out _ (Below.refl _ _))
    go_wp2_with fail
    refine (grown_calls w2 A cc val t HC2.out HL.out HB.out).mono ?_
    rintro e w3 ⟨x, rfl, hi, hb3⟩
    have HI3 := Aside0.mk (hi.move (ok' := fun _ => True) (fun g cur _ _ => ⟨rfl, trivial⟩))
    have HW3 := Aside0.mk (HW2.out.below hb3)
    have HF3 := Aside0.mk (HF2.out.trans (Fw.of_below hb3 HW2.out.base))
    have HT3 := Aside0.mk ((HT0.out.step HFD.out).step (Below.lowr hb3 HW2.out.base))
    clear hi hb3
    go_wp2_with fail
    refine (expr_ok (dep t) t (Nat.le_refl _) HWF.out w3 x r2 HW3.out HI3.out HT3.out).mono ?_
    rintro e w4 ⟨rfl, r4, hW4, hr4, hf4⟩
    have HW4 := Aside0.mk hW4
    have HR4 := Aside0.mk hr4
    have HF4 := Aside0.mk (HF3.out.trans hf4)
    clear hW4 hr4 hf4
    go_wp2
    go_end0
    refine ⟨rfl, r4, HW4.out, ?_, HF4.out⟩
    have h := HR1.out.trans (HR2.out.trans HR4.out)
    rw [HLN.out]; exact h
end Go.Proofs.YtaijoghpfobdbaaDoor.W
end
section
set_option linter.unusedVariables false
set_option linter.unusedSimpArgs false
namespace Go.Proofs.YtaijoghpfobdbaaDoor.W
open Go.RowKit Go.Proofs.YtaijoghpfobdbaaDoor.X Go.Proofs.YtaijoghpfobdbaaDoorW.PrintWords Go.Proofs.YtaijoghpfobdbaaDoorW.PrintLast Go.Proofs.YtaijoghpfobdbaaDoorW.PrintMore
open Go.ChangeMaps (setBlock heap_setBlock_same heap_setBlock_other)
section
variable {P : Program} {w : World} {t k e : TypeId} {b : Nat} {es : Array MapEntry} {clk : Nat}
theorem run_ck (hk : P.underlying k = some (.int .i64)) (em : Bool) (s : Int) : (Instr.checkKey em 10000 k (.int .i64 s)).run P w = .ok () w := by
  unfold Instr.checkKey
  simp [run_underlying hk, Result.andThen]
theorem run_fk (hk : P.underlying k = some (.int .i64)) (s : Int) (l : List MapEntry) {r : Option (Nat × Value)} (hf : Instr.findNow (.int .i64) (.int .i64 s) l 0 = some r) : (Instr.findKey k (.int .i64 s) l).run P w = .ok r w := by
  unfold Instr.findKey
  simp [run_underlying hk, hf, Result.andThen]
theorem run_lay (ht : P.underlying t = some (.map k e)) (hk : P.underlying k = some (.int .i64)) (hb : w.heap[b]? = some (.map es clk)) (s : Int) (v : Value) (hf : Instr.findNow (.int .i64) (.int .i64 s) es.toList 0 = some none) :
    (Instr.mapUpdate t (.map (some b)) (.int .i64 s) v).run P w = .ok () (setBlock w b (.map (es.push ⟨.int .i64 s, v, clk⟩) (clk + 1))) := by
  simp [Instr.mapUpdate, run_underlying ht, MapKept.run_getObj_map hb, run_ck hk, run_fk hk s _ hf, MapKept.run_setObj_map _ hb, Result.andThen, setBlock]
theorem run_look (ht : P.underlying t = some (.map k e)) (hk : P.underlying k = some (.int .i64)) (hb : w.heap[b]? = some (.map es clk)) (s : Int) {i : Nat} {v : Value} (hf : Instr.findNow (.int .i64) (.int .i64 s) es.toList 0 = some (some (i, v))) :
    (Instr.lookup t (.map (some b)) (.int .i64 s) false).run P w = .ok v w := by
  simp [Instr.lookup, run_underlying ht, MapKept.run_getObj_map hb, run_ck hk, run_fk hk s _ hf, Result.andThen]
theorem below_lay {B : Nat} {W : World} (h : Below B W w) (hb : w.heap[b]? = some (.map es clk)) (hB : B ≤ b) (o : Obj) : Below B W (setBlock w b o) :=
  ⟨h.os, h.tape, h.output, by have := h.size; simp only [setBlock, Array.size_setIfInBounds]; omega, fun i hi => (heap_setBlock_other hb o (by omega)).trans (h.block i hi)⟩
end
def six (b : Nat) : Array MapEntry := #[⟨.int .i64 1, .func (.func 49) #[.pointer (some ⟨b, 0, none⟩)] #[], 0⟩, ⟨.int .i64 2, .func (.func 50) #[.pointer (some ⟨b, 0, none⟩)] #[], 1⟩, ⟨.int .i64 3, .func (.func 51) #[.pointer (some ⟨b, 0, none⟩)] #[], 2⟩, ⟨.int .i64 4, .func (.func 52) #[.pointer (some ⟨b, 0, none⟩)] #[], 3⟩, ⟨.int .i64 5, .func (.func 53) #[.pointer (some ⟨b, 0, none⟩)] #[], 4⟩, ⟨.int .i64 6, .func (.func 54) #[.pointer (some ⟨b, 0, none⟩)] #[], 5⟩]
theorem six_runs (b : Nat) (w : World) : ∃ M1 M2 M3 M4 M5 M6 : World,
    (Instr.mapUpdate 75 (.map (some w.heap.size)) (.int .i64 1) (.func (.func 49) #[.pointer (some ⟨b, 0, none⟩)] #[])).run Tryd.prog (w.alloc (.map #[] 0)) = .ok () M1 ∧
    (Instr.mapUpdate 75 (.map (some w.heap.size)) (.int .i64 2) (.func (.func 50) #[.pointer (some ⟨b, 0, none⟩)] #[])).run Tryd.prog M1 = .ok () M2 ∧
    (Instr.mapUpdate 75 (.map (some w.heap.size)) (.int .i64 3) (.func (.func 51) #[.pointer (some ⟨b, 0, none⟩)] #[])).run Tryd.prog M2 = .ok () M3 ∧
    (Instr.mapUpdate 75 (.map (some w.heap.size)) (.int .i64 4) (.func (.func 52) #[.pointer (some ⟨b, 0, none⟩)] #[])).run Tryd.prog M3 = .ok () M4 ∧
    (Instr.mapUpdate 75 (.map (some w.heap.size)) (.int .i64 5) (.func (.func 53) #[.pointer (some ⟨b, 0, none⟩)] #[])).run Tryd.prog M4 = .ok () M5 ∧
    (Instr.mapUpdate 75 (.map (some w.heap.size)) (.int .i64 6) (.func (.func 54) #[.pointer (some ⟨b, 0, none⟩)] #[])).run Tryd.prog M5 = .ok () M6 ∧
    M6.heap[w.heap.size]? = some (.map (six b) 6) ∧ Below w.heap.size w M6 := by
  have h0 : (w.alloc (.map #[] 0)).heap[w.heap.size]? = some (.map #[] 0) := blk_new w _
  have r1 := run_lay (P := Tryd.prog) (t := 75) Tryd.underlying75 Tryd.underlying3 h0 1 (.func (.func 49) #[.pointer (some ⟨b, 0, none⟩)] #[]) (by rfl)
  have h1 := heap_setBlock_same h0 (.map (#[⟨.int .i64 1, .func (.func 49) #[.pointer (some ⟨b, 0, none⟩)] #[], 0⟩] : Array MapEntry) 1)
  have r2 := run_lay (P := Tryd.prog) (t := 75) Tryd.underlying75 Tryd.underlying3 h1 2 (.func (.func 50) #[.pointer (some ⟨b, 0, none⟩)] #[]) (by rfl)
  have h2 := heap_setBlock_same h1 (.map (#[⟨.int .i64 1, .func (.func 49) #[.pointer (some ⟨b, 0, none⟩)] #[], 0⟩, ⟨.int .i64 2, .func (.func 50) #[.pointer (some ⟨b, 0, none⟩)] #[], 1⟩] : Array MapEntry) 2)
  have r3 := run_lay (P := Tryd.prog) (t := 75) Tryd.underlying75 Tryd.underlying3 h2 3 (.func (.func 51) #[.pointer (some ⟨b, 0, none⟩)] #[]) (by rfl)
  have h3 := heap_setBlock_same h2 (.map (#[⟨.int .i64 1, .func (.func 49) #[.pointer (some ⟨b, 0, none⟩)] #[], 0⟩, ⟨.int .i64 2, .func (.func 50) #[.pointer (some ⟨b, 0, none⟩)] #[], 1⟩, ⟨.int .i64 3, .func (.func 51) #[.pointer (some ⟨b, 0, none⟩)] #[], 2⟩] : Array MapEntry) 3)
  have r4 := run_lay (P := Tryd.prog) (t := 75) Tryd.underlying75 Tryd.underlying3 h3 4 (.func (.func 52) #[.pointer (some ⟨b, 0, none⟩)] #[]) (by rfl)
  have h4 := heap_setBlock_same h3 (.map (#[⟨.int .i64 1, .func (.func 49) #[.pointer (some ⟨b, 0, none⟩)] #[], 0⟩, ⟨.int .i64 2, .func (.func 50) #[.pointer (some ⟨b, 0, none⟩)] #[], 1⟩, ⟨.int .i64 3, .func (.func 51) #[.pointer (some ⟨b, 0, none⟩)] #[], 2⟩, ⟨.int .i64 4, .func (.func 52) #[.pointer (some ⟨b, 0, none⟩)] #[], 3⟩] : Array MapEntry) 4)
  have r5 := run_lay (P := Tryd.prog) (t := 75) Tryd.underlying75 Tryd.underlying3 h4 5 (.func (.func 53) #[.pointer (some ⟨b, 0, none⟩)] #[]) (by rfl)
  have h5 := heap_setBlock_same h4 (.map (#[⟨.int .i64 1, .func (.func 49) #[.pointer (some ⟨b, 0, none⟩)] #[], 0⟩, ⟨.int .i64 2, .func (.func 50) #[.pointer (some ⟨b, 0, none⟩)] #[], 1⟩, ⟨.int .i64 3, .func (.func 51) #[.pointer (some ⟨b, 0, none⟩)] #[], 2⟩, ⟨.int .i64 4, .func (.func 52) #[.pointer (some ⟨b, 0, none⟩)] #[], 3⟩, ⟨.int .i64 5, .func (.func 53) #[.pointer (some ⟨b, 0, none⟩)] #[], 4⟩] : Array MapEntry) 5)
  have r6 := run_lay (P := Tryd.prog) (t := 75) Tryd.underlying75 Tryd.underlying3 h5 6 (.func (.func 54) #[.pointer (some ⟨b, 0, none⟩)] #[]) (by rfl)
  have h6 := heap_setBlock_same h5 (.map (#[⟨.int .i64 1, .func (.func 49) #[.pointer (some ⟨b, 0, none⟩)] #[], 0⟩, ⟨.int .i64 2, .func (.func 50) #[.pointer (some ⟨b, 0, none⟩)] #[], 1⟩, ⟨.int .i64 3, .func (.func 51) #[.pointer (some ⟨b, 0, none⟩)] #[], 2⟩, ⟨.int .i64 4, .func (.func 52) #[.pointer (some ⟨b, 0, none⟩)] #[], 3⟩, ⟨.int .i64 5, .func (.func 53) #[.pointer (some ⟨b, 0, none⟩)] #[], 4⟩, ⟨.int .i64 6, .func (.func 54) #[.pointer (some ⟨b, 0, none⟩)] #[], 5⟩] : Array MapEntry) 6)
  refine ⟨_, _, _, _, _, _, r1, r2, r3, r4, r5, r6, h6, ?_⟩
  refine below_lay (below_lay (below_lay (below_lay (below_lay (below_lay ?_ h0 (Nat.le_refl _) _) h1 (Nat.le_refl _) _) h2 (Nat.le_refl _) _) h3 (Nat.le_refl _) _) h4 (Nat.le_refl _) _) h5 (Nat.le_refl _) _
  exact (Below.refl _ _).alloc (Nat.le_refl _) _
set_option maxHeartbeats 2000000 in
set_option maxRecDepth 100000 in
theorem writers_calls (b : Nat) (w : World) : Calls Tryd.prog 25 #[.pointer (some ⟨b, 0, none⟩)] w fun e w' => e = .returned (.map (some w.heap.size)) ∧ w'.heap[w.heap.size]? = some (.map (six b) 6) ∧ Below w.heap.size w w' := by
  obtain ⟨M1, M2, M3, M4, M5, M6, r1, r2, r3, r4, r5, r6, hm, hb⟩ := six_runs b w
  have HM := Aside0.mk hm
  have HB := Aside0.mk hb
  have hmk := @run_makeMap Tryd.prog
  clear hm hb
  go_enter Tryd.func25, Tryd.ntmps25
  go_wp2
  go_ret
  exact ⟨rfl, HM.out, HB.out⟩
theorem six_look {w : World} {b g : Nat} (h : w.heap[g]? = some (.map (six b) 6)) :
    (Instr.lookup 75 (.map (some g)) (.int .i64 1) false).run Tryd.prog w = .ok (.func (.func 49) #[.pointer (some ⟨b, 0, none⟩)] #[]) w ∧
    (Instr.lookup 75 (.map (some g)) (.int .i64 2) false).run Tryd.prog w = .ok (.func (.func 50) #[.pointer (some ⟨b, 0, none⟩)] #[]) w ∧
    (Instr.lookup 75 (.map (some g)) (.int .i64 3) false).run Tryd.prog w = .ok (.func (.func 51) #[.pointer (some ⟨b, 0, none⟩)] #[]) w ∧
    (Instr.lookup 75 (.map (some g)) (.int .i64 4) false).run Tryd.prog w = .ok (.func (.func 52) #[.pointer (some ⟨b, 0, none⟩)] #[]) w ∧
    (Instr.lookup 75 (.map (some g)) (.int .i64 5) false).run Tryd.prog w = .ok (.func (.func 53) #[.pointer (some ⟨b, 0, none⟩)] #[]) w ∧
    (Instr.lookup 75 (.map (some g)) (.int .i64 6) false).run Tryd.prog w = .ok (.func (.func 54) #[.pointer (some ⟨b, 0, none⟩)] #[]) w :=
  ⟨run_look Tryd.underlying75 Tryd.underlying3 h 1 (i := 0) (by rfl), run_look Tryd.underlying75 Tryd.underlying3 h 2 (i := 1) (by rfl), run_look Tryd.underlying75 Tryd.underlying3 h 3 (i := 2) (by rfl), run_look Tryd.underlying75 Tryd.underlying3 h 4 (i := 3) (by rfl), run_look Tryd.underlying75 Tryd.underlying3 h 5 (i := 4) (by rfl), run_look Tryd.underlying75 Tryd.underlying3 h 6 (i := 5) (by rfl)⟩
end Go.Proofs.YtaijoghpfobdbaaDoor.W
end
section
set_option linter.unusedVariables false
set_option linter.unusedSimpArgs false
namespace Go.Proofs.YtaijoghpfobdbaaDoor.W
open Go.RowKit Go.Proofs.YtaijoghpfobdbaaDoor.X Go.Proofs.YtaijoghpfobdbaaDoorW.PrintWords Go.Proofs.YtaijoghpfobdbaaDoorW.PrintLast Go.Proofs.YtaijoghpfobdbaaDoorW.PrintMore
open Go.Proofs.YtaijoghpfobdbaaDoor.P (Tr Nd Wrote puts put fin kv kd sg build dep dmx pile judgeE tx txs txN sepL WF StD VeD EvD wordB nameB emB noV goodB wordList wrs stE allE veE evE wholeE lineT txV stT veT evT schT schE)
def stCs (d : StD) (A : Option Addr) (c : Nat) : Array Value := #[.int .i64 d.k, .string d.a, .string d.b, .string d.c, .string d.sep, .string d.ty, .slice A d.val.length c, .int .i64 d.pl]
theorem em_size {s : ByteArray} (h : emB s = true) : s.size ≤ 8388608 := by
  have h2 : s.toList = [] := eq_of_beq h
  rw [ByteArray.toList_eq] at h2
  rw [← data_length, h2]; simp
theorem nm_size {s : ByteArray} (h : nameB s = true) : s.size ≤ 8388608 := by have := P.name_size h; omega
theorem line_ok {B b : Nat} (d : StD) (h : stE d = 0) (hl : d.val.length ≤ 1099511627776) (hr : Rng d.val) :
    ∃ fn : Nat, (∀ args W, (callFunc fn args).run Tryd.prog W = .ok (.enter fn args) W) ∧ (∀ W g, W.heap[g]? = some (.map (six b) 6) → (Instr.lookup 75 (.map (some g)) (.int .i64 d.k) false).run Tryd.prog W = .ok (.func (.func fn) #[.pointer (some ⟨b, 0, none⟩)] #[]) W) ∧
      (∀ W bs A c, Wr W B b bs → U.Tab B W → RdN B W A d.val → Calls Tryd.prog fn #[.pointer (some ⟨b, 0, none⟩), .agg (stCs d A c)] W fun e w' => e = .returned (.tuple #[]) ∧ ∃ r, Wr w' B b r ∧ Wrote bs (lineT d) r ∧ Fw B b W w') := by
  have hg : goodB d = true := by
    unfold stE at h
    split at h
    · assumption
    · cases h
  have hj : d.val.length ≠ 0 → judgeE d.val = 0 := by
    intro h0
    unfold stE at h
    rw [if_pos hg, if_neg h0] at h
    exact h
  clear h
  obtain ⟨k, sa, sb, sc, sep, ty, val, pl⟩ := d
  unfold goodB at hg
  simp only at hg hj hl hr ⊢
  split at hg
  · rename_i hk
    subst hk
    simp only [List.all_cons, List.all_nil, Bool.and_true, Bool.and_eq_true] at hg
    exact ⟨49, enters_of Tryd.func49 (by kernel_rfl) rfl, fun W g h => (six_look h).1, fun W bs A c hW hT hC => add_calls W sa sb sc sep ty A _ c pl val hW ⟨nm_size hg.1.1, em_size hg.2.1, em_size hg.2.2.1, nm_size hg.1.2⟩ rfl hj hl hr hT hC⟩
  split at hg
  · rename_i hk
    subst hk
    simp only [List.all_cons, List.all_nil, Bool.and_true, Bool.and_eq_true] at hg
    exact ⟨50, enters_of Tryd.func50 (by kernel_rfl) rfl, fun W g h => (six_look h).2.1, fun W bs A c hW hT hC => ren_calls W sa sb sc sep ty A _ c pl val hW ⟨nm_size hg.1.1.1, nm_size hg.1.1.2, em_size hg.1.2, em_size hg.2.1.2⟩⟩
  split at hg
  · rename_i hk
    simp only [List.all_cons, List.all_nil, Bool.and_true, Bool.and_eq_true] at hg
    have hs : sa.size ≤ 8388608 ∧ sb.size ≤ 8388608 ∧ sc.size ≤ 8388608 ∧ ty.size ≤ 8388608 := ⟨nm_size hg.1.1.1, nm_size hg.1.1.2.1, nm_size hg.1.1.2.2, em_size hg.1.2⟩
    rcases hk with hk | hk
    · subst hk
      exact ⟨51, enters_of Tryd.func51 (by kernel_rfl) rfl, fun W g h => (six_look h).2.2.1, fun W bs A c hW hT hC => spl_calls W sa sb sc sep ty A _ c pl val hW hs⟩
    · subst hk
      exact ⟨52, enters_of Tryd.func52 (by kernel_rfl) rfl, fun W g h => (six_look h).2.2.2.1, fun W bs A c hW hT hC => joi_calls W sa sb sc sep ty A _ c pl val hW hs⟩
  split at hg
  · rename_i hk
    subst hk
    simp only [List.all_cons, List.all_nil, Bool.and_true, Bool.and_eq_true] at hg
    exact ⟨53, enters_of Tryd.func53 (by kernel_rfl) rfl, fun W g h => (six_look h).2.2.2.2.1, fun W bs A c hW hT hC => ret_calls W sa sb sc sep ty A _ c pl val hW ⟨nm_size hg.1.1.1, em_size hg.1.2.1, em_size hg.1.2.2.1, nm_size hg.1.1.2⟩⟩
  split at hg
  · rename_i hk
    subst hk
    simp only [List.all_cons, List.all_nil, Bool.and_true, Bool.and_eq_true] at hg
    exact ⟨54, enters_of Tryd.func54 (by kernel_rfl) rfl, fun W g h => (six_look h).2.2.2.2.2, fun W bs A c hW hT hC => dro_calls W sa sb sc sep ty A _ c pl val hW ⟨nm_size hg.1.1, em_size hg.1.2.1, em_size hg.1.2.2, em_size hg.2.1.2⟩⟩
  · cases hg
def GoodE (es : List EvD) : Prop := ∀ e, e ∈ es → ∀ v, v ∈ e.vers → (0 ≤ v.num ∧ v.num < 18446744073709551616) ∧ ∀ d, d ∈ v.steps → d.val.length ≤ 1099511627776 ∧ Rng d.val
theorem GoodE.bd {es : List EvD} (h : GoodE es) : BdE es := fun e he v hv d hd => ((h e he v hv).2 d hd).1
theorem flat_next {α : Type} (f : α → List UInt8) (l : List α) (i : Nat) (hi : i < l.length) : (l.take (i + 1)).flatMap f = (l.take i).flatMap f ++ f l[i] := by
  rw [List.take_succ_eq_append_getElem hi, List.flatMap_append]; simp
theorem cell_below {w w' : World} {a : Addr} {u : Value} (h : w.cell? a = some u) (hb : Below w.heap.size w w') : w'.cell? a = some u := by
  have hlt : a.block < w.heap.size := by
    rcases Nat.lt_or_ge a.block w.heap.size with h' | h'
    · exact h'
    · simp [World.cell?, Array.getElem?_eq_none h'] at h
  unfold World.cell? at *
  rw [hb.block _ hlt]; exact h
section
variable {w : World} {A : Option Addr}
theorem at_E' {xs : List EvD} (h : Kd.C kE w A xs.length xs) (i : Nat) (hi : i < xs.length) : ∃ ad B c, A = some ad ∧ Kd.C kV w B xs[i].vers.length xs[i].vers ∧ ∀ w', Below w.heap.size w w' → w'.cell? (ad.add (i * 3)) = some (.string xs[i].name) ∧ w'.cell? ⟨(ad.add (i * 3)).block, (ad.add (i * 3)).off + 1, none⟩ = some (.slice B xs[i].vers.length c) ∧ w'.cell? ⟨(ad.add (i * 3)).block, (ad.add (i * 3)).off + 2, none⟩ = some (.int .i64 xs[i].pl) := by
  obtain ⟨ad, B, c, e, h0, h1, h2, hC⟩ := at_E h i hi
  exact ⟨ad, B, c, e, hC, fun w' hb => ⟨cell_below h0 hb, cell_below h1 hb, cell_below h2 hb⟩⟩
theorem at_V' {xs : List VeD} (h : Kd.C kV w A xs.length xs) (i : Nat) (hi : i < xs.length) : ∃ ad B c, A = some ad ∧ Kd.C kS w B xs[i].steps.length xs[i].steps ∧ ∀ w', Below w.heap.size w w' → w'.cell? (ad.add (i * 3)) = some (.int .u64 xs[i].num) ∧ w'.cell? ⟨(ad.add (i * 3)).block, (ad.add (i * 3)).off + 1, none⟩ = some (.slice B xs[i].steps.length c) ∧ w'.cell? ⟨(ad.add (i * 3)).block, (ad.add (i * 3)).off + 2, none⟩ = some (.int .i64 xs[i].pl) := by
  obtain ⟨ad, B, c, e, h0, h1, h2, hC⟩ := at_V h i hi
  exact ⟨ad, B, c, e, hC, fun w' hb => ⟨cell_below h0 hb, cell_below h1 hb, cell_below h2 hb⟩⟩
theorem at_S' {xs : List StD} (h : Kd.C kS w A xs.length xs) (i : Nat) (hi : i < xs.length) : ∃ ad B c, A = some ad ∧ Kd.C k46 w B xs[i].val.length xs[i].val ∧ ∀ w', Below w.heap.size w w' → w'.cell? (ad.add (i * 8)) = some (.int .i64 xs[i].k) ∧ w'.cell? ⟨(ad.add (i * 8)).block, (ad.add (i * 8)).off + 1, none⟩ = some (.string xs[i].a) ∧ w'.cell? ⟨(ad.add (i * 8)).block, (ad.add (i * 8)).off + 2, none⟩ = some (.string xs[i].b) ∧ w'.cell? ⟨(ad.add (i * 8)).block, (ad.add (i * 8)).off + 3, none⟩ = some (.string xs[i].c) ∧ w'.cell? ⟨(ad.add (i * 8)).block, (ad.add (i * 8)).off + 4, none⟩ = some (.string xs[i].sep) ∧ w'.cell? ⟨(ad.add (i * 8)).block, (ad.add (i * 8)).off + 5, none⟩ = some (.string xs[i].ty) ∧ w'.cell? ⟨(ad.add (i * 8)).block, (ad.add (i * 8)).off + 6, none⟩ = some (.slice B xs[i].val.length c) ∧ w'.cell? ⟨(ad.add (i * 8)).block, (ad.add (i * 8)).off + 7, none⟩ = some (.int .i64 xs[i].pl) := by
  obtain ⟨ad, B, c, e, h0, h1, h2, h3, h4, h5, h6, h7, hC⟩ := at_S h i hi
  exact ⟨ad, B, c, e, hC, fun w' hb => ⟨cell_below h0 hb, cell_below h1 hb, cell_below h2 hb, cell_below h3 hb, cell_below h4 hb, cell_below h5 hb, cell_below h6 hb, cell_below h7 hb⟩⟩
end
theorem dec_size (u : Nat) (h : u < 18446744073709551616) : (U.dec u).size ≤ 8388608 := by
  show (Lib.decDigits u).toArray.size ≤ 8388608
  rw [List.size_toArray, Lib.decDigits_length]
  by_cases hu : 1 ≤ u
  · have := Lib.numDigits_eq u hu h; split at this <;> omega
  · obtain rfl : u = 0 := by omega
    rw [Lib.nDigits_small (by omega)]; omega
set_option maxHeartbeats 8000000 in
set_option maxRecDepth 100000 in
theorem schema_calls (w : World) (A : Option Addr) (c : Nat) (es : List EvD) (hC : Kd.C kE w A es.length es) (hG : GoodE es) (hT : U.Tab w.heap.size w) :
    Calls Tryd.prog 11 #[.agg #[.slice A es.length c]] w fun e w' => e = .returned (.tuple #[.string (schE es).1, .int .i64 (schE es).2]) ∧ Below w.heap.size w w' := by
  obtain ⟨w0, hw0⟩ : ∃ w0, w0 = w.alloc (.cells #[.slice A es.length c] 24) := ⟨_, rfl⟩
  have hB0 : Below w.heap.size w w0 := by rw [hw0]; exact below_alloc (Below.refl _ _) _
  have HX0 := Aside0.mk (show w0.heap[w.heap.size]? = some (.cells #[.slice A es.length c] 24 (0, 0)) from by rw [hw0]; exact blk_new _ _)
  have HC0 := Aside0.mk (Kd.C_below hC hB0)
  have HG := Aside0.mk hG
  have HT := Aside0.mk hT
  have HB0 := Aside0.mk hB0
  have HE0 := Aside0.mk hw0
  have HM := Aside0.mk hC.2.1
  have HWH := Aside0.mk (whole_calls w0 A c es HC0.out hG.bd)
  obtain ⟨j, hj⟩ : ∃ j, j = wholeE es := ⟨_, rfl⟩
  rw [← hj] at HWH
  clear hC hG hT hB0 hw0
  by_cases h0 : j = 0
  · subst h0
    have HZ := Aside0.mk (P.allE_zero P.evE P.evE_ok es hj.symm)
    have HSE : Aside0 (schE es = finT (schT es)) := ⟨by unfold schE; rw [if_pos hj.symm]⟩
    clear hj
    go_enter Tryd.func11, Tryd.ntmps11
    go_wp2_with fail
    rw [← HE0.out]
    refine HWH.out.mono ?_
    rintro e w1 ⟨rfl, hb1⟩
    have HB1 := Aside0.mk (below_step HB0.out hb1)
    have HC1 := Aside0.mk (Kd.C_below HC0.out hb1)
    have HX1 := Aside0.mk (blk_below HX0.out hb1)
    obtain ⟨w2, hw2⟩ : ∃ w2, w2 = w1.alloc (.cells #[.pointer none, .slice none 0 0] 74) := ⟨_, rfl⟩
    obtain ⟨b, hb⟩ : ∃ b, b = w1.heap.size := ⟨_, rfl⟩
    have hb2 : Below w1.heap.size w1 w2 := by rw [hw2]; exact below_alloc (Below.refl _ _) _
    have HW2 : Aside0 (Wr w2 b b []) := ⟨by rw [hw2, hb]; exact fresh_w w1⟩
    have HS2 : Aside0 (w2.heap.size = b + 1) := ⟨by rw [hw2, hb]; simp⟩
    have HE2 := Aside0.mk hw2
    have HB12 := Aside0.mk hb2
    clear hb1 hb2 hw2
    go_wp2_with fail
    rw [← HE2.out, ← hb]
    have HBE := Aside0.mk hb
    clear hb
    refine (writers_calls b w2).mono ?_
    rintro e w3 ⟨rfl, hm3, hb3⟩
    obtain ⟨g, hg⟩ : ∃ g, g = w2.heap.size := ⟨_, rfl⟩
    rw [← hg] at hm3 ⊢
    have HM3 := Aside0.mk hm3
    have HGE : Aside0 (g ≠ b) := ⟨by have := HS2.out; omega⟩
    have HW3 := Aside0.mk (HW2.out.below hb3)
    have HB13 := Aside0.mk (below_step HB12.out hb3)
    have HT3 := Aside0.mk (Tab.high (HT.out.step (HB1.out.trans (Below.lowr HB13.out HB1.out.size))) (show w.heap.size ≤ b from by rw [HBE.out]; exact HB1.out.size))
    have HX3 := Aside0.mk (blk_below HX1.out HB13.out)
    have y := (blk_cell HX3.out 0).trans rfl
    clear hm3 hb3 hg
    go_wp2_with fail
    clear y
    go_loopw [25] (fun ti wr => ∃ (i : Nat) (r : List UInt8), ti = .int .i64 (i : Int) ∧ Aside0 (i ≤ es.length) ∧ Aside0 (Wr wr b b r) ∧ Aside0 (Wrote [] ((es.take i).flatMap evT) r) ∧ Aside0 (Fw b b w3 wr)) (fun ti _ => es.length - left ti)
    case atStart => exact ⟨0, [], rfl, ⟨Nat.zero_le _⟩, HW3, ⟨Wrote.refl _⟩, ⟨Fw.refl _ _ _⟩⟩
    case round =>
      obtain ⟨i, r, rfl, hi, HWr, HRr, HFr⟩ := hrel
      by_cases ci : i < es.length
      · have c1 : decide ((i : Int) < (es.length : Int)) = true := decide_eq_true (by omega)
        have c2 : decide (i < es.length) = true := decide_eq_true ci
        have HBR := Aside0.mk (show Below w1.heap.size w1 wr from HB13.out.trans (by rw [← HBE.out]; exact HFr.out.below))
        obtain ⟨ad, Bv, cv, rfl, hCv, hce⟩ := at_E' HC1.out i ci
        have HI := Aside0.mk ci
        have HNX := Aside0.mk (flat_next evT es i ci)
        have hz := HZ.out es[i] (List.getElem_mem ci)
        have HGV := Aside0.mk (HG.out es[i] (List.getElem_mem ci))
        obtain ⟨ev, hev⟩ : ∃ ev, ev = es[i] := ⟨_, rfl⟩
        rw [← hev] at hCv hce HNX HGV hz
        clear hev
        have HCV := Aside0.mk hCv
        have hnm : nameB ev.name = true := by
          unfold evE at hz
          split at hz
          · rename_i h; exact h.1
          · cases hz
        have hzv : allE veE ev.vers = 0 := by
          unfold evE at hz
          split at hz
          · exact hz
          · cases hz
        have HZV := Aside0.mk (P.allE_zero veE P.veE_ok ev.vers hzv)
        have HNM := Aside0.mk (nm_size hnm)
        have HMV := Aside0.mk hCv.2.1
        obtain ⟨x0, x1, x2⟩ := hce wr HBR.out
        obtain ⟨w4, hw4⟩ : ∃ w4, w4 = wr.alloc (.cells #[.string ev.name, .slice Bv ev.vers.length cv, .int .i64 ev.pl] 50) := ⟨_, rfl⟩
        have hb4 : Below wr.heap.size wr w4 := by rw [hw4]; exact below_alloc (Below.refl _ _) _
        obtain ⟨b8, hb8⟩ : ∃ b8, b8 = wr.heap.size := ⟨_, rfl⟩
        have HX4 := Aside0.mk (show w4.heap[b8]? = some (.cells #[.string ev.name, .slice Bv ev.vers.length cv, .int .i64 ev.pl] 50 (0, 0)) from by rw [hw4, hb8]; exact blk_new _ _)
        have HS4 : Aside0 (w4.heap.size = b8 + 1) := ⟨by rw [hw4, hb8]; simp⟩
        have HW4 := Aside0.mk (HWr.out.below hb4)
        have HF4 := Aside0.mk (HFr.out.trans (Fw.of_below hb4 HWr.out.base))
        have HE4 := Aside0.mk hw4
        clear hw4 hb4 hCv hce hz hnm hzv
        go_wp2_with fail
        rw [← HE4.out, ← hb8, ← HS4.out]
        clear hb8 x0 x1 x2
        refine (say_lit w4 [⟨#[101, 118, 101, 110, 116, 32]⟩, ev.name, ⟨#[32, 123, 10]⟩] 3 rfl HW4.out (by simp) (by intro p hp; simp only [List.mem_cons, List.not_mem_nil, or_false] at hp; rcases hp with rfl | rfl | rfl <;> first | decide | exact HNM.out)).mono ?_
        rintro e w5 ⟨rfl, r5, hW5, hr5, hf5⟩
        have HW5 := Aside0.mk hW5
        have HR5 := Aside0.mk hr5
        have HF5 := Aside0.mk (HF4.out.trans hf5)
        have HX5 := Aside0.mk (hf5.blk HW4.out HX4.out (by decide) (by decide))
        have y1 := (blk_cell HX5.out 1).trans rfl
        clear hW5 hr5 hf5
        go_wp2_with fail
        clear y1
        go_loopw [37] (fun ti wr => ∃ (k : Nat) (r : List UInt8), ti = .int .i64 (k : Int) ∧ Aside0 (k ≤ ev.vers.length) ∧ Aside0 (Wr wr b b r) ∧ Aside0 (Wrote r5 ((ev.vers.take k).flatMap veT) r) ∧ Aside0 (Fw b b w5 wr)) (fun ti _ => ev.vers.length - left ti)
        case atStart => exact ⟨0, r5, rfl, ⟨Nat.zero_le _⟩, HW5, ⟨Wrote.refl _⟩, ⟨Fw.refl _ _ _⟩⟩
        case round =>
          obtain ⟨k, r6, rfl, hk, HW6, HR6, HF6⟩ := hrel
          by_cases ck : k < ev.vers.length
          · have d1 : decide ((k : Int) < (ev.vers.length : Int)) = true := decide_eq_true (by omega)
            have d2 : decide (k < ev.vers.length) = true := decide_eq_true ck
            have HBR6 := Aside0.mk (show Below w1.heap.size w1 wr from HB13.out.trans (by rw [← HBE.out]; exact (HF5.out.trans HF6.out).below))
            obtain ⟨av, Bs, cs, rfl, hCs, hcv⟩ := at_V' HCV.out k ck
            have HK := Aside0.mk ck
            have HNV := Aside0.mk (flat_next veT ev.vers k ck)
            have hz := HZV.out ev.vers[k] (List.getElem_mem ck)
            obtain ⟨hnum, hgs⟩ := HGV.out ev.vers[k] (List.getElem_mem ck)
            obtain ⟨ve, hve⟩ : ∃ ve, ve = ev.vers[k] := ⟨_, rfl⟩
            rw [← hve] at hCs hcv HNV hz hnum hgs
            clear hve
            have HCS := Aside0.mk hCs
            have HGS := Aside0.mk hgs
            have HZS := Aside0.mk (P.allE_zero stE P.stE_ok ve.steps hz)
            have HMS := Aside0.mk hCs.2.1
            obtain ⟨x0, x1, x2⟩ := hcv wr HBR6.out
            obtain ⟨u, hu⟩ : ∃ u : Nat, ve.num = (u : Int) := ⟨ve.num.toNat, by omega⟩
            have HU : Aside0 (u < 18446744073709551616) := ⟨by omega⟩
            have HUE : Aside0 (ve.num.toNat = u) := ⟨by rw [hu, Int.toNat_natCast]⟩
            rw [hu] at x0
            obtain ⟨w7, hw7⟩ : ∃ w7, w7 = wr.alloc (.cells #[.int .u64 u, .slice Bs ve.steps.length cs, .int .i64 ve.pl] 53) := ⟨_, rfl⟩
            have hb7 : Below wr.heap.size wr w7 := by rw [hw7]; exact below_alloc (Below.refl _ _) _
            have HX7 := Aside0.mk (show w7.heap[wr.heap.size]? = some (.cells #[.int .u64 u, .slice Bs ve.steps.length cs, .int .i64 ve.pl] 53 (0, 0)) from by rw [hw7]; exact blk_new _ _)
            have HW7 := Aside0.mk (HW6.out.below hb7)
            have HF7 := Aside0.mk (HF6.out.trans (Fw.of_below hb7 HW6.out.base))
            have HE7 := Aside0.mk hw7
            clear hw7 hb7 hCs hcv hz hnum hgs hu
            go_wp2_with fail
            rw [← HE7.out]
            clear x0 x1 x2
            refine (U.format_calls u HU.out HW7.out.base (HT3.out.step (HF5.out.trans HF7.out).below)).mono ?_
            rintro e w8 ⟨rfl, hb8⟩
            have HW8 := Aside0.mk (HW7.out.below hb8)
            have HF8 := Aside0.mk (HF7.out.trans (Fw.of_below hb8 HW7.out.base))
            have HX8 := Aside0.mk (blk_below HX7.out hb8)
            clear hb8
            go_wp2_with fail
            refine (say_lit w8 [⟨#[32, 32, 118, 101, 114, 115, 105, 111, 110, 32]⟩, U.dec u, ⟨#[32, 123, 10]⟩] 3 rfl HW8.out (by simp) (by intro p hp; simp only [List.mem_cons, List.not_mem_nil, or_false] at hp; rcases hp with rfl | rfl | rfl <;> first | decide | exact dec_size u HU.out)).mono ?_
            rintro e w9 ⟨rfl, r9, hW9, hr9, hf9⟩
            have HW9 := Aside0.mk hW9
            have HR9 := Aside0.mk hr9
            have HF9 := Aside0.mk (HF8.out.trans hf9)
            have HX9 := Aside0.mk (hf9.blk HW8.out HX8.out (by decide) (by decide))
            have y1 := (blk_cell HX9.out 1).trans rfl
            clear hW9 hr9 hf9
            go_wp2_with fail
            clear y1
            go_loopw [50] (fun ti wr => ∃ (q : Nat) (r : List UInt8), ti = .int .i64 (q : Int) ∧ Aside0 (q ≤ ve.steps.length) ∧ Aside0 (Wr wr b b r) ∧ Aside0 (Wrote r9 ((ve.steps.take q).flatMap stT) r) ∧ Aside0 (Fw b b w9 wr)) (fun ti _ => ve.steps.length - left ti)
            case atStart => exact ⟨0, r9, rfl, ⟨Nat.zero_le _⟩, HW9, ⟨Wrote.refl _⟩, ⟨Fw.refl _ _ _⟩⟩
            case round =>
              obtain ⟨q, rA, rfl, hq, HWA, HRA, HFA⟩ := hrel
              by_cases cq : q < ve.steps.length
              · have f1 : decide ((q : Int) < (ve.steps.length : Int)) = true := decide_eq_true (by omega)
                have f2 : decide (q < ve.steps.length) = true := decide_eq_true cq
                have HBRA := Aside0.mk (show Below w1.heap.size w1 wr from HB13.out.trans (by rw [← HBE.out]; exact ((HF5.out.trans HF9.out).trans HFA.out).below))
                obtain ⟨ast, Bn, cn, rfl, hCn, hcs⟩ := at_S' HCS.out q cq
                have HQ := Aside0.mk cq
                have HNS := Aside0.mk (flat_next stT ve.steps q cq)
                have hz := HZS.out ve.steps[q] (List.getElem_mem cq)
                obtain ⟨hl, hrg⟩ := HGS.out ve.steps[q] (List.getElem_mem cq)
                obtain ⟨d, hd⟩ : ∃ d, d = ve.steps[q] := ⟨_, rfl⟩
                rw [← hd] at hCn hcs HNS hz hl hrg
                clear hd
                have HCN := Aside0.mk hCn
                obtain ⟨fn, hfn, hlk, hln⟩ := line_ok (B := b) (b := b) d hz hl hrg
                have HLK := Aside0.mk hlk
                have HLN := Aside0.mk hln
                obtain ⟨x0, x1, x2, x3, x4, x5, x6, x7⟩ := hcs wr HBRA.out
                obtain ⟨wB, hwB⟩ : ∃ wB, wB = wr.alloc (.cells (stCs d Bn cn) 55) := ⟨_, rfl⟩
                have hbB : Below wr.heap.size wr wB := by rw [hwB]; exact below_alloc (Below.refl _ _) _
                obtain ⟨b12, hb12⟩ : ∃ b12, b12 = wr.heap.size := ⟨_, rfl⟩
                have HXB := Aside0.mk (show wB.heap[b12]? = some (.cells (stCs d Bn cn) 55 (0, 0)) from by rw [hwB, hb12]; exact blk_new _ _)
                have HSB : Aside0 (wB.heap.size = b12 + 1) := ⟨by rw [hwB, hb12]; simp⟩
                have HWB := Aside0.mk (HWA.out.below hbB)
                have HFB := Aside0.mk (HFA.out.trans (Fw.of_below hbB HWA.out.base))
                have HEB := Aside0.mk (show wB = wr.alloc (.cells #[.int .i64 d.k, .string d.a, .string d.b, .string d.c, .string d.sep, .string d.ty, .slice Bn d.val.length cn, .int .i64 d.pl] 55) from hwB)
                have W1 : Aside0 (wrap64 ((q : Int) + 1) = ((q + 1 : Nat) : Int)) := ⟨by have := HMS.out; unfold wrap64; omega⟩
                clear hwB hbB hCn hcs hz hl hrg hlk hln
                go_wp2_with fail
                rw [← HEB.out, ← hb12, ← HSB.out]
                clear hb12 x0 x1 x2 x3 x4 x5 x6 x7
                refine (say_lit wB [⟨#[32, 32, 32, 32]⟩] 1 rfl HWB.out (by simp) (by intro p hp; rw [List.mem_singleton] at hp; subst hp; decide)).mono ?_
                rintro e wC ⟨rfl, rC, hWC, hrC, hfC⟩
                have HWC := Aside0.mk hWC
                have HRC := Aside0.mk hrC
                have HFC := Aside0.mk (HFB.out.trans hfC)
                obtain ⟨y0, y1, y2, y3, y4, y5, y6, y7⟩ := box8 (hfC.blk HWB.out HXB.out (by decide) (by decide))
                have hmp : wC.heap[g]? = some (.map (six b) 6) := ((HF5.out.trans HF9.out).trans HFC.out).ok g _ HM3.out (fun e => HGE.out (by injection e)) (fun c fz e => by cases e)
                have hlkC := HLK.out wC g hmp
                have HBRC := Aside0.mk (show Below w1.heap.size w1 wC from HB13.out.trans (by rw [← HBE.out]; exact ((HF5.out.trans HF9.out).trans HFC.out).below))
                clear hWC hrC hfC hmp
                go_wp2_with fail
                refine (HLN.out wC rC Bn cn HWC.out (HT3.out.step ((HF5.out.trans HF9.out).trans HFC.out).below) ⟨fun w' hb => Kd.C_below HCN.out (HBRC.out.trans (by rw [← HBE.out]; exact hb))⟩).mono ?_
                rintro e wD ⟨rfl, rD, hWD, hrD, hfD⟩
                have HWD := Aside0.mk hWD
                have HRD := Aside0.mk hrD
                have HFD := Aside0.mk (HFC.out.trans hfD)
                clear hWD hrD hfD y0 y1 y2 y3 y4 y5 y6 y7 hlkC
                go_wp2_with fail
                refine (say_lit wD [⟨#[59, 10]⟩] 1 rfl HWD.out (by simp) (by intro p hp; rw [List.mem_singleton] at hp; subst hp; decide)).mono ?_
                rintro e wE ⟨rfl, rE, hWE, hrE, hfE⟩
                have HWE := Aside0.mk hWE
                have HRE := Aside0.mk hrE
                have HFE := Aside0.mk (HFD.out.trans hfE)
                clear hWE hrE hfE
                go_wp2
                rw [W1.out]
                go_roundw
                case measure => have := HQ.out; simp only [left, Int.toNat_natCast]; omega
                case rel =>
                  refine ⟨q + 1, rE, rfl, ⟨HQ.out⟩, HWE, ⟨?_⟩, HFE⟩
                  have h := HRA.out.trans ((HRC.out.trans HRD.out).trans HRE.out)
                  rw [HNS.out]
                  have e : stT d = (([(⟨#[32, 32, 32, 32]⟩ : ByteArray)].flatMap fun p => p.data.toList) ++ lineT d) ++ ([(⟨#[59, 10]⟩ : ByteArray)].flatMap fun p => p.data.toList) := by
                    simp [P.stT]
                  rw [e]; exact h
              · have f1 : decide ((q : Int) < (ve.steps.length : Int)) = false := decide_eq_false (by omega)
                have f2 : decide (q < ve.steps.length) = false := decide_eq_false cq
                have HQE : Aside0 (ve.steps.take q = ve.steps) := ⟨List.take_of_length_le (by omega)⟩
                have W1 : Aside0 (wrap64 ((k : Int) + 1) = ((k + 1 : Nat) : Int)) := ⟨by have := HMV.out; have := HK.out; unfold wrap64; omega⟩
                go_wp2_with fail
                refine (say_lit wr [⟨#[32, 32, 125, 10]⟩] 1 rfl HWA.out (by simp) (by intro p hp; rw [List.mem_singleton] at hp; subst hp; decide)).mono ?_
                rintro e wC ⟨rfl, rC, hWC, hrC, hfC⟩
                have HWC := Aside0.mk hWC
                have HRC := Aside0.mk hrC
                have HFC := Aside0.mk ((HF9.out.trans HFA.out).trans hfC)
                clear hWC hrC hfC
                go_wp2
                rw [W1.out]
                go_roundw
                case measure => have := HK.out; simp only [left, Int.toNat_natCast]; omega
                case rel =>
                  refine ⟨k + 1, rC, rfl, ⟨HK.out⟩, HWC, ⟨?_⟩, HFC⟩
                  have h := HR6.out.trans ((HR9.out.trans HRA.out).trans HRC.out)
                  rw [HQE.out] at h
                  rw [HNV.out]
                  have e : veT ve = (([(⟨#[32, 32, 118, 101, 114, 115, 105, 111, 110, 32]⟩ : ByteArray), U.dec u, ⟨#[32, 123, 10]⟩].flatMap fun p => p.data.toList) ++ ve.steps.flatMap stT) ++ ([(⟨#[32, 32, 125, 10]⟩ : ByteArray)].flatMap fun p => p.data.toList) := by
                    simp [P.veT, HUE.out, U.dec]
                  rw [e]; exact h
          · have d1 : decide ((k : Int) < (ev.vers.length : Int)) = false := decide_eq_false (by omega)
            have d2 : decide (k < ev.vers.length) = false := decide_eq_false ck
            have HKE : Aside0 (ev.vers.take k = ev.vers) := ⟨List.take_of_length_le (by omega)⟩
            have W1 : Aside0 (wrap64 ((i : Int) + 1) = ((i + 1 : Nat) : Int)) := ⟨by have := HM.out; have := HI.out; unfold wrap64; omega⟩
            go_wp2_with fail
            refine (say_lit wr [⟨#[125, 10]⟩] 1 rfl HW6.out (by simp) (by intro p hp; rw [List.mem_singleton] at hp; subst hp; decide)).mono ?_
            rintro e wC ⟨rfl, rC, hWC, hrC, hfC⟩
            have HWC := Aside0.mk hWC
            have HRC := Aside0.mk hrC
            have HFC := Aside0.mk ((HF5.out.trans HF6.out).trans hfC)
            clear hWC hrC hfC
            go_wp2
            rw [W1.out]
            go_roundw
            case measure => have := HI.out; simp only [left, Int.toNat_natCast]; omega
            case rel =>
              refine ⟨i + 1, rC, rfl, ⟨HI.out⟩, HWC, ⟨?_⟩, HFC⟩
              have h := HRr.out.trans ((HR5.out.trans HR6.out).trans HRC.out)
              rw [HKE.out] at h
              rw [HNX.out]
              have e : evT ev = (([(⟨#[101, 118, 101, 110, 116, 32]⟩ : ByteArray), ev.name, ⟨#[32, 123, 10]⟩].flatMap fun p => p.data.toList) ++ ev.vers.flatMap veT) ++ ([(⟨#[125, 10]⟩ : ByteArray)].flatMap fun p => p.data.toList) := by
                simp [P.evT]
              rw [e]; exact h
      · have c1 : decide ((i : Int) < (es.length : Int)) = false := decide_eq_false (by omega)
        have c2 : decide (i < es.length) = false := decide_eq_false ci
        have HIE : Aside0 (es.take i = es) := ⟨List.take_of_length_le (by omega)⟩
        go_wp2_with fail
        refine (text_calls wr HWr.out).mono ?_
        rintro e w5 ⟨rfl, hb5⟩
        have HB5 := Aside0.mk hb5
        have HFI : Aside0 (fin r = schE es) := ⟨by
          rw [HSE.out]
          have h := HRr.out
          rw [HIE.out] at h
          exact fin_T h⟩
        rw [HFI.out]
        clear hb5
        go_wp2
        go_ret2
        refine ⟨rfl, ?_⟩
        have h1 := Below.lowr (HFr.out.below.trans HB5.out) (show w.heap.size ≤ b from by rw [HBE.out]; exact HB1.out.size)
        exact (HB1.out.trans (Below.lowr HB13.out HB1.out.size)).trans h1
  · have HSE : Aside0 (schE es = (⟨#[]⟩, j)) := ⟨by unfold schE; rw [← hj, if_neg h0]⟩
    have c1 : (j != 0) = true := bne_iff_ne.2 h0
    clear hj h0
    go_enter Tryd.func11, Tryd.ntmps11
    go_wp2_with fail
    rw [← HE0.out]
    refine HWH.out.mono ?_
    rintro e w1 ⟨rfl, hb1⟩
    have HB1 := Aside0.mk (below_step HB0.out hb1)
    clear hb1
    go_wp2
    go_ret2
    exact ⟨by rw [HSE.out]; rfl, HB1.out⟩
end Go.Proofs.YtaijoghpfobdbaaDoor.W
end
section
set_option linter.unusedVariables false
set_option linter.unusedSimpArgs false
namespace Go.Proofs.YtaijoghpfobdbaaDoor.W
open Go.RowKit Go.Proofs.YtaijoghpfobdbaaDoor.X Go.Proofs.YtaijoghpfobdbaaDoorW.PrintWords Go.Proofs.YtaijoghpfobdbaaDoorW.PrintLast Go.Proofs.YtaijoghpfobdbaaDoorW.PrintMore
open Go.Proofs.YtaijoghpfobdbaaDoor.P (Tr Nd Wrote puts put fin kv kd sg build dep dmx pile judgeE tx txs txN sepL WF StD VeD EvD wordB nameB emB noV goodB wordList wrs stE allE veE evE wholeE lineT txV stT veT evT schT schE)
theorem flat_get : ∀ (css : List (List Value)) (sz i j : Nat) (cs : List Value), (∀ c, c ∈ css → c.length = sz) → css[i]? = some cs → j < sz → css.flatten[i * sz + j]? = cs[j]?
  | [], sz, i, j, cs, _, h, _ => by simp at h
  | c :: css, sz, 0, j, cs, hl, h, hj => by
    simp only [List.getElem?_cons_zero, Option.some.injEq] at h
    subst h
    rw [List.flatten_cons, Nat.zero_mul, Nat.zero_add, List.getElem?_append_left (by rw [hl c (by simp)]; exact hj)]
  | c :: css, sz, i + 1, j, cs, hl, h, hj => by
    have hc := hl c (by simp)
    rw [List.flatten_cons, List.getElem?_append_right (by rw [hc, Nat.succ_mul]; omega), hc, show (i + 1) * sz + j - sz = i * sz + j by rw [Nat.succ_mul]; omega]
    exact flat_get css sz i j cs (fun d hd => hl d (List.mem_cons_of_mem _ hd)) (by simpa using h) hj
theorem C_rows {α : Type} (d : Kd α) {w : World} {g e : Nat} (xs : List α) (css : List (List Value)) (hl : css.length = xs.length) (hk : ∀ (i : Nat) (x : α) (cs : List Value), xs[i]? = some x → css[i]? = some cs → d.K w x cs)
    (h : w.heap[g]? = some (.cells css.flatten.toArray e (0, 0))) (hn : xs.length ≤ 9223372036854775807) : Kd.C d w (some ⟨g, 0, none⟩) xs.length xs := by
  refine ⟨rfl, hn, fun _ => ⟨_, rfl, fun j p hj => ?_⟩⟩
  have hj2 : j < css.length := by rw [hl]; exact (List.getElem?_eq_some_iff.1 hj).1
  have hcs : css[j]? = some css[j] := List.getElem?_eq_getElem hj2
  have hK := hk j p _ hj hcs
  refine ⟨css[j], d.K_len hK, hK, fun i u hu => ?_⟩
  have hi : i < d.sz := by rw [← d.K_len hK]; exact (List.getElem?_eq_some_iff.1 hu).1
  have hall : ∀ c, c ∈ css → c.length = d.sz := by
    intro c hc
    obtain ⟨m, hm, rfl⟩ := List.getElem_of_mem hc
    have hm2 : m < xs.length := by rw [← hl]; exact hm
    exact d.K_len (hk m xs[m] css[m] (List.getElem?_eq_getElem hm2) (List.getElem?_eq_getElem hm))
  show w.cell? ((⟨g, 0, none⟩ : Addr).add (j * d.sz + i)) = some u
  rw [Lib.add_plain, Nat.zero_add, blk_cell h, List.getElem?_toArray, flat_get css d.sz j i _ hall hcs hi]
  exact hu
def sumN : List Nd := [⟨1, 0, 1, ⟨#[]⟩, 0⟩, ⟨1, 0, 2, ⟨#[]⟩, 0⟩, ⟨1, 0, 3, ⟨#[]⟩, 0⟩, ⟨5, 0, 0, ⟨#[]⟩, 0⟩, ⟨8, 0, 0, ⟨#[]⟩, 0⟩, ⟨6, 0, 0, ⟨#[]⟩, 0⟩]
def sumT : Tr := .mk ⟨6, 0, 0, ⟨#[]⟩, 0⟩ [.mk ⟨1, 0, 1, ⟨#[]⟩, 0⟩ [], .mk ⟨8, 0, 0, ⟨#[]⟩, 0⟩ [.mk ⟨1, 0, 2, ⟨#[]⟩, 0⟩ [], .mk ⟨5, 0, 0, ⟨#[]⟩, 0⟩ [.mk ⟨1, 0, 3, ⟨#[]⟩, 0⟩ []]]]
theorem ba0 : (⟨#[]⟩ : ByteArray).toList = [] := by rw [ByteArray.toList_eq]
theorem sum_build : build sumN [] = some [sumT] := by
  have k1 : ∀ u : Int, kd ⟨1, 0, u, ⟨#[]⟩, 0⟩ = some 0 := fun u => by rw [P.kd_kr]; simp [P.badF, P.kr, ba0]
  have k5 : kd ⟨5, 0, 0, ⟨#[]⟩, 0⟩ = some 1 := by rw [P.kd_kr]; simp [P.badF, P.kr, ba0]
  have k6 : kd ⟨6, 0, 0, ⟨#[]⟩, 0⟩ = some 2 := by rw [P.kd_kr]; simp [P.badF, P.kr, ba0]
  have k8 : kd ⟨8, 0, 0, ⟨#[]⟩, 0⟩ = some 2 := by rw [P.kd_kr]; simp [P.badF, P.kr, ba0]
  simp [sumN, sumT, build, sg, k1, k5, k6, k8]
theorem dec1 (u : Nat) (h : u < 10) : Lib.decDigits u = [UInt8.ofNat (48 + u)] := by rw [Lib.decDigits, dif_pos h]
theorem sum_out : valE sumN = (⟨#[40, 49, 32, 43, 32, 40, 50, 32, 42, 32, 45, 51, 41, 41]⟩, 0) := by
  have hx : tx sumT = [40, 49, 32, 43, 32, 40, 50, 32, 42, 32, 45, 51, 41, 41] := by
    simp [sumT, tx, txs, txN, P.two, dec1]
  have hd : ¬ 100 < dep sumT := by simp [sumT, dep, dmx]
  unfold valE
  rw [sum_build]
  simp only [if_neg hd, hx]
  rfl
def stA : StD := ⟨1, ⟨#[97]⟩, ⟨#[]⟩, ⟨#[]⟩, ⟨#[]⟩, ⟨#[105, 110, 116]⟩, [], 0⟩
def evA : List EvD := [⟨⟨#[101]⟩, [⟨1, [stA], 0⟩, ⟨2, [], 0⟩], 0⟩]
theorem evA_out : schE evA = (⟨#[101, 118, 101, 110, 116, 32, 101, 32, 123, 10, 32, 32, 118, 101, 114, 115, 105, 111, 110, 32, 49, 32, 123, 10, 32, 32, 32, 32, 97, 100, 100, 32, 97, 58, 32, 105, 110, 116, 59, 10, 32, 32, 125, 10, 32, 32, 118, 101, 114, 115, 105, 111, 110, 32, 50, 32, 123, 10, 32, 32, 125, 10, 125, 10]⟩, 0) := by
  have n1 : nameB ⟨#[97]⟩ = true := by kernel_rfl
  have n2 : nameB ⟨#[105, 110, 116]⟩ = true := by kernel_rfl
  have n3 : nameB ⟨#[101]⟩ = true := by kernel_rfl
  have e0 : emB ⟨#[]⟩ = true := by unfold emB; rw [ba0]; rfl
  have hg : goodB stA = true := by
    unfold goodB stA
    simp [n1, n2, e0]
  have hs : stE stA = 0 := by unfold stE; rw [if_pos hg]; rfl
  have hw : wholeE evA = 0 := by
    simp [wholeE, evA, allE, evE, veE, n3, hs, wrs]
  have hx : schT evA = [101, 118, 101, 110, 116, 32, 101, 32, 123, 10, 32, 32, 118, 101, 114, 115, 105, 111, 110, 32, 49, 32, 123, 10, 32, 32, 32, 32, 97, 100, 100, 32, 97, 58, 32, 105, 110, 116, 59, 10, 32, 32, 125, 10, 32, 32, 118, 101, 114, 115, 105, 111, 110, 32, 50, 32, 123, 10, 32, 32, 125, 10, 125, 10] := by
    simp [schT, evA, evT, veT, stT, stA, lineT, dec1]
  unfold schE
  rw [if_pos hw, hx]
  rfl
def ndCs (n : Nd) : List Value := [.int .i64 n.f0, .int .i64 n.f1, .int .u64 n.f2, .string n.f3, .int .i64 n.f4]
theorem sumC {w : World} {g : Nat} (h : w.heap[g]? = some (.cells (sumN.map ndCs).flatten.toArray 46 (0, 0))) : Kd.C k46 w (some ⟨g, 0, none⟩) 6 sumN :=
  C_rows k46 sumN (sumN.map ndCs) (by simp) (fun i x cs hx hc => by
    rw [List.getElem?_map, hx] at hc
    injection hc with hc
    subst hc
    exact k46_mk w x) h (by decide)
set_option maxHeartbeats 2000000 in
set_option maxRecDepth 100000 in
theorem sum_calls (w : World) : Calls Tryd.prog 23 #[] w fun e w' => e = .returned (.slice (some ⟨w.heap.size, 0, none⟩) 6 6) ∧ w' = w.alloc (.cells (sumN.map ndCs).flatten.toArray 46) := by
  go_enter Tryd.func23, Tryd.ntmps23
  go_wp2
  go_ret
  exact ⟨rfl, rfl⟩
set_option maxHeartbeats 4000000 in
set_option maxRecDepth 100000 in
theorem awake_calls (w : World) (hT : U.Tab w.heap.size w) : Calls Tryd.prog 10 #[] w fun e w' => e = .returned (.bool true) ∧ Below w.heap.size w w' := by
  have HT := Aside0.mk hT
  clear hT
  go_enter Tryd.func10, Tryd.ntmps10
  go_wp2_with fail
  refine (sum_calls w).mono ?_
  rintro e w1 ⟨rfl, hw1⟩
  have hb1 : Below w.heap.size w w1 := by rw [hw1]; exact below_alloc (Below.refl _ _) _
  have HC1 := Aside0.mk (sumC (show w1.heap[w.heap.size]? = _ from by rw [hw1]; exact blk_new _ _))
  have HB1 := Aside0.mk hb1
  clear hw1 hb1
  go_wp2_with fail
  refine (value_calls w1 (some ⟨w.heap.size, 0, none⟩) 6 sumN HC1.out (by decide) (by intro n hn; simp only [sumN, List.mem_cons, List.not_mem_nil, or_false] at hn; rcases hn with rfl | rfl | rfl | rfl | rfl | rfl <;> decide) (Tab.high (HT.out.step HB1.out) HB1.out.size)).mono ?_
  rintro e w2 ⟨rfl, hb2⟩
  have HB2 := Aside0.mk (below_step HB1.out hb2)
  rw [sum_out]
  clear hb2
  obtain ⟨w3, hw3⟩ : ∃ w3, w3 = w2.alloc (.cells #[.int .i64 1, .string ⟨#[97]⟩, .string ⟨#[]⟩, .string ⟨#[]⟩, .string ⟨#[]⟩, .string ⟨#[105, 110, 116]⟩, .slice none 0 0, .int .i64 0] 55) := ⟨_, rfl⟩
  obtain ⟨w4, hw4⟩ : ∃ w4, w4 = w3.alloc (.cells #[.int .u64 1, .slice (some ⟨w2.heap.size, 0, none⟩) 1 1, .int .i64 0, .int .u64 2, .slice none 0 0, .int .i64 0] 53) := ⟨_, rfl⟩
  obtain ⟨w5, hw5⟩ : ∃ w5, w5 = w4.alloc (.cells #[.string ⟨#[101]⟩, .slice (some ⟨w3.heap.size, 0, none⟩) 2 2, .int .i64 0] 50) := ⟨_, rfl⟩
  have hb3 : Below w2.heap.size w2 w3 := by rw [hw3]; exact below_alloc (Below.refl _ _) _
  have hb4 : Below w3.heap.size w3 w4 := by rw [hw4]; exact below_alloc (Below.refl _ _) _
  have hb5 : Below w4.heap.size w4 w5 := by rw [hw5]; exact below_alloc (Below.refl _ _) _
  have hcS : Kd.C kS w5 (some ⟨w2.heap.size, 0, none⟩) 1 [stA] := by
    refine C_rows kS [stA] [[.int .i64 1, .string ⟨#[97]⟩, .string ⟨#[]⟩, .string ⟨#[]⟩, .string ⟨#[]⟩, .string ⟨#[105, 110, 116]⟩, .slice none 0 0, .int .i64 0]] rfl (fun i x cs hx hc => ?_) (blk_below (blk_below (show w3.heap[w2.heap.size]? = _ from by rw [hw3]; exact blk_new _ _) hb4) hb5) (by decide)
    match i, hx, hc with
    | 0, hx, hc =>
      injection hx with hx
      injection hc with hc
      subst hx hc
      exact ⟨[_], _, rfl, rfl, [_], _, rfl, rfl, [_], _, rfl, rfl, [_], _, rfl, rfl, [_], _, rfl, rfl, [_], _, rfl, rfl, [_], _, rfl, ⟨none, 0, rfl, Nat.le_refl _, Kd.C_nil _ _⟩, rfl⟩
  have hcV : Kd.C kV w5 (some ⟨w3.heap.size, 0, none⟩) 2 [⟨1, [stA], 0⟩, ⟨2, [], 0⟩] := by
    refine C_rows kV [⟨1, [stA], 0⟩, ⟨2, [], 0⟩] [[.int .u64 1, .slice (some ⟨w2.heap.size, 0, none⟩) 1 1, .int .i64 0], [.int .u64 2, .slice none 0 0, .int .i64 0]] rfl (fun i x cs hx hc => ?_) (blk_below (show w4.heap[w3.heap.size]? = _ from by rw [hw4]; exact blk_new _ _) hb5) (by decide)
    match i, hx, hc with
    | 0, hx, hc =>
      injection hx with hx
      injection hc with hc
      subst hx hc
      exact ⟨[_], _, rfl, rfl, [_], _, rfl, ⟨_, 1, rfl, Nat.le_refl _, hcS⟩, rfl⟩
    | 1, hx, hc =>
      injection hx with hx
      injection hc with hc
      subst hx hc
      exact ⟨[_], _, rfl, rfl, [_], _, rfl, ⟨none, 0, rfl, Nat.le_refl _, Kd.C_nil _ _⟩, rfl⟩
  have hcE : Kd.C kE w5 (some ⟨w4.heap.size, 0, none⟩) 1 evA := by
    refine C_rows kE evA [[.string ⟨#[101]⟩, .slice (some ⟨w3.heap.size, 0, none⟩) 2 2, .int .i64 0]] rfl (fun i x cs hx hc => ?_) (show w5.heap[w4.heap.size]? = _ from by rw [hw5]; exact blk_new _ _) (by decide)
    match i, hx, hc with
    | 0, hx, hc =>
      injection hx with hx
      injection hc with hc
      subst hx hc
      exact ⟨[_], _, rfl, rfl, [_], _, rfl, ⟨_, 2, rfl, Nat.le_refl _, hcV⟩, rfl⟩
  have HCE := Aside0.mk hcE
  have HB5 := Aside0.mk (below_step HB2.out (below_step (below_step hb3 hb4) hb5))
  have HGE : Aside0 (GoodE evA) := ⟨by
    intro e he v hv
    simp only [evA, List.mem_singleton] at he
    subst he
    simp only [List.mem_cons, List.not_mem_nil, or_false] at hv
    rcases hv with rfl | rfl
    · refine ⟨by decide, fun d hd => ?_⟩
      simp only [List.mem_singleton] at hd
      subst hd
      exact ⟨by decide, fun n hn => by cases hn⟩
    · exact ⟨by decide, fun d hd => by cases hd⟩⟩
  have s3 : w3.heap.size = w2.heap.size + 1 := by rw [hw3]; simp
  have s4 : w4.heap.size = w2.heap.size + 2 := by rw [hw4]; simp [s3]
  have HS := Aside0.mk (And.intro s3 s4)
  have H3 := Aside0.mk hw3
  have H4 := Aside0.mk hw4
  have H5 := Aside0.mk hw5
  clear hw3 hw4 hw5 hb3 hb4 hb5 hcS hcV hcE s3 s4
  go_wp2_with fail
  rw [← H3.out, ← HS.out.1, ← H4.out, ← H5.out, show w3.heap.size + 1 = w4.heap.size from by rw [HS.out.1, HS.out.2]]
  refine (schema_calls w5 (some ⟨w4.heap.size, 0, none⟩) 1 evA HCE.out HGE.out (Tab.high (HT.out.step HB5.out) HB5.out.size)).mono ?_
  rintro e w6 ⟨rfl, hb6⟩
  have HB6 := Aside0.mk (below_step HB5.out hb6)
  rw [evA_out]
  clear hb6
  go_wp2
  go_ret
  exact ⟨rfl, HB6.out⟩
end Go.Proofs.YtaijoghpfobdbaaDoor.W
end
section
set_option linter.unusedVariables false
namespace Go.Proofs.YtaijoghpfobdbaaDoor.R
open Go.RowKit Go.Proofs.YtaijoghpfobdbaaDoorW.PrintWords
theorem own : ownKnob Tryd.prog.godebug = none := by kernel_rfl
theorem laidOut : laidOutB Tryd.prog = true := by kernel_rfl
theorem gTab : Tryd.prog.globalNamed "internal/strconv.uint64pow10" = some 0 := by kernel_rfl
theorem gTabType : (Tryd.prog.globals[0]?).map (·.type) = some 156 := by kernel_rfl
theorem cellsA : Tryd.prog.cellsOf 156 = 20 := by kernel_rfl
theorem cellsE : Tryd.prog.cellsOf 44 = 1 := by kernel_rfl
def laid3 : List (String × DataW Unit) := [("math/bits.deBruijn32tab", Rows.laid_math_bits_deBruijn32tab), ("math/bits.deBruijn64tab", Rows.laid_math_bits_deBruijn64tab), ("internal/strconv.uint64pow10", Rows.laid_internal_strconv_uint64pow10)]
theorem table {W : World} (h : laidMetH Tryd.prog laid3 W) : U.Tab W.heap.size W := by
  have h1 : laidMet Tryd.prog [("internal/strconv.uint64pow10", Lib.tabData .u64 Lib.pow10Tab)] W := laidMet.filter (fun x => x.1 == "internal/strconv.uint64pow10") h
  refine ⟨fun w' hb => ?_⟩
  have t : Lib.TabIs Tryd.prog W "internal/strconv.uint64pow10" .u64 Lib.pow10Tab := Lib.tabIs_of_head (rest := []) gTab gTabType Tryd.underlying156 Tryd.underlying44 cellsE cellsA h1
  unfold Lib.TabIs at t ⊢
  unfold World.var? at t ⊢
  rw [gTab] at t ⊢
  simp only [Option.bind_some] at t ⊢
  have hlt : 0 < W.heap.size := by
    rcases Nat.eq_zero_or_pos W.heap.size with h0 | h0
    · rw [Array.getElem?_eq_none (by omega)] at t; cases t
    · exact h0
  rw [hb.block 0 hlt]
  exact t
def put (zs : List Value) : Obj → Obj
  | .cells _ t frozen => .cells zs.toArray t frozen
  | o => o
def litV : DataW Unit → Value
  | .lit (.int k n) => .int k n
  | _ => .int .i64 0
def tabV : DataW Unit → List Value
  | .agg l => l.map litV
  | _ => []
noncomputable def laidWorld (os : Os) : World :=
  { World.holding Tryd.prog os ⟨#[], #[], []⟩ with heap := (((World.holding Tryd.prog os ⟨#[], #[], []⟩).heap.modify 0 (put (tabV Rows.laid_internal_strconv_uint64pow10))).modify 2 (put (tabV Rows.laid_math_bits_deBruijn32tab))).modify 3 (put (tabV Rows.laid_math_bits_deBruijn64tab)) }
end Go.Proofs.YtaijoghpfobdbaaDoor.R
end
section
set_option linter.unusedVariables false
set_option linter.unusedSimpArgs false
set_option maxRecDepth 100000
namespace Go.Proofs.YtaijoghpfobdbaaDoor.R
open Go.ChangeShapes Go.WideShapes Go.ChangeAt Go.RowKit Go.Proofs.YtaijoghpfobdbaaDoorW.PrintWords Go.Proofs.YtaijoghpfobdbaaDoor.X
open Go.Proofs.YtaijoghpfobdbaaDoor.P (Nd)
open Go.Proofs.YtaijoghpfobdbaaDoor.Rows (uptoBulk uptoBulkAll)
theorem bulk_one {H : Type} : ∀ d : DataW H, 1 ≤ uptoBulk d := by
  intro d
  cases d with
  | lit l => cases l <;> simp [uptoBulk]
  | _ => simp [uptoBulk]
theorem bulk_len {H : Type} : ∀ l : List (DataW H), l.length ≤ uptoBulkAll l
  | [] => Nat.zero_le _
  | d :: r => by
    have := bulk_one d
    have := bulk_len r
    rw [uptoBulkAll, List.length_cons]; omega
theorem bulk_mem {H : Type} : ∀ {l : List (DataW H)} {i : Nat} {d : DataW H}, l[i]? = some d → uptoBulk d ≤ uptoBulkAll l
  | [], i, d, h => by simp at h
  | x :: r, 0, d, h => by
    simp only [List.getElem?_cons_zero, Option.some.injEq] at h
    subst h
    rw [uptoBulkAll]; omega
  | x :: r, i + 1, d, h => by
    have := bulk_mem (l := r) (i := i) (d := d) (by simpa using h)
    rw [uptoBulkAll]; omega
section
variable {H : Type} {enc : TypeId × Value → H} {P : Program} {W : World} {base : Nat} {spare : Nat → Bool} {held : Bool}
theorem rows_bulk {α : Type} (K : Kd α) (z0 : α) {t e : TypeId} {a : Option Addr} {len cap : Nat} {d : DataW H} {ps : List MemPlace} (ht : P.underlying t = some (.slice e)) (hsz : P.cellsOf e = K.sz) (Q : α → Prop)
    (helem : ∀ (n : Nat) (cs : List Value) (y : DataW H × List MemPlace), DataW.trod enc P W base spare held n e cs = some y → uptoBulk y.1 ≤ 1048576 → ∃ x : α, K.K W x cs ∧ Q x)
    (hw : uptoBulk d ≤ 1048576) (h : DataW.Trod enc P W base spare held t (.slice a len cap) d ps) :
    ∃ xs : List α, K.C W a xs.length xs ∧ len = xs.length ∧ xs.length ≤ cap ∧ (∀ x ∈ xs, Q x) ∧ xs.length ≤ 1048576 := by
  obtain ⟨fuel, hf⟩ := h
  rcases Go.Deep.open_slice ht hf with ⟨hcs, hx⟩ | ⟨ad, l, c, m, n, D, Pl, hcs, _, hl, hm, hmm, hx, hel⟩
  · simp [Value.cells] at hcs
    obtain ⟨rfl, rfl, rfl⟩ := hcs
    exact ⟨[], Kd.C_nil K W, rfl, Nat.le_refl _, by simp, by simp⟩
  · simp [Value.cells] at hcs
    obtain ⟨rfl, rfl, rfl⟩ := hcs
    obtain ⟨hd, _⟩ := Prod.mk.inj hx
    subst hd
    have hle : len ≤ m := by rw [hmm]; split <;> omega
    rw [uptoBulk] at hw
    have hlen : len ≤ 1048576 := by
      have := bulk_len ((List.range len).map D)
      rw [List.length_map, List.length_range] at this
      omega
    have each : ∀ i, ∃ x : α, i < len → (∃ cs', W.cells? base (ad.add (i * P.cellsOf e)) (P.cellsOf e) = some cs' ∧ K.K W x cs') ∧ Q x := by
      intro i
      by_cases hi : i < len
      · obtain ⟨cs', hc, htr⟩ := hel i (by omega)
        have hwi : uptoBulk (D i, Pl i).1 ≤ 1048576 := by
          have := bulk_mem (l := (List.range len).map D) (i := i) (d := D i) (by rw [List.getElem?_map, List.getElem?_range hi]; rfl)
          show uptoBulk (D i) ≤ 1048576
          omega
        obtain ⟨x, hx, hq⟩ := helem n cs' (D i, Pl i) htr hwi
        exact ⟨x, fun _ => ⟨⟨cs', hc, hx⟩, hq⟩⟩
      · exact ⟨z0, fun hi2 => absurd hi2 hi⟩
    obtain ⟨f, hf2⟩ := Classical.axiomOfChoice each
    have hml : (9223372036854775807 : Nat) = maxLen := rfl
    refine ⟨(List.range len).map f, ⟨rfl, ?_, fun _ => ⟨ad, rfl, fun j p hp => ?_⟩⟩, by simp, by simpa using hl, ?_, by simpa using hlen⟩
    · rw [List.length_map, List.length_range, hml]; omega
    · have hj : j < len := by
        have := (List.getElem?_eq_some_iff.1 hp).1
        simpa using this
      rw [List.getElem?_map, List.getElem?_range hj] at hp
      obtain rfl : f j = p := Option.some.inj hp
      obtain ⟨⟨cs', hc, hk⟩, _⟩ := hf2 j hj
      refine ⟨cs', K.K_len hk, hk, fun i u hu => ?_⟩
      have hi : i < K.sz := by
        have := (List.getElem?_eq_some_iff.1 hu).1
        rw [K.K_len hk] at this; exact this
      obtain ⟨_, _, hcell⟩ := World.cells?_some hc
      have h3 := hcell i (by rw [hsz]; exact hi)
      rw [Addr.add_add, hsz] at h3
      rw [h3, hu]
    · intro x hx
      obtain ⟨i, hi, rfl⟩ := List.mem_map.1 hx
      exact (hf2 i (List.mem_range.1 hi)).2
theorem slice_cell {t e : TypeId} {n : Nat} {c : Value} {y : DataW H × List MemPlace} (ht : P.underlying t = some (.slice e)) (h : DataW.trod enc P W base spare held n t [c] = some y) : ∃ a len cap, c = .slice a len cap := by
  rcases Go.Deep.open_slice ht h with ⟨hc, _⟩ | ⟨ad, l, c, _, _, _, _, hc, _⟩
  · exact ⟨_, _, _, by simpa using hc⟩
  · exact ⟨_, _, _, by simpa using hc⟩
theorem struct3 {t : TypeId} {f0 f1 f2 : Field} {fuel : Nat} {cs : List Value} {x : DataW H × List MemPlace} (ht : P.underlying t = some (.struct #[f0, f1, f2])) (h : DataW.trod enc P W base spare held fuel t cs = some x) :
    ∃ y0 y1 y2 n, x.1 = .agg [y0.1, y1.1, y2.1] ∧ cs.length = P.cellsOf t ∧ DataW.trod enc P W base spare held n f0.type ((cs.drop f0.offset).take (P.cellsOf f0.type)) = some y0 ∧
      DataW.trod enc P W base spare held n f1.type ((cs.drop f1.offset).take (P.cellsOf f1.type)) = some y1 ∧ DataW.trod enc P W base spare held n f2.type ((cs.drop f2.offset).take (P.cellsOf f2.type)) = some y2 := by
  obtain ⟨xs, n, _, rfl, hl, hlen, hf⟩ := DataW.trod_struct ht h
  match xs, hlen with
  | [y0, y1, y2], _ => exact ⟨y0, y1, y2, n, by simp, hl, by simpa using hf 0 f0 rfl, by simpa using hf 1 f1 rfl, by simpa using hf 2 f2 rfl⟩
theorem struct5 {t : TypeId} {f0 f1 f2 f3 f4 : Field} {fuel : Nat} {cs : List Value} {x : DataW H × List MemPlace} (ht : P.underlying t = some (.struct #[f0, f1, f2, f3, f4])) (h : DataW.trod enc P W base spare held fuel t cs = some x) :
    ∃ y0 y1 y2 y3 y4 n, x.1 = .agg [y0.1, y1.1, y2.1, y3.1, y4.1] ∧ cs.length = P.cellsOf t ∧ DataW.trod enc P W base spare held n f0.type ((cs.drop f0.offset).take (P.cellsOf f0.type)) = some y0 ∧
      DataW.trod enc P W base spare held n f1.type ((cs.drop f1.offset).take (P.cellsOf f1.type)) = some y1 ∧ DataW.trod enc P W base spare held n f2.type ((cs.drop f2.offset).take (P.cellsOf f2.type)) = some y2 ∧
      DataW.trod enc P W base spare held n f3.type ((cs.drop f3.offset).take (P.cellsOf f3.type)) = some y3 ∧ DataW.trod enc P W base spare held n f4.type ((cs.drop f4.offset).take (P.cellsOf f4.type)) = some y4 := by
  obtain ⟨xs, n, _, rfl, hl, hlen, hf⟩ := DataW.trod_struct ht h
  match xs, hlen with
  | [y0, y1, y2, y3, y4], _ => exact ⟨y0, y1, y2, y3, y4, n, by simp, hl, by simpa using hf 0 f0 rfl, by simpa using hf 1 f1 rfl, by simpa using hf 2 f2 rfl, by simpa using hf 3 f3 rfl, by simpa using hf 4 f4 rfl⟩
end
theorem node_elem {H : Type} {enc : TypeId × Value → H} {W : World} {base : Nat} {spare : Nat → Bool} {held : Bool} (n : Nat) (cs : List Value) (y : DataW H × List MemPlace)
    (h : DataW.trod enc Tryd.prog W base spare held n 46 cs = some y) : ∃ x : Nd, k46.K W x cs ∧ (0 ≤ x.f2 ∧ x.f2 < 18446744073709551616) := by
  obtain ⟨y0, y1, y2, y3, y4, m, _, hl, h0, h1, h2, h3, h4⟩ := struct5 Tryd.underlying46 h
  rw [show Tryd.prog.cellsOf 46 = 5 from by kernel_rfl] at hl
  match cs, hl with
  | [c0, c1, c2, c3, c4], _ =>
    have zi : Tryd.prog.cellsOf 3 = 1 := by kernel_rfl
    have zu : Tryd.prog.cellsOf 44 = 1 := by kernel_rfl
    have zs : Tryd.prog.cellsOf 9 = 1 := by kernel_rfl
    have h0' : DataW.trod enc Tryd.prog W base spare held m 3 ([c0, c1, c2, c3, c4].take (Tryd.prog.cellsOf 3)) = some y0 := h0
    have h1' : DataW.trod enc Tryd.prog W base spare held m 3 ([c1, c2, c3, c4].take (Tryd.prog.cellsOf 3)) = some y1 := h1
    have h2' : DataW.trod enc Tryd.prog W base spare held m 44 ([c2, c3, c4].take (Tryd.prog.cellsOf 44)) = some y2 := h2
    have h3' : DataW.trod enc Tryd.prog W base spare held m 9 ([c3, c4].take (Tryd.prog.cellsOf 9)) = some y3 := h3
    have h4' : DataW.trod enc Tryd.prog W base spare held m 3 ([c4].take (Tryd.prog.cellsOf 3)) = some y4 := h4
    rw [zi] at h0' h1' h4'
    rw [zu] at h2'
    rw [zs] at h3'
    obtain ⟨i0, e0, _, _⟩ := DataW.trod_int Tryd.underlying3 h0'
    obtain ⟨i1, e1, _, _⟩ := DataW.trod_int Tryd.underlying3 h1'
    obtain ⟨i2, e2, w2, _⟩ := DataW.trod_int Tryd.underlying44 h2'
    obtain ⟨s3, e3, _, _⟩ := DataW.trod_string Tryd.underlying9 h3'
    obtain ⟨i4, e4, _, _⟩ := DataW.trod_int Tryd.underlying3 h4'
    obtain rfl : c0 = .int .i64 i0 := by simpa using e0
    obtain rfl : c1 = .int .i64 i1 := by simpa using e1
    obtain rfl : c2 = .int .u64 i2 := by simpa using e2
    obtain rfl : c3 = .string s3 := by simpa using e3
    obtain rfl : c4 = .int .i64 i4 := by simpa using e4
    refine ⟨⟨i0, i1, i2, s3, i4⟩, k46_mk W ⟨i0, i1, i2, s3, i4⟩, ?_⟩
    have := Go.bounds_u64 (by assumption : (Lit.int .u64 i2).wf = true)
    exact ⟨this.1, by have := this.2; show i2 < _; omega⟩
end Go.Proofs.YtaijoghpfobdbaaDoor.R
end
section
set_option linter.unusedVariables false
set_option linter.unusedSimpArgs false
set_option maxRecDepth 100000
namespace Go.Proofs.YtaijoghpfobdbaaDoor.R
open Go.ChangeShapes Go.WideShapes Go.ChangeAt Go.RowKit Go.Proofs.YtaijoghpfobdbaaDoorW.PrintWords Go.Proofs.YtaijoghpfobdbaaDoor.X
open Go.Proofs.YtaijoghpfobdbaaDoor.P (Nd StD VeD EvD)
open Go.Proofs.YtaijoghpfobdbaaDoor.W (kS kV kE)
open Go.Proofs.YtaijoghpfobdbaaDoor.Rows (uptoBulk uptoBulkAll)
def NS (n : Nd) : Prop := (0 ≤ n.f2 ∧ n.f2 < 18446744073709551616) ∧ n.f3.size ≤ 1048576
def SS (d : StD) : Prop := (d.a.size ≤ 1048576 ∧ d.b.size ≤ 1048576 ∧ d.c.size ≤ 1048576 ∧ d.sep.size ≤ 1048576 ∧ d.ty.size ≤ 1048576) ∧ d.val.length ≤ 1048576 ∧ ∀ n, n ∈ d.val → NS n
def VS (v : VeD) : Prop := (0 ≤ v.num ∧ v.num < 18446744073709551616) ∧ v.steps.length ≤ 1048576 ∧ ∀ d, d ∈ v.steps → SS d
def ES (e : EvD) : Prop := e.name.size ≤ 1048576 ∧ e.vers.length ≤ 1048576 ∧ ∀ v, v ∈ e.vers → VS v
section
variable {H : Type} {enc : TypeId × Value → H} {W : World} {base : Nat} {spare : Nat → Bool} {held : Bool}
theorem str_bulk {n : Nat} {c : Value} {y : DataW H × List MemPlace} (h : DataW.trod enc Tryd.prog W base spare held n 9 [c] = some y) (hb : uptoBulk y.1 ≤ 1048576) : ∃ s : ByteArray, c = .string s ∧ s.size ≤ 1048576 := by
  obtain ⟨s, e, hy1, hy2⟩ := DataW.trod_string Tryd.underlying9 h
  have hy := hy1
  obtain rfl : c = .string s := by simpa using e
  refine ⟨s, rfl, ?_⟩
  rw [hy] at hb
  simp only [uptoBulk, Array.length_toList] at hb
  have : s.size = s.data.size := rfl
  omega
theorem node_elem2 (n : Nat) (cs : List Value) (y : DataW H × List MemPlace)
    (h : DataW.trod enc Tryd.prog W base spare held n 46 cs = some y) (hb : uptoBulk y.1 ≤ 1048576) : ∃ x : Nd, k46.K W x cs ∧ NS x := by
  obtain ⟨x, hx, hr⟩ := node_elem n cs y h
  refine ⟨x, hx, hr, ?_⟩
  obtain rfl := k46_open hx
  obtain ⟨y0, y1, y2, y3, y4, m, hd, hl, h0, h1, h2, h3, h4⟩ := struct5 Tryd.underlying46 h
  have zs : Tryd.prog.cellsOf 9 = 1 := by kernel_rfl
  have h3' : DataW.trod enc Tryd.prog W base spare held m 9 ([.string x.f3, .int .i64 x.f4].take (Tryd.prog.cellsOf 9)) = some y3 := h3
  rw [zs] at h3'
  rw [hd] at hb
  simp only [uptoBulk, uptoBulkAll] at hb
  obtain ⟨s, e, hs⟩ := str_bulk h3' (by omega)
  injection e with e
  rw [e]; exact hs
theorem nds2_of {a : Option Addr} {len cap : Nat} {d : DataW H} {ps : List MemPlace} (hb : uptoBulk d ≤ 1048576)
    (h : DataW.Trod enc Tryd.prog W base spare held 25 (.slice a len cap) d ps) :
    ∃ l : List Nd, Kd.C k46 W a l.length l ∧ len = l.length ∧ l.length ≤ cap ∧ (∀ n, n ∈ l → NS n) ∧ l.length ≤ 1048576 :=
  rows_bulk k46 z46 Tryd.underlying25 (e := 46) (show Tryd.prog.cellsOf 46 = 5 by kernel_rfl) NS node_elem2 hb h
theorem kS_mk (w : World) (x : StD) (A : Option Addr) (c : Nat) (hc : x.val.length ≤ c) (hC : Kd.C k46 w A x.val.length x.val) : kS.K w x [.int .i64 x.k, .string x.a, .string x.b, .string x.c, .string x.sep, .string x.ty, .slice A x.val.length c, .int .i64 x.pl] :=
  ⟨[_], [_, _, _, _, _, _, _], rfl, rfl, ⟨[_], [_, _, _, _, _, _], rfl, rfl, ⟨[_], [_, _, _, _, _], rfl, rfl, ⟨[_], [_, _, _, _], rfl, rfl, ⟨[_], [_, _, _], rfl, rfl, ⟨[_], [_, _], rfl, rfl, ⟨[_], [_], rfl, ⟨A, c, rfl, hc, hC⟩, rfl⟩⟩⟩⟩⟩⟩⟩
theorem kV_mk (w : World) (x : VeD) (A : Option Addr) (c : Nat) (hc : x.steps.length ≤ c) (hC : Kd.C kS w A x.steps.length x.steps) : kV.K w x [.int .u64 x.num, .slice A x.steps.length c, .int .i64 x.pl] :=
  ⟨[_], [_, _], rfl, rfl, ⟨[_], [_], rfl, ⟨A, c, rfl, hc, hC⟩, rfl⟩⟩
theorem kE_mk (w : World) (x : EvD) (A : Option Addr) (c : Nat) (hc : x.vers.length ≤ c) (hC : Kd.C kV w A x.vers.length x.vers) : kE.K w x [.string x.name, .slice A x.vers.length c, .int .i64 x.pl] :=
  ⟨[_], [_, _], rfl, rfl, ⟨[_], [_], rfl, ⟨A, c, rfl, hc, hC⟩, rfl⟩⟩
theorem struct8 {P : Program} {t : TypeId} {f0 f1 f2 f3 f4 f5 f6 f7 : Field} {fuel : Nat} {cs : List Value} {x : DataW H × List MemPlace} (ht : P.underlying t = some (.struct #[f0, f1, f2, f3, f4, f5, f6, f7])) (h : DataW.trod enc P W base spare held fuel t cs = some x) :
    ∃ y0 y1 y2 y3 y4 y5 y6 y7 n, x.1 = .agg [y0.1, y1.1, y2.1, y3.1, y4.1, y5.1, y6.1, y7.1] ∧ cs.length = P.cellsOf t ∧ DataW.trod enc P W base spare held n f0.type ((cs.drop f0.offset).take (P.cellsOf f0.type)) = some y0 ∧
      DataW.trod enc P W base spare held n f1.type ((cs.drop f1.offset).take (P.cellsOf f1.type)) = some y1 ∧ DataW.trod enc P W base spare held n f2.type ((cs.drop f2.offset).take (P.cellsOf f2.type)) = some y2 ∧
      DataW.trod enc P W base spare held n f3.type ((cs.drop f3.offset).take (P.cellsOf f3.type)) = some y3 ∧ DataW.trod enc P W base spare held n f4.type ((cs.drop f4.offset).take (P.cellsOf f4.type)) = some y4 ∧
      DataW.trod enc P W base spare held n f5.type ((cs.drop f5.offset).take (P.cellsOf f5.type)) = some y5 ∧ DataW.trod enc P W base spare held n f6.type ((cs.drop f6.offset).take (P.cellsOf f6.type)) = some y6 ∧
      DataW.trod enc P W base spare held n f7.type ((cs.drop f7.offset).take (P.cellsOf f7.type)) = some y7 := by
  obtain ⟨xs, n, _, rfl, hl, hlen, hf⟩ := DataW.trod_struct ht h
  match xs, hlen with
  | [y0, y1, y2, y3, y4, y5, y6, y7], _ => exact ⟨y0, y1, y2, y3, y4, y5, y6, y7, n, by simp, hl, by simpa using hf 0 f0 rfl, by simpa using hf 1 f1 rfl, by simpa using hf 2 f2 rfl, by simpa using hf 3 f3 rfl, by simpa using hf 4 f4 rfl, by simpa using hf 5 f5 rfl, by simpa using hf 6 f6 rfl, by simpa using hf 7 f7 rfl⟩
theorem step_elem (n : Nat) (cs : List Value) (y : DataW H × List MemPlace)
    (h : DataW.trod enc Tryd.prog W base spare held n 55 cs = some y) (hb : uptoBulk y.1 ≤ 1048576) : ∃ x : StD, kS.K W x cs ∧ SS x := by
  obtain ⟨y0, y1, y2, y3, y4, y5, y6, y7, m, hd, hl, h0, h1, h2, h3, h4, h5, h6, h7⟩ := struct8 Tryd.underlying55 h
  rw [show Tryd.prog.cellsOf 55 = 8 from by kernel_rfl] at hl
  match cs, hl with
  | [c0, c1, c2, c3, c4, c5, c6, c7], _ =>
    have zi : Tryd.prog.cellsOf 3 = 1 := by kernel_rfl
    have zl : Tryd.prog.cellsOf 25 = 1 := by kernel_rfl
    have zs : Tryd.prog.cellsOf 9 = 1 := by kernel_rfl
    have h0' : DataW.trod enc Tryd.prog W base spare held m 3 ([c0, c1, c2, c3, c4, c5, c6, c7].take (Tryd.prog.cellsOf 3)) = some y0 := h0
    have h1' : DataW.trod enc Tryd.prog W base spare held m 9 ([c1, c2, c3, c4, c5, c6, c7].take (Tryd.prog.cellsOf 9)) = some y1 := h1
    have h2' : DataW.trod enc Tryd.prog W base spare held m 9 ([c2, c3, c4, c5, c6, c7].take (Tryd.prog.cellsOf 9)) = some y2 := h2
    have h3' : DataW.trod enc Tryd.prog W base spare held m 9 ([c3, c4, c5, c6, c7].take (Tryd.prog.cellsOf 9)) = some y3 := h3
    have h4' : DataW.trod enc Tryd.prog W base spare held m 9 ([c4, c5, c6, c7].take (Tryd.prog.cellsOf 9)) = some y4 := h4
    have h5' : DataW.trod enc Tryd.prog W base spare held m 9 ([c5, c6, c7].take (Tryd.prog.cellsOf 9)) = some y5 := h5
    have h6' : DataW.trod enc Tryd.prog W base spare held m 25 ([c6, c7].take (Tryd.prog.cellsOf 25)) = some y6 := h6
    have h7' : DataW.trod enc Tryd.prog W base spare held m 3 ([c7].take (Tryd.prog.cellsOf 3)) = some y7 := h7
    rw [zi] at h0' h7'
    rw [zs] at h1' h2' h3' h4' h5'
    rw [zl] at h6'
    rw [hd] at hb
    simp only [uptoBulk, uptoBulkAll] at hb
    obtain ⟨i0, e0, _, _⟩ := DataW.trod_int Tryd.underlying3 h0'
    obtain ⟨i7, e7, _, _⟩ := DataW.trod_int Tryd.underlying3 h7'
    obtain rfl : c0 = .int .i64 i0 := by simpa using e0
    obtain rfl : c7 = .int .i64 i7 := by simpa using e7
    obtain ⟨s1, rfl, b1⟩ := str_bulk (show DataW.trod enc Tryd.prog W base spare held m 9 [c1] = some y1 from h1') (by omega)
    obtain ⟨s2, rfl, b2⟩ := str_bulk (show DataW.trod enc Tryd.prog W base spare held m 9 [c2] = some y2 from h2') (by omega)
    obtain ⟨s3, rfl, b3⟩ := str_bulk (show DataW.trod enc Tryd.prog W base spare held m 9 [c3] = some y3 from h3') (by omega)
    obtain ⟨s4, rfl, b4⟩ := str_bulk (show DataW.trod enc Tryd.prog W base spare held m 9 [c4] = some y4 from h4') (by omega)
    obtain ⟨s5, rfl, b5⟩ := str_bulk (show DataW.trod enc Tryd.prog W base spare held m 9 [c5] = some y5 from h5') (by omega)
    obtain ⟨a6, n6, k6, rfl⟩ := slice_cell Tryd.underlying25 (show DataW.trod enc Tryd.prog W base spare held m 25 [c6] = some y6 from h6')
    obtain ⟨l, g1, rfl, g3, g4, g5⟩ := nds2_of (by omega) (⟨m, h6'⟩ : DataW.Trod enc Tryd.prog W base spare held 25 (.slice a6 n6 k6) y6.1 y6.2)
    exact ⟨⟨i0, s1, s2, s3, s4, s5, l, i7⟩, kS_mk W ⟨i0, s1, s2, s3, s4, s5, l, i7⟩ a6 k6 g3 g1, ⟨b1, b2, b3, b4, b5⟩, g5, g4⟩
theorem steps_of {a : Option Addr} {len cap : Nat} {d : DataW H} {ps : List MemPlace} (hb : uptoBulk d ≤ 1048576)
    (h : DataW.Trod enc Tryd.prog W base spare held 51 (.slice a len cap) d ps) :
    ∃ l : List StD, Kd.C kS W a l.length l ∧ len = l.length ∧ l.length ≤ cap ∧ (∀ n, n ∈ l → SS n) ∧ l.length ≤ 1048576 :=
  rows_bulk kS ⟨0, ⟨#[]⟩, ⟨#[]⟩, ⟨#[]⟩, ⟨#[]⟩, ⟨#[]⟩, [], 0⟩ Tryd.underlying51 (e := 55) (show Tryd.prog.cellsOf 55 = 8 by kernel_rfl) SS step_elem hb h
theorem ver_elem (n : Nat) (cs : List Value) (y : DataW H × List MemPlace)
    (h : DataW.trod enc Tryd.prog W base spare held n 53 cs = some y) (hb : uptoBulk y.1 ≤ 1048576) : ∃ x : VeD, kV.K W x cs ∧ VS x := by
  obtain ⟨y0, y1, y2, m, hd, hl, h0, h1, h2⟩ := struct3 Tryd.underlying53 h
  rw [show Tryd.prog.cellsOf 53 = 3 from by kernel_rfl] at hl
  match cs, hl with
  | [c0, c1, c2], _ =>
    have zi : Tryd.prog.cellsOf 3 = 1 := by kernel_rfl
    have zu : Tryd.prog.cellsOf 44 = 1 := by kernel_rfl
    have zl : Tryd.prog.cellsOf 51 = 1 := by kernel_rfl
    have h0' : DataW.trod enc Tryd.prog W base spare held m 44 ([c0, c1, c2].take (Tryd.prog.cellsOf 44)) = some y0 := h0
    have h1' : DataW.trod enc Tryd.prog W base spare held m 51 ([c1, c2].take (Tryd.prog.cellsOf 51)) = some y1 := h1
    have h2' : DataW.trod enc Tryd.prog W base spare held m 3 ([c2].take (Tryd.prog.cellsOf 3)) = some y2 := h2
    rw [zi] at h2'
    rw [zu] at h0'
    rw [zl] at h1'
    rw [hd] at hb
    simp only [uptoBulk, uptoBulkAll] at hb
    obtain ⟨i0, e0, w0, _⟩ := DataW.trod_int Tryd.underlying44 h0'
    obtain ⟨i2, e2, _, _⟩ := DataW.trod_int Tryd.underlying3 h2'
    obtain rfl : c0 = .int .u64 i0 := by simpa using e0
    obtain rfl : c2 = .int .i64 i2 := by simpa using e2
    obtain ⟨a1, n1, k1, rfl⟩ := slice_cell Tryd.underlying51 (show DataW.trod enc Tryd.prog W base spare held m 51 [c1] = some y1 from h1')
    obtain ⟨l, g1, rfl, g3, g4, g5⟩ := steps_of (by omega) (⟨m, h1'⟩ : DataW.Trod enc Tryd.prog W base spare held 51 (.slice a1 n1 k1) y1.1 y1.2)
    have hu := Go.bounds_u64 (by assumption : (Lit.int .u64 i0).wf = true)
    exact ⟨⟨i0, l, i2⟩, kV_mk W ⟨i0, l, i2⟩ a1 k1 g3 g1, ⟨hu.1, by have := hu.2; show i0 < _; omega⟩, g5, g4⟩
theorem vers_of {a : Option Addr} {len cap : Nat} {d : DataW H} {ps : List MemPlace} (hb : uptoBulk d ≤ 1048576)
    (h : DataW.Trod enc Tryd.prog W base spare held 48 (.slice a len cap) d ps) :
    ∃ l : List VeD, Kd.C kV W a l.length l ∧ len = l.length ∧ l.length ≤ cap ∧ (∀ n, n ∈ l → VS n) ∧ l.length ≤ 1048576 :=
  rows_bulk kV ⟨0, [], 0⟩ Tryd.underlying48 (e := 53) (show Tryd.prog.cellsOf 53 = 3 by kernel_rfl) VS ver_elem hb h
theorem ev_elem (n : Nat) (cs : List Value) (y : DataW H × List MemPlace)
    (h : DataW.trod enc Tryd.prog W base spare held n 50 cs = some y) (hb : uptoBulk y.1 ≤ 1048576) : ∃ x : EvD, kE.K W x cs ∧ ES x := by
  obtain ⟨y0, y1, y2, m, hd, hl, h0, h1, h2⟩ := struct3 Tryd.underlying50 h
  rw [show Tryd.prog.cellsOf 50 = 3 from by kernel_rfl] at hl
  match cs, hl with
  | [c0, c1, c2], _ =>
    have zi : Tryd.prog.cellsOf 3 = 1 := by kernel_rfl
    have zs : Tryd.prog.cellsOf 9 = 1 := by kernel_rfl
    have zl : Tryd.prog.cellsOf 48 = 1 := by kernel_rfl
    have h0' : DataW.trod enc Tryd.prog W base spare held m 9 ([c0, c1, c2].take (Tryd.prog.cellsOf 9)) = some y0 := h0
    have h1' : DataW.trod enc Tryd.prog W base spare held m 48 ([c1, c2].take (Tryd.prog.cellsOf 48)) = some y1 := h1
    have h2' : DataW.trod enc Tryd.prog W base spare held m 3 ([c2].take (Tryd.prog.cellsOf 3)) = some y2 := h2
    rw [zi] at h2'
    rw [zs] at h0'
    rw [zl] at h1'
    rw [hd] at hb
    simp only [uptoBulk, uptoBulkAll] at hb
    obtain ⟨i2, e2, _, _⟩ := DataW.trod_int Tryd.underlying3 h2'
    obtain rfl : c2 = .int .i64 i2 := by simpa using e2
    obtain ⟨s0, rfl, b0⟩ := str_bulk (show DataW.trod enc Tryd.prog W base spare held m 9 [c0] = some y0 from h0') (by omega)
    obtain ⟨a1, n1, k1, rfl⟩ := slice_cell Tryd.underlying48 (show DataW.trod enc Tryd.prog W base spare held m 48 [c1] = some y1 from h1')
    obtain ⟨l, g1, rfl, g3, g4, g5⟩ := vers_of (by omega) (⟨m, h1'⟩ : DataW.Trod enc Tryd.prog W base spare held 48 (.slice a1 n1 k1) y1.1 y1.2)
    exact ⟨⟨s0, l, i2⟩, kE_mk W ⟨s0, l, i2⟩ a1 k1 g3 g1, b0, g5, g4⟩
theorem evs_of {a : Option Addr} {len cap : Nat} {d : DataW H} {ps : List MemPlace} (hb : uptoBulk d ≤ 1048576)
    (h : DataW.Trod enc Tryd.prog W base spare held 22 (.slice a len cap) d ps) :
    ∃ l : List EvD, Kd.C kE W a l.length l ∧ len = l.length ∧ l.length ≤ cap ∧ (∀ n, n ∈ l → ES n) ∧ l.length ≤ 1048576 :=
  rows_bulk kE ⟨⟨#[]⟩, [], 0⟩ Tryd.underlying22 (e := 50) (show Tryd.prog.cellsOf 50 = 3 by kernel_rfl) ES ev_elem hb h
end
theorem schema_of {H : Type} {enc : TypeId × Value → H} {W : World} {base : Nat} {v : Value} {d : DataW H} {ps : List MemPlace} (hv : Value.okWide Tryd.prog W .any base 24 v) (hb : uptoBulk d ≤ 1048576)
    (hw : ∀ m ∈ d.weights Tryd.prog 24, m ≤ reachBytes) (h : DataW.Trod enc Tryd.prog W 0 (fun _ => true) true 24 v d ps) :
    ∃ (A : Option Addr) (l : List EvD) (c : Nat), v = .agg #[.slice A l.length c] ∧ Kd.C kE W A l.length l ∧ l.length ≤ c ∧ l.length ≤ 1048576 ∧ (∀ n, n ∈ l → ES n) := by
  obtain ⟨cs, rfl, hcs⟩ := okWide_struct Tryd.underlying24 hv
  rw [show Tryd.prog.cellsOf 24 = 1 from by kernel_rfl] at hcs
  obtain ⟨fuel, hf⟩ := h
  obtain ⟨xs, n, _, hx, hl, hlen, hff⟩ := DataW.trod_struct Tryd.underlying24 hf
  obtain ⟨rfl, _⟩ := Prod.mk.inj hx
  obtain ⟨cl⟩ := cs
  match cl, hcs, xs, hlen with
  | [c0], _, [y0], _ =>
    have zl : Tryd.prog.cellsOf 22 = 1 := by kernel_rfl
    have h0 := hff 0 _ rfl
    have h0' : DataW.trod enc Tryd.prog W 0 (fun _ => true) true n 22 ([c0].take (Tryd.prog.cellsOf 22)) = some y0 := h0
    rw [zl] at h0'
    simp only [List.map_cons, List.map_nil, uptoBulk, uptoBulkAll] at hb
    obtain ⟨a0, n0, k0, rfl⟩ := slice_cell Tryd.underlying22 (show DataW.trod enc Tryd.prog W 0 (fun _ => true) true n 22 [c0] = some y0 from h0')
    obtain ⟨l, g1, rfl, g3, g4, g5⟩ := evs_of (by omega) (⟨n, h0'⟩ : DataW.Trod enc Tryd.prog W 0 (fun _ => true) true 22 (.slice a0 n0 k0) y0.1 y0.2)
    exact ⟨a0, l, k0, rfl, g1, g3, g5, g4⟩
end Go.Proofs.YtaijoghpfobdbaaDoor.R
end
section
set_option linter.unusedVariables false
set_option linter.unusedSimpArgs false
namespace Go.Proofs.YtaijoghpfobdbaaDoor.P
open Go.RowKit Go.Proofs.YtaijoghpfobdbaaDoor.X Go.Proofs.YtaijoghpfobdbaaDoorW.PrintWords Go.Proofs.YtaijoghpfobdbaaDoorW.PrintLast
def ahd (n : Nd) : List UInt8 :=
  if n.f0 = 1 then Lib.decDigits n.f2.toNat
  else if n.f0 = 2 then L.Quote n.f3.data.toList
  else if n.f0 = 3 then [116, 114, 117, 101]
  else if n.f0 = 4 then [102, 97, 108, 115, 101]
  else if n.f0 = 5 then [45]
  else if n.f0 = 6 ∨ n.f0 = 7 ∨ n.f0 = 8 then [40]
  else if n.f0 = 9 then [99, 97, 116, 40]
  else if n.f0 = 10 then [114, 101, 112, 40]
  else if n.f0 = 11 then [108, 101, 110, 40]
  else [104, 101, 120, 40]
def btw (n : Nd) : List UInt8 := if n.f0 = 6 then [32, 43, 32] else if n.f0 = 7 then [32, 45, 32] else if n.f0 = 8 then [32, 42, 32] else [44, 32]
def bhd (n : Nd) : List UInt8 := if 6 ≤ n.f0 then [41] else []
def sepB (s : List UInt8) : List (List UInt8) → List UInt8
  | [] => []
  | a :: l => a ++ l.flatMap fun x => s ++ x
theorem sepL_B (l : List (List UInt8)) : sepL l = sepB [44, 32] l := by cases l <;> rfl
theorem len_one {α : Type} {l : List α} (h : l.length = 1) : ∃ a, l = [a] := by
  match l, h with
  | [a], _ => exact ⟨a, rfl⟩
theorem len_two {α : Type} {l : List α} (h : l.length = 2) : ∃ a b, l = [a, b] := by
  match l, h with
  | [a, b], _ => exact ⟨a, b, rfl⟩
theorem tx_eq {n : Nd} {ks : List Tr} (h : kd n = some ks.length) : tx (.mk n ks) = ahd n ++ (sepB (btw n) (txs ks) ++ bhd n) := by
  rcases kd_op h with ⟨hk, ho⟩ | ⟨hk, ho⟩ | ⟨hk, ho⟩ | ⟨hk, ho, _⟩
  · obtain rfl := List.length_eq_zero_iff.1 hk
    rcases ho with ho | ho | ho | ho <;> simp [tx, txs, txN, ahd, btw, bhd, sepB, ho]
  · obtain ⟨a, rfl⟩ := len_one hk
    rcases ho with ho | ho | ho <;> simp [tx, txs, txN, ahd, btw, bhd, sepB, fnc, sepL, ho]
  · obtain ⟨a, b, rfl⟩ := len_two hk
    rcases ho with ho | ho | ho | ho <;> simp [tx, txs, txN, ahd, btw, bhd, sepB, fnc, two, sepL, ho]
  · simp [tx, txN, ahd, btw, bhd, fnc, sepL_B, ho]
mutual
def sz : Tr → Nat
  | .mk _ ks => szs ks + 1
/-- How many nodes in all. -/
def szs : List Tr → Nat
  | [] => 0
  | t :: ts => sz t + szs ts
end
theorem szs_app (a b : List Tr) : szs (a ++ b) = szs a + szs b := by
  induction a with
  | nil => simp [szs]
  | cons t a ih => rw [List.cons_append, szs, szs, ih]; omega
theorem sz_pos (t : Tr) : 1 ≤ sz t := by cases t; rw [sz]; omega
theorem len_szs (l : List Tr) : l.length ≤ szs l := by
  induction l with
  | nil => simp
  | cons t l ih => have := sz_pos t; rw [szs, List.length_cons]; omega
mutual
/-- The tree lies in the row from place a on, and f tells of each node where it begins. -/
def Gd (ns : List Nd) (f : Nat → Nat) : Tr → Nat → Prop
  | .mk n ks, a => ns[a + szs ks]? = some n ∧ f (a + szs ks) = a ∧ Gds ns f ks a
def Gds (ns : List Nd) (f : Nat → Nat) : List Tr → Nat → Prop
  | [], _ => True
  | t :: ts, a => Gd ns f t a ∧ Gds ns f ts (a + sz t)
end
theorem Gds_app {ns : List Nd} {f : Nat → Nat} : ∀ (l m : List Tr) (a : Nat), Gds ns f (l ++ m) a ↔ Gds ns f l a ∧ Gds ns f m (a + szs l)
  | [], m, a => by simp [Gds, szs]
  | t :: l, m, a => by rw [List.cons_append, Gds, Gds, Gds_app l m, szs, ← Nat.add_assoc, and_assoc]
mutual
theorem Gd_congr {ns : List Nd} {f g : Nat → Nat} : ∀ (t : Tr) (a : Nat), (∀ j, j < a + sz t → f j = g j) → Gd ns f t a → Gd ns g t a
  | .mk n ks, a, h, hg => by
    rw [Gd] at hg ⊢
    rw [sz] at h
    exact ⟨hg.1, by rw [← h _ (by omega)]; exact hg.2.1, Gds_congr ks a (fun j hj => h j (by omega)) hg.2.2⟩
theorem Gds_congr {ns : List Nd} {f g : Nat → Nat} : ∀ (ts : List Tr) (a : Nat), (∀ j, j < a + szs ts → f j = g j) → Gds ns f ts a → Gds ns g ts a
  | [], a, h, hg => by rw [Gds]; trivial
  | t :: ts, a, h, hg => by
    rw [Gds] at hg ⊢
    rw [szs] at h
    exact ⟨Gd_congr t a (fun j hj => h j (by omega)) hg.1, Gds_congr ts _ (fun j hj => h j (by omega)) hg.2⟩
end
theorem Gds_last {ns : List Nd} {f : Nat → Nat} {s : List Tr} {t : Tr} {a : Nat} (h : Gds ns f (s ++ [t]) a) : f (a + szs s + sz t - 1) = a + szs s := by
  have := (Gds_app _ _ _).1 h
  have h2 := this.2
  rw [Gds] at h2
  have h3 := h2.1
  cases t with
  | mk n ks =>
    rw [Gd] at h3
    rw [sz]
    exact h3.2.1
theorem Gds_back {ns : List Nd} {f : Nat → Nat} {st : List Tr} {a j : Nat} (h : Gds ns f st a) (hj : j < st.length) : f (a + szs (st.take (j + 1)) - 1) = a + szs (st.take j) := by
  rw [← List.take_append_drop (j + 1) st, Gds_app] at h
  have h1 := h.1
  rw [List.take_succ_eq_append_getElem hj] at h1 ⊢
  have := Gds_last h1
  rw [szs_app, szs, szs, Nat.add_zero]
  rw [show a + (szs (List.take j st) + sz st[j]) - 1 = a + szs (List.take j st) + sz st[j] - 1 by omega]
  exact this
theorem Gds_step {ns : List Nd} {f g : Nat → Nat} {st st' : List Tr} {n : Nd} (h : Gds ns f st 0) (hn : ns[szs st]? = some n) (hs : sg st n = some st') (hg : ∀ j, j < szs st → f j = g j) (k : Nat) (hk : kd n = some k) (hf : g (szs st) = szs (st.take (st.length - k))) : Gds ns g st' 0 ∧ szs st' = szs st + 1 := by
  obtain ⟨k', hk', hl, rfl⟩ := sg_some hs
  rw [hk] at hk'
  injection hk' with hk'
  subst hk'
  have hh := Gds_congr st 0 (fun j hj => hg j (by omega)) h
  have hsp := szs_app (st.take (st.length - k)) (st.drop (st.length - k))
  rw [List.take_append_drop] at hsp
  rw [← List.take_append_drop (st.length - k) st, Gds_app] at hh
  refine ⟨?_, ?_⟩
  · rw [Gds_app]
    refine ⟨hh.1, ?_⟩
    rw [Gds, Gd, Gds, Nat.zero_add, ← hsp]
    have h2 := hh.2
    rw [Nat.zero_add] at h2
    exact ⟨⟨hn, hf, h2⟩, trivial⟩
  · rw [szs_app, szs, szs, sz]
    omega
inductive It where
  | nd (a : Nat) (t : Tr)
  | bt (x : Nat) (n : Nd)
  | bh (x : Nat) (n : Nd)
def It.code : It → Int
  | .nd a t => ((a + sz t - 1 : Nat) : Int)
  | .bt x _ => -1 - (2 * (x : Int) + 0)
  | .bh x _ => -1 - (2 * (x : Int) + 1)
def It.tx : It → List UInt8
  | .nd _ t => P.tx t
  | .bt _ n => btw n
  | .bh _ n => bhd n
def It.ok (ns : List Nd) (f : Nat → Nat) : It → Prop
  | .nd a t => Gd ns f t a ∧ WF t
  | .bt x n => ns[x]? = some n
  | .bh x n => ns[x]? = some n
def It.w : It → Nat
  | .nd _ t => 3 * sz t - 1
  | _ => 1
def ptx (l : List It) : List UInt8 := l.reverse.flatMap It.tx
def pw : List It → Nat
  | [] => 0
  | i :: l => i.w + pw l
theorem ptx_app (a b : List It) : ptx (a ++ b) = ptx b ++ ptx a := by unfold ptx; rw [List.reverse_append, List.flatMap_append]
theorem ptx_one (i : It) : ptx [i] = i.tx := by simp [ptx]
theorem pw_app (a b : List It) : pw (a ++ b) = pw a + pw b := by
  induction a with
  | nil => simp [pw]
  | cons t a ih => rw [List.cons_append, pw, pw, ih]; omega
theorem w_pos (i : It) : 1 ≤ i.w := by
  cases i with
  | nd a t => have := sz_pos t; show 1 ≤ 3 * sz t - 1; omega
  | bt => exact Nat.le_refl _
  | bh => exact Nat.le_refl _
theorem len_pw (l : List It) : l.length ≤ pw l := by
  induction l with
  | nil => simp
  | cons t l ih => have := w_pos t; rw [pw, List.length_cons]; omega
def pk (x : Nat) (n : Nd) : Bool → List Tr → Nat → List It
  | _, [], _ => []
  | b, t :: ts, a => pk x n true ts (a + sz t) ++ [.nd a t] ++ (if b = true then [.bt x n] else [])
theorem pk_text (x : Nat) (n : Nd) : ∀ (ts : List Tr) (a : Nat), ptx (pk x n true ts a) = (txs ts).flatMap fun y => btw n ++ y
  | [], a => rfl
  | t :: ts, a => by
    rw [pk, if_pos rfl, ptx_app, ptx_app, ptx_one, ptx_one, pk_text x n ts, txs, List.flatMap_cons, List.append_assoc]; rfl
theorem pk_false (x : Nat) (n : Nd) (ts : List Tr) (a : Nat) : ptx (pk x n false ts a) = sepB (btw n) (txs ts) := by
  cases ts with
  | nil => rfl
  | cons t ts => rw [pk, if_neg (by decide), List.append_nil, ptx_app, ptx_one, pk_text, txs, sepB]; rfl
theorem pk_w (x : Nat) (n : Nd) : ∀ (b : Bool) (ts : List Tr) (a : Nat), pw (pk x n b ts a) ≤ 3 * szs ts
  | _, [], a => by simp [pk, pw]
  | b, t :: ts, a => by
    have := pk_w x n true ts (a + sz t)
    have h2 := sz_pos t
    have h3 : pw (if b = true then [It.bt x n] else []) ≤ 1 := by cases b <;> simp [pw, It.w]
    rw [pk, pw_app, pw_app, szs]
    simp only [pw, It.w, Nat.add_zero]
    omega
theorem pk_ok {ns : List Nd} {f : Nat → Nat} {x : Nat} {n : Nd} (hx : ns[x]? = some n) : ∀ (b : Bool) (ts : List Tr) (a : Nat), Gds ns f ts a → (∀ t, t ∈ ts → WF t) → ∀ i, i ∈ pk x n b ts a → i.ok ns f
  | _, [], a, _, _, i, hi => by rw [pk] at hi; cases hi
  | b, t :: ts, a, hg, hw, i, hi => by
    rw [Gds] at hg
    rw [pk, List.mem_append, List.mem_append] at hi
    rcases hi with (hi | hi) | hi
    · exact pk_ok hx true ts _ hg.2 (fun t ht => hw t (List.mem_cons_of_mem _ ht)) i hi
    · rw [List.mem_singleton] at hi
      subst hi
      exact ⟨hg.1, hw t List.mem_cons_self⟩
    · cases b with
      | false => simp at hi
      | true =>
        simp only [if_true, List.mem_singleton] at hi
        subst hi
        exact hx
def pkK (x : Nat) (n : Nd) (ks : List Tr) (a k : Nat) : List It := pk x n (decide (0 < k)) (ks.drop k) (a + szs (ks.take k))
theorem pkK_all (x : Nat) (n : Nd) (ks : List Tr) (a : Nat) : pkK x n ks a ks.length = [] := by
  unfold pkK; rw [List.drop_length, pk]
theorem pkK_zero (x : Nat) (n : Nd) (ks : List Tr) (a : Nat) : pkK x n ks a 0 = pk x n false ks a := by
  unfold pkK; simp [szs]
theorem pkK_next (x : Nat) (n : Nd) (ks : List Tr) (a k : Nat) (hk : k < ks.length) : pkK x n ks a k = pkK x n ks a (k + 1) ++ [.nd (a + szs (ks.take k)) ks[k]] ++ (if 0 < k then [.bt x n] else []) := by
  unfold pkK
  rw [List.drop_eq_getElem_cons hk, pk, List.take_succ_eq_append_getElem hk, szs_app, show szs [ks[k]] = sz ks[k] by simp [szs], ← Nat.add_assoc]
  rw [decide_eq_true (show 0 < k + 1 by omega)]
  simp only [decide_eq_true_eq]
theorem nd_code {a : Nat} {ks : List Tr} {k : Nat} (hk : k < ks.length) : (It.nd (a + szs (ks.take k)) ks[k]).code = ((a + szs (ks.take (k + 1)) - 1 : Nat) : Int) := by
  rw [List.take_succ_eq_append_getElem hk, szs_app, show szs [ks[k]] = sz ks[k] by simp [szs], ← Nat.add_assoc]; rfl
end Go.Proofs.YtaijoghpfobdbaaDoor.P
end
section
namespace Go.Proofs.YtaijoghpfobdbaaDoor.X
open Go.RowKit Go.Proofs.YtaijoghpfobdbaaDoorW.PrintWords Go.Proofs.YtaijoghpfobdbaaDoorW.PrintLast Go.Proofs.YtaijoghpfobdbaaDoorW.PrintMore
attribute [local go_sem] max2_int min2_int max_two min_two max_three min_three max_four min_four   -- for this text's walks alone
set_option linter.unusedVariables false
set_option linter.unusedSimpArgs false
mutual
def stratumref10_Quote.l0 : Nat → ByteArray → List Int → Int → Option (ByteArray)
  | 0, _, _, _ => none
  | k + 1, x0, x3, x4 => if x4 < (x0.size : Int) then (if 0 ≤ x4 then (if (bt x0 x4) = 34 then (stratumref10_Quote.j1 k x0 x3 x4 (bt x0 x4) true) else (stratumref10_Quote.j1 k x0 x3 x4 (bt x0 x4) ((bt x0 x4) == 92))) else (none)) else (if x3.length < 140737488355328 then (some (strOfNums (x3 ++ [34]))) else (none))
def stratumref10_Quote.j1 : Nat → ByteArray → List Int → Int → Int → Bool → Option (ByteArray)
  | 0, _, _, _, _, _ => none
  | k + 1, x0, x3, x4, x5, x25 => if x25 = true then ((some (([92, x5] : List Int) : List Int)).bind fun y228 => (if x3.length + y228.length < 140737488355328 then (stratumref10_Quote.l0 k x0 (x3 ++ y228) (wrap64 (x4 + 1))) else (none))) else (if x5 = 10 then ((some (([92, 110] : List Int) : List Int)).bind fun y234 => (if x3.length + y234.length < 140737488355328 then (stratumref10_Quote.l0 k x0 (x3 ++ y234) (wrap64 (x4 + 1))) else (none))) else (if x5 = 9 then ((some (([92, 116] : List Int) : List Int)).bind fun y240 => (if x3.length + y240.length < 140737488355328 then (stratumref10_Quote.l0 k x0 (x3 ++ y240) (wrap64 (x4 + 1))) else (none))) else (if x5 ≥ 32 then (if x5 < 127 then (if x3.length < 140737488355328 then (stratumref10_Quote.l0 k x0 (x3 ++ [x5]) (wrap64 (x4 + 1))) else (none)) else (if 0 ≤ ((Int.tdiv x5 16) % 256) then (if ((Int.tdiv x5 16) % 256) < 16 then (if 0 ≤ (Int.tmod x5 16) then (if (Int.tmod x5 16) < 16 then ((some (([92, 120, bt (⟨#[48, 49, 50, 51, 52, 53, 54, 55, 56, 57, 97, 98, 99, 100, 101, 102]⟩ : ByteArray) ((Int.tdiv x5 16) % 256), bt (⟨#[48, 49, 50, 51, 52, 53, 54, 55, 56, 57, 97, 98, 99, 100, 101, 102]⟩ : ByteArray) (Int.tmod x5 16)] : List Int) : List Int)).bind fun y249 => (if x3.length + y249.length < 140737488355328 then (stratumref10_Quote.l0 k x0 (x3 ++ y249) (wrap64 (x4 + 1))) else (none))) else (none)) else (none)) else (none)) else (none))) else (if 0 ≤ ((Int.tdiv x5 16) % 256) then (if ((Int.tdiv x5 16) % 256) < 16 then (if 0 ≤ (Int.tmod x5 16) then (if (Int.tmod x5 16) < 16 then ((some (([92, 120, bt (⟨#[48, 49, 50, 51, 52, 53, 54, 55, 56, 57, 97, 98, 99, 100, 101, 102]⟩ : ByteArray) ((Int.tdiv x5 16) % 256), bt (⟨#[48, 49, 50, 51, 52, 53, 54, 55, 56, 57, 97, 98, 99, 100, 101, 102]⟩ : ByteArray) (Int.tmod x5 16)] : List Int) : List Int)).bind fun y255 => (if x3.length + y255.length < 140737488355328 then (stratumref10_Quote.l0 k x0 (x3 ++ y255) (wrap64 (x4 + 1))) else (none))) else (none)) else (none)) else (none)) else (none)))))
end
def stratumref10_Quote.f (k : Nat) (a0 : ByteArray) : Option (ByteArray) := stratumref10_Quote.l0 k a0 (([34] : List Int)) 0
def stratumref10_Quote.T6 : Bool × List (List Nat × List Nat) := (true, [([], []), ([], []), ([1], [1]), ([2], [2]), ([], []), ([4], [4]), ([5], [5]), ([3, 6], [3, 6]), ([0, 7], [0, 7]), ([8, 8, 0, 1, 2, 3, 4, 5, 6, 7, 8], [0, 8])])
def stratumref10_Quote.B6 : List Nat := [0, 0, 2, 6, 0, 16, 48, 126, 255, 511]
theorem stratumref10_Quote.tab6 : rtab .any (opsOf Tryd.f75 6) = stratumref10_Quote.T6 := by kernel_rfl
theorem stratumref10_Quote.bits6 : waitsOk stratumref10_Quote.T6.2 stratumref10_Quote.B6 = true := by kernel_rfl
set_option maxHeartbeats 8000000 in
set_option maxRecDepth 100000 in
theorem stratumref10_Quote.calls (k : Nat) (a0 : ByteArray) (r : ByteArray) (w : World) (h : stratumref10_Quote.f k a0 = some r) :
    Calls Tryd.prog 75 #[.string a0] w fun e w' => e = .returned (.string r) ∧ Below w.heap.size w w' := by
  have HB := Aside0.mk (Below.refl w.heap.size w)
  have H : (stratumref10_Quote.l0 k a0 (([34] : List Int)) 0) = some r := h
  clear h
  obtain ⟨y222, hy222⟩ : ∃ y_ : List Int, y_ = (([34] : List Int)) := ⟨_, rfl⟩
  replace H : (stratumref10_Quote.l0 k a0 y222 0) = some r := by first | (rw [hy222]; with_reducible exact H) | (have H2_ := (Option.bind_some _ _).symm.trans H; rw [hy222]; with_reducible exact H2_) | (have H2_ := (Option.bind_some _ _).symm.trans H; with_reducible exact H2_) | with_reducible exact H | (rw [hy222]; exact H) | exact H
  have Ny222 := Aside0.mk hy222
  clear hy222
  have H' := Aside0.mk H
  clear H
  go_enter Tryd.func75, Tryd.ntmps75
  go_wp2_with (first | ((with_reducible refine gate_dst (N := 6) rfl ?_); refine Kd.R_lit (Kd.int .u8) _ 5 ?hg (N := 6) ?hd (xs := ([34] : List Int)) (inner := [.int .u8 34]) (ok := fun _ => True) (okp := fun _ => True) ?hr ?hp (fun _ hk => hk) trivial (Below.refl _ _) (Nat.le_refl _) (by simp) ?_; (case hd => rfl); (case hg => rfl); (case hr => first | (go_simp; done) | (go_simp; rfl)); (case hp => exact (Reps.one (show Kd.M (Kd.int .u8) _ _ _ 34 [.int .u8 34] from rfl) (Reps.none _ _))); intro v223 w2 ho3 hb hg_ hnew_; clear hg_ hnew_; (first | rw [← Ny222.out] at ho3 | (simp only [Int.reduceToNat] at ho3; rw [← Ny222.out] at ho3)); have n0_ := Aside0.mk (Kd.R_lower ho3 (below_size (by repeat (first | (with_reducible first | exact HB.out | apply below_alloc | apply pw_below_drewN | apply below_drew1) | exact HB.out)))); have n1_ := Aside0.mk (below_step (by repeat (first | (with_reducible first | exact HB.out | apply below_alloc | apply pw_below_drewN | apply below_drew1) | exact HB.out)) hb); clear HB; have HO224 := n0_; have HB := n1_; clear n0_ n1_; clear hb ho3))
  go_loopg [3, 4] k (fun kq v3 v4 w' => ∃ (x3_1 : List Int) (x4_1 : Int), v4 = .int .i64 x4_1 ∧ Aside0 (stratumref10_Quote.l0 kq a0 x3_1 x4_1 = some r) ∧ Aside0 (kq ≤ k) ∧ Aside0 (Kd.R (Kd.int .u8) 5 w' w.heap.size (fun _ => True) v3 x3_1) ∧ Aside0 (Below w.heap.size w w'))
  case atStart => exact ⟨(y222), (0), (by first | rfl | (simp; done) | (simp [*]; done)), H', ⟨Nat.le_refl _⟩, ⟨by (with_reducible repeat (first | apply Kd.R_alloc | apply Kd.R_drewN | apply Kd.R_drew)); exact HO224.out⟩, ⟨by repeat (first | (with_reducible first | exact HB.out | apply below_alloc | apply pw_below_drewN | apply below_drew1) | exact HB.out)⟩⟩
  case round =>
    clear H'
    try clear p2
    obtain ⟨x3_1, x4_1, rfl, HA, HK1, HO_3, HB⟩ := hrel
    cases gk with
    | zero => exact absurd HA.out (by simp [stratumref10_Quote.l0])
    | succ k1 =>
      have H := HA.out
      clear HA
      simp only [stratumref10_Quote.l0] at H
      by_cases c4 : x4_1 < (a0.size : Int)
      · rw [if_pos c4] at H
        have c4b0 : decide (x4_1 < (a0.size : Int)) = true := decide_eq_true c4
        clear c4
        by_cases c5 : 0 ≤ x4_1
        · rw [if_pos c5] at H
          have c5b0 : decide (0 ≤ x4_1) = true := decide_eq_true c5
          clear c5
          have HC7 := Aside0.mk H
          clear H
          have p6 : 0 ≤ (x4_1 : Int) := of_decide_eq_true (by first | (with_reducible assumption) | assumption)
          have q6 : x4_1 < (a0.size : Int) := of_decide_eq_true (by first | (with_reducible assumption) | assumption)
          have hx6 := bt_at a0 x4_1
          replace p6 := eq_true p6
          replace q6 := eq_true q6
          go_upto_region 7 with (fail)
          go_cut [25] (fun v25 wc => ∃ (kq : Nat) (x25_6 : Bool), v25 = .bool x25_6 ∧ Aside0 (stratumref10_Quote.j1 kq a0 x3_1 x4_1 (bt a0 x4_1) x25_6 = some r) ∧ Aside0 (kq ≤ k1) ∧ Aside0 (Kd.R (Kd.int .u8) 5 wc w.heap.size (fun _ => True) u3 x3_1) ∧ Aside0 (Below w.heap.size w wc))
          case first =>
            have H := HC7.out
            clear HC7
            by_cases c8 : (bt a0 x4_1) = 34
            · rw [if_pos c8] at H
              have c8b0 : ((bt a0 x4_1) == 34) = true := beq_iff_eq.mpr c8
              have c8b1 : ((bt a0 x4_1) != 34) = false := bne_eq_false_iff_eq.mpr c8
              clear c8
              (first | rw [c8b0] | (simp only [i64_w, i32_w]; rw [c8b0]) | skip)
              have H' := Aside0.mk H
              clear H
              go_wp2
              go_meet
              case rel => exact ⟨_, (true), (by first | rfl | (simp; done) | (simp [*]; done)), H', ⟨by have := HK1.out; first | omega | exact Nat.le_refl _⟩, ⟨by (with_reducible repeat (first | apply Kd.R_alloc | apply Kd.R_drewN | apply Kd.R_drew)); exact HO_3.out⟩, ⟨by repeat (first | (with_reducible first | exact HB.out | apply below_alloc | apply pw_below_drewN | apply below_drew1) | exact HB.out)⟩⟩
            · rw [if_neg c8] at H
              have c8b0 : ((bt a0 x4_1) == 34) = false := beq_eq_false_iff_ne.mpr c8
              have c8b1 : ((bt a0 x4_1) != 34) = true := bne_iff_ne.mpr c8
              (first | rw [c8b0] | (simp only [i64_w, i32_w]; rw [c8b0]) | skip)
              have H' := Aside0.mk H
              clear H
              go_wp2
              go_meet
              case rel => exact ⟨_, (((bt a0 x4_1) == 92)), (by first | rfl | (simp; done) | (simp [*]; done)), H', ⟨by have := HK1.out; first | omega | exact Nat.le_refl _⟩, ⟨by (with_reducible repeat (first | apply Kd.R_alloc | apply Kd.R_drewN | apply Kd.R_drew)); exact HO_3.out⟩, ⟨by repeat (first | (with_reducible first | exact HB.out | apply below_alloc | apply pw_below_drewN | apply below_drew1) | exact HB.out)⟩⟩
          case rest =>
            clear HC7
            try clear p2
            try clear c4
            try clear c4b0
            try clear c5
            try clear c5b0
            try clear p6
            try clear q6
            try clear hx6
            try clear c7
            try clear c8
            try clear c8b0
            try clear c8b1
            try clear p2
            try clear p6
            try clear q6
            obtain ⟨kq, x25_6, rfl, HA, HJ6, HO_3, HB⟩ := hcut
            cases kq with
            | zero => exact absurd HA.out (by simp [stratumref10_Quote.j1])
            | succ kj6 =>
              have H := HA.out
              clear HA
              simp only [stratumref10_Quote.j1] at H
              by_cases c9 : x25_6 = true
              · subst c9
                have H1 : ((some (([92, (bt a0 x4_1)] : List Int) : List Int)).bind fun y228 => (if x3_1.length + y228.length < 140737488355328 then (stratumref10_Quote.l0 kj6 a0 (x3_1 ++ y228) (wrap64 (x4_1 + 1))) else (none))) = some r := by rw [if_pos rfl] at H; exact H
                clear H
                have H := H1
                clear H1
                obtain ⟨y228, hy228⟩ : ∃ y_ : List Int, y_ = (([92, (bt a0 x4_1)] : List Int)) := ⟨_, rfl⟩
                replace H : (if x3_1.length + y228.length < 140737488355328 then (stratumref10_Quote.l0 kj6 a0 (x3_1 ++ y228) (wrap64 (x4_1 + 1))) else (none)) = some r := by first | (rw [hy228]; with_reducible exact H) | (have H2_ := (Option.bind_some _ _).symm.trans H; rw [hy228]; with_reducible exact H2_) | (have H2_ := (Option.bind_some _ _).symm.trans H; with_reducible exact H2_) | with_reducible exact H | (rw [hy228]; exact H) | exact H
                have Ny228 := Aside0.mk hy228
                clear hy228
                by_cases c10 : x3_1.length + y228.length < 140737488355328
                · rw [if_pos c10] at H
                  have LMc10 := Aside0.mk c10
                  clear c10
                  obtain ⟨y231, hy231⟩ : ∃ y_ : List Int, y_ = (x3_1 ++ y228) := ⟨_, rfl⟩
                  replace H : (stratumref10_Quote.l0 kj6 a0 y231 (wrap64 (x4_1 + 1))) = some r := by first | (rw [hy231]; with_reducible exact H) | (have H2_ := (Option.bind_some _ _).symm.trans H; rw [hy231]; with_reducible exact H2_) | (have H2_ := (Option.bind_some _ _).symm.trans H; with_reducible exact H2_) | with_reducible exact H | (rw [hy231]; exact H) | exact H
                  have Ny231 := Aside0.mk hy231
                  clear hy231
                  have H' := Aside0.mk H
                  clear H
                  go_wp2_with (first | ((with_reducible refine gate_dst (N := 34) rfl ?_); refine Kd.R_lit (Kd.int .u8) _ 5 ?hg (N := 34) ?hd (xs := ([92, (bt a0 x4_1)] : List Int)) (inner := [.int .u8 92, .int .u8 (bt a0 x4_1)]) (ok := fun _ => True) (okp := fun _ => True) ?hr ?hp (fun _ hk => hk) trivial (Below.refl _ _) (Nat.le_refl _) (by simp) ?_; (case hd => rfl); (case hg => rfl); (case hr => first | (go_simp; done) | (go_simp; rfl)); (case hp => exact (Reps.one (show Kd.M (Kd.int .u8) _ _ _ 92 [.int .u8 92] from rfl) (Reps.one (show Kd.M (Kd.int .u8) _ _ _ (bt a0 x4_1) [.int .u8 (bt a0 x4_1)] from rfl) (Reps.none _ _)))); intro v229 w11 ho12 hb hg_ hnew_; clear hg_ hnew_; (first | rw [← Ny228.out] at ho12 | (simp only [Int.reduceToNat] at ho12; rw [← Ny228.out] at ho12)); have n0_ := Aside0.mk (Kd.R_elder' (by (with_reducible repeat (first | apply Kd.R_alloc | apply Kd.R_drewN | apply Kd.R_drew)); exact HO_3.out) (Kd.R_base ho12) hb); have n1_ := Aside0.mk (Kd.R_lower (Kd.R_new' ho12 (Kd.R_lt (by (with_reducible repeat (first | apply Kd.R_alloc | apply Kd.R_drewN | apply Kd.R_drew)); exact HO_3.out))) (below_size (by repeat (first | (with_reducible first | exact HB.out | apply below_alloc | apply pw_below_drewN | apply below_drew1) | exact HB.out)))); have n2_ := Aside0.mk (below_step (by repeat (first | (with_reducible first | exact HB.out | apply below_alloc | apply pw_below_drewN | apply below_drew1) | exact HB.out)) hb); clear HO_3; clear HB; have HO_3 := n0_; have HO230 := n1_; have HB := n2_; clear n0_ n1_ n2_; clear hb ho12; obtain ⟨Ao14, co14, eo14⟩ := Kd.R_slice HO230.out; subst eo14) | ((with_reducible refine gate_builtin (b := .append) (xs := #[.tmp 32, .tmp 34]) rfl ?_); at_builtin; refine Kd.R_append_rows (Kd.int .u8) (w0 := w) w.heap.size rfl (.tmp 32) (.tmp 34) 70 5 (.int .u8 0) 1 rfl Tryd.underlying70 info5 rfl (by decide) (by omega) u3 x3_1 y228 _ _ _ (fun k_ => some k_ ≠ (.slice Ao14 y228.length co14 : Value).ownBlock) (fun _ => False) rfl rfl ?aO ?aR (fun _ _ h => h) (fun _ h => h.elim) ?aF ?aB ?aS ?aL ?_; (case aR => repeat (first | exact (Kd.R_reads' HO230.out).2.2 | (with_reducible refine Kd.C_alloc ?_ _) | (with_reducible refine Kd.C_drewN ?_ _) | (with_reducible refine Kd.C_drew ?_))); (case aB => exact (by repeat (first | (with_reducible first | exact HB.out | apply below_alloc | apply pw_below_drewN | apply below_drew1) | exact HB.out))); (case aF => exact (fun k_ hk => Kd.fresh' (Kd.R_lt (by (with_reducible repeat (first | apply Kd.R_alloc | apply Kd.R_drewN | apply Kd.R_drew)); exact HO230.out)) k_ hk)); (case aO => exact (by (with_reducible repeat (first | apply Kd.R_alloc | apply Kd.R_drewN | apply Kd.R_drew)); exact Kd.R_mono HO_3.out (fun _ hk => hk.2))); (case aS => exact (below_size (by repeat (first | (with_reducible first | exact HB.out | apply below_alloc | apply pw_below_drewN | apply below_drew1) | exact HB.out)))); (case aL => have := LMc10.out; omega); intro v232 w13 ho hb hg hat; rw [← Ny231.out] at ho; have n0_ := Aside0.mk (Kd.R_after (ok := (fun _ => True)) (by (with_reducible repeat (first | apply Kd.R_alloc | apply Kd.R_drewN | apply Kd.R_drew)); exact HO230.out) hg hat); have n1_ := Aside0.mk (hb); have n2_ := Aside0.mk (ho); clear HO230; clear HB; clear HO_3; have HO230 := n0_; have HB := n1_; have HO233 := n2_; clear n0_ n1_ n2_; clear ho hb hg hat))
                  go_roundg kj6
                  case measure => have := HK1.out; have := HJ6.out; omega
                  case rel => exact ⟨(y231), (wrap64 (x4_1 + 1)), (by first | rfl | (simp; done) | (simp [*]; done)), H', ⟨by have := HK1.out; have := HJ6.out; omega⟩, ⟨by (with_reducible repeat (first | apply Kd.R_alloc | apply Kd.R_drewN | apply Kd.R_drew)); exact Kd.R_mono HO233.out (fun _ hk => trivial)⟩, ⟨by repeat (first | (with_reducible first | exact HB.out | apply below_alloc | apply pw_below_drewN | apply below_drew1) | exact HB.out)⟩⟩
                · rw [if_neg c10] at H
                  exact absurd H (by simp)
              · replace c9 := Bool.eq_false_iff.mpr c9
                subst c9
                have H1 : (if (bt a0 x4_1) = 10 then ((some (([92, 110] : List Int) : List Int)).bind fun y234 => (if x3_1.length + y234.length < 140737488355328 then (stratumref10_Quote.l0 kj6 a0 (x3_1 ++ y234) (wrap64 (x4_1 + 1))) else (none))) else (if (bt a0 x4_1) = 9 then ((some (([92, 116] : List Int) : List Int)).bind fun y240 => (if x3_1.length + y240.length < 140737488355328 then (stratumref10_Quote.l0 kj6 a0 (x3_1 ++ y240) (wrap64 (x4_1 + 1))) else (none))) else (if (bt a0 x4_1) ≥ 32 then (if (bt a0 x4_1) < 127 then (if x3_1.length < 140737488355328 then (stratumref10_Quote.l0 kj6 a0 (x3_1 ++ [(bt a0 x4_1)]) (wrap64 (x4_1 + 1))) else (none)) else (if 0 ≤ ((Int.tdiv (bt a0 x4_1) 16) % 256) then (if ((Int.tdiv (bt a0 x4_1) 16) % 256) < 16 then (if 0 ≤ (Int.tmod (bt a0 x4_1) 16) then (if (Int.tmod (bt a0 x4_1) 16) < 16 then ((some (([92, 120, bt (⟨#[48, 49, 50, 51, 52, 53, 54, 55, 56, 57, 97, 98, 99, 100, 101, 102]⟩ : ByteArray) ((Int.tdiv (bt a0 x4_1) 16) % 256), bt (⟨#[48, 49, 50, 51, 52, 53, 54, 55, 56, 57, 97, 98, 99, 100, 101, 102]⟩ : ByteArray) (Int.tmod (bt a0 x4_1) 16)] : List Int) : List Int)).bind fun y249 => (if x3_1.length + y249.length < 140737488355328 then (stratumref10_Quote.l0 kj6 a0 (x3_1 ++ y249) (wrap64 (x4_1 + 1))) else (none))) else (none)) else (none)) else (none)) else (none))) else (if 0 ≤ ((Int.tdiv (bt a0 x4_1) 16) % 256) then (if ((Int.tdiv (bt a0 x4_1) 16) % 256) < 16 then (if 0 ≤ (Int.tmod (bt a0 x4_1) 16) then (if (Int.tmod (bt a0 x4_1) 16) < 16 then ((some (([92, 120, bt (⟨#[48, 49, 50, 51, 52, 53, 54, 55, 56, 57, 97, 98, 99, 100, 101, 102]⟩ : ByteArray) ((Int.tdiv (bt a0 x4_1) 16) % 256), bt (⟨#[48, 49, 50, 51, 52, 53, 54, 55, 56, 57, 97, 98, 99, 100, 101, 102]⟩ : ByteArray) (Int.tmod (bt a0 x4_1) 16)] : List Int) : List Int)).bind fun y255 => (if x3_1.length + y255.length < 140737488355328 then (stratumref10_Quote.l0 kj6 a0 (x3_1 ++ y255) (wrap64 (x4_1 + 1))) else (none))) else (none)) else (none)) else (none)) else (none))))) = some r := by rw [if_neg (show ¬ (false = true) by decide)] at H; exact H
                clear H
                have H := H1
                clear H1
                by_cases c15 : (bt a0 x4_1) = 10
                · rw [if_pos c15] at H
                  have c15b0 : ((bt a0 x4_1) == 10) = true := beq_iff_eq.mpr c15
                  have c15b1 : ((bt a0 x4_1) != 10) = false := bne_eq_false_iff_eq.mpr c15
                  clear c15
                  obtain ⟨y234, hy234⟩ : ∃ y_ : List Int, y_ = (([92, 110] : List Int)) := ⟨_, rfl⟩
                  replace H : (if x3_1.length + y234.length < 140737488355328 then (stratumref10_Quote.l0 kj6 a0 (x3_1 ++ y234) (wrap64 (x4_1 + 1))) else (none)) = some r := by first | (rw [hy234]; with_reducible exact H) | (have H2_ := (Option.bind_some _ _).symm.trans H; rw [hy234]; with_reducible exact H2_) | (have H2_ := (Option.bind_some _ _).symm.trans H; with_reducible exact H2_) | with_reducible exact H | (rw [hy234]; exact H) | exact H
                  have Ny234 := Aside0.mk hy234
                  clear hy234
                  by_cases c16 : x3_1.length + y234.length < 140737488355328
                  · rw [if_pos c16] at H
                    have LMc16 := Aside0.mk c16
                    clear c16
                    obtain ⟨y237, hy237⟩ : ∃ y_ : List Int, y_ = (x3_1 ++ y234) := ⟨_, rfl⟩
                    replace H : (stratumref10_Quote.l0 kj6 a0 y237 (wrap64 (x4_1 + 1))) = some r := by first | (rw [hy237]; with_reducible exact H) | (have H2_ := (Option.bind_some _ _).symm.trans H; rw [hy237]; with_reducible exact H2_) | (have H2_ := (Option.bind_some _ _).symm.trans H; with_reducible exact H2_) | with_reducible exact H | (rw [hy237]; exact H) | exact H
                    have Ny237 := Aside0.mk hy237
                    clear hy237
                    have H' := Aside0.mk H
                    clear H
                    go_wp2_with (first | ((with_reducible refine gate_dst (N := 40) rfl ?_); refine Kd.R_lit (Kd.int .u8) _ 5 ?hg (N := 40) ?hd (xs := ([92, 110] : List Int)) (inner := [.int .u8 92, .int .u8 110]) (ok := fun _ => True) (okp := fun _ => True) ?hr ?hp (fun _ hk => hk) trivial (Below.refl _ _) (Nat.le_refl _) (by simp) ?_; (case hd => rfl); (case hg => rfl); (case hr => first | (go_simp; done) | (go_simp; rfl)); (case hp => exact (Reps.one (show Kd.M (Kd.int .u8) _ _ _ 92 [.int .u8 92] from rfl) (Reps.one (show Kd.M (Kd.int .u8) _ _ _ 110 [.int .u8 110] from rfl) (Reps.none _ _)))); intro v235 w17 ho18 hb hg_ hnew_; clear hg_ hnew_; (first | rw [← Ny234.out] at ho18 | (simp only [Int.reduceToNat] at ho18; rw [← Ny234.out] at ho18)); have n0_ := Aside0.mk (Kd.R_elder' (by (with_reducible repeat (first | apply Kd.R_alloc | apply Kd.R_drewN | apply Kd.R_drew)); exact HO_3.out) (Kd.R_base ho18) hb); have n1_ := Aside0.mk (Kd.R_lower (Kd.R_new' ho18 (Kd.R_lt (by (with_reducible repeat (first | apply Kd.R_alloc | apply Kd.R_drewN | apply Kd.R_drew)); exact HO_3.out))) (below_size (by repeat (first | (with_reducible first | exact HB.out | apply below_alloc | apply pw_below_drewN | apply below_drew1) | exact HB.out)))); have n2_ := Aside0.mk (below_step (by repeat (first | (with_reducible first | exact HB.out | apply below_alloc | apply pw_below_drewN | apply below_drew1) | exact HB.out)) hb); clear HO_3; clear HB; have HO_3 := n0_; have HO236 := n1_; have HB := n2_; clear n0_ n1_ n2_; clear hb ho18; obtain ⟨Ao20, co20, eo20⟩ := Kd.R_slice HO236.out; subst eo20) | ((with_reducible refine gate_builtin (b := .append) (xs := #[.tmp 39, .tmp 40]) rfl ?_); at_builtin; refine Kd.R_append_rows (Kd.int .u8) (w0 := w) w.heap.size rfl (.tmp 39) (.tmp 40) 70 5 (.int .u8 0) 1 rfl Tryd.underlying70 info5 rfl (by decide) (by omega) u3 x3_1 y234 _ _ _ (fun k_ => some k_ ≠ (.slice Ao20 y234.length co20 : Value).ownBlock) (fun _ => False) rfl rfl ?aO ?aR (fun _ _ h => h) (fun _ h => h.elim) ?aF ?aB ?aS ?aL ?_; (case aR => repeat (first | exact (Kd.R_reads' HO236.out).2.2 | (with_reducible refine Kd.C_alloc ?_ _) | (with_reducible refine Kd.C_drewN ?_ _) | (with_reducible refine Kd.C_drew ?_))); (case aB => exact (by repeat (first | (with_reducible first | exact HB.out | apply below_alloc | apply pw_below_drewN | apply below_drew1) | exact HB.out))); (case aF => exact (fun k_ hk => Kd.fresh' (Kd.R_lt (by (with_reducible repeat (first | apply Kd.R_alloc | apply Kd.R_drewN | apply Kd.R_drew)); exact HO236.out)) k_ hk)); (case aO => exact (by (with_reducible repeat (first | apply Kd.R_alloc | apply Kd.R_drewN | apply Kd.R_drew)); exact Kd.R_mono HO_3.out (fun _ hk => hk.2))); (case aS => exact (below_size (by repeat (first | (with_reducible first | exact HB.out | apply below_alloc | apply pw_below_drewN | apply below_drew1) | exact HB.out)))); (case aL => have := LMc16.out; omega); intro v238 w19 ho hb hg hat; rw [← Ny237.out] at ho; have n0_ := Aside0.mk (Kd.R_after (ok := (fun _ => True)) (by (with_reducible repeat (first | apply Kd.R_alloc | apply Kd.R_drewN | apply Kd.R_drew)); exact HO236.out) hg hat); have n1_ := Aside0.mk (hb); have n2_ := Aside0.mk (ho); clear HO236; clear HB; clear HO_3; have HO236 := n0_; have HB := n1_; have HO239 := n2_; clear n0_ n1_ n2_; clear ho hb hg hat))
                    go_roundg kj6
                    case measure => have := HK1.out; have := HJ6.out; omega
                    case rel => exact ⟨(y237), (wrap64 (x4_1 + 1)), (by first | rfl | (simp; done) | (simp [*]; done)), H', ⟨by have := HK1.out; have := HJ6.out; omega⟩, ⟨by (with_reducible repeat (first | apply Kd.R_alloc | apply Kd.R_drewN | apply Kd.R_drew)); exact Kd.R_mono HO239.out (fun _ hk => trivial)⟩, ⟨by repeat (first | (with_reducible first | exact HB.out | apply below_alloc | apply pw_below_drewN | apply below_drew1) | exact HB.out)⟩⟩
                  · rw [if_neg c16] at H
                    exact absurd H (by simp)
                · rw [if_neg c15] at H
                  have c15b0 : ((bt a0 x4_1) == 10) = false := beq_eq_false_iff_ne.mpr c15
                  have c15b1 : ((bt a0 x4_1) != 10) = true := bne_iff_ne.mpr c15
                  by_cases c21 : (bt a0 x4_1) = 9
                  · rw [if_pos c21] at H
                    have c21b0 : ((bt a0 x4_1) == 9) = true := beq_iff_eq.mpr c21
                    have c21b1 : ((bt a0 x4_1) != 9) = false := bne_eq_false_iff_eq.mpr c21
                    clear c21
                    obtain ⟨y240, hy240⟩ : ∃ y_ : List Int, y_ = (([92, 116] : List Int)) := ⟨_, rfl⟩
                    replace H : (if x3_1.length + y240.length < 140737488355328 then (stratumref10_Quote.l0 kj6 a0 (x3_1 ++ y240) (wrap64 (x4_1 + 1))) else (none)) = some r := by first | (rw [hy240]; with_reducible exact H) | (have H2_ := (Option.bind_some _ _).symm.trans H; rw [hy240]; with_reducible exact H2_) | (have H2_ := (Option.bind_some _ _).symm.trans H; with_reducible exact H2_) | with_reducible exact H | (rw [hy240]; exact H) | exact H
                    have Ny240 := Aside0.mk hy240
                    clear hy240
                    by_cases c22 : x3_1.length + y240.length < 140737488355328
                    · rw [if_pos c22] at H
                      have LMc22 := Aside0.mk c22
                      clear c22
                      obtain ⟨y243, hy243⟩ : ∃ y_ : List Int, y_ = (x3_1 ++ y240) := ⟨_, rfl⟩
                      replace H : (stratumref10_Quote.l0 kj6 a0 y243 (wrap64 (x4_1 + 1))) = some r := by first | (rw [hy243]; with_reducible exact H) | (have H2_ := (Option.bind_some _ _).symm.trans H; rw [hy243]; with_reducible exact H2_) | (have H2_ := (Option.bind_some _ _).symm.trans H; with_reducible exact H2_) | with_reducible exact H | (rw [hy243]; exact H) | exact H
                      have Ny243 := Aside0.mk hy243
                      clear hy243
                      have H' := Aside0.mk H
                      clear H
                      go_wp2_with (first | ((with_reducible refine gate_dst (N := 46) rfl ?_); refine Kd.R_lit (Kd.int .u8) _ 5 ?hg (N := 46) ?hd (xs := ([92, 116] : List Int)) (inner := [.int .u8 92, .int .u8 116]) (ok := fun _ => True) (okp := fun _ => True) ?hr ?hp (fun _ hk => hk) trivial (Below.refl _ _) (Nat.le_refl _) (by simp) ?_; (case hd => rfl); (case hg => rfl); (case hr => first | (go_simp; done) | (go_simp; rfl)); (case hp => exact (Reps.one (show Kd.M (Kd.int .u8) _ _ _ 92 [.int .u8 92] from rfl) (Reps.one (show Kd.M (Kd.int .u8) _ _ _ 116 [.int .u8 116] from rfl) (Reps.none _ _)))); intro v241 w23 ho24 hb hg_ hnew_; clear hg_ hnew_; (first | rw [← Ny240.out] at ho24 | (simp only [Int.reduceToNat] at ho24; rw [← Ny240.out] at ho24)); have n0_ := Aside0.mk (Kd.R_elder' (by (with_reducible repeat (first | apply Kd.R_alloc | apply Kd.R_drewN | apply Kd.R_drew)); exact HO_3.out) (Kd.R_base ho24) hb); have n1_ := Aside0.mk (Kd.R_lower (Kd.R_new' ho24 (Kd.R_lt (by (with_reducible repeat (first | apply Kd.R_alloc | apply Kd.R_drewN | apply Kd.R_drew)); exact HO_3.out))) (below_size (by repeat (first | (with_reducible first | exact HB.out | apply below_alloc | apply pw_below_drewN | apply below_drew1) | exact HB.out)))); have n2_ := Aside0.mk (below_step (by repeat (first | (with_reducible first | exact HB.out | apply below_alloc | apply pw_below_drewN | apply below_drew1) | exact HB.out)) hb); clear HO_3; clear HB; have HO_3 := n0_; have HO242 := n1_; have HB := n2_; clear n0_ n1_ n2_; clear hb ho24; obtain ⟨Ao26, co26, eo26⟩ := Kd.R_slice HO242.out; subst eo26) | ((with_reducible refine gate_builtin (b := .append) (xs := #[.tmp 45, .tmp 46]) rfl ?_); at_builtin; refine Kd.R_append_rows (Kd.int .u8) (w0 := w) w.heap.size rfl (.tmp 45) (.tmp 46) 70 5 (.int .u8 0) 1 rfl Tryd.underlying70 info5 rfl (by decide) (by omega) u3 x3_1 y240 _ _ _ (fun k_ => some k_ ≠ (.slice Ao26 y240.length co26 : Value).ownBlock) (fun _ => False) rfl rfl ?aO ?aR (fun _ _ h => h) (fun _ h => h.elim) ?aF ?aB ?aS ?aL ?_; (case aR => repeat (first | exact (Kd.R_reads' HO242.out).2.2 | (with_reducible refine Kd.C_alloc ?_ _) | (with_reducible refine Kd.C_drewN ?_ _) | (with_reducible refine Kd.C_drew ?_))); (case aB => exact (by repeat (first | (with_reducible first | exact HB.out | apply below_alloc | apply pw_below_drewN | apply below_drew1) | exact HB.out))); (case aF => exact (fun k_ hk => Kd.fresh' (Kd.R_lt (by (with_reducible repeat (first | apply Kd.R_alloc | apply Kd.R_drewN | apply Kd.R_drew)); exact HO242.out)) k_ hk)); (case aO => exact (by (with_reducible repeat (first | apply Kd.R_alloc | apply Kd.R_drewN | apply Kd.R_drew)); exact Kd.R_mono HO_3.out (fun _ hk => hk.2))); (case aS => exact (below_size (by repeat (first | (with_reducible first | exact HB.out | apply below_alloc | apply pw_below_drewN | apply below_drew1) | exact HB.out)))); (case aL => have := LMc22.out; omega); intro v244 w25 ho hb hg hat; rw [← Ny243.out] at ho; have n0_ := Aside0.mk (Kd.R_after (ok := (fun _ => True)) (by (with_reducible repeat (first | apply Kd.R_alloc | apply Kd.R_drewN | apply Kd.R_drew)); exact HO242.out) hg hat); have n1_ := Aside0.mk (hb); have n2_ := Aside0.mk (ho); clear HO242; clear HB; clear HO_3; have HO242 := n0_; have HB := n1_; have HO245 := n2_; clear n0_ n1_ n2_; clear ho hb hg hat))
                      go_roundg kj6
                      case measure => have := HK1.out; have := HJ6.out; omega
                      case rel => exact ⟨(y243), (wrap64 (x4_1 + 1)), (by first | rfl | (simp; done) | (simp [*]; done)), H', ⟨by have := HK1.out; have := HJ6.out; omega⟩, ⟨by (with_reducible repeat (first | apply Kd.R_alloc | apply Kd.R_drewN | apply Kd.R_drew)); exact Kd.R_mono HO245.out (fun _ hk => trivial)⟩, ⟨by repeat (first | (with_reducible first | exact HB.out | apply below_alloc | apply pw_below_drewN | apply below_drew1) | exact HB.out)⟩⟩
                    · rw [if_neg c22] at H
                      exact absurd H (by simp)
                  · rw [if_neg c21] at H
                    have c21b0 : ((bt a0 x4_1) == 9) = false := beq_eq_false_iff_ne.mpr c21
                    have c21b1 : ((bt a0 x4_1) != 9) = true := bne_iff_ne.mpr c21
                    by_cases c27 : (bt a0 x4_1) ≥ 32
                    · rw [if_pos c27] at H
                      have c27b0 : decide (32 ≤ (bt a0 x4_1)) = true := decide_eq_true c27
                      clear c27
                      by_cases c28 : (bt a0 x4_1) < 127
                      · rw [if_pos c28] at H
                        have c28b0 : decide ((bt a0 x4_1) < 127) = true := decide_eq_true c28
                        clear c28
                        by_cases c29 : x3_1.length < 140737488355328
                        · rw [if_pos c29] at H
                          have LMc29 := Aside0.mk c29
                          clear c29
                          obtain ⟨y246, hy246⟩ : ∃ y_ : List Int, y_ = (x3_1 ++ [(bt a0 x4_1)]) := ⟨_, rfl⟩
                          replace H : (stratumref10_Quote.l0 kj6 a0 y246 (wrap64 (x4_1 + 1))) = some r := by first | (rw [hy246]; with_reducible exact H) | (have H2_ := (Option.bind_some _ _).symm.trans H; rw [hy246]; with_reducible exact H2_) | (have H2_ := (Option.bind_some _ _).symm.trans H; with_reducible exact H2_) | with_reducible exact H | (rw [hy246]; exact H) | exact H
                          have Ny246 := Aside0.mk hy246
                          clear hy246
                          have H' := Aside0.mk H
                          clear H
                          go_wp2_with (first | ((with_reducible refine gate_builtin (b := .append) (xs := #[.tmp 55, .tmp 57]) rfl ?_); at_builtin; refine Kd.R_append (Kd.int .u8) (w0 := w) w.heap.size rfl (.tmp 55) (.tmp 57) 70 5 (.int .u8 0) 1 rfl Tryd.underlying70 info5 rfl (by decide) (by omega) u3 x3_1 (bt a0 x4_1) [.int .u8 (bt a0 x4_1)] (fun _ => True) (fun _ => False) rfl rfl ?aP (fun _ hk => hk.elim) ?aF ?aO ?aB ?aS ?aL ?_; (case aP => exact rfl); (case aB => exact (by repeat (first | (with_reducible first | exact HB.out | apply below_alloc | apply pw_below_drewN | apply below_drew1) | exact HB.out))); (case aF => exact (fun _ _ => trivial)); (case aO => exact (by (with_reducible repeat (first | apply Kd.R_alloc | apply Kd.R_drewN | apply Kd.R_drew)); exact HO_3.out)); (case aS => exact (below_size (by repeat (first | (with_reducible first | exact HB.out | apply below_alloc | apply pw_below_drewN | apply below_drew1) | exact HB.out)))); (case aL => have := LMc29.out; omega); intro v247 w30 ho hb hg hat; rw [← Ny246.out] at ho; have n0_ := Aside0.mk (hb); have n1_ := Aside0.mk (ho); clear HB; clear HO_3; have HB := n0_; have HO248 := n1_; clear n0_ n1_; clear ho hb hg hat))
                          go_roundg kj6
                          case measure => have := HK1.out; have := HJ6.out; omega
                          case rel => exact ⟨(y246), (wrap64 (x4_1 + 1)), (by first | rfl | (simp; done) | (simp [*]; done)), H', ⟨by have := HK1.out; have := HJ6.out; omega⟩, ⟨by (with_reducible repeat (first | apply Kd.R_alloc | apply Kd.R_drewN | apply Kd.R_drew)); exact HO248.out⟩, ⟨by repeat (first | (with_reducible first | exact HB.out | apply below_alloc | apply pw_below_drewN | apply below_drew1) | exact HB.out)⟩⟩
                        · rw [if_neg c29] at H
                          exact absurd H (by simp)
                      · rw [if_neg c28] at H
                        have c28b0 : decide ((bt a0 x4_1) < 127) = false := decide_eq_false c28
                        clear c28
                        obtain ⟨ji31, hji31⟩ : ∃ j_ : Int, ((Int.tdiv (bt a0 x4_1) 16) % 256) = j_ := ⟨_, rfl⟩
                        have jzji31 : IntKind.u8.wrap (Int.tdiv (bt a0 x4_1) 16) = ji31 := by rw [IntKind.wrap_u8]; exact hji31
                        replace H : (if 0 ≤ (ji31) then (if (ji31) < 16 then (if 0 ≤ (Int.tmod (bt a0 x4_1) 16) then (if (Int.tmod (bt a0 x4_1) 16) < 16 then ((some (([92, 120, bt (⟨#[48, 49, 50, 51, 52, 53, 54, 55, 56, 57, 97, 98, 99, 100, 101, 102]⟩ : ByteArray) (ji31), bt (⟨#[48, 49, 50, 51, 52, 53, 54, 55, 56, 57, 97, 98, 99, 100, 101, 102]⟩ : ByteArray) (Int.tmod (bt a0 x4_1) 16)] : List Int) : List Int)).bind fun y249 => (if x3_1.length + y249.length < 140737488355328 then (stratumref10_Quote.l0 kj6 a0 (x3_1 ++ y249) (wrap64 (x4_1 + 1))) else (none))) else (none)) else (none)) else (none)) else (none)) = some r := by first | (rw [hji31] at H; exact H) | (simp only [hji31] at H ⊢; exact H)
                        by_cases c32 : 0 ≤ (ji31)
                        · rw [if_pos c32] at H
                          have c32b0 : decide (0 ≤ (ji31)) = true := decide_eq_true c32
                          clear c32
                          by_cases c33 : (ji31) < 16
                          · rw [if_pos c33] at H
                            have c33b0 : decide ((ji31) < 16) = true := decide_eq_true c33
                            clear c33
                            obtain ⟨ji35, hji35⟩ : ∃ j_ : Int, (Int.tmod (bt a0 x4_1) 16) = j_ := ⟨_, rfl⟩
                            replace H : (if 0 ≤ (ji35) then (if (ji35) < 16 then ((some (([92, 120, bt (⟨#[48, 49, 50, 51, 52, 53, 54, 55, 56, 57, 97, 98, 99, 100, 101, 102]⟩ : ByteArray) (ji31), bt (⟨#[48, 49, 50, 51, 52, 53, 54, 55, 56, 57, 97, 98, 99, 100, 101, 102]⟩ : ByteArray) (ji35)] : List Int) : List Int)).bind fun y249 => (if x3_1.length + y249.length < 140737488355328 then (stratumref10_Quote.l0 kj6 a0 (x3_1 ++ y249) (wrap64 (x4_1 + 1))) else (none))) else (none)) else (none)) = some r := by first | (rw [hji35] at H; exact H) | (simp only [hji35] at H ⊢; exact H)
                            by_cases c36 : 0 ≤ (ji35)
                            · rw [if_pos c36] at H
                              have c36b0 : decide (0 ≤ (ji35)) = true := decide_eq_true c36
                              clear c36
                              by_cases c37 : (ji35) < 16
                              · rw [if_pos c37] at H
                                have c37b0 : decide ((ji35) < 16) = true := decide_eq_true c37
                                clear c37
                                obtain ⟨y249, hy249⟩ : ∃ y_ : List Int, y_ = (([92, 120, bt (⟨#[48, 49, 50, 51, 52, 53, 54, 55, 56, 57, 97, 98, 99, 100, 101, 102]⟩ : ByteArray) (ji31), bt (⟨#[48, 49, 50, 51, 52, 53, 54, 55, 56, 57, 97, 98, 99, 100, 101, 102]⟩ : ByteArray) (ji35)] : List Int)) := ⟨_, rfl⟩
                                replace H : (if x3_1.length + y249.length < 140737488355328 then (stratumref10_Quote.l0 kj6 a0 (x3_1 ++ y249) (wrap64 (x4_1 + 1))) else (none)) = some r := by first | (rw [hy249]; with_reducible exact H) | (have H2_ := (Option.bind_some _ _).symm.trans H; rw [hy249]; with_reducible exact H2_) | (have H2_ := (Option.bind_some _ _).symm.trans H; with_reducible exact H2_) | with_reducible exact H | (rw [hy249]; exact H) | exact H
                                have Ny249 := Aside0.mk hy249
                                clear hy249
                                by_cases c39 : x3_1.length + y249.length < 140737488355328
                                · rw [if_pos c39] at H
                                  have LMc39 := Aside0.mk c39
                                  clear c39
                                  obtain ⟨y252, hy252⟩ : ∃ y_ : List Int, y_ = (x3_1 ++ y249) := ⟨_, rfl⟩
                                  replace H : (stratumref10_Quote.l0 kj6 a0 y252 (wrap64 (x4_1 + 1))) = some r := by first | (rw [hy252]; with_reducible exact H) | (have H2_ := (Option.bind_some _ _).symm.trans H; rw [hy252]; with_reducible exact H2_) | (have H2_ := (Option.bind_some _ _).symm.trans H; with_reducible exact H2_) | with_reducible exact H | (rw [hy252]; exact H) | exact H
                                  have Ny252 := Aside0.mk hy252
                                  clear hy252
                                  have H' := Aside0.mk H
                                  clear H
                                  try go_wp2
                                  have n0_ := Aside0.mk (Kd.R_drew HO_3.out)
                                  have n1_ := Aside0.mk (below_drew1 HB.out)
                                  clear HO_3
                                  clear HB
                                  have HO_3 := n0_
                                  have HB := n1_
                                  clear n0_ n1_
                                  have p34 : 0 ≤ ((ji31) : Int) := of_decide_eq_true (by first | (with_reducible assumption) | assumption)
                                  have q34 : (ji31) < (16 : Int) := of_decide_eq_true (by first | (with_reducible assumption) | assumption)
                                  have hx34 := bt_at (⟨#[48, 49, 50, 51, 52, 53, 54, 55, 56, 57, 97, 98, 99, 100, 101, 102]⟩ : ByteArray) (ji31)
                                  replace p34 := eq_true p34
                                  replace q34 := eq_true q34
                                  have p38 : 0 ≤ ((ji35) : Int) := of_decide_eq_true (by first | (with_reducible assumption) | assumption)
                                  have q38 : (ji35) < (16 : Int) := of_decide_eq_true (by first | (with_reducible assumption) | assumption)
                                  have hx38 := bt_at (⟨#[48, 49, 50, 51, 52, 53, 54, 55, 56, 57, 97, 98, 99, 100, 101, 102]⟩ : ByteArray) (ji35)
                                  replace p38 := eq_true p38
                                  replace q38 := eq_true q38
                                  refine start_ (n := 10) (S := fun w' => True) (ds := []) #[false, false, false, false, false, false, false, false, false, false] (by kernel_rfl) rfl rfl trivial (fun hHeld => ?_); refine with_tabW stratumref10_Quote.tab6 stratumref10_Quote.bits6 (fun HT_ HW_ => ?_)
                                  generalize wc.drew = w40 at HO_3 HB hHeld ⊢
                                  refine pure_ (i := 0) (N := some 16) (v := ?_) (a' := ?_) #[true, false, false, false, false, false, false, false, false, false] rfl rfl (any_of HT_.out (by kernel_rfl)) (fun _ _ _ h => h) (Or.inl ⟨by rfl, ?_⟩) ?_ ?_
                                  rotate_left
                                  · intro w'
                                    go_simp
                                    with_reducible rfl
                                  rotate_left
                                  · simp only [Act.put, List.setIfInBounds_toArray, List.set_cons_zero, List.set_cons_succ, i64_w, i32_w]
                                    rfl
                                  refine pure_ (i := 1) (N := some 17) (v := ?_) (a' := ?_) #[true, true, false, false, false, false, false, false, false, false] rfl rfl (any_of HT_.out (by kernel_rfl)) (fun _ _ _ h => h) (Or.inl ⟨by rfl, ?_⟩) ?_ ?_
                                  rotate_left
                                  · intro w'
                                    go_simp
                                    with_reducible rfl
                                  rotate_left
                                  · simp only [Act.put, List.setIfInBounds_toArray, List.set_cons_zero, List.set_cons_succ, i64_w, i32_w]
                                    rfl
                                  refine pure_ (i := 2) (N := some 18) (v := ?_) (a' := ?_) #[true, true, true, false, false, false, false, false, false, false] rfl rfl (any_of HT_.out (by kernel_rfl)) (fun _ _ _ h => h) (Or.inl ⟨by rfl, ?_⟩) ?_ ?_
                                  rotate_left
                                  · intro w'
                                    go_simp
                                    with_reducible rfl
                                  rotate_left
                                  · simp only [Act.put, List.setIfInBounds_toArray, List.set_cons_zero, List.set_cons_succ, i64_w, i32_w]
                                    rfl
                                  refine pure_ (i := 4) (N := some 20) (v := ?_) (a' := ?_) #[true, true, true, false, true, false, false, false, false, false] rfl rfl (any_of HT_.out (by kernel_rfl)) (fun _ _ _ h => h) (Or.inl ⟨by rfl, ?_⟩) ?_ ?_
                                  rotate_left
                                  · intro w'
                                    go_simp
                                    with_reducible rfl
                                  rotate_left
                                  · simp only [Act.put, List.setIfInBounds_toArray, List.set_cons_zero, List.set_cons_succ, i64_w, i32_w]
                                    rfl
                                  refine pure_ (i := 5) (N := some 21) (v := ?_) (a' := ?_) #[true, true, true, false, true, true, false, false, false, false] rfl rfl (any_of HT_.out (by kernel_rfl)) (fun _ _ _ h => h) (Or.inl ⟨by rfl, ?_⟩) ?_ ?_
                                  rotate_left
                                  · intro w'
                                    go_simp
                                    with_reducible rfl
                                  rotate_left
                                  · simp only [Act.put, List.setIfInBounds_toArray, List.set_cons_zero, List.set_cons_succ, i64_w, i32_w]
                                    rfl
                                  refine take_ (i := 3) (N := some 19) (v := ?_) (a' := ?_) #[true, true, true, true, true, true, false, false, false, false] rfl rfl (take_ofW HT_.out HW_.out (by kernel_rfl)) (fun _ _ _ h => h) (Or.inl ⟨by rfl, ?_⟩) hHeld ?_ ?_
                                  rotate_left
                                  · intro w' _
                                    go_simp
                                    with_reducible rfl
                                  rotate_left
                                  · simp only [Act.put, List.setIfInBounds_toArray, List.set_cons_zero, List.set_cons_succ, i64_w, i32_w]
                                    rfl
                                  refine take_ (i := 6) (N := some 22) (v := ?_) (a' := ?_) #[true, true, true, true, true, true, true, false, false, false] rfl rfl (take_ofW HT_.out HW_.out (by kernel_rfl)) (fun _ _ _ h => h) (Or.inl ⟨by rfl, ?_⟩) hHeld ?_ ?_
                                  rotate_left
                                  · intro w' _
                                    go_simp
                                    with_reducible rfl
                                  rotate_left
                                  · simp only [Act.put, List.setIfInBounds_toArray, List.set_cons_zero, List.set_cons_succ, i64_w, i32_w]
                                    rfl
                                  refine one_ (i := 7) (N := some 23) #[true, true, true, true, true, true, true, true, false, false] rfl rfl (one_of HT_.out (by kernel_rfl)) (by decide) (fun K hK => ?_)
                                  refine Kd.R_lit_step (Kd.int .u8) _ 5 ?hg (N := 23) ?hd (xs := ([92, 120, bt (⟨#[48, 49, 50, 51, 52, 53, 54, 55, 56, 57, 97, 98, 99, 100, 101, 102]⟩ : ByteArray) (ji31), bt (⟨#[48, 49, 50, 51, 52, 53, 54, 55, 56, 57, 97, 98, 99, 100, 101, 102]⟩ : ByteArray) (ji35)] : List Int)) (inner := [.int .u8 92, .int .u8 120, .int .u8 (bt (⟨#[48, 49, 50, 51, 52, 53, 54, 55, 56, 57, 97, 98, 99, 100, 101, 102]⟩ : ByteArray) (ji31)), .int .u8 (bt (⟨#[48, 49, 50, 51, 52, 53, 54, 55, 56, 57, 97, 98, 99, 100, 101, 102]⟩ : ByteArray) (ji35))]) (ok := fun _ => True) (okp := fun _ => True) ?hr ?hp (fun _ hk => hk) trivial (Below.refl _ _) (Nat.le_refl _) (by simp) ?_; (case hd => rfl); (case hg => rfl); (case hr => first | (go_simp; done) | (go_simp; rfl)); (case hp => exact (Reps.one (show Kd.M (Kd.int .u8) _ _ _ 92 [.int .u8 92] from rfl) (Reps.one (show Kd.M (Kd.int .u8) _ _ _ 120 [.int .u8 120] from rfl) (Reps.one (show Kd.M (Kd.int .u8) _ _ _ (bt (⟨#[48, 49, 50, 51, 52, 53, 54, 55, 56, 57, 97, 98, 99, 100, 101, 102]⟩ : ByteArray) (ji31)) [.int .u8 (bt (⟨#[48, 49, 50, 51, 52, 53, 54, 55, 56, 57, 97, 98, 99, 100, 101, 102]⟩ : ByteArray) (ji31))] from rfl) (Reps.one (show Kd.M (Kd.int .u8) _ _ _ (bt (⟨#[48, 49, 50, 51, 52, 53, 54, 55, 56, 57, 97, 98, 99, 100, 101, 102]⟩ : ByteArray) (ji35)) [.int .u8 (bt (⟨#[48, 49, 50, 51, 52, 53, 54, 55, 56, 57, 97, 98, 99, 100, 101, 102]⟩ : ByteArray) (ji35))] from rfl) (Reps.none _ _))))))
                                  intro v250 w41 ho42 hb hg_ hnew_
                                  clear hg_ hnew_
                                  (first | rw [← Ny249.out] at ho42 | (simp only [Int.reduceToNat] at ho42; rw [← Ny249.out] at ho42))
                                  have n0_ := Aside0.mk (Kd.R_elder' (by (with_reducible repeat (first | apply Kd.R_alloc | apply Kd.R_drewN | apply Kd.R_drew)); exact HO_3.out) (Kd.R_base ho42) hb)
                                  have n1_ := Aside0.mk (Kd.R_lower (Kd.R_new' ho42 (Kd.R_lt (by (with_reducible repeat (first | apply Kd.R_alloc | apply Kd.R_drewN | apply Kd.R_drew)); exact HO_3.out))) (below_size (by repeat (first | (with_reducible first | exact HB.out | apply below_alloc | apply pw_below_drewN | apply below_drew1) | exact HB.out))))
                                  have n2_ := Aside0.mk (below_step (by repeat (first | (with_reducible first | exact HB.out | apply below_alloc | apply pw_below_drewN | apply below_drew1) | exact HB.out)) hb)
                                  clear HO_3
                                  clear HB
                                  have HO_3 := n0_
                                  have HO251 := n1_
                                  have HB := n2_
                                  clear n0_ n1_ n2_
                                  clear hb ho42
                                  obtain ⟨Ao44, co44, eo44⟩ := Kd.R_slice HO251.out
                                  (first | subst eo44 | (injection eo44 with f1_ f2_ f3_; have f4_ := f1_.symm; have f5_ := f3_.symm; clear f1_ f2_ f3_; subst f4_; subst f5_))
                                  refine hK.out _ _ trivial (fun hHeld => ?_)
                                  clear hK K
                                  refine norm_ (a' := ?_) ?_ ?_
                                  rotate_left
                                  · show Act.put _ (some 23) _ = _
                                    simp only [Act.put, List.setIfInBounds_toArray, List.set_cons_zero, List.set_cons_succ, i64_w, i32_w]
                                    rfl
                                  refine one_ (i := 8) (N := some 24) #[true, true, true, true, true, true, true, true, true, false] rfl rfl (one_of HT_.out (by kernel_rfl)) (by decide) (fun K hK => ?_)
                                  refine Kd.R_append_rows_step (Kd.int .u8) (w0 := w) w.heap.size (by rfl) (.tmp 16) (.tmp 23) 70 5 (.int .u8 0) 1 rfl Tryd.underlying70 info5 rfl (by decide) (by omega) u3 x3_1 y249 _ _ _ (fun k_ => some k_ ≠ (.slice Ao44 y249.length co44 : Value).ownBlock) (fun _ => False) rfl rfl ?aO ?aR (fun _ _ h => h) (fun _ h => h.elim) ?aF ?aB ?aS ?aL ?_
                                  (case aR => repeat (first | exact (Kd.R_reads' HO251.out).2.2 | (with_reducible refine Kd.C_alloc ?_ _) | (with_reducible refine Kd.C_drewN ?_ _) | (with_reducible refine Kd.C_drew ?_)))
                                  (case aB => exact (by repeat (first | (with_reducible first | exact HB.out | apply below_alloc | apply pw_below_drewN | apply below_drew1) | exact HB.out)))
                                  (case aF => exact (fun k_ hk => Kd.fresh' (Kd.R_lt (by (with_reducible repeat (first | apply Kd.R_alloc | apply Kd.R_drewN | apply Kd.R_drew)); exact HO251.out)) k_ hk))
                                  (case aO => exact (by (with_reducible repeat (first | apply Kd.R_alloc | apply Kd.R_drewN | apply Kd.R_drew)); exact Kd.R_mono HO_3.out (fun _ hk => hk.2)))
                                  (case aS => exact (below_size (by repeat (first | (with_reducible first | exact HB.out | apply below_alloc | apply pw_below_drewN | apply below_drew1) | exact HB.out))))
                                  (case aL => have := LMc39.out; omega)
                                  intro v253 w43 ho hb hg hat
                                  rw [← Ny252.out] at ho
                                  have n0_ := Aside0.mk (Kd.R_after (ok := (fun _ => True)) (by (with_reducible repeat (first | apply Kd.R_alloc | apply Kd.R_drewN | apply Kd.R_drew)); exact HO251.out) hg hat)
                                  have n1_ := Aside0.mk (hb)
                                  have n2_ := Aside0.mk (ho)
                                  clear HO251
                                  clear HB
                                  clear HO_3
                                  have HO251 := n0_
                                  have HB := n1_
                                  have HO254 := n2_
                                  clear n0_ n1_ n2_
                                  clear ho hb hg hat
                                  refine hK.out _ _ trivial (fun hHeld => ?_)
                                  clear hK K
                                  refine norm_ (a' := ?_) ?_ ?_
                                  rotate_left
                                  · show Act.put _ (some 24) _ = _
                                    simp only [Act.put, List.setIfInBounds_toArray, List.set_cons_zero, List.set_cons_succ, i64_w, i32_w]
                                    rfl
                                  refine pure_ (i := 9) (N := some 3) (v := ?_) (a' := ?_) #[true, true, true, true, true, true, true, true, true, true] rfl rfl (any_of HT_.out (by kernel_rfl)) (fun _ _ _ h => h) (Or.inl ⟨by rfl, ?_⟩) ?_ ?_
                                  rotate_left
                                  · intro w'
                                    go_simp
                                    with_reducible rfl
                                  rotate_left
                                  · simp only [Act.put, List.setIfInBounds_toArray, List.set_cons_zero, List.set_cons_succ, i64_w, i32_w]
                                    rfl
                                  refine done_ (done_of HT_.out (by kernel_rfl)) ?_
                                  try go_wp2
                                  go_roundg kj6
                                  case measure => have := HK1.out; have := HJ6.out; omega
                                  case rel => exact ⟨(y252), (wrap64 (x4_1 + 1)), (by first | rfl | (simp; done) | (simp [*]; done)), H', ⟨by have := HK1.out; have := HJ6.out; omega⟩, ⟨by (with_reducible repeat (first | apply Kd.R_alloc | apply Kd.R_drewN | apply Kd.R_drew)); exact Kd.R_mono HO254.out (fun _ hk => trivial)⟩, ⟨by repeat (first | (with_reducible first | exact HB.out | apply below_alloc | apply pw_below_drewN | apply below_drew1) | exact HB.out)⟩⟩
                                · rw [if_neg c39] at H
                                  exact absurd H (by simp)
                              · rw [if_neg c37] at H
                                exact absurd H (by simp)
                            · rw [if_neg c36] at H
                              exact absurd H (by simp)
                          · rw [if_neg c33] at H
                            exact absurd H (by simp)
                        · rw [if_neg c32] at H
                          exact absurd H (by simp)
                    · rw [if_neg c27] at H
                      have c27b0 : decide (32 ≤ (bt a0 x4_1)) = false := decide_eq_false c27
                      clear c27
                      try clear hji31
                      try clear hji31w
                      obtain ⟨ji45, hji45⟩ : ∃ j_ : Int, ((Int.tdiv (bt a0 x4_1) 16) % 256) = j_ := ⟨_, rfl⟩
                      have jzji45 : IntKind.u8.wrap (Int.tdiv (bt a0 x4_1) 16) = ji45 := by rw [IntKind.wrap_u8]; exact hji45
                      replace H : (if 0 ≤ (ji45) then (if (ji45) < 16 then (if 0 ≤ (Int.tmod (bt a0 x4_1) 16) then (if (Int.tmod (bt a0 x4_1) 16) < 16 then ((some (([92, 120, bt (⟨#[48, 49, 50, 51, 52, 53, 54, 55, 56, 57, 97, 98, 99, 100, 101, 102]⟩ : ByteArray) (ji45), bt (⟨#[48, 49, 50, 51, 52, 53, 54, 55, 56, 57, 97, 98, 99, 100, 101, 102]⟩ : ByteArray) (Int.tmod (bt a0 x4_1) 16)] : List Int) : List Int)).bind fun y255 => (if x3_1.length + y255.length < 140737488355328 then (stratumref10_Quote.l0 kj6 a0 (x3_1 ++ y255) (wrap64 (x4_1 + 1))) else (none))) else (none)) else (none)) else (none)) else (none)) = some r := by first | (rw [hji45] at H; exact H) | (simp only [hji45] at H ⊢; exact H)
                      by_cases c46 : 0 ≤ (ji45)
                      · rw [if_pos c46] at H
                        have c46b0 : decide (0 ≤ (ji45)) = true := decide_eq_true c46
                        clear c46
                        by_cases c47 : (ji45) < 16
                        · rw [if_pos c47] at H
                          have c47b0 : decide ((ji45) < 16) = true := decide_eq_true c47
                          clear c47
                          try clear hji35
                          try clear hji35w
                          obtain ⟨ji49, hji49⟩ : ∃ j_ : Int, (Int.tmod (bt a0 x4_1) 16) = j_ := ⟨_, rfl⟩
                          replace H : (if 0 ≤ (ji49) then (if (ji49) < 16 then ((some (([92, 120, bt (⟨#[48, 49, 50, 51, 52, 53, 54, 55, 56, 57, 97, 98, 99, 100, 101, 102]⟩ : ByteArray) (ji45), bt (⟨#[48, 49, 50, 51, 52, 53, 54, 55, 56, 57, 97, 98, 99, 100, 101, 102]⟩ : ByteArray) (ji49)] : List Int) : List Int)).bind fun y255 => (if x3_1.length + y255.length < 140737488355328 then (stratumref10_Quote.l0 kj6 a0 (x3_1 ++ y255) (wrap64 (x4_1 + 1))) else (none))) else (none)) else (none)) = some r := by first | (rw [hji49] at H; exact H) | (simp only [hji49] at H ⊢; exact H)
                          by_cases c50 : 0 ≤ (ji49)
                          · rw [if_pos c50] at H
                            have c50b0 : decide (0 ≤ (ji49)) = true := decide_eq_true c50
                            clear c50
                            by_cases c51 : (ji49) < 16
                            · rw [if_pos c51] at H
                              have c51b0 : decide ((ji49) < 16) = true := decide_eq_true c51
                              clear c51
                              obtain ⟨y255, hy255⟩ : ∃ y_ : List Int, y_ = (([92, 120, bt (⟨#[48, 49, 50, 51, 52, 53, 54, 55, 56, 57, 97, 98, 99, 100, 101, 102]⟩ : ByteArray) (ji45), bt (⟨#[48, 49, 50, 51, 52, 53, 54, 55, 56, 57, 97, 98, 99, 100, 101, 102]⟩ : ByteArray) (ji49)] : List Int)) := ⟨_, rfl⟩
                              replace H : (if x3_1.length + y255.length < 140737488355328 then (stratumref10_Quote.l0 kj6 a0 (x3_1 ++ y255) (wrap64 (x4_1 + 1))) else (none)) = some r := by first | (rw [hy255]; with_reducible exact H) | (have H2_ := (Option.bind_some _ _).symm.trans H; rw [hy255]; with_reducible exact H2_) | (have H2_ := (Option.bind_some _ _).symm.trans H; with_reducible exact H2_) | with_reducible exact H | (rw [hy255]; exact H) | exact H
                              have Ny255 := Aside0.mk hy255
                              clear hy255
                              by_cases c53 : x3_1.length + y255.length < 140737488355328
                              · rw [if_pos c53] at H
                                have LMc53 := Aside0.mk c53
                                clear c53
                                obtain ⟨y258, hy258⟩ : ∃ y_ : List Int, y_ = (x3_1 ++ y255) := ⟨_, rfl⟩
                                replace H : (stratumref10_Quote.l0 kj6 a0 y258 (wrap64 (x4_1 + 1))) = some r := by first | (rw [hy258]; with_reducible exact H) | (have H2_ := (Option.bind_some _ _).symm.trans H; rw [hy258]; with_reducible exact H2_) | (have H2_ := (Option.bind_some _ _).symm.trans H; with_reducible exact H2_) | with_reducible exact H | (rw [hy258]; exact H) | exact H
                                have Ny258 := Aside0.mk hy258
                                clear hy258
                                have H' := Aside0.mk H
                                clear H
                                try go_wp2
                                have n0_ := Aside0.mk (Kd.R_drew HO_3.out)
                                have n1_ := Aside0.mk (below_drew1 HB.out)
                                clear HO_3
                                clear HB
                                have HO_3 := n0_
                                have HB := n1_
                                clear n0_ n1_
                                have p48 : 0 ≤ ((ji45) : Int) := of_decide_eq_true (by first | (with_reducible assumption) | assumption)
                                have q48 : (ji45) < (16 : Int) := of_decide_eq_true (by first | (with_reducible assumption) | assumption)
                                have hx48 := bt_at (⟨#[48, 49, 50, 51, 52, 53, 54, 55, 56, 57, 97, 98, 99, 100, 101, 102]⟩ : ByteArray) (ji45)
                                replace p48 := eq_true p48
                                replace q48 := eq_true q48
                                have p52 : 0 ≤ ((ji49) : Int) := of_decide_eq_true (by first | (with_reducible assumption) | assumption)
                                have q52 : (ji49) < (16 : Int) := of_decide_eq_true (by first | (with_reducible assumption) | assumption)
                                have hx52 := bt_at (⟨#[48, 49, 50, 51, 52, 53, 54, 55, 56, 57, 97, 98, 99, 100, 101, 102]⟩ : ByteArray) (ji49)
                                replace p52 := eq_true p52
                                replace q52 := eq_true q52
                                refine start_ (n := 10) (S := fun w' => True) (ds := []) #[false, false, false, false, false, false, false, false, false, false] (by kernel_rfl) rfl rfl trivial (fun hHeld => ?_); refine with_tabW stratumref10_Quote.tab6 stratumref10_Quote.bits6 (fun HT_ HW_ => ?_)
                                generalize wc.drew = w54 at HO_3 HB hHeld ⊢
                                refine pure_ (i := 0) (N := some 16) (v := ?_) (a' := ?_) #[true, false, false, false, false, false, false, false, false, false] rfl rfl (any_of HT_.out (by kernel_rfl)) (fun _ _ _ h => h) (Or.inl ⟨by rfl, ?_⟩) ?_ ?_
                                rotate_left
                                · intro w'
                                  go_simp
                                  with_reducible rfl
                                rotate_left
                                · simp only [Act.put, List.setIfInBounds_toArray, List.set_cons_zero, List.set_cons_succ, i64_w, i32_w]
                                  rfl
                                refine pure_ (i := 1) (N := some 17) (v := ?_) (a' := ?_) #[true, true, false, false, false, false, false, false, false, false] rfl rfl (any_of HT_.out (by kernel_rfl)) (fun _ _ _ h => h) (Or.inl ⟨by rfl, ?_⟩) ?_ ?_
                                rotate_left
                                · intro w'
                                  go_simp
                                  with_reducible rfl
                                rotate_left
                                · simp only [Act.put, List.setIfInBounds_toArray, List.set_cons_zero, List.set_cons_succ, i64_w, i32_w]
                                  rfl
                                refine pure_ (i := 2) (N := some 18) (v := ?_) (a' := ?_) #[true, true, true, false, false, false, false, false, false, false] rfl rfl (any_of HT_.out (by kernel_rfl)) (fun _ _ _ h => h) (Or.inl ⟨by rfl, ?_⟩) ?_ ?_
                                rotate_left
                                · intro w'
                                  go_simp
                                  with_reducible rfl
                                rotate_left
                                · simp only [Act.put, List.setIfInBounds_toArray, List.set_cons_zero, List.set_cons_succ, i64_w, i32_w]
                                  rfl
                                refine pure_ (i := 4) (N := some 20) (v := ?_) (a' := ?_) #[true, true, true, false, true, false, false, false, false, false] rfl rfl (any_of HT_.out (by kernel_rfl)) (fun _ _ _ h => h) (Or.inl ⟨by rfl, ?_⟩) ?_ ?_
                                rotate_left
                                · intro w'
                                  go_simp
                                  with_reducible rfl
                                rotate_left
                                · simp only [Act.put, List.setIfInBounds_toArray, List.set_cons_zero, List.set_cons_succ, i64_w, i32_w]
                                  rfl
                                refine pure_ (i := 5) (N := some 21) (v := ?_) (a' := ?_) #[true, true, true, false, true, true, false, false, false, false] rfl rfl (any_of HT_.out (by kernel_rfl)) (fun _ _ _ h => h) (Or.inl ⟨by rfl, ?_⟩) ?_ ?_
                                rotate_left
                                · intro w'
                                  go_simp
                                  with_reducible rfl
                                rotate_left
                                · simp only [Act.put, List.setIfInBounds_toArray, List.set_cons_zero, List.set_cons_succ, i64_w, i32_w]
                                  rfl
                                refine take_ (i := 3) (N := some 19) (v := ?_) (a' := ?_) #[true, true, true, true, true, true, false, false, false, false] rfl rfl (take_ofW HT_.out HW_.out (by kernel_rfl)) (fun _ _ _ h => h) (Or.inl ⟨by rfl, ?_⟩) hHeld ?_ ?_
                                rotate_left
                                · intro w' _
                                  go_simp
                                  with_reducible rfl
                                rotate_left
                                · simp only [Act.put, List.setIfInBounds_toArray, List.set_cons_zero, List.set_cons_succ, i64_w, i32_w]
                                  rfl
                                refine take_ (i := 6) (N := some 22) (v := ?_) (a' := ?_) #[true, true, true, true, true, true, true, false, false, false] rfl rfl (take_ofW HT_.out HW_.out (by kernel_rfl)) (fun _ _ _ h => h) (Or.inl ⟨by rfl, ?_⟩) hHeld ?_ ?_
                                rotate_left
                                · intro w' _
                                  go_simp
                                  with_reducible rfl
                                rotate_left
                                · simp only [Act.put, List.setIfInBounds_toArray, List.set_cons_zero, List.set_cons_succ, i64_w, i32_w]
                                  rfl
                                refine one_ (i := 7) (N := some 23) #[true, true, true, true, true, true, true, true, false, false] rfl rfl (one_of HT_.out (by kernel_rfl)) (by decide) (fun K hK => ?_)
                                refine Kd.R_lit_step (Kd.int .u8) _ 5 ?hg (N := 23) ?hd (xs := ([92, 120, bt (⟨#[48, 49, 50, 51, 52, 53, 54, 55, 56, 57, 97, 98, 99, 100, 101, 102]⟩ : ByteArray) (ji45), bt (⟨#[48, 49, 50, 51, 52, 53, 54, 55, 56, 57, 97, 98, 99, 100, 101, 102]⟩ : ByteArray) (ji49)] : List Int)) (inner := [.int .u8 92, .int .u8 120, .int .u8 (bt (⟨#[48, 49, 50, 51, 52, 53, 54, 55, 56, 57, 97, 98, 99, 100, 101, 102]⟩ : ByteArray) (ji45)), .int .u8 (bt (⟨#[48, 49, 50, 51, 52, 53, 54, 55, 56, 57, 97, 98, 99, 100, 101, 102]⟩ : ByteArray) (ji49))]) (ok := fun _ => True) (okp := fun _ => True) ?hr ?hp (fun _ hk => hk) trivial (Below.refl _ _) (Nat.le_refl _) (by simp) ?_; (case hd => rfl); (case hg => rfl); (case hr => first | (go_simp; done) | (go_simp; rfl)); (case hp => exact (Reps.one (show Kd.M (Kd.int .u8) _ _ _ 92 [.int .u8 92] from rfl) (Reps.one (show Kd.M (Kd.int .u8) _ _ _ 120 [.int .u8 120] from rfl) (Reps.one (show Kd.M (Kd.int .u8) _ _ _ (bt (⟨#[48, 49, 50, 51, 52, 53, 54, 55, 56, 57, 97, 98, 99, 100, 101, 102]⟩ : ByteArray) (ji45)) [.int .u8 (bt (⟨#[48, 49, 50, 51, 52, 53, 54, 55, 56, 57, 97, 98, 99, 100, 101, 102]⟩ : ByteArray) (ji45))] from rfl) (Reps.one (show Kd.M (Kd.int .u8) _ _ _ (bt (⟨#[48, 49, 50, 51, 52, 53, 54, 55, 56, 57, 97, 98, 99, 100, 101, 102]⟩ : ByteArray) (ji49)) [.int .u8 (bt (⟨#[48, 49, 50, 51, 52, 53, 54, 55, 56, 57, 97, 98, 99, 100, 101, 102]⟩ : ByteArray) (ji49))] from rfl) (Reps.none _ _))))))
                                intro v256 w55 ho56 hb hg_ hnew_
                                clear hg_ hnew_
                                (first | rw [← Ny255.out] at ho56 | (simp only [Int.reduceToNat] at ho56; rw [← Ny255.out] at ho56))
                                have n0_ := Aside0.mk (Kd.R_elder' (by (with_reducible repeat (first | apply Kd.R_alloc | apply Kd.R_drewN | apply Kd.R_drew)); exact HO_3.out) (Kd.R_base ho56) hb)
                                have n1_ := Aside0.mk (Kd.R_lower (Kd.R_new' ho56 (Kd.R_lt (by (with_reducible repeat (first | apply Kd.R_alloc | apply Kd.R_drewN | apply Kd.R_drew)); exact HO_3.out))) (below_size (by repeat (first | (with_reducible first | exact HB.out | apply below_alloc | apply pw_below_drewN | apply below_drew1) | exact HB.out))))
                                have n2_ := Aside0.mk (below_step (by repeat (first | (with_reducible first | exact HB.out | apply below_alloc | apply pw_below_drewN | apply below_drew1) | exact HB.out)) hb)
                                clear HO_3
                                clear HB
                                have HO_3 := n0_
                                have HO257 := n1_
                                have HB := n2_
                                clear n0_ n1_ n2_
                                clear hb ho56
                                obtain ⟨Ao58, co58, eo58⟩ := Kd.R_slice HO257.out
                                (first | subst eo58 | (injection eo58 with f1_ f2_ f3_; have f4_ := f1_.symm; have f5_ := f3_.symm; clear f1_ f2_ f3_; subst f4_; subst f5_))
                                refine hK.out _ _ trivial (fun hHeld => ?_)
                                clear hK K
                                refine norm_ (a' := ?_) ?_ ?_
                                rotate_left
                                · show Act.put _ (some 23) _ = _
                                  simp only [Act.put, List.setIfInBounds_toArray, List.set_cons_zero, List.set_cons_succ, i64_w, i32_w]
                                  rfl
                                refine one_ (i := 8) (N := some 24) #[true, true, true, true, true, true, true, true, true, false] rfl rfl (one_of HT_.out (by kernel_rfl)) (by decide) (fun K hK => ?_)
                                refine Kd.R_append_rows_step (Kd.int .u8) (w0 := w) w.heap.size (by rfl) (.tmp 16) (.tmp 23) 70 5 (.int .u8 0) 1 rfl Tryd.underlying70 info5 rfl (by decide) (by omega) u3 x3_1 y255 _ _ _ (fun k_ => some k_ ≠ (.slice Ao58 y255.length co58 : Value).ownBlock) (fun _ => False) rfl rfl ?aO ?aR (fun _ _ h => h) (fun _ h => h.elim) ?aF ?aB ?aS ?aL ?_
                                (case aR => repeat (first | exact (Kd.R_reads' HO257.out).2.2 | (with_reducible refine Kd.C_alloc ?_ _) | (with_reducible refine Kd.C_drewN ?_ _) | (with_reducible refine Kd.C_drew ?_)))
                                (case aB => exact (by repeat (first | (with_reducible first | exact HB.out | apply below_alloc | apply pw_below_drewN | apply below_drew1) | exact HB.out)))
                                (case aF => exact (fun k_ hk => Kd.fresh' (Kd.R_lt (by (with_reducible repeat (first | apply Kd.R_alloc | apply Kd.R_drewN | apply Kd.R_drew)); exact HO257.out)) k_ hk))
                                (case aO => exact (by (with_reducible repeat (first | apply Kd.R_alloc | apply Kd.R_drewN | apply Kd.R_drew)); exact Kd.R_mono HO_3.out (fun _ hk => hk.2)))
                                (case aS => exact (below_size (by repeat (first | (with_reducible first | exact HB.out | apply below_alloc | apply pw_below_drewN | apply below_drew1) | exact HB.out))))
                                (case aL => have := LMc53.out; omega)
                                intro v259 w57 ho hb hg hat
                                rw [← Ny258.out] at ho
                                have n0_ := Aside0.mk (Kd.R_after (ok := (fun _ => True)) (by (with_reducible repeat (first | apply Kd.R_alloc | apply Kd.R_drewN | apply Kd.R_drew)); exact HO257.out) hg hat)
                                have n1_ := Aside0.mk (hb)
                                have n2_ := Aside0.mk (ho)
                                clear HO257
                                clear HB
                                clear HO_3
                                have HO257 := n0_
                                have HB := n1_
                                have HO260 := n2_
                                clear n0_ n1_ n2_
                                clear ho hb hg hat
                                refine hK.out _ _ trivial (fun hHeld => ?_)
                                clear hK K
                                refine norm_ (a' := ?_) ?_ ?_
                                rotate_left
                                · show Act.put _ (some 24) _ = _
                                  simp only [Act.put, List.setIfInBounds_toArray, List.set_cons_zero, List.set_cons_succ, i64_w, i32_w]
                                  rfl
                                refine pure_ (i := 9) (N := some 3) (v := ?_) (a' := ?_) #[true, true, true, true, true, true, true, true, true, true] rfl rfl (any_of HT_.out (by kernel_rfl)) (fun _ _ _ h => h) (Or.inl ⟨by rfl, ?_⟩) ?_ ?_
                                rotate_left
                                · intro w'
                                  go_simp
                                  with_reducible rfl
                                rotate_left
                                · simp only [Act.put, List.setIfInBounds_toArray, List.set_cons_zero, List.set_cons_succ, i64_w, i32_w]
                                  rfl
                                refine done_ (done_of HT_.out (by kernel_rfl)) ?_
                                try go_wp2
                                go_roundg kj6
                                case measure => have := HK1.out; have := HJ6.out; omega
                                case rel => exact ⟨(y258), (wrap64 (x4_1 + 1)), (by first | rfl | (simp; done) | (simp [*]; done)), H', ⟨by have := HK1.out; have := HJ6.out; omega⟩, ⟨by (with_reducible repeat (first | apply Kd.R_alloc | apply Kd.R_drewN | apply Kd.R_drew)); exact Kd.R_mono HO260.out (fun _ hk => trivial)⟩, ⟨by repeat (first | (with_reducible first | exact HB.out | apply below_alloc | apply pw_below_drewN | apply below_drew1) | exact HB.out)⟩⟩
                              · rw [if_neg c53] at H
                                exact absurd H (by simp)
                            · rw [if_neg c51] at H
                              exact absurd H (by simp)
                          · rw [if_neg c50] at H
                            exact absurd H (by simp)
                        · rw [if_neg c47] at H
                          exact absurd H (by simp)
                      · rw [if_neg c46] at H
                        exact absurd H (by simp)
        · rw [if_neg c5] at H
          exact absurd H (by simp)
      · rw [if_neg c4] at H
        have c4b0 : decide (x4_1 < (a0.size : Int)) = false := decide_eq_false c4
        clear c4
        by_cases c59 : x3_1.length < 140737488355328
        · rw [if_pos c59] at H
          have LMc59 := Aside0.mk c59
          clear c59
          obtain ⟨y225, hy225⟩ : ∃ y_ : List Int, y_ = (x3_1 ++ [34]) := ⟨_, rfl⟩
          replace H : (some (strOfNums y225)) = some r := by first | (rw [hy225]; with_reducible exact H) | (have H2_ := (Option.bind_some _ _).symm.trans H; rw [hy225]; with_reducible exact H2_) | (have H2_ := (Option.bind_some _ _).symm.trans H; with_reducible exact H2_) | with_reducible exact H | (rw [hy225]; exact H) | exact H
          have Ny225 := Aside0.mk hy225
          clear hy225
          obtain rfl := Option.some.inj H
          go_wp2_with (first | ((with_reducible refine gate_builtin (b := .append) (xs := #[.tmp 59, .tmp 60]) rfl ?_); at_builtin; refine Kd.R_append (Kd.int .u8) (w0 := w) w.heap.size rfl (.tmp 59) (.tmp 60) 70 5 (.int .u8 0) 1 rfl Tryd.underlying70 info5 rfl (by decide) (by omega) u3 x3_1 34 [.int .u8 34] (fun _ => True) (fun _ => False) rfl rfl ?aP (fun _ hk => hk.elim) ?aF ?aO ?aB ?aS ?aL ?_; (case aP => exact rfl); (case aB => exact (by repeat (first | (with_reducible first | exact HB.out | apply below_alloc | apply pw_below_drewN | apply below_drew1) | exact HB.out))); (case aF => exact (fun _ _ => trivial)); (case aO => exact (by (with_reducible repeat (first | apply Kd.R_alloc | apply Kd.R_drewN | apply Kd.R_drew)); exact HO_3.out)); (case aS => exact (below_size (by repeat (first | (with_reducible first | exact HB.out | apply below_alloc | apply pw_below_drewN | apply below_drew1) | exact HB.out)))); (case aL => have := LMc59.out; omega); intro v226 w60 ho hb hg hat; rw [← Ny225.out] at ho; have n0_ := Aside0.mk (hb); have n1_ := Aside0.mk (ho); clear HB; clear HO_3; have HB := n0_; have HO227 := n1_; clear n0_ n1_; clear ho hb hg hat; have hcv61 := own_string (P := Tryd.prog) Tryd.underlying70 Tryd.underlying5 Tryd.underlying9 (Kd.own_of_R HO227.out)))
          go_ret
          exact ⟨by first | rfl | (simp [errW_none, errW_some] <;> rfl) | (simp [*, errW_none, errW_some] <;> rfl), by repeat (first | (with_reducible first | exact HB.out | apply below_alloc | apply pw_below_drewN | apply below_drew1) | exact HB.out)⟩
        · rw [if_neg c59] at H
          exact absurd H (by simp)
end Go.Proofs.YtaijoghpfobdbaaDoor.X
end
