/- RollNumbers: its walk. Condition: the script reads as one. -/
import Derived.Test.YthadfkpibnhcgaaD0
import Derived.Test.YthadfkpibnhcgaaP0
set_option linter.unusedVariables false
set_option linter.unusedSimpArgs false
namespace Go.Proofs.Ythadfkpibnhcgaa.B
open Go.RowKit Go.Proofs.Ythadfkpibnhcgaa.X Go.Proofs.YthadfkpibnhcgaaW.PrintWords Go.Proofs.YthadfkpibnhcgaaW.PrintLast Go.Proofs.YthadfkpibnhcgaaW.PrintMore

/-- Six numbers. -/
def a6 (c : Nat → Int) : Array Value := #[.int .i64 (c 0), .int .i64 (c 1), .int .i64 (c 2), .int .i64 (c 3), .int .i64 (c 4), .int .i64 (c 5)]
theorem a6_at (c : Nat → Int) (n : Nat) (h : n < 6) : (a6 c)[n]? = some (.int .i64 (c n)) := by
  have : n = 0 ∨ n = 1 ∨ n = 2 ∨ n = 3 ∨ n = 4 ∨ n = 5 := by omega
  rcases this with rfl | rfl | rfl | rfl | rfl | rfl <;> rfl
theorem a6_set (c : Nat → Int) (n : Nat) (x : Int) (h : n < 6) : (a6 c).setIfInBounds n (.int .i64 x) = a6 (fun k => if k = n then x else c k) := by
  have : n = 0 ∨ n = 1 ∨ n = 2 ∨ n = 3 ∨ n = 4 ∨ n = 5 := by omega
  rcases this with rfl | rfl | rfl | rfl | rfl | rfl <;> rfl
def cnts (es : List S44) : Nat → Int := fun k => ((cnt es (k : Int) : Nat) : Int)
theorem cnts_snoc (es : List S44) (f : Int) (nm : ByteArray) (sz n : Int) (hf : isF f = true) : (fun k => if k = f.toNat then ((cnt es f + 1 : Nat) : Int) else cnts es k) = cnts (es ++ [⟨f, n, nm, sz⟩]) := by
  have h := of_decide_eq_true hf
  funext k
  unfold cnts
  rw [cnt_app, cnt_one]
  by_cases hk : k = f.toNat
  · rw [if_pos hk, if_pos (show f = (k : Int) by omega)]; subst hk; rw [show ((f.toNat : Nat) : Int) = f by omega]
  · rw [if_neg hk, if_neg (show ¬ f = (k : Int) by omega)]; omega
/-- One call of the script at block b. -/
def OpAt (w : World) (b : Nat) (x : S27) : Prop := w.heap[b]? = some (.cells #[.int .i64 x.f0, .int .i64 x.f1, .int .i64 x.f2, .string x.f3, .int .i64 x.f4] 27 (0, 0))
theorem OpAt.c2 {w : World} {b : Nat} {x : S27} (h : OpAt w b x) : w.cell? ⟨b, 2, none⟩ = some (.int .i64 x.f2) := (blk_cell h 2).trans rfl
theorem OpAt.c3 {w : World} {b : Nat} {x : S27} (h : OpAt w b x) : w.cell? ⟨b, 3, none⟩ = some (.string x.f3) := (blk_cell h 3).trans rfl
theorem OpAt.c4 {w : World} {b : Nat} {x : S27} (h : OpAt w b x) : w.cell? ⟨b, 4, none⟩ = some (.int .i64 x.f4) := (blk_cell h 4).trans rfl
theorem OpAt.below {w w' : World} {b : Nat} {x : S27} (h : OpAt w b x) (k : Below w.heap.size w w') : OpAt w' b x := blk_below h k
theorem OpAt.keep {w w' : World} {b : Nat} {x : S27} (h : OpAt w b x) {base g : Nat} {v : Value} {es : List S44} {cl : Nat → Bool} (hB : IsB w base g v es cl) {row : Option Nat} (hr : row = none ∨ row = v.ownBlock) (k : KeepBut w w' g row) : OpAt w' b x :=
  k.blk h (blk_ne h hB.blk (by decide)) (by rcases hr with rfl | rfl; · simp
                                            · exact Kd.R_ne hB.row h (by decide))
/-- Six numbers at block b. -/
def NumAt (w : World) (b : Nat) (c : Nat → Int) : Prop := w.heap[b]? = some (.cells (a6 c) 45 (0, 0))
theorem NumAt.below {w w' : World} {b : Nat} {c : Nat → Int} (h : NumAt w b c) (k : Below w.heap.size w w') : NumAt w' b c := blk_below h k
theorem NumAt.keep {w w' : World} {b : Nat} {c : Nat → Int} (h : NumAt w b c) {base g : Nat} {v : Value} {es : List S44} {cl : Nat → Bool} (hB : IsB w base g v es cl) {row : Option Nat} (hr : row = none ∨ row = v.ownBlock) (k : KeepBut w w' g row) : NumAt w' b c :=
  k.blk h (blk_ne h hB.blk (by decide)) (by rcases hr with rfl | rfl; · simp
                                            · exact Kd.R_ne hB.row h (by decide))
theorem NumAt.cell {w : World} {b : Nat} {c : Nat → Int} (h : NumAt w b c) (n : Nat) (hn : n < 6) : w.cell? ⟨b, n, none⟩ = some (.int .i64 (c n)) := (blk_cell h n).trans (a6_at c n hn)
theorem IsB.far {w : World} {base g : Nat} {v : Value} {es : List S44} {cl : Nat → Bool} (h : IsB w base g v es cl) {b t : Nat} {cs : Array Value} (hb : w.heap[b]? = some (.cells cs t (0, 0))) (h1 : t ≠ 55) (h2 : t ≠ 44) (j : Nat) (u : Value) : IsB (w.setCell ⟨b, j, none⟩ u) base g v es cl :=
  ⟨blk_far h.blk (fun e => h1 (by subst e; have := h.blk; rw [hb] at this; injection this with this; injection this with _ ht)) u, h.le, Kd.R_set h.row hb (fun q hq => by have : k44.E = [] := rfl; rw [this] at hq; simp at hq; omega) j u⟩
end Go.Proofs.Ythadfkpibnhcgaa.B
