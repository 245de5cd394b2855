/- Three pairs of books: two that are there, one that is not. Conditions: those in the theorems. -/
import Derived.Test.YthadfkpibnhcgaaZ6
set_option linter.unusedVariables false
set_option linter.unusedSimpArgs false
namespace Go.Proofs.Ythadfkpibnhcgaa.B
open Go.RowKit Go.Proofs.Ythadfkpibnhcgaa.X Go.Proofs.YthadfkpibnhcgaaW.PrintWords Go.Proofs.YthadfkpibnhcgaaW.PrintLast Go.Proofs.YthadfkpibnhcgaaW.PrintMore

structure Sp where
  v : Value
  v2 : Value
  u2 : Value
  es : List S44
  cl : Nat → Bool
  cs : List Int
def Sp.fp (s : Sp) (g gr : Nat) (k : Nat) : Prop := FP g gr s.v s.v2 s.u2 k
structure Sp.Ok (s : Sp) (w : World) (base g gr : Nat) : Prop where
  pr : Pr w base g gr s.v s.v2 s.u2 s.es s.es s.cl s.cs
  cc : CC s.cl s.cs
  le : s.es.length ≤ 64
theorem Sp.Ok.below {s : Sp} {w w' : World} {base g gr : Nat} (h : s.Ok w base g gr) (k : Below w.heap.size w w') : s.Ok w' base g gr := ⟨h.pr.below k, h.cc, h.le⟩
def pk (g0 g1 k : Nat) : Value := if k = 0 then .pointer (some ⟨g0, 0, none⟩) else if k = 1 then .pointer (some ⟨g1, 0, none⟩) else .pointer none
def TabAt (w : World) (b : Nat) (t : TypeId) (g0 g1 : Nat) : Prop := w.heap[b]? = some (.cells #[.pointer (some ⟨g0, 0, none⟩), .pointer (some ⟨g1, 0, none⟩), .pointer none] t (0, 0))
theorem TabAt.cell {w : World} {b : Nat} {t : TypeId} {g0 g1 : Nat} (h : TabAt w b t g0 g1) (k : Nat) (hk : k < 3) : w.cell? ⟨b, k, none⟩ = some (pk g0 g1 k) := by
  rcases k with _ | _ | _ | k
  · exact (blk_cell h 0).trans rfl
  · exact (blk_cell h 1).trans rfl
  · exact (blk_cell h 2).trans rfl
  · omega
/-- The state of the law: its two tables and the books in them. -/
structure Two (w : World) (base ga gb g0 r0 g1 r1 : Nat) (s0 s1 : Sp) : Prop where
  k0 : s0.Ok w base g0 r0
  k1 : s1.Ok w base g1 r1
  d : ∀ k, s0.fp g0 r0 k → ¬ s1.fp g1 r1 k
  a : TabAt w ga 37 g0 g1
  b : TabAt w gb 40 r0 r1
  n : ∀ k, (k = ga ∨ k = gb) → ¬ s0.fp g0 r0 k ∧ ¬ s1.fp g1 r1 k
section
variable {w w' : World} {base ga gb g0 r0 g1 r1 : Nat} {s0 s1 : Sp}
theorem Two.below (h : Two w base ga gb g0 r0 g1 r1 s0 s1) (k : Below w.heap.size w w') : Two w' base ga gb g0 r0 g1 r1 s0 s1 := ⟨h.k0.below k, h.k1.below k, h.d, blk_below h.a k, blk_below h.b k, h.n⟩
theorem Two.lo (h : Two w base ga gb g0 r0 g1 r1 s0 s1) : base ≤ w.heap.size := by have := h.k0.pr.b.le; have := blk_lt h.k0.pr.b.blk; omega
theorem Two.tabs (h : Two w base ga gb g0 r0 g1 r1 s0 s1) (k : Nat) (hk : k = ga ∨ k = gb) : k < w.heap.size := by
  rcases hk with rfl | rfl
  · exact blk_lt h.a
  · exact blk_lt h.b
theorem Two.pt0 (h : Two w base ga gb g0 r0 g1 r1 s0 s1) (t : Pt w w' base g0 r0 s0.v s0.v2 s0.u2) : (∃ a b, Two w' base ga gb g0 r0 g1 r1 a b) ∧ Below base w w' := by
  obtain ⟨v', v2', u2', es', cl', cs', hP, hc, hl, hb, hk, hf⟩ := t.go
  refine ⟨⟨⟨v', v2', u2', es', cl', cs'⟩, s1, ⟨hP, hc, hl⟩, ⟨h.k1.pr.keep hk (fun j hj hj2 => h.d j hj2 hj), h.k1.cc, h.k1.le⟩, fun k hk0 hk1 => ?_, ?_, ?_, fun k e => ⟨fun hk0 => ?_, (h.n k e).2⟩⟩, hb⟩
  · rcases hf k hk0 with a | a
    · exact h.d k a hk1
    · have := h.k1.pr.lt k hk1; omega
  · exact (hk.2 ga (blk_lt h.a) (h.n ga (.inl rfl)).1).trans h.a
  · exact (hk.2 gb (blk_lt h.b) (h.n gb (.inr rfl)).1).trans h.b
  · rcases hf k hk0 with a | a
    · exact (h.n k e).1 a
    · have := h.tabs k e; omega
theorem Two.pt1 (h : Two w base ga gb g0 r0 g1 r1 s0 s1) (t : Pt w w' base g1 r1 s1.v s1.v2 s1.u2) : (∃ a b, Two w' base ga gb g0 r0 g1 r1 a b) ∧ Below base w w' := by
  obtain ⟨v', v2', u2', es', cl', cs', hP, hc, hl, hb, hk, hf⟩ := t.go
  refine ⟨⟨s0, ⟨v', v2', u2', es', cl', cs'⟩, ⟨h.k0.pr.keep hk (fun j hj hj2 => h.d j hj hj2), h.k0.cc, h.k0.le⟩, ⟨hP, hc, hl⟩, fun k hk0 hk1 => ?_, ?_, ?_, fun k e => ⟨(h.n k e).1, fun hk0 => ?_⟩⟩, hb⟩
  · rcases hf k hk1 with a | a
    · exact h.d k hk0 a
    · have := h.k0.pr.lt k hk0; omega
  · exact (hk.2 ga (blk_lt h.a) (h.n ga (.inl rfl)).2).trans h.a
  · exact (hk.2 gb (blk_lt h.b) (h.n gb (.inr rfl)).2).trans h.b
  · rcases hf k hk0 with a | a
    · exact (h.n k e).2 a
    · have := h.tabs k e; omega
/-- One call of the script, in whichever place. -/
theorem Two.right (h : Two w base ga gb g0 r0 g1 r1 s0 s1) (k : Nat) (hk : k < 3) (x : S27) :
    Calls Try.prog 17 #[pk g0 g1 k, pk r0 r1 k, .agg #[.int .i64 x.f0, .int .i64 x.f1, .int .i64 x.f2, .string x.f3, .int .i64 x.f4]] w fun e w' => e = .returned (.bool true) ∧ (∃ a b, Two w' base ga gb g0 r0 g1 r1 a b) ∧ Below base w w' := by
  rcases k with _ | _ | _ | k
  · exact (right_calls w base g0 r0 _ _ _ _ _ _ x h.k0.pr h.k0.cc h.k0.le).mono fun e w' ⟨he, ht⟩ => ⟨he, h.pt0 ht⟩
  · exact (right_calls w base g1 r1 _ _ _ _ _ _ x h.k1.pr h.k1.cc h.k1.le).mono fun e w' ⟨he, ht⟩ => ⟨he, h.pt1 ht⟩
  · exact (right_nil w x).mono fun e w' ⟨he, ht⟩ => ⟨he, ⟨_, _, h.below ht⟩, Below.low ht h.lo⟩
  · omega
end
/-- What is read of a pair of books, be they there or not. -/
structure Slot (w : World) (p q : Value) (es : List S44) (o : Int → Bool) : Prop where
  le : es.length ≤ 64
  al : ∀ W, Below w.heap.size w W → Calls Try.prog 14 #[p] W fun e w' => ∃ A c, e = .returned (.slice A es.length c) ∧ Kd.C k44 w' A es.length es ∧ es.length ≤ c ∧ Below W.heap.size W w'
  ral : ∀ W, Below w.heap.size w W → Calls Try.prog 19 #[q] W fun e w' => ∃ A c, e = .returned (.slice A es.length c) ∧ Kd.C k44 w' A es.length es ∧ es.length ≤ c ∧ Below W.heap.size W w'
  op : ∀ W, Below w.heap.size w W → ∀ f, Calls Try.prog 12 #[p, .int .i64 f] W fun e w' => e = .returned (.bool (o f)) ∧ W = w'
  rop : ∀ W, Below w.heap.size w W → ∀ f, Calls Try.prog 20 #[q, .int .i64 f] W fun e w' => e = .returned (.bool (o f)) ∧ W = w'
  co : ∀ W, Below w.heap.size w W → ∀ f, Calls Try.prog 13 #[p, .int .i64 f] W fun e w' => e = .returned (.int .i64 (cnt es f : Int)) ∧ Below W.heap.size W w'
  rco : ∀ W, Below w.heap.size w W → ∀ f, Calls Try.prog 21 #[q, .int .i64 f] W fun e w' => e = .returned (.int .i64 (cnt es f : Int)) ∧ Below W.heap.size W w'
theorem Sp.Ok.slot {s : Sp} {w : World} {base g gr : Nat} (h : s.Ok w base g gr) : Slot w (.pointer (some ⟨g, 0, none⟩)) (.pointer (some ⟨gr, 0, none⟩)) s.es (fun f => isF f && !s.cl f.toNat) :=
  ⟨h.le,
   fun W k => (all_calls W base g _ _ _ (h.below k).pr.b h.le).mono fun e w' ⟨v', he, ho, hb⟩ => by
    obtain ⟨A, c, rfl, h1, h2⟩ := Kd.R_reads ho
    exact ⟨A, c, he, h2, h1, hb⟩,
   fun W k => (rall_calls W base gr _ _ _ _ (h.below k).pr.r h.le).mono fun e w' ⟨v', he, ho, hb⟩ => by
    obtain ⟨A, c, rfl, h1, h2⟩ := Kd.R_reads ho
    exact ⟨A, c, he, h2, h1, hb⟩,
   fun W k f => open_calls W base g _ _ _ f (h.below k).pr.b,
   fun W k f => (ropen_calls W base gr _ _ _ _ f (h.below k).pr.r h.cc.len).mono fun e w' ⟨he, hb⟩ => ⟨by rw [he, h.cc.opn], hb⟩,
   fun W k f => count_calls W base g _ _ _ f (h.below k).pr.b (by have := h.le; omega),
   fun W k f => rcount_calls W base gr _ _ _ _ f (h.below k).pr.r h.le⟩
theorem slot_nil (w : World) : Slot w (.pointer none) (.pointer none) [] (fun _ => false) :=
  ⟨by simp,
   fun W k => (all_nil W).mono fun e w' ⟨he, hb⟩ => ⟨none, 0, he, Kd.C_nil _ _, by simp, hb ▸ Below.refl _ _⟩,
   fun W k => (rall_nil W).mono fun e w' ⟨A, c, he, hr, hb⟩ => ⟨A, c, he, hr, by simp, hb⟩,
   fun W k f => open_nil f W,
   fun W k f => ropen_nil f W,
   fun W k f => (count_nil f W).mono fun e w' ⟨he, hb⟩ => ⟨he, hb ▸ Below.refl _ _⟩,
   fun W k f => rcount_nil W f⟩
theorem Slot.below {w w1 : World} {p q : Value} {es : List S44} {o : Int → Bool} (h : Slot w p q es o) (k : Below w.heap.size w w1) : Slot w1 p q es o :=
  ⟨h.le, fun W j => h.al W (below_step k j), fun W j => h.ral W (below_step k j), fun W j => h.op W (below_step k j), fun W j => h.rop W (below_step k j), fun W j => h.co W (below_step k j), fun W j => h.rco W (below_step k j)⟩
theorem Two.slot {w : World} {base ga gb g0 r0 g1 r1 : Nat} {s0 s1 : Sp} (h : Two w base ga gb g0 r0 g1 r1 s0 s1) (k : Nat) (hk : k < 3) : ∃ es o, Slot w (pk g0 g1 k) (pk r0 r1 k) es o := by
  rcases k with _ | _ | _ | k
  · exact ⟨_, _, h.k0.slot⟩
  · exact ⟨_, _, h.k1.slot⟩
  · exact ⟨_, _, slot_nil w⟩
  · omega
end Go.Proofs.Ythadfkpibnhcgaa.B
