/- Rows of bytes told apart: what a list of lists leads to. Plain lemmas over the kit's printed words. -/
import Derived.Test.YtoddldamekamoaaDoorA
import Derived.Lib.BufferWrite
set_option linter.unusedVariables false
set_option linter.unusedSimpArgs false
namespace Go.Proofs.YtoddldamekamoaaDoor.K
open Go.RowKit Go.Proofs.YtoddldamekamoaaDoorW.PrintWords

abbrev RB (w : World) (b : Nat) (v : Value) (xs : List Int) : Prop := Kd.R (Kd.int .u8) 5 w b (fun _ => True) v xs
structure Rw where
  A : Option Addr
  n : Nat
  c : Nat
def Rw.v (r : Rw) : Value := .slice r.A r.n r.c
def mks (m : Int) (n : Nat) : List Int := List.replicate n m
theorem mks_len (m : Int) (n : Nat) : (mks m n).length = n := List.length_replicate ..
theorem mks_take (m : Int) (n k : Nat) : (mks m (n + k)).take n = mks m n := by unfold mks; rw [List.take_replicate]; congr 1; omega
theorem mks_snoc (m : Int) (n k : Nat) : mks m (n + k) ++ [m] = mks m (n + (k + 1)) := by
  unfold mks; rw [← Nat.add_assoc, List.replicate_succ']
theorem mks_rd {m : Int} {n : Nat} {i : Nat} (h : i < n) : rd (mks m n) (i : Int) = m := by
  unfold rd mks; rw [Int.toNat_natCast, List.getD_eq_getElem?_getD, List.getElem?_replicate, if_pos h]; rfl
theorem keep8 {w w1 : World} {b : Nat} {u : Value} {ys : List Int} {row : Option Nat} (h : RB w b u ys) (hg : w.grownBy w1 row) (hne : ∀ k, row = some k → some k ≠ u.ownBlock) : RB w1 b u ys := Kd.R_grown2 h rfl hg hne
/-- The block of a list of lists: its first cells. -/
structure HD (w : World) (t g : Nat) (vs : List Value) : Prop where
  blk : ∃ cs : Array Value, w.heap[g]? = some (.cells cs t (0, 0)) ∧ cs.toList.take vs.length = vs
section
variable {w w1 : World} {t g : Nat} {vs : List Value}
theorem HD.cell (h : HD w t g vs) {i : Nat} {v : Value} (hv : vs[i]? = some v) : w.cell? ⟨g, i, none⟩ = some v := by
  obtain ⟨cs, hb, ht⟩ := h.blk
  have hi : i < vs.length := (List.getElem?_eq_some_iff.1 hv).1
  rw [blk_cell hb i, ← Array.getElem?_toList]
  rw [← ht, List.getElem?_take_of_lt hi] at hv
  exact hv
theorem HD.frozen (h : HD w t g vs) (i : Nat) : w.frozen? ⟨g, i, none⟩ = false := by
  obtain ⟨cs, hb, ht⟩ := h.blk
  exact blk_frozen hb i
theorem HD.lt (h : HD w t g vs) : g < w.heap.size := by
  obtain ⟨cs, hb, ht⟩ := h.blk
  exact blk_lt hb
theorem HD.grown (h : HD w t g vs) {row : Option Nat} (hg : w.grownBy w1 row) (hne : some g ≠ row) : HD w1 t g vs := by
  obtain ⟨cs, hb, ht⟩ := h.blk
  exact ⟨cs, blk_grown hb hg hne, ht⟩
theorem HD.below (h : HD w t g vs) (hb : Below w.heap.size w w1) : HD w1 t g vs := by
  obtain ⟨cs, hb', ht⟩ := h.blk
  exact ⟨cs, blk_below hb' hb, ht⟩
theorem HD.set (h : HD w t g vs) {i : Nat} (hi : i < vs.length) (v : Value) : HD (w.setCell ⟨g, i, none⟩ v) t g (vs.set i v) := by
  obtain ⟨cs, hb, ht⟩ := h.blk
  refine ⟨_, blk_set hb i v, ?_⟩
  rw [List.length_set, Array.toList_setIfInBounds, List.take_set, ht]
theorem HD.ne (h : HD w t g vs) {b : Nat} {u : Value} {ys : List Int} (hu : RB w b u ys) (ht : t ≠ 5) : some g ≠ u.ownBlock := by
  obtain ⟨cs, hb, _⟩ := h.blk
  exact Kd.R_ne hu hb (fun e => ht e.symm)
theorem HD_of_own {base n c : Nat} (h : w.ownsRow base t 1 (.slice (some ⟨g, 0, none⟩) n c) n vs) : HD w t g vs := by
  rcases h.2 with ⟨e, _⟩ | ⟨g', cap, cur, e, _, hh, _, _, _, htk⟩
  · cases e
  · injection e with e1 e2 e3
    injection e1 with e1
    injection e1 with e1 _ _
    subst e1
    refine ⟨cur, hh, ?_⟩
    have := h.1
    rw [Nat.mul_one] at this htk
    rw [this]; exact htk
end
/-- What else there is while row i grows: the two lists of lists, the rows that are done, those that are to come. -/
structure Oth (w : World) (b t go gb : Nat) (m : Nat → Int) (rs gs : List Rw) (i : Nat) : Prop where
  ho : HD w t go (rs.map Rw.v)
  hg : HD w t gb (gs.map Rw.v)
  done : ∀ (j : Nat) (r g : Rw), j < i → rs[j]? = some r → gs[j]? = some g → g.n = r.n + 16 ∧ Kd.F (Kd.int .u8) w (fun k => r.v.ownBlock = some k) r.A (mks (m j) r.n).length (mks (m j) r.n) ∧ Kd.F (Kd.int .u8) w (fun k => g.v.ownBlock = some k) g.A (mks (m j) g.n).length (mks (m j) g.n)
  todo : ∀ (j : Nat) (r : Rw), i < j → rs[j]? = some r → RB w b r.v (mks (m j) r.n)
  oldr : ∀ (j : Nat) (r : Rw) (k : Nat), rs[j]? = some r → r.v.ownBlock = some k → k < w.heap.size ∧ k ≠ gb
  oldg : ∀ (j : Nat) (g : Rw) (k : Nat), j < i → gs[j]? = some g → g.v.ownBlock = some k → k < w.heap.size ∧ k ≠ gb
structure Free (k go gb : Nat) (rs gs : List Rw) (i : Nat) : Prop where
  o : k ≠ go
  g : k ≠ gb
  rr : ∀ (j : Nat) (r : Rw), j ≠ i → rs[j]? = some r → r.v.ownBlock ≠ some k
  rg : ∀ (j : Nat) (g : Rw), j < i → gs[j]? = some g → g.v.ownBlock ≠ some k
section
variable {w w1 : World} {b t go gb i : Nat} {m : Nat → Int} {rs gs : List Rw}
theorem Oth.grown (h : Oth w b t go gb m rs gs i) {row : Option Nat} (hg : w.grownBy w1 row) (hf : ∀ k, row = some k → Free k go gb rs gs i) : Oth w1 b t go gb m rs gs i := by
  refine ⟨h.ho.grown hg (fun e => (hf _ e.symm).o rfl), h.hg.grown hg (fun e => (hf _ e.symm).g rfl), fun j r g hj hr hgj => ?_, fun j r hj hr => ?_, fun j r k hr hk => ?_, fun j g k hj hgj hk => ?_⟩
  · obtain ⟨h0, h1, h2⟩ := h.done j r g hj hr hgj
    exact ⟨h0, Kd.F_grown h1 hg (fun k hk e => (hf k e.symm).rr j r (by omega) hr hk), Kd.F_grown h2 hg (fun k hk e => (hf k e.symm).rg j g hj hgj hk)⟩
  · exact keep8 (h.todo j r hj hr) hg (fun k hk e => (hf k hk).rr j r (by omega) hr e.symm)
  · exact ⟨Nat.lt_of_lt_of_le (h.oldr j r k hr hk).1 hg.size, (h.oldr j r k hr hk).2⟩
  · exact ⟨Nat.lt_of_lt_of_le (h.oldg j g k hj hgj hk).1 hg.size, (h.oldg j g k hj hgj hk).2⟩
theorem Oth.fresh (h : Oth w b t go gb m rs gs i) {k : Nat} (hk : w.heap.size ≤ k) : Free k go gb rs gs i :=
  ⟨by have := h.ho.lt; omega, by have := h.hg.lt; omega, fun j r _ hr e => by have := (h.oldr j r k hr e).1; omega, fun j g hj hg e => by have := (h.oldg j g k hj hg e).1; omega⟩
end
/-- A row that grows: what it was is still there, as its front or by itself. -/
def Alt (w : World) (b : Nat) (r g : Rw) (m : Int) (k : Nat) : Prop :=
  RB w b g.v (mks m (r.n + k)) ∧ g.n = r.n + k ∧ (∀ q, r.v.ownBlock = some q → q < w.heap.size) ∧
  ((g.A = r.A) ∨ ((∀ q, g.v.ownBlock = some q → r.v.ownBlock ≠ some q) ∧ Kd.F (Kd.int .u8) w (fun q => r.v.ownBlock = some q) r.A (mks m r.n).length (mks m r.n)))
theorem own_A (r : Rw) : r.v.ownBlock = r.A.map (·.block) := by
  unfold Rw.v Value.ownBlock; cases r.A <;> rfl
theorem Alt.front {w : World} {b k : Nat} {r g : Rw} {m : Int} (h : Alt w b r g m k) : Kd.F (Kd.int .u8) w (fun q => r.v.ownBlock = some q) r.A (mks m r.n).length (mks m r.n) := by
  obtain ⟨h1, h2, h3, h4⟩ := h
  rcases h4 with h4 | h4
  · have := Kd.F_front (m := r.n) rfl h1 (by rw [mks_len]; omega)
    rw [mks_take, h4] at this
    have e : (Value.slice r.A g.n g.c).ownBlock = r.v.ownBlock := by rw [own_A]; unfold Value.ownBlock; cases r.A <;> rfl
    rw [e] at this
    exact this
  · exact h4.2
theorem Alt.start {w : World} {b : Nat} {r : Rw} {m : Int} (h : RB w b r.v (mks m r.n)) : Alt w b r r m 0 := ⟨h, rfl, Kd.R_lt h, .inl rfl⟩
theorem Alt.step {w w1 : World} {b k : Nat} {r g : Rw} {m : Int} {v1 : Value} (h : Alt w b r g m k) (ho : RB w1 b v1 (mks m (r.n + k) ++ [m])) (hw : Went w w1 g.v v1 (r.n + k)) : ∃ g1 : Rw, v1 = g1.v ∧ Alt w1 b r g1 m (k + 1) := by
  have hf := h.front
  obtain ⟨h1, h2, h3, h4⟩ := h
  rw [mks_snoc] at ho
  obtain ⟨A1, c1, hv1⟩ := Kd.R_slice ho
  rw [mks_len] at hv1
  subst hv1
  refine ⟨⟨A1, r.n + (k + 1), c1⟩, rfl, ho, rfl, fun q hq => Nat.lt_of_lt_of_le (h3 q hq) hw.grown.size, ?_⟩
  rcases hw with ⟨q, c, e1, e2, hg⟩ | ⟨q, hq, hle, hg⟩
  · unfold Rw.v at e1
    injection e1 with e1 _ _
    injection e2 with e2 _ _
    rcases h4 with h4 | ⟨h4, h5⟩
    · exact .inl (by show A1 = r.A; rw [e2, ← h4, e1])
    · refine .inr ⟨fun q' hq' => ?_, Kd.F_grown h5 hg (fun q' hq' e => ?_)⟩
      · refine h4 q' ?_
        rw [own_A] at hq' ⊢
        show g.A.map (·.block) = some q'
        rw [e1, ← e2]; exact hq'
      · injection e with e
        subst e
        exact h4 q' (by rw [own_A, e1]; rfl) hq'
  · refine .inr ⟨fun q' hq' e => ?_, Kd.F_grown hf hg (fun _ _ e => by cases e)⟩
    have hq2 : (some q : Option Nat) = some q' := hq.symm.trans hq'
    injection hq2 with hq2
    have := h3 q' e
    omega
/-- i rows are done: filled and grown; the others are filled. -/
structure Done (w : World) (b gb : Nat) (m : Nat → Int) (rs gs : List Rw) (i : Nat) : Prop where
  done : ∀ (j : Nat) (r g : Rw), j < i → rs[j]? = some r → gs[j]? = some g → g.n = r.n + 16 ∧ Kd.F (Kd.int .u8) w (fun k => r.v.ownBlock = some k) r.A (mks (m j) r.n).length (mks (m j) r.n) ∧ Kd.F (Kd.int .u8) w (fun k => g.v.ownBlock = some k) g.A (mks (m j) g.n).length (mks (m j) g.n)
  todo : ∀ (j : Nat) (r : Rw), i ≤ j → rs[j]? = some r → RB w b r.v (mks (m j) r.n)
  oldr : ∀ (j : Nat) (r : Rw) (k : Nat), rs[j]? = some r → r.v.ownBlock = some k → k < w.heap.size ∧ k ≠ gb
  oldg : ∀ (j : Nat) (g : Rw) (k : Nat), j < i → gs[j]? = some g → g.v.ownBlock = some k → k < w.heap.size ∧ k ≠ gb
  two : ∀ (j j' : Nat) (g r : Rw), j < i → i ≤ j' → gs[j]? = some g → rs[j']? = some r → ∀ k, g.v.ownBlock = some k → r.v.ownBlock ≠ some k
def NoTwo (rs : List Rw) : Prop := ∀ (j j' : Nat) (r r' : Rw), j ≠ j' → rs[j]? = some r → rs[j']? = some r' → ∀ k, r.v.ownBlock = some k → r'.v.ownBlock ≠ some k
theorem NoTwo.append {rs gs : List Rw} {N : Nat} (h1 : NoTwo rs) (h2 : NoTwo gs) (h3 : ∀ (j : Nat) (r : Rw) (k : Nat), rs[j]? = some r → r.v.ownBlock = some k → k < N) (h4 : ∀ (j : Nat) (r : Rw) (k : Nat), gs[j]? = some r → r.v.ownBlock = some k → N ≤ k) : NoTwo (rs ++ gs) := by
  intro j j' r r' hne hj hj' k hk hk'
  rw [List.getElem?_append] at hj hj'
  split at hj <;> split at hj'
  · exact h1 j j' r r' hne hj hj' k hk hk'
  · have := h3 _ _ _ hj hk; have := h4 _ _ _ hj' hk'; omega
  · have := h4 _ _ _ hj hk; have := h3 _ _ _ hj' hk'; omega
  · exact h2 _ _ r r' (by omega) hj hj' k hk hk'
section
variable {w w1 : World} {b t go gb i : Nat} {m : Nat → Int} {rs gs : List Rw}
theorem Done.start (hg : HD w t gb (gs.map Rw.v)) (ht : t ≠ 5) (h : ∀ (j : Nat) (r : Rw), rs[j]? = some r → RB w b r.v (mks (m j) r.n)) : Done w b gb m rs gs 0 :=
  ⟨fun j r g hj => absurd hj (by omega), fun j r _ hr => h j r hr, fun j r k hr hk => ⟨Kd.R_lt (h j r hr) k hk, fun e => hg.ne (h j r hr) ht (by rw [hk, e])⟩, fun j g k hj => absurd hj (by omega), fun j j' g r hj => absurd hj (by omega)⟩
theorem Done.oth (h : Done w b gb m rs gs i) (ho : HD w t go (rs.map Rw.v)) (hg : HD w t gb (gs.map Rw.v)) : Oth w b t go gb m rs gs i :=
  ⟨ho, hg, h.done, fun j r hj hr => h.todo j r (by omega) hr, h.oldr, h.oldg⟩
theorem Done.free (h : Done w b gb m rs gs i) (ht : t ≠ 5) (ho : HD w t go (rs.map Rw.v)) (hg : HD w t gb (gs.map Rw.v)) (hap : NoTwo rs) {r : Rw} (hr : rs[i]? = some r) {k : Nat} (hk : r.v.ownBlock = some k) : Free k go gb rs gs i := by
  have hrow := h.todo i r (Nat.le_refl _) hr
  refine ⟨fun e => ho.ne hrow ht (by rw [hk, e]), fun e => hg.ne hrow ht (by rw [hk, e]), fun j r' hj hr' e => hap i j r r' (Ne.symm hj) hr hr' k hk e, fun j g hj hgj e => h.two j i g r hj (Nat.le_refl _) hgj hr k e hk⟩
theorem Oth.next (h : Oth w b t go gb m rs gs i) (ht : t ≠ 5) (hap : NoTwo rs) (hd : ∀ (j j' : Nat) (g r : Rw), j < i → i < j' → gs[j]? = some g → rs[j']? = some r → ∀ k, g.v.ownBlock = some k → r.v.ownBlock ≠ some k) {r g : Rw} (hr : rs[i]? = some r) (hlt : i < gs.length) (hgo : gb ≠ go) (ha : Alt w b r g (m i) 16) (hf : ∀ k, g.v.ownBlock = some k → Free k go gb rs gs i) :
    HD (w.setCell ⟨gb, i, none⟩ g.v) t go (rs.map Rw.v) ∧ HD (w.setCell ⟨gb, i, none⟩ g.v) t gb ((gs.set i g).map Rw.v) ∧ Done (w.setCell ⟨gb, i, none⟩ g.v) b gb m rs (gs.set i g) (i + 1) := by
  have hG := Go.Lib.grownBy_setCell w gb i g.v
  have hgr := ha.1
  have hfr := ha.front
  have hgn := ha.2.1
  have ga : ∀ j g', j ≠ i → (gs.set i g)[j]? = some g' → gs[j]? = some g' := fun j g' hj hg => by rwa [List.getElem?_set_ne (Ne.symm hj)] at hg
  have gi : ∀ g', (gs.set i g)[i]? = some g' → g' = g := fun g' hg => by rw [List.getElem?_set_self hlt] at hg; exact (Option.some.inj hg).symm
  have nr : ∀ (j : Nat) (r' : Rw), rs[j]? = some r' → ∀ k, r'.v.ownBlock = some k → some k ≠ some gb := fun j r' hr' k hk e => by injection e with e; exact (h.oldr j r' k hr' hk).2 e
  have ng : ∀ k, g.v.ownBlock = some k → some k ≠ some gb := fun k hk e => by injection e with e; exact (hf k hk).g e
  refine ⟨h.ho.grown hG (fun e => by injection e with e; exact hgo e.symm), ?_, ⟨fun j r' g' hj hr' hg' => ?_, fun j r' hj hr' => ?_, fun j r' k hr' hk => ?_, fun j g' k hj hg' hk => ?_, fun j j' g' r' hj hj' hg' hr' k hk => ?_⟩⟩
  · rw [List.map_set]; exact h.hg.set (by rw [List.length_map]; exact hlt) _
  · by_cases e : j = i
    · subst e
      have e1 := gi g' hg'
      have e2 : r' = r := Option.some.inj (hr'.symm.trans hr)
      subst e1 e2
      refine ⟨hgn, Kd.F_grown hfr hG (nr j r' hr'), ?_⟩
      have hF := Kd.F_of_R rfl hgr
      rw [← hgn] at hF
      exact Kd.F_grown hF hG ng
    · obtain ⟨h0, h1, h2⟩ := h.done j r' g' (by omega) hr' (ga j g' e hg')
      exact ⟨h0, Kd.F_grown h1 hG (nr j r' hr'), Kd.F_grown h2 hG (fun k hk e' => by injection e' with e'; exact (h.oldg j g' k (by omega) (ga j g' e hg') hk).2 e')⟩
  · exact keep8 (h.todo j r' (by omega) hr') hG (fun k hk e => by injection hk with hk; subst hk; exact (h.oldr j r' _ hr' e.symm).2 rfl)
  · exact ⟨Nat.lt_of_lt_of_le (h.oldr j r' k hr' hk).1 hG.size, (h.oldr j r' k hr' hk).2⟩
  · by_cases e : j = i
    · subst e
      have e1 := gi g' hg'
      subst e1
      exact ⟨Nat.lt_of_lt_of_le (Kd.R_lt hgr k hk) hG.size, (hf k hk).g⟩
    · have := h.oldg j g' k (by omega) (ga j g' e hg') hk
      exact ⟨Nat.lt_of_lt_of_le this.1 hG.size, this.2⟩
  · by_cases e : j = i
    · subst e
      have e1 := gi g' hg'
      subst e1
      exact (hf k hk).rr j' r' (by omega) hr'
    · exact hd j j' g' r' (by omega) (by omega) (ga j g' e hg') hr' k hk
end
end Go.Proofs.YtoddldamekamoaaDoor.K
