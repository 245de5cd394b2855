/- Entries in plain Lean: numbers rise, names are found. No program in sight, no condition. -/
import Derived.Test.YthadfkpibnhcgaaB1
set_option linter.unusedVariables false
set_option linter.unusedSimpArgs false
namespace Go.Proofs.Ythadfkpibnhcgaa.B
open Go.RowKit Go.Proofs.Ythadfkpibnhcgaa.X

/-- Each entry is of a family, and has the number of its place in it. -/
def Inv (es : List S44) : Prop := ∀ i, ∀ h : i < es.length, isF es[i].f0 = true ∧ es[i].f1 = ((cnt (es.take (i + 1)) es[i].f0 : Nat) : Int)
theorem Inv.nil : Inv [] := fun i h => by simp at h
theorem cnt_app (a b : List S44) (f : Int) : cnt (a ++ b) f = cnt a f + cnt b f := by unfold cnt; rw [List.filter_append, List.length_append]
theorem cnt_one (e : S44) (f : Int) : cnt [e] f = if e.f0 = f then 1 else 0 := by
  unfold cnt
  by_cases h : e.f0 = f
  · rw [if_pos h]; simp [h]
  · rw [if_neg h]; simp [h]
theorem cnt_take (es : List S44) (i : Nat) (f : Int) : cnt (es.take i) f ≤ cnt es f := by
  have := cnt_app (es.take i) (es.drop i) f
  rw [List.take_append_drop] at this; omega
theorem Inv.snoc {es : List S44} {f : Int} {nm : ByteArray} {sz : Int} (h : Inv es) (hf : isF f = true) : Inv (es ++ [⟨f, ((cnt es f + 1 : Nat) : Int), nm, sz⟩]) := by
  intro i hi
  rw [List.length_append, List.length_singleton] at hi
  by_cases hl : i < es.length
  · rw [List.getElem_append_left hl, List.take_append_of_le_length (by omega)]
    exact h i hl
  · obtain rfl : i = es.length := by omega
    rw [List.getElem_append_right (Nat.le_refl _)]
    simp only [Nat.sub_self, List.getElem_singleton]
    rw [List.take_of_length_le (by rw [List.length_append, List.length_singleton]; omega), cnt_app, cnt_one, if_pos rfl]
    exact ⟨hf, rfl⟩
theorem Inv.num {es : List S44} (h : Inv es) {e : S44} (he : e ∈ es) : isF e.f0 = true ∧ 1 ≤ e.f1 ∧ e.f1 ≤ (cnt es e.f0 : Int) := by
  obtain ⟨i, hi, rfl⟩ := List.mem_iff_getElem.1 he
  obtain ⟨h1, h2⟩ := h i hi
  refine ⟨h1, ?_, ?_⟩
  · rw [h2]
    have := cnt_snoc es i es[i].f0 hi
    rw [rd_at es i hi] at this
    simp only [beq_self_eq_true, if_true] at this
    omega
  · rw [h2]; have := cnt_take es (i + 1) es[i].f0; omega
theorem att_none {es : List S44} {f n : Int} (h : ∀ e ∈ es, ¬ (e.f0 = f ∧ e.f1 = n)) : att es f n = none := by
  induction es with
  | nil => rfl
  | cons e t ih => rw [att, if_neg (h e (List.mem_cons_self ..))]; exact ih fun e he => h e (List.mem_cons_of_mem _ he)
theorem att_app {es : List S44} {f n : Int} (h : att es f n = none) (m : List S44) : att (es ++ m) f n = att m f n := by
  induction es with
  | nil => rfl
  | cons e t ih =>
    rw [att] at h
    split at h
    · cases h
    · rename_i hn; rw [List.cons_append, att, if_neg hn]; exact ih h
theorem Inv.beyond {es : List S44} (h : Inv es) (f : Int) {n : Int} (hn : (cnt es f : Int) < n) : att es f n = none :=
  att_none fun e he ⟨h1, h2⟩ => by have := (h.num he).2.2; rw [h1, h2] at this; omega
theorem fnd_zero {es : List S44} (h : ∀ e ∈ es, 1 ≤ e.f1) {f : Int} {nm : ByteArray} (h0 : fnd es f nm = 0) (m : List S44) : fnd (es ++ m) f nm = fnd m f nm := by
  induction es with
  | nil => rfl
  | cons e t ih =>
    rw [fnd] at h0
    split at h0
    · have := h e (List.mem_cons_self ..); omega
    · rename_i hn; rw [List.cons_append, fnd, if_neg hn]; exact ih (fun e he => h e (List.mem_cons_of_mem _ he)) h0
theorem Inv.found {es : List S44} (h : Inv es) {f : Int} {nm : ByteArray} {sz : Int} (h0 : fnd es f nm = 0) : fnd (es ++ [⟨f, ((cnt es f + 1 : Nat) : Int), nm, sz⟩]) f nm = ((cnt es f + 1 : Nat) : Int) := by
  rw [fnd_zero (fun e he => (h.num he).2.1) h0, fnd, if_pos ⟨rfl, rfl⟩]
theorem Inv.at_new {es : List S44} (h : Inv es) (f : Int) (nm : ByteArray) (sz : Int) : att (es ++ [⟨f, ((cnt es f + 1 : Nat) : Int), nm, sz⟩]) f ((cnt es f + 1 : Nat) : Int) = some ⟨f, ((cnt es f + 1 : Nat) : Int), nm, sz⟩ := by
  rw [att_app (h.beyond f (by omega)), att, if_pos ⟨rfl, rfl⟩]
/-- What a call that went well says. -/
theorem enter_ok {es : List S44} {cl : Nat → Bool} {f : Int} {nm : ByteArray} {sz : Int} (h : enterE es cl f nm sz = 0) : isF f = true ∧ cl f.toNat = false ∧ fnd es f nm = 0 ∧ es.length < 64 := by
  unfold enterE at h
  split at h; · cases h
  rename_i h1
  split at h; · cases h
  split at h; · cases h
  split at h; · cases h
  rename_i h4
  split at h; · cases h
  rename_i h5
  split at h; · cases h
  rename_i h6
  exact ⟨by simpa using h1, by simpa using h4, by omega, by omega⟩
end Go.Proofs.Ythadfkpibnhcgaa.B
