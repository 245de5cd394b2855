/- A slice argument of anything that reads as data, as a row of elements: what its elements are, each of bounded weight. No condition but those in the theorem. -/
import Derived.Test.YthadfkpibnhcgaaWWords
import Derived.Deep.Slices
import Derived.SizedLaws
import Derived.ChangeSlices
import Derived.OpenShut
import Derived.DataReads
import Derived.DataElems
set_option linter.unusedVariables false
set_option linter.unusedSimpArgs false
namespace Go.Proofs.Ythadfkpibnhcgaa.Q
open Go.RowKit Go.ChangeShapes Go.Proofs.YthadfkpibnhcgaaW.PrintWords

theorem weights_all {H : Type} {P : Program} {e : TypeId} : ∀ {l : List (DataW H)} {i : Nat} {d : DataW H}, l[i]? = some d → ∀ n ∈ d.weights P e, n ∈ DataW.weightsAll P e l
  | [], i, d, h, _, _ => by simp at h
  | x :: r, 0, d, h, n, hn => by
    simp only [List.getElem?_cons_zero, Option.some.injEq] at h
    subst h
    rw [DataW.weightsAll]; exact List.mem_append_left _ hn
  | x :: r, i + 1, d, h, n, hn => by
    rw [DataW.weightsAll]; exact List.mem_append_right _ (weights_all (by simpa using h) n hn)
section
variable {H : Type} {enc : TypeId × Value → H} {P : Program} {W : World} {base : Nat} {spare : Nat → Bool} {held : Bool}
theorem rows_of {α : Type} (K : Kd α) (z0 : α) {t e : TypeId} {a : Option Addr} {len cap : Nat} {d : DataW H} {ps : List MemPlace} (ht : P.underlying t = some (.slice e)) (hsz : P.cellsOf e = K.sz) (Q : α → Prop)
    (helem : ∀ (n : Nat) (cs : List Value) (y : DataW H × List MemPlace), DataW.trod enc P W base spare held n e cs = some y → (∀ m ∈ y.1.weights P e, m ≤ reachBytes) → ∃ x : α, K.K W x cs ∧ Q x)
    (hw : ∀ m ∈ d.weights P t, m ≤ reachBytes) (h : DataW.Trod enc P W base spare held t (.slice a len cap) d ps) :
    ∃ xs : List α, K.C W a xs.length xs ∧ len = xs.length ∧ xs.length ≤ cap ∧ (∀ x ∈ xs, Q x) ∧ len * P.bytesOf e ≤ reachBytes := by
  obtain ⟨fuel, hf⟩ := h
  rcases Go.Deep.open_slice ht hf with ⟨hcs, hx⟩ | ⟨ad, l, c, m, n, D, Pl, hcs, _, hl, hm, hmm, hx, hel⟩
  · simp [Value.cells] at hcs
    obtain ⟨rfl, rfl, rfl⟩ := hcs
    exact ⟨[], Kd.C_nil K W, rfl, Nat.le_refl _, by simp, by simp⟩
  · simp [Value.cells] at hcs
    obtain ⟨rfl, rfl, rfl⟩ := hcs
    obtain ⟨hd, _⟩ := Prod.mk.inj hx
    subst hd
    have hle : len ≤ m := by rw [hmm]; split <;> omega
    simp only [DataW.weights, ht] at hw
    have hlen : len * P.bytesOf e ≤ reachBytes := by
      have := hw _ (List.mem_cons_self ..)
      rw [List.length_map, List.length_range] at this
      exact Nat.le_trans (Nat.mul_le_mul_right _ (Nat.le_add_right _ _)) this
    have each : ∀ i, ∃ x : α, i < len → (∃ cs', W.cells? base (ad.add (i * P.cellsOf e)) (P.cellsOf e) = some cs' ∧ K.K W x cs') ∧ Q x := by
      intro i
      by_cases hi : i < len
      · obtain ⟨cs', hc, htr⟩ := hel i (by omega)
        have hwi : ∀ m ∈ (D i, Pl i).1.weights P e, m ≤ reachBytes := by
          intro q hq
          refine hw q (List.mem_cons_of_mem _ (List.mem_append_left _ (weights_all (i := i) (d := D i) ?_ q hq)))
          rw [List.getElem?_map, List.getElem?_range hi]; rfl
        obtain ⟨x, hx, hq⟩ := helem n cs' (D i, Pl i) htr hwi
        exact ⟨x, fun _ => ⟨⟨cs', hc, hx⟩, hq⟩⟩
      · exact ⟨z0, fun hi2 => absurd hi2 hi⟩
    obtain ⟨f, hf2⟩ := Classical.axiomOfChoice each
    have hml : (9223372036854775807 : Nat) = maxLen := rfl
    refine ⟨(List.range len).map f, ⟨rfl, ?_, fun _ => ⟨ad, rfl, fun j p hp => ?_⟩⟩, by simp, by simpa using hl, ?_, hlen⟩
    · rw [List.length_map, List.length_range, hml]; omega
    · have hj : j < len := by
        have := (List.getElem?_eq_some_iff.1 hp).1
        simpa using this
      rw [List.getElem?_map, List.getElem?_range hj] at hp
      obtain rfl : f j = p := Option.some.inj hp
      obtain ⟨⟨cs', hc, hk⟩, _⟩ := hf2 j hj
      refine ⟨cs', K.K_len hk, hk, fun i u hu => ?_⟩
      have hi : i < K.sz := by
        have := (List.getElem?_eq_some_iff.1 hu).1
        rw [K.K_len hk] at this; exact this
      obtain ⟨_, _, hcell⟩ := World.cells?_some hc
      have h3 := hcell i (by rw [hsz]; exact hi)
      rw [Addr.add_add, hsz] at h3
      rw [h3, hu]
    · intro x hx
      obtain ⟨i, hi, rfl⟩ := List.mem_map.1 hx
      exact (hf2 i (List.mem_range.1 hi)).2
/-- A row of rows of bytes. -/
theorem bytes_elem {e : TypeId} {e1 : TypeId} (he : P.underlying e = some (.slice e1)) (h1 : P.underlying e1 = some (.int .u8)) (hc1 : P.cellsOf e1 = 1) (hb1 : P.bytesOf e1 = 1) (n : Nat) (cs : List Value) (y : DataW H × List MemPlace)
    (h : DataW.trod enc P W base spare held n e cs = some y) (hw : ∀ m ∈ y.1.weights P e, m ≤ reachBytes) :
    ∃ x : List Int, (Kd.slice e1 (Kd.int .u8)).K W x cs ∧ (x.length ≤ 140737488351232 ∧ ∀ c ∈ x, (Lit.int .u8 c).wf = true) := by
  rcases open_ints he h1 hc1 h with ⟨rfl, hx⟩ | ⟨a, len, cap, zs, rfl, hb, hl, hm, hz, hx, hcell, hwz⟩
  · exact ⟨[], ⟨none, 0, rfl, Nat.le_refl _, Kd.C_nil _ _⟩, by simp, by simp⟩
  · have hle : len ≤ zs.length := by rw [hz]; split <;> omega
    have htl : (zs.take len).length = len := List.length_take_of_le hle
    subst hx
    simp only [DataW.weights, he] at hw
    have h2 := hw _ (List.mem_cons_self ..)
    rw [hb1] at h2
    have h3 : len ≤ 140737488351232 := by
      have e1 : (lits (H := H) IntKind.u8 (zs.take len)).length = len := by simp [lits]; omega
      have e2 : reachBytes = 140737488351232 := rfl
      rw [e1, e2] at h2; omega
    refine ⟨zs.take len, ⟨some a, cap, ?_, ?_, ?_⟩, ?_, fun c hc => hwz c (List.mem_of_mem_take hc)⟩
    · rw [htl]
    · rw [htl]; exact hl
    · refine Kd.C_of_reads (d := (0 : Int)) (h1 := fun _ => rfl) ⟨rfl, by rw [htl]; omega, fun _ => ⟨a, rfl, fun j hj => ?_⟩⟩
      rw [htl] at hj
      rw [hcell j (by omega), List.getD_eq_getElem?_getD, List.getD_eq_getElem?_getD, List.getElem?_take_of_lt hj]
    · rw [htl]; exact h3
end
end Go.Proofs.Ythadfkpibnhcgaa.Q
