/- The row of UtfAll: the printed contract and the plain proof, joined. No condition but the row's own. -/
import Derived.Test.YtjplkgkkokcgjaaRows
import Derived.Test.YtjplkgkkokcgjaaX5
import Derived.Test.YtjplkgkkokcgjaaPureUtfAll
import Derived.Test.YtjplkgkkokcgjaaQ
import Derived.WalkKit
import Derived.ProofKit
import Derived.OpenShut
import Derived.ChangeOld
import Derived.ChangeSame
import Derived.Below
import Derived.SizedLaws
namespace Go.Proofs.Ytjplkgkkokcgjaa.utfAll
open Go.ChangeShapes Go.WideShapes Go.ChangeAt Go.RowKit Go.Proofs.Ytjplkgkkokcgjaa.X Go.Proofs.YtjplkgkkokcgjaaW.PrintWords
set_option linter.unusedVariables false
theorem own : ownKnob Try.prog.godebug = none := by kernel_rfl
theorem laidOut : laidOutB Try.prog = true := by kernel_rfl
theorem op_elem {H : Type} {enc : TypeId × Value → H} {W : World} {base : Nat} {spare : Nat → Bool} {held : Bool} (n : Nat) (cs : List Value) (y : DataW H × List MemPlace)
    (h : DataW.trod enc Try.prog W base spare held n 26 cs = some y) (hw : ∀ m ∈ y.1.weights Try.prog 26, m ≤ reachBytes) :
    ∃ x : S26, k26.K W x cs ∧ x.f0.size ≤ 140737488351232 := by
  obtain ⟨y0, y1, m, rfl, hl, h0, h1⟩ := trod_struct2 Try.underlying26 h
  rw [show Try.prog.cellsOf 26 = 2 from by kernel_rfl] at hl
  match cs, hl with
  | [c0, c1], _ =>
    have z0 : Try.prog.cellsOf 9 = 1 := by kernel_rfl
    have z1 : Try.prog.cellsOf 3 = 1 := by kernel_rfl
    have h0' : DataW.trod enc Try.prog W base spare held m 9 ([c0, c1].take (Try.prog.cellsOf 9)) = some y0 := h0
    have h1' : DataW.trod enc Try.prog W base spare held m 3 ([c1].take (Try.prog.cellsOf 3)) = some y1 := h1
    rw [z0] at h0'
    rw [z1] at h1'
    obtain ⟨s, e0, hy0, hs⟩ := DataW.trod_string Try.underlying9 h0'
    obtain ⟨c, e1, hy1, _⟩ := DataW.trod_int Try.underlying3 h1'
    obtain rfl : c0 = .string s := by simpa using e0
    obtain rfl : c1 = .int .i64 c := by simpa using e1
    refine ⟨⟨s, c⟩, k26_mk W ⟨s, c⟩, ?_⟩
    rw [hy0] at hw
    have hm : s.data.toList.length ∈ (DataW.agg [(DataW.lit (.string s.data.toList) : DataW H), y1.1]).weights Try.prog 26 := by
      simp only [DataW.weights, Try.underlying26]
      simp [DataW.weightsEach, DataW.weights]
    have := hw _ hm
    rw [data_length] at this
    exact this
set_option maxRecDepth 100000 in
theorem lifted (os : Os) (started : os.Started) (H : Type) (enc : TypeId × Value → H) :
    ReturnsInHanded {} Try.checked os 3 .any (Rows.utfAllSpec.pre6 enc Try.prog Try.f3 Rows.utfAllRow.domain false) (Rows.utfAllSpec.post enc Try.prog Try.f3 false true false false) := by
  refine returnsInHanded_of_change_sized (C := Try.checked) own started (by kernel_rfl) Try.func3
    (ChangeSpec.witness6 (enc := enc) (C := Try.checked) false ⟨#[], #[.slice none 0 0], []⟩ 8 (by kernel_rfl) (by kernel_rfl) (by kernel_rfl) (by kernel_rfl)) ?_
  intro W base args ds gs before hval0 hW hcnd hsz0 _
  have hsz : (DataW.weightsEach Try.prog (Try.f3.params.toList ++ Rows.utfAllSpec.plain.varTypes Try.prog) (ds ++ gs)).all (· ≤ reachBytes) = true := hsz0
  have hval : ∀ (j : Nat) t v, Try.f3.params[j]? = some t → args[j]? = some v → Value.okWide Try.prog W .any base t v := hval0
  have hW' := hW
  obtain ⟨p, q, hA0, hV, rfl, hfz, hnd⟩ := hW
  have hA : DataW.TrodAll enc Try.prog W 0 (fun _ => true) true Try.f3.params.toList args.toList ds p := hA0
  rw [Try.params3] at hA hval hsz
  obtain ⟨v0, vs0, d0, ds0, p0, q0, hargs, rfl, rfl, h0, r0⟩ := trodAll_cons hA
  obtain ⟨rfl, rfl, rfl⟩ := trodAll_nil r0
  obtain rfl : args = #[v0] := by cases args; simp_all
  obtain ⟨rfl, rfl⟩ := trodVars_none hV
  obtain ⟨a0, len0, cap0, rfl⟩ := okWide_slice Try.underlying22 (hval 0 22 v0 rfl rfl)
  have k0 := h0
  have lt0 : ∀ x ∈ p0, x.block < W.heap.size := by obtain ⟨m, hm⟩ := k0; exact DataW.trod_lt m _ _ _ hm
  have wt0 : ∀ m ∈ d0.weights Try.prog 22, m ≤ reachBytes := fun m hm => of_decide_eq_true (List.all_eq_true.1 hsz m (DataW.weights_mem_each (j := 0) rfl rfl m hm))
  obtain ⟨l0, hr0, hn0, hc0, hq0, hb0⟩ := Q.rows_of k26 z26 Try.underlying22 (e := 26) (show Try.prog.cellsOf 26 = 2 by kernel_rfl) (fun x => x.f0.size ≤ 140737488351232) op_elem wt0 h0
  have yn0 : l0.length ≤ 4611686018427387904 := by
    rw [show Try.prog.bytesOf 26 = 24 from by kernel_rfl, show reachBytes = 140737488351232 from rfl, hn0] at hb0
    omega
  clear hA0 hval0 hsz0 hsz
  subst hn0
  obtain ⟨k, hkk⟩ := Pure.UtfAll l0 yn0 hq0
  refine (X.stratumlaw03_UtfAll.calls k _ _ l0 true W hr0 hc0 hkk).mono fun e W' ⟨he, bel⟩ => ?_
  subst he
  exact ⟨_, rfl, _, _, _, [], _, [], hW', trodAll_mk1 (shut_bool Try.underlying4 _), (trodAll_cons_mk (Below.trod laidOut (by kernel_rfl) (of_decide_eq_true (by kernel_rfl)) k0 bel lt0) trodAll_mk0), rfl, bel.frame _, fun h => by cases h⟩
theorem over : Rows.utfAllRow.holds Try.pinned (OpenSpec.ofChange Rows.utfAllSpec) :=
  OpenClaim.holds_of_wide 3 Try.f3 rfl rfl rfl rfl rfl rfl rfl ⟨rfl, rfl, rfl, rfl, rfl⟩ rfl rfl rfl rfl rfl (by kernel_rfl) Try.func3 (by kernel_rfl)
    (of_decide_eq_true (by kernel_rfl)) (by unfold Func.isWrapper; first | (rw [if_pos (by decide +kernel)]; kernel_rfl) | (rw [if_neg (by decide +kernel)]; exact ⟨rfl, rfl⟩))
    (fun os started H enc _ => lifted os started H enc)
theorem proved : Rows.UtfAllSaid := over
#print axioms proved
end Go.Proofs.Ytjplkgkkokcgjaa.utfAll
namespace Go.Proofs.Ytjplkgkkokcgjaa
/-- The row, under a short name, for the claim. -/
theorem utfAll_holds : Rows.UtfAllSaid := utfAll.proved
end Go.Proofs.Ytjplkgkkokcgjaa
