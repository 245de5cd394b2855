/- The row of ParseSchemas: the walk's contract, joined with the reading of the arguments. No condition but the row's own. Laid by a program of this workplace. -/
import Derived.Test.YtbdcndkafaajpaaRows
import Derived.WalkKit
import Derived.ProofKit
import Derived.OpenShut
import Derived.ShutString
import Derived.ChangeOld
import Derived.ChangeSame
import Derived.Below
import Derived.SizedLaws
import Derived.Test.YtbdcndkafaajpaaBParseSchemas0
import Derived.Test.YtbdcndkafaajpaaBParseSchemas1
import Derived.Test.YtbdcndkafaajpaaBParseSchemas2
import Derived.Test.YtbdcndkafaajpaaBParseSchemas3
import Derived.Test.YtbdcndkafaajpaaBParseSchemas4
import Derived.Test.YtbdcndkafaajpaaBParseSchemas5
import Derived.Test.YtbdcndkafaajpaaBParseSchemas6
set_option linter.unusedVariables false
set_option linter.unusedSimpArgs false
set_option maxHeartbeats 16000000
set_option maxRecDepth 100000
namespace Go.Proofs.Ytbdcndkafaajpaa.parseSchemas
open Go.ChangeShapes Go.WideShapes Go.ChangeAt Go.RowKit Ytbdcndkafaajpaa.A YtbdcndkafaajpaaW.PrintWords
open Go.ChangeMaps (open_string shut_string)
theorem own : ownKnob Try.prog.godebug = none := by kernel_rfl
theorem laidOut : laidOutB Try.prog = true := by kernel_rfl
theorem Qor {H : Type} {enc : TypeId × Value → H} {W : World} {base : Nat} {spare : Nat → Bool} {held : Bool} (n : Nat) (cs : List Value) (y : DataW H × List MemPlace)
  (h : DataW.trod enc Try.prog W base spare held n 9 cs = some y) : ∃ x : ByteArray, Kd.string.K W x cs := by
 obtain ⟨s, e, _, _⟩ := DataW.trod_string Try.underlying9 h
 exact ⟨s, e⟩
theorem lifted (os : Os) (started : os.Started) (H : Type) (enc : TypeId × Value → H) :
  ReturnsInHanded {} Try.checked os 3 .any (Rows.parseSchemasSpec.pre6 enc Try.prog Try.f3 Rows.parseSchemasRow.domain false) (Rows.parseSchemasSpec.post enc Try.prog Try.f3 false true false false) := by
 refine returnsInHanded_of_change_sized (C := Try.checked) own started (by kernel_rfl) Try.func3
  (ChangeSpec.witness6 (enc := enc) (C := Try.checked) false ⟨#[], #[.slice none 0 0], []⟩ 8 (by kernel_rfl) (by kernel_rfl) (by kernel_rfl) (by kernel_rfl)) ?_
 intro W base args ds gs before hval0 hW hcnd hsz0 _
 have hsz : (DataW.weightsEach Try.prog (Try.f3.params.toList ++ Rows.parseSchemasSpec.plain.varTypes Try.prog) (ds ++ gs)).all (· ≤ reachBytes) = true := hsz0
 have hval : ∀ (j : Nat) t v, Try.f3.params[j]? = some t → args[j]? = some v → Value.okWide Try.prog W .any base t v := hval0
 have hW' := hW
 obtain ⟨p, q, hA0, hV, rfl, hfz, hnd⟩ := hW
 have hA : DataW.TrodAll enc Try.prog W 0 (fun _ => true) true Try.f3.params.toList args.toList ds p := hA0
 rw [Try.params3] at hA hval hsz
 obtain ⟨v0, vs0, d0, ds0, p0, q0, hargs, rfl, rfl, h0, r0⟩ := trodAll_cons hA
 obtain ⟨rfl, rfl, rfl⟩ := trodAll_nil r0
 obtain rfl : args = #[v0] := by cases args; simp_all
 obtain ⟨rfl, rfl⟩ := trodVars_none hV
 obtain ⟨a0, len0, cap0, rfl⟩ := okWide_slice Try.underlying22 (hval 0 22 v0 rfl rfl)
 have k0 := h0
 have lt0 : ∀ x ∈ p0, x.block < W.heap.size := by obtain ⟨m, hm⟩ := k0; exact DataW.trod_lt m _ _ _ hm
 have wt0 : ∀ m ∈ d0.weights Try.prog 22, m ≤ reachBytes := fun m hm => of_decide_eq_true (List.all_eq_true.1 hsz m (DataW.weights_mem_each (j := 0) rfl rfl m hm))
 obtain ⟨l0, hr0, hn0, hc0, q0, hb0⟩ := Q.Qqx Kd.string ByteArray.empty Try.underlying22 (e := 9) (show Try.prog.cellsOf 9 = 1 by kernel_rfl) (fun _ => True) (fun n cs y h _ => by obtain ⟨x, hx⟩ := Qor n cs y h; exact ⟨x, hx, trivial⟩) wt0 h0
 have w0 : l0.length ≤ 4611686018427387904 := by
  rw [show Try.prog.bytesOf 9 = 16 from by kernel_rfl, show reachBytes = 140737488351232 from rfl, hn0] at hb0
  omega
 subst hn0
 clear hA0 hval0 hsz0 hsz
 refine (Go.Proofs.Ytbdcndkafaajpaa.R.Qi6 W a0 cap0 l0 hr0 hc0 w0).mono fun e W' ⟨he, bel⟩ => ?_
 subst he
 exact ⟨_, rfl, _, _, _, [], _, [], hW', trodAll_mk1 (shut_bool Try.underlying4 _), (trodAll_cons_mk (Below.trod laidOut (by kernel_rfl) (of_decide_eq_true (by kernel_rfl)) k0 bel lt0) trodAll_mk0), rfl, bel.frame _, fun h => by cases h⟩
theorem over : Rows.parseSchemasRow.holds Try.pinned (OpenSpec.ofChange Rows.parseSchemasSpec) :=
 OpenClaim.holds_of_wide 3 Try.f3 rfl rfl rfl rfl rfl rfl rfl ⟨rfl, rfl, rfl, rfl, rfl⟩ rfl rfl rfl rfl rfl (by kernel_rfl) Try.func3 (by kernel_rfl)
  (of_decide_eq_true (by kernel_rfl)) (by unfold Func.isWrapper; first | (rw [if_pos (by decide +kernel)]; kernel_rfl) | (rw [if_neg (by decide +kernel)]; exact ⟨rfl, rfl⟩))
  (fun os started H enc _ => lifted os started H enc)
theorem proved : Rows.ParseSchemasSaid := over
#print axioms proved
end Go.Proofs.Ytbdcndkafaajpaa.parseSchemas
namespace Go.Proofs.Ytbdcndkafaajpaa
/-- The row, under a short name, for the claim. -/
theorem parseSchemas_holds : Rows.ParseSchemasSaid := parseSchemas.proved
end Go.Proofs.Ytbdcndkafaajpaa
