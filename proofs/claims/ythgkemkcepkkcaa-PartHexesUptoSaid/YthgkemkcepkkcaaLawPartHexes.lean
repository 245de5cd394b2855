/- The row of PartHexes, where what it reads is of bulk at most 2^20: the printed contract and the plain proof, joined. Laid by a program of this workplace. -/
import Derived.Test.YthgkemkcepkkcaaR0
import Derived.Test.YthgkemkcepkkcaaX6
import Derived.Test.YthgkemkcepkkcaaPurePartHexes
import Derived.WalkKit
import Derived.ProofKit
import Derived.OpenShut
import Derived.ShutString
import Derived.ChangeOld
import Derived.Below
namespace Go.Proofs.Ythgkemkcepkkcaa.partHexes
open Go.ChangeShapes Go.WideShapes Go.ChangeAt Go.RowKit Go.Proofs.YthgkemkcepkkcaaW.PrintWords
open Go.ChangeMaps (open_string shut_string)
set_option linter.unusedVariables false
theorem own : ownKnob Try.prog.godebug = none := by kernel_rfl
set_option maxRecDepth 100000 in
theorem lifted (os : Os) (started : os.Started) (H : Type) (enc : TypeId × Value → H) (F0 : Stop.Interp) :
    ReturnsInHanded {} Try.checked os 8 .any ((Rows.OpenSpec.upto Rows.partHexesSpec).pre6 enc Try.prog Try.f8 Rows.partHexesUptoRow.domain false) (((Rows.OpenSpec.upto Rows.partHexesSpec).at F0).post enc Try.prog Try.f8 false true false false) := by
  refine R.handed (C := Try.checked) (s := (Rows.OpenSpec.upto Rows.partHexesSpec)) (k := Rows.uptoSmall) rfl own started (by kernel_rfl) Try.func8
    (OpenSpec.witness (enc := enc) (C := Try.checked) (s := (Rows.OpenSpec.upto Rows.partHexesSpec)) (k := Rows.uptoSmall) rfl false ⟨#[], #[.string ByteArray.empty, .int .i64 0, .int .u8 0], []⟩ 8 (by kernel_rfl) (by kernel_rfl) (by kernel_rfl)
      (x := ([.lit (.string []), .lit (.int .i64 0), .lit (.int .u8 0)], [], [])) (by kernel_rfl) (by kernel_rfl) (by kernel_rfl)) ?_
  intro W base args ds gs before hval0 hW hk0 hsh
  have hval : ∀ (j : Nat) t v, Try.f8.params[j]? = some t → args[j]? = some v → Value.okWide Try.prog W .any base t v := hval0
  have hW' := hW
  obtain ⟨p, q, hA0, hV, rfl, hfz, hnd⟩ := hW
  have hA : DataW.TrodAll enc Try.prog W 0 (fun _ => true) true Try.f8.params.toList args.toList ds p := hA0
  rw [Try.params8] at hA hval
  obtain ⟨v0, vs0, d0, ds0, p0, q0, hargs, rfl, rfl, h0, r0⟩ := trodAll_cons hA
  obtain ⟨v1, vs1, d1, ds1, p1, q1, rfl, rfl, rfl, h1, r1⟩ := trodAll_cons r0
  obtain ⟨v2, vs2, d2, ds2, p2, q2, rfl, rfl, rfl, h2, r2⟩ := trodAll_cons r1
  obtain ⟨rfl, rfl, rfl⟩ := trodAll_nil r2
  obtain rfl : args = #[v0, v1, v2] := by cases args; simp_all
  obtain ⟨rfl, rfl⟩ := trodVars_none hV
  obtain ⟨a0, rfl, rfl, rfl, y0⟩ := open_string Try.underlying9 (hval 0 9 v0 rfl rfl) h0
  obtain ⟨a1, rfl, rfl, rfl, y1⟩ := open_int Try.underlying3 (hval 1 3 v1 rfl rfl) h1
  obtain ⟨a2, rfl, rfl, rfl, y2⟩ := open_int Try.underlying5 (hval 2 5 v2 rfl rfl) h2
  have hk : Rows.uptoBulkAll (([.lit (.string a0.data.toList), .lit (.int .i64 a1), .lit (.int .u8 a2)] : List (DataW H)) ++ []) ≤ 1048576 := of_decide_eq_true hk0
  have hb : a0.size ≤ 1048576 := by
    simp only [List.append_nil, Rows.uptoBulkAll, Rows.uptoBulk, data_length] at hk
    omega
  clear hA0 hval0 hk hk0
  obtain ⟨m, hm⟩ := Try.laysM143.s1_3 W hsh
  obtain ⟨k, hkk⟩ := Pure.PartHexes a0 a1 a2 m hb y1 y2
  refine (X.stratumlaw07_PartHexes.calls k a0 a1 a2 [m] true W (R.glob_read hm) (Nat.le_refl 1) hkk).mono fun e W' ⟨he, bel⟩ => ?_
  subst he
  exact ⟨_, rfl, _, _, _, [], _, [], hW', trodAll_mk1 (shut_bool Try.underlying4 _), (trodAll_cons_mk (shut_string Try.underlying9 y0) (trodAll_cons_mk (shut_int Try.underlying3 y1) (trodAll_cons_mk (shut_int Try.underlying5 y2) trodAll_mk0))), rfl, bel.frame _, fun h => by cases h⟩
theorem over : Rows.partHexesUptoRow.holds Try.pinned (Rows.OpenSpec.upto Rows.partHexesSpec) :=
  OpenClaim.holds_of_cond 8 Try.f8 rfl rfl rfl rfl rfl rfl rfl ⟨rfl, rfl, rfl, rfl, rfl⟩ rfl rfl rfl rfl rfl (by kernel_rfl) Try.func8 (by kernel_rfl)
    (of_decide_eq_true (by kernel_rfl)) (by unfold Func.isWrapper; first | (rw [if_pos (by decide +kernel)]; kernel_rfl) | (rw [if_neg (by decide +kernel)]; exact ⟨rfl, rfl⟩))
    (fun os started H enc _ F0 => lifted os started H enc F0)
theorem proved : Rows.PartHexesUptoSaid := over
#print axioms proved
end Go.Proofs.Ythgkemkcepkkcaa.partHexes
namespace Go.Proofs.Ythgkemkcepkkcaa
/-- The row, under a short name, for the claim. -/
theorem partHexes_holds : Rows.PartHexesUptoSaid := partHexes.proved
end Go.Proofs.Ythgkemkcepkkcaa
