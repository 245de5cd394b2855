/- The row of PartJoins, where what it reads is of bulk at most 2^20: the printed contract and the plain proof, joined; its argument is a struct of four texts. -/
import Derived.Test.YthgkemkcepkkcaaR0
import Derived.Test.YthgkemkcepkkcaaX4
import Derived.Test.YthgkemkcepkkcaaPurePartJoins
import Derived.WalkKit
import Derived.ProofKit
import Derived.OpenShut
import Derived.ShutString
import Derived.ChangeOld
import Derived.ChangeArms
import Derived.Below
import Derived.Lib.SmallJoins
namespace Go.Proofs.Ythgkemkcepkkcaa.partJoins
open Go.ChangeShapes Go.WideShapes Go.ChangeAt Go.RowKit Go.Joins Go.Proofs.YthgkemkcepkkcaaW.PrintWords
open Go.ChangeMaps (open_string shut_string)
set_option linter.unusedVariables false
theorem own : ownKnob Try.prog.godebug = none := by kernel_rfl
theorem cells : Try.prog.cellsOf 36 = 4 := by kernel_rfl
set_option maxRecDepth 100000 in
theorem lifted (os : Os) (started : os.Started) (H : Type) (enc : TypeId × Value → H) (F0 : Stop.Interp) :
    ReturnsInHanded {} Try.checked os 6 .any ((Rows.OpenSpec.upto Rows.partJoinsSpec).pre6 enc Try.prog Try.f6 Rows.partJoinsUptoRow.domain false) (((Rows.OpenSpec.upto Rows.partJoinsSpec).at F0).post enc Try.prog Try.f6 false true false false) := by
  refine R.handed (C := Try.checked) (s := (Rows.OpenSpec.upto Rows.partJoinsSpec)) (k := Rows.uptoSmall) rfl own started (by kernel_rfl) Try.func6
    (OpenSpec.witness (enc := enc) (C := Try.checked) (s := (Rows.OpenSpec.upto Rows.partJoinsSpec)) (k := Rows.uptoSmall) rfl false ⟨#[], #[.agg #[.string ByteArray.empty, .string ByteArray.empty, .string ByteArray.empty, .string ByteArray.empty]], []⟩ 8 (by kernel_rfl) (by kernel_rfl) (by kernel_rfl)
      (x := ([.agg [.lit (.string []), .lit (.string []), .lit (.string []), .lit (.string [])]], [], [])) (by kernel_rfl) (by kernel_rfl) (by kernel_rfl)) ?_
  intro W base args ds gs before hval0 hW hk0 hsh
  have hval : ∀ (j : Nat) t v, Try.f6.params[j]? = some t → args[j]? = some v → Value.okWide Try.prog W .any base t v := hval0
  have hW' := hW
  obtain ⟨p, q, hA0, hV, rfl, hfz, hnd⟩ := hW
  have hA : DataW.TrodAll enc Try.prog W 0 (fun _ => true) true Try.f6.params.toList args.toList ds p := hA0
  rw [Try.params6] at hA hval
  obtain ⟨v0, d0, rfl, rfl, h0⟩ := trodAll_one hA
  obtain ⟨rfl, rfl⟩ := trodVars_none hV
  obtain ⟨c0, c1, c2, c3, z0, z1, z2, z3, n, rfl, rfl, rfl, g0, g1, g2, g3⟩ := open_agg4 Try.underlying36 (by kernel_rfl) cells (hval 0 36 v0 rfl rfl) h0
  obtain ⟨a0, e0, rfl, y0⟩ := DataW.trod_string Try.underlying9 g0
  obtain ⟨a1, e1, rfl, y1⟩ := DataW.trod_string Try.underlying9 g1
  obtain ⟨a2, e2, rfl, y2⟩ := DataW.trod_string Try.underlying9 g2
  obtain ⟨a3, e3, rfl, y3⟩ := DataW.trod_string Try.underlying9 g3
  obtain rfl : c0 = .string a0 := by simpa using e0
  obtain rfl : c1 = .string a1 := by simpa using e1
  obtain rfl : c2 = .string a2 := by simpa using e2
  obtain rfl : c3 = .string a3 := by simpa using e3
  have hk : Rows.uptoBulkAll (([.agg [.lit (.string a0.data.toList), .lit (.string a1.data.toList), .lit (.string a2.data.toList), .lit (.string a3.data.toList)]] : List (DataW H)) ++ []) ≤ 1048576 := of_decide_eq_true hk0
  have hb : a0.size + a1.size + a2.size + a3.size ≤ 1048576 := by
    simp only [List.append_nil, Rows.uptoBulkAll, Rows.uptoBulk, data_length] at hk
    omega
  clear hA0 hval0 hk hk0 e0 e1 e2 e3
  obtain ⟨m, hm⟩ := Try.laysM143.s1_3 W hsh
  obtain ⟨k, hkk⟩ := Pure.PartJoins a0 a1 a2 a3 m hb
  refine (X.stratumlaw07_PartJoins.calls k a0 a1 a2 a3 [m] true W (R.glob_read hm) (Nat.le_refl 1) hkk).mono fun e W' ⟨he, bel⟩ => ?_
  subst he
  have hs : ∀ (a : ByteArray), a.size ≤ maxLen → ∃ n, DataW.trod enc Try.prog W' 0 (fun b => decide (b < W.heap.size)) true n 9 [.string a] = some (.lit (.string a.data.toList), []) := fun a ha => field_of_Trod (shut_string Try.underlying9 ha) rfl
  exact ⟨_, rfl, _, _, _, [], _, [], hW', trodAll_mk1 (shut_bool Try.underlying4 _), trodAll_mk1 (shut_agg4 Try.underlying36 (by kernel_rfl) cells (hs a0 y0) (hs a1 y1) (hs a2 y2) (hs a3 y3)), rfl, bel.frame _, fun h => by cases h⟩
theorem over : Rows.partJoinsUptoRow.holds Try.pinned (Rows.OpenSpec.upto Rows.partJoinsSpec) :=
  OpenClaim.holds_of_cond 6 Try.f6 rfl rfl rfl rfl rfl rfl rfl ⟨rfl, rfl, rfl, rfl, rfl⟩ rfl rfl rfl rfl rfl (by kernel_rfl) Try.func6 (by kernel_rfl)
    (of_decide_eq_true (by kernel_rfl)) (by unfold Func.isWrapper; first | (rw [if_pos (by decide +kernel)]; kernel_rfl) | (rw [if_neg (by decide +kernel)]; exact ⟨rfl, rfl⟩))
    (fun os started H enc _ F0 => lifted os started H enc F0)
theorem proved : Rows.PartJoinsUptoSaid := over
#print axioms proved
end Go.Proofs.Ythgkemkcepkkcaa.partJoins
namespace Go.Proofs.Ythgkemkcepkkcaa
/-- The row, under a short name, for the claim. -/
theorem partJoins_holds : Rows.PartJoinsUptoSaid := partJoins.proved
end Go.Proofs.Ythgkemkcepkkcaa
