/- Rep and Hex are the document's. Stated over the printed functions; condition: texts up to 2^20 bytes. -/
import Derived.Test.YthgkemkcepkkcaaS2
import Derived.OpenShut
set_option linter.unusedVariables false
set_option linter.unusedSimpArgs false
namespace Go.Proofs.Ythgkemkcepkkcaa.Pure
open Go.RowKit Go.Proofs.Ythgkemkcepkkcaa.X Go.Proofs.Ythgkemkcepkkcaa.S Go.Proofs.YthgkemkcepkkcaaW.PrintWords Go.Proofs.YthgkemkcepkkcaaW.PrintLast Go.Proofs.YthgkemkcepkkcaaW.PrintMore

theorem PartMakes (a0 : ByteArray) (a1 : Int) (a2 : ByteArray) (m : Int) (hb : a0.size + a2.size ≤ 1048576) (y1 : (Lit.int .u64 a1).wf = true) : ∃ k, stratumlaw07_PartMakes.f k a0 a1 a2 [m] = some true := by
  have hbd := Go.bounds_u64 y1
  obtain ⟨n, rfl⟩ := Int.eq_ofNat_of_zero_le (show 0 ≤ a1 by omega)
  refine Ev.rounds ?_
  unfold stratumlaw07_PartMakes.f
  refine Ev.bind (awake_ev m) ?_
  simp only [if_true]
  refine Ev.bind (rep_ev a0 n (by omega) (by omega)) ?_
  refine Ev.bind (refrep_ev a0 n (by omega) (by omega)) ?_
  refine Ev.bind (hex_ev a2 (by omega)) ?_
  refine Ev.bind (refhex_ev a2 (by omega)) ?_
  simp only [if_true, beq_self_eq_true]
  exact Ev.now _
end Go.Proofs.Ythgkemkcepkkcaa.Pure
