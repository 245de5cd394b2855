/- What Scan answers, as rows told apart; apart of nothing. Conditions: those in the theorems. -/
import Derived.Test.YtoddldamekamoaaDoorK1
set_option linter.unusedVariables false
set_option linter.unusedSimpArgs false
namespace Go.Proofs.YtoddldamekamoaaDoor.K
open Go.RowKit Go.Proofs.YtoddldamekamoaaDoor.X Go.Proofs.YtoddldamekamoaaDoorW.PrintWords Go.Proofs.YtoddldamekamoaaDoorW.PrintLast Go.Proofs.YtoddldamekamoaaDoorW.PrintMore
theorem S_rows {w : World} {base : Nat} {v : Value} {xs : List (List Int)} (h : Kd.S (Kd.slice 5 (Kd.int .u8)) 27 w base (fun _ => True) v xs) :
    ∃ (rs : List Rw) (A : Option Addr) (c : Nat), v = .slice A xs.length c ∧ rs.length = xs.length ∧ Kd.R kv 27 w base (fun _ => True) v rs ∧ (∀ (j : Nat) (r : Rw), rs[j]? = some r → ∃ x, xs[j]? = some x ∧ RB w base r.v x) ∧ NoTwo rs := by
  obtain ⟨f, h⟩ := h
  obtain ⟨A, c, hv⟩ := Kd.R_slice h
  rw [List.length_zipIdx] at hv
  obtain ⟨h0, inner, how, hr⟩ := h
  obtain ⟨hl, hr⟩ := hr
  have hl1 : inner.length = xs.length := by rw [hl, List.length_zipIdx]; exact Nat.mul_one _
  have each : ∀ j (hj : j < xs.length), ∃ r : Rw, inner[j]? = some r.v ∧ RB w base r.v xs[j] ∧ ∀ k, r.v.ownBlock = some k → f k = j := by
    intro j hj
    have h1 := hr j (xs[j], j) (by rw [List.getElem?_zipIdx, List.getElem?_eq_getElem hj]; simp)
    have h2 : (inner.drop (j * 1)).take 1 = [inner[j]'(by omega)] := by
      rw [Nat.mul_one, List.drop_eq_getElem_cons (by omega)]; rfl
    change Kd.M _ _ _ _ _ ((inner.drop (j * 1)).take 1) at h1
    rw [h2] at h1
    obtain ⟨v', hv', hR⟩ := h1
    injection hv' with hv' _
    obtain ⟨A', c', e⟩ := Kd.R_slice hR
    refine ⟨⟨A', xs[j].length, c'⟩, ?_, ?_, fun k hk => ?_⟩
    · rw [List.getElem?_eq_getElem (by omega), hv', e]; rfl
    · show RB w base (Value.slice A' xs[j].length c') xs[j]
      rw [← e]; exact Kd.R_mono hR (fun _ _ => trivial)
    · have := hR.1 k (by rw [e]; exact hk)
      exact this.2
  have each2 : ∀ j, ∃ r : Rw, j < xs.length → inner[j]? = some r.v ∧ RB w base r.v (xs.getD j []) ∧ ∀ k, r.v.ownBlock = some k → f k = j := by
    intro j
    by_cases hj : j < xs.length
    · obtain ⟨r, h1, h2, h3⟩ := each j hj
      exact ⟨r, fun _ => ⟨h1, by rw [List.getD_eq_getElem?_getD, List.getElem?_eq_getElem hj]; exact h2, h3⟩⟩
    · exact ⟨⟨none, 0, 0⟩, fun h => absurd h hj⟩
  obtain ⟨F, hF⟩ := Classical.axiomOfChoice each2
  have hin : inner = ((List.range xs.length).map F).map Rw.v := by
    apply List.ext_getElem?
    intro j
    by_cases hj : j < xs.length
    · rw [(hF j hj).1]; simp [hj]
    · rw [List.getElem?_eq_none (by omega), List.getElem?_eq_none (by simp; omega)]
  have get : ∀ (j : Nat) (r : Rw), ((List.range xs.length).map F)[j]? = some r → j < xs.length ∧ r = F j := by
    intro j r hj
    have hlt : j < xs.length := by
      have := (List.getElem?_eq_some_iff.1 hj).1; simpa using this
    rw [List.getElem?_map, List.getElem?_range hlt] at hj
    exact ⟨hlt, (Option.some.inj hj).symm⟩
  refine ⟨(List.range xs.length).map F, A, c, hv, by simp, ⟨fun _ _ => trivial, inner, ?_, ?_⟩, fun j r hj => ?_, fun j j' r r' hne hj hj' k hk hk' => ?_⟩
  · rw [List.length_map, List.length_range]
    rw [List.length_zipIdx] at how; exact how
  · rw [hin]; exact ⟨by rw [List.length_map]; exact (Nat.mul_one _).symm, fun j p hp => by
      obtain ⟨hlt, rfl⟩ := get j p hp
      show (List.drop (j * 1) _).take 1 = [(F j).v]
      rw [Nat.mul_one, List.drop_eq_getElem_cons (by simpa using hlt)]
      simp⟩
  · obtain ⟨hlt, rfl⟩ := get j r hj
    exact ⟨xs[j], List.getElem?_eq_getElem hlt, by have := (hF j hlt).2.1; rwa [List.getD_eq_getElem?_getD, List.getElem?_eq_getElem hlt] at this⟩
  · obtain ⟨h1, rfl⟩ := get j r hj
    obtain ⟨h2, rfl⟩ := get j' r' hj'
    exact hne (((hF j h1).2.2 k hk).symm.trans ((hF j' h2).2.2 k hk'))
set_option maxHeartbeats 4000000 in
set_option maxRecDepth 100000 in
theorem apart0_calls (w : World) (A : Option Addr) (c : Nat) : Calls Tryd.prog 20 #[.slice A 0 c] w fun e w' => e = .returned (.bool true) ∧ Below w.heap.size w w' := by
  go_enter Tryd.func20, Tryd.ntmps20
  go_wp2_with ((with_reducible refine gate_dst (N := 13) rfl ?_); refine Kd.R_make kv _ 27 rfl (N := 13) rfl 22 _ _ rfl (0 : Int) rfl rfl Tryd.underlying22 (.slice none 0 0) 24 infoL rfl (by decide) (by omega) (⟨none, 0, 0⟩ : Rw) (ok := fun _ => True) (okp := fun _ => True) rfl (fun _ hk => hk) trivial (by omega) (by decide) (Below.refl _ _) (Nat.le_refl _) ?_; intro vg w1 ho1 hb1 hg_ hnew_; have HB1 := Aside0.mk hb1; clear ho1 hb1 hg_ hnew_)
  go_loop [4] (fun ti => ti = .int .i64 0) (fun _ => 0)
  case atStart => exact rfl
  case round =>
    obtain rfl := hrel
    go_wp2
    go_loop [6] (fun ti => ti = .int .i64 0) (fun _ => 0)
    case atStart => exact rfl
    case round =>
      obtain rfl := hrel
      go_wp2
      go_loop [9] (fun ti => ti = .int .i64 0) (fun _ => 0)
      case atStart => exact rfl
      case round =>
        obtain rfl := hrel
        go_wp2
        go_ret
        exact ⟨rfl, HB1.out⟩
end Go.Proofs.YtoddldamekamoaaDoor.K
