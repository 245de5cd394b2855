/- Books in memory: All; none at all. Conditions: those in the theorems. -/
import Derived.Test.YthadfkpibnhcgaaB1
import Derived.Lib.LazyBuf
set_option linter.unusedVariables false
set_option linter.unusedSimpArgs false
namespace Go.Proofs.Ythadfkpibnhcgaa.B
open Go.RowKit Go.Proofs.Ythadfkpibnhcgaa.X Go.Proofs.YthadfkpibnhcgaaW.PrintWords Go.Proofs.YthadfkpibnhcgaaW.PrintLast Go.Proofs.YthadfkpibnhcgaaW.PrintMore

set_option maxHeartbeats 1000000 in
set_option maxRecDepth 100000 in
theorem clone_calls (w : World) (base : Nat) (v : Value) (es : List S44) (hR : Kd.R k44 44 w base (fun _ => True) v es) (hn : es.length ≤ 64) :
    Calls Try.prog 26 #[v] w fun e w' => ∃ v', e = .returned v' ∧ Kd.R k44 44 w' w.heap.size (fun _ => True) v' es ∧ Below w.heap.size w w' := by
  have hu34 := Try.underlying34
  obtain ⟨A, c, hv, hlc, hrd⟩ := Kd.R_reads hR
  obtain ⟨inner, ho⟩ := Kd.R_own hR
  have HR := Aside0.mk hrd
  have HN := Aside0.mk hn
  rcases ho.2 with ⟨hv2, h0⟩ | ⟨g, cap, cur, hv2, _⟩
  · subst hv2
    have HE : Aside0 (es = []) := ⟨List.length_eq_zero_iff.1 h0⟩
    have hq : ∀ W : World, (binOp .eql 34 (.slice none 0 0) (.slice none 0 0)).run Try.prog W = .ok (.bool true) W := fun W => Go.run_eql_slice_nil W 34 44 none 0 0 hu34
    clear hv hlc hrd ho h0 hR hn
    go_enter Try.func26, Try.ntmps26
    go_wp2
    go_ret
    exact ⟨_, rfl, by rw [HE.out]; exact Kd.R_nil _ _ _ _ _, Below.refl _ _⟩
  · subst hv2
    obtain ⟨rfl, rfl⟩ : A = some ⟨g, 0, none⟩ ∧ c = cap := by injection hv with h1 h2 h3; exact ⟨h1.symm, h3.symm⟩
    have HQ := Aside0.mk hR
    have hq : ∀ W : World, (binOp .eql 34 (.slice (some ⟨g, 0, none⟩) es.length c) (.slice none 0 0)).run Try.prog W = .ok (.bool false) W := fun W => Go.run_eql_slice_nil W 34 44 (some ⟨g, 0, none⟩) es.length c hu34
    clear hv hlc hrd ho hR hn
    go_enter Try.func26, Try.ntmps26
    go_wp2_with ((with_reducible refine gate_builtin (b := .append) (xs := #[.tmp 5, .tmp 6]) rfl ?_); at_builtin; refine Kd.R_append_rows k44 (Rr := k44.K (w.alloc (.cells #[] 44))) (w0 := w) w.heap.size rfl (.tmp 5) (.tmp 6) 34 44 (.agg #[.int .i64 0, .int .i64 0, .string ⟨#[]⟩, .int .i64 0]) 40 rfl Try.underlying34 info44 rfl (by decide) (by omega) (.slice (some ⟨w.heap.size, 0, none⟩) 0 0) [] es (some ⟨g, 0, none⟩) es.length c (fun _ => True) (fun _ => False) rfl rfl ?aO (Kd.C_below HR.out (below_alloc (Below.refl _ _) _)) ?aK (fun _ hk => hk.elim) (fun _ _ => trivial) (below_alloc (Below.refl _ _) _) (by simp) (by have := HN.out; simp; omega) ?_; (case aO => exact ⟨fun _ _ => trivial, [], (show (w.alloc (.cells #[] 44)).ownsRow w.heap.size 44 4 (.slice (some ⟨w.heap.size, 0, none⟩) 0 0) 0 [] by simpa using World.ownsRow_lit (base := w.heap.size) (e := 44) (size := 4) w #[] 0 (Nat.le_refl _) (by simp) (by simp)), Reps.none _ _⟩); (case aK => intro x cs hk; obtain rfl := k44_open hk; exact k44_mkM _ _ _ x); intro v1 w1 ho hb hg hat; have HO := Aside0.mk ho; have HB := Aside0.mk hb; clear ho hb hg hat)
    go_ret
    exact ⟨_, rfl, by have := HO.out; rwa [List.nil_append] at this, HB.out⟩
set_option maxHeartbeats 1000000 in
set_option maxRecDepth 100000 in
theorem all_calls (w : World) (base g : Nat) (v : Value) (es : List S44) (cl : Nat → Bool) (hB : IsB w base g v es cl) (hn : es.length ≤ 64) :
    Calls Try.prog 14 #[.pointer (some ⟨g, 0, none⟩)] w fun e w' => ∃ v', e = .returned v' ∧ Kd.R k44 44 w' w.heap.size (fun _ => True) v' es ∧ Below w.heap.size w w' := by
  have HC := Aside0.mk (clone_calls w base v es hB.row hn)
  obtain ⟨A, c, hv⟩ := Kd.R_slice hB.row
  subst hv
  have h0 : w.cell? ⟨g, 0, none⟩ = some (.slice A es.length c) := (blk_cell hB.blk 0).trans rfl
  clear hB hn
  go_enter Try.func14, Try.ntmps14
  go_wp2_with (go_at_call 26; refine HC.out.mono ?_; rintro e w1 ⟨v1, rfl, ho, hb⟩; have HO := Aside0.mk ho; have HB := Aside0.mk hb; clear ho hb)
  go_ret
  exact ⟨_, rfl, HO.out, HB.out⟩
/-! ### no book at all -/
theorem enter_nil (f : Int) (nm : ByteArray) (sz : Int) (w : World) : Calls Try.prog 11 #[.pointer none, .int .i64 f, .string nm, .int .i64 sz] w fun e w' => e = .returned (.tuple #[.int .i64 0, .int .i64 4]) ∧ w = w' := by
  go_enter Try.func11, Try.ntmps11
  go_wp2
  go_ret2
  exact ⟨rfl, rfl⟩
theorem close_nil (f : Int) (w : World) : Calls Try.prog 10 #[.pointer none, .int .i64 f] w fun e w' => e = .returned (.tuple #[]) ∧ w = w' := by
  go_enter Try.func10, Try.ntmps10
  go_wp2
  go_end0
  exact ⟨rfl, rfl⟩
theorem open_nil (f : Int) (w : World) : Calls Try.prog 12 #[.pointer none, .int .i64 f] w fun e w' => e = .returned (.bool false) ∧ w = w' := by
  go_enter Try.func12, Try.ntmps12
  go_wp2
  go_ret
  exact ⟨rfl, rfl⟩
theorem all_nil (w : World) : Calls Try.prog 14 #[.pointer none] w fun e w' => e = .returned (.slice none 0 0) ∧ w = w' := by
  go_enter Try.func14, Try.ntmps14
  go_wp2
  go_ret
  exact ⟨rfl, rfl⟩
theorem find_nil (f : Int) (nm : ByteArray) (w : World) : Calls Try.prog 22 #[.pointer none, .int .i64 f, .string nm] w fun e w' => e = .returned (.int .i64 0) ∧ w = w' := by
  go_enter Try.func22, Try.ntmps22
  go_wp2
  go_ret
  exact ⟨rfl, rfl⟩
theorem count_nil (f : Int) (w : World) : Calls Try.prog 13 #[.pointer none, .int .i64 f] w fun e w' => e = .returned (.int .i64 0) ∧ w = w' := by
  go_enter Try.func13, Try.ntmps13
  go_wp2
  go_ret
  exact ⟨rfl, rfl⟩
theorem at_nil (f n : Int) (w : World) : Calls Try.prog 23 #[.pointer none, .int .i64 f, .int .i64 n] w fun e w' => e = .returned (atOut none) ∧ Below w.heap.size w w' := by
  have hu44 := Try.underlying44
  go_enter Try.func23, Try.ntmps23
  go_wp2
  refine bodyPost_ret (results_ct rfl _ _ w.heap.size 44 #[.int .i64 0, .int .i64 0, .string ⟨#[]⟩, .int .i64 0] (0, 0) _ rfl (blk_new _ _) Try.underlying44 rfl (by kernel_rfl)) rfl ?_
  exact ⟨rfl, below_alloc (Below.refl _ _) _⟩
end Go.Proofs.Ythadfkpibnhcgaa.B
