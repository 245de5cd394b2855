/- The walks of slices.Clone and frame.Scan: what they answer, in plain lists. Conditions: the table holds what the program's text lays, the bytes are bytes, at most 2^45 of them. -/
import Derived.Test.YtoddldamekamoaaDoorG0
import Derived.Test.YtoddldamekamoaaDoorWApart
import Derived.Test.YtoddldamekamoaaDoorWGuard
import Derived.Lib.SliceRun
set_option linter.unusedVariables false
set_option linter.unusedSimpArgs false
namespace Go.Proofs.YtoddldamekamoaaDoor.G
open Go.RowKit Go.Proofs.YtoddldamekamoaaDoorW.PrintWords Go.Proofs.YtoddldamekamoaaDoorW.PrintLast Go.Proofs.YtoddldamekamoaaDoorW.PrintMore

theorem info5 : (Tryd.prog.info? 5).map (fun i => (i.zero, i.size, i.bytes)) = some (some (.int .u8 0), 1, 1) := by kernel_rfl
theorem info27 : (Tryd.prog.info? 27).map (fun i => (i.zero, i.size, i.bytes)) = some (some (.slice none 0 0), 1, 24) := by kernel_rfl
set_option maxHeartbeats 2000000 in
set_option maxRecDepth 100000 in
theorem clone_calls (ad : Addr) (c0 : Nat) (l0 : List Int) (w : World) (hr0 : Kd.C (Kd.int .u8) w (some ad) l0.length l0) (hc0 : l0.length ≤ c0) (hn : l0.length < 140737488355328) :
    Calls Tryd.prog 24 #[.slice (some ad) l0.length c0] w fun e w' => ∃ v0_ : Value, e = .returned v0_ ∧ Kd.R (Kd.int .u8) 5 w' w.heap.size (fun _ => True) v0_ l0 ∧ Below w.heap.size w w' := by
  have HR0 := Aside0.mk hr0
  have HC0 := Aside0.mk hc0
  have HB := Aside0.mk (Below.refl w.heap.size w)
  have HN := Aside0.mk hn
  clear hr0 hc0 hn
  have q22 : ∀ (w : World) (a : Option Addr) (n c n' c' : Nat), (binOp .eql 27 (.slice a n c) (.slice none n' c')).run Tryd.prog w = .ok (.bool a.isNone) w := fun w a n c n' c' => Lib.run_eql_slice_nil w _ _ a n c n' c' Tryd.underlying27
  go_enter Tryd.func24, Tryd.ntmps24
  go_wp2_with (first
    | ((with_reducible refine gate_dst (N := 5) rfl ?_); refine Kd.R_lit (Kd.int .u8) _ 5 ?hg (N := 5) ?hd (xs := ([] : List Int)) (inner := []) (ok := fun _ => True) (okp := fun _ => True) ?hr ?hp (fun _ hk => hk) trivial (Below.refl _ _) (Nat.le_refl _) (by simp) ?_; (case hd => rfl); (case hg => rfl); (case hr => first | (go_simp; done) | (go_simp; rfl)); (case hp => exact (Reps.none _ _)); intro v150 w3 ho4 hb hg_ hnew_; clear hg_ hnew_; have n0_ := Aside0.mk (Kd.R_lower ho4 (below_size HB.out)); have n1_ := Aside0.mk (below_step HB.out hb); clear HB; have HO151 := n0_; have HB := n1_; clear n0_ n1_; clear hb ho4)
    | ((with_reducible refine gate_builtin (b := .append) (xs := #[.tmp 5, .tmp 6]) rfl ?_); at_builtin; refine Kd.R_append_rows (Kd.int .u8) (w0 := w) w.heap.size rfl (.tmp 5) (.tmp 6) 27 5 (.int .u8 0) 1 rfl Tryd.underlying27 info5 rfl (by decide) (by omega) v150 ([] : List Int) l0 _ _ _ (fun _ => True) (fun _ => False) rfl rfl ?aO ?aR (fun _ _ h => h) (fun _ h => h.elim) ?aF ?aB ?aS ?aL ?_; (case aR => exact (Kd.C_below HR0.out HB.out)); (case aB => exact HB.out); (case aF => exact (fun _ _ => trivial)); (case aO => exact HO151.out); (case aS => exact (below_size HB.out)); (case aL => have := HN.out; simp only [List.length_nil]; omega); intro v153 w5 ho hb hg hat; have n0_ := Aside0.mk (hb); have n1_ := Aside0.mk (ho); clear HB; clear HO151; have HB := n0_; have HO154 := n1_; clear n0_ n1_; clear ho hb hg hat))
  go_ret
  exact ⟨_, rfl, HO154.out, HB.out⟩

/-- The payloads of the whole frames at the front, and where they end. -/
def scan : Nat → List Int → List (List Int) × Nat
  | 0, _ => ([], 0)
  | k + 1, l => match whole l with
    | none => ([], 0)
    | some n => ((l.drop 8).take n :: (scan k (l.drop (8 + n))).1, (scan k (l.drop (8 + n))).2 + (8 + n))
def scanOut (k : Nat) (l : List Int) : Option Nat → List (List Int) × Nat
  | none => ([], 0)
  | some n => ((l.drop 8).take n :: (scan k (l.drop (8 + n))).1, (scan k (l.drop (8 + n))).2 + (8 + n))
theorem scan_succ (k : Nat) (l : List Int) : scan (k + 1) l = scanOut k l (whole l) := by
  rw [scan]; cases whole l <;> rfl
theorem whole_len {l : List Int} {n : Nat} (h : whole l = some n) : 1 ≤ n ∧ 8 + n ≤ l.length := by
  unfold whole at h
  split at h
  · cases h
  · split at h
    · cases h
    · split at h
      · obtain rfl := Option.some.inj h; omega
      · cases h
set_option maxHeartbeats 4000000 in
set_option maxRecDepth 100000 in
theorem scan_calls (A0 : Option Addr) (c0 : Nat) (l0 : List Int) (w : World) (hr0 : Kd.C (Kd.int .u8) w A0 l0.length l0) (hc0 : l0.length ≤ c0) (hg : Kd.C (Kd.int .u32) w (some ⟨0, 0, none⟩) tableI.length tableI) (hb : bytesOk l0) (hn : l0.length ≤ 35184372088832) :
    Calls Tryd.prog 16 #[.slice A0 l0.length c0] w fun e w' => ∃ v0_ : Value, e = .returned (.tuple #[v0_, .int .i64 ((scan (l0.length + 1) l0).2 : Nat)]) ∧ Kd.S (Kd.slice 5 (Kd.int .u8)) 27 w' w.heap.size (fun _ => True) v0_ (scan (l0.length + 1) l0).1 ∧ Below w.heap.size w w' := by
  have HR0 := Aside0.mk hr0
  have HC0 := Aside0.mk hc0
  have HG := Aside0.mk hg
  have HY := Aside0.mk hb
  have HN := Aside0.mk hn
  have HB := Aside0.mk (Below.refl w.heap.size w)
  clear hr0 hc0 hg hb hn
  obtain ⟨R, hR⟩ : ∃ R, R = scan (l0.length + 1) l0 := ⟨_, rfl⟩
  rw [← hR]
  have HRR := Aside0.mk hR
  clear hR
  go_enter Tryd.func16, Tryd.ntmps16
  go_wp2
  go_loopg [4, 5] (l0.length + 1) (fun kq v4 v5 w' => ∃ (at_ : Nat) (out : List (List Int)), v5 = .int .i64 (at_ : Int) ∧ Aside0 (at_ ≤ l0.length) ∧ Aside0 (8 * out.length ≤ at_) ∧ Aside0 (l0.length - at_ < kq) ∧ Aside0 (out ++ (scan kq (l0.drop at_)).1 = R.1 ∧ (scan kq (l0.drop at_)).2 + at_ = R.2) ∧ Aside0 (Kd.S (Kd.slice 5 (Kd.int .u8)) 27 w' w.heap.size (fun _ => True) v4 out) ∧ Aside0 (Below w.heap.size w w'))
  case atStart => exact ⟨0, [], rfl, ⟨Nat.zero_le _⟩, ⟨Nat.le_refl _⟩, ⟨by omega⟩, ⟨by rw [HRR.out]; exact ⟨rfl, rfl⟩⟩, ⟨Kd.S_nil _ _ _ _ _⟩, HB⟩
  case round =>
    clear HB
    obtain ⟨at_, out, rfl, h1, h2, h3, HX, HO, HB⟩ := hrel
    cases gk with
    | zero => exact absurd h3.out (by omega)
    | succ k1 =>
      have s1 : (0 : Int) ≤ (at_ : Int) := Int.natCast_nonneg _
      have s2 : (at_ : Int) ≤ (l0.length : Int) := by have := h1.out; omega
      have s3 : at_ ≤ l0.length := h1.out
      have hlen : (l0.drop at_).length = l0.length - at_ := List.length_drop
      have hx := HX.out
      rw [scan_succ] at hx
      obtain ⟨o, ho⟩ : ∃ o, o = whole (l0.drop at_) := ⟨_, rfl⟩
      have hcd := Kd.C_drop (m := at_) (c := c0) (Kd.C_below HR0.out HB.out) h1.out HC0.out
      simp only [show (Kd.int IntKind.u8).sz = 1 from rfl, Nat.mul_one] at hcd
      by_cases cc : c0 = at_
      · rw [if_pos cc] at hcd
        subst cc
        have hz : l0.drop c0 = [] := List.drop_of_length_le HC0.out
        have hwn : whole (l0.drop c0) = none := by rw [hz]; rfl
        have hW := whole_calls _ 0 (l0.drop c0) _ hcd (by rw [hlen]; have := HC0.out; omega) (Kd.C_below HG.out HB.out) (bytesOk_drop HY.out _) (by rw [hlen]; have := HN.out; omega)
        rw [hwn, hlen] at hW
        rw [hwn] at hx
        obtain ⟨hx1, hx2⟩ := hx
        simp only [scanOut, List.append_nil, Nat.zero_add] at hx1 hx2
        have HX1 := Aside0.mk hx1
        have HX2 := Aside0.mk hx2
        have HW := Aside0.mk hW
        clear hW hx1 hx2 HX ho hcd hz hwn
        go_wp2_with (go_at_call 23; refine HW.out.mono ?_)
        rintro e w1 ⟨⟨v, rfl⟩, hb1⟩
        have HB1 := Aside0.mk (below_step HB.out hb1)
        have HO1 := Aside0.mk (Kd.S_below HO.out hb1)
        clear HB HO hb1 HW s1 s2 s3
        go_wp2
        go_ret2
        exact ⟨_, by rw [← HX2.out]; rfl, by rw [← HX1.out]; exact HO1.out, HB1.out⟩
      · rw [if_neg cc] at hcd
        have hW := whole_calls _ (c0 - at_) (l0.drop at_) _ hcd (by rw [hlen]; have := HC0.out; omega) (Kd.C_below HG.out HB.out) (bytesOk_drop HY.out _) (by rw [hlen]; have := HN.out; omega)
        rw [← ho, hlen] at hW
        rw [← ho] at hx
        have HW := Aside0.mk hW
        have HX2 := Aside0.mk hx
        have HO_ := Aside0.mk ho
        clear hW hx HX ho hcd
        go_wp2_with (go_at_call 23; refine HW.out.mono ?_)
        rintro e w1 ⟨hwo, hb1⟩
        have HB1 := Aside0.mk (below_step HB.out hb1)
        have HO1 := Aside0.mk (Kd.S_below HO.out hb1)
        clear HB HO hb1 HW s1 s2 s3
        cases o with
        | none =>
          obtain ⟨v, rfl⟩ := hwo
          obtain ⟨hx1, hx2⟩ := HX2.out
          simp only [scanOut, List.append_nil, Nat.zero_add] at hx1 hx2
          clear HX2
          have HX1 := Aside0.mk hx1
          have HX2 := Aside0.mk hx2
          clear hx1 hx2
          go_wp2
          go_ret2
          exact ⟨_, by rw [← HX2.out]; rfl, by rw [← HX1.out]; exact HO1.out, HB1.out⟩
        | some n =>
          obtain ⟨A', c', rfl, hc', hC'⟩ := hwo
          have hw := whole_len HO_.out.symm
          rw [hlen] at hw
          obtain ⟨pay, hpay⟩ : ∃ pay, pay = ((l0.drop at_).drop 8).take n := ⟨_, rfl⟩
          have hpl : pay.length = n := by rw [hpay, List.length_take_of_le]; rw [List.length_drop, hlen]; omega
          rw [← hpay] at hC'
          obtain ⟨_, _, hq⟩ := Kd.reads_of_C (d := (0 : Int)) (h1 := fun _ => rfl) hC'
          obtain ⟨ad, rfl, _⟩ := hq (by omega)
          have hcl := clone_calls ad c' pay w1 hC' (by omega) (by have := HN.out; omega)
          rw [hpl] at hcl
          have HCL := Aside0.mk hcl
          have HX3 : Aside0 ((out ++ [pay]) ++ (scan k1 (l0.drop (at_ + (8 + n)))).1 = R.1 ∧ (scan k1 (l0.drop (at_ + (8 + n)))).2 + (at_ + (8 + n)) = R.2) := by
            obtain ⟨hx1, hx2⟩ := HX2.out
            simp only [scanOut, List.drop_drop] at hx1 hx2
            have hp2 : pay = (l0.drop (at_ + 8)).take n := by rw [hpay, List.drop_drop]
            exact ⟨by rw [← hx1, hp2, List.append_assoc, List.singleton_append], by rw [← hx2]; omega⟩
          have E1 : Aside0 (wrap64 (8 + (n : Int)) = 8 + (n : Int)) := ⟨by have := HN.out; exact w64 (by omega) (by omega)⟩
          have E2 : Aside0 (wrap64 ((at_ : Int) + (8 + (n : Int))) = ((at_ + (8 + n) : Nat) : Int)) := ⟨by have := HN.out; have := h1.out; rw [w64 (by omega) (by omega)]; omega⟩
          have Hw := Aside0.mk hw
          have HOL : Aside0 ((out.length + 1) * 24 ≤ 140737488355328) := ⟨by have := HN.out; have := h1.out; have := h2.out; omega⟩
          clear hcl hq hpay hC' hw HX2 hc'
          have e1 : ∀ [Inhabited Unit], wrap64 (8 + (n : Int)) = 8 + (n : Int) := fun {_} => E1.out
          have e2 : ∀ [Inhabited Unit], wrap64 ((at_ : Int) + (8 + (n : Int))) = ((at_ + (8 + n) : Nat) : Int) := fun {_} => E2.out
          have HPL := Aside0.mk hpl
          clear hpl
          go_wp2_with (first
            | (go_at_call 24; refine HCL.out.mono ?_; rintro e w2 ⟨v2, rfl, ho2, hb2⟩; obtain ⟨Ao, co, eo⟩ := Kd.R_slice ho2; subst eo; have HO2 := Aside0.mk (Kd.S_elder' HO1.out (Kd.R_base ho2) hb2); have HP := Aside0.mk (Kd.R_lower ho2 (below_size HB1.out)); have HT := Aside0.mk (Kd.S_lt HO1.out); have HT2 := Aside0.mk (Kd.R_base ho2); have HB2 := Aside0.mk (below_step HB1.out hb2); clear HO1 HB1 ho2 hb2 HCL)
            | ((with_reducible refine gate_builtin (b := .append) (xs := #[.tmp 19, .tmp 22]) rfl ?_); at_builtin; refine Kd.S_append (Kd.slice 5 (Kd.int .u8)) (w0 := w) w.heap.size rfl (.tmp 19) (.tmp 22) 22 27 (.slice none 0 0) 24 rfl Tryd.underlying22 info27 rfl (by decide) (by omega) u4 out pay [.slice Ao pay.length co] (fun _ => True) (fun k_ => some k_ = (.slice Ao pay.length co : Value).ownBlock) rfl rfl ?aP (fun k hk => ⟨trivial, fun he => absurd (HT.out k he.symm) (by have := HT2.out k hk.symm; omega)⟩) ?aF ?aO ?aB ?aS ?aL ?_; (case aP => exact Kd.M_row (Kd.R_tight rfl HP.out)); (case aB => exact HB2.out); (case aF => exact (fun _ _ => trivial)); (case aO => exact Kd.S_mono HO2.out (fun k_ hk => ⟨trivial, fun e_ => hk.2 e_⟩)); (case aS => exact (below_size HB2.out)); (case aL => exact HOL.out); intro v193 w16 ho hb hg hat; have HB3 := Aside0.mk hb; have HO3 := Aside0.mk ho; clear HB2 HO2 HP HT HT2 ho hb hg hat))
          clear e1 e2
          go_roundg k1
          case measure => omega
          case rel => exact ⟨at_ + (8 + n), out ++ [pay], by rw [E2.out], ⟨by have := Hw.out; have := h1.out; omega⟩, ⟨by have := Hw.out; have := h2.out; rw [List.length_append, List.length_singleton]; omega⟩, ⟨by have := Hw.out; have := h3.out; omega⟩, HX3, HO3, HB3⟩
end Go.Proofs.YtoddldamekamoaaDoor.G
