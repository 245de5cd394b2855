/- The texts of the law PrintBuilds, put together by a program of this workplace out of its own texts and of what the kit's print has written: walks of the functions, plain laws. No condition but those in the theorems. -/
import Derived.Test.YtaijoghpfobdbaaDoorBPrintBuilds0
import Derived.Test.YtaijoghpfobdbaaDoorBPrintBuilds1
import Derived.Test.YtaijoghpfobdbaaDoorBPrintBuilds2
section
set_option linter.unusedVariables false
set_option linter.unusedSimpArgs false
namespace Go.Proofs.YtaijoghpfobdbaaDoor.W
open Go.RowKit Go.Proofs.YtaijoghpfobdbaaDoor.X Go.Proofs.YtaijoghpfobdbaaDoorW.PrintWords Go.Proofs.YtaijoghpfobdbaaDoorW.PrintLast Go.Proofs.YtaijoghpfobdbaaDoorW.PrintMore
open Go.Proofs.YtaijoghpfobdbaaDoor.P (Tr Nd tx)
set_option maxHeartbeats 8000000 in
set_option maxRecDepth 100000 in
theorem builds_1 (w : World) (A B : Option Addr) (ca cb : Nat) (xa xb : List Nd) (mk : Int) (hmk : mk % 18446744073709551616 % 5 = 1) (hA : Kd.C k46 w A xa.length xa) (hB : Kd.C k46 w B xb.length xb) (la : xa.length ≤ 1048576) (lb : xb.length ≤ 1048576) (ra : Rng xa) (rb : Rng xb) (hT : U.Tab w.heap.size w) :
    Calls Tryd.prog 7 #[.agg #[.slice A xa.length ca, .slice B xb.length cb, .int .i64 mk]] w fun e w' => e = .returned (.bool true) ∧ Below w.heap.size w w' := by
  have HT := Aside0.mk hT
  have HCA := Aside0.mk hA
  have HCB := Aside0.mk hB
  have HLA := Aside0.mk la
  have HLB := Aside0.mk lb
  have HRA := Aside0.mk ra
  have HRB := Aside0.mk rb
  obtain ⟨q, hq⟩ : ∃ q : Nat, IntKind.u64.wrap mk = (q : Int) := ⟨(mk % 18446744073709551616).toNat, by rw [IntKind.wrap_u64]; omega⟩
  have hq5 : (q : Int) % 5 = 1 := by rw [IntKind.wrap_u64] at hq; omega
  obtain ⟨w0, hw0⟩ : ∃ w0, w0 = w.alloc (.cells #[.slice A xa.length ca, .slice B xb.length cb, .int .i64 mk] 42) := ⟨_, rfl⟩
  have hB0 : Below w.heap.size w w0 := by rw [hw0]; exact below_alloc (Below.refl _ _) _
  have HX0 := Aside0.mk (show w0.heap[w.heap.size]? = some (.cells #[.slice A xa.length ca, .slice B xb.length cb, .int .i64 mk] 42 (0, 0)) from by rw [hw0]; exact blk_new _ _)
  have HB0 := Aside0.mk hB0
  have HW0 := Aside0.mk hw0
  clear hT hA hB la lb ra rb hB0 hw0 hmk
  go_enter Tryd.func7, Tryd.ntmps7
  go_wp2_with fail
  rw [← HW0.out]
  refine (awake_calls w0 (Tab.high (HT.out.step HB0.out) HB0.out.size)).mono ?_
  rintro e w1 ⟨rfl, hb1⟩
  have HB1 := Aside0.mk (below_step HB0.out hb1)
  have HX1 := Aside0.mk (blk_below HX0.out hb1)
  have y0 := (blk_cell HX1.out 0).trans rfl
  have y1 := (blk_cell HX1.out 1).trans rfl
  clear hb1
  obtain ⟨⟨sa, ea⟩, hva⟩ : ∃ p, p = valE xa := ⟨_, rfl⟩
  obtain ⟨⟨sb, eb⟩, hvb⟩ : ∃ p, p = valE xb := ⟨_, rfl⟩
  have HVA := Aside0.mk hva
  have HVB := Aside0.mk hvb
  clear hva hvb
  go_wp2_with fail
  refine (value_calls w1 A ca xa (Kd.C_below HCA.out HB1.out) (by have := HLA.out; omega) HRA.out (Tab.high (HT.out.step HB1.out) HB1.out.size)).mono ?_
  rintro e w2 ⟨rfl, hb2⟩
  rw [← HVA.out]
  have HB2 := Aside0.mk (below_step HB1.out hb2)
  have HX2 := Aside0.mk (blk_below HX1.out hb2)
  clear y0 y1 hb2
  have y0 := (blk_cell HX2.out 0).trans rfl
  have y1 := (blk_cell HX2.out 1).trans rfl
  go_wp2_with fail
  refine (value_calls w2 B cb xb (Kd.C_below HCB.out HB2.out) (by have := HLB.out; omega) HRB.out (Tab.high (HT.out.step HB2.out) HB2.out.size)).mono ?_
  rintro e w3 ⟨rfl, hb3⟩
  rw [← HVB.out]
  have HB3 := Aside0.mk (below_step HB2.out hb3)
  have HX3 := Aside0.mk (blk_below HX2.out hb3)
  clear y0 y1 hb3
  have y0 := (blk_cell HX3.out 0).trans rfl
  have y1 := (blk_cell HX3.out 1).trans rfl
  have y2 := (blk_cell HX3.out 2).trans rfl
  by_cases cz : ea = 0
  case neg =>
    have c1 : (ea != 0) = true := bne_iff_ne.2 cz
    clear cz
    go_wp2_with fail
    go_ret
    exact ⟨rfl, HB3.out⟩
  by_cases cy : eb = 0
  case neg =>
    subst cz
    have c1 : (eb != 0) = true := bne_iff_ne.2 cy
    clear cy
    go_wp2_with fail
    go_ret
    exact ⟨rfl, HB3.out⟩
  subst cz cy
  have HBU := Aside0.mk (builds (A := xa) (B := xb) (by rw [← HVA.out]) (by rw [← HVB.out]))
  rw [← HVA.out, ← HVB.out] at HBU
  have HSA : Aside0 (sa.size ≤ 1048576) := ⟨by have h := val_size xa (by rw [← HVA.out]); rw [← HVA.out] at h; exact h⟩
  have HSB : Aside0 (sb.size ≤ 1048576) := ⟨by have h := val_size xb (by rw [← HVB.out]); rw [← HVB.out] at h; exact h⟩
  have n1 : ¬9223372036854775807 < 1 + sa.size := by have := HSA.out; omega
  have n2 : ¬9223372036854775807 < 1 + sa.size + 3 := by have := HSA.out; omega
  have n3 : ¬9223372036854775807 < 1 + sa.size + 3 + sb.size := by have := HSA.out; have := HSB.out; omega
  have n4 : ¬9223372036854775807 < 1 + sa.size + 3 + sb.size + 1 := by have := HSA.out; have := HSB.out; omega
  go_wp2_with (first
    | ((with_reducible refine gate_builtin (b := .append) (xs := #[.tmp 33, .tmp 35]) rfl ?_); go_must (at_builtin; refine Kd.R_append_rows k46 (Rr := k46.K w3) (w0 := w) w.heap.size rfl (.tmp 33) (.tmp 35) 25 46 (.agg #[.int .i64 0, .int .i64 0, .int .u64 0, .string ⟨#[]⟩, .int .i64 0]) 48 rfl Tryd.underlying25 infoN rfl (by decide) (by omega) (.slice none 0 0) [] xa A xa.length ca (fun _ => True) (fun _ => False) rfl rfl (Kd.R_nil _ _ _ _ _) (Kd.C_below HCA.out HB3.out) ?aK1 (fun _ hk => hk.elim) (fun _ _ => trivial) HB3.out HB3.out.size (by have := HLA.out; have := HLB.out; simp; omega) ?_; (case aK1 => intro x cs hk; obtain rfl := k46_open hk; exact k46_mkM _ _ _ x); intro v1 w4 ho hb hg hat;  rw [List.nil_append] at ho; obtain ⟨A1, c1, hv1⟩ := Kd.R_slice ho; subst hv1; have HO4 := Aside0.mk ho; have HB4 := Aside0.mk hb; have HX4 := Aside0.mk (blk_grown HX3.out hg (by simp [Value.ownBlock])); have y3 := (blk_cell HX4.out 0).trans rfl; have y4 := (blk_cell HX4.out 1).trans rfl; have y5 := (blk_cell HX4.out 2).trans rfl; clear ho hb hg hat))
    | ((with_reducible refine gate_builtin (b := .append) (xs := #[.tmp 37, .tmp 39]) rfl ?_); go_must (at_builtin; refine Kd.R_append_rows k46 (Rr := k46.K w4) (w0 := w) w.heap.size rfl (.tmp 37) (.tmp 39) 25 46 (.agg #[.int .i64 0, .int .i64 0, .int .u64 0, .string ⟨#[]⟩, .int .i64 0]) 48 rfl Tryd.underlying25 infoN rfl (by decide) (by omega) (.slice A1 xa.length c1) xa xb B xb.length cb (fun _ => True) (fun _ => False) rfl rfl HO4.out (Kd.C_below HCB.out HB4.out) ?aK2 (fun _ hk => hk.elim) (fun _ _ => trivial) HB4.out HB4.out.size (by have := HLA.out; have := HLB.out; simp; omega) ?_; (case aK2 => intro x cs hk; obtain rfl := k46_open hk; exact k46_mkM _ _ _ x); intro v2 w5 ho hb hg hat;  obtain ⟨A2, c2, hv2⟩ := Kd.R_slice ho; rw [List.length_append] at hv2; subst hv2; have HO5 := Aside0.mk ho; have HB5 := Aside0.mk hb; have HX5 := Aside0.mk (blk_grown HX4.out hg (Kd.R_ne HO4.out HX4.out (by decide))); have y6 := (blk_cell HX5.out 0).trans rfl; have y7 := (blk_cell HX5.out 1).trans rfl; have y8 := (blk_cell HX5.out 2).trans rfl; clear ho hb hg hat))
    | ((with_reducible refine gate_builtin (b := .append) (xs := #[.tmp 92, .tmp 94]) rfl ?_); go_must (at_builtin; refine Kd.R_append k46 (w0 := w) w.heap.size rfl (.tmp 92) (.tmp 94) 25 46 (.agg #[.int .i64 0, .int .i64 0, .int .u64 0, .string ⟨#[]⟩, .int .i64 0]) 48 rfl Tryd.underlying25 infoN rfl (by decide) (by omega) (.slice A2 (xa.length + xb.length) c2) (xa ++ xb) ⟨7, 0, 0, ⟨#[]⟩, 0⟩ [.int .i64 7, .int .i64 0, .int .u64 0, .string ⟨#[]⟩, .int .i64 0] (fun _ => True) (fun _ => False) rfl (by first | rfl | simp [Act.eval]) (k46_mkM _ _ _ ⟨7, 0, 0, ⟨#[]⟩, 0⟩) (fun _ hk => hk.elim) (fun _ _ => trivial) (Kd.R_alloc HO5.out _) (below_alloc HB5.out _) (by have hz := HB5.out.size; first | exact hz | (simp; omega)) (by have := HLA.out; have := HLB.out; (try simp only [List.length_append]); omega) ?_; intro v3 w6 ho hb hg hat;  obtain ⟨l3, hl3⟩ : ∃ l3, l3 = xa ++ xb ++ [(⟨7, 0, 0, ⟨#[]⟩, 0⟩ : Nd)] := ⟨_, rfl⟩; rw [← hl3] at ho; have HL3 := Aside0.mk hl3; obtain ⟨A3, c3, hv3⟩ := Kd.R_slice ho; subst hv3; have HO6 := Aside0.mk ho; have HB6 := Aside0.mk hb; have HX6 := Aside0.mk (blk_grown (blk_alloc HX5.out _) hg (Kd.R_ne HO5.out HX5.out (by decide))); clear ho hb hg hat hl3))
    | fail)
  have HLL : Aside0 (l3.length ≤ 2097153) := ⟨by rw [HL3.out]; have := HLA.out; have := HLB.out; simp; omega⟩
  have HRL : Aside0 (Rng l3) := ⟨by
    intro n hn
    rw [HL3.out] at hn
    rcases List.mem_append.1 hn with hn | hn
    · rcases List.mem_append.1 hn with hn | hn
      · exact HRA.out n hn
      · exact HRB.out n hn
    · rw [List.mem_singleton] at hn; subst hn; exact ⟨Int.le_refl 0, (by decide : (0 : Int) < 18446744073709551616)⟩⟩
  have HVW : Aside0 (valE l3 = (⟨#[]⟩, 91) ∨ valE l3 = (⟨#[]⟩, 2) ∨ valE l3 = (((((⟨#[40]⟩ : ByteArray) ++ sa) ++ (⟨#[32, 45, 32]⟩ : ByteArray)) ++ sb) ++ (⟨#[41]⟩ : ByteArray), 0)) := ⟨by rw [HL3.out]; exact HBU.out.1 1 (by decide)⟩
  refine (value_calls w6 A3 c3 l3 (Kd.R_reads' HO6.out).2.2 (by have := HLL.out; omega) HRL.out (Tab.high (HT.out.step HB6.out) HB6.out.size)).mono ?_
  rintro e w7 ⟨rfl, hb7⟩
  have HB7 := Aside0.mk (below_step HB6.out hb7)
  have HX7 := Aside0.mk (blk_below HX6.out hb7)
  clear y0 y1 y2 y3 y4 y5 y6 y7 y8 hb7 n1 n2 n3 n4
  rcases HVW.out with hv | hv | hv
  · rw [hv]
    go_wp2_with fail
    go_ret
    exact ⟨rfl, HB7.out⟩
  · rw [hv]
    go_wp2_with fail
    go_ret
    exact ⟨rfl, HB7.out⟩
  rw [hv]
  clear hv
  have y0 := (blk_cell HX7.out 0).trans rfl
  have n1 : ¬9223372036854775807 < 1 + sa.size := by have := HSA.out; omega
  have n2 : ¬9223372036854775807 < 4 + sa.size := by have := HSA.out; omega
  have n3 : ¬9223372036854775807 < 4 + sa.size + 1 := by have := HSA.out; omega
  go_wp2_with (first
    | ((with_reducible refine gate_builtin (b := .append) (xs := #[.tmp 114, .tmp 116]) rfl ?_); go_must (at_builtin; refine Kd.R_append_rows k46 (Rr := k46.K w7) (w0 := w) w.heap.size rfl (.tmp 114) (.tmp 116) 25 46 (.agg #[.int .i64 0, .int .i64 0, .int .u64 0, .string ⟨#[]⟩, .int .i64 0]) 48 rfl Tryd.underlying25 infoN rfl (by decide) (by omega) (.slice none 0 0) [] xa A xa.length ca (fun _ => True) (fun _ => False) rfl rfl (Kd.R_nil _ _ _ _ _) (Kd.C_below HCA.out HB7.out) ?aK4 (fun _ hk => hk.elim) (fun _ _ => trivial) HB7.out HB7.out.size (by have := HLA.out; have := HLB.out; simp; omega) ?_; (case aK4 => intro x cs hk; obtain rfl := k46_open hk; exact k46_mkM _ _ _ x); intro v4 w8 ho hb hg hat;  rw [List.nil_append] at ho; obtain ⟨A4, c4, hv4⟩ := Kd.R_slice ho; subst hv4; have HO8 := Aside0.mk ho; have HB8 := Aside0.mk hb; have HX8 := Aside0.mk (blk_grown HX7.out hg (by simp [Value.ownBlock])); clear ho hb hg hat))
    | ((with_reducible refine gate_builtin (b := .append) (xs := #[.tmp 119, .tmp 121]) rfl ?_); go_must (at_builtin; refine R_append_keep k46 flat_n (w0 := w) w.heap.size rfl (.tmp 119) (.tmp 121) 25 46 (.agg #[.int .i64 0, .int .i64 0, .int .u64 0, .string ⟨#[]⟩, .int .i64 0]) 48 rfl Tryd.underlying25 infoN rfl (by decide) (by omega) (.slice A4 xa.length c4) xa ⟨5, 0, 0, ⟨#[]⟩, 0⟩ [.int .i64 5, .int .i64 0, .int .u64 0, .string ⟨#[]⟩, .int .i64 0] (fun _ => True) (fun _ => False) rfl (by first | rfl | simp [Act.eval]) (k46_mkM _ _ _ ⟨5, 0, 0, ⟨#[]⟩, 0⟩) (fun _ hk => hk.elim) (fun _ _ => trivial) (HO8.out) (HB8.out) (by have hz := HB8.out.size; first | exact hz | (simp; omega)) (by have := HLA.out; have := HLB.out; (try simp only [List.length_append]); omega) ?_; intro v5 w9 ho hb hg hat;  obtain ⟨l5, hl5⟩ : ∃ l5, l5 = xa ++ [(⟨5, 0, 0, ⟨#[]⟩, 0⟩ : Nd)] := ⟨_, rfl⟩; rw [← hl5] at ho; have HL5 := Aside0.mk hl5; obtain ⟨A5, c5, hv5⟩ := Kd.R_slice ho; subst hv5; have HO9 := Aside0.mk ho; have HB9 := Aside0.mk hb; have HX9 := Aside0.mk (blk_grown HX8.out hg (Kd.R_ne HO8.out HX8.out (by decide))); have HR9 := Aside0.mk hat; clear ho hb hg hat hl5))
    | fail)
  have HLN : Aside0 (l5.length ≤ 1048577) := ⟨by rw [HL5.out]; have := HLA.out; simp; omega⟩
  have HRN : Aside0 (Rng l5) := ⟨by
    intro n hn
    rw [HL5.out] at hn
    rcases List.mem_append.1 hn with hn | hn
    · exact HRA.out n hn
    · rw [List.mem_singleton] at hn; subst hn; exact ⟨Int.le_refl 0, (by decide : (0 : Int) < 18446744073709551616)⟩⟩
  have HVN : Aside0 (valE l5 = (⟨#[]⟩, 91) ∨ valE l5 = (⟨#[]⟩, 2) ∨ valE l5 = ((⟨#[45]⟩ : ByteArray) ++ sa, 0)) := ⟨by rw [HL5.out]; exact HBU.out.2.1⟩
  have HVL : Aside0 (valE (xa ++ [(⟨11, 0, 0, ⟨#[]⟩, 0⟩ : Nd)]) = (⟨#[]⟩, 91) ∨ valE (xa ++ [(⟨11, 0, 0, ⟨#[]⟩, 0⟩ : Nd)]) = (⟨#[]⟩, 2) ∨ valE (xa ++ [(⟨11, 0, 0, ⟨#[]⟩, 0⟩ : Nd)]) = (((⟨#[108, 101, 110, 40]⟩ : ByteArray) ++ sa) ++ (⟨#[41]⟩ : ByteArray), 0)) := ⟨HBU.out.2.2⟩
  refine (value_calls w9 A5 c5 l5 (Kd.R_reads' HO9.out).2.2 (by have := HLN.out; omega) HRN.out (Tab.high (HT.out.step HB9.out) HB9.out.size)).mono ?_
  rintro e w10 ⟨rfl, hb10⟩
  have HB10 := Aside0.mk (below_step HB9.out hb10)
  have HX10 := Aside0.mk (blk_below HX9.out hb10)
  have HOA := Aside0.mk (Kd.R_below HR9.out hb10)
  clear y0 hb10
  have y0 := (blk_cell HX10.out 0).trans rfl
  obtain ⟨i0, hi0, _, hsz0, _⟩ := info_parts infoN
  have hcuto := cut_to (P := Tryd.prog) 25 46 .i64 Tryd.underlying25 hi0 A4 xa.length c4 (xa.length : Int) (by omega) (by omega) (Kd.R_reads' HOA.out).2.1
  rcases HVN.out with hv | hv | hv
  all_goals rw [hv]; clear hv
  all_goals go_wp2_with (first
    | ((with_reducible refine gate_builtin (b := .append) (xs := #[.tmp 152, .tmp 154]) rfl ?_); go_must (at_builtin; refine Kd.R_append k46 (w0 := w) w.heap.size rfl (.tmp 152) (.tmp 154) 25 46 (.agg #[.int .i64 0, .int .i64 0, .int .u64 0, .string ⟨#[]⟩, .int .i64 0]) 48 rfl Tryd.underlying25 infoN rfl (by decide) (by omega) (.slice A4 xa.length c4) xa ⟨11, 0, 0, ⟨#[]⟩, 0⟩ [.int .i64 11, .int .i64 0, .int .u64 0, .string ⟨#[]⟩, .int .i64 0] (fun _ => True) (fun _ => False) rfl (by first | rfl | simp [Act.eval]) (k46_mkM _ _ _ ⟨11, 0, 0, ⟨#[]⟩, 0⟩) (fun _ hk => hk.elim) (fun _ _ => trivial) (HOA.out) (HB10.out) (by have hz := HB10.out.size; first | exact hz | (simp; omega)) (by have := HLA.out; have := HLB.out; (try simp only [List.length_append]); omega) ?_; intro v6 w11 ho hb hg hat;  obtain ⟨l6, hl6⟩ : ∃ l6, l6 = xa ++ [(⟨11, 0, 0, ⟨#[]⟩, 0⟩ : Nd)] := ⟨_, rfl⟩; rw [← hl6] at ho; have HL6 := Aside0.mk hl6; obtain ⟨A6, c6, hv6⟩ := Kd.R_slice ho; subst hv6; have HO11 := Aside0.mk ho; have HB11 := Aside0.mk hb; clear ho hb hg hat hl6))
    | fail)
  all_goals
    have HLM : Aside0 (l6.length ≤ 1048577) := ⟨by rw [HL6.out]; have := HLA.out; simp; omega⟩
    have HRM : Aside0 (Rng l6) := ⟨by
      intro n hn
      rw [HL6.out] at hn
      rcases List.mem_append.1 hn with hn | hn
      · exact HRA.out n hn
      · rw [List.mem_singleton] at hn; subst hn; exact ⟨Int.le_refl 0, (by decide : (0 : Int) < 18446744073709551616)⟩⟩
    rw [← HL6.out] at HVL
    refine (value_calls w11 A6 c6 l6 (Kd.R_reads' HO11.out).2.2 (by have := HLM.out; omega) HRM.out (Tab.high (HT.out.step HB11.out) HB11.out.size)).mono ?_
    rintro e w12 ⟨rfl, hb12⟩
    have HB12 := Aside0.mk (below_step HB11.out hb12)
    clear hb12
    rcases HVL.out with hv | hv | hv
    all_goals rw [hv]; clear hv
    all_goals go_wp2_with fail
    all_goals go_ret
    all_goals exact ⟨rfl, HB12.out⟩
end Go.Proofs.YtaijoghpfobdbaaDoor.W
end
section
set_option linter.unusedVariables false
set_option linter.unusedSimpArgs false
namespace Go.Proofs.YtaijoghpfobdbaaDoor.W
open Go.RowKit Go.Proofs.YtaijoghpfobdbaaDoor.X Go.Proofs.YtaijoghpfobdbaaDoorW.PrintWords Go.Proofs.YtaijoghpfobdbaaDoorW.PrintLast Go.Proofs.YtaijoghpfobdbaaDoorW.PrintMore
open Go.Proofs.YtaijoghpfobdbaaDoor.P (Tr Nd tx)
set_option maxHeartbeats 8000000 in
set_option maxRecDepth 100000 in
theorem builds_2 (w : World) (A B : Option Addr) (ca cb : Nat) (xa xb : List Nd) (mk : Int) (hmk : mk % 18446744073709551616 % 5 = 2) (hA : Kd.C k46 w A xa.length xa) (hB : Kd.C k46 w B xb.length xb) (la : xa.length ≤ 1048576) (lb : xb.length ≤ 1048576) (ra : Rng xa) (rb : Rng xb) (hT : U.Tab w.heap.size w) :
    Calls Tryd.prog 7 #[.agg #[.slice A xa.length ca, .slice B xb.length cb, .int .i64 mk]] w fun e w' => e = .returned (.bool true) ∧ Below w.heap.size w w' := by
  have HT := Aside0.mk hT
  have HCA := Aside0.mk hA
  have HCB := Aside0.mk hB
  have HLA := Aside0.mk la
  have HLB := Aside0.mk lb
  have HRA := Aside0.mk ra
  have HRB := Aside0.mk rb
  obtain ⟨q, hq⟩ : ∃ q : Nat, IntKind.u64.wrap mk = (q : Int) := ⟨(mk % 18446744073709551616).toNat, by rw [IntKind.wrap_u64]; omega⟩
  have hq5 : (q : Int) % 5 = 2 := by rw [IntKind.wrap_u64] at hq; omega
  obtain ⟨w0, hw0⟩ : ∃ w0, w0 = w.alloc (.cells #[.slice A xa.length ca, .slice B xb.length cb, .int .i64 mk] 42) := ⟨_, rfl⟩
  have hB0 : Below w.heap.size w w0 := by rw [hw0]; exact below_alloc (Below.refl _ _) _
  have HX0 := Aside0.mk (show w0.heap[w.heap.size]? = some (.cells #[.slice A xa.length ca, .slice B xb.length cb, .int .i64 mk] 42 (0, 0)) from by rw [hw0]; exact blk_new _ _)
  have HB0 := Aside0.mk hB0
  have HW0 := Aside0.mk hw0
  clear hT hA hB la lb ra rb hB0 hw0 hmk
  go_enter Tryd.func7, Tryd.ntmps7
  go_wp2_with fail
  rw [← HW0.out]
  refine (awake_calls w0 (Tab.high (HT.out.step HB0.out) HB0.out.size)).mono ?_
  rintro e w1 ⟨rfl, hb1⟩
  have HB1 := Aside0.mk (below_step HB0.out hb1)
  have HX1 := Aside0.mk (blk_below HX0.out hb1)
  have y0 := (blk_cell HX1.out 0).trans rfl
  have y1 := (blk_cell HX1.out 1).trans rfl
  clear hb1
  obtain ⟨⟨sa, ea⟩, hva⟩ : ∃ p, p = valE xa := ⟨_, rfl⟩
  obtain ⟨⟨sb, eb⟩, hvb⟩ : ∃ p, p = valE xb := ⟨_, rfl⟩
  have HVA := Aside0.mk hva
  have HVB := Aside0.mk hvb
  clear hva hvb
  go_wp2_with fail
  refine (value_calls w1 A ca xa (Kd.C_below HCA.out HB1.out) (by have := HLA.out; omega) HRA.out (Tab.high (HT.out.step HB1.out) HB1.out.size)).mono ?_
  rintro e w2 ⟨rfl, hb2⟩
  rw [← HVA.out]
  have HB2 := Aside0.mk (below_step HB1.out hb2)
  have HX2 := Aside0.mk (blk_below HX1.out hb2)
  clear y0 y1 hb2
  have y0 := (blk_cell HX2.out 0).trans rfl
  have y1 := (blk_cell HX2.out 1).trans rfl
  go_wp2_with fail
  refine (value_calls w2 B cb xb (Kd.C_below HCB.out HB2.out) (by have := HLB.out; omega) HRB.out (Tab.high (HT.out.step HB2.out) HB2.out.size)).mono ?_
  rintro e w3 ⟨rfl, hb3⟩
  rw [← HVB.out]
  have HB3 := Aside0.mk (below_step HB2.out hb3)
  have HX3 := Aside0.mk (blk_below HX2.out hb3)
  clear y0 y1 hb3
  have y0 := (blk_cell HX3.out 0).trans rfl
  have y1 := (blk_cell HX3.out 1).trans rfl
  have y2 := (blk_cell HX3.out 2).trans rfl
  by_cases cz : ea = 0
  case neg =>
    have c1 : (ea != 0) = true := bne_iff_ne.2 cz
    clear cz
    go_wp2_with fail
    go_ret
    exact ⟨rfl, HB3.out⟩
  by_cases cy : eb = 0
  case neg =>
    subst cz
    have c1 : (eb != 0) = true := bne_iff_ne.2 cy
    clear cy
    go_wp2_with fail
    go_ret
    exact ⟨rfl, HB3.out⟩
  subst cz cy
  have HBU := Aside0.mk (builds (A := xa) (B := xb) (by rw [← HVA.out]) (by rw [← HVB.out]))
  rw [← HVA.out, ← HVB.out] at HBU
  have HSA : Aside0 (sa.size ≤ 1048576) := ⟨by have h := val_size xa (by rw [← HVA.out]); rw [← HVA.out] at h; exact h⟩
  have HSB : Aside0 (sb.size ≤ 1048576) := ⟨by have h := val_size xb (by rw [← HVB.out]); rw [← HVB.out] at h; exact h⟩
  have n1 : ¬9223372036854775807 < 1 + sa.size := by have := HSA.out; omega
  have n2 : ¬9223372036854775807 < 1 + sa.size + 3 := by have := HSA.out; omega
  have n3 : ¬9223372036854775807 < 1 + sa.size + 3 + sb.size := by have := HSA.out; have := HSB.out; omega
  have n4 : ¬9223372036854775807 < 1 + sa.size + 3 + sb.size + 1 := by have := HSA.out; have := HSB.out; omega
  go_wp2_with (first
    | ((with_reducible refine gate_builtin (b := .append) (xs := #[.tmp 33, .tmp 35]) rfl ?_); go_must (at_builtin; refine Kd.R_append_rows k46 (Rr := k46.K w3) (w0 := w) w.heap.size rfl (.tmp 33) (.tmp 35) 25 46 (.agg #[.int .i64 0, .int .i64 0, .int .u64 0, .string ⟨#[]⟩, .int .i64 0]) 48 rfl Tryd.underlying25 infoN rfl (by decide) (by omega) (.slice none 0 0) [] xa A xa.length ca (fun _ => True) (fun _ => False) rfl rfl (Kd.R_nil _ _ _ _ _) (Kd.C_below HCA.out HB3.out) ?aK1 (fun _ hk => hk.elim) (fun _ _ => trivial) HB3.out HB3.out.size (by have := HLA.out; have := HLB.out; simp; omega) ?_; (case aK1 => intro x cs hk; obtain rfl := k46_open hk; exact k46_mkM _ _ _ x); intro v1 w4 ho hb hg hat;  rw [List.nil_append] at ho; obtain ⟨A1, c1, hv1⟩ := Kd.R_slice ho; subst hv1; have HO4 := Aside0.mk ho; have HB4 := Aside0.mk hb; have HX4 := Aside0.mk (blk_grown HX3.out hg (by simp [Value.ownBlock])); have y3 := (blk_cell HX4.out 0).trans rfl; have y4 := (blk_cell HX4.out 1).trans rfl; have y5 := (blk_cell HX4.out 2).trans rfl; clear ho hb hg hat))
    | ((with_reducible refine gate_builtin (b := .append) (xs := #[.tmp 37, .tmp 39]) rfl ?_); go_must (at_builtin; refine Kd.R_append_rows k46 (Rr := k46.K w4) (w0 := w) w.heap.size rfl (.tmp 37) (.tmp 39) 25 46 (.agg #[.int .i64 0, .int .i64 0, .int .u64 0, .string ⟨#[]⟩, .int .i64 0]) 48 rfl Tryd.underlying25 infoN rfl (by decide) (by omega) (.slice A1 xa.length c1) xa xb B xb.length cb (fun _ => True) (fun _ => False) rfl rfl HO4.out (Kd.C_below HCB.out HB4.out) ?aK2 (fun _ hk => hk.elim) (fun _ _ => trivial) HB4.out HB4.out.size (by have := HLA.out; have := HLB.out; simp; omega) ?_; (case aK2 => intro x cs hk; obtain rfl := k46_open hk; exact k46_mkM _ _ _ x); intro v2 w5 ho hb hg hat;  obtain ⟨A2, c2, hv2⟩ := Kd.R_slice ho; rw [List.length_append] at hv2; subst hv2; have HO5 := Aside0.mk ho; have HB5 := Aside0.mk hb; have HX5 := Aside0.mk (blk_grown HX4.out hg (Kd.R_ne HO4.out HX4.out (by decide))); have y6 := (blk_cell HX5.out 0).trans rfl; have y7 := (blk_cell HX5.out 1).trans rfl; have y8 := (blk_cell HX5.out 2).trans rfl; clear ho hb hg hat))
    | ((with_reducible refine gate_builtin (b := .append) (xs := #[.tmp 92, .tmp 94]) rfl ?_); go_must (at_builtin; refine Kd.R_append k46 (w0 := w) w.heap.size rfl (.tmp 92) (.tmp 94) 25 46 (.agg #[.int .i64 0, .int .i64 0, .int .u64 0, .string ⟨#[]⟩, .int .i64 0]) 48 rfl Tryd.underlying25 infoN rfl (by decide) (by omega) (.slice A2 (xa.length + xb.length) c2) (xa ++ xb) ⟨8, 0, 0, ⟨#[]⟩, 0⟩ [.int .i64 8, .int .i64 0, .int .u64 0, .string ⟨#[]⟩, .int .i64 0] (fun _ => True) (fun _ => False) rfl (by first | rfl | simp [Act.eval]) (k46_mkM _ _ _ ⟨8, 0, 0, ⟨#[]⟩, 0⟩) (fun _ hk => hk.elim) (fun _ _ => trivial) (Kd.R_alloc HO5.out _) (below_alloc HB5.out _) (by have hz := HB5.out.size; first | exact hz | (simp; omega)) (by have := HLA.out; have := HLB.out; (try simp only [List.length_append]); omega) ?_; intro v3 w6 ho hb hg hat;  obtain ⟨l3, hl3⟩ : ∃ l3, l3 = xa ++ xb ++ [(⟨8, 0, 0, ⟨#[]⟩, 0⟩ : Nd)] := ⟨_, rfl⟩; rw [← hl3] at ho; have HL3 := Aside0.mk hl3; obtain ⟨A3, c3, hv3⟩ := Kd.R_slice ho; subst hv3; have HO6 := Aside0.mk ho; have HB6 := Aside0.mk hb; have HX6 := Aside0.mk (blk_grown (blk_alloc HX5.out _) hg (Kd.R_ne HO5.out HX5.out (by decide))); clear ho hb hg hat hl3))
    | fail)
  have HLL : Aside0 (l3.length ≤ 2097153) := ⟨by rw [HL3.out]; have := HLA.out; have := HLB.out; simp; omega⟩
  have HRL : Aside0 (Rng l3) := ⟨by
    intro n hn
    rw [HL3.out] at hn
    rcases List.mem_append.1 hn with hn | hn
    · rcases List.mem_append.1 hn with hn | hn
      · exact HRA.out n hn
      · exact HRB.out n hn
    · rw [List.mem_singleton] at hn; subst hn; exact ⟨Int.le_refl 0, (by decide : (0 : Int) < 18446744073709551616)⟩⟩
  have HVW : Aside0 (valE l3 = (⟨#[]⟩, 91) ∨ valE l3 = (⟨#[]⟩, 2) ∨ valE l3 = (((((⟨#[40]⟩ : ByteArray) ++ sa) ++ (⟨#[32, 42, 32]⟩ : ByteArray)) ++ sb) ++ (⟨#[41]⟩ : ByteArray), 0)) := ⟨by rw [HL3.out]; exact HBU.out.1 2 (by decide)⟩
  refine (value_calls w6 A3 c3 l3 (Kd.R_reads' HO6.out).2.2 (by have := HLL.out; omega) HRL.out (Tab.high (HT.out.step HB6.out) HB6.out.size)).mono ?_
  rintro e w7 ⟨rfl, hb7⟩
  have HB7 := Aside0.mk (below_step HB6.out hb7)
  have HX7 := Aside0.mk (blk_below HX6.out hb7)
  clear y0 y1 y2 y3 y4 y5 y6 y7 y8 hb7 n1 n2 n3 n4
  rcases HVW.out with hv | hv | hv
  · rw [hv]
    go_wp2_with fail
    go_ret
    exact ⟨rfl, HB7.out⟩
  · rw [hv]
    go_wp2_with fail
    go_ret
    exact ⟨rfl, HB7.out⟩
  rw [hv]
  clear hv
  have y0 := (blk_cell HX7.out 0).trans rfl
  have n1 : ¬9223372036854775807 < 1 + sa.size := by have := HSA.out; omega
  have n2 : ¬9223372036854775807 < 4 + sa.size := by have := HSA.out; omega
  have n3 : ¬9223372036854775807 < 4 + sa.size + 1 := by have := HSA.out; omega
  go_wp2_with (first
    | ((with_reducible refine gate_builtin (b := .append) (xs := #[.tmp 114, .tmp 116]) rfl ?_); go_must (at_builtin; refine Kd.R_append_rows k46 (Rr := k46.K w7) (w0 := w) w.heap.size rfl (.tmp 114) (.tmp 116) 25 46 (.agg #[.int .i64 0, .int .i64 0, .int .u64 0, .string ⟨#[]⟩, .int .i64 0]) 48 rfl Tryd.underlying25 infoN rfl (by decide) (by omega) (.slice none 0 0) [] xa A xa.length ca (fun _ => True) (fun _ => False) rfl rfl (Kd.R_nil _ _ _ _ _) (Kd.C_below HCA.out HB7.out) ?aK4 (fun _ hk => hk.elim) (fun _ _ => trivial) HB7.out HB7.out.size (by have := HLA.out; have := HLB.out; simp; omega) ?_; (case aK4 => intro x cs hk; obtain rfl := k46_open hk; exact k46_mkM _ _ _ x); intro v4 w8 ho hb hg hat;  rw [List.nil_append] at ho; obtain ⟨A4, c4, hv4⟩ := Kd.R_slice ho; subst hv4; have HO8 := Aside0.mk ho; have HB8 := Aside0.mk hb; have HX8 := Aside0.mk (blk_grown HX7.out hg (by simp [Value.ownBlock])); clear ho hb hg hat))
    | ((with_reducible refine gate_builtin (b := .append) (xs := #[.tmp 119, .tmp 121]) rfl ?_); go_must (at_builtin; refine R_append_keep k46 flat_n (w0 := w) w.heap.size rfl (.tmp 119) (.tmp 121) 25 46 (.agg #[.int .i64 0, .int .i64 0, .int .u64 0, .string ⟨#[]⟩, .int .i64 0]) 48 rfl Tryd.underlying25 infoN rfl (by decide) (by omega) (.slice A4 xa.length c4) xa ⟨5, 0, 0, ⟨#[]⟩, 0⟩ [.int .i64 5, .int .i64 0, .int .u64 0, .string ⟨#[]⟩, .int .i64 0] (fun _ => True) (fun _ => False) rfl (by first | rfl | simp [Act.eval]) (k46_mkM _ _ _ ⟨5, 0, 0, ⟨#[]⟩, 0⟩) (fun _ hk => hk.elim) (fun _ _ => trivial) (HO8.out) (HB8.out) (by have hz := HB8.out.size; first | exact hz | (simp; omega)) (by have := HLA.out; have := HLB.out; (try simp only [List.length_append]); omega) ?_; intro v5 w9 ho hb hg hat;  obtain ⟨l5, hl5⟩ : ∃ l5, l5 = xa ++ [(⟨5, 0, 0, ⟨#[]⟩, 0⟩ : Nd)] := ⟨_, rfl⟩; rw [← hl5] at ho; have HL5 := Aside0.mk hl5; obtain ⟨A5, c5, hv5⟩ := Kd.R_slice ho; subst hv5; have HO9 := Aside0.mk ho; have HB9 := Aside0.mk hb; have HX9 := Aside0.mk (blk_grown HX8.out hg (Kd.R_ne HO8.out HX8.out (by decide))); have HR9 := Aside0.mk hat; clear ho hb hg hat hl5))
    | fail)
  have HLN : Aside0 (l5.length ≤ 1048577) := ⟨by rw [HL5.out]; have := HLA.out; simp; omega⟩
  have HRN : Aside0 (Rng l5) := ⟨by
    intro n hn
    rw [HL5.out] at hn
    rcases List.mem_append.1 hn with hn | hn
    · exact HRA.out n hn
    · rw [List.mem_singleton] at hn; subst hn; exact ⟨Int.le_refl 0, (by decide : (0 : Int) < 18446744073709551616)⟩⟩
  have HVN : Aside0 (valE l5 = (⟨#[]⟩, 91) ∨ valE l5 = (⟨#[]⟩, 2) ∨ valE l5 = ((⟨#[45]⟩ : ByteArray) ++ sa, 0)) := ⟨by rw [HL5.out]; exact HBU.out.2.1⟩
  have HVL : Aside0 (valE (xa ++ [(⟨11, 0, 0, ⟨#[]⟩, 0⟩ : Nd)]) = (⟨#[]⟩, 91) ∨ valE (xa ++ [(⟨11, 0, 0, ⟨#[]⟩, 0⟩ : Nd)]) = (⟨#[]⟩, 2) ∨ valE (xa ++ [(⟨11, 0, 0, ⟨#[]⟩, 0⟩ : Nd)]) = (((⟨#[108, 101, 110, 40]⟩ : ByteArray) ++ sa) ++ (⟨#[41]⟩ : ByteArray), 0)) := ⟨HBU.out.2.2⟩
  refine (value_calls w9 A5 c5 l5 (Kd.R_reads' HO9.out).2.2 (by have := HLN.out; omega) HRN.out (Tab.high (HT.out.step HB9.out) HB9.out.size)).mono ?_
  rintro e w10 ⟨rfl, hb10⟩
  have HB10 := Aside0.mk (below_step HB9.out hb10)
  have HX10 := Aside0.mk (blk_below HX9.out hb10)
  have HOA := Aside0.mk (Kd.R_below HR9.out hb10)
  clear y0 hb10
  have y0 := (blk_cell HX10.out 0).trans rfl
  obtain ⟨i0, hi0, _, hsz0, _⟩ := info_parts infoN
  have hcuto := cut_to (P := Tryd.prog) 25 46 .i64 Tryd.underlying25 hi0 A4 xa.length c4 (xa.length : Int) (by omega) (by omega) (Kd.R_reads' HOA.out).2.1
  rcases HVN.out with hv | hv | hv
  all_goals rw [hv]; clear hv
  all_goals go_wp2_with (first
    | ((with_reducible refine gate_builtin (b := .append) (xs := #[.tmp 152, .tmp 154]) rfl ?_); go_must (at_builtin; refine Kd.R_append k46 (w0 := w) w.heap.size rfl (.tmp 152) (.tmp 154) 25 46 (.agg #[.int .i64 0, .int .i64 0, .int .u64 0, .string ⟨#[]⟩, .int .i64 0]) 48 rfl Tryd.underlying25 infoN rfl (by decide) (by omega) (.slice A4 xa.length c4) xa ⟨11, 0, 0, ⟨#[]⟩, 0⟩ [.int .i64 11, .int .i64 0, .int .u64 0, .string ⟨#[]⟩, .int .i64 0] (fun _ => True) (fun _ => False) rfl (by first | rfl | simp [Act.eval]) (k46_mkM _ _ _ ⟨11, 0, 0, ⟨#[]⟩, 0⟩) (fun _ hk => hk.elim) (fun _ _ => trivial) (HOA.out) (HB10.out) (by have hz := HB10.out.size; first | exact hz | (simp; omega)) (by have := HLA.out; have := HLB.out; (try simp only [List.length_append]); omega) ?_; intro v6 w11 ho hb hg hat;  obtain ⟨l6, hl6⟩ : ∃ l6, l6 = xa ++ [(⟨11, 0, 0, ⟨#[]⟩, 0⟩ : Nd)] := ⟨_, rfl⟩; rw [← hl6] at ho; have HL6 := Aside0.mk hl6; obtain ⟨A6, c6, hv6⟩ := Kd.R_slice ho; subst hv6; have HO11 := Aside0.mk ho; have HB11 := Aside0.mk hb; clear ho hb hg hat hl6))
    | fail)
  all_goals
    have HLM : Aside0 (l6.length ≤ 1048577) := ⟨by rw [HL6.out]; have := HLA.out; simp; omega⟩
    have HRM : Aside0 (Rng l6) := ⟨by
      intro n hn
      rw [HL6.out] at hn
      rcases List.mem_append.1 hn with hn | hn
      · exact HRA.out n hn
      · rw [List.mem_singleton] at hn; subst hn; exact ⟨Int.le_refl 0, (by decide : (0 : Int) < 18446744073709551616)⟩⟩
    rw [← HL6.out] at HVL
    refine (value_calls w11 A6 c6 l6 (Kd.R_reads' HO11.out).2.2 (by have := HLM.out; omega) HRM.out (Tab.high (HT.out.step HB11.out) HB11.out.size)).mono ?_
    rintro e w12 ⟨rfl, hb12⟩
    have HB12 := Aside0.mk (below_step HB11.out hb12)
    clear hb12
    rcases HVL.out with hv | hv | hv
    all_goals rw [hv]; clear hv
    all_goals go_wp2_with fail
    all_goals go_ret
    all_goals exact ⟨rfl, HB12.out⟩
end Go.Proofs.YtaijoghpfobdbaaDoor.W
end
section
set_option linter.unusedVariables false
set_option linter.unusedSimpArgs false
namespace Go.Proofs.YtaijoghpfobdbaaDoor.W
open Go.RowKit Go.Proofs.YtaijoghpfobdbaaDoor.X Go.Proofs.YtaijoghpfobdbaaDoorW.PrintWords Go.Proofs.YtaijoghpfobdbaaDoorW.PrintLast Go.Proofs.YtaijoghpfobdbaaDoorW.PrintMore
open Go.Proofs.YtaijoghpfobdbaaDoor.P (Tr Nd tx)
set_option maxHeartbeats 8000000 in
set_option maxRecDepth 100000 in
theorem builds_3 (w : World) (A B : Option Addr) (ca cb : Nat) (xa xb : List Nd) (mk : Int) (hmk : mk % 18446744073709551616 % 5 = 3) (hA : Kd.C k46 w A xa.length xa) (hB : Kd.C k46 w B xb.length xb) (la : xa.length ≤ 1048576) (lb : xb.length ≤ 1048576) (ra : Rng xa) (rb : Rng xb) (hT : U.Tab w.heap.size w) :
    Calls Tryd.prog 7 #[.agg #[.slice A xa.length ca, .slice B xb.length cb, .int .i64 mk]] w fun e w' => e = .returned (.bool true) ∧ Below w.heap.size w w' := by
  have HT := Aside0.mk hT
  have HCA := Aside0.mk hA
  have HCB := Aside0.mk hB
  have HLA := Aside0.mk la
  have HLB := Aside0.mk lb
  have HRA := Aside0.mk ra
  have HRB := Aside0.mk rb
  obtain ⟨q, hq⟩ : ∃ q : Nat, IntKind.u64.wrap mk = (q : Int) := ⟨(mk % 18446744073709551616).toNat, by rw [IntKind.wrap_u64]; omega⟩
  have hq5 : (q : Int) % 5 = 3 := by rw [IntKind.wrap_u64] at hq; omega
  obtain ⟨w0, hw0⟩ : ∃ w0, w0 = w.alloc (.cells #[.slice A xa.length ca, .slice B xb.length cb, .int .i64 mk] 42) := ⟨_, rfl⟩
  have hB0 : Below w.heap.size w w0 := by rw [hw0]; exact below_alloc (Below.refl _ _) _
  have HX0 := Aside0.mk (show w0.heap[w.heap.size]? = some (.cells #[.slice A xa.length ca, .slice B xb.length cb, .int .i64 mk] 42 (0, 0)) from by rw [hw0]; exact blk_new _ _)
  have HB0 := Aside0.mk hB0
  have HW0 := Aside0.mk hw0
  clear hT hA hB la lb ra rb hB0 hw0 hmk
  go_enter Tryd.func7, Tryd.ntmps7
  go_wp2_with fail
  rw [← HW0.out]
  refine (awake_calls w0 (Tab.high (HT.out.step HB0.out) HB0.out.size)).mono ?_
  rintro e w1 ⟨rfl, hb1⟩
  have HB1 := Aside0.mk (below_step HB0.out hb1)
  have HX1 := Aside0.mk (blk_below HX0.out hb1)
  have y0 := (blk_cell HX1.out 0).trans rfl
  have y1 := (blk_cell HX1.out 1).trans rfl
  clear hb1
  obtain ⟨⟨sa, ea⟩, hva⟩ : ∃ p, p = valE xa := ⟨_, rfl⟩
  obtain ⟨⟨sb, eb⟩, hvb⟩ : ∃ p, p = valE xb := ⟨_, rfl⟩
  have HVA := Aside0.mk hva
  have HVB := Aside0.mk hvb
  clear hva hvb
  go_wp2_with fail
  refine (value_calls w1 A ca xa (Kd.C_below HCA.out HB1.out) (by have := HLA.out; omega) HRA.out (Tab.high (HT.out.step HB1.out) HB1.out.size)).mono ?_
  rintro e w2 ⟨rfl, hb2⟩
  rw [← HVA.out]
  have HB2 := Aside0.mk (below_step HB1.out hb2)
  have HX2 := Aside0.mk (blk_below HX1.out hb2)
  clear y0 y1 hb2
  have y0 := (blk_cell HX2.out 0).trans rfl
  have y1 := (blk_cell HX2.out 1).trans rfl
  go_wp2_with fail
  refine (value_calls w2 B cb xb (Kd.C_below HCB.out HB2.out) (by have := HLB.out; omega) HRB.out (Tab.high (HT.out.step HB2.out) HB2.out.size)).mono ?_
  rintro e w3 ⟨rfl, hb3⟩
  rw [← HVB.out]
  have HB3 := Aside0.mk (below_step HB2.out hb3)
  have HX3 := Aside0.mk (blk_below HX2.out hb3)
  clear y0 y1 hb3
  have y0 := (blk_cell HX3.out 0).trans rfl
  have y1 := (blk_cell HX3.out 1).trans rfl
  have y2 := (blk_cell HX3.out 2).trans rfl
  by_cases cz : ea = 0
  case neg =>
    have c1 : (ea != 0) = true := bne_iff_ne.2 cz
    clear cz
    go_wp2_with fail
    go_ret
    exact ⟨rfl, HB3.out⟩
  by_cases cy : eb = 0
  case neg =>
    subst cz
    have c1 : (eb != 0) = true := bne_iff_ne.2 cy
    clear cy
    go_wp2_with fail
    go_ret
    exact ⟨rfl, HB3.out⟩
  subst cz cy
  have HBU := Aside0.mk (builds (A := xa) (B := xb) (by rw [← HVA.out]) (by rw [← HVB.out]))
  rw [← HVA.out, ← HVB.out] at HBU
  have HSA : Aside0 (sa.size ≤ 1048576) := ⟨by have h := val_size xa (by rw [← HVA.out]); rw [← HVA.out] at h; exact h⟩
  have HSB : Aside0 (sb.size ≤ 1048576) := ⟨by have h := val_size xb (by rw [← HVB.out]); rw [← HVB.out] at h; exact h⟩
  have n1 : ¬9223372036854775807 < 4 + sa.size := by have := HSA.out; omega
  have n2 : ¬9223372036854775807 < 4 + sa.size + 2 := by have := HSA.out; omega
  have n3 : ¬9223372036854775807 < 4 + sa.size + 2 + sb.size := by have := HSA.out; have := HSB.out; omega
  have n4 : ¬9223372036854775807 < 4 + sa.size + 2 + sb.size + 1 := by have := HSA.out; have := HSB.out; omega
  go_wp2_with (first
    | ((with_reducible refine gate_builtin (b := .append) (xs := #[.tmp 33, .tmp 35]) rfl ?_); go_must (at_builtin; refine Kd.R_append_rows k46 (Rr := k46.K w3) (w0 := w) w.heap.size rfl (.tmp 33) (.tmp 35) 25 46 (.agg #[.int .i64 0, .int .i64 0, .int .u64 0, .string ⟨#[]⟩, .int .i64 0]) 48 rfl Tryd.underlying25 infoN rfl (by decide) (by omega) (.slice none 0 0) [] xa A xa.length ca (fun _ => True) (fun _ => False) rfl rfl (Kd.R_nil _ _ _ _ _) (Kd.C_below HCA.out HB3.out) ?aK1 (fun _ hk => hk.elim) (fun _ _ => trivial) HB3.out HB3.out.size (by have := HLA.out; have := HLB.out; simp; omega) ?_; (case aK1 => intro x cs hk; obtain rfl := k46_open hk; exact k46_mkM _ _ _ x); intro v1 w4 ho hb hg hat;  rw [List.nil_append] at ho; obtain ⟨A1, c1, hv1⟩ := Kd.R_slice ho; subst hv1; have HO4 := Aside0.mk ho; have HB4 := Aside0.mk hb; have HX4 := Aside0.mk (blk_grown HX3.out hg (by simp [Value.ownBlock])); have y3 := (blk_cell HX4.out 0).trans rfl; have y4 := (blk_cell HX4.out 1).trans rfl; have y5 := (blk_cell HX4.out 2).trans rfl; clear ho hb hg hat))
    | ((with_reducible refine gate_builtin (b := .append) (xs := #[.tmp 37, .tmp 39]) rfl ?_); go_must (at_builtin; refine Kd.R_append_rows k46 (Rr := k46.K w4) (w0 := w) w.heap.size rfl (.tmp 37) (.tmp 39) 25 46 (.agg #[.int .i64 0, .int .i64 0, .int .u64 0, .string ⟨#[]⟩, .int .i64 0]) 48 rfl Tryd.underlying25 infoN rfl (by decide) (by omega) (.slice A1 xa.length c1) xa xb B xb.length cb (fun _ => True) (fun _ => False) rfl rfl HO4.out (Kd.C_below HCB.out HB4.out) ?aK2 (fun _ hk => hk.elim) (fun _ _ => trivial) HB4.out HB4.out.size (by have := HLA.out; have := HLB.out; simp; omega) ?_; (case aK2 => intro x cs hk; obtain rfl := k46_open hk; exact k46_mkM _ _ _ x); intro v2 w5 ho hb hg hat;  obtain ⟨A2, c2, hv2⟩ := Kd.R_slice ho; rw [List.length_append] at hv2; subst hv2; have HO5 := Aside0.mk ho; have HB5 := Aside0.mk hb; have HX5 := Aside0.mk (blk_grown HX4.out hg (Kd.R_ne HO4.out HX4.out (by decide))); have y6 := (blk_cell HX5.out 0).trans rfl; have y7 := (blk_cell HX5.out 1).trans rfl; have y8 := (blk_cell HX5.out 2).trans rfl; clear ho hb hg hat))
    | ((with_reducible refine gate_builtin (b := .append) (xs := #[.tmp 92, .tmp 94]) rfl ?_); go_must (at_builtin; refine Kd.R_append k46 (w0 := w) w.heap.size rfl (.tmp 92) (.tmp 94) 25 46 (.agg #[.int .i64 0, .int .i64 0, .int .u64 0, .string ⟨#[]⟩, .int .i64 0]) 48 rfl Tryd.underlying25 infoN rfl (by decide) (by omega) (.slice A2 (xa.length + xb.length) c2) (xa ++ xb) ⟨9, 2, 0, ⟨#[]⟩, 0⟩ [.int .i64 9, .int .i64 2, .int .u64 0, .string ⟨#[]⟩, .int .i64 0] (fun _ => True) (fun _ => False) rfl (by first | rfl | simp [Act.eval]) (k46_mkM _ _ _ ⟨9, 2, 0, ⟨#[]⟩, 0⟩) (fun _ hk => hk.elim) (fun _ _ => trivial) (Kd.R_alloc HO5.out _) (below_alloc HB5.out _) (by have hz := HB5.out.size; first | exact hz | (simp; omega)) (by have := HLA.out; have := HLB.out; (try simp only [List.length_append]); omega) ?_; intro v3 w6 ho hb hg hat;  obtain ⟨l3, hl3⟩ : ∃ l3, l3 = xa ++ xb ++ [(⟨9, 2, 0, ⟨#[]⟩, 0⟩ : Nd)] := ⟨_, rfl⟩; rw [← hl3] at ho; have HL3 := Aside0.mk hl3; obtain ⟨A3, c3, hv3⟩ := Kd.R_slice ho; subst hv3; have HO6 := Aside0.mk ho; have HB6 := Aside0.mk hb; have HX6 := Aside0.mk (blk_grown (blk_alloc HX5.out _) hg (Kd.R_ne HO5.out HX5.out (by decide))); clear ho hb hg hat hl3))
    | fail)
  have HLL : Aside0 (l3.length ≤ 2097153) := ⟨by rw [HL3.out]; have := HLA.out; have := HLB.out; simp; omega⟩
  have HRL : Aside0 (Rng l3) := ⟨by
    intro n hn
    rw [HL3.out] at hn
    rcases List.mem_append.1 hn with hn | hn
    · rcases List.mem_append.1 hn with hn | hn
      · exact HRA.out n hn
      · exact HRB.out n hn
    · rw [List.mem_singleton] at hn; subst hn; exact ⟨Int.le_refl 0, (by decide : (0 : Int) < 18446744073709551616)⟩⟩
  have HVW : Aside0 (valE l3 = (⟨#[]⟩, 91) ∨ valE l3 = (⟨#[]⟩, 2) ∨ valE l3 = (((((⟨#[99, 97, 116, 40]⟩ : ByteArray) ++ sa) ++ (⟨#[44, 32]⟩ : ByteArray)) ++ sb) ++ (⟨#[41]⟩ : ByteArray), 0)) := ⟨by rw [HL3.out]; exact HBU.out.1 3 (by decide)⟩
  refine (value_calls w6 A3 c3 l3 (Kd.R_reads' HO6.out).2.2 (by have := HLL.out; omega) HRL.out (Tab.high (HT.out.step HB6.out) HB6.out.size)).mono ?_
  rintro e w7 ⟨rfl, hb7⟩
  have HB7 := Aside0.mk (below_step HB6.out hb7)
  have HX7 := Aside0.mk (blk_below HX6.out hb7)
  clear y0 y1 y2 y3 y4 y5 y6 y7 y8 hb7 n1 n2 n3 n4
  rcases HVW.out with hv | hv | hv
  · rw [hv]
    go_wp2_with fail
    go_ret
    exact ⟨rfl, HB7.out⟩
  · rw [hv]
    go_wp2_with fail
    go_ret
    exact ⟨rfl, HB7.out⟩
  rw [hv]
  clear hv
  have y0 := (blk_cell HX7.out 0).trans rfl
  have n1 : ¬9223372036854775807 < 1 + sa.size := by have := HSA.out; omega
  have n2 : ¬9223372036854775807 < 4 + sa.size := by have := HSA.out; omega
  have n3 : ¬9223372036854775807 < 4 + sa.size + 1 := by have := HSA.out; omega
  go_wp2_with (first
    | ((with_reducible refine gate_builtin (b := .append) (xs := #[.tmp 114, .tmp 116]) rfl ?_); go_must (at_builtin; refine Kd.R_append_rows k46 (Rr := k46.K w7) (w0 := w) w.heap.size rfl (.tmp 114) (.tmp 116) 25 46 (.agg #[.int .i64 0, .int .i64 0, .int .u64 0, .string ⟨#[]⟩, .int .i64 0]) 48 rfl Tryd.underlying25 infoN rfl (by decide) (by omega) (.slice none 0 0) [] xa A xa.length ca (fun _ => True) (fun _ => False) rfl rfl (Kd.R_nil _ _ _ _ _) (Kd.C_below HCA.out HB7.out) ?aK4 (fun _ hk => hk.elim) (fun _ _ => trivial) HB7.out HB7.out.size (by have := HLA.out; have := HLB.out; simp; omega) ?_; (case aK4 => intro x cs hk; obtain rfl := k46_open hk; exact k46_mkM _ _ _ x); intro v4 w8 ho hb hg hat;  rw [List.nil_append] at ho; obtain ⟨A4, c4, hv4⟩ := Kd.R_slice ho; subst hv4; have HO8 := Aside0.mk ho; have HB8 := Aside0.mk hb; have HX8 := Aside0.mk (blk_grown HX7.out hg (by simp [Value.ownBlock])); clear ho hb hg hat))
    | ((with_reducible refine gate_builtin (b := .append) (xs := #[.tmp 119, .tmp 121]) rfl ?_); go_must (at_builtin; refine R_append_keep k46 flat_n (w0 := w) w.heap.size rfl (.tmp 119) (.tmp 121) 25 46 (.agg #[.int .i64 0, .int .i64 0, .int .u64 0, .string ⟨#[]⟩, .int .i64 0]) 48 rfl Tryd.underlying25 infoN rfl (by decide) (by omega) (.slice A4 xa.length c4) xa ⟨5, 0, 0, ⟨#[]⟩, 0⟩ [.int .i64 5, .int .i64 0, .int .u64 0, .string ⟨#[]⟩, .int .i64 0] (fun _ => True) (fun _ => False) rfl (by first | rfl | simp [Act.eval]) (k46_mkM _ _ _ ⟨5, 0, 0, ⟨#[]⟩, 0⟩) (fun _ hk => hk.elim) (fun _ _ => trivial) (HO8.out) (HB8.out) (by have hz := HB8.out.size; first | exact hz | (simp; omega)) (by have := HLA.out; have := HLB.out; (try simp only [List.length_append]); omega) ?_; intro v5 w9 ho hb hg hat;  obtain ⟨l5, hl5⟩ : ∃ l5, l5 = xa ++ [(⟨5, 0, 0, ⟨#[]⟩, 0⟩ : Nd)] := ⟨_, rfl⟩; rw [← hl5] at ho; have HL5 := Aside0.mk hl5; obtain ⟨A5, c5, hv5⟩ := Kd.R_slice ho; subst hv5; have HO9 := Aside0.mk ho; have HB9 := Aside0.mk hb; have HX9 := Aside0.mk (blk_grown HX8.out hg (Kd.R_ne HO8.out HX8.out (by decide))); have HR9 := Aside0.mk hat; clear ho hb hg hat hl5))
    | fail)
  have HLN : Aside0 (l5.length ≤ 1048577) := ⟨by rw [HL5.out]; have := HLA.out; simp; omega⟩
  have HRN : Aside0 (Rng l5) := ⟨by
    intro n hn
    rw [HL5.out] at hn
    rcases List.mem_append.1 hn with hn | hn
    · exact HRA.out n hn
    · rw [List.mem_singleton] at hn; subst hn; exact ⟨Int.le_refl 0, (by decide : (0 : Int) < 18446744073709551616)⟩⟩
  have HVN : Aside0 (valE l5 = (⟨#[]⟩, 91) ∨ valE l5 = (⟨#[]⟩, 2) ∨ valE l5 = ((⟨#[45]⟩ : ByteArray) ++ sa, 0)) := ⟨by rw [HL5.out]; exact HBU.out.2.1⟩
  have HVL : Aside0 (valE (xa ++ [(⟨11, 0, 0, ⟨#[]⟩, 0⟩ : Nd)]) = (⟨#[]⟩, 91) ∨ valE (xa ++ [(⟨11, 0, 0, ⟨#[]⟩, 0⟩ : Nd)]) = (⟨#[]⟩, 2) ∨ valE (xa ++ [(⟨11, 0, 0, ⟨#[]⟩, 0⟩ : Nd)]) = (((⟨#[108, 101, 110, 40]⟩ : ByteArray) ++ sa) ++ (⟨#[41]⟩ : ByteArray), 0)) := ⟨HBU.out.2.2⟩
  refine (value_calls w9 A5 c5 l5 (Kd.R_reads' HO9.out).2.2 (by have := HLN.out; omega) HRN.out (Tab.high (HT.out.step HB9.out) HB9.out.size)).mono ?_
  rintro e w10 ⟨rfl, hb10⟩
  have HB10 := Aside0.mk (below_step HB9.out hb10)
  have HX10 := Aside0.mk (blk_below HX9.out hb10)
  have HOA := Aside0.mk (Kd.R_below HR9.out hb10)
  clear y0 hb10
  have y0 := (blk_cell HX10.out 0).trans rfl
  obtain ⟨i0, hi0, _, hsz0, _⟩ := info_parts infoN
  have hcuto := cut_to (P := Tryd.prog) 25 46 .i64 Tryd.underlying25 hi0 A4 xa.length c4 (xa.length : Int) (by omega) (by omega) (Kd.R_reads' HOA.out).2.1
  rcases HVN.out with hv | hv | hv
  all_goals rw [hv]; clear hv
  all_goals go_wp2_with (first
    | ((with_reducible refine gate_builtin (b := .append) (xs := #[.tmp 152, .tmp 154]) rfl ?_); go_must (at_builtin; refine Kd.R_append k46 (w0 := w) w.heap.size rfl (.tmp 152) (.tmp 154) 25 46 (.agg #[.int .i64 0, .int .i64 0, .int .u64 0, .string ⟨#[]⟩, .int .i64 0]) 48 rfl Tryd.underlying25 infoN rfl (by decide) (by omega) (.slice A4 xa.length c4) xa ⟨11, 0, 0, ⟨#[]⟩, 0⟩ [.int .i64 11, .int .i64 0, .int .u64 0, .string ⟨#[]⟩, .int .i64 0] (fun _ => True) (fun _ => False) rfl (by first | rfl | simp [Act.eval]) (k46_mkM _ _ _ ⟨11, 0, 0, ⟨#[]⟩, 0⟩) (fun _ hk => hk.elim) (fun _ _ => trivial) (HOA.out) (HB10.out) (by have hz := HB10.out.size; first | exact hz | (simp; omega)) (by have := HLA.out; have := HLB.out; (try simp only [List.length_append]); omega) ?_; intro v6 w11 ho hb hg hat;  obtain ⟨l6, hl6⟩ : ∃ l6, l6 = xa ++ [(⟨11, 0, 0, ⟨#[]⟩, 0⟩ : Nd)] := ⟨_, rfl⟩; rw [← hl6] at ho; have HL6 := Aside0.mk hl6; obtain ⟨A6, c6, hv6⟩ := Kd.R_slice ho; subst hv6; have HO11 := Aside0.mk ho; have HB11 := Aside0.mk hb; clear ho hb hg hat hl6))
    | fail)
  all_goals
    have HLM : Aside0 (l6.length ≤ 1048577) := ⟨by rw [HL6.out]; have := HLA.out; simp; omega⟩
    have HRM : Aside0 (Rng l6) := ⟨by
      intro n hn
      rw [HL6.out] at hn
      rcases List.mem_append.1 hn with hn | hn
      · exact HRA.out n hn
      · rw [List.mem_singleton] at hn; subst hn; exact ⟨Int.le_refl 0, (by decide : (0 : Int) < 18446744073709551616)⟩⟩
    rw [← HL6.out] at HVL
    refine (value_calls w11 A6 c6 l6 (Kd.R_reads' HO11.out).2.2 (by have := HLM.out; omega) HRM.out (Tab.high (HT.out.step HB11.out) HB11.out.size)).mono ?_
    rintro e w12 ⟨rfl, hb12⟩
    have HB12 := Aside0.mk (below_step HB11.out hb12)
    clear hb12
    rcases HVL.out with hv | hv | hv
    all_goals rw [hv]; clear hv
    all_goals go_wp2_with fail
    all_goals go_ret
    all_goals exact ⟨rfl, HB12.out⟩
end Go.Proofs.YtaijoghpfobdbaaDoor.W
end
section
set_option linter.unusedVariables false
set_option linter.unusedSimpArgs false
namespace Go.Proofs.YtaijoghpfobdbaaDoor.W
open Go.RowKit Go.Proofs.YtaijoghpfobdbaaDoor.X Go.Proofs.YtaijoghpfobdbaaDoorW.PrintWords Go.Proofs.YtaijoghpfobdbaaDoorW.PrintLast Go.Proofs.YtaijoghpfobdbaaDoorW.PrintMore
open Go.Proofs.YtaijoghpfobdbaaDoor.P (Tr Nd tx)
set_option maxHeartbeats 8000000 in
set_option maxRecDepth 100000 in
theorem builds_4 (w : World) (A B : Option Addr) (ca cb : Nat) (xa xb : List Nd) (mk : Int) (hmk : mk % 18446744073709551616 % 5 = 4) (hA : Kd.C k46 w A xa.length xa) (hB : Kd.C k46 w B xb.length xb) (la : xa.length ≤ 1048576) (lb : xb.length ≤ 1048576) (ra : Rng xa) (rb : Rng xb) (hT : U.Tab w.heap.size w) :
    Calls Tryd.prog 7 #[.agg #[.slice A xa.length ca, .slice B xb.length cb, .int .i64 mk]] w fun e w' => e = .returned (.bool true) ∧ Below w.heap.size w w' := by
  have HT := Aside0.mk hT
  have HCA := Aside0.mk hA
  have HCB := Aside0.mk hB
  have HLA := Aside0.mk la
  have HLB := Aside0.mk lb
  have HRA := Aside0.mk ra
  have HRB := Aside0.mk rb
  obtain ⟨q, hq⟩ : ∃ q : Nat, IntKind.u64.wrap mk = (q : Int) := ⟨(mk % 18446744073709551616).toNat, by rw [IntKind.wrap_u64]; omega⟩
  have hq5 : (q : Int) % 5 = 4 := by rw [IntKind.wrap_u64] at hq; omega
  obtain ⟨w0, hw0⟩ : ∃ w0, w0 = w.alloc (.cells #[.slice A xa.length ca, .slice B xb.length cb, .int .i64 mk] 42) := ⟨_, rfl⟩
  have hB0 : Below w.heap.size w w0 := by rw [hw0]; exact below_alloc (Below.refl _ _) _
  have HX0 := Aside0.mk (show w0.heap[w.heap.size]? = some (.cells #[.slice A xa.length ca, .slice B xb.length cb, .int .i64 mk] 42 (0, 0)) from by rw [hw0]; exact blk_new _ _)
  have HB0 := Aside0.mk hB0
  have HW0 := Aside0.mk hw0
  clear hT hA hB la lb ra rb hB0 hw0 hmk
  go_enter Tryd.func7, Tryd.ntmps7
  go_wp2_with fail
  rw [← HW0.out]
  refine (awake_calls w0 (Tab.high (HT.out.step HB0.out) HB0.out.size)).mono ?_
  rintro e w1 ⟨rfl, hb1⟩
  have HB1 := Aside0.mk (below_step HB0.out hb1)
  have HX1 := Aside0.mk (blk_below HX0.out hb1)
  have y0 := (blk_cell HX1.out 0).trans rfl
  have y1 := (blk_cell HX1.out 1).trans rfl
  clear hb1
  obtain ⟨⟨sa, ea⟩, hva⟩ : ∃ p, p = valE xa := ⟨_, rfl⟩
  obtain ⟨⟨sb, eb⟩, hvb⟩ : ∃ p, p = valE xb := ⟨_, rfl⟩
  have HVA := Aside0.mk hva
  have HVB := Aside0.mk hvb
  clear hva hvb
  go_wp2_with fail
  refine (value_calls w1 A ca xa (Kd.C_below HCA.out HB1.out) (by have := HLA.out; omega) HRA.out (Tab.high (HT.out.step HB1.out) HB1.out.size)).mono ?_
  rintro e w2 ⟨rfl, hb2⟩
  rw [← HVA.out]
  have HB2 := Aside0.mk (below_step HB1.out hb2)
  have HX2 := Aside0.mk (blk_below HX1.out hb2)
  clear y0 y1 hb2
  have y0 := (blk_cell HX2.out 0).trans rfl
  have y1 := (blk_cell HX2.out 1).trans rfl
  go_wp2_with fail
  refine (value_calls w2 B cb xb (Kd.C_below HCB.out HB2.out) (by have := HLB.out; omega) HRB.out (Tab.high (HT.out.step HB2.out) HB2.out.size)).mono ?_
  rintro e w3 ⟨rfl, hb3⟩
  rw [← HVB.out]
  have HB3 := Aside0.mk (below_step HB2.out hb3)
  have HX3 := Aside0.mk (blk_below HX2.out hb3)
  clear y0 y1 hb3
  have y0 := (blk_cell HX3.out 0).trans rfl
  have y1 := (blk_cell HX3.out 1).trans rfl
  have y2 := (blk_cell HX3.out 2).trans rfl
  by_cases cz : ea = 0
  case neg =>
    have c1 : (ea != 0) = true := bne_iff_ne.2 cz
    clear cz
    go_wp2_with fail
    go_ret
    exact ⟨rfl, HB3.out⟩
  by_cases cy : eb = 0
  case neg =>
    subst cz
    have c1 : (eb != 0) = true := bne_iff_ne.2 cy
    clear cy
    go_wp2_with fail
    go_ret
    exact ⟨rfl, HB3.out⟩
  subst cz cy
  have HBU := Aside0.mk (builds (A := xa) (B := xb) (by rw [← HVA.out]) (by rw [← HVB.out]))
  rw [← HVA.out, ← HVB.out] at HBU
  have HSA : Aside0 (sa.size ≤ 1048576) := ⟨by have h := val_size xa (by rw [← HVA.out]); rw [← HVA.out] at h; exact h⟩
  have HSB : Aside0 (sb.size ≤ 1048576) := ⟨by have h := val_size xb (by rw [← HVB.out]); rw [← HVB.out] at h; exact h⟩
  have n1 : ¬9223372036854775807 < 4 + sa.size := by have := HSA.out; omega
  have n2 : ¬9223372036854775807 < 4 + sa.size + 2 := by have := HSA.out; omega
  have n3 : ¬9223372036854775807 < 4 + sa.size + 2 + sb.size := by have := HSA.out; have := HSB.out; omega
  have n4 : ¬9223372036854775807 < 4 + sa.size + 2 + sb.size + 1 := by have := HSA.out; have := HSB.out; omega
  go_wp2_with (first
    | ((with_reducible refine gate_builtin (b := .append) (xs := #[.tmp 33, .tmp 35]) rfl ?_); go_must (at_builtin; refine Kd.R_append_rows k46 (Rr := k46.K w3) (w0 := w) w.heap.size rfl (.tmp 33) (.tmp 35) 25 46 (.agg #[.int .i64 0, .int .i64 0, .int .u64 0, .string ⟨#[]⟩, .int .i64 0]) 48 rfl Tryd.underlying25 infoN rfl (by decide) (by omega) (.slice none 0 0) [] xa A xa.length ca (fun _ => True) (fun _ => False) rfl rfl (Kd.R_nil _ _ _ _ _) (Kd.C_below HCA.out HB3.out) ?aK1 (fun _ hk => hk.elim) (fun _ _ => trivial) HB3.out HB3.out.size (by have := HLA.out; have := HLB.out; simp; omega) ?_; (case aK1 => intro x cs hk; obtain rfl := k46_open hk; exact k46_mkM _ _ _ x); intro v1 w4 ho hb hg hat;  rw [List.nil_append] at ho; obtain ⟨A1, c1, hv1⟩ := Kd.R_slice ho; subst hv1; have HO4 := Aside0.mk ho; have HB4 := Aside0.mk hb; have HX4 := Aside0.mk (blk_grown HX3.out hg (by simp [Value.ownBlock])); have y3 := (blk_cell HX4.out 0).trans rfl; have y4 := (blk_cell HX4.out 1).trans rfl; have y5 := (blk_cell HX4.out 2).trans rfl; clear ho hb hg hat))
    | ((with_reducible refine gate_builtin (b := .append) (xs := #[.tmp 37, .tmp 39]) rfl ?_); go_must (at_builtin; refine Kd.R_append_rows k46 (Rr := k46.K w4) (w0 := w) w.heap.size rfl (.tmp 37) (.tmp 39) 25 46 (.agg #[.int .i64 0, .int .i64 0, .int .u64 0, .string ⟨#[]⟩, .int .i64 0]) 48 rfl Tryd.underlying25 infoN rfl (by decide) (by omega) (.slice A1 xa.length c1) xa xb B xb.length cb (fun _ => True) (fun _ => False) rfl rfl HO4.out (Kd.C_below HCB.out HB4.out) ?aK2 (fun _ hk => hk.elim) (fun _ _ => trivial) HB4.out HB4.out.size (by have := HLA.out; have := HLB.out; simp; omega) ?_; (case aK2 => intro x cs hk; obtain rfl := k46_open hk; exact k46_mkM _ _ _ x); intro v2 w5 ho hb hg hat;  obtain ⟨A2, c2, hv2⟩ := Kd.R_slice ho; rw [List.length_append] at hv2; subst hv2; have HO5 := Aside0.mk ho; have HB5 := Aside0.mk hb; have HX5 := Aside0.mk (blk_grown HX4.out hg (Kd.R_ne HO4.out HX4.out (by decide))); have y6 := (blk_cell HX5.out 0).trans rfl; have y7 := (blk_cell HX5.out 1).trans rfl; have y8 := (blk_cell HX5.out 2).trans rfl; clear ho hb hg hat))
    | ((with_reducible refine gate_builtin (b := .append) (xs := #[.tmp 92, .tmp 94]) rfl ?_); go_must (at_builtin; refine Kd.R_append k46 (w0 := w) w.heap.size rfl (.tmp 92) (.tmp 94) 25 46 (.agg #[.int .i64 0, .int .i64 0, .int .u64 0, .string ⟨#[]⟩, .int .i64 0]) 48 rfl Tryd.underlying25 infoN rfl (by decide) (by omega) (.slice A2 (xa.length + xb.length) c2) (xa ++ xb) ⟨10, 0, 0, ⟨#[]⟩, 0⟩ [.int .i64 10, .int .i64 0, .int .u64 0, .string ⟨#[]⟩, .int .i64 0] (fun _ => True) (fun _ => False) rfl (by first | rfl | simp [Act.eval]) (k46_mkM _ _ _ ⟨10, 0, 0, ⟨#[]⟩, 0⟩) (fun _ hk => hk.elim) (fun _ _ => trivial) (Kd.R_alloc HO5.out _) (below_alloc HB5.out _) (by have hz := HB5.out.size; first | exact hz | (simp; omega)) (by have := HLA.out; have := HLB.out; (try simp only [List.length_append]); omega) ?_; intro v3 w6 ho hb hg hat;  obtain ⟨l3, hl3⟩ : ∃ l3, l3 = xa ++ xb ++ [(⟨10, 0, 0, ⟨#[]⟩, 0⟩ : Nd)] := ⟨_, rfl⟩; rw [← hl3] at ho; have HL3 := Aside0.mk hl3; obtain ⟨A3, c3, hv3⟩ := Kd.R_slice ho; subst hv3; have HO6 := Aside0.mk ho; have HB6 := Aside0.mk hb; have HX6 := Aside0.mk (blk_grown (blk_alloc HX5.out _) hg (Kd.R_ne HO5.out HX5.out (by decide))); clear ho hb hg hat hl3))
    | fail)
  have HLL : Aside0 (l3.length ≤ 2097153) := ⟨by rw [HL3.out]; have := HLA.out; have := HLB.out; simp; omega⟩
  have HRL : Aside0 (Rng l3) := ⟨by
    intro n hn
    rw [HL3.out] at hn
    rcases List.mem_append.1 hn with hn | hn
    · rcases List.mem_append.1 hn with hn | hn
      · exact HRA.out n hn
      · exact HRB.out n hn
    · rw [List.mem_singleton] at hn; subst hn; exact ⟨Int.le_refl 0, (by decide : (0 : Int) < 18446744073709551616)⟩⟩
  have HVW : Aside0 (valE l3 = (⟨#[]⟩, 91) ∨ valE l3 = (⟨#[]⟩, 2) ∨ valE l3 = (((((⟨#[114, 101, 112, 40]⟩ : ByteArray) ++ sa) ++ (⟨#[44, 32]⟩ : ByteArray)) ++ sb) ++ (⟨#[41]⟩ : ByteArray), 0)) := ⟨by rw [HL3.out]; exact HBU.out.1 4 (by decide)⟩
  refine (value_calls w6 A3 c3 l3 (Kd.R_reads' HO6.out).2.2 (by have := HLL.out; omega) HRL.out (Tab.high (HT.out.step HB6.out) HB6.out.size)).mono ?_
  rintro e w7 ⟨rfl, hb7⟩
  have HB7 := Aside0.mk (below_step HB6.out hb7)
  have HX7 := Aside0.mk (blk_below HX6.out hb7)
  clear y0 y1 y2 y3 y4 y5 y6 y7 y8 hb7 n1 n2 n3 n4
  rcases HVW.out with hv | hv | hv
  · rw [hv]
    go_wp2_with fail
    go_ret
    exact ⟨rfl, HB7.out⟩
  · rw [hv]
    go_wp2_with fail
    go_ret
    exact ⟨rfl, HB7.out⟩
  rw [hv]
  clear hv
  have y0 := (blk_cell HX7.out 0).trans rfl
  have n1 : ¬9223372036854775807 < 1 + sa.size := by have := HSA.out; omega
  have n2 : ¬9223372036854775807 < 4 + sa.size := by have := HSA.out; omega
  have n3 : ¬9223372036854775807 < 4 + sa.size + 1 := by have := HSA.out; omega
  go_wp2_with (first
    | ((with_reducible refine gate_builtin (b := .append) (xs := #[.tmp 114, .tmp 116]) rfl ?_); go_must (at_builtin; refine Kd.R_append_rows k46 (Rr := k46.K w7) (w0 := w) w.heap.size rfl (.tmp 114) (.tmp 116) 25 46 (.agg #[.int .i64 0, .int .i64 0, .int .u64 0, .string ⟨#[]⟩, .int .i64 0]) 48 rfl Tryd.underlying25 infoN rfl (by decide) (by omega) (.slice none 0 0) [] xa A xa.length ca (fun _ => True) (fun _ => False) rfl rfl (Kd.R_nil _ _ _ _ _) (Kd.C_below HCA.out HB7.out) ?aK4 (fun _ hk => hk.elim) (fun _ _ => trivial) HB7.out HB7.out.size (by have := HLA.out; have := HLB.out; simp; omega) ?_; (case aK4 => intro x cs hk; obtain rfl := k46_open hk; exact k46_mkM _ _ _ x); intro v4 w8 ho hb hg hat;  rw [List.nil_append] at ho; obtain ⟨A4, c4, hv4⟩ := Kd.R_slice ho; subst hv4; have HO8 := Aside0.mk ho; have HB8 := Aside0.mk hb; have HX8 := Aside0.mk (blk_grown HX7.out hg (by simp [Value.ownBlock])); clear ho hb hg hat))
    | ((with_reducible refine gate_builtin (b := .append) (xs := #[.tmp 119, .tmp 121]) rfl ?_); go_must (at_builtin; refine R_append_keep k46 flat_n (w0 := w) w.heap.size rfl (.tmp 119) (.tmp 121) 25 46 (.agg #[.int .i64 0, .int .i64 0, .int .u64 0, .string ⟨#[]⟩, .int .i64 0]) 48 rfl Tryd.underlying25 infoN rfl (by decide) (by omega) (.slice A4 xa.length c4) xa ⟨5, 0, 0, ⟨#[]⟩, 0⟩ [.int .i64 5, .int .i64 0, .int .u64 0, .string ⟨#[]⟩, .int .i64 0] (fun _ => True) (fun _ => False) rfl (by first | rfl | simp [Act.eval]) (k46_mkM _ _ _ ⟨5, 0, 0, ⟨#[]⟩, 0⟩) (fun _ hk => hk.elim) (fun _ _ => trivial) (HO8.out) (HB8.out) (by have hz := HB8.out.size; first | exact hz | (simp; omega)) (by have := HLA.out; have := HLB.out; (try simp only [List.length_append]); omega) ?_; intro v5 w9 ho hb hg hat;  obtain ⟨l5, hl5⟩ : ∃ l5, l5 = xa ++ [(⟨5, 0, 0, ⟨#[]⟩, 0⟩ : Nd)] := ⟨_, rfl⟩; rw [← hl5] at ho; have HL5 := Aside0.mk hl5; obtain ⟨A5, c5, hv5⟩ := Kd.R_slice ho; subst hv5; have HO9 := Aside0.mk ho; have HB9 := Aside0.mk hb; have HX9 := Aside0.mk (blk_grown HX8.out hg (Kd.R_ne HO8.out HX8.out (by decide))); have HR9 := Aside0.mk hat; clear ho hb hg hat hl5))
    | fail)
  have HLN : Aside0 (l5.length ≤ 1048577) := ⟨by rw [HL5.out]; have := HLA.out; simp; omega⟩
  have HRN : Aside0 (Rng l5) := ⟨by
    intro n hn
    rw [HL5.out] at hn
    rcases List.mem_append.1 hn with hn | hn
    · exact HRA.out n hn
    · rw [List.mem_singleton] at hn; subst hn; exact ⟨Int.le_refl 0, (by decide : (0 : Int) < 18446744073709551616)⟩⟩
  have HVN : Aside0 (valE l5 = (⟨#[]⟩, 91) ∨ valE l5 = (⟨#[]⟩, 2) ∨ valE l5 = ((⟨#[45]⟩ : ByteArray) ++ sa, 0)) := ⟨by rw [HL5.out]; exact HBU.out.2.1⟩
  have HVL : Aside0 (valE (xa ++ [(⟨11, 0, 0, ⟨#[]⟩, 0⟩ : Nd)]) = (⟨#[]⟩, 91) ∨ valE (xa ++ [(⟨11, 0, 0, ⟨#[]⟩, 0⟩ : Nd)]) = (⟨#[]⟩, 2) ∨ valE (xa ++ [(⟨11, 0, 0, ⟨#[]⟩, 0⟩ : Nd)]) = (((⟨#[108, 101, 110, 40]⟩ : ByteArray) ++ sa) ++ (⟨#[41]⟩ : ByteArray), 0)) := ⟨HBU.out.2.2⟩
  refine (value_calls w9 A5 c5 l5 (Kd.R_reads' HO9.out).2.2 (by have := HLN.out; omega) HRN.out (Tab.high (HT.out.step HB9.out) HB9.out.size)).mono ?_
  rintro e w10 ⟨rfl, hb10⟩
  have HB10 := Aside0.mk (below_step HB9.out hb10)
  have HX10 := Aside0.mk (blk_below HX9.out hb10)
  have HOA := Aside0.mk (Kd.R_below HR9.out hb10)
  clear y0 hb10
  have y0 := (blk_cell HX10.out 0).trans rfl
  obtain ⟨i0, hi0, _, hsz0, _⟩ := info_parts infoN
  have hcuto := cut_to (P := Tryd.prog) 25 46 .i64 Tryd.underlying25 hi0 A4 xa.length c4 (xa.length : Int) (by omega) (by omega) (Kd.R_reads' HOA.out).2.1
  rcases HVN.out with hv | hv | hv
  all_goals rw [hv]; clear hv
  all_goals go_wp2_with (first
    | ((with_reducible refine gate_builtin (b := .append) (xs := #[.tmp 152, .tmp 154]) rfl ?_); go_must (at_builtin; refine Kd.R_append k46 (w0 := w) w.heap.size rfl (.tmp 152) (.tmp 154) 25 46 (.agg #[.int .i64 0, .int .i64 0, .int .u64 0, .string ⟨#[]⟩, .int .i64 0]) 48 rfl Tryd.underlying25 infoN rfl (by decide) (by omega) (.slice A4 xa.length c4) xa ⟨11, 0, 0, ⟨#[]⟩, 0⟩ [.int .i64 11, .int .i64 0, .int .u64 0, .string ⟨#[]⟩, .int .i64 0] (fun _ => True) (fun _ => False) rfl (by first | rfl | simp [Act.eval]) (k46_mkM _ _ _ ⟨11, 0, 0, ⟨#[]⟩, 0⟩) (fun _ hk => hk.elim) (fun _ _ => trivial) (HOA.out) (HB10.out) (by have hz := HB10.out.size; first | exact hz | (simp; omega)) (by have := HLA.out; have := HLB.out; (try simp only [List.length_append]); omega) ?_; intro v6 w11 ho hb hg hat;  obtain ⟨l6, hl6⟩ : ∃ l6, l6 = xa ++ [(⟨11, 0, 0, ⟨#[]⟩, 0⟩ : Nd)] := ⟨_, rfl⟩; rw [← hl6] at ho; have HL6 := Aside0.mk hl6; obtain ⟨A6, c6, hv6⟩ := Kd.R_slice ho; subst hv6; have HO11 := Aside0.mk ho; have HB11 := Aside0.mk hb; clear ho hb hg hat hl6))
    | fail)
  all_goals
    have HLM : Aside0 (l6.length ≤ 1048577) := ⟨by rw [HL6.out]; have := HLA.out; simp; omega⟩
    have HRM : Aside0 (Rng l6) := ⟨by
      intro n hn
      rw [HL6.out] at hn
      rcases List.mem_append.1 hn with hn | hn
      · exact HRA.out n hn
      · rw [List.mem_singleton] at hn; subst hn; exact ⟨Int.le_refl 0, (by decide : (0 : Int) < 18446744073709551616)⟩⟩
    rw [← HL6.out] at HVL
    refine (value_calls w11 A6 c6 l6 (Kd.R_reads' HO11.out).2.2 (by have := HLM.out; omega) HRM.out (Tab.high (HT.out.step HB11.out) HB11.out.size)).mono ?_
    rintro e w12 ⟨rfl, hb12⟩
    have HB12 := Aside0.mk (below_step HB11.out hb12)
    clear hb12
    rcases HVL.out with hv | hv | hv
    all_goals rw [hv]; clear hv
    all_goals go_wp2_with fail
    all_goals go_ret
    all_goals exact ⟨rfl, HB12.out⟩
end Go.Proofs.YtaijoghpfobdbaaDoor.W
end
section
set_option linter.unusedVariables false
set_option linter.unusedSimpArgs false
namespace Go.Proofs.YtaijoghpfobdbaaDoor.W
open Go.RowKit Go.Proofs.YtaijoghpfobdbaaDoor.X Go.Proofs.YtaijoghpfobdbaaDoorW.PrintWords Go.Proofs.YtaijoghpfobdbaaDoorW.PrintLast Go.Proofs.YtaijoghpfobdbaaDoorW.PrintMore
open Go.Proofs.YtaijoghpfobdbaaDoor.P (Tr Nd tx)
theorem builds_calls (w : World) (A B : Option Addr) (ca cb : Nat) (xa xb : List Nd) (mk : Int) (hA : Kd.C k46 w A xa.length xa) (hB : Kd.C k46 w B xb.length xb) (la : xa.length ≤ 1048576) (lb : xb.length ≤ 1048576) (ra : Rng xa) (rb : Rng xb) (hT : U.Tab w.heap.size w) :
    Calls Tryd.prog 7 #[.agg #[.slice A xa.length ca, .slice B xb.length cb, .int .i64 mk]] w fun e w' => e = .returned (.bool true) ∧ Below w.heap.size w w' := by
  have h : mk % 18446744073709551616 % 5 = 0 ∨ mk % 18446744073709551616 % 5 = 1 ∨ mk % 18446744073709551616 % 5 = 2 ∨ mk % 18446744073709551616 % 5 = 3 ∨ mk % 18446744073709551616 % 5 = 4 := by omega
  rcases h with h | h | h | h | h
  · exact builds_0 w A B ca cb xa xb mk h hA hB la lb ra rb hT
  · exact builds_1 w A B ca cb xa xb mk h hA hB la lb ra rb hT
  · exact builds_2 w A B ca cb xa xb mk h hA hB la lb ra rb hT
  · exact builds_3 w A B ca cb xa xb mk h hA hB la lb ra rb hT
  · exact builds_4 w A B ca cb xa xb mk h hA hB la lb ra rb hT
end Go.Proofs.YtaijoghpfobdbaaDoor.W
end
