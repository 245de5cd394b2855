/- RollExact: its walk. Condition: the script reads as one. -/
import Derived.Test.YthadfkpibnhcgaaZ7
set_option linter.unusedVariables false
set_option linter.unusedSimpArgs false
namespace Go.Proofs.Ythadfkpibnhcgaa.B
open Go.RowKit Go.Proofs.Ythadfkpibnhcgaa.X Go.Proofs.YthadfkpibnhcgaaW.PrintWords Go.Proofs.YthadfkpibnhcgaaW.PrintLast Go.Proofs.YthadfkpibnhcgaaW.PrintMore

theorem at27s {w : World} {ad : Addr} {n : Nat} {xs : List S27} (h : Kd.C k27 w (some ad) n xs) (i : Nat) (h1 : i < n) {x : S27} (hx : x = rd27 xs (i : Int)) : w.cell? (ad.add (i * 5)) = some (.int .i64 x.f0) ∧ w.cell? ⟨(ad.add (i * 5)).block, (ad.add (i * 5)).off + 1, none⟩ = some (.int .i64 x.f1) ∧ w.cell? ⟨(ad.add (i * 5)).block, (ad.add (i * 5)).off + 2, none⟩ = some (.int .i64 x.f2) ∧ w.cell? ⟨(ad.add (i * 5)).block, (ad.add (i * 5)).off + 3, none⟩ = some (.string x.f3) ∧ w.cell? ⟨(ad.add (i * 5)).block, (ad.add (i * 5)).off + 4, none⟩ = some (.int .i64 x.f4) := by
  subst hx
  obtain ⟨ad', e, h⟩ := at27 h i h1
  injection e with e
  subst e
  exact h
def placeN (f : Int) : Int := wrap64 (Int.tmod (IntKind.u64.wrap f) 3)
theorem placeN_lt (f : Int) : ∃ k : Nat, k < 3 ∧ placeN f = (k : Int) := by
  have h0 : 0 ≤ IntKind.u64.wrap f := by show 0 ≤ f % _; exact Int.emod_nonneg _ (by decide)
  have h1 : 0 ≤ Int.tmod (IntKind.u64.wrap f) 3 := Int.tmod_nonneg _ h0
  have h2 : Int.tmod (IntKind.u64.wrap f) 3 < 3 := Int.tmod_lt_of_pos _ (by decide)
  refine ⟨(Int.tmod (IntKind.u64.wrap f) 3).toNat, by omega, ?_⟩
  unfold placeN
  rw [w64s (by omega) (by omega)]
  omega
theorem place_calls (f : Int) (w : World) : Calls Try.prog 16 #[.int .i64 f] w fun e w' => e = .returned (.int .i64 (placeN f)) ∧ w = w' := by
  go_enter Try.func16, Try.ntmps16
  go_wp2
  go_ret
  exact ⟨rfl, rfl⟩
theorem FP_nil {g gr k : Nat} (h : FP g gr (.slice none 0 0) (.slice none 0 0) (.slice none 0 0) k) : k = g ∨ k = gr := by simpa [FP, Value.ownBlock] using h
set_option maxHeartbeats 4000000 in
set_option maxRecDepth 100000 in
theorem exact_calls (w : World) (A : Option Addr) (c : Nat) (l : List S27) (hr : Kd.C k27 w A l.length l) (hn : l.length ≤ 4611686018427387903) :
    Calls Try.prog 4 #[.slice A l.length c] w fun e w' => e = .returned (.bool true) ∧ Below w.heap.size w w' := by
  have hu37 := Try.underlying37
  have hu40 := Try.underlying40
  have HR := Aside0.mk hr
  have HN := Aside0.mk hn
  have HAW := Aside0.mk (awake_calls w)
  have HNEW : Aside0 (∀ w1, Below w.heap.size w w1 → Calls Try.prog 9 #[] w1 fun e w' => ∃ g, e = .returned (.pointer (some ⟨g, 0, none⟩)) ∧ IsB w' w.heap.size g (.slice none 0 0) [] none_ ∧ Below w1.heap.size w1 w' ∧ w1.heap.size ≤ g) := ⟨fun w1 h => new_calls w1 w.heap.size h.size⟩
  have HRNEW : Aside0 (∀ w1, Below w.heap.size w w1 → Calls Try.prog 15 #[] w1 fun e w' => ∃ g, e = .returned (.pointer (some ⟨g, 0, none⟩)) ∧ IsR w' w.heap.size g (.slice none 0 0) (.slice none 0 0) [] [] ∧ Below w1.heap.size w1 w' ∧ w1.heap.size ≤ g) := ⟨fun w1 h => rnew_calls w1 w.heap.size h.size⟩
  clear hr hn
  go_enter Try.func4, Try.ntmps4
  go_wp2_with (first
    | (go_at_call 8; (with_reducible refine HAW.out.mono ?_); rintro e w1 ⟨rfl, hb⟩; have HB1 := Aside0.mk hb; clear hb)
    | (go_at_call 15; (with_reducible refine (HRNEW.out _ HB5.out).mono ?_); rintro e w6 ⟨r1, rfl, hi, hb, hge⟩; have HR1 := Aside0.mk hi; have HQ6 := Aside0.mk hb; have HG3 := Aside0.mk hge; have HB6 := Aside0.mk (below_step HB5.out hb); have HTA := Aside0.mk (blk_below (blk_below HTA0.out hb) (below_alloc (Below.refl _ _) (.cells #[.pointer (some ⟨r0, 0, none⟩), .pointer (some ⟨r1, 0, none⟩), .pointer none] 40))); have hta0 : (w6.alloc (.cells #[.pointer (some ⟨r0, 0, none⟩), .pointer (some ⟨r1, 0, none⟩), .pointer none] 40)).cell? ⟨w3.heap.size, 0, none⟩ = some (.pointer (some ⟨g0, 0, none⟩)) := (blk_cell HTA.out 0).trans rfl; have hta1 : (w6.alloc (.cells #[.pointer (some ⟨r0, 0, none⟩), .pointer (some ⟨r1, 0, none⟩), .pointer none] 40)).cell? ⟨w3.heap.size, 1, none⟩ = some (.pointer (some ⟨g1, 0, none⟩)) := (blk_cell HTA.out 1).trans rfl; clear hi hb hge)
    | (go_at_call 15; (with_reducible refine (HRNEW.out _ HB4.out).mono ?_); rintro e w5 ⟨r0, rfl, hi, hb, hge⟩; have HR0 := Aside0.mk hi; have HQ5 := Aside0.mk hb; have HG2 := Aside0.mk hge; have HB5 := Aside0.mk (below_step HB4.out hb); have HTA0 := Aside0.mk (blk_below (blk_new w3 (.cells #[.pointer (some ⟨g0, 0, none⟩), .pointer (some ⟨g1, 0, none⟩), .pointer none] 37)) hb); clear hi hb hge)
    | (go_at_call 9; (with_reducible refine (HNEW.out _ HB2.out).mono ?_); rintro e w3 ⟨g1, rfl, hi, hb, hge⟩; have HI1 := Aside0.mk hi; have HQ3 := Aside0.mk hb; have HG1 := Aside0.mk hge; have HB3 := Aside0.mk (below_step HB2.out hb); have HB4 := Aside0.mk (below_alloc HB3.out (.cells #[.pointer (some ⟨g0, 0, none⟩), .pointer (some ⟨g1, 0, none⟩), .pointer none] 37)); clear hi hb hge)
    | (go_at_call 9; (with_reducible refine (HNEW.out _ HB1.out).mono ?_); rintro e w2 ⟨g0, rfl, hi, hb, hge⟩; have HI0 := Aside0.mk hi; have HB2 := Aside0.mk (below_step HB1.out hb); clear hi hb hge))
  obtain ⟨W, hW⟩ : ∃ W, W = w6.alloc (.cells #[.pointer (some ⟨r0, 0, none⟩), .pointer (some ⟨r1, 0, none⟩), .pointer none] 40) := ⟨_, rfl⟩
  obtain ⟨ga, hga⟩ : ∃ ga, ga = w3.heap.size := ⟨_, rfl⟩
  obtain ⟨gb, hgb⟩ : ∃ gb, gb = w6.heap.size := ⟨_, rfl⟩
  have HX := Aside0.mk (below_alloc (Below.refl w6.heap.size w6) (.cells #[.pointer (some ⟨r0, 0, none⟩), .pointer (some ⟨r1, 0, none⟩), .pointer none] 40))
  have HT : Aside0 (Two W w.heap.size ga gb g0 r0 g1 r1 ⟨.slice none 0 0, .slice none 0 0, .slice none 0 0, [], none_, []⟩ ⟨.slice none 0 0, .slice none 0 0, .slice none 0 0, [], none_, []⟩) := ⟨by
    have a0 := blk_lt HI0.out.blk
    have a1 := blk_lt HI1.out.blk
    have a2 := blk_lt HR0.out.blk
    have a3 := blk_lt HR1.out.blk
    have b1 := HG1.out
    have b2 := HG2.out
    have b3 := HG3.out
    have e2 : (w3.alloc (.cells #[.pointer (some ⟨g0, 0, none⟩), .pointer (some ⟨g1, 0, none⟩), .pointer none] 37)).heap.size = w3.heap.size + 1 := Array.size_push ..
    have s3 := HQ3.out.size
    have s5 := HQ5.out.size
    have s6 := HQ6.out.size
    rw [hW]
    refine ⟨⟨⟨((((HI0.out.below HQ3.out).below (below_alloc (Below.refl _ _) _)).below HQ5.out).below HQ6.out).below HX.out, (HR0.out.below HQ6.out).below HX.out, fun j hj => by simp [Value.ownBlock] at hj⟩, CC.nil, by simp⟩, ⟨⟨(((HI1.out.below (below_alloc (Below.refl _ _) _)).below HQ5.out).below HQ6.out).below HX.out, HR1.out.below HX.out, fun j hj => by simp [Value.ownBlock] at hj⟩, CC.nil, by simp⟩, fun k h0 h1 => ?_, by rw [hga]; exact HTA.out, by rw [hgb]; exact blk_new _ _, fun k hk => ⟨fun h => ?_, fun h => ?_⟩⟩
    · rcases FP_nil h0 with h0 | h0 <;> rcases FP_nil h1 with h1 | h1 <;> omega
    · rcases FP_nil h with h | h <;> rcases hk with hk | hk <;> omega
    · rcases FP_nil h with h | h <;> rcases hk with hk | hk <;> omega⟩
  have HB := Aside0.mk (below_alloc HB6.out (.cells #[.pointer (some ⟨r0, 0, none⟩), .pointer (some ⟨r1, 0, none⟩), .pointer none] 40))
  rw [← hW] at HB
  rw [← hW, ← hga, ← hgb]
  clear hW hga hgb hta0 hta1 HTA HTA0 HX HI0 HI1 HR0 HR1 HQ3 HQ5 HQ6 HG1 HG2 HG3 HB1 HB2 HB3 HB4 HB5 HB6
  go_loopw [5] (fun ti wr => ∃ (i : Nat) (s0 s1 : Sp), ti = .int .i64 (i : Int) ∧ Aside0 (i ≤ l.length) ∧ Aside0 (Two wr w.heap.size ga gb g0 r0 g1 r1 s0 s1) ∧ Aside0 (Below w.heap.size w wr)) (fun ti _ => l.length - left ti)
  case atStart => exact ⟨0, _, _, rfl, ⟨Nat.zero_le _⟩, HT, HB⟩
  case round =>
    clear HT HB
    obtain ⟨i, s0, s1, rfl, hi, HT, HB⟩ := hrel
    by_cases ci : i < l.length
    · have c1 : decide ((i : Int) < (l.length : Int)) = true := decide_eq_true (by omega)
      have c2 : decide (i < l.length) = true := decide_eq_true ci
      obtain ⟨ad, rfl, hz⟩ := at27 (Kd.C_below HR.out HB.out) i ci
      clear hz
      obtain ⟨x, hx⟩ : ∃ x, x = rd27 l (i : Int) := ⟨_, rfl⟩
      have HXE := Aside0.mk hx
      clear hx
      obtain ⟨p, hp, hpe⟩ := placeN_lt x.f1
      have HP := Aside0.mk hp
      have HPC : Aside0 (∀ w, Calls Try.prog 16 #[.int .i64 x.f1] w fun e w' => e = .returned (.int .i64 (p : Int)) ∧ w = w') := ⟨fun w => by rw [← hpe]; exact place_calls x.f1 w⟩
      clear hpe
      have d1 : decide ((p : Int) < 3) = true := decide_eq_true (by omega)
      have d2 : decide (p < 3) = true := decide_eq_true hp
      have d3 : (0 : Int) ≤ (p : Int) := Int.natCast_nonneg p
      have d4 : (p : Int) < 3 := by omega
      have d5 : (p : Int) ≤ 3 := by omega
      have HBD := Aside0.mk (below_drew1 HB.out)
      have HTD := Aside0.mk (HT.out.below (below_drew1 (Below.refl _ _)))
      obtain ⟨hx0, hx1, hx2, hx3, hx4⟩ := at27s (Kd.C_below HR.out HB.out) i ci HXE.out
      obtain ⟨hd0, hd1, hd2, hd3, hd4⟩ := at27s (Kd.C_below HR.out HBD.out) i ci HXE.out
      have hta := HTD.out.a.cell p hp
      have htb := HTD.out.b.cell p hp
      have HRT := Aside0.mk (HTD.out.right p hp x)
      have CI := Aside0.mk ci
      have W1 : Aside0 (wrap64 ((i : Int) + 1) = ((i + 1 : Nat) : Int)) := ⟨next1 i _ HN.out ci⟩
      have ML := Aside0.mk (less i l.length HN.out ci)
      go_wp2_with (go_at_call 16; go_loud ((with_reducible refine (HPC.out _).mono ?_); rintro e w1 ⟨rfl, rfl⟩))
      go_region_held3 (fun w' => w'.cell? ⟨ga, p, none⟩ = some (pk g0 g1 p) ∧ w'.cell? ⟨gb, p, none⟩ = some (pk r0 r1 p) ∧ w'.cell? (ad.add (i * 5)) = some (.int .i64 x.f0) ∧ w'.cell? ⟨(ad.add (i * 5)).block, (ad.add (i * 5)).off + 1, none⟩ = some (.int .i64 x.f1) ∧ w'.cell? ⟨(ad.add (i * 5)).block, (ad.add (i * 5)).off + 2, none⟩ = some (.int .i64 x.f2) ∧ w'.cell? ⟨(ad.add (i * 5)).block, (ad.add (i * 5)).off + 3, none⟩ = some (.string x.f3) ∧ w'.cell? ⟨(ad.add (i * 5)).block, (ad.add (i * 5)).off + 4, none⟩ = some (.int .i64 x.f4)) (exact ⟨hta, htb, hd0, hd1, hd2, hd3, hd4⟩) (first | (go_at_call 17; (with_reducible refine HRT.out.mono ?_); rintro e w2 ⟨rfl, ⟨a1, b1, ht⟩, hb⟩; have HT2 := Aside0.mk ht; have HB2 := Aside0.mk (HBD.out.trans hb); have hta := HT2.out.a.cell p HP.out; have htb := HT2.out.b.cell p HP.out; obtain ⟨hd0, hd1, hd2, hd3, hd4⟩ := at27s (Kd.C_below HR.out HB2.out) i CI.out HXE.out; clear ht hb))
      all_goals
        go_wp2
        exact ⟨⟨i + 1, _, _, by rw [W1.out], ⟨by have := CI.out; omega⟩, HT2, HB2⟩, ML.out⟩
    · have c1 : decide ((i : Int) < (l.length : Int)) = false := decide_eq_false (by omega)
      have c2 : decide (i < l.length) = false := decide_eq_false ci
      obtain ⟨W1, hW1⟩ : ∃ W1, W1 = wr := ⟨_, rfl⟩
      rw [← hW1] at HT HB
      rw [← hW1]
      clear hW1
      go_wp2
      clear hi
      go_loopw [7] (fun tk wr => ∃ k : Nat, tk = .int .i64 (k : Int) ∧ Aside0 (k ≤ 3) ∧ Aside0 (Below W1.heap.size W1 wr)) (fun tk _ => 3 - left tk)
      case atStart => exact ⟨0, rfl, ⟨by omega⟩, ⟨Below.refl _ _⟩⟩
      case round =>
        obtain ⟨k, rfl, hk, HBK⟩ := hrel
        by_cases ck : k < 3
        · have d1 : decide ((k : Int) < 3) = true := decide_eq_true (by omega)
          have d2 : decide (k < 3) = true := decide_eq_true ck
          have d3 : (0 : Int) ≤ (k : Int) := Int.natCast_nonneg k
          have d4 : (k : Int) < 3 := by omega
          have d5 : (k : Int) ≤ 3 := by omega
          have CK := Aside0.mk ck
          obtain ⟨es, o, hs⟩ := HT.out.slot k ck
          have HS := Aside0.mk hs
          have HTAB : Aside0 (∀ W', Below W1.heap.size W1 W' → W'.cell? ⟨ga, k, none⟩ = some (pk g0 g1 k) ∧ W'.cell? ⟨gb, k, none⟩ = some (pk r0 r1 k)) := ⟨fun W' h => ⟨(HT.out.below h).a.cell k CK.out, (HT.out.below h).b.cell k CK.out⟩⟩
          have hbS := below_drew1 HBK.out
          obtain ⟨hta, htb⟩ := HTAB.out _ hbS
          have V1 : Aside0 (wrap64 ((k : Int) + 1) = ((k + 1 : Nat) : Int)) := ⟨next1 k 3 (by omega) ck⟩
          have MK := Aside0.mk (less k 3 (by omega) ck)
          clear hs
          go_wp2
          go_region_held3 (fun w' => w'.cell? ⟨ga, k, none⟩ = some (pk g0 g1 k) ∧ w'.cell? ⟨gb, k, none⟩ = some (pk r0 r1 k) ∧ Below W1.heap.size W1 w') (exact ⟨hta, htb, hbS⟩) (first
            | (go_at_call 14; (with_reducible refine (HS.out.al _ hbS).mono ?_); rintro e w5 ⟨Aa, ca, rfl, hra, hla, hb⟩; have hbS := below_step hbS hb; have HRA := Aside0.mk hra; have HLA := Aside0.mk hla; (try have HRB := Aside0.mk (Kd.C_below HRB.out hb)); obtain ⟨hta, htb⟩ := HTAB.out _ hbS; clear hra hla hb)
            | (go_at_call 19; (with_reducible refine (HS.out.ral _ hbS).mono ?_); rintro e w5 ⟨Ab, cb, rfl, hrb, hlb, hb⟩; have hbS := below_step hbS hb; have HRB := Aside0.mk hrb; have HLB := Aside0.mk hlb; (try have HRA := Aside0.mk (Kd.C_below HRA.out hb)); obtain ⟨hta, htb⟩ := HTAB.out _ hbS; clear hrb hlb hb)
            | (go_at_call 18; (with_reducible refine (same_calls _ Aa Ab ca cb es HS.out.le HRA.out HLA.out HRB.out HLB.out).mono ?_); rintro e w5 ⟨rfl, hb⟩; have hbS := below_step hbS hb; obtain ⟨hta, htb⟩ := HTAB.out _ hbS; clear hb))
          all_goals
            have HBI := Aside0.mk hbS
            clear hbS hta htb
            go_wp2
            go_loopw [8] (fun tj wr2 => ∃ j : Nat, tj = .int .i64 (j : Int) ∧ Aside0 (j ≤ 7) ∧ Aside0 (Below W1.heap.size W1 wr2)) (fun tj _ => 7 - left tj)
            case atStart => exact ⟨0, rfl, ⟨by omega⟩, HBI⟩
            case round =>
              obtain ⟨j, rfl, hj, HBJ⟩ := hrel
              by_cases cj : j < 7
              · have e1 : decide ((j : Int) < 7) = true := decide_eq_true (by omega)
                have e2 : decide (j < 7) = true := decide_eq_true cj
                have CJ := Aside0.mk cj
                have hbS := below_drew1 HBJ.out
                obtain ⟨hta, htb⟩ := HTAB.out _ hbS
                have V2 : Aside0 (wrap64 ((j : Int) + 1) = ((j + 1 : Nat) : Int)) := ⟨next1 j 7 (by omega) cj⟩
                have MJ := Aside0.mk (less j 7 (by omega) cj)
                have HOP1 : Aside0 (∀ W, Below W1.heap.size W1 W → Calls Try.prog 12 #[pk g0 g1 k, .int .i64 (j : Int)] W fun e w' => e = .returned (.bool (o (j : Int))) ∧ W = w') := ⟨fun W h => HS.out.op W h _⟩
                have HOP2 : Aside0 (∀ W, Below W1.heap.size W1 W → Calls Try.prog 20 #[pk r0 r1 k, .int .i64 (j : Int)] W fun e w' => e = .returned (.bool (o (j : Int))) ∧ W = w') := ⟨fun W h => HS.out.rop W h _⟩
                have HCO1 : Aside0 (∀ W, Below W1.heap.size W1 W → Calls Try.prog 13 #[pk g0 g1 k, .int .i64 (j : Int)] W fun e w' => e = .returned (.int .i64 (cnt es (j : Int) : Int)) ∧ Below W.heap.size W w') := ⟨fun W h => HS.out.co W h _⟩
                have HCO2 : Aside0 (∀ W, Below W1.heap.size W1 W → Calls Try.prog 21 #[pk r0 r1 k, .int .i64 (j : Int)] W fun e w' => e = .returned (.int .i64 (cnt es (j : Int) : Int)) ∧ Below W.heap.size W w') := ⟨fun W h => HS.out.rco W h _⟩
                obtain ⟨oj, hoj⟩ : ∃ b, b = o (j : Int) := ⟨_, rfl⟩
                obtain ⟨nj, hnj⟩ : ∃ n : Int, n = (cnt es (j : Int) : Int) := ⟨_, rfl⟩
                rw [← hoj] at HOP1 HOP2
                rw [← hnj] at HCO1 HCO2
                clear hoj hnj
                go_wp2
                go_region_held3 (fun w' => w'.cell? ⟨ga, k, none⟩ = some (pk g0 g1 k) ∧ w'.cell? ⟨gb, k, none⟩ = some (pk r0 r1 k) ∧ Below W1.heap.size W1 w') (exact ⟨hta, htb, hbS⟩) (first
                  | (go_at_call 12; (with_reducible refine (HOP1.out _ hbS).mono ?_); rintro e w5 ⟨rfl, rfl⟩)
                  | (go_at_call 20; (with_reducible refine (HOP2.out _ hbS).mono ?_); rintro e w5 ⟨rfl, rfl⟩)
                  | (go_at_call 13; (with_reducible refine (HCO1.out _ hbS).mono ?_); rintro e w5 ⟨rfl, hb⟩; have hbS := below_step hbS hb; obtain ⟨hta, htb⟩ := HTAB.out _ hbS; clear hb)
                  | (go_at_call 21; (with_reducible refine (HCO2.out _ hbS).mono ?_); rintro e w5 ⟨rfl, hb⟩; have hbS := below_step hbS hb; obtain ⟨hta, htb⟩ := HTAB.out _ hbS; clear hb))
                all_goals
                  have HBL := Aside0.mk hbS
                  clear hbS hta htb
                  go_wp2
                  exact ⟨⟨j + 1, rfl, ⟨by have := CJ.out; omega⟩, HBL⟩, by show 7 - ((j : Int) + 1).toNat < 7 - ((j : Nat) : Int).toNat; have := CJ.out; omega⟩
              · have e1 : decide ((j : Int) < 7) = false := decide_eq_false (by omega)
                have e2 : decide (j < 7) = false := decide_eq_false cj
                go_wp2
                exact ⟨⟨k + 1, rfl, ⟨by have := CK.out; omega⟩, HBJ⟩, by show 3 - ((k : Int) + 1).toNat < 3 - ((k : Nat) : Int).toNat; have := CK.out; omega⟩
        · have d1 : decide ((k : Int) < 3) = false := decide_eq_false (by omega)
          have d2 : decide (k < 3) = false := decide_eq_false ck
          go_wp2
          go_ret
          exact ⟨rfl, HB.out.trans (Below.low HBK.out HB.out.size)⟩
end Go.Proofs.Ythadfkpibnhcgaa.B
