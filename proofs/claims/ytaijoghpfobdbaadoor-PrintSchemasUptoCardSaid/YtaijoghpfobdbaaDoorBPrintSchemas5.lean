/- The texts of the law PrintSchemas, put together by a program of this workplace out of its own texts and of what the kit's print has written: walks of the functions, plain laws. No condition but those in the theorems. -/
import Derived.Test.YtaijoghpfobdbaaDoorBPrintSchemas0
import Derived.Test.YtaijoghpfobdbaaDoorBPrintSchemas1
import Derived.Test.YtaijoghpfobdbaaDoorBPrintSchemas2
import Derived.Test.YtaijoghpfobdbaaDoorBPrintSchemas3
import Derived.Test.YtaijoghpfobdbaaDoorBPrintSchemas4
section
set_option linter.unusedVariables false
set_option linter.unusedSimpArgs false
namespace Go.Proofs.YtaijoghpfobdbaaDoor.W
open Go.RowKit Go.Proofs.YtaijoghpfobdbaaDoor.X Go.Proofs.YtaijoghpfobdbaaDoorW.PrintWords Go.Proofs.YtaijoghpfobdbaaDoorW.PrintLast Go.Proofs.YtaijoghpfobdbaaDoorW.PrintMore
open Go.Proofs.YtaijoghpfobdbaaDoor.P (Tr Nd Wrote put fin build tx dep judgeE StD VeD EvD goodB nameB wrs stE allE veE evE wholeE stT veT evT schT schE)
theorem rdigits_calls (u : Nat) (h : u < 18446744073709551616) (w : World) : Calls Tryd.prog 43 #[.int .u64 (u : Int)] w fun e w' => e = .returned (.string (T.ba (Lib.decDigits u))) ∧ Below w.heap.size w w' := by
  obtain ⟨k, hk⟩ := (T.rdigits_ev u h).rounds
  exact stratumref10_digits.calls k _ _ w hk
theorem rline_calls {B b : Nat} {bs : List UInt8} (w : World) (d : StD) (A : Option Addr) (cc : Nat) (hR : Ro w B b bs) (hz : stE d = 0) (hS : R.SS d) (hC : RdN B w A d.val) :
    Calls Tryd.prog 44 #[.pointer (some ⟨b, 0, none⟩), .agg #[.int .i64 d.k, .string d.a, .string d.b, .string d.c, .string d.sep, .string d.ty, .slice A d.val.length cc, .int .i64 d.pl]] w fun e w' => e = .returned (.tuple #[]) ∧ ∃ r, Ro w' B b r ∧ Wrote bs (stT d) r ∧ Fw B b w w' := by
  have hg : goodB d = true := by
    unfold stE at hz
    by_cases h : goodB d = true
    · exact h
    · rw [if_neg h] at hz; cases hz
  have hbt : d.val.length ≠ 0 → ∃ t, build d.val [] = some [t] := by
    intro h0
    unfold stE at hz
    rw [if_pos hg, if_neg h0] at hz
    obtain ⟨t, ht, _⟩ := judge_zero hz
    exact ⟨t, ht⟩
  have hsz : Sz d.a d.b d.c d.sep d.ty := ⟨hS.1.1, hS.1.2.1, hS.1.2.2.1, hS.1.2.2.2.1, hS.1.2.2.2.2⟩
  have hl := hS.2.1
  have hns := hS.2.2
  obtain ⟨k, a, b', c, sep, ty, val, pl⟩ := d
  by_cases h1 : k = 1
  · subst h1; exact rline1 w a b' c sep ty A cc pl val hR hsz hC (Nat.le_trans hl (by omega)) (fun n h => (hns n h).1) (fun n h => (hns n h).2) hbt
  by_cases h2 : k = 2
  · subst h2; exact rline2 w a b' c sep ty A cc pl val hR hsz
  by_cases h3 : k = 3
  · subst h3; exact rline3 w a b' c sep ty A cc pl val hR hsz
  by_cases h4 : k = 4
  · subst h4; exact rline4 w a b' c sep ty A cc pl val hR hsz
  by_cases h5 : k = 5
  · subst h5; exact rline5 w a b' c sep ty A cc pl val hR hsz
  by_cases h6 : k = 6
  · subst h6; exact rline6 w a b' c sep ty A cc pl val hR hsz
  · unfold goodB at hg
    simp [h1, h2, h3, h4, h5, h6] at hg
def SizE (es : List EvD) : Prop := es.length ≤ 1048576 ∧ ∀ e, e ∈ es → R.ES e
theorem SizE.len {es : List EvD} (h : SizE es) : LenE es :=
  ⟨by have := h.1; omega, fun e he => ⟨by have := (h.2 e he).2.1; omega, fun v hv => ⟨by have := ((h.2 e he).2.2 v hv).2.1; omega, fun d hd => by have := (((h.2 e he).2.2 v hv).2.2 d hd).2.1; omega⟩⟩⟩
theorem schE_bad {es : List EvD} (h : wholeE es ≠ 0) : schE es = (⟨#[]⟩, wholeE es) := by unfold schE; rw [if_neg h]
theorem schE_good {es : List EvD} (h : wholeE es = 0) : schE es = finT (schT es) := by unfold schE; rw [if_pos h]
set_option maxHeartbeats 8000000 in
set_option maxRecDepth 100000 in
theorem rschema_calls (w : World) (A : Option Addr) (c : Nat) (es : List EvD) (hC : Kd.C kE w A es.length es) (hS : SizE es) :
    Calls Tryd.prog 18 #[.agg #[.slice A es.length c]] w fun e w' => e = .returned (.tuple #[.string (schE es).1, .int .i64 (schE es).2]) ∧ Below w.heap.size w w' := by
  obtain ⟨w0, hw0⟩ : ∃ w0, w0 = w.alloc (.cells #[.slice A es.length c] 24) := ⟨_, rfl⟩
  obtain ⟨g, hg⟩ : ∃ g, g = w.heap.size := ⟨_, rfl⟩
  have hB0 : Below w.heap.size w w0 := by rw [hw0]; exact below_alloc (Below.refl _ _) _
  have HX0 := Aside0.mk (show w0.heap[g]? = some (.cells #[.slice A es.length c] 24 (0, 0)) by rw [hw0, hg]; exact blk_new _ _)
  have HC0 := Aside0.mk (Kd.C_below hC hB0)
  have HS := Aside0.mk hS
  have HB0 := Aside0.mk hB0
  have HE0 := Aside0.mk hw0
  have HTR := Aside0.mk (rtree_calls w0 A c es HC0.out hS.len)
  have y0 := (blk_cell HX0.out 0).trans rfl
  clear hC hS hB0 hw0
  go_enter Tryd.func18, Tryd.ntmps18
  go_wp2_with fail
  rw [← HE0.out, ← hg]
  clear hg
  refine HTR.out.mono ?_
  rintro e w1 ⟨⟨ok, top, rfl, hwh⟩, hb1⟩
  have HWH := Aside0.mk hwh
  have HB1 := Aside0.mk (below_step HB0.out hb1)
  have HX1 := Aside0.mk (blk_below HX0.out hb1)
  have HC1 := Aside0.mk (Kd.C_below HC0.out hb1)
  clear hb1 hwh y0
  cases ok with
  | false =>
    have hw1 : wholeE es = 1 := by rw [← HWH.out]; rfl
    have HSE : Aside0 (schE es = (⟨#[]⟩, 1)) := ⟨by rw [schE_bad (by rw [hw1]; decide), hw1]⟩
    clear hw1
    go_wp2_with fail
    go_ret2
    exact ⟨by rw [HSE.out]; rfl, HB1.out⟩
  | true =>
    by_cases ht : 100 < top
    · have hw1 : wholeE es = 91 := by rw [← HWH.out, if_pos rfl]; unfold cd; rw [if_pos ht]
      have HSE : Aside0 (schE es = (⟨#[]⟩, 91)) := ⟨by rw [schE_bad (by rw [hw1]; decide), hw1]⟩
      have c1 : decide ((top : Int) > 100) = true := decide_eq_true (by omega)
      have c2 : decide ((100 : Int) < (top : Int)) = true := decide_eq_true (by omega)
      clear hw1 ht
      go_wp2_with fail
      go_ret2
      exact ⟨by rw [HSE.out]; rfl, HB1.out⟩
    have hw1 : wholeE es = 0 := by rw [← HWH.out, if_pos rfl]; unfold cd; rw [if_neg ht]
    have HSE := Aside0.mk (schE_good hw1)
    have HZ := Aside0.mk (P.allE_zero P.evE P.evE_ok es hw1)
    have c1 : decide ((top : Int) > 100) = false := decide_eq_false (by omega)
    have c2 : decide ((100 : Int) < (top : Int)) = false := decide_eq_false (by omega)
    have c3 : ¬ (100 : Int) < (top : Int) := by omega
    obtain ⟨w2, hw2⟩ : ∃ w2, w2 = w1.alloc (.cells #[.slice none 0 0] 101) := ⟨_, rfl⟩
    obtain ⟨b, hb⟩ : ∃ b, b = w1.heap.size := ⟨_, rfl⟩
    have hb2 : Below w1.heap.size w1 w2 := by rw [hw2]; exact below_alloc (Below.refl _ _) _
    have HRO2 : Aside0 (Ro w2 b b []) := ⟨by rw [hw2, hb]; exact fresh_Ro w1⟩
    have HE2 := Aside0.mk hw2
    have HBE := Aside0.mk hb
    have HB2 := Aside0.mk hb2
    have HX2 := Aside0.mk (blk_below HX1.out hb2)
    clear hw1 ht hw2 hb2
    go_wp2_with fail
    rw [← HE2.out, ← hb]
    clear hb
    go_loopw [7] (fun ti wr => ∃ (i : Nat) (r : List UInt8), ti = .int .i64 (i : Int) ∧ Aside0 (i ≤ es.length) ∧ Aside0 (Ro wr b b r) ∧ Aside0 (Wrote [] ((es.take i).flatMap evT) r) ∧ Aside0 (Fw b b w2 wr)) (fun ti _ => es.length - left ti)
    case atStart => exact ⟨0, [], rfl, ⟨Nat.zero_le _⟩, HRO2, ⟨Wrote.refl []⟩, ⟨Fw.refl _ _ _⟩⟩
    case round =>
      obtain ⟨i, r, rfl, hi, HRO, HWR, HFW⟩ := hrel
      rename World => wa
      have HBA : Aside0 (Below w1.heap.size w1 wa) := ⟨HB2.out.trans (by rw [← HBE.out]; exact HFW.out.below)⟩
      have y0 := (blk_cell (HFW.out.other HX2.out (by decide) (HRO2.out.blkne HX2.out (by decide))) 0).trans rfl
      by_cases ci : i < es.length
      · have d1 : decide ((i : Int) < (es.length : Int)) = true := decide_eq_true (by omega)
        have d2 : decide (i < es.length) = true := decide_eq_true ci
        obtain ⟨ad, Bv, cv, rfl, hCv, hx⟩ := at_E' HC1.out i ci
        obtain ⟨hx0, hx1, hx2⟩ := hx wa HBA.out
        have HI := Aside0.mk ci
        have HNX := Aside0.mk (flat_next evT es i ci)
        have HZ1 := Aside0.mk (HZ.out es[i] (List.getElem_mem ci))
        have HS1 := Aside0.mk (HS.out.2 es[i] (List.getElem_mem ci))
        obtain ⟨ev, hev⟩ : ∃ ev, ev = es[i] := ⟨_, rfl⟩
        rw [← hev] at hx0 hx1 hx2 hCv HNX HZ1 HS1
        clear hev hx
        have HCV := Aside0.mk hCv
        have hzv : allE veE ev.vers = 0 := by
          have h := HZ1.out
          unfold P.evE at h
          split at h
          · exact h
          · cases h
        have HZV := Aside0.mk (P.allE_zero P.veE P.veE_ok ev.vers hzv)
        obtain ⟨w3, hw3⟩ : ∃ w3, w3 = wa.alloc (.cells #[.string ev.name, .slice Bv ev.vers.length cv, .int .i64 ev.pl] 50) := ⟨_, rfl⟩
        have hb3 : Below wa.heap.size wa w3 := by rw [hw3]; exact below_alloc (Below.refl _ _) _
        obtain ⟨bx, hbx⟩ : ∃ bx, bx = wa.heap.size := ⟨_, rfl⟩
        have HX3 := Aside0.mk (show w3.heap[bx]? = some (.cells #[.string ev.name, .slice Bv ev.vers.length cv, .int .i64 ev.pl] 50 (0, 0)) from by rw [hw3, hbx]; exact blk_new _ _)
        have HRO3 := Aside0.mk (HRO.out.below hb3)
        have HFW3 := Aside0.mk (HFW.out.andBelow HRO2.out.base hb3)
        have HE3 := Aside0.mk hw3
        have z0 := (blk_cell HX3.out 0).trans rfl
        have W1 : Aside0 (wrap64 ((i : Int) + 1) = ((i + 1 : Nat) : Int)) := ⟨by have := HS.out.1; have := HI.out; unfold wrap64; omega⟩
        have n1 : ¬9223372036854775807 < 6 + ev.name.size := by have := HS1.out.1; omega
        have n2 : ¬9223372036854775807 < 6 + ev.name.size + 3 := by have := HS1.out.1; omega
        clear hCv hzv hw3 hb3
        go_wp2_with fail
        rw [← HE3.out, ← hbx]
        clear hbx z0 hx0 hx1 hx2 y0 n1 n2
        refine (put_calls w3 (((⟨#[101, 118, 101, 110, 116, 32]⟩ : ByteArray) ++ ev.name) ++ (⟨#[32, 123, 10]⟩ : ByteArray)) HRO3.out (by simp only [ByteArray.size_append]; rw [show (⟨#[101, 118, 101, 110, 116, 32]⟩ : ByteArray).size = 6 from rfl, show (⟨#[32, 123, 10]⟩ : ByteArray).size = 3 from rfl]; have := HS1.out.1; omega)).mono ?_
        rintro e w4 ⟨rfl, hr4, hf4⟩
        have HX4 := Aside0.mk (hf4.other HX3.out (by decide) (HRO3.out.blkne HX3.out (by decide)))
        have HFW4 := Aside0.mk (HFW3.out.trans hf4)
        obtain ⟨r4, hr4e⟩ : ∃ x, x = put r (((⟨#[101, 118, 101, 110, 116, 32]⟩ : ByteArray) ++ ev.name) ++ (⟨#[32, 123, 10]⟩ : ByteArray)).data.toList := ⟨_, rfl⟩
        have HWR4 : Aside0 (Wrote [] ((es.take i).flatMap evT ++ ([101, 118, 101, 110, 116, 32] ++ ev.name.data.toList ++ [32, 123, 10])) r4) := ⟨by
          rw [hr4e]
          have h := HWR.out.trans (Wrote.put r (((⟨#[101, 118, 101, 110, 116, 32]⟩ : ByteArray) ++ ev.name) ++ (⟨#[32, 123, 10]⟩ : ByteArray)).data.toList)
          rw [app_l, app_l] at h
          exact h⟩
        rw [← hr4e] at hr4
        have HRO4 := Aside0.mk hr4
        clear hr4 hf4 hr4e
        go_wp2_with fail
        obtain ⟨T0, hT0⟩ : ∃ T, T = (es.take i).flatMap evT ++ ([101, 118, 101, 110, 116, 32] ++ ev.name.data.toList ++ [32, 123, 10]) := ⟨_, rfl⟩
        rw [← hT0] at HWR4
        have HT0 := Aside0.mk hT0
        clear hT0
        go_loopw [9] (fun ti wr => ∃ (k : Nat) (r : List UInt8), ti = .int .i64 (k : Int) ∧ Aside0 (k ≤ ev.vers.length) ∧ Aside0 (Ro wr b b r) ∧ Aside0 (Wrote [] (T0 ++ (ev.vers.take k).flatMap veT) r) ∧ Aside0 (Fw b b w2 wr) ∧ Aside0 (wr.heap[bx]? = some (.cells #[.string ev.name, .slice Bv ev.vers.length cv, .int .i64 ev.pl] 50 (0, 0)))) (fun ti _ => ev.vers.length - left ti)
        case atStart => exact ⟨0, r4, rfl, ⟨Nat.zero_le _⟩, HRO4, ⟨by simpa using HWR4.out⟩, HFW4, HX4⟩
        case round =>
          obtain ⟨k, r5, rfl, hk, HROk, HWRk, HFWk, HXk⟩ := hrel
          rename World => wb
          have HBB : Aside0 (Below w1.heap.size w1 wb) := ⟨HB2.out.trans (by rw [← HBE.out]; exact HFWk.out.below)⟩
          have y1 := (blk_cell HXk.out 1).trans rfl
          by_cases ck : k < ev.vers.length
          · have e1 : decide ((k : Int) < (ev.vers.length : Int)) = true := decide_eq_true (by omega)
            have e2 : decide (k < ev.vers.length) = true := decide_eq_true ck
            obtain ⟨av, Bs, cs, hAv, hCs, hvv⟩ := at_V' HCV.out k ck
            subst hAv
            obtain ⟨hv0, hv1, hv2⟩ := hvv wb HBB.out
            have HK := Aside0.mk ck
            have HNV := Aside0.mk (flat_next veT ev.vers k ck)
            have HZ2 := Aside0.mk (HZV.out ev.vers[k] (List.getElem_mem ck))
            have HS2 := Aside0.mk (HS1.out.2.2 ev.vers[k] (List.getElem_mem ck))
            obtain ⟨ve, hve⟩ : ∃ ve, ve = ev.vers[k] := ⟨_, rfl⟩
            rw [← hve] at hv0 hv1 hv2 hvv hCs HNV HZ2 HS2
            clear hve
            obtain ⟨un, hun⟩ : ∃ un : Nat, ve.num = (un : Int) := ⟨ve.num.toNat, by have := HS2.out.1.1; omega⟩
            have hun2 : un < 18446744073709551616 := by have := HS2.out.1.2; omega
            rw [hun] at hv0
            have HUN := Aside0.mk hun
            have HDS := Aside0.mk (P.dec_short un hun2)
            have HDG := Aside0.mk (rdigits_calls un hun2)
            have HVV := Aside0.mk hvv
            have HCS := Aside0.mk hCs
            have hzs : allE stE ve.steps = 0 := HZ2.out
            have HZS := Aside0.mk (P.allE_zero P.stE P.stE_ok ve.steps hzs)
            have W2 : Aside0 (wrap64 ((k : Int) + 1) = ((k + 1 : Nat) : Int)) := ⟨by have := HS1.out.2.1; have := HK.out; unfold wrap64; omega⟩
            obtain ⟨dg, hdg⟩ : ∃ dg, dg = T.ba (Lib.decDigits un) := ⟨_, rfl⟩
            have HDZ : Aside0 (dg.size ≤ 20) := ⟨by rw [hdg, T.ba_size]; exact HDS.out⟩
            rw [← hdg] at HDG
            have HDE : Aside0 (dg.data.toList = Lib.decDigits ve.num.toNat) := ⟨by rw [hdg, T.ba_list, HUN.out, Int.toNat_natCast]⟩
            have n1 : ¬9223372036854775807 < 10 + dg.size := by have := HDZ.out; omega
            have n2 : ¬9223372036854775807 < 10 + dg.size + 3 := by have := HDZ.out; omega
            clear hun hun2 hdg hvv hCs hzs
            go_wp2_with fail
            refine (HDG.out wb).mono ?_
            rintro e w5 ⟨rfl, hb5⟩
            have HRO5 := Aside0.mk (HROk.out.below hb5)
            have HFW5 := Aside0.mk (HFWk.out.andBelow HRO2.out.base hb5)
            have HX5 := Aside0.mk (blk_below HXk.out hb5)
            clear hb5 hv0 hv1 hv2 y1
            go_wp2_with fail
            clear n1 n2
            refine (put_calls w5 (((⟨#[32, 32, 118, 101, 114, 115, 105, 111, 110, 32]⟩ : ByteArray) ++ dg) ++ (⟨#[32, 123, 10]⟩ : ByteArray)) HRO5.out (by simp only [ByteArray.size_append]; rw [show (⟨#[32, 32, 118, 101, 114, 115, 105, 111, 110, 32]⟩ : ByteArray).size = 10 from rfl, show (⟨#[32, 123, 10]⟩ : ByteArray).size = 3 from rfl]; have := HDZ.out; omega)).mono ?_
            rintro e w6 ⟨rfl, hr6, hf6⟩
            have HX6 := Aside0.mk (hf6.other HX5.out (by decide) (HRO5.out.blkne HX5.out (by decide)))
            have HFW6 := Aside0.mk (HFW5.out.trans hf6)
            obtain ⟨r6, hr6e⟩ : ∃ x, x = put r5 (((⟨#[32, 32, 118, 101, 114, 115, 105, 111, 110, 32]⟩ : ByteArray) ++ dg) ++ (⟨#[32, 123, 10]⟩ : ByteArray)).data.toList := ⟨_, rfl⟩
            obtain ⟨T1, hT1⟩ : ∃ T, T = T0 ++ (ev.vers.take k).flatMap veT ++ ([32, 32, 118, 101, 114, 115, 105, 111, 110, 32] ++ Lib.decDigits ve.num.toNat ++ [32, 123, 10]) := ⟨_, rfl⟩
            have HWR6 : Aside0 (Wrote [] T1 r6) := ⟨by
              rw [hr6e, hT1]
              have h := HWRk.out.trans (Wrote.put r5 (((⟨#[32, 32, 118, 101, 114, 115, 105, 111, 110, 32]⟩ : ByteArray) ++ dg) ++ (⟨#[32, 123, 10]⟩ : ByteArray)).data.toList)
              have e : ((((⟨#[32, 32, 118, 101, 114, 115, 105, 111, 110, 32]⟩ : ByteArray) ++ dg) ++ (⟨#[32, 123, 10]⟩ : ByteArray)).data.toList) = [32, 32, 118, 101, 114, 115, 105, 111, 110, 32] ++ Lib.decDigits ve.num.toNat ++ [32, 123, 10] := by rw [app_l, app_l, HDE.out]
              rw [e] at h ⊢
              exact h⟩
            rw [← hr6e] at hr6
            have HRO6 := Aside0.mk hr6
            have HT1 := Aside0.mk hT1
            clear hr6 hf6 hr6e hT1
            go_wp2_with fail
            go_loopw [10] (fun ti wr => ∃ (j : Nat) (r : List UInt8), ti = .int .i64 (j : Int) ∧ Aside0 (j ≤ ve.steps.length) ∧ Aside0 (Ro wr b b r) ∧ Aside0 (Wrote [] (T1 ++ (ve.steps.take j).flatMap stT) r) ∧ Aside0 (Fw b b w2 wr) ∧ Aside0 (wr.heap[bx]? = some (.cells #[.string ev.name, .slice (some av) ev.vers.length cv, .int .i64 ev.pl] 50 (0, 0)))) (fun ti _ => ve.steps.length - left ti)
            case atStart => exact ⟨0, r6, rfl, ⟨Nat.zero_le _⟩, HRO6, ⟨by simpa using HWR6.out⟩, HFW6, HX6⟩
            case round =>
              obtain ⟨j, r7, rfl, hj, HROj, HWRj, HFWj, HXj⟩ := hrel
              rename World => wc
              have HBC : Aside0 (Below w1.heap.size w1 wc) := ⟨HB2.out.trans (by rw [← HBE.out]; exact HFWj.out.below)⟩
              have y1 := (blk_cell HXj.out 1).trans rfl
              obtain ⟨hv0, hv1, hv2⟩ := HVV.out wc HBC.out
              have hkl : k < ev.vers.length := HK.out
              by_cases cj : j < ve.steps.length
              · have f1 : decide ((j : Int) < (ve.steps.length : Int)) = true := decide_eq_true (by omega)
                have f2 : decide (j < ve.steps.length) = true := decide_eq_true cj
                obtain ⟨ast, Bn, cn, hAs, hcn, hCn, hss⟩ := at_S2 HCS.out j cj
                subst hAs
                obtain ⟨hs0, hs1, hs2, hs3, hs4, hs5, hs6, hs7⟩ := hss wc HBC.out
                have HJ := Aside0.mk cj
                have HNS := Aside0.mk (flat_next stT ve.steps j cj)
                have HZ3 := Aside0.mk (HZS.out ve.steps[j] (List.getElem_mem cj))
                have HS3 := Aside0.mk (HS2.out.2.2 ve.steps[j] (List.getElem_mem cj))
                obtain ⟨st, hst⟩ : ∃ st, st = ve.steps[j] := ⟨_, rfl⟩
                rw [← hst] at hs0 hs1 hs2 hs3 hs4 hs5 hs6 hs7 hCn HNS HZ3 HS3
                clear hst hss hcn
                have HCN := Aside0.mk hCn
                have W3 : Aside0 (wrap64 ((j : Int) + 1) = ((j + 1 : Nat) : Int)) := ⟨by have := HS2.out.2.1; have := HJ.out; unfold wrap64; omega⟩
                clear hCn
                go_wp2_with fail
                refine (rline_calls wc st Bn cn HROj.out HZ3.out HS3.out ⟨fun w' hw' => Kd.C_below HCN.out (HBC.out.trans (by rw [← HBE.out]; exact hw'))⟩).mono ?_
                rintro e w8 ⟨rfl, r8, hr8, hw8, hf8⟩
                have HRO8 := Aside0.mk hr8
                have HWR8 := Aside0.mk (HWRj.out.trans hw8)
                have HFW8 := Aside0.mk (HFWj.out.trans hf8)
                have HX8 := Aside0.mk (hf8.other HXj.out (by decide) (HROj.out.blkne HXj.out (by decide)))
                clear hr8 hw8 hf8 hs0 hs1 hs2 hs3 hs4 hs5 hs6 hs7 hv0 hv1 hv2 y1 hkl
                go_wp2_with fail
                rw [W3.out]
                go_roundw
                case measure => have := HJ.out; simp only [left, Int.toNat_natCast]; omega
                case rel => exact ⟨j + 1, r8, rfl, ⟨HJ.out⟩, HRO8, ⟨by rw [HNS.out, ← List.append_assoc]; exact HWR8.out⟩, HFW8, HX8⟩
              · have f1 : decide ((j : Int) < (ve.steps.length : Int)) = false := decide_eq_false (by omega)
                have f2 : decide (j < ve.steps.length) = false := decide_eq_false cj
                have HJE : Aside0 (ve.steps.take j = ve.steps) := ⟨List.take_of_length_le (by omega)⟩
                go_wp2_with fail
                clear hv0 hv1 hv2 y1 hkl
                refine (put_calls wc ⟨#[32, 32, 125, 10]⟩ HROj.out (by decide)).mono ?_
                rintro e w9 ⟨rfl, hr9, hf9⟩
                have HRO9 := Aside0.mk hr9
                have HFW9 := Aside0.mk (HFWj.out.trans hf9)
                have HX9 := Aside0.mk (hf9.other HXj.out (by decide) (HROj.out.blkne HXj.out (by decide)))
                clear hr9 hf9
                go_wp2_with fail
                rw [W2.out]
                go_roundw
                case measure => have := HK.out; simp only [left, Int.toNat_natCast]; omega
                case rel =>
                  refine ⟨k + 1, _, rfl, ⟨HK.out⟩, HRO9, ⟨?_⟩, HFW9, HX9⟩
                  have h := HWRj.out.trans (Wrote.put r7 [32, 32, 125, 10])
                  rw [HJE.out, HT1.out] at h
                  rw [HNV.out]
                  have e : T0 ++ (List.flatMap veT (List.take k ev.vers) ++ veT ve) = T0 ++ List.flatMap veT (List.take k ev.vers) ++ ([32, 32, 118, 101, 114, 115, 105, 111, 110, 32] ++ Lib.decDigits ve.num.toNat ++ [32, 123, 10]) ++ List.flatMap stT ve.steps ++ [32, 32, 125, 10] := by
                    unfold veT
                    simp only [List.append_assoc]
                  rw [e]
                  exact h
          · have e1 : decide ((k : Int) < (ev.vers.length : Int)) = false := decide_eq_false (by omega)
            have e2 : decide (k < ev.vers.length) = false := decide_eq_false ck
            have HKE : Aside0 (ev.vers.take k = ev.vers) := ⟨List.take_of_length_le (by omega)⟩
            go_wp2_with fail
            clear y1
            refine (put_calls wb ⟨#[125, 10]⟩ HROk.out (by decide)).mono ?_
            rintro e w9 ⟨rfl, hr9, hf9⟩
            have HRO9 := Aside0.mk hr9
            have HFW9 := Aside0.mk (HFWk.out.trans hf9)
            clear hr9 hf9
            go_wp2_with fail
            rw [W1.out]
            go_roundw
            case measure => have := HI.out; simp only [left, Int.toNat_natCast]; omega
            case rel =>
              refine ⟨i + 1, _, rfl, ⟨HI.out⟩, HRO9, ⟨?_⟩, HFW9⟩
              have h := HWRk.out.trans (Wrote.put r5 [125, 10])
              rw [HKE.out, HT0.out] at h
              rw [HNX.out]
              have e : List.flatMap evT (List.take i es) ++ evT ev = List.flatMap evT (List.take i es) ++ ([101, 118, 101, 110, 116, 32] ++ ev.name.data.toList ++ [32, 123, 10]) ++ List.flatMap veT ev.vers ++ [125, 10] := by
                unfold evT
                simp only [List.append_assoc]
              rw [e]
              exact h
      · have d1 : decide ((i : Int) < (es.length : Int)) = false := decide_eq_false (by omega)
        have d2 : decide (i < es.length) = false := decide_eq_false ci
        have HIE : Aside0 (es.take i = es) := ⟨List.take_of_length_le (by omega)⟩
        go_wp2_with fail
        refine (otext_calls wa HRO.out).mono ?_
        rintro e w9 ⟨rfl, hb9⟩
        have HB9 := Aside0.mk hb9
        have HFI : Aside0 (fin r = schE es) := ⟨by
          rw [HSE.out]
          have h := HWR.out
          rw [HIE.out] at h
          exact fin_T h⟩
        rw [HFI.out]
        clear hb9
        go_wp2_with fail
        go_ret2
        refine ⟨rfl, below_step HB1.out (HBA.out.trans (Below.lowr HB9.out HBA.out.size))⟩
set_option maxHeartbeats 4000000 in
set_option maxRecDepth 100000 in
theorem schemas_calls (w : World) (A : Option Addr) (c : Nat) (es : List EvD) (hC : Kd.C kE w A es.length es) (hS : SizE es) (hT : U.Tab w.heap.size w) :
    Calls Tryd.prog 6 #[.agg #[.slice A es.length c]] w fun e w' => e = .returned (.bool true) ∧ Below w.heap.size w w' := by
  obtain ⟨w0, hw0⟩ : ∃ w0, w0 = w.alloc (.cells #[.slice A es.length c] 24) := ⟨_, rfl⟩
  have hB0 : Below w.heap.size w w0 := by rw [hw0]; exact below_alloc (Below.refl _ _) _
  have HX0 := Aside0.mk (show w0.heap[w.heap.size]? = some (.cells #[.slice A es.length c] 24 (0, 0)) by rw [hw0]; exact blk_new _ _)
  have HC := Aside0.mk hC
  have HS := Aside0.mk hS
  have HT := Aside0.mk hT
  have HB0 := Aside0.mk hB0
  have HE0 := Aside0.mk hw0
  have HGE : Aside0 (GoodE es) := ⟨fun e he v hv => ⟨((hS.2 e he).2.2 v hv).1, fun d hd => ⟨by have := (((hS.2 e he).2.2 v hv).2.2 d hd).2.1; omega, fun n hn => ((((hS.2 e he).2.2 v hv).2.2 d hd).2.2 n hn).1⟩⟩⟩
  clear hC hS hT hB0 hw0
  go_enter Tryd.func6, Tryd.ntmps6
  go_wp2_with fail
  rw [← HE0.out]
  refine (awake_calls w0 (Tab.high (HT.out.step HB0.out) HB0.out.size)).mono ?_
  rintro e w1 ⟨rfl, hb1⟩
  have HB1 := Aside0.mk (below_step HB0.out hb1)
  have HX1 := Aside0.mk (blk_below HX0.out hb1)
  have y0 := (blk_cell HX1.out 0).trans rfl
  clear hb1
  obtain ⟨⟨sv, ev⟩, hv⟩ : ∃ p, p = schE es := ⟨_, rfl⟩
  have HV := Aside0.mk hv
  clear hv
  go_wp2_with fail
  refine (schema_calls w1 A c es (Kd.C_below HC.out HB1.out) HGE.out (Tab.high (HT.out.step HB1.out) HB1.out.size)).mono ?_
  rintro e w2 ⟨rfl, hb2⟩
  have HB2 := Aside0.mk (below_step HB1.out hb2)
  have HX2 := Aside0.mk (blk_below HX1.out hb2)
  rw [← HV.out]
  clear hb2 y0
  have y0 := (blk_cell HX2.out 0).trans rfl
  go_wp2_with fail
  refine (rschema_calls w2 A c es (Kd.C_below HC.out HB2.out) HS.out).mono ?_
  rintro e w3 ⟨rfl, hb3⟩
  have HB3 := Aside0.mk (below_step HB2.out hb3)
  rw [← HV.out]
  clear hb3
  go_wp2_with fail
  go_ret
  exact ⟨rfl, HB3.out⟩
end Go.Proofs.YtaijoghpfobdbaaDoor.W
end
