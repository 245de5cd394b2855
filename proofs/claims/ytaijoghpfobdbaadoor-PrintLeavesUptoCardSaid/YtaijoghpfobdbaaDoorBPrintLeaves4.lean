/- The texts of the law PrintLeaves, put together by a program of this workplace out of its own texts and of what the kit's print has written: walks of the functions, plain laws. No condition but those in the theorems. -/
import Derived.Test.YtaijoghpfobdbaaDoorBPrintLeaves0
import Derived.Test.YtaijoghpfobdbaaDoorBPrintLeaves1
import Derived.Test.YtaijoghpfobdbaaDoorBPrintLeaves2
import Derived.Test.YtaijoghpfobdbaaDoorBPrintLeaves3
section
set_option linter.unusedVariables false
set_option linter.unusedSimpArgs false
namespace Go.Proofs.YtaijoghpfobdbaaDoor.W
open Go.RowKit Go.Proofs.YtaijoghpfobdbaaDoor.X Go.Proofs.YtaijoghpfobdbaaDoorW.PrintWords Go.Proofs.YtaijoghpfobdbaaDoorW.PrintLast Go.Proofs.YtaijoghpfobdbaaDoorW.PrintMore
open Go.Proofs.YtaijoghpfobdbaaDoor.P (Tr Nd)
theorem oneC {w : World} {g : Nat} {n : Nd} (h : w.heap[g]? = some (.cells (ndCs n).toArray 46 (0, 0))) : Kd.C k46 w (some ⟨g, 0, none⟩) 1 [n] :=
  C_rows (e := 46) k46 [n] [ndCs n] rfl (fun i x cs hx hc => by
    match i, hx, hc with
    | 0, hx, hc =>
      injection hx with hx
      injection hc with hc
      subst hx hc
      exact k46_mk w n) (by rw [h]; simp) (by simp)
set_option maxHeartbeats 4000000 in
set_option maxRecDepth 100000 in
theorem leaves_calls (w : World) (x : Int) (s : ByteArray) (h0 : 0 ≤ x) (h1 : x < 18446744073709551616) (hs : s.size ≤ 1048576) (hT : U.Tab w.heap.size w) :
    Calls Tryd.prog 9 #[.int .u64 x, .string s] w fun e w' => e = .returned (.bool true) ∧ Below w.heap.size w w' := by
  have HT := Aside0.mk hT
  obtain ⟨u, rfl⟩ : ∃ u : Nat, x = (u : Int) := ⟨x.toNat, by omega⟩
  have hu : u < 18446744073709551616 := by omega
  obtain ⟨a, ha⟩ : ∃ a : ByteArray, a = ⟨(Lib.decDigits u).toArray⟩ := ⟨_, rfl⟩
  have had : a.data.toList = Lib.decDigits u := by rw [ha]
  have HV1 := Aside0.mk (val_num (u : Int) (-5) h0 h1)
  rw [Int.toNat_natCast, ← ha] at HV1
  obtain ⟨k, hk⟩ := (T.lexes_ev a).rounds
  rw [had, P.Lex_dec u hu] at hk
  obtain ⟨l, hl⟩ : ∃ l : List S63, l = [T.toS ⟨2, [], u, 0, (Lib.decDigits u).length⟩, T.toS ⟨0, [], 0, (Lib.decDigits u).length, (Lib.decDigits u).length⟩] := ⟨_, rfl⟩
  simp only [T.outL, List.nil_append, List.map_cons, List.map_nil] at hk
  rw [← hl] at hk
  have HLN : Aside0 (l.length = 2) := ⟨by rw [hl]; rfl⟩
  have HL0 : Aside0 ((rd_T63 l 0).f0 = 2 ∧ (rd_T63 l 0).f2 = (u : Int)) := ⟨by rw [hl]; exact ⟨rfl, rfl⟩⟩
  clear hl
  obtain ⟨q, hq⟩ : ∃ q, q = T.ba (L.Quote s.data.toList) := ⟨_, rfl⟩
  obtain ⟨k2, hk2⟩ := (T.quote_ev s (by omega)).rounds
  rw [← hq] at hk2
  have HQ := Aside0.mk (fun w => lex_Quote.calls k2 s q w hk2)
  have HV3 : Aside0 ((1048576 < q.size ∧ valE [⟨2, 0, 0, s, 0⟩] = (⟨#[]⟩, 2)) ∨ (q.size ≤ 1048576 ∧ valE [⟨2, 0, 0, s, 0⟩] = (q, 0))) := ⟨by
    rw [val_text s, hq, T.ba_size]
    unfold finT
    by_cases h : P.M < (L.Quote s.data.toList).length
    · rw [if_pos h]; exact .inl ⟨h, rfl⟩
    · rw [if_neg h]; exact .inr ⟨Nat.le_of_not_lt h, rfl⟩⟩
  have HL := Aside0.mk (fun w => lex_Lex.calls k a _ _ _ w hk)
  have HDF : Aside0 (1 < a.size → bt a 0 ≠ 48) := ⟨fun h => by
    rw [T.size_len, had] at h
    have hh := P.dec_head u (P.dec_small h)
    cases hd : Lib.decDigits u with
    | nil => exact absurd hd (P.dec_all u).2
    | cons b t =>
      have := T.bt_drop (s := a) (i := 0) (b := b) (t := t) (by rw [List.drop_zero, had, hd])
      rw [show ((0 : Nat) : Int) = 0 from rfl] at this
      rw [this]
      have := hh b t hd
      omega⟩
  clear hk hk2 hT ha had hq
  go_enter Tryd.func9, Tryd.ntmps9
  go_wp2_with fail
  refine (awake_calls w HT.out).mono ?_
  rintro e w1 ⟨rfl, hb1⟩
  have HB1 := Aside0.mk hb1
  clear hb1
  go_wp2_with fail
  have HB2 := Aside0.mk (show Below w.heap.size w (w1.alloc (.cells (ndCs ⟨1, 0, (u : Int), ⟨#[]⟩, -5⟩).toArray 46)) from below_step HB1.out (below_alloc (Below.refl _ _) _))
  have HO := Aside0.mk (oneC (n := ⟨1, 0, (u : Int), ⟨#[]⟩, -5⟩) (show (w1.alloc (.cells (ndCs ⟨1, 0, (u : Int), ⟨#[]⟩, -5⟩).toArray 46)).heap[w1.heap.size]? = _ from blk_new _ _))
  refine (value_calls _ (some ⟨w1.heap.size, 0, none⟩) 1 [⟨1, 0, (u : Int), ⟨#[]⟩, -5⟩] HO.out (by simp) (by intro n hn; simp only [List.mem_singleton] at hn; subst hn; exact ⟨h0, h1⟩) (Tab.high (HT.out.step HB2.out) HB2.out.size)).mono ?_
  rintro e w3 ⟨rfl, hb3⟩
  have HB3 := Aside0.mk (below_step HB2.out hb3)
  rw [HV1.out]
  clear hb3
  go_wp2_with fail
  refine (HL.out w3).mono ?_
  rintro e w4 ⟨v4, rfl, hr, hb4⟩
  have HB4 := Aside0.mk (below_step HB3.out hb4)
  obtain ⟨g, c, rfl⟩ : ∃ g c, v4 = .slice (some ⟨g, 0, none⟩) l.length c := by
    obtain ⟨A, c, rfl⟩ := Kd.R_slice hr
    obtain ⟨inner, ho⟩ := Kd.R_own hr
    rcases ho.2 with ⟨_, hz⟩ | ⟨g, cap, cur, hv, _⟩
    · have := HLN.out; omega
    · injection hv with e1 _ _
      rw [e1]
      exact ⟨g, c, rfl⟩
  have hC := (Kd.R_reads' hr).2.2
  obtain ⟨ad, hag, hx0, hx1, hx2, hx3, hx4⟩ := at_T63 hC 0 (by decide) (by rw [HLN.out]; decide)
  rw [HL0.out.1] at hx0
  rw [HL0.out.2] at hx2
  rw [HLN.out]
  clear hb4 hr hC hx1 hx3 hx4
  injection hag with hag
  subst hag
  replace hx0 : w4.cell? ⟨g, 0, none⟩ = some (.int .i64 2) := by rw [Lib.add_plain] at hx0; exact hx0
  replace hx2 : w4.cell? ⟨g, 2, none⟩ = some (.int .u64 (u : Int)) := by rw [Lib.add_plain] at hx2; exact hx2
  by_cases ha : 1 < a.size
  · have c1 : decide ((1 : Int) < (a.size : Int)) = true := decide_eq_true (by omega)
    have hix0 : ∀ W, (Instr.index 9 (.string a) (.int .i64 0)).run Tryd.prog W = .ok (.int .u8 (bt a 0)) W := fun W => by
      rw [run_index_string _ _ a .i64 0 Tryd.underlying9, dif_pos ⟨Int.le_refl _, by omega⟩]
      congr 2
      exact bt_at a 0 (by show 0 < a.size; omega)
    obtain ⟨y, hy⟩ : ∃ y, y = bt a 0 := ⟨_, rfl⟩
    have hix : ∀ W, (Instr.index 9 (.string a) (.int .i64 0)).run Tryd.prog W = .ok (.int .u8 y) W := by rw [hy]; exact hix0
    have c3 : decide (y = 48) = false := decide_eq_false (by rw [hy]; exact HDF.out ha)
    have c4 : (y == 48) = false := beq_eq_false_iff_ne.mpr (by rw [hy]; exact HDF.out ha)
    have c1n : 1 < a.size := ha
    clear HDF hix0 hy ha c1
    have c1 : decide ((1 : Int) < (a.size : Int)) = true := decide_eq_true (by omega)
    clear c1n
    go_wp2_with fail
    clear hx0 hx2
    have HB5 := Aside0.mk (show Below w.heap.size w (w4.alloc (.cells (ndCs ⟨2, 0, 0, s, 0⟩).toArray 46)) from below_step HB4.out (below_alloc (Below.refl _ _) _))
    have HO2 := Aside0.mk (oneC (n := ⟨2, 0, 0, s, 0⟩) (show (w4.alloc (.cells (ndCs ⟨2, 0, 0, s, 0⟩).toArray 46)).heap[w4.heap.size]? = _ from blk_new _ _))
    refine (value_calls _ (some ⟨w4.heap.size, 0, none⟩) 1 [⟨2, 0, 0, s, 0⟩] HO2.out (by simp) (by intro n hn; simp only [List.mem_singleton] at hn; subst hn; exact ⟨Int.le_refl 0, (by decide : (0 : Int) < 18446744073709551616)⟩) (Tab.high (HT.out.step HB5.out) HB5.out.size)).mono ?_
    rintro e w6 ⟨rfl, hb6⟩
    have HB6 := Aside0.mk (below_step HB5.out hb6)
    clear hb6
    rcases HV3.out with ⟨hM, hv⟩ | ⟨hM, hv⟩
    · have d1 : decide ((1048576 : Int) < (q.size : Int)) = true := decide_eq_true (by omega)
      rw [hv]
      go_wp2_with fail
      refine (HQ.out w6).mono ?_
      rintro e w7 ⟨rfl, hb7⟩
      have HB7 := Aside0.mk (below_step HB6.out hb7)
      clear hb7
      go_wp2_with fail
      go_ret
      exact ⟨rfl, HB7.out⟩
    · have d1 : decide ((1048576 : Int) < (q.size : Int)) = false := decide_eq_false (by omega)
      rw [hv]
      go_wp2_with fail
      refine (HQ.out w6).mono ?_
      rintro e w7 ⟨rfl, hb7⟩
      have HB7 := Aside0.mk (below_step HB6.out hb7)
      clear hb7
      go_wp2_with fail
      refine (HQ.out w7).mono ?_
      rintro e w8 ⟨rfl, hb8⟩
      have HB8 := Aside0.mk (below_step HB7.out hb8)
      clear hb8
      go_wp2_with fail
      go_ret
      exact ⟨rfl, HB8.out⟩
  · have c1 : decide ((1 : Int) < (a.size : Int)) = false := decide_eq_false (by omega)
    go_wp2_with fail
    clear hx0 hx2
    have HB5 := Aside0.mk (show Below w.heap.size w (w4.alloc (.cells (ndCs ⟨2, 0, 0, s, 0⟩).toArray 46)) from below_step HB4.out (below_alloc (Below.refl _ _) _))
    have HO2 := Aside0.mk (oneC (n := ⟨2, 0, 0, s, 0⟩) (show (w4.alloc (.cells (ndCs ⟨2, 0, 0, s, 0⟩).toArray 46)).heap[w4.heap.size]? = _ from blk_new _ _))
    refine (value_calls _ (some ⟨w4.heap.size, 0, none⟩) 1 [⟨2, 0, 0, s, 0⟩] HO2.out (by simp) (by intro n hn; simp only [List.mem_singleton] at hn; subst hn; exact ⟨Int.le_refl 0, (by decide : (0 : Int) < 18446744073709551616)⟩) (Tab.high (HT.out.step HB5.out) HB5.out.size)).mono ?_
    rintro e w6 ⟨rfl, hb6⟩
    have HB6 := Aside0.mk (below_step HB5.out hb6)
    clear hb6
    rcases HV3.out with ⟨hM, hv⟩ | ⟨hM, hv⟩
    · have d1 : decide ((1048576 : Int) < (q.size : Int)) = true := decide_eq_true (by omega)
      rw [hv]
      go_wp2_with fail
      refine (HQ.out w6).mono ?_
      rintro e w7 ⟨rfl, hb7⟩
      have HB7 := Aside0.mk (below_step HB6.out hb7)
      clear hb7
      go_wp2_with fail
      go_ret
      exact ⟨rfl, HB7.out⟩
    · have d1 : decide ((1048576 : Int) < (q.size : Int)) = false := decide_eq_false (by omega)
      rw [hv]
      go_wp2_with fail
      refine (HQ.out w6).mono ?_
      rintro e w7 ⟨rfl, hb7⟩
      have HB7 := Aside0.mk (below_step HB6.out hb7)
      clear hb7
      go_wp2_with fail
      refine (HQ.out w7).mono ?_
      rintro e w8 ⟨rfl, hb8⟩
      have HB8 := Aside0.mk (below_step HB7.out hb8)
      clear hb8
      go_wp2_with fail
      go_ret
      exact ⟨rfl, HB8.out⟩
end Go.Proofs.YtaijoghpfobdbaaDoor.W
end
