/- The texts of the law ParseBlanks, put together by a program of this workplace out of its own texts and of what the kit's print has written: walks of the functions, plain laws. No condition but those in the theorems. -/
import Derived.Test.YtbdcndkafaajpaaBParseBlanks0
import Derived.Test.YtbdcndkafaajpaaBParseBlanks1
section
set_option linter.unusedVariables false
set_option linter.unusedSimpArgs false
namespace Go.Proofs.Ytbdcndkafaajpaa.A
open Go.RowKit Go.Proofs.Ytbdcndkafaajpaa.X Go.Proofs.YtbdcndkafaajpaaW.PrintWords Go.Proofs.YtbdcndkafaajpaaW.PrintLast Go.Proofs.YtbdcndkafaajpaaW.PrintMore
open Go.Proofs.Ytbdcndkafaajpaa.P (Nd EO Res hd isT isM takeM mxl comb mk1)
def goS (m : Nat) (f : P.Fn) : Sg → Sg
  | .ok ts lev ns dp => outS lev ns dp (P.X m f lev ts)
  | .bad e p => .bad e p
def puG (n : Nd) (k : Nat) : Sg → Sg
  | .ok ts lev ns dp => putS n ts lev ns (dp.take (dp.length - k)) (dp.drop (dp.length - k))
  | .bad e p => .bad e p
def Sg.down : Sg → Sg
  | .ok ts lev ns dp => .ok ts (lev - 1) ns dp
  | .bad e p => .bad e p
def Sg.At (N k l : Nat) (s : Sg) : Prop := ∀ ts lev ns dp, s = .ok ts lev ns dp → ns.length + ts.length ≤ N ∧ k ≤ dp.length ∧ lev = l
theorem At_step {N k l : Nat} {s : Sg} (h : s.At (N + 1) k l) (c : UInt8) : (s.step (takeM c)).At N k l := by
  intro ts lev ns dp e
  cases s with
  | bad e p => cases e
  | ok ts0 lev0 ns0 dp0 =>
    obtain ⟨h1, h2, h3⟩ := h _ _ _ _ rfl
    unfold Sg.step at e
    simp only at e
    cases hr : takeM c ts0 with
    | bad e0 p0 => rw [hr] at e; cases e
    | ok t r =>
      rw [hr] at e
      cases e
      obtain ⟨_, _, _, hl⟩ := P.takeM_ok hr
      exact ⟨by omega, h2, h3⟩
theorem At_go {N k l m : Nat} {f : P.Fn} {s : Sg} (h : s.At N k l) (hb : P.base f = 0) : (goS m f s).At N (k + 1) l := by
  intro ts lev ns dp e
  cases s with
  | bad e p => cases e
  | ok ts0 lev0 ns0 dp0 =>
    obtain ⟨h1, h2, h3⟩ := h _ _ _ _ rfl
    unfold goS at e
    simp only at e
    cases hr : P.X m f lev0 ts0 with
    | bad e0 p0 => rw [hr] at e; cases e
    | ok a r =>
      rw [hr] at e
      have := P.X_sz m f lev0 ts0 a r hr
      rw [hb] at this
      cases e
      refine ⟨?_, ?_, h3⟩
      · rw [List.length_append]; omega
      · rw [List.length_append, List.length_singleton]; omega
theorem At.mono {N N' k l : Nat} {s : Sg} (h : s.At N k l) (hn : N ≤ N') : s.At N' k l := fun ts lev ns dp e => ⟨Nat.le_trans (h ts lev ns dp e).1 hn, (h ts lev ns dp e).2⟩
section
variable {w w' : World} {A : Option Addr} {c : Nat} {L : List Tk} {g : Nat} {vn vd : Value} {s : Sg}
theorem gexpr {m : Nat} (H : CT m .expr 49) (hG : Good L) (h : Is w A c L g vn vd s) (hf : ∀ p, goS m .expr s ≠ .bad 0 p) :
    Calls Try.prog 49 #[.pointer (some ⟨g, 0, none⟩)] w fun e w' => e = .returned (.tuple #[]) ∧ Ends w A c L g vn vd (goS m .expr s) w' := by
  cases s with
  | ok ts lev ns dp => exact H w A c L g vn vd ts lev ns dp hG h (fun p e => hf p (by unfold goS; simp only [e]; rfl))
  | bad e p => exact (bexpr_calls w A c L g vn vd e p h).mono fun r w' ⟨h1, h2, h3⟩ => ⟨h1, vn, vd, h2, Hv.of_grown (grown_below h3 _) (by have := h.glt; omega)⟩
theorem gfac {m : Nat} (H : CT m .fac 86) (hG : Good L) (h : Is w A c L g vn vd s) (hf : ∀ p, goS m .fac s ≠ .bad 0 p) :
    Calls Try.prog 86 #[.pointer (some ⟨g, 0, none⟩)] w fun e w' => e = .returned (.tuple #[]) ∧ Ends w A c L g vn vd (goS m .fac s) w' := by
  cases s with
  | ok ts lev ns dp => exact H w A c L g vn vd ts lev ns dp hG h (fun p e => hf p (by unfold goS; simp only [e]; rfl))
  | bad e p => exact (bfac_calls w A c L g vn vd e p h).mono fun r w' ⟨h1, h2, h3⟩ => ⟨h1, vn, vd, h2, Hv.of_grown (grown_below h3 _) (by have := h.glt; omega)⟩
theorem gmark (m : UInt8) (hG : Good L) (h : Is w A c L g vn vd s) :
    Calls Try.prog 61 #[.pointer (some ⟨g, 0, none⟩), .string (mk1 m)] w fun e w' => (∃ t : Tk, e = .returned (.agg #[.int .i64 t.f0, .string t.f1, .int .u64 t.f2, .int .i64 t.f3, .int .i64 t.f4])) ∧ Is w' A c L g vn vd (s.step (takeM m)) ∧ Hv w w' g vn vd vn vd :=
  (smark_calls w A c L g vn vd s m hG h).mono fun e w' ⟨h1, h2, h3⟩ => ⟨h1, h2, Hv.of_grown h3 (by have := h.glt; omega)⟩
theorem gput {N k l : Nat} (n : Nd) (h : Is w A c L g vn vd s) (ha : s.At N k l) (hN : N + 1 ≤ 33554432) :
    Calls Try.prog 74 #[.pointer (some ⟨g, 0, none⟩), .agg #[.int .i64 n.f0, .int .i64 n.f1, .int .u64 n.f2, .string n.f3, .int .i64 n.f4], .int .i64 (k : Int)] w fun e' w' => e' = .returned (.tuple #[]) ∧ Ends w A c L g vn vd (puG n k s) w' := by
  cases s with
  | ok ts lev ns dp =>
    obtain ⟨h1, h2, h3⟩ := ha _ _ _ _ rfl
    have e1 : dp.take (dp.length - k) ++ dp.drop (dp.length - k) = dp := List.take_append_drop _ _
    have e2 : (dp.drop (dp.length - k)).length = k := by rw [List.length_drop]; omega
    have hi : Is w A c L g vn vd (.ok ts lev ns (dp.take (dp.length - k) ++ dp.drop (dp.length - k))) := by rw [e1]; exact h
    have := sput_calls w A c L g vn vd ts lev ns _ _ n hi (by omega)
    rw [e2] at this
    exact this
  | bad e p => exact (bput_calls w A c L g vn vd e p n k h).mono fun r w' ⟨h1, h2, h3⟩ => ⟨h1, vn, vd, h2, Hv.of_grown (grown_below h3 _) (by have := h.glt; omega)⟩
theorem glevel {N k l : Nat} (h : Is w A c L g vn vd s) (ha : s.At N k l) (hl : 1 ≤ l) : ∃ lv : Int, w.cell? ⟨g, 4, none⟩ = some (.int .i64 lv) ∧ w.frozen? ⟨g, 4, none⟩ = false ∧ Is (w.setCell ⟨g, 4, none⟩ (.int .i64 (wrap64 (lv - 1)))) A c L g vn vd s.down ∧ Hv w (w.setCell ⟨g, 4, none⟩ (.int .i64 (wrap64 (lv - 1)))) g vn vd vn vd := by
  cases s with
  | ok ts lev ns dp =>
    obtain ⟨q, h1, h2, h3, h4⟩ := h
    obtain ⟨_, _, rfl⟩ := ha _ _ _ _ rfl
    refine ⟨_, h3.p.c4, h3.p.fz 4, ?_, Hv.of_grown (grown_set _ _ _ _) (by have := h3.p.glt; omega)⟩
    have e : wrap64 ((lev : Int) - 1) = ((lev - 1 : Nat) : Int) := by have := h4.lv; unfold wrap64; omega
    rw [e]
    have hp : Post w (w.setCell ⟨g, 4, none⟩ (.int .i64 ((lev - 1 : Nat) : Int))) A c L g q (.int .i64 ((lev - 1 : Nat) : Int)) vn vd := ⟨h3.p.set 4 _ rfl h3.p.lt, grown_set _ _ _ _⟩
    exact ⟨q, h1, h2, h3.light hp, h4.sz, h4.dl, h4.d0, by have := h4.lv; omega⟩
  | bad e p =>
    obtain ⟨q, lev, ns, dp, h1, h2, h3, h4⟩ := h
    refine ⟨_, h4.p.c4, h4.p.fz 4, ?_, Hv.of_grown (grown_set _ _ _ _) (by have := h4.p.glt; omega)⟩
    have hp : Post w (w.setCell ⟨g, 4, none⟩ (.int .i64 (wrap64 (lev - 1)))) A c L g q (.int .i64 (wrap64 (lev - 1))) vn vd := ⟨h4.p.set 4 _ rfl h4.p.lt, grown_set _ _ _ _⟩
    exact ⟨q, _, ns, dp, h1, h2, h3, h4.light hp⟩
end
theorem puG_out (lev : Nat) (n : Nd) (r : List Tk) (ns : List Nd) (dp : List Int) (kids : List EO) (k : Nat) (hk : kids.length = k) : puG n k (.ok r lev (ns ++ (kids.map EO.ns).flatten) (dp ++ kids.map EO.dep)) = outS lev ns dp (comb n kids r) := by
  rw [← putS_comb]
  unfold puG
  have e1 : (dp ++ kids.map EO.dep).length - k = dp.length := by rw [List.length_append, List.length_map]; omega
  simp only [e1, List.take_left, List.drop_left]
theorem down_out (lev : Nat) (ns : List Nd) (dp : List Int) (x : Res EO) : (outS (lev + 1) ns dp x).down = outS lev ns dp x := by
  cases x <;> rfl
end Go.Proofs.Ytbdcndkafaajpaa.A
end
section
set_option linter.unusedVariables false
set_option linter.unusedSimpArgs false
namespace Go.Proofs.Ytbdcndkafaajpaa.A
open Go.RowKit Go.Proofs.Ytbdcndkafaajpaa.X Go.Proofs.YtbdcndkafaajpaaW.PrintWords Go.Proofs.YtbdcndkafaajpaaW.PrintLast Go.Proofs.YtbdcndkafaajpaaW.PrintMore
open Go.Proofs.Ytbdcndkafaajpaa.P (Nd EO Res hd isT isM takeM mxl comb mk1)
def stS (lev : Nat) (ns : List Nd) (dp : List Int) (kids : List EO) (r : List Tk) : Sg := .ok r lev (ns ++ (kids.map EO.ns).flatten) (dp ++ kids.map EO.dep)
theorem st_nil (lev : Nat) (ns : List Nd) (dp : List Int) (r : List Tk) : stS lev ns dp [] r = .ok r lev ns dp := by unfold stS; simp
theorem step_st (lev : Nat) (ns : List Nd) (dp : List Int) (kids : List EO) (r : List Tk) (c : UInt8) : (stS lev ns dp kids r).step (takeM c) = match takeM c r with | .ok _ r' => stS lev ns dp kids r' | .bad e p => .bad e p := rfl
theorem go_st (m : Nat) (f : P.Fn) (lev : Nat) (ns : List Nd) (dp : List Int) (kids : List EO) (r : List Tk) : goS m f (stS lev ns dp kids r) = match P.X m f lev r with | .ok a r' => stS lev ns dp (kids ++ [a]) r' | .bad e p => .bad e p := by
  unfold goS stS
  simp only
  cases P.X m f lev r with
  | ok a r' => unfold outS; simp
  | bad e p => rfl
theorem pu_st (lev : Nat) (n : Nd) (r : List Tk) (ns : List Nd) (dp : List Int) (kids : List EO) (k : Nat) (hk : kids.length = k) : puG n k (stS lev ns dp kids r) = outS lev ns dp (comb n kids r) := puG_out lev n r ns dp kids k hk
theorem one_st (m lev : Nat) (ns : List Nd) (dp : List Int) (r : List Tk) (n : Nd) : (puG n 1 ((goS m .expr ((stS (lev + 1) ns dp [] r).step (takeM 40))).step (takeM 41))).down =
    outS lev ns dp ((takeM 40 r).bind fun _ r => (P.X m .expr (lev + 1) r).bind fun a r => (takeM 41 r).bind fun _ r => comb n [a] r) := by
  rw [step_st]
  cases takeM 40 r with
  | bad e p => rfl
  | ok t r =>
    simp only [Res.bind, go_st]
    cases P.X m .expr (lev + 1) r with
    | bad e p => rfl
    | ok a r =>
      simp only [step_st]
      cases takeM 41 r with
      | bad e p => rfl
      | ok t r => simp only [List.nil_append]; rw [pu_st (kids := [a]) (k := 1) (hk := rfl), down_out]
theorem two_st (m lev : Nat) (ns : List Nd) (dp : List Int) (r : List Tk) (n : Nd) : (puG n 2 ((goS m .expr ((goS m .expr ((stS (lev + 1) ns dp [] r).step (takeM 40))).step (takeM 44))).step (takeM 41))).down =
    outS lev ns dp ((takeM 40 r).bind fun _ r => (P.X m .expr (lev + 1) r).bind fun a r => (takeM 44 r).bind fun _ r => (P.X m .expr (lev + 1) r).bind fun b r => (takeM 41 r).bind fun _ r => comb n [a, b] r) := by
  rw [step_st]
  cases takeM 40 r with
  | bad e p => rfl
  | ok t r =>
    simp only [Res.bind, go_st]
    cases P.X m .expr (lev + 1) r with
    | bad e p => rfl
    | ok a r =>
      simp only [step_st]
      cases takeM 44 r with
      | bad e p => rfl
      | ok t r =>
        simp only [go_st]
        cases P.X m .expr (lev + 1) r with
        | bad e p => rfl
        | ok b r =>
          simp only [step_st]
          cases takeM 41 r with
          | bad e p => rfl
          | ok t r => simp only [List.nil_append, List.cons_append]; rw [pu_st (kids := [a, b]) (k := 2) (hk := rfl), down_out]
theorem ba_ne {s t : ByteArray} {l : List UInt8} (h : s ≠ t) (hl : t.toList = l) : (s.toList == l) = false := by
  cases hc : (s.toList == l) with
  | false => rfl
  | true =>
    have e := eq_of_beq hc
    rw [← hl, ByteArray.toList_eq, ByteArray.toList_eq] at e
    exact absurd (ByteArray.ext (Array.toList_inj.1 e)) h
set_option maxHeartbeats 4000000 in
set_option maxRecDepth 100000 in
theorem named_true (w : World) (A : Option Addr) (c : Nat) (L : List Tk) (g : Nat) (vn vd : Value) (ts : List Tk) (lev : Nat) (ns : List Nd) (dp : List Int) (nm p en : Int) (hG : Good L) (h : Is w A c L g vn vd (.ok ts lev ns dp)) (ht : hd ts = ⟨1, P.sTrue, nm, p, en⟩) :
    Calls Try.prog 93 #[.pointer (some ⟨g, 0, none⟩), .agg #[.int .i64 1, .string ⟨#[116, 114, 117, 101]⟩, .int .u64 nm, .int .i64 p, .int .i64 en]] w fun e w' => e = .returned (.tuple #[]) ∧ Ends w A c L g vn vd (outS lev ns dp (comb (P.node 3 p) [] ts.tail)) w' := by
  have hk : (hd ts).f0 ≠ 0 := by rw [ht]; exact (by decide : (1 : Int) ≠ 0)
  have hl := P.hd_len hk
  have HSZ : Aside0 (ns.length + 1 + ts.tail.length ≤ 33554432) := ⟨by obtain ⟨q, _, _, _, h4⟩ := h; have := h4.sz; omega⟩
  obtain ⟨W, hW⟩ : ∃ W, W = w.alloc (.cells #[.int .i64 1, .string ⟨#[116, 114, 117, 101]⟩, .int .u64 nm, .int .i64 p, .int .i64 en] 47) := ⟨_, rfl⟩
  have hB : Below w.heap.size w W := by rw [hW]; exact below_alloc (Below.refl _ _) _
  have hX : W.heap[w.heap.size]? = some (.cells #[.int .i64 1, .string ⟨#[116, 114, 117, 101]⟩, .int .u64 nm, .int .i64 p, .int .i64 en] 47 (0, 0)) := by rw [hW]; exact blk_new _ _
  obtain ⟨b, hb⟩ : ∃ b, b = w.heap.size := ⟨_, rfl⟩
  rw [← hb] at hX
  have HI := Aside0.mk (h.below hB)
  have HTK := Aside0.mk (stake_calls W A c L g vn vd ts lev ns dp true hG (fun _ => hk) HI.out)
  have HV := Aside0.mk ((Hv.refl (vn := vn) (vd := vd) (by have := h.glt; omega) : Hv w w g vn vd vn vd).below hB (by have := h.glt; omega))
  obtain ⟨z0, z1, z2, z3, z4⟩ := tokBox (t := ⟨1, ⟨#[116, 114, 117, 101]⟩, nm, p, en⟩) hX
  have HX := Aside0.mk hX
  have HW := Aside0.mk hW
  have HB := Aside0.mk hb
  have HT := Aside0.mk ht
  rw [hW, hb] at z0 z1 z2 z3 z4
  clear h hk hl hX hW hb hB ht
  go_enter Try.func93, Try.ntmps93
  go_wp2_with fail
  rw [← HW.out]
  refine HTK.out.mono ?_
  rintro e w1 ⟨rfl, hi1, hg1⟩
  unfold tokV
  have HI1 := Aside0.mk (show Is w1 A c L g vn vd (.ok ts.tail lev ns dp) from hi1)
  have hv1 : Hv W w1 g vn vd vn vd := Hv.of_grown hg1 (by have := HI.out.glt; omega)
  have hx1 := HI.out.box_keep hv1 HX.out
  have HV1 := Aside0.mk (HV.out.trans hv1)
  have HPT := Aside0.mk (gput (N := 33554431) (k := 0) (l := lev) (P.node 3 p) HI1.out (fun ts' lev' ns' dp' e => by cases e; exact ⟨by have := HSZ.out; omega, Nat.zero_le _, rfl⟩) (by omega))
  obtain ⟨y0, y1, y2, y3, y4⟩ := tokBox (t := ⟨1, ⟨#[116, 114, 117, 101]⟩, nm, p, en⟩) hx1
  rw [HB.out] at y0 y1 y2 y3 y4
  clear hi1 hg1 hv1 hx1
  go_wp2_with fail
  refine HPT.out.mono ?_
  rintro e w2 ⟨rfl, vn2, vd2, hi2, hv2⟩
  have HI2 := Aside0.mk hi2
  have HV2 := Aside0.mk (HV1.out.trans hv2)
  clear hi2 hv2
  go_wp2
  refine bodyPost_ret (results_none rfl _ _ _) rfl ?_
  refine ⟨rfl, vn2, vd2, ?_, HV2.out⟩
  have := HI2.out
  rw [← st_nil, pu_st (kids := []) (k := 0) (hk := rfl)] at this
  exact this
end Go.Proofs.Ytbdcndkafaajpaa.A
end
section
set_option linter.unusedVariables false
set_option linter.unusedSimpArgs false
namespace Go.Proofs.Ytbdcndkafaajpaa.A
open Go.RowKit Go.Proofs.Ytbdcndkafaajpaa.X Go.Proofs.YtbdcndkafaajpaaW.PrintWords Go.Proofs.YtbdcndkafaajpaaW.PrintLast Go.Proofs.YtbdcndkafaajpaaW.PrintMore
open Go.Proofs.Ytbdcndkafaajpaa.P (Nd EO Res hd isT isM takeM mxl comb mk1)
set_option maxHeartbeats 8000000 in
set_option maxRecDepth 100000 in
theorem named_false (w : World) (A : Option Addr) (c : Nat) (L : List Tk) (g : Nat) (vn vd : Value) (ts : List Tk) (lev : Nat) (ns : List Nd) (dp : List Int) (nm p en : Int) (hG : Good L) (h : Is w A c L g vn vd (.ok ts lev ns dp)) (ht : hd ts = ⟨1, ⟨#[102, 97, 108, 115, 101]⟩, nm, p, en⟩) :
    Calls Try.prog 93 #[.pointer (some ⟨g, 0, none⟩), .agg #[.int .i64 1, .string ⟨#[102, 97, 108, 115, 101]⟩, .int .u64 nm, .int .i64 p, .int .i64 en]] w fun e w' => e = .returned (.tuple #[]) ∧ Ends w A c L g vn vd (outS lev ns dp (comb (P.node 4 p) [] ts.tail)) w' := by
  have hk : (hd ts).f0 ≠ 0 := by rw [ht]; exact (by decide : (1 : Int) ≠ 0)
  have hl := P.hd_len hk
  have HSZ : Aside0 (ns.length + 1 + ts.tail.length ≤ 33554432) := ⟨by obtain ⟨q, _, _, _, h4⟩ := h; have := h4.sz; omega⟩
  obtain ⟨W, hW⟩ : ∃ W, W = w.alloc (.cells #[.int .i64 1, .string ⟨#[102, 97, 108, 115, 101]⟩, .int .u64 nm, .int .i64 p, .int .i64 en] 47) := ⟨_, rfl⟩
  have hB : Below w.heap.size w W := by rw [hW]; exact below_alloc (Below.refl _ _) _
  have hX : W.heap[w.heap.size]? = some (.cells #[.int .i64 1, .string ⟨#[102, 97, 108, 115, 101]⟩, .int .u64 nm, .int .i64 p, .int .i64 en] 47 (0, 0)) := by rw [hW]; exact blk_new _ _
  obtain ⟨b, hb⟩ : ∃ b, b = w.heap.size := ⟨_, rfl⟩
  rw [← hb] at hX
  have HI := Aside0.mk (h.below hB)
  have HV := Aside0.mk ((Hv.refl (vn := vn) (vd := vd) (by have := h.glt; omega) : Hv w w g vn vd vn vd).below hB (by have := h.glt; omega))
  obtain ⟨z0, z1, z2, z3, z4⟩ := tokBox (t := ⟨1, ⟨#[102, 97, 108, 115, 101]⟩, nm, p, en⟩) hX
  have HX := Aside0.mk hX
  have HW := Aside0.mk hW
  have HB := Aside0.mk hb
  have HT := Aside0.mk ht
  have HK := Aside0.mk hk
  have HG := Aside0.mk hG
  have HTK := Aside0.mk (stake_calls W A c L g vn vd ts lev ns dp true hG (fun _ => hk) HI.out)
  rw [hW, hb] at z0 z1 z2 z3 z4
  clear h hk hl hX hW hb hB ht hG
  go_enter Try.func93, Try.ntmps93
  go_wp2_with fail
  rw [← HW.out]
  refine HTK.out.mono ?_
  rintro e w1 ⟨rfl, hi1, hg1⟩
  unfold tokV
  have HI1 := Aside0.mk (show Is w1 A c L g vn vd (.ok ts.tail lev ns dp) from hi1)
  have hv1 : Hv W w1 g vn vd vn vd := Hv.of_grown hg1 (by have := HI.out.glt; omega)
  have hx1 := HI.out.box_keep hv1 HX.out
  have HV1 := Aside0.mk (HV.out.trans hv1)
  have HPT := Aside0.mk (gput (N := 33554431) (k := 0) (l := lev) (P.node 4 p) HI1.out (fun ts' lev' ns' dp' e => by cases e; exact ⟨by have := HSZ.out; omega, Nat.zero_le _, rfl⟩) (by omega))
  obtain ⟨y0, y1, y2, y3, y4⟩ := tokBox (t := ⟨1, ⟨#[102, 97, 108, 115, 101]⟩, nm, p, en⟩) hx1
  rw [HB.out] at y0 y1 y2 y3 y4
  clear hi1 hg1 hv1 hx1
  go_wp2_with fail
  refine HPT.out.mono ?_
  rintro e w2 ⟨rfl, vn2, vd2, hi2, hv2⟩
  have HI2 := Aside0.mk hi2
  have HV2 := Aside0.mk (HV1.out.trans hv2)
  clear hi2 hv2
  go_wp2
  refine bodyPost_ret (results_none rfl _ _ _) rfl ?_
  refine ⟨rfl, vn2, vd2, ?_, HV2.out⟩
  have := HI2.out
  rw [← st_nil, pu_st (kids := []) (k := 0) (hk := rfl)] at this
  exact this
set_option maxHeartbeats 8000000 in
set_option maxRecDepth 100000 in
theorem named_none (w : World) (A : Option Addr) (c : Nat) (L : List Tk) (g : Nat) (vn vd : Value) (ts : List Tk) (lev : Nat) (ns : List Nd) (dp : List Int) (s : ByteArray) (nm p en : Int) (hG : Good L) (h : Is w A c L g vn vd (.ok ts lev ns dp)) (ht : hd ts = ⟨1, s, nm, p, en⟩) (h1 : s ≠ P.sTrue) (h2 : s ≠ P.sFalse) (h0 : opOf s = 0) :
    Calls Try.prog 93 #[.pointer (some ⟨g, 0, none⟩), .agg #[.int .i64 1, .string s, .int .u64 nm, .int .i64 p, .int .i64 en]] w fun e w' => e = .returned (.tuple #[]) ∧ Ends w A c L g vn vd (.bad 90 p) w' := by
  have hk : (hd ts).f0 ≠ 0 := by rw [ht]; exact (by decide : (1 : Int) ≠ 0)
  have hl := P.hd_len hk
  have HSZ : Aside0 (ns.length + 1 + ts.tail.length ≤ 33554432) := ⟨by obtain ⟨q, _, _, _, h4⟩ := h; have := h4.sz; omega⟩
  obtain ⟨W, hW⟩ : ∃ W, W = w.alloc (.cells #[.int .i64 1, .string s, .int .u64 nm, .int .i64 p, .int .i64 en] 47) := ⟨_, rfl⟩
  have hB : Below w.heap.size w W := by rw [hW]; exact below_alloc (Below.refl _ _) _
  have hX : W.heap[w.heap.size]? = some (.cells #[.int .i64 1, .string s, .int .u64 nm, .int .i64 p, .int .i64 en] 47 (0, 0)) := by rw [hW]; exact blk_new _ _
  obtain ⟨b, hb⟩ : ∃ b, b = w.heap.size := ⟨_, rfl⟩
  rw [← hb] at hX
  have HI := Aside0.mk (h.below hB)
  have HV := Aside0.mk ((Hv.refl (vn := vn) (vd := vd) (by have := h.glt; omega) : Hv w w g vn vd vn vd).below hB (by have := h.glt; omega))
  obtain ⟨z0, z1, z2, z3, z4⟩ := tokBox (t := ⟨1, s, nm, p, en⟩) hX
  have HX := Aside0.mk hX
  have HW := Aside0.mk hW
  have HB := Aside0.mk hb
  have HT := Aside0.mk ht
  have HK := Aside0.mk hk
  have HG := Aside0.mk hG
  obtain ⟨M1, M2, M3, M4, u1, u2, u3, u4, u5, hM⟩ := four_runs W s
  have hop : opOf s = 0 := h0
  rw [hop] at u5
  have HIM := Aside0.mk (HI.out.below hM)
  have HVM := Aside0.mk (HV.out.below hM (by have := h.glt; have := hB.size; omega))
  have hx4 := blk_below HX.out hM
  have HXM := Aside0.mk hx4
  obtain ⟨x0, x1, x2, x3, x4⟩ := tokBox (t := ⟨1, s, nm, p, en⟩) hx4
  have hmm := @run_makeMap Try.prog
  have hsz : W.heap.size = w.heap.size + 1 := by rw [hW]; exact Array.size_push _
  rw [hsz] at u1 u2 u3 u4 u5
  rw [hW] at u1
  rw [hb] at x0 x1 x2 x3 x4
  rw [hW, hb] at z0 z1 z2 z3 z4
  have d1 : (s.toList == [116, 114, 117, 101]) = false := ba_ne h1 (by rw [ByteArray.toList_eq]; rfl)
  have d2 : (s.toList == [102, 97, 108, 115, 101]) = false := ba_ne h2 (by rw [ByteArray.toList_eq]; rfl)
  have HTK := Aside0.mk (stake_calls M4 A c L g vn vd ts lev ns dp false hG (fun h => by cases h) HIM.out)
  clear h hk hl hX hW hb hB ht hG hM hx4 hsz hop h0 h1 h2
  go_enter Try.func93, Try.ntmps93
  go_wp2_with fail
  refine HTK.out.mono ?_
  rintro e w1 ⟨rfl, hi1, hg1⟩
  unfold tokV
  have HI1 := Aside0.mk (show Is w1 A c L g vn vd (.bad 90 p) from by have := hi1; rw [show Sg.step (.ok ts lev ns dp) (P.want false) = .bad 90 (hd ts).f3 from rfl, HT.out] at this; exact this)
  have HV1 := Aside0.mk (HVM.out.trans (Hv.of_grown hg1 (by have := HIM.out.glt; omega)))
  clear hi1 hg1
  go_wp2
  refine bodyPost_ret (results_none rfl _ _ _) rfl ?_
  exact ⟨rfl, vn, vd, HI1.out, HV1.out⟩
set_option maxHeartbeats 8000000 in
set_option maxRecDepth 100000 in
theorem named_cat_over (w : World) (A : Option Addr) (c : Nat) (L : List Tk) (g : Nat) (vn vd : Value) (ts : List Tk) (lev : Nat) (ns : List Nd) (dp : List Int) (nm p en : Int) (hG : Good L) (h : Is w A c L g vn vd (.ok ts lev ns dp)) (ht : hd ts = ⟨1, ⟨#[99, 97, 116]⟩, nm, p, en⟩) (hlv : 100 ≤ lev) :
    Calls Try.prog 93 #[.pointer (some ⟨g, 0, none⟩), .agg #[.int .i64 1, .string ⟨#[99, 97, 116]⟩, .int .u64 nm, .int .i64 p, .int .i64 en]] w fun e w' => e = .returned (.tuple #[]) ∧ Ends w A c L g vn vd (.bad 91 p) w' := by
  have hk : (hd ts).f0 ≠ 0 := by rw [ht]; exact (by decide : (1 : Int) ≠ 0)
  have hl := P.hd_len hk
  have HSZ : Aside0 (ns.length + 1 + ts.tail.length ≤ 33554432) := ⟨by obtain ⟨q, _, _, _, h4⟩ := h; have := h4.sz; omega⟩
  obtain ⟨W, hW⟩ : ∃ W, W = w.alloc (.cells #[.int .i64 1, .string ⟨#[99, 97, 116]⟩, .int .u64 nm, .int .i64 p, .int .i64 en] 47) := ⟨_, rfl⟩
  have hB : Below w.heap.size w W := by rw [hW]; exact below_alloc (Below.refl _ _) _
  have hX : W.heap[w.heap.size]? = some (.cells #[.int .i64 1, .string ⟨#[99, 97, 116]⟩, .int .u64 nm, .int .i64 p, .int .i64 en] 47 (0, 0)) := by rw [hW]; exact blk_new _ _
  obtain ⟨b, hb⟩ : ∃ b, b = w.heap.size := ⟨_, rfl⟩
  rw [← hb] at hX
  have HI := Aside0.mk (h.below hB)
  have HV := Aside0.mk ((Hv.refl (vn := vn) (vd := vd) (by have := h.glt; omega) : Hv w w g vn vd vn vd).below hB (by have := h.glt; omega))
  obtain ⟨z0, z1, z2, z3, z4⟩ := tokBox (t := ⟨1, ⟨#[99, 97, 116]⟩, nm, p, en⟩) hX
  have HX := Aside0.mk hX
  have HW := Aside0.mk hW
  have HB := Aside0.mk hb
  have HT := Aside0.mk ht
  have HK := Aside0.mk hk
  have HG := Aside0.mk hG
  obtain ⟨M1, M2, M3, M4, u1, u2, u3, u4, u5, hM⟩ := four_runs W ⟨#[99, 97, 116]⟩
  have hop : opOf ⟨#[99, 97, 116]⟩ = 9 := by kernel_rfl
  rw [hop] at u5
  have HIM := Aside0.mk (HI.out.below hM)
  have HVM := Aside0.mk (HV.out.below hM (by have := h.glt; have := hB.size; omega))
  have hx4 := blk_below HX.out hM
  have HXM := Aside0.mk hx4
  obtain ⟨x0, x1, x2, x3, x4⟩ := tokBox (t := ⟨1, ⟨#[99, 97, 116]⟩, nm, p, en⟩) hx4
  have hmm := @run_makeMap Try.prog
  have hsz : W.heap.size = w.heap.size + 1 := by rw [hW]; exact Array.size_push _
  rw [hsz] at u1 u2 u3 u4 u5
  rw [hW] at u1
  rw [hb] at x0 x1 x2 x3 x4
  rw [hW, hb] at z0 z1 z2 z3 z4
  have hos : openS ⟨1, ⟨#[99, 97, 116]⟩, nm, p, en⟩ (.ok ts lev ns dp) = .bad 91 p := by unfold openS; simp only [if_pos hlv]
  have hod : decide (lev < 100) = false := decide_eq_false (by omega)
  have HOP := Aside0.mk (sopen_calls M4 A c L g vn vd ts lev ns dp ⟨1, ⟨#[99, 97, 116]⟩, nm, p, en⟩ HIM.out)
  rw [hos, hod] at HOP
  clear h hk hl hX hW hb hB ht hG hM hx4 hsz hop hos hod hlv
  go_enter Try.func93, Try.ntmps93
  go_wp2_with fail
  refine HOP.out.mono ?_
  rintro e w1 ⟨rfl, hi1, hg1⟩
  have HI1 := Aside0.mk hi1
  have HV1 := Aside0.mk (HVM.out.trans (Hv.of_grown hg1 (by have := HIM.out.glt; omega)))
  clear hi1 hg1
  go_wp2
  refine bodyPost_ret (results_none rfl _ _ _) rfl ?_
  exact ⟨rfl, vn, vd, HI1.out, HV1.out⟩
set_option maxHeartbeats 8000000 in
set_option maxRecDepth 100000 in
theorem named_rep_over (w : World) (A : Option Addr) (c : Nat) (L : List Tk) (g : Nat) (vn vd : Value) (ts : List Tk) (lev : Nat) (ns : List Nd) (dp : List Int) (nm p en : Int) (hG : Good L) (h : Is w A c L g vn vd (.ok ts lev ns dp)) (ht : hd ts = ⟨1, ⟨#[114, 101, 112]⟩, nm, p, en⟩) (hlv : 100 ≤ lev) :
    Calls Try.prog 93 #[.pointer (some ⟨g, 0, none⟩), .agg #[.int .i64 1, .string ⟨#[114, 101, 112]⟩, .int .u64 nm, .int .i64 p, .int .i64 en]] w fun e w' => e = .returned (.tuple #[]) ∧ Ends w A c L g vn vd (.bad 91 p) w' := by
  have hk : (hd ts).f0 ≠ 0 := by rw [ht]; exact (by decide : (1 : Int) ≠ 0)
  have hl := P.hd_len hk
  have HSZ : Aside0 (ns.length + 1 + ts.tail.length ≤ 33554432) := ⟨by obtain ⟨q, _, _, _, h4⟩ := h; have := h4.sz; omega⟩
  obtain ⟨W, hW⟩ : ∃ W, W = w.alloc (.cells #[.int .i64 1, .string ⟨#[114, 101, 112]⟩, .int .u64 nm, .int .i64 p, .int .i64 en] 47) := ⟨_, rfl⟩
  have hB : Below w.heap.size w W := by rw [hW]; exact below_alloc (Below.refl _ _) _
  have hX : W.heap[w.heap.size]? = some (.cells #[.int .i64 1, .string ⟨#[114, 101, 112]⟩, .int .u64 nm, .int .i64 p, .int .i64 en] 47 (0, 0)) := by rw [hW]; exact blk_new _ _
  obtain ⟨b, hb⟩ : ∃ b, b = w.heap.size := ⟨_, rfl⟩
  rw [← hb] at hX
  have HI := Aside0.mk (h.below hB)
  have HV := Aside0.mk ((Hv.refl (vn := vn) (vd := vd) (by have := h.glt; omega) : Hv w w g vn vd vn vd).below hB (by have := h.glt; omega))
  obtain ⟨z0, z1, z2, z3, z4⟩ := tokBox (t := ⟨1, ⟨#[114, 101, 112]⟩, nm, p, en⟩) hX
  have HX := Aside0.mk hX
  have HW := Aside0.mk hW
  have HB := Aside0.mk hb
  have HT := Aside0.mk ht
  have HK := Aside0.mk hk
  have HG := Aside0.mk hG
  obtain ⟨M1, M2, M3, M4, u1, u2, u3, u4, u5, hM⟩ := four_runs W ⟨#[114, 101, 112]⟩
  have hop : opOf ⟨#[114, 101, 112]⟩ = 10 := by kernel_rfl
  rw [hop] at u5
  have HIM := Aside0.mk (HI.out.below hM)
  have HVM := Aside0.mk (HV.out.below hM (by have := h.glt; have := hB.size; omega))
  have hx4 := blk_below HX.out hM
  have HXM := Aside0.mk hx4
  obtain ⟨x0, x1, x2, x3, x4⟩ := tokBox (t := ⟨1, ⟨#[114, 101, 112]⟩, nm, p, en⟩) hx4
  have hmm := @run_makeMap Try.prog
  have hsz : W.heap.size = w.heap.size + 1 := by rw [hW]; exact Array.size_push _
  rw [hsz] at u1 u2 u3 u4 u5
  rw [hW] at u1
  rw [hb] at x0 x1 x2 x3 x4
  rw [hW, hb] at z0 z1 z2 z3 z4
  have hos : openS ⟨1, ⟨#[114, 101, 112]⟩, nm, p, en⟩ (.ok ts lev ns dp) = .bad 91 p := by unfold openS; simp only [if_pos hlv]
  have hod : decide (lev < 100) = false := decide_eq_false (by omega)
  have HOP := Aside0.mk (sopen_calls M4 A c L g vn vd ts lev ns dp ⟨1, ⟨#[114, 101, 112]⟩, nm, p, en⟩ HIM.out)
  rw [hos, hod] at HOP
  clear h hk hl hX hW hb hB ht hG hM hx4 hsz hop hos hod hlv
  go_enter Try.func93, Try.ntmps93
  go_wp2_with fail
  refine HOP.out.mono ?_
  rintro e w1 ⟨rfl, hi1, hg1⟩
  have HI1 := Aside0.mk hi1
  have HV1 := Aside0.mk (HVM.out.trans (Hv.of_grown hg1 (by have := HIM.out.glt; omega)))
  clear hi1 hg1
  go_wp2
  refine bodyPost_ret (results_none rfl _ _ _) rfl ?_
  exact ⟨rfl, vn, vd, HI1.out, HV1.out⟩
set_option maxHeartbeats 8000000 in
set_option maxRecDepth 100000 in
theorem named_len_over (w : World) (A : Option Addr) (c : Nat) (L : List Tk) (g : Nat) (vn vd : Value) (ts : List Tk) (lev : Nat) (ns : List Nd) (dp : List Int) (nm p en : Int) (hG : Good L) (h : Is w A c L g vn vd (.ok ts lev ns dp)) (ht : hd ts = ⟨1, ⟨#[108, 101, 110]⟩, nm, p, en⟩) (hlv : 100 ≤ lev) :
    Calls Try.prog 93 #[.pointer (some ⟨g, 0, none⟩), .agg #[.int .i64 1, .string ⟨#[108, 101, 110]⟩, .int .u64 nm, .int .i64 p, .int .i64 en]] w fun e w' => e = .returned (.tuple #[]) ∧ Ends w A c L g vn vd (.bad 91 p) w' := by
  have hk : (hd ts).f0 ≠ 0 := by rw [ht]; exact (by decide : (1 : Int) ≠ 0)
  have hl := P.hd_len hk
  have HSZ : Aside0 (ns.length + 1 + ts.tail.length ≤ 33554432) := ⟨by obtain ⟨q, _, _, _, h4⟩ := h; have := h4.sz; omega⟩
  obtain ⟨W, hW⟩ : ∃ W, W = w.alloc (.cells #[.int .i64 1, .string ⟨#[108, 101, 110]⟩, .int .u64 nm, .int .i64 p, .int .i64 en] 47) := ⟨_, rfl⟩
  have hB : Below w.heap.size w W := by rw [hW]; exact below_alloc (Below.refl _ _) _
  have hX : W.heap[w.heap.size]? = some (.cells #[.int .i64 1, .string ⟨#[108, 101, 110]⟩, .int .u64 nm, .int .i64 p, .int .i64 en] 47 (0, 0)) := by rw [hW]; exact blk_new _ _
  obtain ⟨b, hb⟩ : ∃ b, b = w.heap.size := ⟨_, rfl⟩
  rw [← hb] at hX
  have HI := Aside0.mk (h.below hB)
  have HV := Aside0.mk ((Hv.refl (vn := vn) (vd := vd) (by have := h.glt; omega) : Hv w w g vn vd vn vd).below hB (by have := h.glt; omega))
  obtain ⟨z0, z1, z2, z3, z4⟩ := tokBox (t := ⟨1, ⟨#[108, 101, 110]⟩, nm, p, en⟩) hX
  have HX := Aside0.mk hX
  have HW := Aside0.mk hW
  have HB := Aside0.mk hb
  have HT := Aside0.mk ht
  have HK := Aside0.mk hk
  have HG := Aside0.mk hG
  obtain ⟨M1, M2, M3, M4, u1, u2, u3, u4, u5, hM⟩ := four_runs W ⟨#[108, 101, 110]⟩
  have hop : opOf ⟨#[108, 101, 110]⟩ = 11 := by kernel_rfl
  rw [hop] at u5
  have HIM := Aside0.mk (HI.out.below hM)
  have HVM := Aside0.mk (HV.out.below hM (by have := h.glt; have := hB.size; omega))
  have hx4 := blk_below HX.out hM
  have HXM := Aside0.mk hx4
  obtain ⟨x0, x1, x2, x3, x4⟩ := tokBox (t := ⟨1, ⟨#[108, 101, 110]⟩, nm, p, en⟩) hx4
  have hmm := @run_makeMap Try.prog
  have hsz : W.heap.size = w.heap.size + 1 := by rw [hW]; exact Array.size_push _
  rw [hsz] at u1 u2 u3 u4 u5
  rw [hW] at u1
  rw [hb] at x0 x1 x2 x3 x4
  rw [hW, hb] at z0 z1 z2 z3 z4
  have hos : openS ⟨1, ⟨#[108, 101, 110]⟩, nm, p, en⟩ (.ok ts lev ns dp) = .bad 91 p := by unfold openS; simp only [if_pos hlv]
  have hod : decide (lev < 100) = false := decide_eq_false (by omega)
  have HOP := Aside0.mk (sopen_calls M4 A c L g vn vd ts lev ns dp ⟨1, ⟨#[108, 101, 110]⟩, nm, p, en⟩ HIM.out)
  rw [hos, hod] at HOP
  clear h hk hl hX hW hb hB ht hG hM hx4 hsz hop hos hod hlv
  go_enter Try.func93, Try.ntmps93
  go_wp2_with fail
  refine HOP.out.mono ?_
  rintro e w1 ⟨rfl, hi1, hg1⟩
  have HI1 := Aside0.mk hi1
  have HV1 := Aside0.mk (HVM.out.trans (Hv.of_grown hg1 (by have := HIM.out.glt; omega)))
  clear hi1 hg1
  go_wp2
  refine bodyPost_ret (results_none rfl _ _ _) rfl ?_
  exact ⟨rfl, vn, vd, HI1.out, HV1.out⟩
set_option maxHeartbeats 8000000 in
set_option maxRecDepth 100000 in
theorem named_hex_over (w : World) (A : Option Addr) (c : Nat) (L : List Tk) (g : Nat) (vn vd : Value) (ts : List Tk) (lev : Nat) (ns : List Nd) (dp : List Int) (nm p en : Int) (hG : Good L) (h : Is w A c L g vn vd (.ok ts lev ns dp)) (ht : hd ts = ⟨1, ⟨#[104, 101, 120]⟩, nm, p, en⟩) (hlv : 100 ≤ lev) :
    Calls Try.prog 93 #[.pointer (some ⟨g, 0, none⟩), .agg #[.int .i64 1, .string ⟨#[104, 101, 120]⟩, .int .u64 nm, .int .i64 p, .int .i64 en]] w fun e w' => e = .returned (.tuple #[]) ∧ Ends w A c L g vn vd (.bad 91 p) w' := by
  have hk : (hd ts).f0 ≠ 0 := by rw [ht]; exact (by decide : (1 : Int) ≠ 0)
  have hl := P.hd_len hk
  have HSZ : Aside0 (ns.length + 1 + ts.tail.length ≤ 33554432) := ⟨by obtain ⟨q, _, _, _, h4⟩ := h; have := h4.sz; omega⟩
  obtain ⟨W, hW⟩ : ∃ W, W = w.alloc (.cells #[.int .i64 1, .string ⟨#[104, 101, 120]⟩, .int .u64 nm, .int .i64 p, .int .i64 en] 47) := ⟨_, rfl⟩
  have hB : Below w.heap.size w W := by rw [hW]; exact below_alloc (Below.refl _ _) _
  have hX : W.heap[w.heap.size]? = some (.cells #[.int .i64 1, .string ⟨#[104, 101, 120]⟩, .int .u64 nm, .int .i64 p, .int .i64 en] 47 (0, 0)) := by rw [hW]; exact blk_new _ _
  obtain ⟨b, hb⟩ : ∃ b, b = w.heap.size := ⟨_, rfl⟩
  rw [← hb] at hX
  have HI := Aside0.mk (h.below hB)
  have HV := Aside0.mk ((Hv.refl (vn := vn) (vd := vd) (by have := h.glt; omega) : Hv w w g vn vd vn vd).below hB (by have := h.glt; omega))
  obtain ⟨z0, z1, z2, z3, z4⟩ := tokBox (t := ⟨1, ⟨#[104, 101, 120]⟩, nm, p, en⟩) hX
  have HX := Aside0.mk hX
  have HW := Aside0.mk hW
  have HB := Aside0.mk hb
  have HT := Aside0.mk ht
  have HK := Aside0.mk hk
  have HG := Aside0.mk hG
  obtain ⟨M1, M2, M3, M4, u1, u2, u3, u4, u5, hM⟩ := four_runs W ⟨#[104, 101, 120]⟩
  have hop : opOf ⟨#[104, 101, 120]⟩ = 12 := by kernel_rfl
  rw [hop] at u5
  have HIM := Aside0.mk (HI.out.below hM)
  have HVM := Aside0.mk (HV.out.below hM (by have := h.glt; have := hB.size; omega))
  have hx4 := blk_below HX.out hM
  have HXM := Aside0.mk hx4
  obtain ⟨x0, x1, x2, x3, x4⟩ := tokBox (t := ⟨1, ⟨#[104, 101, 120]⟩, nm, p, en⟩) hx4
  have hmm := @run_makeMap Try.prog
  have hsz : W.heap.size = w.heap.size + 1 := by rw [hW]; exact Array.size_push _
  rw [hsz] at u1 u2 u3 u4 u5
  rw [hW] at u1
  rw [hb] at x0 x1 x2 x3 x4
  rw [hW, hb] at z0 z1 z2 z3 z4
  have hos : openS ⟨1, ⟨#[104, 101, 120]⟩, nm, p, en⟩ (.ok ts lev ns dp) = .bad 91 p := by unfold openS; simp only [if_pos hlv]
  have hod : decide (lev < 100) = false := decide_eq_false (by omega)
  have HOP := Aside0.mk (sopen_calls M4 A c L g vn vd ts lev ns dp ⟨1, ⟨#[104, 101, 120]⟩, nm, p, en⟩ HIM.out)
  rw [hos, hod] at HOP
  clear h hk hl hX hW hb hB ht hG hM hx4 hsz hop hos hod hlv
  go_enter Try.func93, Try.ntmps93
  go_wp2_with fail
  refine HOP.out.mono ?_
  rintro e w1 ⟨rfl, hi1, hg1⟩
  have HI1 := Aside0.mk hi1
  have HV1 := Aside0.mk (HVM.out.trans (Hv.of_grown hg1 (by have := HIM.out.glt; omega)))
  clear hi1 hg1
  go_wp2
  refine bodyPost_ret (results_none rfl _ _ _) rfl ?_
  exact ⟨rfl, vn, vd, HI1.out, HV1.out⟩
end Go.Proofs.Ytbdcndkafaajpaa.A
end
section
set_option linter.unusedVariables false
set_option linter.unusedSimpArgs false
namespace Go.Proofs.Ytbdcndkafaajpaa.A
open Go.RowKit Go.Proofs.Ytbdcndkafaajpaa.X Go.Proofs.YtbdcndkafaajpaaW.PrintWords Go.Proofs.YtbdcndkafaajpaaW.PrintLast Go.Proofs.YtbdcndkafaajpaaW.PrintMore
open Go.Proofs.Ytbdcndkafaajpaa.P (Nd EO Res hd isT isM takeM mxl comb mk1)
theorem At_pu {N k l : Nat} {s : Sg} (h : s.At N k l) (n : Nd) : (puG n k s).At (N + 1) 0 l := by
  intro ts lev ns dp e
  cases s with
  | bad e p => cases e
  | ok ts0 lev0 ns0 dp0 =>
    obtain ⟨h1, h2, h3⟩ := h _ _ _ _ rfl
    unfold puG putS at e
    simp only at e
    split at e
    · cases e
    · cases e
      exact ⟨by rw [List.length_append, List.length_singleton]; omega, Nat.zero_le _, h3⟩
theorem At_st (lev : Nat) (ns : List Nd) (dp : List Int) (r : List Tk) {N : Nat} (h : ns.length + r.length ≤ N) : (stS lev ns dp [] r).At N 0 lev := by
  intro ts lev' ns' dp' e
  rw [st_nil] at e
  cases e
  exact ⟨h, Nat.zero_le _, rfl⟩
set_option maxHeartbeats 8000000 in
set_option maxRecDepth 100000 in
theorem named_len (m : Nat) (HE : CT m .expr 49) (w : World) (A : Option Addr) (c : Nat) (L : List Tk) (g : Nat) (vn vd : Value) (ts : List Tk) (lev : Nat) (ns : List Nd) (dp : List Int) (nm p en : Int) (hG : Good L) (h : Is w A c L g vn vd (.ok ts lev ns dp)) (ht : hd ts = ⟨1, ⟨#[108, 101, 110]⟩, nm, p, en⟩) (hlv : lev < 100) (hf : ∀ pl, ((takeM 40 ts.tail).bind fun _ r => (P.X m .expr (lev + 1) r).bind fun a r => (takeM 41 r).bind fun _ r => comb (P.node 11 p) [a] r) ≠ .bad 0 pl) :
    Calls Try.prog 93 #[.pointer (some ⟨g, 0, none⟩), .agg #[.int .i64 1, .string ⟨#[108, 101, 110]⟩, .int .u64 nm, .int .i64 p, .int .i64 en]] w fun e w' => e = .returned (.tuple #[]) ∧ Ends w A c L g vn vd (outS lev ns dp ((takeM 40 ts.tail).bind fun _ r => (P.X m .expr (lev + 1) r).bind fun a r => (takeM 41 r).bind fun _ r => comb (P.node 11 p) [a] r)) w' := by
  have hk : (hd ts).f0 ≠ 0 := by rw [ht]; exact (by decide : (1 : Int) ≠ 0)
  have hl := P.hd_len hk
  have HSZ : Aside0 (ns.length + 1 + ts.tail.length ≤ 33554432) := ⟨by obtain ⟨q, _, _, _, h4⟩ := h; have := h4.sz; omega⟩
  obtain ⟨W, hW⟩ : ∃ W, W = w.alloc (.cells #[.int .i64 1, .string ⟨#[108, 101, 110]⟩, .int .u64 nm, .int .i64 p, .int .i64 en] 47) := ⟨_, rfl⟩
  have hB : Below w.heap.size w W := by rw [hW]; exact below_alloc (Below.refl _ _) _
  have hX : W.heap[w.heap.size]? = some (.cells #[.int .i64 1, .string ⟨#[108, 101, 110]⟩, .int .u64 nm, .int .i64 p, .int .i64 en] 47 (0, 0)) := by rw [hW]; exact blk_new _ _
  obtain ⟨b, hb⟩ : ∃ b, b = w.heap.size := ⟨_, rfl⟩
  rw [← hb] at hX
  have HI := Aside0.mk (h.below hB)
  have HV := Aside0.mk ((Hv.refl (vn := vn) (vd := vd) (by have := h.glt; omega) : Hv w w g vn vd vn vd).below hB (by have := h.glt; omega))
  obtain ⟨z0, z1, z2, z3, z4⟩ := tokBox (t := ⟨1, ⟨#[108, 101, 110]⟩, nm, p, en⟩) hX
  have HX := Aside0.mk hX
  have HW := Aside0.mk hW
  have HB := Aside0.mk hb
  have HT := Aside0.mk ht
  have HK := Aside0.mk hk
  have HG := Aside0.mk hG
  obtain ⟨M1, M2, M3, M4, u1, u2, u3, u4, u5, hM⟩ := four_runs W ⟨#[108, 101, 110]⟩
  have hop : opOf ⟨#[108, 101, 110]⟩ = 11 := by kernel_rfl
  rw [hop] at u5
  have HIM := Aside0.mk (HI.out.below hM)
  have HVM := Aside0.mk (HV.out.below hM (by have := h.glt; have := hB.size; omega))
  have hx4 := blk_below HX.out hM
  have HXM := Aside0.mk hx4
  obtain ⟨x0, x1, x2, x3, x4⟩ := tokBox (t := ⟨1, ⟨#[108, 101, 110]⟩, nm, p, en⟩) hx4
  have hmm := @run_makeMap Try.prog
  have hsz : W.heap.size = w.heap.size + 1 := by rw [hW]; exact Array.size_push _
  rw [hsz] at u1 u2 u3 u4 u5
  rw [hW] at u1
  rw [hb] at x0 x1 x2 x3 x4
  rw [hW, hb] at z0 z1 z2 z3 z4
  have hos : openS ⟨1, ⟨#[108, 101, 110]⟩, nm, p, en⟩ (.ok ts lev ns dp) = .ok ts (lev + 1) ns dp := by unfold openS; simp only [if_neg (by omega : ¬ 100 ≤ lev)]
  have hod : decide (lev < 100) = true := decide_eq_true (by omega)
  have HOP := Aside0.mk (sopen_calls M4 A c L g vn vd ts lev ns dp ⟨1, ⟨#[108, 101, 110]⟩, nm, p, en⟩ HIM.out)
  rw [hos, hod] at HOP
  have HFL : Aside0 (∀ pl, (puG (P.node 11 p) 1 ((goS m .expr ((stS (lev + 1) ns dp [] ts.tail).step (takeM 40))).step (takeM 41))).down ≠ .bad 0 pl) := ⟨fun pl e => by
    rw [one_st] at e
    cases hr : ((takeM 40 ts.tail).bind fun _ r => (P.X m .expr (lev + 1) r).bind fun a r => (takeM 41 r).bind fun _ r => comb (P.node 11 p) [a] r) with
    | ok a r => rw [hr] at e; cases e
    | bad e0 p0 =>
      rw [hr] at e
      injection e with e1 e2
      subst e1
      exact hf _ hr⟩
  have HLAW := Aside0.mk (one_st m lev ns dp ts.tail (P.node 11 p))
  have HE := Aside0.mk HE
  clear h hk hl hX hW hb hB ht hG hM hx4 hsz hop hos hod hlv hf
  go_enter Try.func93, Try.ntmps93
  go_wp2_with fail
  refine HOP.out.mono ?_
  rintro e w1 ⟨rfl, hi1, hg1⟩
  have HI1 := Aside0.mk hi1
  have HV1 := Aside0.mk (show Hv M4 w1 g vn vd vn vd from Hv.of_grown hg1 (by have := HIM.out.glt; omega))
  have HTK := Aside0.mk (stake_calls w1 A c L g vn vd ts (lev + 1) ns dp true HG.out (fun _ => HK.out) HI1.out)
  clear hi1 hg1
  go_wp2_with fail
  refine HTK.out.mono ?_
  rintro e w2 ⟨rfl, hi2, hg2⟩
  unfold tokV
  have HI2 := Aside0.mk (show Is w2 A c L g vn vd (stS (lev + 1) ns dp [] ts.tail) from by rw [st_nil]; exact hi2)
  have HV2 := Aside0.mk (HV1.out.trans (Hv.of_grown hg2 (by have := HI1.out.glt; omega)))
  have HA2 := Aside0.mk (At_st (lev + 1) ns dp ts.tail (N := 33554431) (by have := HSZ.out; omega))
  clear hi2 hg2
  have HMK := Aside0.mk (gmark 40 HG.out HI2.out)
  go_wp2_with fail
  refine HMK.out.mono ?_
  rintro e w3 ⟨⟨tq, rfl⟩, hi, hv⟩
  have HI3 := Aside0.mk hi
  have HV3 := Aside0.mk (HV2.out.trans hv)
  have HA3 := Aside0.mk (At_step HA2.out 40)
  clear hi hv HMK
  have HXP := Aside0.mk (gexpr HE.out HG.out HI3.out (fun p e => HFL.out p (by rw [e]; rfl)))
  go_wp2_with fail
  refine HXP.out.mono ?_
  rintro e w4 ⟨rfl, vn4, vd4, hi, hv⟩
  have HI4 := Aside0.mk hi
  have HV4 := Aside0.mk (HV3.out.trans hv)
  have HA4 := Aside0.mk (At_go (m := m) (f := .expr) HA3.out rfl)
  clear hi hv HXP
  have HMK := Aside0.mk (gmark 41 HG.out HI4.out)
  go_wp2_with fail
  refine HMK.out.mono ?_
  rintro e w5 ⟨⟨tq, rfl⟩, hi, hv⟩
  have HI5 := Aside0.mk hi
  have HV5 := Aside0.mk (HV4.out.trans hv)
  have HA5 := Aside0.mk (At_step HA4.out 41)
  clear hi hv HMK
  obtain ⟨y0, y1, y2, y3, y4⟩ := tokBox (t := ⟨1, ⟨#[108, 101, 110]⟩, nm, p, en⟩) (HIM.out.box_keep HV5.out HXM.out)
  rw [HB.out] at y0 y1 y2 y3 y4
  obtain ⟨Wn, hWn⟩ : ∃ Wn, Wn = w5.alloc (.cells #[.int .i64 11, .int .i64 0, .int .u64 0, .string ⟨#[]⟩, .int .i64 p] 49) := ⟨_, rfl⟩
  have hBn : Below w5.heap.size w5 Wn := by rw [hWn]; exact below_alloc (Below.refl _ _) _
  have hXn : Wn.heap[w5.heap.size]? = some (.cells #[.int .i64 11, .int .i64 0, .int .u64 0, .string ⟨#[]⟩, .int .i64 p] 49 (0, 0)) := by rw [hWn]; exact blk_new _ _
  have HIn := Aside0.mk (HI5.out.below hBn)
  have HVn := Aside0.mk (HV5.out.below hBn (by have := HI5.out.glt; omega))
  obtain ⟨k0, k1, k2, k3, k4⟩ := nodeBox (n := ⟨11, 0, 0, ⟨#[]⟩, p⟩) hXn
  have HPT := Aside0.mk (gput (P.node 11 p) HIn.out HA5.out (by omega))
  have HWn := Aside0.mk hWn
  rw [hWn] at k0 k1 k2 k3 k4
  clear hWn hBn hXn
  go_wp2_with fail
  rw [← HWn.out]
  refine HPT.out.mono ?_
  rintro e wp ⟨rfl, vnp, vdp, hip, hvp⟩
  have HVp := Aside0.mk (HVn.out.trans hvp)
  obtain ⟨lv, l4, f4, hid, hvd⟩ := glevel hip (At_pu HA5.out (P.node 11 p)) (by omega)
  have HID := Aside0.mk hid
  have HVD := Aside0.mk (HVp.out.trans hvd)
  clear hip hvp hid hvd
  go_wp2
  go_end0
  refine ⟨rfl, vnp, vdp, ?_, HVM.out.trans HVD.out⟩
  rw [← HLAW.out]
  exact HID.out
set_option maxHeartbeats 8000000 in
set_option maxRecDepth 100000 in
theorem named_hex (m : Nat) (HE : CT m .expr 49) (w : World) (A : Option Addr) (c : Nat) (L : List Tk) (g : Nat) (vn vd : Value) (ts : List Tk) (lev : Nat) (ns : List Nd) (dp : List Int) (nm p en : Int) (hG : Good L) (h : Is w A c L g vn vd (.ok ts lev ns dp)) (ht : hd ts = ⟨1, ⟨#[104, 101, 120]⟩, nm, p, en⟩) (hlv : lev < 100) (hf : ∀ pl, ((takeM 40 ts.tail).bind fun _ r => (P.X m .expr (lev + 1) r).bind fun a r => (takeM 41 r).bind fun _ r => comb (P.node 12 p) [a] r) ≠ .bad 0 pl) :
    Calls Try.prog 93 #[.pointer (some ⟨g, 0, none⟩), .agg #[.int .i64 1, .string ⟨#[104, 101, 120]⟩, .int .u64 nm, .int .i64 p, .int .i64 en]] w fun e w' => e = .returned (.tuple #[]) ∧ Ends w A c L g vn vd (outS lev ns dp ((takeM 40 ts.tail).bind fun _ r => (P.X m .expr (lev + 1) r).bind fun a r => (takeM 41 r).bind fun _ r => comb (P.node 12 p) [a] r)) w' := by
  have hk : (hd ts).f0 ≠ 0 := by rw [ht]; exact (by decide : (1 : Int) ≠ 0)
  have hl := P.hd_len hk
  have HSZ : Aside0 (ns.length + 1 + ts.tail.length ≤ 33554432) := ⟨by obtain ⟨q, _, _, _, h4⟩ := h; have := h4.sz; omega⟩
  obtain ⟨W, hW⟩ : ∃ W, W = w.alloc (.cells #[.int .i64 1, .string ⟨#[104, 101, 120]⟩, .int .u64 nm, .int .i64 p, .int .i64 en] 47) := ⟨_, rfl⟩
  have hB : Below w.heap.size w W := by rw [hW]; exact below_alloc (Below.refl _ _) _
  have hX : W.heap[w.heap.size]? = some (.cells #[.int .i64 1, .string ⟨#[104, 101, 120]⟩, .int .u64 nm, .int .i64 p, .int .i64 en] 47 (0, 0)) := by rw [hW]; exact blk_new _ _
  obtain ⟨b, hb⟩ : ∃ b, b = w.heap.size := ⟨_, rfl⟩
  rw [← hb] at hX
  have HI := Aside0.mk (h.below hB)
  have HV := Aside0.mk ((Hv.refl (vn := vn) (vd := vd) (by have := h.glt; omega) : Hv w w g vn vd vn vd).below hB (by have := h.glt; omega))
  obtain ⟨z0, z1, z2, z3, z4⟩ := tokBox (t := ⟨1, ⟨#[104, 101, 120]⟩, nm, p, en⟩) hX
  have HX := Aside0.mk hX
  have HW := Aside0.mk hW
  have HB := Aside0.mk hb
  have HT := Aside0.mk ht
  have HK := Aside0.mk hk
  have HG := Aside0.mk hG
  obtain ⟨M1, M2, M3, M4, u1, u2, u3, u4, u5, hM⟩ := four_runs W ⟨#[104, 101, 120]⟩
  have hop : opOf ⟨#[104, 101, 120]⟩ = 12 := by kernel_rfl
  rw [hop] at u5
  have HIM := Aside0.mk (HI.out.below hM)
  have HVM := Aside0.mk (HV.out.below hM (by have := h.glt; have := hB.size; omega))
  have hx4 := blk_below HX.out hM
  have HXM := Aside0.mk hx4
  obtain ⟨x0, x1, x2, x3, x4⟩ := tokBox (t := ⟨1, ⟨#[104, 101, 120]⟩, nm, p, en⟩) hx4
  have hmm := @run_makeMap Try.prog
  have hsz : W.heap.size = w.heap.size + 1 := by rw [hW]; exact Array.size_push _
  rw [hsz] at u1 u2 u3 u4 u5
  rw [hW] at u1
  rw [hb] at x0 x1 x2 x3 x4
  rw [hW, hb] at z0 z1 z2 z3 z4
  have hos : openS ⟨1, ⟨#[104, 101, 120]⟩, nm, p, en⟩ (.ok ts lev ns dp) = .ok ts (lev + 1) ns dp := by unfold openS; simp only [if_neg (by omega : ¬ 100 ≤ lev)]
  have hod : decide (lev < 100) = true := decide_eq_true (by omega)
  have HOP := Aside0.mk (sopen_calls M4 A c L g vn vd ts lev ns dp ⟨1, ⟨#[104, 101, 120]⟩, nm, p, en⟩ HIM.out)
  rw [hos, hod] at HOP
  have HFL : Aside0 (∀ pl, (puG (P.node 12 p) 1 ((goS m .expr ((stS (lev + 1) ns dp [] ts.tail).step (takeM 40))).step (takeM 41))).down ≠ .bad 0 pl) := ⟨fun pl e => by
    rw [one_st] at e
    cases hr : ((takeM 40 ts.tail).bind fun _ r => (P.X m .expr (lev + 1) r).bind fun a r => (takeM 41 r).bind fun _ r => comb (P.node 12 p) [a] r) with
    | ok a r => rw [hr] at e; cases e
    | bad e0 p0 =>
      rw [hr] at e
      injection e with e1 e2
      subst e1
      exact hf _ hr⟩
  have HLAW := Aside0.mk (one_st m lev ns dp ts.tail (P.node 12 p))
  have HE := Aside0.mk HE
  clear h hk hl hX hW hb hB ht hG hM hx4 hsz hop hos hod hlv hf
  go_enter Try.func93, Try.ntmps93
  go_wp2_with fail
  refine HOP.out.mono ?_
  rintro e w1 ⟨rfl, hi1, hg1⟩
  have HI1 := Aside0.mk hi1
  have HV1 := Aside0.mk (show Hv M4 w1 g vn vd vn vd from Hv.of_grown hg1 (by have := HIM.out.glt; omega))
  have HTK := Aside0.mk (stake_calls w1 A c L g vn vd ts (lev + 1) ns dp true HG.out (fun _ => HK.out) HI1.out)
  clear hi1 hg1
  go_wp2_with fail
  refine HTK.out.mono ?_
  rintro e w2 ⟨rfl, hi2, hg2⟩
  unfold tokV
  have HI2 := Aside0.mk (show Is w2 A c L g vn vd (stS (lev + 1) ns dp [] ts.tail) from by rw [st_nil]; exact hi2)
  have HV2 := Aside0.mk (HV1.out.trans (Hv.of_grown hg2 (by have := HI1.out.glt; omega)))
  have HA2 := Aside0.mk (At_st (lev + 1) ns dp ts.tail (N := 33554431) (by have := HSZ.out; omega))
  clear hi2 hg2
  have HMK := Aside0.mk (gmark 40 HG.out HI2.out)
  go_wp2_with fail
  refine HMK.out.mono ?_
  rintro e w3 ⟨⟨tq, rfl⟩, hi, hv⟩
  have HI3 := Aside0.mk hi
  have HV3 := Aside0.mk (HV2.out.trans hv)
  have HA3 := Aside0.mk (At_step HA2.out 40)
  clear hi hv HMK
  have HXP := Aside0.mk (gexpr HE.out HG.out HI3.out (fun p e => HFL.out p (by rw [e]; rfl)))
  go_wp2_with fail
  refine HXP.out.mono ?_
  rintro e w4 ⟨rfl, vn4, vd4, hi, hv⟩
  have HI4 := Aside0.mk hi
  have HV4 := Aside0.mk (HV3.out.trans hv)
  have HA4 := Aside0.mk (At_go (m := m) (f := .expr) HA3.out rfl)
  clear hi hv HXP
  have HMK := Aside0.mk (gmark 41 HG.out HI4.out)
  go_wp2_with fail
  refine HMK.out.mono ?_
  rintro e w5 ⟨⟨tq, rfl⟩, hi, hv⟩
  have HI5 := Aside0.mk hi
  have HV5 := Aside0.mk (HV4.out.trans hv)
  have HA5 := Aside0.mk (At_step HA4.out 41)
  clear hi hv HMK
  obtain ⟨y0, y1, y2, y3, y4⟩ := tokBox (t := ⟨1, ⟨#[104, 101, 120]⟩, nm, p, en⟩) (HIM.out.box_keep HV5.out HXM.out)
  rw [HB.out] at y0 y1 y2 y3 y4
  obtain ⟨Wn, hWn⟩ : ∃ Wn, Wn = w5.alloc (.cells #[.int .i64 12, .int .i64 0, .int .u64 0, .string ⟨#[]⟩, .int .i64 p] 49) := ⟨_, rfl⟩
  have hBn : Below w5.heap.size w5 Wn := by rw [hWn]; exact below_alloc (Below.refl _ _) _
  have hXn : Wn.heap[w5.heap.size]? = some (.cells #[.int .i64 12, .int .i64 0, .int .u64 0, .string ⟨#[]⟩, .int .i64 p] 49 (0, 0)) := by rw [hWn]; exact blk_new _ _
  have HIn := Aside0.mk (HI5.out.below hBn)
  have HVn := Aside0.mk (HV5.out.below hBn (by have := HI5.out.glt; omega))
  obtain ⟨k0, k1, k2, k3, k4⟩ := nodeBox (n := ⟨12, 0, 0, ⟨#[]⟩, p⟩) hXn
  have HPT := Aside0.mk (gput (P.node 12 p) HIn.out HA5.out (by omega))
  have HWn := Aside0.mk hWn
  rw [hWn] at k0 k1 k2 k3 k4
  clear hWn hBn hXn
  go_wp2_with fail
  rw [← HWn.out]
  refine HPT.out.mono ?_
  rintro e wp ⟨rfl, vnp, vdp, hip, hvp⟩
  have HVp := Aside0.mk (HVn.out.trans hvp)
  obtain ⟨lv, l4, f4, hid, hvd⟩ := glevel hip (At_pu HA5.out (P.node 12 p)) (by omega)
  have HID := Aside0.mk hid
  have HVD := Aside0.mk (HVp.out.trans hvd)
  clear hip hvp hid hvd
  go_wp2
  go_end0
  refine ⟨rfl, vnp, vdp, ?_, HVM.out.trans HVD.out⟩
  rw [← HLAW.out]
  exact HID.out
set_option maxHeartbeats 8000000 in
set_option maxRecDepth 100000 in
theorem named_rep (m : Nat) (HE : CT m .expr 49) (w : World) (A : Option Addr) (c : Nat) (L : List Tk) (g : Nat) (vn vd : Value) (ts : List Tk) (lev : Nat) (ns : List Nd) (dp : List Int) (nm p en : Int) (hG : Good L) (h : Is w A c L g vn vd (.ok ts lev ns dp)) (ht : hd ts = ⟨1, ⟨#[114, 101, 112]⟩, nm, p, en⟩) (hlv : lev < 100) (hf : ∀ pl, ((takeM 40 ts.tail).bind fun _ r => (P.X m .expr (lev + 1) r).bind fun a r => (takeM 44 r).bind fun _ r => (P.X m .expr (lev + 1) r).bind fun b r => (takeM 41 r).bind fun _ r => comb (P.node 10 p) [a, b] r) ≠ .bad 0 pl) :
    Calls Try.prog 93 #[.pointer (some ⟨g, 0, none⟩), .agg #[.int .i64 1, .string ⟨#[114, 101, 112]⟩, .int .u64 nm, .int .i64 p, .int .i64 en]] w fun e w' => e = .returned (.tuple #[]) ∧ Ends w A c L g vn vd (outS lev ns dp ((takeM 40 ts.tail).bind fun _ r => (P.X m .expr (lev + 1) r).bind fun a r => (takeM 44 r).bind fun _ r => (P.X m .expr (lev + 1) r).bind fun b r => (takeM 41 r).bind fun _ r => comb (P.node 10 p) [a, b] r)) w' := by
  have hk : (hd ts).f0 ≠ 0 := by rw [ht]; exact (by decide : (1 : Int) ≠ 0)
  have hl := P.hd_len hk
  have HSZ : Aside0 (ns.length + 1 + ts.tail.length ≤ 33554432) := ⟨by obtain ⟨q, _, _, _, h4⟩ := h; have := h4.sz; omega⟩
  obtain ⟨W, hW⟩ : ∃ W, W = w.alloc (.cells #[.int .i64 1, .string ⟨#[114, 101, 112]⟩, .int .u64 nm, .int .i64 p, .int .i64 en] 47) := ⟨_, rfl⟩
  have hB : Below w.heap.size w W := by rw [hW]; exact below_alloc (Below.refl _ _) _
  have hX : W.heap[w.heap.size]? = some (.cells #[.int .i64 1, .string ⟨#[114, 101, 112]⟩, .int .u64 nm, .int .i64 p, .int .i64 en] 47 (0, 0)) := by rw [hW]; exact blk_new _ _
  obtain ⟨b, hb⟩ : ∃ b, b = w.heap.size := ⟨_, rfl⟩
  rw [← hb] at hX
  have HI := Aside0.mk (h.below hB)
  have HV := Aside0.mk ((Hv.refl (vn := vn) (vd := vd) (by have := h.glt; omega) : Hv w w g vn vd vn vd).below hB (by have := h.glt; omega))
  obtain ⟨z0, z1, z2, z3, z4⟩ := tokBox (t := ⟨1, ⟨#[114, 101, 112]⟩, nm, p, en⟩) hX
  have HX := Aside0.mk hX
  have HW := Aside0.mk hW
  have HB := Aside0.mk hb
  have HT := Aside0.mk ht
  have HK := Aside0.mk hk
  have HG := Aside0.mk hG
  obtain ⟨M1, M2, M3, M4, u1, u2, u3, u4, u5, hM⟩ := four_runs W ⟨#[114, 101, 112]⟩
  have hop : opOf ⟨#[114, 101, 112]⟩ = 10 := by kernel_rfl
  rw [hop] at u5
  have HIM := Aside0.mk (HI.out.below hM)
  have HVM := Aside0.mk (HV.out.below hM (by have := h.glt; have := hB.size; omega))
  have hx4 := blk_below HX.out hM
  have HXM := Aside0.mk hx4
  obtain ⟨x0, x1, x2, x3, x4⟩ := tokBox (t := ⟨1, ⟨#[114, 101, 112]⟩, nm, p, en⟩) hx4
  have hmm := @run_makeMap Try.prog
  have hsz : W.heap.size = w.heap.size + 1 := by rw [hW]; exact Array.size_push _
  rw [hsz] at u1 u2 u3 u4 u5
  rw [hW] at u1
  rw [hb] at x0 x1 x2 x3 x4
  rw [hW, hb] at z0 z1 z2 z3 z4
  have hos : openS ⟨1, ⟨#[114, 101, 112]⟩, nm, p, en⟩ (.ok ts lev ns dp) = .ok ts (lev + 1) ns dp := by unfold openS; simp only [if_neg (by omega : ¬ 100 ≤ lev)]
  have hod : decide (lev < 100) = true := decide_eq_true (by omega)
  have HOP := Aside0.mk (sopen_calls M4 A c L g vn vd ts lev ns dp ⟨1, ⟨#[114, 101, 112]⟩, nm, p, en⟩ HIM.out)
  rw [hos, hod] at HOP
  have HFL : Aside0 (∀ pl, (puG (P.node 10 p) 2 ((goS m .expr ((goS m .expr ((stS (lev + 1) ns dp [] ts.tail).step (takeM 40))).step (takeM 44))).step (takeM 41))).down ≠ .bad 0 pl) := ⟨fun pl e => by
    rw [two_st] at e
    cases hr : ((takeM 40 ts.tail).bind fun _ r => (P.X m .expr (lev + 1) r).bind fun a r => (takeM 44 r).bind fun _ r => (P.X m .expr (lev + 1) r).bind fun b r => (takeM 41 r).bind fun _ r => comb (P.node 10 p) [a, b] r) with
    | ok a r => rw [hr] at e; cases e
    | bad e0 p0 =>
      rw [hr] at e
      injection e with e1 e2
      subst e1
      exact hf _ hr⟩
  have HLAW := Aside0.mk (two_st m lev ns dp ts.tail (P.node 10 p))
  have HE := Aside0.mk HE
  clear h hk hl hX hW hb hB ht hG hM hx4 hsz hop hos hod hlv hf
  go_enter Try.func93, Try.ntmps93
  go_wp2_with fail
  refine HOP.out.mono ?_
  rintro e w1 ⟨rfl, hi1, hg1⟩
  have HI1 := Aside0.mk hi1
  have HV1 := Aside0.mk (show Hv M4 w1 g vn vd vn vd from Hv.of_grown hg1 (by have := HIM.out.glt; omega))
  have HTK := Aside0.mk (stake_calls w1 A c L g vn vd ts (lev + 1) ns dp true HG.out (fun _ => HK.out) HI1.out)
  clear hi1 hg1
  go_wp2_with fail
  refine HTK.out.mono ?_
  rintro e w2 ⟨rfl, hi2, hg2⟩
  unfold tokV
  have HI2 := Aside0.mk (show Is w2 A c L g vn vd (stS (lev + 1) ns dp [] ts.tail) from by rw [st_nil]; exact hi2)
  have HV2 := Aside0.mk (HV1.out.trans (Hv.of_grown hg2 (by have := HI1.out.glt; omega)))
  have HA2 := Aside0.mk (At_st (lev + 1) ns dp ts.tail (N := 33554431) (by have := HSZ.out; omega))
  clear hi2 hg2
  have HMK := Aside0.mk (gmark 40 HG.out HI2.out)
  go_wp2_with fail
  refine HMK.out.mono ?_
  rintro e w3 ⟨⟨tq, rfl⟩, hi, hv⟩
  have HI3 := Aside0.mk hi
  have HV3 := Aside0.mk (HV2.out.trans hv)
  have HA3 := Aside0.mk (At_step HA2.out 40)
  clear hi hv HMK
  have HXP := Aside0.mk (gexpr HE.out HG.out HI3.out (fun p e => HFL.out p (by rw [e]; rfl)))
  go_wp2_with fail
  refine HXP.out.mono ?_
  rintro e w4 ⟨rfl, vn4, vd4, hi, hv⟩
  have HI4 := Aside0.mk hi
  have HV4 := Aside0.mk (HV3.out.trans hv)
  have HA4 := Aside0.mk (At_go (m := m) (f := .expr) HA3.out rfl)
  clear hi hv HXP
  have HMK := Aside0.mk (gmark 44 HG.out HI4.out)
  go_wp2_with fail
  refine HMK.out.mono ?_
  rintro e w5 ⟨⟨tq, rfl⟩, hi, hv⟩
  have HI5 := Aside0.mk hi
  have HV5 := Aside0.mk (HV4.out.trans hv)
  have HA5 := Aside0.mk (At_step HA4.out 44)
  clear hi hv HMK
  have HXP := Aside0.mk (gexpr HE.out HG.out HI5.out (fun p e => HFL.out p (by rw [e]; rfl)))
  go_wp2_with fail
  refine HXP.out.mono ?_
  rintro e w6 ⟨rfl, vn6, vd6, hi, hv⟩
  have HI6 := Aside0.mk hi
  have HV6 := Aside0.mk (HV5.out.trans hv)
  have HA6 := Aside0.mk (At_go (m := m) (f := .expr) HA5.out rfl)
  clear hi hv HXP
  have HMK := Aside0.mk (gmark 41 HG.out HI6.out)
  go_wp2_with fail
  refine HMK.out.mono ?_
  rintro e w7 ⟨⟨tq, rfl⟩, hi, hv⟩
  have HI7 := Aside0.mk hi
  have HV7 := Aside0.mk (HV6.out.trans hv)
  have HA7 := Aside0.mk (At_step HA6.out 41)
  clear hi hv HMK
  obtain ⟨y0, y1, y2, y3, y4⟩ := tokBox (t := ⟨1, ⟨#[114, 101, 112]⟩, nm, p, en⟩) (HIM.out.box_keep HV7.out HXM.out)
  rw [HB.out] at y0 y1 y2 y3 y4
  obtain ⟨Wn, hWn⟩ : ∃ Wn, Wn = w7.alloc (.cells #[.int .i64 10, .int .i64 0, .int .u64 0, .string ⟨#[]⟩, .int .i64 p] 49) := ⟨_, rfl⟩
  have hBn : Below w7.heap.size w7 Wn := by rw [hWn]; exact below_alloc (Below.refl _ _) _
  have hXn : Wn.heap[w7.heap.size]? = some (.cells #[.int .i64 10, .int .i64 0, .int .u64 0, .string ⟨#[]⟩, .int .i64 p] 49 (0, 0)) := by rw [hWn]; exact blk_new _ _
  have HIn := Aside0.mk (HI7.out.below hBn)
  have HVn := Aside0.mk (HV7.out.below hBn (by have := HI7.out.glt; omega))
  obtain ⟨k0, k1, k2, k3, k4⟩ := nodeBox (n := ⟨10, 0, 0, ⟨#[]⟩, p⟩) hXn
  have HPT := Aside0.mk (gput (P.node 10 p) HIn.out HA7.out (by omega))
  have HWn := Aside0.mk hWn
  rw [hWn] at k0 k1 k2 k3 k4
  clear hWn hBn hXn
  go_wp2_with fail
  rw [← HWn.out]
  refine HPT.out.mono ?_
  rintro e wp ⟨rfl, vnp, vdp, hip, hvp⟩
  have HVp := Aside0.mk (HVn.out.trans hvp)
  obtain ⟨lv, l4, f4, hid, hvd⟩ := glevel hip (At_pu HA7.out (P.node 10 p)) (by omega)
  have HID := Aside0.mk hid
  have HVD := Aside0.mk (HVp.out.trans hvd)
  clear hip hvp hid hvd
  go_wp2
  go_end0
  refine ⟨rfl, vnp, vdp, ?_, HVM.out.trans HVD.out⟩
  rw [← HLAW.out]
  exact HID.out
end Go.Proofs.Ytbdcndkafaajpaa.A
end
section
set_option linter.unusedVariables false
set_option linter.unusedSimpArgs false
namespace Go.Proofs.Ytbdcndkafaajpaa.A
open Go.RowKit Go.Proofs.Ytbdcndkafaajpaa.X Go.Proofs.YtbdcndkafaajpaaW.PrintWords Go.Proofs.YtbdcndkafaajpaaW.PrintLast Go.Proofs.YtbdcndkafaajpaaW.PrintMore
open Go.Proofs.Ytbdcndkafaajpaa.P (Nd EO Res hd isT isM takeM mxl comb mk1)
def CatR (final : Res EO) (t : Tk) (lev : Nat) (ns : List Nd) (dp : List Int) (k j : Nat) (s : Sg) : Prop :=
  s.At 33554431 j (lev + 1) ∧ ((∃ e p, s = .bad e p ∧ final = .bad e p) ∨ ∃ l r, s = stS (lev + 1) ns dp l r ∧ P.X k (.args t l) (lev + 1) r = final ∧ l.length = j)
theorem cat_end {final : Res EO} {t : Tk} {lev : Nat} {ns : List Nd} {dp : List Int} {k j : Nat} {s : Sg} (h : CatR final t lev ns dp k j s) (hf : ∀ p, final ≠ .bad 0 p) (hi : s.is 4 ⟨#[44]⟩ = false) :
    (puG ⟨9, (j : Int), 0, ⟨#[]⟩, t.f3⟩ j (s.step (takeM 41))).down = outS lev ns dp final := by
  obtain ⟨_, h⟩ := h
  rcases h with ⟨e, p, rfl, rfl⟩ | ⟨l, r, rfl, hx, rfl⟩
  · rfl
  · cases k with
    | zero => exact absurd hx.symm (hf 0)
    | succ k =>
      rw [P.X, if_neg (by rw [show isM 44 r = false from hi]; decide)] at hx
      rw [← hx, step_st]
      cases takeM 41 r with
      | bad e p => rfl
      | ok _ r => simp only [Res.bind]; rw [pu_st (kids := l) (k := l.length) (hk := rfl), down_out]
theorem cat_next {final : Res EO} {t : Tk} {lev : Nat} {ns : List Nd} {dp : List Int} {k j : Nat} {s : Sg} (h : CatR final t lev ns dp k j s) (hf : ∀ p, final ≠ .bad 0 p) (hi : s.is 4 ⟨#[44]⟩ = true) :
    ∃ k', k = k' + 1 ∧ (∀ p, goS k' .expr (s.step (takeM 44)) ≠ .bad 0 p) ∧ CatR final t lev ns dp k' (j + 1) (goS k' .expr (s.step (takeM 44))) := by
  obtain ⟨ha, h⟩ := h
  rcases h with ⟨e, p, rfl, rfl⟩ | ⟨l, r, rfl, hx, rfl⟩
  · cases hi
  · cases k with
    | zero => exact absurd hx.symm (hf 0)
    | succ k =>
      have hm : isM 44 r = true := hi
      rw [P.X, if_pos hm] at hx
      have hs : (stS (lev + 1) ns dp l r).step (takeM 44) = stS (lev + 1) ns dp l r.tail := by
        rw [step_st]; unfold takeM P.want; rw [hm]; rfl
      have hr : CatR final t lev ns dp k (l.length + 1) (goS k .expr ((stS (lev + 1) ns dp l r).step (takeM 44))) := by
        refine ⟨At.mono (At_go (f := .expr) (At_step (N := 33554430) ha 44) rfl) (by omega), ?_⟩
        rw [hs, go_st]
        cases hq : P.X k .expr (lev + 1) r.tail with
        | bad e p => rw [hq] at hx; exact .inl ⟨e, p, rfl, hx.symm⟩
        | ok b r' => rw [hq] at hx; exact .inr ⟨l ++ [b], r', rfl, hx, by simp⟩
      refine ⟨k, rfl, fun p e => ?_, hr⟩
      rw [e] at hr
      obtain ⟨_, hr⟩ := hr
      rcases hr with ⟨e', p', h1, h2⟩ | ⟨l', r', h1, _, _⟩
      · cases h1; exact hf _ h2
      · cases h1
theorem cat_first {final : Res EO} {t : Tk} {lev : Nat} {ns : List Nd} {dp : List Int} {m : Nat} {r : List Tk} (hz : ns.length + r.length ≤ 33554431) (hx : (takeM 40 r).bind (fun _ r => (P.X m .expr (lev + 1) r).bind fun a r => P.X m (.args t [a]) (lev + 1) r) = final) :
    CatR final t lev ns dp m 1 (goS m .expr ((stS (lev + 1) ns dp [] r).step (takeM 40))) := by
  refine ⟨At.mono (At_go (f := .expr) (At_step (N := 33554430) (At_st (lev + 1) ns dp r (by omega)) 40) rfl) (by omega), ?_⟩
  rw [step_st]
  cases hq : takeM 40 r with
  | bad e p => rw [hq] at hx; exact .inl ⟨e, p, rfl, hx.symm⟩
  | ok _ r1 =>
    rw [hq] at hx
    simp only [Res.bind] at hx
    simp only [go_st]
    cases hy : P.X m .expr (lev + 1) r1 with
    | bad e p => rw [hy] at hx; exact .inl ⟨e, p, rfl, hx.symm⟩
    | ok a r2 => rw [hy] at hx; exact .inr ⟨[a], r2, rfl, hx, rfl⟩
def CatM (final : Res EO) (t : Tk) (w : World) (A : Option Addr) (c : Nat) (L : List Tk) (g : Nat) (vn vd : Value) (lev : Nat) (ns : List Nd) (dp : List Int) (k j : Nat) (wr : World) : Prop :=
  ∃ vn1 vd1 s, Hv w wr g vn vd vn1 vd1 ∧ Is wr A c L g vn1 vd1 s ∧ CatR final t lev ns dp k j s
theorem Is.cnt {w : World} {A : Option Addr} {c : Nat} {L : List Tk} {g : Nat} {vn vd : Value} {s : Sg} {N j l : Nat} (h : Is w A c L g vn vd s) (ha : s.At N j l) (hi : s.is 4 ⟨#[44]⟩ = true) : j ≤ 33554432 := by
  cases s with
  | bad e p => cases hi
  | ok ts lev ns dp =>
    obtain ⟨q, _, _, _, h4⟩ := h
    have := (ha _ _ _ _ rfl).2.1
    have := h4.dl
    have := h4.sz
    omega
set_option maxHeartbeats 8000000 in
set_option maxRecDepth 100000 in
theorem named_cat (m : Nat) (HE : ∀ m', m' ≤ m → CT m' .expr 49) (w : World) (A : Option Addr) (c : Nat) (L : List Tk) (g : Nat) (vn vd : Value) (ts : List Tk) (lev : Nat) (ns : List Nd) (dp : List Int) (nm p en : Int) (hG : Good L) (h : Is w A c L g vn vd (.ok ts lev ns dp)) (ht : hd ts = ⟨1, ⟨#[99, 97, 116]⟩, nm, p, en⟩) (hlv : lev < 100) (hf : ∀ pl, ((takeM 40 ts.tail).bind fun _ r => (P.X m .expr (lev + 1) r).bind fun a r => P.X m (.args ⟨1, ⟨#[99, 97, 116]⟩, nm, p, en⟩ [a]) (lev + 1) r) ≠ .bad 0 pl) :
    Calls Try.prog 93 #[.pointer (some ⟨g, 0, none⟩), .agg #[.int .i64 1, .string ⟨#[99, 97, 116]⟩, .int .u64 nm, .int .i64 p, .int .i64 en]] w fun e w' => e = .returned (.tuple #[]) ∧ Ends w A c L g vn vd (outS lev ns dp ((takeM 40 ts.tail).bind fun _ r => (P.X m .expr (lev + 1) r).bind fun a r => P.X m (.args ⟨1, ⟨#[99, 97, 116]⟩, nm, p, en⟩ [a]) (lev + 1) r)) w' := by
  have hk : (hd ts).f0 ≠ 0 := by rw [ht]; exact (by decide : (1 : Int) ≠ 0)
  have hl := P.hd_len hk
  have HSZ : Aside0 (ns.length + 1 + ts.tail.length ≤ 33554432) := ⟨by obtain ⟨q, _, _, _, h4⟩ := h; have := h4.sz; omega⟩
  obtain ⟨W, hW⟩ : ∃ W, W = w.alloc (.cells #[.int .i64 1, .string ⟨#[99, 97, 116]⟩, .int .u64 nm, .int .i64 p, .int .i64 en] 47) := ⟨_, rfl⟩
  have hB : Below w.heap.size w W := by rw [hW]; exact below_alloc (Below.refl _ _) _
  have hX : W.heap[w.heap.size]? = some (.cells #[.int .i64 1, .string ⟨#[99, 97, 116]⟩, .int .u64 nm, .int .i64 p, .int .i64 en] 47 (0, 0)) := by rw [hW]; exact blk_new _ _
  obtain ⟨b, hb⟩ : ∃ b, b = w.heap.size := ⟨_, rfl⟩
  rw [← hb] at hX
  have HI := Aside0.mk (h.below hB)
  have HV := Aside0.mk ((Hv.refl (vn := vn) (vd := vd) (by have := h.glt; omega) : Hv w w g vn vd vn vd).below hB (by have := h.glt; omega))
  obtain ⟨z0, z1, z2, z3, z4⟩ := tokBox (t := ⟨1, ⟨#[99, 97, 116]⟩, nm, p, en⟩) hX
  have HX := Aside0.mk hX
  have HW := Aside0.mk hW
  have HB := Aside0.mk hb
  have HT := Aside0.mk ht
  have HK := Aside0.mk hk
  have HG := Aside0.mk hG
  obtain ⟨M1, M2, M3, M4, u1, u2, u3, u4, u5, hM⟩ := four_runs W ⟨#[99, 97, 116]⟩
  have hop : opOf ⟨#[99, 97, 116]⟩ = 9 := by kernel_rfl
  rw [hop] at u5
  have HIM := Aside0.mk (HI.out.below hM)
  have HVM := Aside0.mk (HV.out.below hM (by have := h.glt; have := hB.size; omega))
  have hx4 := blk_below HX.out hM
  have HXM := Aside0.mk hx4
  obtain ⟨x0, x1, x2, x3, x4⟩ := tokBox (t := ⟨1, ⟨#[99, 97, 116]⟩, nm, p, en⟩) hx4
  have hmm := @run_makeMap Try.prog
  have hsz : W.heap.size = w.heap.size + 1 := by rw [hW]; exact Array.size_push _
  rw [hsz] at u1 u2 u3 u4 u5
  rw [hW] at u1
  rw [hb] at x0 x1 x2 x3 x4
  rw [hW, hb] at z0 z1 z2 z3 z4
  have hos : openS ⟨1, ⟨#[99, 97, 116]⟩, nm, p, en⟩ (.ok ts lev ns dp) = .ok ts (lev + 1) ns dp := by unfold openS; simp only [if_neg (by omega : ¬ 100 ≤ lev)]
  have hod : decide (lev < 100) = true := decide_eq_true (by omega)
  have HOP := Aside0.mk (sopen_calls M4 A c L g vn vd ts lev ns dp ⟨1, ⟨#[99, 97, 116]⟩, nm, p, en⟩ HIM.out)
  rw [hos, hod] at HOP
  obtain ⟨final, hfin⟩ : ∃ final, final = ((takeM 40 ts.tail).bind fun _ r => (P.X m .expr (lev + 1) r).bind fun a r => P.X m (.args ⟨1, ⟨#[99, 97, 116]⟩, nm, p, en⟩ [a]) (lev + 1) r) := ⟨_, rfl⟩
  have HCF := Aside0.mk (cat_first (t := ⟨1, ⟨#[99, 97, 116]⟩, nm, p, en⟩) (lev := lev) (ns := ns) (dp := dp) (by have := HSZ.out; omega) hfin.symm)
  rw [← hfin] at hf ⊢
  have HFI := Aside0.mk hf
  have HFL : Aside0 (∀ pl, goS m .expr ((stS (lev + 1) ns dp [] ts.tail).step (takeM 40)) ≠ .bad 0 pl) := ⟨fun pl e => by
    have h := HCF.out
    rw [e] at h
    obtain ⟨_, h⟩ := h
    rcases h with ⟨e', p', h1, h2⟩ | ⟨l', r', h1, _, _⟩
    · cases h1; exact hf _ h2
    · cases h1⟩
  have HE := Aside0.mk HE
  clear h hk hl hX hW hb hB ht hG hM hx4 hsz hop hos hod hlv hf hfin
  go_enter Try.func93, Try.ntmps93
  go_wp2_with fail
  refine HOP.out.mono ?_
  rintro e w1 ⟨rfl, hi1, hg1⟩
  have HI1 := Aside0.mk hi1
  have HV1 := Aside0.mk (show Hv M4 w1 g vn vd vn vd from Hv.of_grown hg1 (by have := HIM.out.glt; omega))
  have HTK := Aside0.mk (stake_calls w1 A c L g vn vd ts (lev + 1) ns dp true HG.out (fun _ => HK.out) HI1.out)
  clear hi1 hg1
  go_wp2_with fail
  refine HTK.out.mono ?_
  rintro e w2 ⟨rfl, hi2, hg2⟩
  unfold tokV
  have HI2 := Aside0.mk (show Is w2 A c L g vn vd (stS (lev + 1) ns dp [] ts.tail) from by rw [st_nil]; exact hi2)
  have HV2 := Aside0.mk (HV1.out.trans (Hv.of_grown hg2 (by have := HI1.out.glt; omega)))
  clear hi2 hg2
  have HMK := Aside0.mk (gmark 40 HG.out HI2.out)
  go_wp2_with fail
  refine HMK.out.mono ?_
  rintro e w3 ⟨⟨tq, rfl⟩, hi, hv⟩
  have HI3 := Aside0.mk hi
  have HV3 := Aside0.mk (HV2.out.trans hv)
  clear hi hv HMK
  have HXP := Aside0.mk (gexpr (HE.out m (Nat.le_refl _)) HG.out HI3.out HFL.out)
  go_wp2_with fail
  refine HXP.out.mono ?_
  rintro e w4 ⟨rfl, vn4, vd4, hi, hv⟩
  have HLP : Aside0 (CatM final ⟨1, ⟨#[99, 97, 116]⟩, nm, p, en⟩ M4 A c L g vn vd lev ns dp m 1 w4) := ⟨vn4, vd4, _, HV3.out.trans hv, hi, HCF.out⟩
  clear hi hv HXP
  go_wp2_with fail
  go_loopg [5] m (fun k s5 wr => ∃ j : Nat, s5 = .int .i64 (j : Int) ∧ j ≤ 33554433 ∧ Aside0 (CatM final ⟨1, ⟨#[99, 97, 116]⟩, nm, p, en⟩ M4 A c L g vn vd lev ns dp k j wr) ∧ Aside0 (k ≤ m))
  case atStart => exact ⟨1, rfl, by omega, HLP, ⟨Nat.le_refl _⟩⟩
  case round =>
    obtain ⟨j, rfl, hj, ⟨vn5, vd5, s, hv, hi, hc⟩, hk⟩ := hrel
    have HI := Aside0.mk hi
    have HV := Aside0.mk hv
    have HC := Aside0.mk hc
    have HIS := Aside0.mk (sis_calls wr A c L g vn5 vd5 s 4 ⟨#[44]⟩ hi)
    clear hi hv hc
    cases hb : s.is 4 ⟨#[44]⟩ with
    | true =>
      obtain ⟨k', rfl, hnz, hcr⟩ := cat_next HC.out HFI.out hb
      have hj2 : j ≤ 33554432 := HI.out.cnt HC.out.1 hb
      have hnx : wrap64 ((j : Int) + 1) = ((j + 1 : Nat) : Int) := by unfold wrap64; omega
      have HCR := Aside0.mk hcr
      have HNZ := Aside0.mk hnz
      have HNX := Aside0.mk hnx
      rw [hb] at HIS
      clear hnz hcr hb hnx
      go_wp2_with fail
      refine HIS.out.mono ?_
      rintro e w6 ⟨rfl, hb6⟩
      have HI6 := Aside0.mk (HI.out.below hb6)
      have HV6 := Aside0.mk (HV.out.below hb6 (by have := HI.out.glt; omega))
      have HMK := Aside0.mk (gmark 44 HG.out HI6.out)
      clear hb6
      go_wp2_with fail
      refine HMK.out.mono ?_
      rintro e w7 ⟨⟨tq2, rfl⟩, hi, hv⟩
      have HI7 := Aside0.mk hi
      have HV7 := Aside0.mk (HV6.out.trans hv)
      clear hi hv HMK
      have HXP := Aside0.mk (gexpr (HE.out k' (by have := hk.out; omega)) HG.out HI7.out HNZ.out)
      go_wp2_with fail
      refine HXP.out.mono ?_
      rintro e w8 ⟨rfl, vn8, vd8, hi, hv⟩
      have HI8 := Aside0.mk hi
      have HV8 := Aside0.mk (HV7.out.trans hv)
      clear hi hv HXP
      go_wp2
      go_roundg k'
      case measure => omega
      case rel => exact ⟨j + 1, by first | rfl | exact congrArg (Value.int .i64) (by omega), by omega, ⟨vn8, vd8, _, HV8.out, HI8.out, HCR.out⟩, ⟨by have := hk.out; omega⟩⟩
    | false =>
      have HEND := Aside0.mk (cat_end HC.out HFI.out hb)
      have HA := Aside0.mk (At_step (N := 33554430) HC.out.1 41)
      rw [hb] at HIS
      clear hb
      go_wp2_with fail
      refine HIS.out.mono ?_
      rintro e w6 ⟨rfl, hb6⟩
      have HI6 := Aside0.mk (HI.out.below hb6)
      have HV6 := Aside0.mk (HV.out.below hb6 (by have := HI.out.glt; omega))
      have HMK := Aside0.mk (gmark 41 HG.out HI6.out)
      clear hb6
      go_wp2_with fail
      refine HMK.out.mono ?_
      rintro e w7 ⟨⟨tq2, rfl⟩, hi, hv⟩
      have HI7 := Aside0.mk hi
      have HV7 := Aside0.mk (HV6.out.trans hv)
      clear hi hv HMK
      obtain ⟨y0, y1, y2, y3, y4⟩ := tokBox (t := ⟨1, ⟨#[99, 97, 116]⟩, nm, p, en⟩) (HIM.out.box_keep HV7.out HXM.out)
      rw [HB.out] at y0 y1 y2 y3 y4
      obtain ⟨Wn, hWn⟩ : ∃ Wn, Wn = w7.alloc (.cells #[.int .i64 9, .int .i64 (j : Int), .int .u64 0, .string ⟨#[]⟩, .int .i64 p] 49) := ⟨_, rfl⟩
      obtain ⟨bn, hbn⟩ : ∃ bn, bn = w7.heap.size := ⟨_, rfl⟩
      have hBn : Below w7.heap.size w7 Wn := by rw [hWn]; exact below_alloc (Below.refl _ _) _
      have hXn : Wn.heap[bn]? = some (.cells #[.int .i64 9, .int .i64 (j : Int), .int .u64 0, .string ⟨#[]⟩, .int .i64 p] 49 (0, 0)) := by rw [hWn, hbn]; exact blk_new _ _
      have HIn := Aside0.mk (HI7.out.below hBn)
      have HVn := Aside0.mk (HV7.out.below hBn (by have := HI7.out.glt; omega))
      obtain ⟨k0, k1, k2, k3, k4⟩ := nodeBox (n := ⟨9, (j : Int), 0, ⟨#[]⟩, p⟩) hXn
      have HPT := Aside0.mk (gput ⟨9, (j : Int), 0, ⟨#[]⟩, p⟩ HIn.out HA.out (by omega))
      have HWn := Aside0.mk hWn
      have HBN := Aside0.mk hbn
      rw [hWn] at k0 k1 k2 k3 k4
      rw [hbn] at k0 k1 k2 k3 k4
      clear hWn hBn hXn hbn
      go_wp2_with fail
      rw [← HWn.out]
      refine HPT.out.mono ?_
      rintro e wp ⟨rfl, vnp, vdp, hip, hvp⟩
      have HVp := Aside0.mk (HVn.out.trans hvp)
      obtain ⟨lv, l4, f4, hid, hvd⟩ := glevel hip (At_pu HA.out ⟨9, (j : Int), 0, ⟨#[]⟩, p⟩) (by omega)
      have HID := Aside0.mk hid
      have HVD := Aside0.mk (HVp.out.trans hvd)
      clear hip hvp hid hvd
      go_wp2
      go_end0
      refine ⟨rfl, vnp, vdp, ?_, HVM.out.trans HVD.out⟩
      rw [← HEND.out]
      exact HID.out
end Go.Proofs.Ytbdcndkafaajpaa.A
end
section
set_option linter.unusedVariables false
set_option linter.unusedSimpArgs false
namespace Go.Proofs.Ytbdcndkafaajpaa.A
open Go.RowKit Go.Proofs.Ytbdcndkafaajpaa.X Go.Proofs.YtbdcndkafaajpaaW.PrintWords Go.Proofs.YtbdcndkafaajpaaW.PrintLast Go.Proofs.YtbdcndkafaajpaaW.PrintMore
open Go.Proofs.Ytbdcndkafaajpaa.P (Nd EO Res hd isT isM takeM mxl comb mk1)
theorem Is.ok2 {w : World} {A : Option Addr} {c : Nat} {L : List Tk} {g : Nat} {vn vd : Value} {ts : List Tk} {lev : Nat} {ns : List Nd} {dp : List Int} (h : Is w A c L g vn vd (.ok ts lev ns dp)) : w.cell? ⟨g, 2, none⟩ = some (.int .i64 0) := by
  obtain ⟨q, h1, _, h3, _⟩ := h
  rw [← h1]; exact h3.p.c2
theorem snowok_calls (w : World) (A : Option Addr) (c : Nat) (L : List Tk) (g : Nat) (vn vd : Value) (ts : List Tk) (lev : Nat) (ns : List Nd) (dp : List Int) (h : Is w A c L g vn vd (.ok ts lev ns dp)) :
    Calls Try.prog 32 #[.pointer (some ⟨g, 0, none⟩)] w fun e w' => e = .returned (.agg #[.int .i64 (hd ts).f0, .string (hd ts).f1, .int .u64 (hd ts).f2, .int .i64 (hd ts).f3, .int .i64 (hd ts).f4]) ∧ Below w.heap.size w w' := by
  obtain ⟨q, h1, rfl, h3, h4⟩ := h
  exact (now_calls w A c L g q _ _ _ h3.p).mono fun e w' ⟨he, hb⟩ => ⟨by rw [he, hd_drop h3.p.lt], hb⟩
theorem neg_st (m lev : Nat) (ns : List Nd) (dp : List Int) (r : List Tk) (n : Nd) : (puG n 1 (goS m .fac (stS (lev + 1) ns dp [] r))).down = outS lev ns dp ((P.X m .fac (lev + 1) r).bind fun a r => comb n [a] r) := by
  rw [go_st]
  cases P.X m .fac (lev + 1) r with
  | bad e p => rfl
  | ok a r => simp only [Res.bind, List.nil_append]; rw [pu_st (kids := [a]) (k := 1) (hk := rfl), down_out]
theorem par_st (m lev : Nat) (ns : List Nd) (dp : List Int) (r : List Tk) : ((goS m .expr (stS (lev + 1) ns dp [] r)).step (takeM 41)).down = outS lev ns dp ((P.X m .expr (lev + 1) r).bind fun a r => (takeM 41 r).bind fun _ r => .ok a r) := by
  rw [go_st]
  cases P.X m .expr (lev + 1) r with
  | bad e p => rfl
  | ok a r =>
    simp only [Res.bind, List.nil_append, step_st]
    cases takeM 41 r with
    | bad e p => rfl
    | ok _ r => unfold stS outS Sg.down; simp
set_option maxHeartbeats 8000000 in
set_option maxRecDepth 100000 in
theorem fac_num (w : World) (A : Option Addr) (c : Nat) (L : List Tk) (g : Nat) (vn vd : Value) (ts : List Tk) (lev : Nat) (ns : List Nd) (dp : List Int) (s : ByteArray) (nm p en : Int) (hG : Good L) (h : Is w A c L g vn vd (.ok ts lev ns dp)) (ht : hd ts = ⟨2, s, nm, p, en⟩) :
    Calls Try.prog 86 #[.pointer (some ⟨g, 0, none⟩)] w fun e w' => e = .returned (.tuple #[]) ∧ Ends w A c L g vn vd (outS lev ns dp (comb ⟨1, 0, nm, ⟨#[]⟩, p⟩ [] ts.tail)) w' := by
  have HN := Aside0.mk (snowok_calls w A c L g vn vd ts lev ns dp h)
  rw [ht] at HN
  have HSZ : Aside0 (ns.length + ts.length ≤ 33554432) := ⟨by obtain ⟨q, _, _, _, h4⟩ := h; exact h4.sz⟩
  have HI := Aside0.mk h
  have HT := Aside0.mk ht
  have HG := Aside0.mk hG
  have HK : Aside0 ((hd ts).f0 ≠ 0) := ⟨by rw [ht]; exact (by decide : (2 : Int) ≠ 0)⟩
  clear h ht hG
  go_enter Try.func86, Try.ntmps86
  go_wp2_with fail
  refine HN.out.mono ?_
  rintro e w0 ⟨rfl, hb0⟩
  obtain ⟨W, hW⟩ : ∃ W, W = w0.alloc (.cells #[.int .i64 2, .string s, .int .u64 nm, .int .i64 p, .int .i64 en] 47) := ⟨_, rfl⟩
  have hB : Below w.heap.size w W := by rw [hW]; exact below_alloc hb0 _
  have hX : W.heap[w0.heap.size]? = some (.cells #[.int .i64 2, .string s, .int .u64 nm, .int .i64 p, .int .i64 en] 47 (0, 0)) := by rw [hW]; exact blk_new _ _
  obtain ⟨b, hb⟩ : ∃ b, b = w0.heap.size := ⟨_, rfl⟩
  rw [← hb] at hX
  have HI0 := Aside0.mk (HI.out.below hB)
  have HV0 := Aside0.mk ((Hv.refl (vn := vn) (vd := vd) (by have := HI.out.glt; omega) : Hv w w g vn vd vn vd).below hB (by have := HI.out.glt; omega))
  have y2 := HI0.out.ok2
  obtain ⟨z0, z1, z2, z3, z4⟩ := tokBox (t := ⟨2, s, nm, p, en⟩) hX
  have HX := Aside0.mk hX
  have HW := Aside0.mk hW
  have HB := Aside0.mk hb
  rw [hW] at y2
  rw [hW, hb] at z0 z1 z2 z3 z4
  have HTK := Aside0.mk (stake_calls W A c L g vn vd ts lev ns dp true HG.out (fun _ => HK.out) HI0.out)
  clear hW hB hX hb hb0
  go_wp2_with fail
  rw [← HW.out]
  refine HTK.out.mono ?_
  rintro e w1 ⟨rfl, hi1, hg1⟩
  unfold tokV
  have HI1 := Aside0.mk (show Is w1 A c L g vn vd (stS lev ns dp [] ts.tail) from by rw [st_nil]; exact hi1)
  have hv1 : Hv W w1 g vn vd vn vd := Hv.of_grown hg1 (by have := HI0.out.glt; omega)
  have hx1 := HI0.out.box_keep hv1 HX.out
  have HV1 := Aside0.mk (HV0.out.trans hv1)
  have HPT := Aside0.mk (gput (k := 0) ⟨1, 0, nm, ⟨#[]⟩, p⟩ HI1.out (At_st lev ns dp ts.tail (N := 33554431) (by have := HSZ.out; have := P.hd_len HK.out; omega)) (by omega))
  obtain ⟨y0, y1, y2, y3, y4⟩ := tokBox (t := ⟨2, s, nm, p, en⟩) hx1
  rw [HB.out] at y0 y1 y2 y3 y4
  clear hi1 hg1 hv1 hx1
  go_wp2_with fail
  refine HPT.out.mono ?_
  rintro e w2 ⟨rfl, vn2, vd2, hi2, hv2⟩
  have HI2 := Aside0.mk hi2
  have HV2 := Aside0.mk (HV1.out.trans hv2)
  clear hi2 hv2
  go_wp2
  go_end0
  refine ⟨rfl, vn2, vd2, ?_, HV2.out⟩
  have := HI2.out
  rw [pu_st (kids := []) (k := 0) (hk := rfl)] at this
  exact this
set_option maxHeartbeats 8000000 in
set_option maxRecDepth 100000 in
theorem fac_text (w : World) (A : Option Addr) (c : Nat) (L : List Tk) (g : Nat) (vn vd : Value) (ts : List Tk) (lev : Nat) (ns : List Nd) (dp : List Int) (s : ByteArray) (nm p en : Int) (hG : Good L) (h : Is w A c L g vn vd (.ok ts lev ns dp)) (ht : hd ts = ⟨3, s, nm, p, en⟩) :
    Calls Try.prog 86 #[.pointer (some ⟨g, 0, none⟩)] w fun e w' => e = .returned (.tuple #[]) ∧ Ends w A c L g vn vd (outS lev ns dp (comb ⟨2, 0, 0, s, p⟩ [] ts.tail)) w' := by
  have HN := Aside0.mk (snowok_calls w A c L g vn vd ts lev ns dp h)
  rw [ht] at HN
  have HSZ : Aside0 (ns.length + ts.length ≤ 33554432) := ⟨by obtain ⟨q, _, _, _, h4⟩ := h; exact h4.sz⟩
  have HI := Aside0.mk h
  have HT := Aside0.mk ht
  have HG := Aside0.mk hG
  have HK : Aside0 ((hd ts).f0 ≠ 0) := ⟨by rw [ht]; exact (by decide : (3 : Int) ≠ 0)⟩
  clear h ht hG
  go_enter Try.func86, Try.ntmps86
  go_wp2_with fail
  refine HN.out.mono ?_
  rintro e w0 ⟨rfl, hb0⟩
  obtain ⟨W, hW⟩ : ∃ W, W = w0.alloc (.cells #[.int .i64 3, .string s, .int .u64 nm, .int .i64 p, .int .i64 en] 47) := ⟨_, rfl⟩
  have hB : Below w.heap.size w W := by rw [hW]; exact below_alloc hb0 _
  have hX : W.heap[w0.heap.size]? = some (.cells #[.int .i64 3, .string s, .int .u64 nm, .int .i64 p, .int .i64 en] 47 (0, 0)) := by rw [hW]; exact blk_new _ _
  obtain ⟨b, hb⟩ : ∃ b, b = w0.heap.size := ⟨_, rfl⟩
  rw [← hb] at hX
  have HI0 := Aside0.mk (HI.out.below hB)
  have HV0 := Aside0.mk ((Hv.refl (vn := vn) (vd := vd) (by have := HI.out.glt; omega) : Hv w w g vn vd vn vd).below hB (by have := HI.out.glt; omega))
  have y2 := HI0.out.ok2
  obtain ⟨z0, z1, z2, z3, z4⟩ := tokBox (t := ⟨3, s, nm, p, en⟩) hX
  have HX := Aside0.mk hX
  have HW := Aside0.mk hW
  have HB := Aside0.mk hb
  rw [hW] at y2
  rw [hW, hb] at z0 z1 z2 z3 z4
  have HTK := Aside0.mk (stake_calls W A c L g vn vd ts lev ns dp true HG.out (fun _ => HK.out) HI0.out)
  clear hW hB hX hb hb0
  go_wp2_with fail
  rw [← HW.out]
  refine HTK.out.mono ?_
  rintro e w1 ⟨rfl, hi1, hg1⟩
  unfold tokV
  have HI1 := Aside0.mk (show Is w1 A c L g vn vd (stS lev ns dp [] ts.tail) from by rw [st_nil]; exact hi1)
  have hv1 : Hv W w1 g vn vd vn vd := Hv.of_grown hg1 (by have := HI0.out.glt; omega)
  have hx1 := HI0.out.box_keep hv1 HX.out
  have HV1 := Aside0.mk (HV0.out.trans hv1)
  have HPT := Aside0.mk (gput (k := 0) ⟨2, 0, 0, s, p⟩ HI1.out (At_st lev ns dp ts.tail (N := 33554431) (by have := HSZ.out; have := P.hd_len HK.out; omega)) (by omega))
  obtain ⟨y0, y1, y2, y3, y4⟩ := tokBox (t := ⟨3, s, nm, p, en⟩) hx1
  rw [HB.out] at y0 y1 y2 y3 y4
  clear hi1 hg1 hv1 hx1
  go_wp2_with fail
  refine HPT.out.mono ?_
  rintro e w2 ⟨rfl, vn2, vd2, hi2, hv2⟩
  have HI2 := Aside0.mk hi2
  have HV2 := Aside0.mk (HV1.out.trans hv2)
  clear hi2 hv2
  go_wp2
  go_end0
  refine ⟨rfl, vn2, vd2, ?_, HV2.out⟩
  have := HI2.out
  rw [pu_st (kids := []) (k := 0) (hk := rfl)] at this
  exact this
set_option maxHeartbeats 8000000 in
set_option maxRecDepth 100000 in
theorem fac_name (R : Sg) (w : World) (A : Option Addr) (c : Nat) (L : List Tk) (g : Nat) (vn vd : Value) (ts : List Tk) (lev : Nat) (ns : List Nd) (dp : List Int) (s : ByteArray) (nm p en : Int) (hG : Good L) (h : Is w A c L g vn vd (.ok ts lev ns dp)) (ht : hd ts = ⟨1, s, nm, p, en⟩) (HNM : ∀ w, Is w A c L g vn vd (.ok ts lev ns dp) → Calls Try.prog 93 #[.pointer (some ⟨g, 0, none⟩), .agg #[.int .i64 1, .string s, .int .u64 nm, .int .i64 p, .int .i64 en]] w fun e w' => e = .returned (.tuple #[]) ∧ Ends w A c L g vn vd R w') :
    Calls Try.prog 86 #[.pointer (some ⟨g, 0, none⟩)] w fun e w' => e = .returned (.tuple #[]) ∧ Ends w A c L g vn vd (R) w' := by
  have HN := Aside0.mk (snowok_calls w A c L g vn vd ts lev ns dp h)
  rw [ht] at HN
  have HSZ : Aside0 (ns.length + ts.length ≤ 33554432) := ⟨by obtain ⟨q, _, _, _, h4⟩ := h; exact h4.sz⟩
  have HI := Aside0.mk h
  have HT := Aside0.mk ht
  have HG := Aside0.mk hG
  have HNM := Aside0.mk HNM
  clear h ht hG
  go_enter Try.func86, Try.ntmps86
  go_wp2_with fail
  refine HN.out.mono ?_
  rintro e w0 ⟨rfl, hb0⟩
  obtain ⟨W, hW⟩ : ∃ W, W = w0.alloc (.cells #[.int .i64 1, .string s, .int .u64 nm, .int .i64 p, .int .i64 en] 47) := ⟨_, rfl⟩
  have hB : Below w.heap.size w W := by rw [hW]; exact below_alloc hb0 _
  have hX : W.heap[w0.heap.size]? = some (.cells #[.int .i64 1, .string s, .int .u64 nm, .int .i64 p, .int .i64 en] 47 (0, 0)) := by rw [hW]; exact blk_new _ _
  obtain ⟨b, hb⟩ : ∃ b, b = w0.heap.size := ⟨_, rfl⟩
  rw [← hb] at hX
  have HI0 := Aside0.mk (HI.out.below hB)
  have HV0 := Aside0.mk ((Hv.refl (vn := vn) (vd := vd) (by have := HI.out.glt; omega) : Hv w w g vn vd vn vd).below hB (by have := HI.out.glt; omega))
  have y2 := HI0.out.ok2
  obtain ⟨z0, z1, z2, z3, z4⟩ := tokBox (t := ⟨1, s, nm, p, en⟩) hX
  have HX := Aside0.mk hX
  have HW := Aside0.mk hW
  have HB := Aside0.mk hb
  rw [hW] at y2
  rw [hW, hb] at z0 z1 z2 z3 z4
  clear hW hB hX hb hb0
  go_wp2_with fail
  rw [← HW.out]
  refine (HNM.out W HI0.out).mono ?_
  rintro e w1 ⟨rfl, vn1, vd1, hi1, hv1⟩
  have HI1 := Aside0.mk hi1
  have HV1 := Aside0.mk (HV0.out.trans hv1)
  clear hi1 hv1
  go_wp2
  go_end0
  exact ⟨rfl, vn1, vd1, HI1.out, HV1.out⟩
set_option maxHeartbeats 8000000 in
set_option maxRecDepth 100000 in
theorem fac_none (w : World) (A : Option Addr) (c : Nat) (L : List Tk) (g : Nat) (vn vd : Value) (ts : List Tk) (lev : Nat) (ns : List Nd) (dp : List Int) (k : Int) (s : ByteArray) (nm p en : Int) (hG : Good L) (h : Is w A c L g vn vd (.ok ts lev ns dp)) (ht : hd ts = ⟨k, s, nm, p, en⟩) (k2 : k ≠ 2) (k3 : k ≠ 3) (k1 : k ≠ 1) (m45 : isM 45 ts = false) (m40 : isM 40 ts = false) :
    Calls Try.prog 86 #[.pointer (some ⟨g, 0, none⟩)] w fun e w' => e = .returned (.tuple #[]) ∧ Ends w A c L g vn vd (.bad 90 p) w' := by
  have HN := Aside0.mk (snowok_calls w A c L g vn vd ts lev ns dp h)
  rw [ht] at HN
  have HSZ : Aside0 (ns.length + ts.length ≤ 33554432) := ⟨by obtain ⟨q, _, _, _, h4⟩ := h; exact h4.sz⟩
  have HI := Aside0.mk h
  have HT := Aside0.mk ht
  have HG := Aside0.mk hG
  have e2 : (k == 2) = false := beq_eq_false_iff_ne.2 k2
  have e3 : (k == 3) = false := beq_eq_false_iff_ne.2 k3
  have e1 : (k == 1) = false := beq_eq_false_iff_ne.2 k1
  have HM45 : Aside0 (Sg.is 4 ⟨#[45]⟩ (.ok ts lev ns dp) = false) := ⟨m45⟩
  have HM40 : Aside0 (Sg.is 4 ⟨#[40]⟩ (.ok ts lev ns dp) = false) := ⟨m40⟩
  clear h ht hG k2 k3 k1 m45 m40
  go_enter Try.func86, Try.ntmps86
  go_wp2_with fail
  refine HN.out.mono ?_
  rintro e w0 ⟨rfl, hb0⟩
  obtain ⟨W, hW⟩ : ∃ W, W = w0.alloc (.cells #[.int .i64 k, .string s, .int .u64 nm, .int .i64 p, .int .i64 en] 47) := ⟨_, rfl⟩
  have hB : Below w.heap.size w W := by rw [hW]; exact below_alloc hb0 _
  have hX : W.heap[w0.heap.size]? = some (.cells #[.int .i64 k, .string s, .int .u64 nm, .int .i64 p, .int .i64 en] 47 (0, 0)) := by rw [hW]; exact blk_new _ _
  obtain ⟨b, hb⟩ : ∃ b, b = w0.heap.size := ⟨_, rfl⟩
  rw [← hb] at hX
  have HI0 := Aside0.mk (HI.out.below hB)
  have HV0 := Aside0.mk ((Hv.refl (vn := vn) (vd := vd) (by have := HI.out.glt; omega) : Hv w w g vn vd vn vd).below hB (by have := HI.out.glt; omega))
  have y2 := HI0.out.ok2
  obtain ⟨z0, z1, z2, z3, z4⟩ := tokBox (t := ⟨k, s, nm, p, en⟩) hX
  have HX := Aside0.mk hX
  have HW := Aside0.mk hW
  have HB := Aside0.mk hb
  rw [hW] at y2
  rw [hW, hb] at z0 z1 z2 z3 z4
  clear hW hB hX hb hb0
  go_wp2_with fail
  rw [← HW.out]
  refine (sis_calls W A c L g vn vd _ 4 ⟨#[45]⟩ HI0.out).mono ?_
  rw [HM45.out]
  rintro e w5 ⟨rfl, hb5⟩
  have HI5 := Aside0.mk (HI0.out.below hb5)
  have HX5 := Aside0.mk (blk_below HX.out hb5)
  have HV5 := Aside0.mk (HV0.out.below hb5 (by have := HI0.out.glt; omega))
  clear hb5
  go_wp2_with fail
  refine (sis_calls w5 A c L g vn vd _ 4 ⟨#[40]⟩ HI5.out).mono ?_
  rw [HM40.out]
  rintro e w6 ⟨rfl, hb6⟩
  have HI6 := Aside0.mk (HI5.out.below hb6)
  have HX6 := Aside0.mk (blk_below HX5.out hb6)
  have HV6 := Aside0.mk (HV5.out.below hb6 (by have := HI5.out.glt; omega))
  clear hb6
  have HTK := Aside0.mk (stake_calls w6 A c L g vn vd ts lev ns dp false HG.out (fun h => by cases h) HI6.out)
  go_wp2_with fail
  refine HTK.out.mono ?_
  rintro e w1 ⟨rfl, hi1, hg1⟩
  unfold tokV
  have HI1 := Aside0.mk (show Is w1 A c L g vn vd (.bad 90 p) from by have := hi1; rw [show Sg.step (.ok ts lev ns dp) (P.want false) = .bad 90 (hd ts).f3 from rfl, HT.out] at this; exact this)
  have HV1 := Aside0.mk (HV6.out.trans (Hv.of_grown hg1 (by have := HI6.out.glt; omega)))
  clear hi1 hg1
  go_wp2
  go_end0
  exact ⟨rfl, vn, vd, HI1.out, HV1.out⟩
set_option maxHeartbeats 8000000 in
set_option maxRecDepth 100000 in
theorem fac_neg_over (w : World) (A : Option Addr) (c : Nat) (L : List Tk) (g : Nat) (vn vd : Value) (ts : List Tk) (lev : Nat) (ns : List Nd) (dp : List Int) (k : Int) (s : ByteArray) (nm p en : Int) (hG : Good L) (h : Is w A c L g vn vd (.ok ts lev ns dp)) (ht : hd ts = ⟨k, s, nm, p, en⟩) (k2 : k ≠ 2) (k3 : k ≠ 3) (k1 : k ≠ 1) (m45 : isM 45 ts = true) (hlv : 100 ≤ lev) :
    Calls Try.prog 86 #[.pointer (some ⟨g, 0, none⟩)] w fun e w' => e = .returned (.tuple #[]) ∧ Ends w A c L g vn vd (.bad 91 p) w' := by
  have HN := Aside0.mk (snowok_calls w A c L g vn vd ts lev ns dp h)
  rw [ht] at HN
  have HSZ : Aside0 (ns.length + ts.length ≤ 33554432) := ⟨by obtain ⟨q, _, _, _, h4⟩ := h; exact h4.sz⟩
  have HI := Aside0.mk h
  have HT := Aside0.mk ht
  have HG := Aside0.mk hG
  have e2 : (k == 2) = false := beq_eq_false_iff_ne.2 k2
  have e3 : (k == 3) = false := beq_eq_false_iff_ne.2 k3
  have e1 : (k == 1) = false := beq_eq_false_iff_ne.2 k1
  have HM45 : Aside0 (Sg.is 4 ⟨#[45]⟩ (.ok ts lev ns dp) = true) := ⟨m45⟩
  have HOS : Aside0 (openS ⟨k, s, nm, p, en⟩ (.ok ts lev ns dp) = .bad 91 p) := ⟨by unfold openS; simp only [if_pos hlv]⟩
  have HOD : Aside0 (decide (lev < 100) = false) := ⟨decide_eq_false (by omega)⟩
  clear h ht hG k2 k3 k1 m45 hlv
  go_enter Try.func86, Try.ntmps86
  go_wp2_with fail
  refine HN.out.mono ?_
  rintro e w0 ⟨rfl, hb0⟩
  obtain ⟨W, hW⟩ : ∃ W, W = w0.alloc (.cells #[.int .i64 k, .string s, .int .u64 nm, .int .i64 p, .int .i64 en] 47) := ⟨_, rfl⟩
  have hB : Below w.heap.size w W := by rw [hW]; exact below_alloc hb0 _
  have hX : W.heap[w0.heap.size]? = some (.cells #[.int .i64 k, .string s, .int .u64 nm, .int .i64 p, .int .i64 en] 47 (0, 0)) := by rw [hW]; exact blk_new _ _
  obtain ⟨b, hb⟩ : ∃ b, b = w0.heap.size := ⟨_, rfl⟩
  rw [← hb] at hX
  have HI0 := Aside0.mk (HI.out.below hB)
  have HV0 := Aside0.mk ((Hv.refl (vn := vn) (vd := vd) (by have := HI.out.glt; omega) : Hv w w g vn vd vn vd).below hB (by have := HI.out.glt; omega))
  have y2 := HI0.out.ok2
  obtain ⟨z0, z1, z2, z3, z4⟩ := tokBox (t := ⟨k, s, nm, p, en⟩) hX
  have HX := Aside0.mk hX
  have HW := Aside0.mk hW
  have HB := Aside0.mk hb
  rw [hW] at y2
  rw [hW, hb] at z0 z1 z2 z3 z4
  clear hW hB hX hb hb0
  go_wp2_with fail
  rw [← HW.out]
  refine (sis_calls W A c L g vn vd _ 4 ⟨#[45]⟩ HI0.out).mono ?_
  rw [HM45.out]
  rintro e w5 ⟨rfl, hb5⟩
  have HI5 := Aside0.mk (HI0.out.below hb5)
  have HX5 := Aside0.mk (blk_below HX.out hb5)
  have HV5 := Aside0.mk (HV0.out.below hb5 (by have := HI0.out.glt; omega))
  clear hb5
  obtain ⟨x0, x1, x2, x3, x4⟩ := tokBox (t := ⟨k, s, nm, p, en⟩) HX5.out
  rw [HB.out] at x0 x1 x2 x3 x4
  have HOP := Aside0.mk (sopen_calls w5 A c L g vn vd ts lev ns dp ⟨k, s, nm, p, en⟩ HI5.out)
  rw [HOS.out, HOD.out] at HOP
  go_wp2_with fail
  refine HOP.out.mono ?_
  rintro e wa ⟨rfl, hi, hg⟩
  have HIa := Aside0.mk hi
  have HVa := Aside0.mk (HV5.out.trans (Hv.of_grown hg (by have := HI5.out.glt; omega)))
  clear hi hg
  go_wp2
  refine bodyPost_ret (results_none rfl _ _ _) rfl ?_
  exact ⟨rfl, vn, vd, HIa.out, HVa.out⟩
set_option maxHeartbeats 8000000 in
set_option maxRecDepth 100000 in
theorem fac_par_over (w : World) (A : Option Addr) (c : Nat) (L : List Tk) (g : Nat) (vn vd : Value) (ts : List Tk) (lev : Nat) (ns : List Nd) (dp : List Int) (k : Int) (s : ByteArray) (nm p en : Int) (hG : Good L) (h : Is w A c L g vn vd (.ok ts lev ns dp)) (ht : hd ts = ⟨k, s, nm, p, en⟩) (k2 : k ≠ 2) (k3 : k ≠ 3) (k1 : k ≠ 1) (m45 : isM 45 ts = false) (m40 : isM 40 ts = true) (hlv : 100 ≤ lev) :
    Calls Try.prog 86 #[.pointer (some ⟨g, 0, none⟩)] w fun e w' => e = .returned (.tuple #[]) ∧ Ends w A c L g vn vd (.bad 91 p) w' := by
  have HN := Aside0.mk (snowok_calls w A c L g vn vd ts lev ns dp h)
  rw [ht] at HN
  have HSZ : Aside0 (ns.length + ts.length ≤ 33554432) := ⟨by obtain ⟨q, _, _, _, h4⟩ := h; exact h4.sz⟩
  have HI := Aside0.mk h
  have HT := Aside0.mk ht
  have HG := Aside0.mk hG
  have e2 : (k == 2) = false := beq_eq_false_iff_ne.2 k2
  have e3 : (k == 3) = false := beq_eq_false_iff_ne.2 k3
  have e1 : (k == 1) = false := beq_eq_false_iff_ne.2 k1
  have HM45 : Aside0 (Sg.is 4 ⟨#[45]⟩ (.ok ts lev ns dp) = false) := ⟨m45⟩
  have HM40 : Aside0 (Sg.is 4 ⟨#[40]⟩ (.ok ts lev ns dp) = true) := ⟨m40⟩
  have HOS : Aside0 (openS ⟨k, s, nm, p, en⟩ (.ok ts lev ns dp) = .bad 91 p) := ⟨by unfold openS; simp only [if_pos hlv]⟩
  have HOD : Aside0 (decide (lev < 100) = false) := ⟨decide_eq_false (by omega)⟩
  clear h ht hG k2 k3 k1 m45 m40 hlv
  go_enter Try.func86, Try.ntmps86
  go_wp2_with fail
  refine HN.out.mono ?_
  rintro e w0 ⟨rfl, hb0⟩
  obtain ⟨W, hW⟩ : ∃ W, W = w0.alloc (.cells #[.int .i64 k, .string s, .int .u64 nm, .int .i64 p, .int .i64 en] 47) := ⟨_, rfl⟩
  have hB : Below w.heap.size w W := by rw [hW]; exact below_alloc hb0 _
  have hX : W.heap[w0.heap.size]? = some (.cells #[.int .i64 k, .string s, .int .u64 nm, .int .i64 p, .int .i64 en] 47 (0, 0)) := by rw [hW]; exact blk_new _ _
  obtain ⟨b, hb⟩ : ∃ b, b = w0.heap.size := ⟨_, rfl⟩
  rw [← hb] at hX
  have HI0 := Aside0.mk (HI.out.below hB)
  have HV0 := Aside0.mk ((Hv.refl (vn := vn) (vd := vd) (by have := HI.out.glt; omega) : Hv w w g vn vd vn vd).below hB (by have := HI.out.glt; omega))
  have y2 := HI0.out.ok2
  obtain ⟨z0, z1, z2, z3, z4⟩ := tokBox (t := ⟨k, s, nm, p, en⟩) hX
  have HX := Aside0.mk hX
  have HW := Aside0.mk hW
  have HB := Aside0.mk hb
  rw [hW] at y2
  rw [hW, hb] at z0 z1 z2 z3 z4
  clear hW hB hX hb hb0
  go_wp2_with fail
  rw [← HW.out]
  refine (sis_calls W A c L g vn vd _ 4 ⟨#[45]⟩ HI0.out).mono ?_
  rw [HM45.out]
  rintro e w5 ⟨rfl, hb5⟩
  have HI5 := Aside0.mk (HI0.out.below hb5)
  have HX5 := Aside0.mk (blk_below HX.out hb5)
  have HV5 := Aside0.mk (HV0.out.below hb5 (by have := HI0.out.glt; omega))
  clear hb5
  go_wp2_with fail
  refine (sis_calls w5 A c L g vn vd _ 4 ⟨#[40]⟩ HI5.out).mono ?_
  rw [HM40.out]
  rintro e w6 ⟨rfl, hb6⟩
  have HI6 := Aside0.mk (HI5.out.below hb6)
  have HX6 := Aside0.mk (blk_below HX5.out hb6)
  have HV6 := Aside0.mk (HV5.out.below hb6 (by have := HI5.out.glt; omega))
  clear hb6
  obtain ⟨x0, x1, x2, x3, x4⟩ := tokBox (t := ⟨k, s, nm, p, en⟩) HX6.out
  rw [HB.out] at x0 x1 x2 x3 x4
  have HOP := Aside0.mk (sopen_calls w6 A c L g vn vd ts lev ns dp ⟨k, s, nm, p, en⟩ HI6.out)
  rw [HOS.out, HOD.out] at HOP
  go_wp2_with fail
  refine HOP.out.mono ?_
  rintro e wa ⟨rfl, hi, hg⟩
  have HIa := Aside0.mk hi
  have HVa := Aside0.mk (HV6.out.trans (Hv.of_grown hg (by have := HI6.out.glt; omega)))
  clear hi hg
  go_wp2
  refine bodyPost_ret (results_none rfl _ _ _) rfl ?_
  exact ⟨rfl, vn, vd, HIa.out, HVa.out⟩
set_option maxHeartbeats 8000000 in
set_option maxRecDepth 100000 in
theorem fac_neg (m : Nat) (HF : CT m .fac 86) (w : World) (A : Option Addr) (c : Nat) (L : List Tk) (g : Nat) (vn vd : Value) (ts : List Tk) (lev : Nat) (ns : List Nd) (dp : List Int) (k : Int) (s : ByteArray) (nm p en : Int) (hG : Good L) (h : Is w A c L g vn vd (.ok ts lev ns dp)) (ht : hd ts = ⟨k, s, nm, p, en⟩) (k2 : k ≠ 2) (k3 : k ≠ 3) (k1 : k ≠ 1) (m45 : isM 45 ts = true) (hlv : lev < 100) (hf : ∀ pl, ((P.X m .fac (lev + 1) ts.tail).bind fun a r => comb (P.node 5 p) [a] r) ≠ .bad 0 pl) :
    Calls Try.prog 86 #[.pointer (some ⟨g, 0, none⟩)] w fun e w' => e = .returned (.tuple #[]) ∧ Ends w A c L g vn vd (outS lev ns dp ((P.X m .fac (lev + 1) ts.tail).bind fun a r => comb (P.node 5 p) [a] r)) w' := by
  have HN := Aside0.mk (snowok_calls w A c L g vn vd ts lev ns dp h)
  rw [ht] at HN
  have HSZ : Aside0 (ns.length + ts.length ≤ 33554432) := ⟨by obtain ⟨q, _, _, _, h4⟩ := h; exact h4.sz⟩
  have HI := Aside0.mk h
  have HT := Aside0.mk ht
  have HG := Aside0.mk hG
  have e2 : (k == 2) = false := beq_eq_false_iff_ne.2 k2
  have e3 : (k == 3) = false := beq_eq_false_iff_ne.2 k3
  have e1 : (k == 1) = false := beq_eq_false_iff_ne.2 k1
  have HM45 : Aside0 (Sg.is 4 ⟨#[45]⟩ (.ok ts lev ns dp) = true) := ⟨m45⟩
  have HOS : Aside0 (openS ⟨k, s, nm, p, en⟩ (.ok ts lev ns dp) = .ok ts (lev + 1) ns dp) := ⟨by unfold openS; simp only [if_neg (by omega : ¬ 100 ≤ lev)]⟩
  have HOD : Aside0 (decide (lev < 100) = true) := ⟨decide_eq_true (by omega)⟩
  have HK : Aside0 ((hd ts).f0 ≠ 0) := ⟨by rw [isT_kind (show isT 4 (mk1 45) ts = true from m45)]; decide⟩
  have HF := Aside0.mk HF
  have HFL : Aside0 (∀ pl, (puG (P.node 5 p) 1 (goS m .fac (stS (lev + 1) ns dp [] ts.tail))).down ≠ .bad 0 pl) := ⟨fun pl e => by
    have e' := neg_st m lev ns dp ts.tail (P.node 5 p)
    rw [e] at e'
    cases hr : ((P.X m .fac (lev + 1) ts.tail).bind fun a r => comb (P.node 5 p) [a] r) with
    | ok a r => rw [hr] at e'; cases e'
    | bad e0 p0 =>
      rw [hr] at e'
      injection e' with e1 e2
      subst e1
      exact hf _ hr⟩
  have HLAW := Aside0.mk (neg_st m lev ns dp ts.tail (P.node 5 p))
  clear h ht hG k2 k3 k1 m45 hlv hf
  go_enter Try.func86, Try.ntmps86
  go_wp2_with fail
  refine HN.out.mono ?_
  rintro e w0 ⟨rfl, hb0⟩
  obtain ⟨W, hW⟩ : ∃ W, W = w0.alloc (.cells #[.int .i64 k, .string s, .int .u64 nm, .int .i64 p, .int .i64 en] 47) := ⟨_, rfl⟩
  have hB : Below w.heap.size w W := by rw [hW]; exact below_alloc hb0 _
  have hX : W.heap[w0.heap.size]? = some (.cells #[.int .i64 k, .string s, .int .u64 nm, .int .i64 p, .int .i64 en] 47 (0, 0)) := by rw [hW]; exact blk_new _ _
  obtain ⟨b, hb⟩ : ∃ b, b = w0.heap.size := ⟨_, rfl⟩
  rw [← hb] at hX
  have HI0 := Aside0.mk (HI.out.below hB)
  have HV0 := Aside0.mk ((Hv.refl (vn := vn) (vd := vd) (by have := HI.out.glt; omega) : Hv w w g vn vd vn vd).below hB (by have := HI.out.glt; omega))
  have y2 := HI0.out.ok2
  obtain ⟨z0, z1, z2, z3, z4⟩ := tokBox (t := ⟨k, s, nm, p, en⟩) hX
  have HX := Aside0.mk hX
  have HW := Aside0.mk hW
  have HB := Aside0.mk hb
  rw [hW] at y2
  rw [hW, hb] at z0 z1 z2 z3 z4
  clear hW hB hX hb hb0
  go_wp2_with fail
  rw [← HW.out]
  refine (sis_calls W A c L g vn vd _ 4 ⟨#[45]⟩ HI0.out).mono ?_
  rw [HM45.out]
  rintro e w5 ⟨rfl, hb5⟩
  have HI5 := Aside0.mk (HI0.out.below hb5)
  have HX5 := Aside0.mk (blk_below HX.out hb5)
  have HV5 := Aside0.mk (HV0.out.below hb5 (by have := HI0.out.glt; omega))
  clear hb5
  obtain ⟨x0, x1, x2, x3, x4⟩ := tokBox (t := ⟨k, s, nm, p, en⟩) HX5.out
  rw [HB.out] at x0 x1 x2 x3 x4
  have HOP := Aside0.mk (sopen_calls w5 A c L g vn vd ts lev ns dp ⟨k, s, nm, p, en⟩ HI5.out)
  rw [HOS.out, HOD.out] at HOP
  go_wp2_with fail
  refine HOP.out.mono ?_
  rintro e wa ⟨rfl, hi, hg⟩
  have HIa := Aside0.mk hi
  have HVa := Aside0.mk (HV5.out.trans (Hv.of_grown hg (by have := HI5.out.glt; omega)))
  have HXa := Aside0.mk (HI5.out.box_keep (Hv.of_grown hg (by have := HI5.out.glt; omega)) HX5.out)
  clear hi hg
  have HTK := Aside0.mk (stake_calls wa A c L g vn vd ts (lev + 1) ns dp true HG.out (fun _ => HK.out) HIa.out)
  go_wp2_with fail
  refine HTK.out.mono ?_
  rintro e wb ⟨rfl, hi, hg⟩
  unfold tokV
  have HIb := Aside0.mk (show Is wb A c L g vn vd (stS (lev + 1) ns dp [] ts.tail) from by rw [st_nil]; exact hi)
  have HXb := Aside0.mk (HIa.out.box_keep (Hv.of_grown hg (by have := HIa.out.glt; omega)) HXa.out)
  have HVb := Aside0.mk (HVa.out.trans (Hv.of_grown hg (by have := HIa.out.glt; omega)))
  have HAb := Aside0.mk (At_st (lev + 1) ns dp ts.tail (N := 33554431) (by have := HSZ.out; have := P.hd_len HK.out; omega))
  clear hi hg
  have HXP := Aside0.mk (gfac HF.out HG.out HIb.out (fun p e => HFL.out p (by rw [e]; rfl)))
  go_wp2_with fail
  refine HXP.out.mono ?_
  rintro e wc ⟨rfl, vnc, vdc, hi, hv⟩
  have HIc := Aside0.mk hi
  have HVc := Aside0.mk (HVb.out.trans hv)
  have HAc := Aside0.mk (At_go (m := m) (f := .fac) HAb.out rfl)
  obtain ⟨y0, y1, y2, y3, y4⟩ := tokBox (t := ⟨k, s, nm, p, en⟩) (HIb.out.box_keep hv HXb.out)
  rw [HB.out] at y0 y1 y2 y3 y4
  clear hi hv HXP
  have HPT := Aside0.mk (gput (P.node 5 p) HIc.out HAc.out (by omega))
  go_wp2_with fail
  refine HPT.out.mono ?_
  rintro e wp ⟨rfl, vnp, vdp, hip, hvp⟩
  have HIp := Aside0.mk hip
  have HVp := Aside0.mk (HVc.out.trans hvp)
  clear hip hvp
  obtain ⟨lv, l4, f4, hid, hvd⟩ := glevel HIp.out (At_pu HAc.out (P.node 5 p)) (by omega)
  have HID := Aside0.mk hid
  have HVD := Aside0.mk (HVp.out.trans hvd)
  clear hid hvd
  go_wp2
  go_end0
  refine ⟨rfl, vnp, vdp, ?_, HVD.out⟩
  rw [← HLAW.out]
  exact HID.out
set_option maxHeartbeats 8000000 in
set_option maxRecDepth 100000 in
theorem fac_par (m : Nat) (HE : CT m .expr 49) (w : World) (A : Option Addr) (c : Nat) (L : List Tk) (g : Nat) (vn vd : Value) (ts : List Tk) (lev : Nat) (ns : List Nd) (dp : List Int) (k : Int) (s : ByteArray) (nm p en : Int) (hG : Good L) (h : Is w A c L g vn vd (.ok ts lev ns dp)) (ht : hd ts = ⟨k, s, nm, p, en⟩) (k2 : k ≠ 2) (k3 : k ≠ 3) (k1 : k ≠ 1) (m45 : isM 45 ts = false) (m40 : isM 40 ts = true) (hlv : lev < 100) (hf : ∀ pl, ((P.X m .expr (lev + 1) ts.tail).bind fun a r => (takeM 41 r).bind fun _ r => .ok a r) ≠ .bad 0 pl) :
    Calls Try.prog 86 #[.pointer (some ⟨g, 0, none⟩)] w fun e w' => e = .returned (.tuple #[]) ∧ Ends w A c L g vn vd (outS lev ns dp ((P.X m .expr (lev + 1) ts.tail).bind fun a r => (takeM 41 r).bind fun _ r => .ok a r)) w' := by
  have HN := Aside0.mk (snowok_calls w A c L g vn vd ts lev ns dp h)
  rw [ht] at HN
  have HSZ : Aside0 (ns.length + ts.length ≤ 33554432) := ⟨by obtain ⟨q, _, _, _, h4⟩ := h; exact h4.sz⟩
  have HI := Aside0.mk h
  have HT := Aside0.mk ht
  have HG := Aside0.mk hG
  have e2 : (k == 2) = false := beq_eq_false_iff_ne.2 k2
  have e3 : (k == 3) = false := beq_eq_false_iff_ne.2 k3
  have e1 : (k == 1) = false := beq_eq_false_iff_ne.2 k1
  have HM45 : Aside0 (Sg.is 4 ⟨#[45]⟩ (.ok ts lev ns dp) = false) := ⟨m45⟩
  have HM40 : Aside0 (Sg.is 4 ⟨#[40]⟩ (.ok ts lev ns dp) = true) := ⟨m40⟩
  have HOS : Aside0 (openS ⟨k, s, nm, p, en⟩ (.ok ts lev ns dp) = .ok ts (lev + 1) ns dp) := ⟨by unfold openS; simp only [if_neg (by omega : ¬ 100 ≤ lev)]⟩
  have HOD : Aside0 (decide (lev < 100) = true) := ⟨decide_eq_true (by omega)⟩
  have HK : Aside0 ((hd ts).f0 ≠ 0) := ⟨by rw [isT_kind (show isT 4 (mk1 40) ts = true from m40)]; decide⟩
  have HE := Aside0.mk HE
  have HFL : Aside0 (∀ pl, ((goS m .expr (stS (lev + 1) ns dp [] ts.tail)).step (takeM 41)).down ≠ .bad 0 pl) := ⟨fun pl e => by
    have e' := par_st m lev ns dp ts.tail
    rw [e] at e'
    cases hr : ((P.X m .expr (lev + 1) ts.tail).bind fun a r => (takeM 41 r).bind fun _ r => .ok a r) with
    | ok a r => rw [hr] at e'; cases e'
    | bad e0 p0 =>
      rw [hr] at e'
      injection e' with e1 e2
      subst e1
      exact hf _ hr⟩
  have HLAW := Aside0.mk (par_st m lev ns dp ts.tail)
  clear h ht hG k2 k3 k1 m45 m40 hlv hf
  go_enter Try.func86, Try.ntmps86
  go_wp2_with fail
  refine HN.out.mono ?_
  rintro e w0 ⟨rfl, hb0⟩
  obtain ⟨W, hW⟩ : ∃ W, W = w0.alloc (.cells #[.int .i64 k, .string s, .int .u64 nm, .int .i64 p, .int .i64 en] 47) := ⟨_, rfl⟩
  have hB : Below w.heap.size w W := by rw [hW]; exact below_alloc hb0 _
  have hX : W.heap[w0.heap.size]? = some (.cells #[.int .i64 k, .string s, .int .u64 nm, .int .i64 p, .int .i64 en] 47 (0, 0)) := by rw [hW]; exact blk_new _ _
  obtain ⟨b, hb⟩ : ∃ b, b = w0.heap.size := ⟨_, rfl⟩
  rw [← hb] at hX
  have HI0 := Aside0.mk (HI.out.below hB)
  have HV0 := Aside0.mk ((Hv.refl (vn := vn) (vd := vd) (by have := HI.out.glt; omega) : Hv w w g vn vd vn vd).below hB (by have := HI.out.glt; omega))
  have y2 := HI0.out.ok2
  obtain ⟨z0, z1, z2, z3, z4⟩ := tokBox (t := ⟨k, s, nm, p, en⟩) hX
  have HX := Aside0.mk hX
  have HW := Aside0.mk hW
  have HB := Aside0.mk hb
  rw [hW] at y2
  rw [hW, hb] at z0 z1 z2 z3 z4
  clear hW hB hX hb hb0
  go_wp2_with fail
  rw [← HW.out]
  refine (sis_calls W A c L g vn vd _ 4 ⟨#[45]⟩ HI0.out).mono ?_
  rw [HM45.out]
  rintro e w5 ⟨rfl, hb5⟩
  have HI5 := Aside0.mk (HI0.out.below hb5)
  have HX5 := Aside0.mk (blk_below HX.out hb5)
  have HV5 := Aside0.mk (HV0.out.below hb5 (by have := HI0.out.glt; omega))
  clear hb5
  go_wp2_with fail
  refine (sis_calls w5 A c L g vn vd _ 4 ⟨#[40]⟩ HI5.out).mono ?_
  rw [HM40.out]
  rintro e w6 ⟨rfl, hb6⟩
  have HI6 := Aside0.mk (HI5.out.below hb6)
  have HX6 := Aside0.mk (blk_below HX5.out hb6)
  have HV6 := Aside0.mk (HV5.out.below hb6 (by have := HI5.out.glt; omega))
  clear hb6
  obtain ⟨x0, x1, x2, x3, x4⟩ := tokBox (t := ⟨k, s, nm, p, en⟩) HX6.out
  rw [HB.out] at x0 x1 x2 x3 x4
  have HOP := Aside0.mk (sopen_calls w6 A c L g vn vd ts lev ns dp ⟨k, s, nm, p, en⟩ HI6.out)
  rw [HOS.out, HOD.out] at HOP
  go_wp2_with fail
  refine HOP.out.mono ?_
  rintro e wa ⟨rfl, hi, hg⟩
  have HIa := Aside0.mk hi
  have HVa := Aside0.mk (HV6.out.trans (Hv.of_grown hg (by have := HI6.out.glt; omega)))
  have HXa := Aside0.mk (HI6.out.box_keep (Hv.of_grown hg (by have := HI6.out.glt; omega)) HX6.out)
  clear hi hg
  have HTK := Aside0.mk (stake_calls wa A c L g vn vd ts (lev + 1) ns dp true HG.out (fun _ => HK.out) HIa.out)
  go_wp2_with fail
  refine HTK.out.mono ?_
  rintro e wb ⟨rfl, hi, hg⟩
  unfold tokV
  have HIb := Aside0.mk (show Is wb A c L g vn vd (stS (lev + 1) ns dp [] ts.tail) from by rw [st_nil]; exact hi)
  have HXb := Aside0.mk (HIa.out.box_keep (Hv.of_grown hg (by have := HIa.out.glt; omega)) HXa.out)
  have HVb := Aside0.mk (HVa.out.trans (Hv.of_grown hg (by have := HIa.out.glt; omega)))
  have HAb := Aside0.mk (At_st (lev + 1) ns dp ts.tail (N := 33554431) (by have := HSZ.out; have := P.hd_len HK.out; omega))
  clear hi hg
  have HXP := Aside0.mk (gexpr HE.out HG.out HIb.out (fun p e => HFL.out p (by rw [e]; rfl)))
  go_wp2_with fail
  refine HXP.out.mono ?_
  rintro e wc ⟨rfl, vnc, vdc, hi, hv⟩
  have HIc := Aside0.mk hi
  have HVc := Aside0.mk (HVb.out.trans hv)
  have HAc := Aside0.mk (At_go (m := m) (f := .expr) HAb.out rfl)
  clear hi hv HXP
  have HMK := Aside0.mk (gmark 41 HG.out HIc.out)
  go_wp2_with fail
  refine HMK.out.mono ?_
  rintro e wd ⟨⟨tq, rfl⟩, hi, hv⟩
  have HIp := Aside0.mk hi
  have HVp := Aside0.mk (HVc.out.trans hv)
  clear hi hv HMK
  obtain ⟨lv, l4, f4, hid, hvd⟩ := glevel HIp.out (At_step (N := 33554430) HAc.out 41) (by omega)
  have HID := Aside0.mk hid
  have HVD := Aside0.mk (HVp.out.trans hvd)
  clear hid hvd
  go_wp2
  go_end0
  refine ⟨rfl, vnc, vdc, ?_, HVD.out⟩
  rw [← HLAW.out]
  exact HID.out
end Go.Proofs.Ytbdcndkafaajpaa.A
end
section
set_option linter.unusedVariables false
set_option linter.unusedSimpArgs false
namespace Go.Proofs.Ytbdcndkafaajpaa.A
open Go.RowKit Go.Proofs.Ytbdcndkafaajpaa.X Go.Proofs.YtbdcndkafaajpaaW.PrintWords Go.Proofs.YtbdcndkafaajpaaW.PrintLast Go.Proofs.YtbdcndkafaajpaaW.PrintMore
open Go.Proofs.Ytbdcndkafaajpaa.P (Nd EO Res hd isT isM takeM mxl comb mk1)
theorem named_ok (n : Nat) (HE : ∀ m, m ≤ n → CT m .expr 49) (w : World) (A : Option Addr) (c : Nat) (L : List Tk) (g : Nat) (vn vd : Value) (ts : List Tk) (lev : Nat) (ns : List Nd) (dp : List Int) (s : ByteArray) (nm p en : Int) (hG : Good L) (h : Is w A c L g vn vd (.ok ts lev ns dp)) (ht : hd ts = ⟨1, s, nm, p, en⟩) (hf : ∀ pl, P.X (n + 1) .fac lev ts ≠ .bad 0 pl) :
    Calls Try.prog 93 #[.pointer (some ⟨g, 0, none⟩), .agg #[.int .i64 1, .string s, .int .u64 nm, .int .i64 p, .int .i64 en]] w fun e w' => e = .returned (.tuple #[]) ∧ Ends w A c L g vn vd (outS lev ns dp (P.X (n + 1) .fac lev ts)) w' := by
  rw [P.X, ht] at hf ⊢
  simp only [show (1 : Int) ≠ 2 by decide, show (1 : Int) ≠ 3 by decide, if_true, if_false] at hf ⊢
  by_cases c1 : s = P.sTrue
  · subst c1
    rw [if_pos rfl]
    exact named_true w A c L g vn vd ts lev ns dp nm p en hG h ht
  rw [if_neg c1] at hf ⊢
  by_cases c2 : s = P.sFalse
  · subst c2
    rw [if_pos rfl]
    exact named_false w A c L g vn vd ts lev ns dp nm p en hG h ht
  rw [if_neg c2] at hf ⊢
  by_cases c3 : s = P.sCat
  · subst c3
    rw [if_pos rfl] at hf ⊢
    by_cases cl : 100 ≤ lev
    · rw [if_pos cl]
      exact named_cat_over w A c L g vn vd ts lev ns dp nm p en hG h ht cl
    · rw [if_neg cl] at hf ⊢
      exact named_cat n HE w A c L g vn vd ts lev ns dp nm p en hG h ht (by omega) hf
  rw [if_neg c3] at hf ⊢
  by_cases c4 : s = P.sRep
  · subst c4
    rw [if_pos rfl] at hf ⊢
    by_cases cl : 100 ≤ lev
    · rw [if_pos cl]
      exact named_rep_over w A c L g vn vd ts lev ns dp nm p en hG h ht cl
    · rw [if_neg cl] at hf ⊢
      exact named_rep n (HE n (Nat.le_refl _)) w A c L g vn vd ts lev ns dp nm p en hG h ht (by omega) hf
  rw [if_neg c4] at hf ⊢
  by_cases c5 : s = P.sLen
  · subst c5
    rw [if_pos rfl] at hf ⊢
    by_cases cl : 100 ≤ lev
    · rw [if_pos cl]
      exact named_len_over w A c L g vn vd ts lev ns dp nm p en hG h ht cl
    · rw [if_neg cl] at hf ⊢
      exact named_len n (HE n (Nat.le_refl _)) w A c L g vn vd ts lev ns dp nm p en hG h ht (by omega) hf
  rw [if_neg c5] at hf ⊢
  by_cases c6 : s = P.sHex
  · subst c6
    rw [if_pos rfl] at hf ⊢
    by_cases cl : 100 ≤ lev
    · rw [if_pos cl]
      exact named_hex_over w A c L g vn vd ts lev ns dp nm p en hG h ht cl
    · rw [if_neg cl] at hf ⊢
      exact named_hex n (HE n (Nat.le_refl _)) w A c L g vn vd ts lev ns dp nm p en hG h ht (by omega) hf
  rw [if_neg c6]
  exact named_none w A c L g vn vd ts lev ns dp s nm p en hG h ht c1 c2 (by unfold opOf; rw [if_neg c3, if_neg c4, if_neg c5, if_neg c6])
theorem fac_ok (n : Nat) (HE : ∀ m, m ≤ n → CT m .expr 49) (HF : CT n .fac 86) : CT (n + 1) .fac 86 := by
  intro w A c L g vn vd ts lev ns dp hG h hf
  obtain ⟨t, ht⟩ : ∃ t, t = hd ts := ⟨_, rfl⟩
  obtain ⟨k, s, nm, p, en⟩ := t
  have ht := ht.symm
  by_cases c1 : k = 1
  · subst c1
    exact fac_name _ w A c L g vn vd ts lev ns dp s nm p en hG h ht (fun w' h' => named_ok n HE w' A c L g vn vd ts lev ns dp s nm p en hG h' ht hf)
  rw [P.X, ht] at hf ⊢
  by_cases c2 : k = 2
  · subst c2
    rw [if_pos rfl]
    exact fac_num w A c L g vn vd ts lev ns dp s nm p en hG h ht
  by_cases c3 : k = 3
  · subst c3
    rw [if_neg (show ¬ (3 : Int) = 2 by decide), if_pos rfl]
    exact fac_text w A c L g vn vd ts lev ns dp s nm p en hG h ht
  rw [if_neg c2, if_neg c3, if_neg c1] at hf ⊢
  by_cases m1 : isM 45 ts = true
  · rw [if_pos m1] at hf ⊢
    by_cases cl : 100 ≤ lev
    · rw [if_pos cl]
      exact fac_neg_over w A c L g vn vd ts lev ns dp k s nm p en hG h ht c2 c3 c1 m1 cl
    · rw [if_neg cl] at hf ⊢
      exact fac_neg n HF w A c L g vn vd ts lev ns dp k s nm p en hG h ht c2 c3 c1 m1 (by omega) hf
  rw [if_neg m1] at hf ⊢
  by_cases m2 : isM 40 ts = true
  · rw [if_pos m2] at hf ⊢
    by_cases cl : 100 ≤ lev
    · rw [if_pos cl]
      exact fac_par_over w A c L g vn vd ts lev ns dp k s nm p en hG h ht c2 c3 c1 (by simpa using m1) m2 cl
    · rw [if_neg cl] at hf ⊢
      exact fac_par n (HE n (Nat.le_refl _)) w A c L g vn vd ts lev ns dp k s nm p en hG h ht c2 c3 c1 (by simpa using m1) m2 (by omega) hf
  rw [if_neg m2]
  exact fac_none w A c L g vn vd ts lev ns dp k s nm p en hG h ht c2 c3 c1 (by simpa using m1) (by simpa using m2)
theorem CT_zero (f : P.Fn) (fid : Nat) : CT 0 f fid := fun w A c L g vn vd ts lev ns dp _ _ hf => absurd rfl (hf 0)
theorem all_ok : ∀ n, (∀ m, m ≤ n → CT m .expr 49) ∧ (∀ m, m ≤ n → CT m .term 73) ∧ (∀ m, m ≤ n → CT m .fac 86) := by
  intro n
  induction n with
  | zero =>
    refine ⟨fun m hm => ?_, fun m hm => ?_, fun m hm => ?_⟩ <;> obtain rfl : m = 0 := by omega
    all_goals exact CT_zero _ _
  | succ n ih =>
    obtain ⟨h1, h2, h3⟩ := ih
    have k1 := expr_ok n h2
    have k2 := term_ok n h3
    have k3 := fac_ok n h1 (h3 n (Nat.le_refl _))
    refine ⟨fun m hm => ?_, fun m hm => ?_, fun m hm => ?_⟩
    · rcases Nat.lt_or_ge m (n + 1) with h | h
      · exact h1 m (by omega)
      · obtain rfl : m = n + 1 := by omega
        exact k1
    · rcases Nat.lt_or_ge m (n + 1) with h | h
      · exact h2 m (by omega)
      · obtain rfl : m = n + 1 := by omega
        exact k2
    · rcases Nat.lt_or_ge m (n + 1) with h | h
      · exact h3 m (by omega)
      · obtain rfl : m = n + 1 := by omega
        exact k3
end Go.Proofs.Ytbdcndkafaajpaa.A
end
section
set_option linter.unusedVariables false
set_option linter.unusedSimpArgs false
namespace Go.Proofs.Ytbdcndkafaajpaa.A
open Go.RowKit Go.Proofs.Ytbdcndkafaajpaa.X Go.Proofs.YtbdcndkafaajpaaW.PrintWords Go.Proofs.YtbdcndkafaajpaaW.PrintLast Go.Proofs.YtbdcndkafaajpaaW.PrintMore
open Go.Proofs.Ytbdcndkafaajpaa.P (Nd EO Res hd isT isM takeM mxl comb mk1)
inductive US where
  | ok (ts : List Tk)
  | bad (e pl : Int)
def US.step {α : Type} (s : US) (f : List Tk → Res α) : US := match s with
  | .ok ts => match f ts with
    | .ok _ r => .ok r
    | .bad e p => .bad e p
  | .bad e p => .bad e p
def US.is (k : Int) (x : ByteArray) : US → Bool
  | .ok ts => isT k x ts
  | .bad _ _ => false
def UQ (L : List Tk) (q : Q3) : US → Prop
  | .ok ts => q.fl = 0 ∧ L.drop q.at_ = ts
  | .bad e p => q.fl = e ∧ q.pl = p ∧ e ≠ 0
def Up (w : World) (A : Option Addr) (c : Nat) (L : List Tk) (g : Nat) (s : US) : Prop := ∃ (q : Q3) (lv : Int) (v5 v6 : Value), UQ L q s ∧ IsP w A c L g q (.int .i64 lv) v5 v6
def Fr (s : US) (t : Tk) : Prop := ∀ ts, s = .ok ts → t = hd ts
section
variable {w w' : World} {A : Option Addr} {c : Nat} {L : List Tk} {g : Nat} {s : US}
theorem Up.below (h : Up w A c L g s) (hb : Below w.heap.size w w') : Up w' A c L g s := by
  obtain ⟨q, v4, v5, v6, hq, hp⟩ := h
  exact ⟨q, v4, v5, v6, hq, hp.below hb⟩
theorem Up.glt (h : Up w A c L g s) : g < w.heap.size := by
  obtain ⟨q, v4, v5, v6, hq, hp⟩ := h
  exact hp.glt
theorem UQ.fr {q : Q3} (h : UQ L q s) (hl : q.at_ < L.length) : Fr s (tk L q.at_) := by
  rintro ts rfl
  obtain ⟨_, rfl⟩ := h
  exact (hd_drop hl).symm
theorem up_take {q : Q3} {lv : Int} {v5 v6 : Value} {b : Bool} (hq : UQ L q s) (hl : q.at_ < L.length) (f : List Tk → Bool) (hb : ∀ ts, s = .ok ts → b = f ts ∧ (b = true → (hd ts).f0 ≠ 0)) (hp : Post w w' A c L g (takeQ L b q) (.int .i64 lv) v5 v6) :
    Up w' A c L g (s.step fun ts => P.want (f ts) ts) ∧ w.grownBy w' (some g) := by
  refine ⟨?_, hp.2⟩
  cases s with
  | ok ts =>
    obtain ⟨h1, rfl⟩ := hq
    obtain ⟨hb1, hb2⟩ := hb _ rfl
    have hp := hp.1
    unfold takeQ at hp
    rw [if_pos h1] at hp
    unfold US.step
    simp only
    rw [← hb1]
    cases b with
    | true =>
      have h0 := hb2 rfl
      rw [if_pos rfl, if_neg (by rw [← hd_drop hl]; exact h0)] at hp
      exact ⟨⟨q.at_ + 1, q.fl, q.pl⟩, _, _, _, ⟨h1, by rw [List.tail_drop]⟩, hp⟩
    | false =>
      rw [if_neg (by decide)] at hp
      unfold failQ at hp
      rw [if_pos h1] at hp
      exact ⟨_, _, _, _, ⟨rfl, by rw [hd_drop hl], by decide⟩, hp⟩
  | bad e p =>
    obtain ⟨h1, h2, h0⟩ := hq
    have hp := hp.1
    unfold takeQ at hp
    rw [if_neg (by rw [h1]; exact h0)] at hp
    exact ⟨_, _, _, _, ⟨h1, h2, h0⟩, hp⟩
theorem unow_calls (h : Up w A c L g s) : Calls Try.prog 32 #[.pointer (some ⟨g, 0, none⟩)] w fun e w' => ∃ t, Fr s t ∧ e = .returned (.agg #[.int .i64 t.f0, .string t.f1, .int .u64 t.f2, .int .i64 t.f3, .int .i64 t.f4]) ∧ Below w.heap.size w w' := by
  obtain ⟨q, v4, v5, v6, hq, hp⟩ := h
  exact (now_calls w A c L g q _ _ _ hp).mono fun e w' ⟨he, hb⟩ => ⟨_, hq.fr hp.lt, he, hb⟩
theorem utake_calls (hG : Good L) (b : Bool) (f : List Tk → Bool) (h : Up w A c L g s) (hb : ∀ ts, s = .ok ts → b = f ts ∧ (b = true → (hd ts).f0 ≠ 0)) : Calls Try.prog 31 #[.pointer (some ⟨g, 0, none⟩), .bool b] w fun e w' =>
    (∃ t, Fr s t ∧ e = .returned (.agg #[.int .i64 t.f0, .string t.f1, .int .u64 t.f2, .int .i64 t.f3, .int .i64 t.f4])) ∧ Up w' A c L g (s.step fun ts => P.want (f ts) ts) ∧ w.grownBy w' (some g) := by
  obtain ⟨q, v4, v5, v6, hq, hp⟩ := h
  exact (take_calls w A c L g q _ _ _ b hp hG).mono fun e w' ⟨he, hp'⟩ => ⟨⟨_, hq.fr hp.lt, he⟩, up_take hq hp.lt f hb hp'⟩
theorem uis_calls (k : Int) (x : ByteArray) (h : Up w A c L g s) : Calls Try.prog 39 #[.pointer (some ⟨g, 0, none⟩), .int .i64 k, .string x] w fun e w' => e = .returned (.bool (s.is k x)) ∧ Below w.heap.size w w' := by
  obtain ⟨q, v4, v5, v6, hq, hp⟩ := h
  refine (is_calls w A c L g q _ _ _ k x hp).mono fun e w' ⟨he, hb⟩ => ⟨?_, hb⟩
  rw [he]
  cases s with
  | ok ts =>
    obtain ⟨h1, rfl⟩ := hq
    simp only [isQ, US.is, isT, hd_drop hp.lt, h1, beq_self_eq_true, Bool.true_and]
  | bad e0 p =>
    obtain ⟨h1, h2, h0⟩ := hq
    unfold isQ US.is
    have : (q.fl == 0) = false := beq_eq_false_iff_ne.2 (by rw [h1]; exact h0)
    rw [this]; simp
theorem uis_hb {q : Q3} (hq : UQ L q s) (hl : q.at_ < L.length) (k : Int) (hk : k ≠ 0) (x : ByteArray) : ∀ ts, s = .ok ts → isQ L q k x = isT k x ts ∧ (isQ L q k x = true → (hd ts).f0 ≠ 0) := by
  rintro ts rfl
  obtain ⟨h1, rfl⟩ := hq
  have e := isQ_ok h1 hl k x
  exact ⟨e, fun h => by rw [e] at h; rw [isT_kind h]; exact hk⟩
theorem uword_calls (hG : Good L) (x : ByteArray) (h : Up w A c L g s) : Calls Try.prog 59 #[.pointer (some ⟨g, 0, none⟩), .string x] w fun e w' =>
    (∃ t, Fr s t ∧ e = .returned (.agg #[.int .i64 t.f0, .string t.f1, .int .u64 t.f2, .int .i64 t.f3, .int .i64 t.f4])) ∧ Up w' A c L g (s.step (P.wordW x)) ∧ w.grownBy w' (some g) := by
  obtain ⟨q, v4, v5, v6, hq, hp⟩ := h
  exact (word_calls w A c L g q _ _ _ x hp hG).mono fun e w' ⟨he, hp'⟩ => ⟨⟨_, hq.fr hp.lt, he⟩, up_take hq hp.lt (isT 1 x) (uis_hb hq hp.lt 1 (by decide) x) hp'⟩
theorem umark_calls (hG : Good L) (m : UInt8) (h : Up w A c L g s) : Calls Try.prog 61 #[.pointer (some ⟨g, 0, none⟩), .string (mk1 m)] w fun e w' =>
    (∃ t, Fr s t ∧ e = .returned (.agg #[.int .i64 t.f0, .string t.f1, .int .u64 t.f2, .int .i64 t.f3, .int .i64 t.f4])) ∧ Up w' A c L g (s.step (takeM m)) ∧ w.grownBy w' (some g) := by
  obtain ⟨q, v4, v5, v6, hq, hp⟩ := h
  exact (mark_calls w A c L g q _ _ _ (mk1 m) hp hG).mono fun e w' ⟨he, hp'⟩ => ⟨⟨_, hq.fr hp.lt, he⟩, up_take hq hp.lt (isM m) (uis_hb hq hp.lt 4 (by decide) (mk1 m)) hp'⟩
theorem kw_eq : wordList.take 18 = P.kw := by kernel_rfl
theorem nameB_eq {q : Q3} {ts : List Tk} (h2 : L.drop q.at_ = ts) (hl : q.at_ < L.length) : nameB L q = P.nameOk ts := by
  subst h2
  unfold nameB P.nameOk
  rw [kw_eq, hd_drop hl]
  congr 2
  rw [Bool.eq_iff_iff, Lib.containsS_iff, List.any_eq_true]
  constructor
  · exact fun h => ⟨_, h, decide_eq_true rfl⟩
  · rintro ⟨x, hx, he⟩
    rw [← of_decide_eq_true he]; exact hx
theorem uname_calls (hG : Good L) (h : Up w A c L g s) : Calls Try.prog 60 #[.pointer (some ⟨g, 0, none⟩)] w fun e w' =>
    (∃ t, Fr s t ∧ e = .returned (.string t.f1)) ∧ Up w' A c L g (s.step P.nameW) ∧ w.grownBy w' (some g) := by
  obtain ⟨q, v4, v5, v6, hq, hp⟩ := h
  refine (name_calls w A c L g q _ _ _ hp hG).mono fun e w' ⟨he, hp'⟩ => ⟨⟨_, hq.fr hp.lt, he⟩, up_take hq hp.lt P.nameOk ?_ hp'⟩
  rintro ts rfl
  have e := nameB_eq hq.2 hp.lt
  exact ⟨e, fun h => by rw [e] at h; exact P.nameOk_kind h⟩
theorem utext_calls (hG : Good L) (h : Up w A c L g s) : Calls Try.prog 91 #[.pointer (some ⟨g, 0, none⟩)] w fun e w' =>
    (∃ t, Fr s t ∧ e = .returned (.string t.f1)) ∧ Up w' A c L g (s.step P.textW) ∧ w.grownBy w' (some g) := by
  obtain ⟨q, v4, v5, v6, hq, hp⟩ := h
  refine (text_calls w A c L g q _ _ _ hp hG).mono fun e w' ⟨he, hp'⟩ => ⟨⟨_, hq.fr hp.lt, he⟩, up_take hq hp.lt (fun ts => (hd ts).f0 == 3) ?_ hp'⟩
  rintro ts rfl
  rw [← hq.2, hd_drop hp.lt]
  exact ⟨rfl, fun h => by rw [eq_of_beq h]; decide⟩
end
set_option maxHeartbeats 4000000 in
set_option maxRecDepth 100000 in
theorem whole_calls (w : World) (A : Option Addr) (c : Nat) (L : List Tk) (g : Nat) (s : US) (hG : Good L) (hL : L.length ≤ 33554432) (h : Up w A c L g s) :
    Calls Try.prog 30 #[.pointer (some ⟨g, 0, none⟩)] w fun e w' => ∃ v ns, e = .returned v ∧ Kd.R kn 49 w' g (fun _ => True) v ns ∧ (∀ k, v.ownBlock = some k → w.heap.size ≤ k) ∧ Up w' A c L g (s.step P.exprW) ∧ w.grownBy w' (some g) ∧ (∀ ts a r, s = .ok ts → P.exprW ts = .ok a r → ns = a.ns) := by
  obtain ⟨q, v4, v5, v6, hq, hp⟩ := h
  obtain ⟨W1, hW1⟩ : ∃ W1, W1 = w.setCell ⟨g, 5, none⟩ (.slice none 0 0) := ⟨_, rfl⟩
  obtain ⟨W2, hW2⟩ : ∃ W2, W2 = W1.setCell ⟨g, 6, none⟩ (.slice none 0 0) := ⟨_, rfl⟩
  obtain ⟨W3, hW3⟩ : ∃ W3, W3 = W2.setCell ⟨g, 4, none⟩ (.int .i64 0) := ⟨_, rfl⟩
  have p1 : IsP W1 A c L g q (.int .i64 v4) (.slice none 0 0) v6 := by rw [hW1]; exact hp.set 5 _ rfl hp.lt
  have p2 : IsP W2 A c L g q (.int .i64 v4) (.slice none 0 0) (.slice none 0 0) := by rw [hW2]; exact p1.set 6 _ rfl hp.lt
  have p3 : IsP W3 A c L g q (.int .i64 0) (.slice none 0 0) (.slice none 0 0) := by rw [hW3]; exact p2.set 4 _ rfl hp.lt
  have hg : w.grownBy W3 (some g) := by
    rw [hW3, hW2, hW1]
    exact ((grown_set w g 5 _).trans (grown_set _ g 6 _)).trans (grown_set _ g 4 _)
  have f5 := hp.fz 5
  have f6 := p1.fz 6
  have f4 := p2.fz 4
  have c4 := p2.c4
  have c5 := hp.c5
  have c6 := p1.c6
  have f5' := p1.fz 5
  have e5 := p3.c5
  have hsz : W3.heap.size = w.heap.size := by rw [hW3, hW2, hW1]; simp
  obtain ⟨m, s', hs', hi⟩ : ∃ (m : Nat) (s' : Sg), ((∀ p, goS m .expr s' ≠ .bad 0 p) ∧ (∀ e p, goS m .expr s' = .bad e p → s.step P.exprW = .bad e p) ∧ (∀ ts lev ns dp, goS m .expr s' = .ok ts lev ns dp → s.step P.exprW = .ok ts ∧ ∀ ts0 a r, s = .ok ts0 → P.exprW ts0 = .ok a r → ns = a.ns)) ∧ Is W3 A c L g (.slice none 0 0) (.slice none 0 0) s' := by
    cases s with
    | ok ts =>
      obtain ⟨h1, h2⟩ := hq
      refine ⟨4 * ts.length + 3, .ok ts 0 [] [], ⟨?_, ?_, ?_⟩, ⟨q, h1, h2, ⟨p3, Kd.R_nil _ _ _ _ _, Kd.R_nil _ _ _ _ _⟩, ⟨?_, Nat.le_refl _, fun d hd => (by cases hd), Nat.zero_le _⟩⟩⟩
      · intro p e
        have hne := P.exprW_ne ts
        unfold goS at e
        simp only at e
        unfold P.exprW at hne
        cases hx : P.X (4 * ts.length + 3) .expr 0 ts with
        | ok a r => rw [hx] at e; cases e
        | bad e0 p0 =>
          rw [hx] at e
          injection e with e1 e2
          subst e1
          exact hne _ hx
      · intro e p he
        unfold US.step P.exprW
        unfold goS at he
        simp only at he ⊢
        cases hx : P.X (4 * ts.length + 3) .expr 0 ts with
        | ok a r => rw [hx] at he; cases he
        | bad e0 p0 => rw [hx] at he; cases he; rfl
      · intro ts' lev ns dp he
        unfold goS at he
        simp only at he
        cases hx : P.X (4 * ts.length + 3) .expr 0 ts with
        | ok a r =>
          rw [hx] at he
          cases he
          refine ⟨by unfold US.step P.exprW; simp only [hx], ?_⟩
          intro ts0 a0 r0 h0 hx0
          cases h0
          unfold P.exprW at hx0
          rw [hx] at hx0
          cases hx0
          exact List.nil_append _
        | bad e0 p0 => rw [hx] at he; cases he
      · rw [← h2, List.length_drop]
        show 0 + _ ≤ _
        omega
    | bad e p =>
      obtain ⟨h1, h2, h0⟩ := hq
      refine ⟨0, .bad e p, ⟨fun p' e' => ?_, fun e' p' h => ?_, fun _ _ _ _ h => by cases h⟩, ⟨q, 0, [], [], h1, h2, h0, ⟨p3, Kd.R_nil _ _ _ _ _, Kd.R_nil _ _ _ _ _⟩⟩⟩
      · cases e'; exact h0 rfl
      · cases h; rfl
  obtain ⟨hne, hb1, hb2⟩ := hs'
  have HEX := Aside0.mk (gexpr ((all_ok m).1 m (Nat.le_refl _)) hG hi hne)
  have HGR := Aside0.mk hg
  have HB1 := Aside0.mk hb1
  have HB2 := Aside0.mk hb2
  have HSZ := Aside0.mk hsz
  have HW1 := Aside0.mk hW1
  have HW2 := Aside0.mk hW2
  have HW3 := Aside0.mk hW3
  have HI := Aside0.mk hi
  rw [hW2, hW1] at f4 c4
  rw [hW1] at f6 c6
  clear f5' e5
  clear hb1 hb2 hne hi hg hq hp p1 p2 p3 hsz hW1 hW2 hW3 hG hL
  go_enter Try.func30, Try.ntmps30
  go_wp2_with fail
  rw [← HW1.out, ← HW2.out, ← HW3.out]
  refine HEX.out.mono ?_
  rintro e w1 ⟨rfl, vn, vd, hi1, hv1⟩
  have HV := Aside0.mk hv1
  have hfin : ∃ (q' : Q3) (v4' : Int) (v6' : Value) (ns : List Nd), IsP w1 A c L g q' (.int .i64 v4') vn v6' ∧ UQ L q' (s.step P.exprW) ∧ RN w1 g vn ns ∧ ∀ ts0 a r, s = .ok ts0 → P.exprW ts0 = .ok a r → ns = a.ns := by
    cases hx : goS m .expr s' with
    | ok ts lev ns dp =>
      rw [hx] at hi1
      obtain ⟨q', h1, h2, h3, _⟩ := hi1
      obtain ⟨k1, k2⟩ := HB2.out _ _ _ _ hx
      exact ⟨q', _, _, ns, h3.p, by rw [k1]; exact ⟨h1, h2⟩, h3.n, k2⟩
    | bad e p =>
      rw [hx] at hi1
      obtain ⟨q', lev, ns, dp, h1, h2, h0, h3⟩ := hi1
      have k1 := HB1.out _ _ hx
      refine ⟨q', _, _, ns, h3.p, by rw [k1]; exact ⟨h1, h2, h0⟩, h3.n, ?_⟩
      intro ts0 a r h0 hx0
      subst h0
      unfold US.step at k1
      simp only [hx0] at k1
      cases k1
  obtain ⟨q', v4', v6', ns, hp', hu', hn', hv'⟩ := hfin
  have y5 := hp'.c5
  have HP := Aside0.mk hp'
  have HU := Aside0.mk hu'
  have HN := Aside0.mk hn'
  have HVV := Aside0.mk hv'
  clear hi1 hv1 hp' hu' hn' hv'
  go_wp2
  go_ret
  refine ⟨vn, ns, rfl, HN.out, fun k hk => ?_, ⟨q', _, _, _, HU.out, HP.out⟩, HGR.out.trans ⟨HV.out.bl.os, HV.out.bl.tape, HV.out.bl.output, HV.out.bl.size, fun k hk hr => HV.out.kp k hk (fun e => hr (by rw [e])) (by simp [Value.ownBlock]) (by simp [Value.ownBlock])⟩, HVV.out⟩
  rcases HV.out.nn with h | ⟨b, h, hb⟩
  · rw [h] at hk; simp [Value.ownBlock] at hk
  · rw [h] at hk
    injection hk with hk
    rw [← hk, ← HSZ.out]
    exact hb
end Go.Proofs.Ytbdcndkafaajpaa.A
end
section
set_option linter.unusedVariables false
set_option linter.unusedSimpArgs false
namespace Go.Proofs.Ytbdcndkafaajpaa.A
open Go.RowKit Go.Proofs.Ytbdcndkafaajpaa.X Go.Proofs.YtbdcndkafaajpaaW.PrintWords Go.Proofs.YtbdcndkafaajpaaW.PrintLast Go.Proofs.YtbdcndkafaajpaaW.PrintMore
open Go.Proofs.Ytbdcndkafaajpaa.P (Nd EO Res hd isT isM takeM mxl comb mk1 StD VeD EvD)
structure Sl where
  A : Option Addr
  n : Nat
  c : Nat
def Sl.v (x : Sl) : Value := .slice x.A x.n x.c
structure StV where
  k : Int
  a : ByteArray
  b : ByteArray
  c : ByteArray
  sep : ByteArray
  ty : ByteArray
  val : Sl
  pl : Int
def stCs (x : StV) : List Value := [.int .i64 x.k, .string x.a, .string x.b, .string x.c, .string x.sep, .string x.ty, .slice x.val.A x.val.n x.val.c, .int .i64 x.pl]
def StM (x : StV) (ns : List Nd) (d : StD) : Prop := x.k = d.k ∧ x.a = d.a ∧ x.b = d.b ∧ x.c = d.c ∧ x.sep = d.sep ∧ x.ty = d.ty ∧ ns = d.val ∧ x.pl = d.pl
theorem step_okS {α : Type} {s : US} {f : List Tk → Res α} {r : List Tk} (h : s.step f = .ok r) : ∃ ts a, s = .ok ts ∧ f ts = .ok a r := by
  cases s with
  | bad e p => cases h
  | ok ts =>
    unfold US.step at h
    simp only at h
    cases hx : f ts with
    | bad e p => rw [hx] at h; cases h
    | ok a r' => rw [hx] at h; cases h; exact ⟨ts, a, rfl, hx⟩
theorem step_ok {α : Type} {ts r : List Tk} {f : List Tk → Res α} {a : α} (h : f ts = .ok a r) : (US.ok ts).step f = .ok r := by
  unfold US.step; simp only [h]
theorem step_bad2 {α : Type} {ts : List Tk} {f : List Tk → Res α} {e p : Int} (h : f ts = .bad e p) : (US.ok ts).step f = .bad e p := by
  unfold US.step; simp only [h]
def Co {β : Type} (F : Res β) (k : List Tk → Res β) : US → Prop
  | .ok r => F = k r
  | .bad e p => F = .bad e p
section
variable {β : Type} {F : Res β} {k k' : List Tk → Res β} {s : US} {t : Tk}
theorem Co.to (h : Co F k s) (hk : ∀ r, s = .ok r → k r = k' r) : Co F k' s := by
  cases s with
  | ok r => exact Eq.trans h (hk r rfl)
  | bad e p => exact h
theorem Co.step {b : List Tk → Bool} {g : Tk → List Tk → Res β} (h : Co F (fun r => (P.want (b r) r).bind g) s) (hf : Fr s t) : Co F (g t) (s.step fun r => P.want (b r) r) := by
  cases s with
  | ok r =>
    have hf := hf r rfl
    subst hf
    unfold US.step P.want
    simp only
    by_cases hb : b r = true
    · rw [if_pos hb]
      refine Eq.trans h ?_
      simp only [P.want, if_pos hb]; rfl
    · rw [if_neg hb]
      refine Eq.trans h ?_
      simp only [P.want, if_neg hb]; rfl
  | bad e p => exact h
theorem Co.word {x : ByteArray} {g : Tk → List Tk → Res β} (h : Co F (fun r => (P.wordW x r).bind g) s) (hf : Fr s t) : Co F (g t) (s.step (P.wordW x)) := Co.step (b := isT 1 x) h hf
theorem Co.mark {x : UInt8} {g : Tk → List Tk → Res β} (h : Co F (fun r => (takeM x r).bind g) s) (hf : Fr s t) : Co F (g t) (s.step (takeM x)) := Co.step (b := isM x) h hf
theorem Co.name {g : Tk → List Tk → Res β} (h : Co F (fun r => (P.nameW r).bind g) s) (hf : Fr s t) : Co F (g t) (s.step P.nameW) := Co.step (b := P.nameOk) h hf
theorem Co.text {g : Tk → List Tk → Res β} (h : Co F (fun r => (P.textW r).bind g) s) (hf : Fr s t) : Co F (g t) (s.step P.textW) := Co.step (b := fun r => (hd r).f0 == 3) h hf
theorem Co.num {g : Tk → List Tk → Res β} (h : Co F (fun r => (P.numW r).bind g) s) (hf : Fr s t) : Co F (g t) (s.step P.numW) := Co.step (b := fun r => (hd r).f0 == 2) h hf
theorem Co.call {α : Type} {f : List Tk → Res α} {g : α → List Tk → Res β} {P : α → Prop} {g' : List Tk → Res β} (h : Co F (fun r => (f r).bind g) s) (hf : ∀ ts a r, s = .ok ts → f ts = .ok a r → g a r = g' r) : Co F g' (s.step f) := by
  cases s with
  | ok r =>
    unfold US.step
    simp only
    cases hx : f r with
    | ok a r' =>
      refine Eq.trans h ?_
      simp only [hx]
      exact hf r a r' rfl hx
    | bad e p =>
      refine Eq.trans h ?_
      simp only [hx]; rfl
  | bad e p => exact h
theorem Co.end_ {d : β} (h : Co F (fun r => .ok d r) s) : (∃ r, s = .ok r ∧ F = .ok d r) ∨ ∃ e p, s = .bad e p ∧ F = .bad e p := by
  cases s with
  | ok r => exact .inl ⟨r, rfl, h⟩
  | bad e p => exact .inr ⟨e, p, rfl, h⟩
theorem Co.start (s : US) (k : List Tk → Res β) : ∃ F, Co F k s ∧ ∀ fin, ((∃ d r, fin = US.ok r ∧ F = .ok d r) ∨ ∃ e p, fin = US.bad e p ∧ F = .bad e p) → fin = s.step k := by
  cases s with
  | ok r =>
    refine ⟨k r, rfl, fun fin h => ?_⟩
    rcases h with ⟨d, r', rfl, h⟩ | ⟨e, p, rfl, h⟩
    · exact (step_ok h).symm
    · exact (step_bad2 h).symm
  | bad e p =>
    refine ⟨.bad e p, rfl, fun fin h => ?_⟩
    rcases h with ⟨d, r', rfl, h⟩ | ⟨e', p', rfl, h⟩
    · cases h
    · cases h; rfl
theorem Co.val {d : β} {fin : US} (h : Co F (fun r => .ok d r) fin) (hs : Co F k s) : ∀ ts x r, s = .ok ts → k ts = .ok x r → x = d := by
  rintro ts x r rfl hx
  have hF : F = .ok x r := Eq.trans hs hx
  cases fin with
  | ok r' =>
    have h : F = .ok d r' := h
    rw [hF] at h
    cases h; rfl
  | bad e p =>
    have h : F = .bad e p := h
    rw [hF] at h
    cases h
end
end Go.Proofs.Ytbdcndkafaajpaa.A
end
section
set_option linter.unusedVariables false
set_option linter.unusedSimpArgs false
namespace Go.Proofs.Ytbdcndkafaajpaa.A
open Go.RowKit Go.Proofs.Ytbdcndkafaajpaa.X Go.Proofs.YtbdcndkafaajpaaW.PrintWords Go.Proofs.YtbdcndkafaajpaaW.PrintLast Go.Proofs.YtbdcndkafaajpaaW.PrintMore
open Go.Proofs.Ytbdcndkafaajpaa.P (Nd EO Res hd isT isM takeM mxl comb mk1 StD VeD EvD)
structure VeV where
  num : Int
  steps : Sl
  pl : Int
structure EvV where
  name : ByteArray
  vers : Sl
  pl : Int
def ksl : Kd Sl := Kd.scalar Sl.v (fun _ => rfl)
def kst : Kd StV := Kd.iso (Kd.pair (Kd.int .i64) (Kd.pair Kd.string (Kd.pair Kd.string (Kd.pair Kd.string (Kd.pair Kd.string (Kd.pair Kd.string (Kd.pair ksl (Kd.int .i64)))))))) (fun x : StV => (x.k, x.a, x.b, x.c, x.sep, x.ty, x.val, x.pl))
def kve : Kd VeV := Kd.iso (Kd.pair (Kd.int .u64) (Kd.pair ksl (Kd.int .i64))) (fun x : VeV => (x.num, x.steps, x.pl))
def kev : Kd EvV := Kd.iso (Kd.pair Kd.string (Kd.pair ksl (Kd.int .i64))) (fun x : EvV => (x.name, x.vers, x.pl))
def veCs (x : VeV) : List Value := [.int .u64 x.num, .slice x.steps.A x.steps.n x.steps.c, .int .i64 x.pl]
def evCs (x : EvV) : List Value := [.string x.name, .slice x.vers.A x.vers.n x.vers.c, .int .i64 x.pl]
theorem kst_mkM (w : World) (base : Nat) (ok : Nat → Prop) (x : StV) : kst.M w base ok x (stCs x) := ⟨[_], [_, _, _, _, _, _, _], rfl, rfl, ⟨[_], [_, _, _, _, _, _], rfl, rfl, ⟨[_], [_, _, _, _, _], rfl, rfl, ⟨[_], [_, _, _, _], rfl, rfl, ⟨[_], [_, _, _], rfl, rfl, ⟨[_], [_, _], rfl, rfl, ⟨[_], [_], rfl, rfl, rfl⟩⟩⟩⟩⟩⟩⟩
theorem kve_mkM (w : World) (base : Nat) (ok : Nat → Prop) (x : VeV) : kve.M w base ok x (veCs x) := ⟨[_], [_, _], rfl, rfl, ⟨[_], [_], rfl, rfl, rfl⟩⟩
theorem kev_mkM (w : World) (base : Nat) (ok : Nat → Prop) (x : EvV) : kev.M w base ok x (evCs x) := ⟨[_], [_, _], rfl, rfl, ⟨[_], [_], rfl, rfl, rfl⟩⟩
def Flat {α : Type} (d : Kd α) : Prop := ∀ {w w' : World} {base base' : Nat} {ok ok' : Nat → Prop} {x : α} {cs : List Value}, d.M w base ok x cs → d.M w' base' ok' x cs
theorem flat_n : Flat kn := fun h => h
theorem flat_s : Flat kst := fun h => h
theorem flat_v : Flat kve := fun h => h
theorem flat_e : Flat kev := fun h => h
theorem R_flat {α : Type} {d : Kd α} (hf : Flat d) {e : Nat} {w w' : World} {base base' : Nat} {ok : Nat → Prop} {v : Value} {xs : List α} (h : d.R e w base ok v xs) (hm : ∀ k, v.ownBlock = some k → w'.heap[k]? = w.heap[k]?) (hb : ∀ k, v.ownBlock = some k → base' ≤ k) : d.R e w' base' (fun _ => True) v xs := by
  obtain ⟨_, inner, ho, hr⟩ := h
  have ho' := own_move ho hm
  refine ⟨fun _ _ => trivial, inner, ⟨ho'.1, ?_⟩, hr.imp_ (fun _ _ hp => hf hp)⟩
  rcases ho'.2 with h2 | ⟨g, cap, cur, rfl, hg, rest⟩
  · exact .inl h2
  · exact .inr ⟨g, cap, cur, rfl, hb g (by simp [Value.ownBlock]), rest⟩
inductive Row where
  | n (v : Sl) (xs : List Nd)
  | s (v : Sl) (xs : List StV)
  | v (v : Sl) (xs : List VeV)
  | e (v : Sl) (xs : List EvV)
def Row.sl : Row → Sl
  | .n a _ => a
  | .s a _ => a
  | .v a _ => a
  | .e a _ => a
def Row.own (r : Row) : Option Nat := r.sl.v.ownBlock
def Row.holds (w : World) (base : Nat) : Row → Prop
  | .n a xs => Kd.R kn 49 w base (fun _ => True) a.v xs
  | .s a xs => Kd.R kst 62 w base (fun _ => True) a.v xs
  | .v a xs => Kd.R kve 60 w base (fun _ => True) a.v xs
  | .e a xs => Kd.R kev 57 w base (fun _ => True) a.v xs
theorem Row.in_ {w : World} {base : Nat} {r : Row} (h : r.holds w base) : ∀ k, r.own = some k → base ≤ k ∧ k < w.heap.size := by
  intro k hk
  cases r with
  | n a xs => exact ⟨Kd.R_base (d := kn) h k hk, Kd.R_lt (d := kn) h k hk⟩
  | s a xs => exact ⟨Kd.R_base (d := kst) h k hk, Kd.R_lt (d := kst) h k hk⟩
  | v a xs => exact ⟨Kd.R_base (d := kve) h k hk, Kd.R_lt (d := kve) h k hk⟩
  | e a xs => exact ⟨Kd.R_base (d := kev) h k hk, Kd.R_lt (d := kev) h k hk⟩
theorem Row.move {w w' : World} {base base' : Nat} {r : Row} (h : r.holds w base) (hm : ∀ k, r.own = some k → w'.heap[k]? = w.heap[k]?) (hb : ∀ k, r.own = some k → base' ≤ k) : r.holds w' base' := by
  cases r with
  | n a xs => exact R_flat flat_n h hm hb
  | s a xs => exact R_flat flat_s h hm hb
  | v a xs => exact R_flat flat_v h hm hb
  | e a xs => exact R_flat flat_e h hm hb
def Lone : List (Option Nat) → Prop
  | [] => True
  | o :: l => (∀ k, o = some k → some k ∉ l) ∧ Lone l
structure Rows (w : World) (base : Nat) (l : List Row) : Prop where
  holds : ∀ r, r ∈ l → r.holds w base
  lone : Lone (l.map Row.own)
theorem Lone.append {l m : List (Option Nat)} (hl : Lone l) (hm : Lone m) (hx : ∀ k, some k ∈ l → some k ∉ m) : Lone (l ++ m) := by
  induction l with
  | nil => exact hm
  | cons o l ih =>
    obtain ⟨h1, h2⟩ := hl
    refine ⟨fun k hk hmem => ?_, ih h2 (fun k hk => hx k (List.mem_cons_of_mem _ hk))⟩
    rcases List.mem_append.1 hmem with h | h
    · exact h1 k hk h
    · exact hx k (by rw [← hk]; exact List.mem_cons_self) h
section
variable {w w' : World} {base base' : Nat} {l m : List Row}
theorem Rows.nil (w : World) (base : Nat) : Rows w base [] := ⟨fun r hr => (by cases hr), trivial⟩
theorem Rows.in_ (h : Rows w base l) : ∀ k, some k ∈ l.map Row.own → base ≤ k ∧ k < w.heap.size := by
  intro k hk
  obtain ⟨r, hr, he⟩ := List.mem_map.1 hk
  exact Row.in_ (h.holds r hr) k he
theorem Rows.keep (h : Rows w base l) (hm : ∀ k, base ≤ k → k < w.heap.size → w'.heap[k]? = w.heap[k]?) : Rows w' base l :=
  ⟨fun r hr => Row.move (h.holds r hr) (fun k hk => hm k (Row.in_ (h.holds r hr) k hk).1 (Row.in_ (h.holds r hr) k hk).2) (fun k hk => (Row.in_ (h.holds r hr) k hk).1), h.lone⟩
theorem Rows.lower (h : Rows w base l) (hb : base' ≤ base) : Rows w base' l :=
  ⟨fun r hr => Row.move (h.holds r hr) (fun _ _ => rfl) (fun k hk => Nat.le_trans hb (Row.in_ (h.holds r hr) k hk).1), h.lone⟩
theorem Rows.join (h : Rows w' base' l) (k : Rows w' base m) (hb : base ≤ base') (hm : ∀ i, some i ∈ m.map Row.own → i < base') : Rows w' base (l ++ m) := by
  have h' := h.lower hb
  refine ⟨fun r hr => ?_, ?_⟩
  · rcases List.mem_append.1 hr with hr | hr
    · exact h'.holds r hr
    · exact k.holds r hr
  · rw [List.map_append]
    exact h.lone.append k.lone (fun i hi hj => by have := (h.in_ i hi).1; have := hm i hj; omega)
theorem Rows.tail {r : Row} (h : Rows w base (r :: l)) : Rows w base l := ⟨fun r' hr => h.holds r' (List.mem_cons_of_mem _ hr), h.lone.2⟩
theorem Rows.head {r : Row} (h : Rows w base (r :: l)) : r.holds w base := h.holds r List.mem_cons_self
theorem Rows.grow {r r' : Row} (h : Rows w base (r :: l)) (hg : w.grownBy w' r.own) (hr : r'.holds w' base) (hat : r'.own = r.own ∨ ∃ b, r'.own = some b ∧ w.heap.size ≤ b) : Rows w' base (r' :: l) := by
  have hl : Rows w' base l := ⟨fun q hq => Row.move (h.tail.holds q hq) (fun k hk => hg.block k (Row.in_ (h.tail.holds q hq) k hk).2 (fun e => h.lone.1 k e.symm (List.mem_map.2 ⟨q, hq, hk⟩))) (fun k hk => (Row.in_ (h.tail.holds q hq) k hk).1), h.tail.lone⟩
  refine ⟨fun q hq => ?_, ?_⟩
  · rcases List.mem_cons.1 hq with rfl | hq
    · exact hr
    · exact hl.holds q hq
  · refine ⟨fun k hk hmem => ?_, hl.lone⟩
    rcases hat with e | ⟨b, e, hb⟩
    · rw [hk] at e
      exact h.lone.1 k e.symm hmem
    · rw [hk] at e
      injection e with e
      have := (h.tail.in_ k hmem).2
      omega
theorem Rows.swap {r q : Row} (h : Rows w base (r :: q :: l)) : Rows w base (q :: r :: l) := by
  refine ⟨fun x hx => h.holds x ?_, ?_⟩
  · simp only [List.mem_cons] at hx ⊢
    rcases hx with hx | hx | hx
    · exact .inr (.inl hx)
    · exact .inl hx
    · exact .inr (.inr hx)
  · obtain ⟨h1, h2, h3⟩ := h.lone
    refine ⟨fun k hk hmem => ?_, fun k hk hmem => h1 k hk (List.mem_cons_of_mem _ hmem), h3⟩
    rcases List.mem_cons.1 hmem with e | hmem
    · exact h1 k e.symm (by rw [List.map_cons] at *; rw [hk]; exact List.mem_cons_self)
    · exact h2 k hk hmem
end
def All2 {α β : Type} (R : α → β → Prop) : List α → List β → Prop
  | [], [] => True
  | a :: l, b :: m => R a b ∧ All2 R l m
  | _, _ => False
theorem All2.imp {α β : Type} {R S : α → β → Prop} (h : ∀ a b, R a b → S a b) : ∀ {l : List α} {m : List β}, All2 R l m → All2 S l m
  | [], [], _ => trivial
  | _ :: _, _ :: _, ⟨h1, h2⟩ => ⟨h _ _ h1, All2.imp h h2⟩
theorem All2.snoc {α β : Type} {R : α → β → Prop} {a : α} {b : β} (hab : R a b) : ∀ {l : List α} {m : List β}, All2 R l m → All2 R (l ++ [a]) (m ++ [b])
  | [], [], _ => ⟨hab, trivial⟩
  | _ :: _, _ :: _, ⟨h1, h2⟩ => ⟨h1, All2.snoc hab h2⟩
theorem All2.len {α β : Type} {R : α → β → Prop} : ∀ {l : List α} {m : List β}, All2 R l m → l.length = m.length
  | [], [], _ => rfl
  | _ :: _, _ :: _, ⟨_, h2⟩ => by simp only [List.length_cons, All2.len h2]
def StT (l : List Row) (d : StD) (x : StV) : Prop := x.k = d.k ∧ x.a = d.a ∧ x.b = d.b ∧ x.c = d.c ∧ x.sep = d.sep ∧ x.ty = d.ty ∧ Row.n x.val d.val ∈ l ∧ x.pl = d.pl
def VeT (l : List Row) (d : VeD) (x : VeV) : Prop := x.num = d.num ∧ (∃ xs, Row.s x.steps xs ∈ l ∧ All2 (StT l) d.steps xs) ∧ x.pl = d.pl
def EvT (l : List Row) (d : EvD) (x : EvV) : Prop := x.name = d.name ∧ (∃ xs, Row.v x.vers xs ∈ l ∧ All2 (VeT l) d.vers xs) ∧ x.pl = d.pl
theorem StT.mono {l m : List Row} {d : StD} {x : StV} (h : StT l d x) (hs : ∀ r, r ∈ l → r ∈ m) : StT m d x := ⟨h.1, h.2.1, h.2.2.1, h.2.2.2.1, h.2.2.2.2.1, h.2.2.2.2.2.1, hs _ h.2.2.2.2.2.2.1, h.2.2.2.2.2.2.2⟩
theorem VeT.mono {l m : List Row} {d : VeD} {x : VeV} (h : VeT l d x) (hs : ∀ r, r ∈ l → r ∈ m) : VeT m d x := by
  obtain ⟨h1, ⟨xs, h2, h3⟩, h4⟩ := h
  exact ⟨h1, ⟨xs, hs _ h2, h3.imp (fun _ _ h => h.mono hs)⟩, h4⟩
theorem EvT.mono {l m : List Row} {d : EvD} {x : EvV} (h : EvT l d x) (hs : ∀ r, r ∈ l → r ∈ m) : EvT m d x := by
  obtain ⟨h1, ⟨xs, h2, h3⟩, h4⟩ := h
  exact ⟨h1, ⟨xs, hs _ h2, h3.imp (fun _ _ h => h.mono hs)⟩, h4⟩
end Go.Proofs.Ytbdcndkafaajpaa.A
end
section
set_option linter.unusedVariables false
set_option linter.unusedSimpArgs false
namespace Go.Proofs.Ytbdcndkafaajpaa.A
open Go.RowKit Go.Proofs.Ytbdcndkafaajpaa.X Go.Proofs.YtbdcndkafaajpaaW.PrintWords Go.Proofs.YtbdcndkafaajpaaW.PrintLast Go.Proofs.YtbdcndkafaajpaaW.PrintMore
open Go.Proofs.Ytbdcndkafaajpaa.P (Nd EO Res hd isT isM takeM mxl comb mk1 StD VeD EvD)
theorem keepB {w w' : World} {g b : Nat} {o : Obj} (hg : w.grownBy w' (some g)) (hx : w.heap[b]? = some o) (hb : b ≠ g) : w'.heap[b]? = some o := (hg.block b (blk_lt hx) (fun e => by injection e with e; exact hb e)).trans hx
theorem Up.far {w : World} {A : Option Addr} {c : Nat} {L : List Tk} {g b : Nat} {s : US} (h : Up w A c L g s) (hb : g < b) (i : Nat) (v : Value) : Up (w.setCell ⟨b, i, none⟩ v) A c L g s := by
  obtain ⟨q, lv, v5, v6, hq, hp⟩ := h
  exact ⟨q, lv, v5, v6, hq, hp.far (a := i) hb v⟩
theorem bindA {α β γ : Type} (x : Res α) (f : α → List Tk → Res β) (g : β → List Tk → Res γ) : (x.bind f).bind g = x.bind fun a r => (f a r).bind g := by cases x <;> rfl
theorem idx_eq (s : ByteArray) : ∀ (l : List ByteArray) (i : Nat), P.idxB s l i = Lib.idxFromS l s i
  | [], _ => rfl
  | x :: l, i => by
    unfold P.idxB Lib.idxFromS
    rw [idx_eq s l (i + 1)]
theorem kind_eq (s : ByteArray) : P.kindOf s = Lib.idxOfS ((wordList.drop 2).take 6) s + 1 := by
  unfold P.kindOf Lib.idxOfS
  rw [idx_eq]
  rfl
theorem idx_in (s : ByteArray) : ∀ (l : List ByteArray) (i : Nat), P.idxB s l i = -1 ∨ ∃ j : Nat, P.idxB s l i = ((i + j : Nat) : Int) ∧ j < l.length
  | [], _ => .inl rfl
  | x :: l, i => by
    unfold P.idxB
    by_cases h : x = s
    · rw [if_pos h]; exact .inr ⟨0, rfl, by simp⟩
    · rw [if_neg h]
      rcases idx_in s l (i + 1) with h | ⟨j, h, hj⟩
      · exact .inl h
      · exact .inr ⟨j + 1, by rw [h]; congr 1; omega, by simp only [List.length_cons]; omega⟩
theorem kind_in (s : ByteArray) : ∃ k : Nat, P.kindOf s = (k : Int) ∧ k ≤ 6 := by
  unfold P.kindOf
  rcases idx_in s P.kinds 0 with h | ⟨j, h, hj⟩
  · exact ⟨0, by rw [h]; rfl, by omega⟩
  · have h6 : P.kinds.length = 6 := by kernel_rfl
    exact ⟨j + 1, by rw [h]; omega, by omega⟩
theorem kinds_cells {w : World} {B : Nat} (h : w.heap[B]? = some (.cells (wordList.map Value.string).toArray 9 (0, 0))) : ∀ j, j < (wordList.drop 2).length → w.cell? ⟨B, 2 + j, none⟩ = some (.string ((wordList.drop 2).getD j ByteArray.empty)) := fun j hj => by
  have hl : wordList.length = 18 := by kernel_rfl
  have := words_cells h (2 + j) (by rw [List.length_drop] at hj; omega)
  rw [Nat.zero_add] at this
  rw [this]
  congr 2
  rw [List.getD_eq_getElem?_getD, List.getD_eq_getElem?_getD, List.getElem?_drop]
def tailW (k p : Int) (a : ByteArray) (r : List Tk) : Res StD := (P.bodyW (P.stepOf k p a) r).bind fun d r => (takeM 59 r).bind fun _ r => .ok d r
def frontW (k p : Int) (r : List Tk) : Res StD := (P.want (decide (0 < P.stK r)) r).bind fun t r => (P.nameW r).bind fun a r => tailW k p a.f1 r
theorem front_eq {ts : List Tk} {k p : Int} (hk : P.stK ts = k) (hp : (hd ts).f3 = p) : P.stepW ts = frontW k p ts := by
  subst hk hp
  unfold P.stepW frontW P.want
  by_cases h : decide (0 < P.stK ts) = true
  · rw [if_pos h]; rfl
  · rw [if_neg h]; rfl
theorem tail0 (p : Int) (a : ByteArray) (r : List Tk) : tailW 0 p a r = (takeM 59 r).bind fun _ r => .ok (P.stepOf 0 p a) r := by
  unfold tailW P.bodyW
  simp only [P.stepOf, show ((0 : Int) = 1) = False from by decide, show ((0 : Int) = 2) = False from by decide, show ((0 : Int) = 3) = False from by decide, show ((0 : Int) = 4) = False from by decide, show ((0 : Int) = 5) = False from by decide, if_false]
  rfl
theorem tail1 (p : Int) (a : ByteArray) (r : List Tk) : tailW 1 p a r = (takeM 58 r).bind fun _ r => (P.nameW r).bind fun t r => if isM 61 r then (P.exprW r.tail).bind fun v r => (takeM 59 r).bind fun _ r => .ok { P.stepOf 1 p a with ty := t.f1, val := v.ns } r else (takeM 59 r).bind fun _ r => .ok { P.stepOf 1 p a with ty := t.f1 } r := by
  unfold tailW P.bodyW
  simp only [P.stepOf, if_true]
  rw [bindA]
  congr 1; funext _ r
  rw [bindA]
  congr 1; funext t r
  by_cases h : isM 61 r = true
  · rw [if_pos h, if_pos h, bindA]; rfl
  · rw [if_neg h, if_neg h]; rfl
theorem tail2 (p : Int) (a : ByteArray) (r : List Tk) : tailW 2 p a r = (P.wordW P.sTo r).bind fun _ r => (P.nameW r).bind fun t r => (takeM 59 r).bind fun _ r => .ok { P.stepOf 2 p a with b := t.f1 } r := by
  unfold tailW P.bodyW
  simp only [P.stepOf, show ((2 : Int) = 1) = False from by decide, show ((2 : Int) = 3) = False from by decide, show ((2 : Int) = 4) = False from by decide, show ((2 : Int) = 5) = False from by decide, if_true, if_false, bindA]
  rfl
theorem tail3 (p : Int) (a : ByteArray) (r : List Tk) : tailW 3 p a r = (P.wordW P.sAt r).bind fun _ r => (P.textW r).bind fun x r => (P.wordW P.sInto r).bind fun _ r => (P.nameW r).bind fun t r => (takeM 44 r).bind fun _ r => (P.nameW r).bind fun u r => (takeM 59 r).bind fun _ r => .ok { P.stepOf 3 p a with sep := x.f1, b := t.f1, c := u.f1 } r := by
  unfold tailW P.bodyW
  simp only [P.stepOf, show ((3 : Int) = 1) = False from by decide, show ((3 : Int) = 2) = False from by decide, show ((3 : Int) = 4) = False from by decide, show ((3 : Int) = 5) = False from by decide, if_true, if_false, bindA]
  rfl
theorem tail4 (p : Int) (a : ByteArray) (r : List Tk) : tailW 4 p a r = (takeM 44 r).bind fun _ r => (P.nameW r).bind fun t r => (P.wordW P.sWith r).bind fun _ r => (P.textW r).bind fun x r => (P.wordW P.sInto r).bind fun _ r => (P.nameW r).bind fun u r => (takeM 59 r).bind fun _ r => .ok { P.stepOf 4 p a with b := t.f1, sep := x.f1, c := u.f1 } r := by
  unfold tailW P.bodyW
  simp only [P.stepOf, show ((4 : Int) = 1) = False from by decide, show ((4 : Int) = 2) = False from by decide, show ((4 : Int) = 3) = False from by decide, show ((4 : Int) = 5) = False from by decide, if_true, if_false, bindA]
  rfl
theorem tail5 (p : Int) (a : ByteArray) (r : List Tk) : tailW 5 p a r = (P.wordW P.sTo r).bind fun _ r => (P.nameW r).bind fun t r => (takeM 59 r).bind fun _ r => .ok { P.stepOf 5 p a with ty := t.f1 } r := by
  unfold tailW P.bodyW
  simp only [P.stepOf, show ((5 : Int) = 1) = False from by decide, show ((5 : Int) = 2) = False from by decide, show ((5 : Int) = 3) = False from by decide, show ((5 : Int) = 4) = False from by decide, if_true, if_false, bindA]
  rfl
theorem tail6 (p : Int) (a : ByteArray) (r : List Tk) : tailW 6 p a r = (takeM 59 r).bind fun _ r => .ok (P.stepOf 6 p a) r := by
  unfold tailW P.bodyW
  simp only [P.stepOf, show ((6 : Int) = 1) = False from by decide, show ((6 : Int) = 2) = False from by decide, show ((6 : Int) = 3) = False from by decide, show ((6 : Int) = 4) = False from by decide, show ((6 : Int) = 5) = False from by decide, if_false]
  rfl
theorem rn_own {W : World} {g : Nat} {v : Value} {ns : List Nd} (h : Kd.R kn 49 W g (fun _ => True) v ns) : Kd.R kn 49 W g (fun k => v.ownBlock = some k) v ns := by
  obtain ⟨_, inner, ho, hr⟩ := h
  exact ⟨fun k hk => hk, inner, ho, hr.imp_ (fun _ _ hp => hp)⟩
theorem rn_keep {W W' : World} {g : Nat} {v : Value} {ns : List Nd} (h : Kd.R kn 49 W g (fun _ => True) v ns) (hm : ∀ k, v.ownBlock = some k → W'.heap[k]? = W.heap[k]?) : Kd.R kn 49 W' g (fun _ => True) v ns :=
  Kd.R_mono (Kd.R_step (rn_own h) (fun k hk _ => hm k hk)) (fun _ _ => trivial)
theorem set8 {W : World} {b : Nat} {a0 a1 a2 a3 a4 a5 a6 a7 v0 v1 v2 v3 v4 v5 v6 v7 : Value} {t : TypeId} (h : W.heap[b]? = some (.cells #[a0, a1, a2, a3, a4, a5, a6, a7] t (0, 0))) : ((((((((W.setCell ⟨b, 0, none⟩ v0).setCell ⟨b, 1, none⟩ v1).setCell ⟨b, 2, none⟩ v2).setCell ⟨b, 3, none⟩ v3).setCell ⟨b, 4, none⟩ v4).setCell ⟨b, 5, none⟩ v5).setCell ⟨b, 6, none⟩ v6).setCell ⟨b, 7, none⟩ v7).heap[b]? = some (.cells #[v0, v1, v2, v3, v4, v5, v6, v7] t (0, 0)) := by
  have h0 : (W.setCell ⟨b, 0, none⟩ v0).heap[b]? = some (.cells #[v0, a1, a2, a3, a4, a5, a6, a7] t (0, 0)) := blk_put h 0 v0 rfl
  have h1 : ((W.setCell ⟨b, 0, none⟩ v0).setCell ⟨b, 1, none⟩ v1).heap[b]? = some (.cells #[v0, v1, a2, a3, a4, a5, a6, a7] t (0, 0)) := blk_put h0 1 v1 rfl
  have h2 : (((W.setCell ⟨b, 0, none⟩ v0).setCell ⟨b, 1, none⟩ v1).setCell ⟨b, 2, none⟩ v2).heap[b]? = some (.cells #[v0, v1, v2, a3, a4, a5, a6, a7] t (0, 0)) := blk_put h1 2 v2 rfl
  have h3 : ((((W.setCell ⟨b, 0, none⟩ v0).setCell ⟨b, 1, none⟩ v1).setCell ⟨b, 2, none⟩ v2).setCell ⟨b, 3, none⟩ v3).heap[b]? = some (.cells #[v0, v1, v2, v3, a4, a5, a6, a7] t (0, 0)) := blk_put h2 3 v3 rfl
  have h4 : (((((W.setCell ⟨b, 0, none⟩ v0).setCell ⟨b, 1, none⟩ v1).setCell ⟨b, 2, none⟩ v2).setCell ⟨b, 3, none⟩ v3).setCell ⟨b, 4, none⟩ v4).heap[b]? = some (.cells #[v0, v1, v2, v3, v4, a5, a6, a7] t (0, 0)) := blk_put h3 4 v4 rfl
  have h5 : ((((((W.setCell ⟨b, 0, none⟩ v0).setCell ⟨b, 1, none⟩ v1).setCell ⟨b, 2, none⟩ v2).setCell ⟨b, 3, none⟩ v3).setCell ⟨b, 4, none⟩ v4).setCell ⟨b, 5, none⟩ v5).heap[b]? = some (.cells #[v0, v1, v2, v3, v4, v5, a6, a7] t (0, 0)) := blk_put h4 5 v5 rfl
  have h6 : (((((((W.setCell ⟨b, 0, none⟩ v0).setCell ⟨b, 1, none⟩ v1).setCell ⟨b, 2, none⟩ v2).setCell ⟨b, 3, none⟩ v3).setCell ⟨b, 4, none⟩ v4).setCell ⟨b, 5, none⟩ v5).setCell ⟨b, 6, none⟩ v6).heap[b]? = some (.cells #[v0, v1, v2, v3, v4, v5, v6, a7] t (0, 0)) := blk_put h5 6 v6 rfl
  have h7 : ((((((((W.setCell ⟨b, 0, none⟩ v0).setCell ⟨b, 1, none⟩ v1).setCell ⟨b, 2, none⟩ v2).setCell ⟨b, 3, none⟩ v3).setCell ⟨b, 4, none⟩ v4).setCell ⟨b, 5, none⟩ v5).setCell ⟨b, 6, none⟩ v6).setCell ⟨b, 7, none⟩ v7).heap[b]? = some (.cells #[v0, v1, v2, v3, v4, v5, v6, v7] t (0, 0)) := blk_put h6 7 v7 rfl
  exact h7
theorem up8 {W : World} {A : Option Addr} {c : Nat} {L : List Tk} {g b : Nat} {s : US} {v0 v1 v2 v3 v4 v5 v6 v7 : Value} (h : Up W A c L g s) (hb : g < b) : Up ((((((((W.setCell ⟨b, 0, none⟩ v0).setCell ⟨b, 1, none⟩ v1).setCell ⟨b, 2, none⟩ v2).setCell ⟨b, 3, none⟩ v3).setCell ⟨b, 4, none⟩ v4).setCell ⟨b, 5, none⟩ v5).setCell ⟨b, 6, none⟩ v6).setCell ⟨b, 7, none⟩ v7) A c L g s := (Up.far (b := b) (Up.far (b := b) (Up.far (b := b) (Up.far (b := b) (Up.far (b := b) (Up.far (b := b) (Up.far (b := b) (Up.far (b := b) h hb 0 v0) hb 1 v1) hb 2 v2) hb 3 v3) hb 4 v4) hb 5 v5) hb 6 v6) hb 7 v7)
theorem grown8 {w W : World} {g b : Nat} {v0 v1 v2 v3 v4 v5 v6 v7 : Value} (h : w.grownBy W (some g)) (hb : w.heap.size ≤ b) : w.grownBy ((((((((W.setCell ⟨b, 0, none⟩ v0).setCell ⟨b, 1, none⟩ v1).setCell ⟨b, 2, none⟩ v2).setCell ⟨b, 3, none⟩ v3).setCell ⟨b, 4, none⟩ v4).setCell ⟨b, 5, none⟩ v5).setCell ⟨b, 6, none⟩ v6).setCell ⟨b, 7, none⟩ v7) (some g) := (grown_far (g := g) (grown_far (g := g) (grown_far (g := g) (grown_far (g := g) (grown_far (g := g) (grown_far (g := g) (grown_far (g := g) (grown_far (g := g) h hb 0 v0) hb 1 v1) hb 2 v2) hb 3 v3) hb 4 v4) hb 5 v5) hb 6 v6) hb 7 v7)
theorem rn8 {W : World} {g b : Nat} {a0 a1 a2 a3 a4 a5 a6 a7 v0 v1 v2 v3 v4 v5 v6 v7 v : Value} {ns : List Nd} (h : Kd.R kn 49 W g (fun _ => True) v ns) (hb : W.heap[b]? = some (.cells #[a0, a1, a2, a3, a4, a5, a6, a7] 62 (0, 0))) : Kd.R kn 49 ((((((((W.setCell ⟨b, 0, none⟩ v0).setCell ⟨b, 1, none⟩ v1).setCell ⟨b, 2, none⟩ v2).setCell ⟨b, 3, none⟩ v3).setCell ⟨b, 4, none⟩ v4).setCell ⟨b, 5, none⟩ v5).setCell ⟨b, 6, none⟩ v6).setCell ⟨b, 7, none⟩ v7) g (fun _ => True) v ns := by
  have ne : ∀ k, v.ownBlock = some k → k ≠ b := fun k hk e => by subst e; exact Kd.R_ne h hb (by decide) hk.symm
  refine rn_keep h (fun k hk => ?_)
  have hne := ne k hk
  rw [Below.heap_setCell _ ⟨b, 7, none⟩ v7 k hne, Below.heap_setCell _ ⟨b, 6, none⟩ v6 k hne, Below.heap_setCell _ ⟨b, 5, none⟩ v5 k hne, Below.heap_setCell _ ⟨b, 4, none⟩ v4 k hne, Below.heap_setCell _ ⟨b, 3, none⟩ v3 k hne, Below.heap_setCell _ ⟨b, 2, none⟩ v2 k hne, Below.heap_setCell _ ⟨b, 1, none⟩ v1 k hne, Below.heap_setCell _ ⟨b, 0, none⟩ v0 k hne]
theorem Co.end_' {β : Type} {F : Res β} {fin : US} {d : β} (h : Co F (fun r => .ok d r) fin) : (∃ d r, fin = US.ok r ∧ F = .ok d r) ∨ ∃ e p, fin = US.bad e p ∧ F = .bad e p := by
  rcases Co.end_ h with ⟨r, h1, h2⟩ | h
  · exact .inl ⟨d, r, h1, h2⟩
  · exact .inr h
theorem eqTrue {α : Type} {r : List Tk} {y : Res α} {f : List Tk → Res α} (h : true = isM 61 r) : (if isM 61 r then f r.tail else y) = (takeM 61 r).bind fun _ r => f r := by
  rw [if_pos h.symm]; unfold takeM P.want; rw [← h]; rfl
theorem eqFalse {α : Type} {r : List Tk} {x y : Res α} (h : false = isM 61 r) : (if isM 61 r then x else y) = y := if_neg (by rw [← h]; decide)
set_option maxHeartbeats 16000000 in
set_option maxRecDepth 100000 in
theorem step_calls (w : World) (A : Option Addr) (c : Nat) (L : List Tk) (g : Nat) (s : US) (hG : Good L) (hL : L.length ≤ 33554432) (h : Up w A c L g s) :
    Calls Try.prog 83 #[.pointer (some ⟨g, 0, none⟩)] w fun e w' => ∃ x ns, e = .returned (.agg #[.int .i64 x.k, .string x.a, .string x.b, .string x.c, .string x.sep, .string x.ty, .slice x.val.A x.val.n x.val.c, .int .i64 x.pl]) ∧ Kd.R kn 49 w' g (fun _ => True) x.val.v ns ∧ (∀ k, x.val.v.ownBlock = some k → w.heap.size ≤ k) ∧ Up w' A c L g (s.step P.stepW) ∧ w.grownBy w' (some g) ∧ ∀ ts d r, s = .ok ts → P.stepW ts = .ok d r → StM x ns d := by
  obtain ⟨w0, hw0⟩ : ∃ w0, w0 = w.alloc (.cells #[.int .i64 0, .string ⟨#[]⟩, .string ⟨#[]⟩, .string ⟨#[]⟩, .string ⟨#[]⟩, .string ⟨#[]⟩, .slice none 0 0, .int .i64 0] 62) := ⟨_, rfl⟩
  obtain ⟨b2, hb2⟩ : ∃ b2, b2 = w.heap.size := ⟨_, rfl⟩
  have hB0 : Below w.heap.size w w0 := by rw [hw0]; exact below_alloc (Below.refl _ _) _
  have HU0 := Aside0.mk (h.below hB0)
  have HR0 := Aside0.mk (grown_below hB0 (some g))
  have HY0 := Aside0.mk (show w0.heap[b2]? = some (.cells #[.int .i64 0, .string ⟨#[]⟩, .string ⟨#[]⟩, .string ⟨#[]⟩, .string ⟨#[]⟩, .string ⟨#[]⟩, .slice none 0 0, .int .i64 0] 62 (0, 0)) from by rw [hw0, hb2]; exact blk_new _ _)
  have GB2 : Aside0 (g < b2) := ⟨by rw [hb2]; exact h.glt⟩
  have NB2 : Aside0 (b2 ≠ g) := ⟨by have := GB2.out; omega⟩
  have LB2 : Aside0 (w.heap.size ≤ b2) := ⟨by rw [hb2]; exact Nat.le_refl _⟩
  have HB2 := Aside0.mk hb2
  have HW0 := Aside0.mk hw0
  have HG := Aside0.mk hG
  have HL := Aside0.mk hL
  obtain ⟨F, hF0, hFe⟩ := Co.start s P.stepW
  have HF0 := Aside0.mk hF0
  have HFE := Aside0.mk hFe
  clear h hw0 hb2 hB0 hG hL hF0 hFe
  go_enter Try.func83, Try.ntmps83
  go_wp2_with fail
  rw [← HW0.out, ← HB2.out]
  refine (unow_calls HU0.out).mono ?_
  rintro e w1 ⟨⟨k1, s1, n1, p1, e1⟩, hf1, rfl, hb⟩
  have HT1 := Aside0.mk hf1
  have HU1 := Aside0.mk (HU0.out.below hb)
  have HR1 := Aside0.mk (HR0.out.trans (grown_below hb _))
  have HY1 := Aside0.mk (blk_below HY0.out hb)
  clear hb hf1
  obtain ⟨fd0, fd1, fd2, fd3⟩ := fld ⟨k1, s1, n1, p1, e1⟩
  obtain ⟨b3, hb3⟩ : ∃ b3, b3 = w1.heap.size := ⟨_, rfl⟩
  obtain ⟨w2, hw2⟩ : ∃ w2, w2 = w1.alloc (.cells #[.int .i64 0, .string ⟨#[]⟩, .string ⟨#[]⟩, .string ⟨#[]⟩, .string ⟨#[]⟩, .string ⟨#[]⟩, .slice none 0 0, .int .i64 p1] 62) := ⟨_, rfl⟩
  have hb : Below w1.heap.size w1 w2 := by rw [hw2]; exact below_alloc (Below.refl _ _) _
  have HU2 := Aside0.mk (HU1.out.below hb)
  have HR2 := Aside0.mk (HR1.out.trans (grown_below hb _))
  have HY2 := Aside0.mk (blk_below HY1.out hb)
  have HX2 := Aside0.mk (show w2.heap[b3]? = some (.cells #[.int .i64 0, .string ⟨#[]⟩, .string ⟨#[]⟩, .string ⟨#[]⟩, .string ⟨#[]⟩, .string ⟨#[]⟩, .slice none 0 0, .int .i64 p1] 62 (0, 0)) from by rw [hw2, hb3]; exact blk_new _ _)
  have GB3 : Aside0 (g < b3) := ⟨by rw [hb3]; exact HU1.out.glt⟩
  have NB3 : Aside0 (b3 ≠ g) := ⟨by have := GB3.out; omega⟩
  have LB3 : Aside0 (w.heap.size ≤ b3) := ⟨by rw [hb3]; exact HR1.out.size⟩
  have NB23 : Aside0 (b2 ≠ b3) := ⟨by have := blk_lt HY1.out; rw [hb3]; omega⟩
  have HB3 := Aside0.mk hb3
  have HW2 := Aside0.mk hw2
  clear hb hw2 hb3
  go_wp2_with fail
  rw [← HW2.out, ← HB3.out]
  refine (words_calls w2).mono ?_
  rintro e w3 ⟨B, rfl, hbw, hb, _⟩
  have HBW3 := Aside0.mk hbw
  have HU3 := Aside0.mk (HU2.out.below hb)
  have HR3 := Aside0.mk (HR2.out.trans (grown_below hb _))
  have HY3 := Aside0.mk (blk_below HY2.out hb)
  have HX3 := Aside0.mk (blk_below HX2.out hb)
  clear hb hbw
  go_wp2_with fail
  refine (unow_calls HU3.out).mono ?_
  rintro e w4 ⟨⟨k2, s2, n2, p2, e2⟩, hf2, rfl, hb⟩
  have HT2 := Aside0.mk hf2
  have HBW4 := Aside0.mk (blk_below HBW3.out hb)
  have HU4 := Aside0.mk (HU3.out.below hb)
  have HR4 := Aside0.mk (HR3.out.trans (grown_below hb _))
  have HY4 := Aside0.mk (blk_below HY3.out hb)
  have HX4 := Aside0.mk (blk_below HX3.out hb)
  clear hb hf2
  obtain ⟨gd0, gd1, gd2, gd3⟩ := fld ⟨k2, s2, n2, p2, e2⟩
  by_cases hk2 : k2 = 1
  · subst hk2
    go_wp2_with fail
    refine (unow_calls HU4.out).mono ?_
    rintro e w5 ⟨⟨k3, s3, n3, p3, e3⟩, hf3, rfl, hb⟩
    have HT3 := Aside0.mk hf3
    have HBW5 := Aside0.mk (blk_below HBW4.out hb)
    have HU5 := Aside0.mk (HU4.out.below hb)
    have HR5 := Aside0.mk (HR4.out.trans (grown_below hb _))
    have HY5 := Aside0.mk (blk_below HY4.out hb)
    have HX5 := Aside0.mk (blk_below HX4.out hb)
    clear hb hf3
    obtain ⟨id0, id1, id2, id3⟩ := fld ⟨k3, s3, n3, p3, e3⟩
    obtain ⟨k, hk, hk6⟩ := kind_in s3
    have hkk : ∀ ts, s = .ok ts → P.stK ts = (k : Int) := fun ts hs => by
      unfold P.stK
      rw [← HT2.out ts hs, if_pos rfl, HT2.out ts hs, ← HT3.out ts hs]; exact hk
    have hix : Lib.idxOfS ((wordList.drop 2).take 6) s3 = (k : Int) - 1 := by have := kind_eq s3; omega
    have HIX : Aside0 (Calls Try.prog 90 #[.slice (some ⟨B, 2, none⟩) 6 16, .string s3] w5 fun e w' => e = .returned (.int .i64 ((k : Int) - 1)) ∧ w' = w5) := ⟨by rw [← hix]; exact Try.slices_Index_string B 2 6 16 (wordList.drop 2) s3 w5 (by decide) (by decide) (kinds_cells HBW5.out)⟩
    have c0_5 := (blk_cell HX5.out 0).trans rfl
    have f0_5 := blk_frozen HX5.out 0
    clear hix hk
    obtain rfl | rfl | rfl | rfl | rfl | rfl | rfl : k = 0 ∨ k = 1 ∨ k = 2 ∨ k = 3 ∨ k = 4 ∨ k = 5 ∨ k = 6 := by omega
    · have HKK : Aside0 (∀ ts, s = .ok ts → P.stK ts = 0) := ⟨hkk⟩
      have HC5 := Aside0.mk (HF0.out.to (fun r hr => front_eq (k := 0) (p := p1) (HKK.out r hr) (by rw [← HT1.out r hr])))
      clear hkk
      go_wp2_with fail
      refine HIX.out.mono ?_
      rintro e w6 ⟨rfl, hw6⟩
      rw [hw6]
      clear HIX hw6
      have HU6' := HU5
      obtain ⟨w6, hw⟩ : ∃ w6, w6 = w5.setCell ⟨b3, 0, none⟩ (.int .i64 0) := ⟨_, rfl⟩
      have HU6 := Aside0.mk (show Up w6 A c L g _ from by rw [hw]; exact HU5.out.far GB3.out 0 _)
      have HR6 := Aside0.mk (show w.grownBy w6 (some g) from by rw [hw]; exact grown_far (g := g) HR5.out LB3.out 0 _)
      have HX6 := Aside0.mk (show w6.heap[b3]? = some (.cells #[.int .i64 0, .string ⟨#[]⟩, .string ⟨#[]⟩, .string ⟨#[]⟩, .string ⟨#[]⟩, .string ⟨#[]⟩, .slice none 0 0, .int .i64 p1] 62 (0, 0)) from by rw [hw]; exact (blk_setS HX5.out _).trans (by rfl))
      have HY6 := Aside0.mk (show w6.heap[b2]? = some (.cells #[.int .i64 0, .string ⟨#[]⟩, .string ⟨#[]⟩, .string ⟨#[]⟩, .string ⟨#[]⟩, .string ⟨#[]⟩, .slice none 0 0, .int .i64 0] 62 (0, 0)) from by rw [hw]; exact blk_setN NB23.out HY5.out _)
      have HC6 := HC5
      have HW6 := Aside0.mk hw
      clear hw
      have c0_6 := (blk_cell HX6.out 0).trans rfl
      have f0_6 := blk_frozen HX6.out 0
      have HCL := Aside0.mk (utake_calls HG.out false (fun ts => decide (0 < P.stK ts)) HU6.out (fun ts hs => ⟨by rw [HKK.out ts hs]; rfl, fun h => P.stK_kind (by rw [HKK.out ts hs]; exact absurd h (by decide))⟩))
      go_wp2_with fail
      rw [← HW6.out]
      refine HCL.out.mono ?_
      rintro e w7 ⟨⟨tk0, hfr, rfl⟩, hu, hg⟩
      clear HCL
      have HC7 := Aside0.mk (Co.step HC6.out hfr)
      have HU7 := Aside0.mk hu
      have HR7 := Aside0.mk (HR6.out.trans hg)
      have HX7 := Aside0.mk (keepB hg HX6.out NB3.out)
      have HY7 := Aside0.mk (keepB hg HY6.out NB2.out)
      clear hu hg hfr
      have HCL := Aside0.mk (uname_calls HG.out HU7.out)
      go_wp2_with fail
      refine HCL.out.mono ?_
      rintro e w8 ⟨⟨ta, hfr, rfl⟩, hu, hg⟩
      clear HCL
      have HC8 := Aside0.mk ((HC7.out).name hfr)
      have HU8 := Aside0.mk hu
      have HR8 := Aside0.mk (HR7.out.trans hg)
      have HX8 := Aside0.mk (keepB hg HX7.out NB3.out)
      have HY8 := Aside0.mk (keepB hg HY7.out NB2.out)
      clear hu hg hfr
      have c0_8 := (blk_cell HX8.out 0).trans rfl
      have f0_8 := blk_frozen HX8.out 0
      have c1_8 := (blk_cell HX8.out 1).trans rfl
      have f1_8 := blk_frozen HX8.out 1
      obtain ⟨w9, hw⟩ : ∃ w9, w9 = w8.setCell ⟨b3, 1, none⟩ (.string ta.f1) := ⟨_, rfl⟩
      have HU9 := Aside0.mk (show Up w9 A c L g _ from by rw [hw]; exact HU8.out.far GB3.out 1 _)
      have HR9 := Aside0.mk (show w.grownBy w9 (some g) from by rw [hw]; exact grown_far (g := g) HR8.out LB3.out 1 _)
      have HX9 := Aside0.mk (show w9.heap[b3]? = some (.cells #[.int .i64 0, .string ta.f1, .string ⟨#[]⟩, .string ⟨#[]⟩, .string ⟨#[]⟩, .string ⟨#[]⟩, .slice none 0 0, .int .i64 p1] 62 (0, 0)) from by rw [hw]; exact (blk_setS HX8.out _).trans (by rfl))
      have HY9 := Aside0.mk (show w9.heap[b2]? = some (.cells #[.int .i64 0, .string ⟨#[]⟩, .string ⟨#[]⟩, .string ⟨#[]⟩, .string ⟨#[]⟩, .string ⟨#[]⟩, .slice none 0 0, .int .i64 0] 62 (0, 0)) from by rw [hw]; exact blk_setN NB23.out HY8.out _)
      have HC9 := HC8
      have HW9 := Aside0.mk hw
      clear hw
      have HC9 := Aside0.mk (HC9.out.to (fun r _ => tail0 _ _ r))
      have HCL := Aside0.mk (umark_calls HG.out 59 HU9.out)
      go_wp2_with fail
      rw [← HW9.out]
      refine HCL.out.mono ?_
      rintro e w10 ⟨⟨tz, hfr, rfl⟩, hu, hg⟩
      clear HCL
      have HC10 := Aside0.mk ((HC9.out).mark hfr)
      have HU10 := Aside0.mk hu
      have HR10 := Aside0.mk (HR9.out.trans hg)
      have HX10 := Aside0.mk (keepB hg HX9.out NB3.out)
      have HY10 := Aside0.mk (keepB hg HY9.out NB2.out)
      have hgz := hg
      clear hu hg hfr
      have c0_10 := (blk_cell HX10.out 0).trans rfl
      have f0_10 := blk_frozen HX10.out 0
      have c1_10 := (blk_cell HX10.out 1).trans rfl
      have f1_10 := blk_frozen HX10.out 1
      have c2_10 := (blk_cell HX10.out 2).trans rfl
      have f2_10 := blk_frozen HX10.out 2
      have c3_10 := (blk_cell HX10.out 3).trans rfl
      have f3_10 := blk_frozen HX10.out 3
      have c4_10 := (blk_cell HX10.out 4).trans rfl
      have f4_10 := blk_frozen HX10.out 4
      have c5_10 := (blk_cell HX10.out 5).trans rfl
      have f5_10 := blk_frozen HX10.out 5
      have c6_10 := (blk_cell HX10.out 6).trans rfl
      have f6_10 := blk_frozen HX10.out 6
      have c7_10 := (blk_cell HX10.out 7).trans rfl
      have f7_10 := blk_frozen HX10.out 7
      have y0 := (blk_cell HY10.out 0).trans rfl
      have g0 := blk_frozen HY10.out 0
      have y1 := (blk_cell HY10.out 1).trans rfl
      have g1 := blk_frozen HY10.out 1
      have y2 := (blk_cell HY10.out 2).trans rfl
      have g2 := blk_frozen HY10.out 2
      have y3 := (blk_cell HY10.out 3).trans rfl
      have g3 := blk_frozen HY10.out 3
      have y4 := (blk_cell HY10.out 4).trans rfl
      have g4 := blk_frozen HY10.out 4
      have y5 := (blk_cell HY10.out 5).trans rfl
      have g5 := blk_frozen HY10.out 5
      have y6 := (blk_cell HY10.out 6).trans rfl
      have g6 := blk_frozen HY10.out 6
      have y7 := (blk_cell HY10.out 7).trans rfl
      have g7 := blk_frozen HY10.out 7
      go_wp2
      refine bodyPost_ret (results_c rfl _ _ b2 62 #[.int .i64 0, .string ta.f1, .string ⟨#[]⟩, .string ⟨#[]⟩, .string ⟨#[]⟩, .string ⟨#[]⟩, .slice none 0 0, .int .i64 p1] (0, 0) _ rfl (set8 HY10.out) Try.underlying62 rfl (by kernel_rfl)) rfl ?_
      refine ⟨⟨0, ta.f1, ⟨#[]⟩, ⟨#[]⟩, ⟨#[]⟩, ⟨#[]⟩, ⟨none, 0, 0⟩, p1⟩, [], rfl, Kd.R_nil _ _ _ _ _, (fun k hk => by simp [Sl.v, Value.ownBlock] at hk), ?_, grown8 HR10.out LB2.out, fun ts d r h1 h2 => ?_⟩
      · rw [← HFE.out _ (Co.end_' HC10.out)]
        exact up8 HU10.out GB2.out
      · have := Co.val HC10.out HF0.out ts d r h1 h2
        subst this
        exact ⟨rfl, rfl, rfl, rfl, rfl, rfl, rfl, rfl⟩
    · have HKK : Aside0 (∀ ts, s = .ok ts → P.stK ts = 1) := ⟨hkk⟩
      have HC5 := Aside0.mk (HF0.out.to (fun r hr => front_eq (k := 1) (p := p1) (HKK.out r hr) (by rw [← HT1.out r hr])))
      clear hkk
      go_wp2_with fail
      refine HIX.out.mono ?_
      rintro e w6 ⟨rfl, hw6⟩
      rw [hw6]
      clear HIX hw6
      have HU6' := HU5
      obtain ⟨w6, hw⟩ : ∃ w6, w6 = w5.setCell ⟨b3, 0, none⟩ (.int .i64 1) := ⟨_, rfl⟩
      have HU6 := Aside0.mk (show Up w6 A c L g _ from by rw [hw]; exact HU5.out.far GB3.out 0 _)
      have HR6 := Aside0.mk (show w.grownBy w6 (some g) from by rw [hw]; exact grown_far (g := g) HR5.out LB3.out 0 _)
      have HX6 := Aside0.mk (show w6.heap[b3]? = some (.cells #[.int .i64 1, .string ⟨#[]⟩, .string ⟨#[]⟩, .string ⟨#[]⟩, .string ⟨#[]⟩, .string ⟨#[]⟩, .slice none 0 0, .int .i64 p1] 62 (0, 0)) from by rw [hw]; exact (blk_setS HX5.out _).trans (by rfl))
      have HY6 := Aside0.mk (show w6.heap[b2]? = some (.cells #[.int .i64 0, .string ⟨#[]⟩, .string ⟨#[]⟩, .string ⟨#[]⟩, .string ⟨#[]⟩, .string ⟨#[]⟩, .slice none 0 0, .int .i64 0] 62 (0, 0)) from by rw [hw]; exact blk_setN NB23.out HY5.out _)
      have HC6 := HC5
      have HW6 := Aside0.mk hw
      clear hw
      have c0_6 := (blk_cell HX6.out 0).trans rfl
      have f0_6 := blk_frozen HX6.out 0
      have HCL := Aside0.mk (utake_calls HG.out true (fun ts => decide (0 < P.stK ts)) HU6.out (fun ts hs => ⟨by rw [HKK.out ts hs]; rfl, fun h => P.stK_kind (by rw [HKK.out ts hs]; exact (by decide))⟩))
      go_wp2_with fail
      rw [← HW6.out]
      refine HCL.out.mono ?_
      rintro e w7 ⟨⟨tk0, hfr, rfl⟩, hu, hg⟩
      clear HCL
      have HC7 := Aside0.mk (Co.step HC6.out hfr)
      have HU7 := Aside0.mk hu
      have HR7 := Aside0.mk (HR6.out.trans hg)
      have HX7 := Aside0.mk (keepB hg HX6.out NB3.out)
      have HY7 := Aside0.mk (keepB hg HY6.out NB2.out)
      clear hu hg hfr
      have HCL := Aside0.mk (uname_calls HG.out HU7.out)
      go_wp2_with fail
      refine HCL.out.mono ?_
      rintro e w8 ⟨⟨ta, hfr, rfl⟩, hu, hg⟩
      clear HCL
      have HC8 := Aside0.mk ((HC7.out).name hfr)
      have HU8 := Aside0.mk hu
      have HR8 := Aside0.mk (HR7.out.trans hg)
      have HX8 := Aside0.mk (keepB hg HX7.out NB3.out)
      have HY8 := Aside0.mk (keepB hg HY7.out NB2.out)
      clear hu hg hfr
      have c0_8 := (blk_cell HX8.out 0).trans rfl
      have f0_8 := blk_frozen HX8.out 0
      have c1_8 := (blk_cell HX8.out 1).trans rfl
      have f1_8 := blk_frozen HX8.out 1
      obtain ⟨w9, hw⟩ : ∃ w9, w9 = w8.setCell ⟨b3, 1, none⟩ (.string ta.f1) := ⟨_, rfl⟩
      have HU9 := Aside0.mk (show Up w9 A c L g _ from by rw [hw]; exact HU8.out.far GB3.out 1 _)
      have HR9 := Aside0.mk (show w.grownBy w9 (some g) from by rw [hw]; exact grown_far (g := g) HR8.out LB3.out 1 _)
      have HX9 := Aside0.mk (show w9.heap[b3]? = some (.cells #[.int .i64 1, .string ta.f1, .string ⟨#[]⟩, .string ⟨#[]⟩, .string ⟨#[]⟩, .string ⟨#[]⟩, .slice none 0 0, .int .i64 p1] 62 (0, 0)) from by rw [hw]; exact (blk_setS HX8.out _).trans (by rfl))
      have HY9 := Aside0.mk (show w9.heap[b2]? = some (.cells #[.int .i64 0, .string ⟨#[]⟩, .string ⟨#[]⟩, .string ⟨#[]⟩, .string ⟨#[]⟩, .string ⟨#[]⟩, .slice none 0 0, .int .i64 0] 62 (0, 0)) from by rw [hw]; exact blk_setN NB23.out HY8.out _)
      have HC9 := HC8
      have HW9 := Aside0.mk hw
      clear hw
      have HC9 := Aside0.mk (HC9.out.to (fun r _ => tail1 _ _ r))
      have HCL := Aside0.mk (umark_calls HG.out 58 HU9.out)
      go_wp2_with fail
      rw [← HW9.out]
      refine HCL.out.mono ?_
      rintro e w10 ⟨⟨tq1, hfr, rfl⟩, hu, hg⟩
      clear HCL
      have HC10 := Aside0.mk ((HC9.out).mark hfr)
      have HU10 := Aside0.mk hu
      have HR10 := Aside0.mk (HR9.out.trans hg)
      have HX10 := Aside0.mk (keepB hg HX9.out NB3.out)
      have HY10 := Aside0.mk (keepB hg HY9.out NB2.out)
      clear hu hg hfr
      have HCL := Aside0.mk (uname_calls HG.out HU10.out)
      go_wp2_with fail
      refine HCL.out.mono ?_
      rintro e w11 ⟨⟨tb, hfr, rfl⟩, hu, hg⟩
      clear HCL
      have HC11 := Aside0.mk ((HC10.out).name hfr)
      have HU11 := Aside0.mk hu
      have HR11 := Aside0.mk (HR10.out.trans hg)
      have HX11 := Aside0.mk (keepB hg HX10.out NB3.out)
      have HY11 := Aside0.mk (keepB hg HY10.out NB2.out)
      clear hu hg hfr
      have c5_11 := (blk_cell HX11.out 5).trans rfl
      have f5_11 := blk_frozen HX11.out 5
      obtain ⟨w12, hw⟩ : ∃ w12, w12 = w11.setCell ⟨b3, 5, none⟩ (.string tb.f1) := ⟨_, rfl⟩
      have HU12 := Aside0.mk (show Up w12 A c L g _ from by rw [hw]; exact HU11.out.far GB3.out 5 _)
      have HR12 := Aside0.mk (show w.grownBy w12 (some g) from by rw [hw]; exact grown_far (g := g) HR11.out LB3.out 5 _)
      have HX12 := Aside0.mk (show w12.heap[b3]? = some (.cells #[.int .i64 1, .string ta.f1, .string ⟨#[]⟩, .string ⟨#[]⟩, .string ⟨#[]⟩, .string tb.f1, .slice none 0 0, .int .i64 p1] 62 (0, 0)) from by rw [hw]; exact (blk_setS HX11.out _).trans (by rfl))
      have HY12 := Aside0.mk (show w12.heap[b2]? = some (.cells #[.int .i64 0, .string ⟨#[]⟩, .string ⟨#[]⟩, .string ⟨#[]⟩, .string ⟨#[]⟩, .string ⟨#[]⟩, .slice none 0 0, .int .i64 0] 62 (0, 0)) from by rw [hw]; exact blk_setN NB23.out HY11.out _)
      have HC12 := HC11
      have HW12 := Aside0.mk hw
      clear hw
      have HIS := Aside0.mk (uis_calls 4 ⟨#[61]⟩ HU12.out)
      obtain ⟨bq, hbq⟩ : ∃ bq, bq = US.is 4 ⟨#[61]⟩ ((((s.step fun ts => P.want (decide (0 < P.stK ts)) ts).step P.nameW).step (takeM 58)).step P.nameW) := ⟨_, rfl⟩
      rw [← hbq] at HIS
      have HBQ := Aside0.mk hbq
      clear hbq
      go_wp2_with fail
      rw [← HW12.out]
      refine HIS.out.mono ?_
      rintro e w13 ⟨rfl, hb⟩
      clear HIS
      have HC13 := HC12
      have HU13 := Aside0.mk (HU12.out.below hb)
      have HR13 := Aside0.mk (HR12.out.trans (grown_below hb _))
      have HX13 := Aside0.mk (blk_below HX12.out hb)
      have HY13 := Aside0.mk (blk_below HY12.out hb)
      clear hb
      cases bq with
      | true =>
        have HC13 := Aside0.mk (HC13.out.to (k' := fun r => (takeM 61 r).bind fun _ r => (P.exprW r).bind fun v r => (takeM 59 r).bind fun _ r => .ok { P.stepOf 1 p1 ta.f1 with ty := tb.f1, val := v.ns } r) (fun r hr => eqTrue (f := fun r => (P.exprW r).bind fun v r => (takeM 59 r).bind fun _ r => .ok { P.stepOf 1 p1 ta.f1 with ty := tb.f1, val := v.ns } r) (HBQ.out.trans (by rw [hr]; rfl))))
        have HCL := Aside0.mk (umark_calls HG.out 61 HU13.out)
        go_wp2_with fail
        refine HCL.out.mono ?_
        rintro e w14 ⟨⟨tq2, hfr, rfl⟩, hu, hg⟩
        clear HCL
        have HC14 := Aside0.mk ((HC13.out).mark hfr)
        have HU14 := Aside0.mk hu
        have HR14 := Aside0.mk (HR13.out.trans hg)
        have HX14 := Aside0.mk (keepB hg HX13.out NB3.out)
        have HY14 := Aside0.mk (keepB hg HY13.out NB2.out)
        clear hu hg hfr
        have c6_14 := (blk_cell HX14.out 6).trans rfl
        have f6_14 := blk_frozen HX14.out 6
        have HCL := Aside0.mk (whole_calls w14 A c L g _ HG.out HL.out HU14.out)
        go_wp2_with fail
        refine HCL.out.mono ?_
        rintro e w15 ⟨v, nsv, rfl, hrv, hnew, hu, hg, hval⟩
        clear HCL
        obtain ⟨Av, cv, hvv⟩ := Kd.R_slice hrv
        subst hvv
        have HC15 := Aside0.mk (Co.call (P := fun _ => True) (g' := fun r => (takeM 59 r).bind fun _ r => .ok { P.stepOf 1 p1 ta.f1 with ty := tb.f1, val := nsv } r) HC14.out (fun ts a r h1 h2 => by rw [hval ts a r h1 h2]))
        have HU15 := Aside0.mk hu
        have HR15 := Aside0.mk (HR14.out.trans hg)
        have HX15 := Aside0.mk (keepB hg HX14.out NB3.out)
        have HY15 := Aside0.mk (keepB hg HY14.out NB2.out)
        have HNEW : Aside0 (∀ k, (Value.slice Av nsv.length cv).ownBlock = some k → w.heap.size ≤ k) := ⟨fun k hk => Nat.le_trans HR14.out.size (hnew k hk)⟩
        have HNG : Aside0 ((Value.slice Av nsv.length cv).ownBlock = some g → False) := ⟨fun hk => by have := HNEW.out g hk; have := GB2.out; have := HB2.out; omega⟩
        have HN15 := Aside0.mk hrv
        clear hu hg hval hnew hrv c6_14 f6_14
        have c6_15 := (blk_cell HX15.out 6).trans rfl
        have f6_15 := blk_frozen HX15.out 6
        obtain ⟨w16, hw⟩ : ∃ w16, w16 = w15.setCell ⟨b3, 6, none⟩ (.slice Av nsv.length cv) := ⟨_, rfl⟩
        have HU16 := Aside0.mk (show Up w16 A c L g _ from by rw [hw]; exact HU15.out.far GB3.out 6 _)
        have HR16 := Aside0.mk (show w.grownBy w16 (some g) from by rw [hw]; exact grown_far (g := g) HR15.out LB3.out 6 _)
        have HX16 := Aside0.mk (show w16.heap[b3]? = some (.cells #[.int .i64 1, .string ta.f1, .string ⟨#[]⟩, .string ⟨#[]⟩, .string ⟨#[]⟩, .string tb.f1, .slice Av nsv.length cv, .int .i64 p1] 62 (0, 0)) from by rw [hw]; exact (blk_setS HX15.out _).trans (by rfl))
        have HY16 := Aside0.mk (show w16.heap[b2]? = some (.cells #[.int .i64 0, .string ⟨#[]⟩, .string ⟨#[]⟩, .string ⟨#[]⟩, .string ⟨#[]⟩, .string ⟨#[]⟩, .slice none 0 0, .int .i64 0] 62 (0, 0)) from by rw [hw]; exact blk_setN NB23.out HY15.out _)
        have HC16 := HC15
        have HW16 := Aside0.mk hw
        clear hw
        have HN16 := Aside0.mk (show Kd.R kn 49 w16 g (fun _ => True) (.slice Av nsv.length cv) nsv from by rw [HW16.out]; exact Kd.R_set HN15.out HX15.out (by intro q hq; simp only [kn, Kd.iso, Kd.pair, Kd.int, Kd.string, Kd.scalar, List.append_nil, List.mem_singleton] at hq; rw [hq]; decide) 6 _)
        have HCL := Aside0.mk (umark_calls HG.out 59 HU16.out)
        go_wp2_with fail
        rw [← HW16.out]
        refine HCL.out.mono ?_
        rintro e w17 ⟨⟨tz, hfr, rfl⟩, hu, hg⟩
        clear HCL
        have HC17 := Aside0.mk ((HC16.out).mark hfr)
        have HU17 := Aside0.mk hu
        have HR17 := Aside0.mk (HR16.out.trans hg)
        have HX17 := Aside0.mk (keepB hg HX16.out NB3.out)
        have HY17 := Aside0.mk (keepB hg HY16.out NB2.out)
        have hgz := hg
        clear hu hg hfr
        have HN17 := Aside0.mk (rn_keep HN16.out (fun k hk => hgz.block k (Kd.R_lt HN16.out k hk) (fun e => by injection e with e; subst e; exact HNG.out hk)))
        have c0_17 := (blk_cell HX17.out 0).trans rfl
        have f0_17 := blk_frozen HX17.out 0
        have c1_17 := (blk_cell HX17.out 1).trans rfl
        have f1_17 := blk_frozen HX17.out 1
        have c2_17 := (blk_cell HX17.out 2).trans rfl
        have f2_17 := blk_frozen HX17.out 2
        have c3_17 := (blk_cell HX17.out 3).trans rfl
        have f3_17 := blk_frozen HX17.out 3
        have c4_17 := (blk_cell HX17.out 4).trans rfl
        have f4_17 := blk_frozen HX17.out 4
        have c5_17 := (blk_cell HX17.out 5).trans rfl
        have f5_17 := blk_frozen HX17.out 5
        have c6_17 := (blk_cell HX17.out 6).trans rfl
        have f6_17 := blk_frozen HX17.out 6
        have c7_17 := (blk_cell HX17.out 7).trans rfl
        have f7_17 := blk_frozen HX17.out 7
        have y0 := (blk_cell HY17.out 0).trans rfl
        have g0 := blk_frozen HY17.out 0
        have y1 := (blk_cell HY17.out 1).trans rfl
        have g1 := blk_frozen HY17.out 1
        have y2 := (blk_cell HY17.out 2).trans rfl
        have g2 := blk_frozen HY17.out 2
        have y3 := (blk_cell HY17.out 3).trans rfl
        have g3 := blk_frozen HY17.out 3
        have y4 := (blk_cell HY17.out 4).trans rfl
        have g4 := blk_frozen HY17.out 4
        have y5 := (blk_cell HY17.out 5).trans rfl
        have g5 := blk_frozen HY17.out 5
        have y6 := (blk_cell HY17.out 6).trans rfl
        have g6 := blk_frozen HY17.out 6
        have y7 := (blk_cell HY17.out 7).trans rfl
        have g7 := blk_frozen HY17.out 7
        go_wp2
        refine bodyPost_ret (results_c rfl _ _ b2 62 #[.int .i64 1, .string ta.f1, .string ⟨#[]⟩, .string ⟨#[]⟩, .string ⟨#[]⟩, .string tb.f1, .slice Av nsv.length cv, .int .i64 p1] (0, 0) _ rfl (set8 HY17.out) Try.underlying62 rfl (by kernel_rfl)) rfl ?_
        refine ⟨⟨1, ta.f1, ⟨#[]⟩, ⟨#[]⟩, ⟨#[]⟩, tb.f1, ⟨Av, nsv.length, cv⟩, p1⟩, nsv, rfl, rn8 HN17.out HY17.out, HNEW.out, ?_, grown8 HR17.out LB2.out, fun ts d r h1 h2 => ?_⟩
        · rw [← HFE.out _ (Co.end_' HC17.out)]
          exact up8 HU17.out GB2.out
        · have := Co.val HC17.out HF0.out ts d r h1 h2
          subst this
          exact ⟨rfl, rfl, rfl, rfl, rfl, rfl, rfl, rfl⟩
      | false =>
        have HC13 := Aside0.mk (HC13.out.to (k' := fun r => (takeM 59 r).bind fun _ r => .ok { P.stepOf 1 p1 ta.f1 with ty := tb.f1 } r) (fun r hr => eqFalse (HBQ.out.trans (by rw [hr]; rfl))))
        have HCL := Aside0.mk (umark_calls HG.out 59 HU13.out)
        go_wp2_with fail
        refine HCL.out.mono ?_
        rintro e w14 ⟨⟨tz, hfr, rfl⟩, hu, hg⟩
        clear HCL
        have HC14 := Aside0.mk ((HC13.out).mark hfr)
        have HU14 := Aside0.mk hu
        have HR14 := Aside0.mk (HR13.out.trans hg)
        have HX14 := Aside0.mk (keepB hg HX13.out NB3.out)
        have HY14 := Aside0.mk (keepB hg HY13.out NB2.out)
        have hgz := hg
        clear hu hg hfr
        have c0_14 := (blk_cell HX14.out 0).trans rfl
        have f0_14 := blk_frozen HX14.out 0
        have c1_14 := (blk_cell HX14.out 1).trans rfl
        have f1_14 := blk_frozen HX14.out 1
        have c2_14 := (blk_cell HX14.out 2).trans rfl
        have f2_14 := blk_frozen HX14.out 2
        have c3_14 := (blk_cell HX14.out 3).trans rfl
        have f3_14 := blk_frozen HX14.out 3
        have c4_14 := (blk_cell HX14.out 4).trans rfl
        have f4_14 := blk_frozen HX14.out 4
        have c5_14 := (blk_cell HX14.out 5).trans rfl
        have f5_14 := blk_frozen HX14.out 5
        have c6_14 := (blk_cell HX14.out 6).trans rfl
        have f6_14 := blk_frozen HX14.out 6
        have c7_14 := (blk_cell HX14.out 7).trans rfl
        have f7_14 := blk_frozen HX14.out 7
        have y0 := (blk_cell HY14.out 0).trans rfl
        have g0 := blk_frozen HY14.out 0
        have y1 := (blk_cell HY14.out 1).trans rfl
        have g1 := blk_frozen HY14.out 1
        have y2 := (blk_cell HY14.out 2).trans rfl
        have g2 := blk_frozen HY14.out 2
        have y3 := (blk_cell HY14.out 3).trans rfl
        have g3 := blk_frozen HY14.out 3
        have y4 := (blk_cell HY14.out 4).trans rfl
        have g4 := blk_frozen HY14.out 4
        have y5 := (blk_cell HY14.out 5).trans rfl
        have g5 := blk_frozen HY14.out 5
        have y6 := (blk_cell HY14.out 6).trans rfl
        have g6 := blk_frozen HY14.out 6
        have y7 := (blk_cell HY14.out 7).trans rfl
        have g7 := blk_frozen HY14.out 7
        go_wp2
        refine bodyPost_ret (results_c rfl _ _ b2 62 #[.int .i64 1, .string ta.f1, .string ⟨#[]⟩, .string ⟨#[]⟩, .string ⟨#[]⟩, .string tb.f1, .slice none 0 0, .int .i64 p1] (0, 0) _ rfl (set8 HY14.out) Try.underlying62 rfl (by kernel_rfl)) rfl ?_
        refine ⟨⟨1, ta.f1, ⟨#[]⟩, ⟨#[]⟩, ⟨#[]⟩, tb.f1, ⟨none, 0, 0⟩, p1⟩, [], rfl, Kd.R_nil _ _ _ _ _, (fun k hk => by simp [Sl.v, Value.ownBlock] at hk), ?_, grown8 HR14.out LB2.out, fun ts d r h1 h2 => ?_⟩
        · rw [← HFE.out _ (Co.end_' HC14.out)]
          exact up8 HU14.out GB2.out
        · have := Co.val HC14.out HF0.out ts d r h1 h2
          subst this
          exact ⟨rfl, rfl, rfl, rfl, rfl, rfl, rfl, rfl⟩
    · have HKK : Aside0 (∀ ts, s = .ok ts → P.stK ts = 2) := ⟨hkk⟩
      have HC5 := Aside0.mk (HF0.out.to (fun r hr => front_eq (k := 2) (p := p1) (HKK.out r hr) (by rw [← HT1.out r hr])))
      clear hkk
      go_wp2_with fail
      refine HIX.out.mono ?_
      rintro e w6 ⟨rfl, hw6⟩
      rw [hw6]
      clear HIX hw6
      have HU6' := HU5
      obtain ⟨w6, hw⟩ : ∃ w6, w6 = w5.setCell ⟨b3, 0, none⟩ (.int .i64 2) := ⟨_, rfl⟩
      have HU6 := Aside0.mk (show Up w6 A c L g _ from by rw [hw]; exact HU5.out.far GB3.out 0 _)
      have HR6 := Aside0.mk (show w.grownBy w6 (some g) from by rw [hw]; exact grown_far (g := g) HR5.out LB3.out 0 _)
      have HX6 := Aside0.mk (show w6.heap[b3]? = some (.cells #[.int .i64 2, .string ⟨#[]⟩, .string ⟨#[]⟩, .string ⟨#[]⟩, .string ⟨#[]⟩, .string ⟨#[]⟩, .slice none 0 0, .int .i64 p1] 62 (0, 0)) from by rw [hw]; exact (blk_setS HX5.out _).trans (by rfl))
      have HY6 := Aside0.mk (show w6.heap[b2]? = some (.cells #[.int .i64 0, .string ⟨#[]⟩, .string ⟨#[]⟩, .string ⟨#[]⟩, .string ⟨#[]⟩, .string ⟨#[]⟩, .slice none 0 0, .int .i64 0] 62 (0, 0)) from by rw [hw]; exact blk_setN NB23.out HY5.out _)
      have HC6 := HC5
      have HW6 := Aside0.mk hw
      clear hw
      have c0_6 := (blk_cell HX6.out 0).trans rfl
      have f0_6 := blk_frozen HX6.out 0
      have HCL := Aside0.mk (utake_calls HG.out true (fun ts => decide (0 < P.stK ts)) HU6.out (fun ts hs => ⟨by rw [HKK.out ts hs]; rfl, fun h => P.stK_kind (by rw [HKK.out ts hs]; exact (by decide))⟩))
      go_wp2_with fail
      rw [← HW6.out]
      refine HCL.out.mono ?_
      rintro e w7 ⟨⟨tk0, hfr, rfl⟩, hu, hg⟩
      clear HCL
      have HC7 := Aside0.mk (Co.step HC6.out hfr)
      have HU7 := Aside0.mk hu
      have HR7 := Aside0.mk (HR6.out.trans hg)
      have HX7 := Aside0.mk (keepB hg HX6.out NB3.out)
      have HY7 := Aside0.mk (keepB hg HY6.out NB2.out)
      clear hu hg hfr
      have HCL := Aside0.mk (uname_calls HG.out HU7.out)
      go_wp2_with fail
      refine HCL.out.mono ?_
      rintro e w8 ⟨⟨ta, hfr, rfl⟩, hu, hg⟩
      clear HCL
      have HC8 := Aside0.mk ((HC7.out).name hfr)
      have HU8 := Aside0.mk hu
      have HR8 := Aside0.mk (HR7.out.trans hg)
      have HX8 := Aside0.mk (keepB hg HX7.out NB3.out)
      have HY8 := Aside0.mk (keepB hg HY7.out NB2.out)
      clear hu hg hfr
      have c0_8 := (blk_cell HX8.out 0).trans rfl
      have f0_8 := blk_frozen HX8.out 0
      have c1_8 := (blk_cell HX8.out 1).trans rfl
      have f1_8 := blk_frozen HX8.out 1
      obtain ⟨w9, hw⟩ : ∃ w9, w9 = w8.setCell ⟨b3, 1, none⟩ (.string ta.f1) := ⟨_, rfl⟩
      have HU9 := Aside0.mk (show Up w9 A c L g _ from by rw [hw]; exact HU8.out.far GB3.out 1 _)
      have HR9 := Aside0.mk (show w.grownBy w9 (some g) from by rw [hw]; exact grown_far (g := g) HR8.out LB3.out 1 _)
      have HX9 := Aside0.mk (show w9.heap[b3]? = some (.cells #[.int .i64 2, .string ta.f1, .string ⟨#[]⟩, .string ⟨#[]⟩, .string ⟨#[]⟩, .string ⟨#[]⟩, .slice none 0 0, .int .i64 p1] 62 (0, 0)) from by rw [hw]; exact (blk_setS HX8.out _).trans (by rfl))
      have HY9 := Aside0.mk (show w9.heap[b2]? = some (.cells #[.int .i64 0, .string ⟨#[]⟩, .string ⟨#[]⟩, .string ⟨#[]⟩, .string ⟨#[]⟩, .string ⟨#[]⟩, .slice none 0 0, .int .i64 0] 62 (0, 0)) from by rw [hw]; exact blk_setN NB23.out HY8.out _)
      have HC9 := HC8
      have HW9 := Aside0.mk hw
      clear hw
      have HC9 := Aside0.mk (HC9.out.to (fun r _ => tail2 _ _ r))
      have HCL := Aside0.mk (uword_calls HG.out P.sTo HU9.out)
      go_wp2_with fail
      rw [← HW9.out]
      refine HCL.out.mono ?_
      rintro e w10 ⟨⟨tq1, hfr, rfl⟩, hu, hg⟩
      clear HCL
      have HC10 := Aside0.mk ((HC9.out).word hfr)
      have HU10 := Aside0.mk hu
      have HR10 := Aside0.mk (HR9.out.trans hg)
      have HX10 := Aside0.mk (keepB hg HX9.out NB3.out)
      have HY10 := Aside0.mk (keepB hg HY9.out NB2.out)
      clear hu hg hfr
      have HCL := Aside0.mk (uname_calls HG.out HU10.out)
      go_wp2_with fail
      refine HCL.out.mono ?_
      rintro e w11 ⟨⟨tb, hfr, rfl⟩, hu, hg⟩
      clear HCL
      have HC11 := Aside0.mk ((HC10.out).name hfr)
      have HU11 := Aside0.mk hu
      have HR11 := Aside0.mk (HR10.out.trans hg)
      have HX11 := Aside0.mk (keepB hg HX10.out NB3.out)
      have HY11 := Aside0.mk (keepB hg HY10.out NB2.out)
      clear hu hg hfr
      have c2_11 := (blk_cell HX11.out 2).trans rfl
      have f2_11 := blk_frozen HX11.out 2
      obtain ⟨w12, hw⟩ : ∃ w12, w12 = w11.setCell ⟨b3, 2, none⟩ (.string tb.f1) := ⟨_, rfl⟩
      have HU12 := Aside0.mk (show Up w12 A c L g _ from by rw [hw]; exact HU11.out.far GB3.out 2 _)
      have HR12 := Aside0.mk (show w.grownBy w12 (some g) from by rw [hw]; exact grown_far (g := g) HR11.out LB3.out 2 _)
      have HX12 := Aside0.mk (show w12.heap[b3]? = some (.cells #[.int .i64 2, .string ta.f1, .string tb.f1, .string ⟨#[]⟩, .string ⟨#[]⟩, .string ⟨#[]⟩, .slice none 0 0, .int .i64 p1] 62 (0, 0)) from by rw [hw]; exact (blk_setS HX11.out _).trans (by rfl))
      have HY12 := Aside0.mk (show w12.heap[b2]? = some (.cells #[.int .i64 0, .string ⟨#[]⟩, .string ⟨#[]⟩, .string ⟨#[]⟩, .string ⟨#[]⟩, .string ⟨#[]⟩, .slice none 0 0, .int .i64 0] 62 (0, 0)) from by rw [hw]; exact blk_setN NB23.out HY11.out _)
      have HC12 := HC11
      have HW12 := Aside0.mk hw
      clear hw
      have HCL := Aside0.mk (umark_calls HG.out 59 HU12.out)
      go_wp2_with fail
      rw [← HW12.out]
      refine HCL.out.mono ?_
      rintro e w13 ⟨⟨tz, hfr, rfl⟩, hu, hg⟩
      clear HCL
      have HC13 := Aside0.mk ((HC12.out).mark hfr)
      have HU13 := Aside0.mk hu
      have HR13 := Aside0.mk (HR12.out.trans hg)
      have HX13 := Aside0.mk (keepB hg HX12.out NB3.out)
      have HY13 := Aside0.mk (keepB hg HY12.out NB2.out)
      have hgz := hg
      clear hu hg hfr
      have c0_13 := (blk_cell HX13.out 0).trans rfl
      have f0_13 := blk_frozen HX13.out 0
      have c1_13 := (blk_cell HX13.out 1).trans rfl
      have f1_13 := blk_frozen HX13.out 1
      have c2_13 := (blk_cell HX13.out 2).trans rfl
      have f2_13 := blk_frozen HX13.out 2
      have c3_13 := (blk_cell HX13.out 3).trans rfl
      have f3_13 := blk_frozen HX13.out 3
      have c4_13 := (blk_cell HX13.out 4).trans rfl
      have f4_13 := blk_frozen HX13.out 4
      have c5_13 := (blk_cell HX13.out 5).trans rfl
      have f5_13 := blk_frozen HX13.out 5
      have c6_13 := (blk_cell HX13.out 6).trans rfl
      have f6_13 := blk_frozen HX13.out 6
      have c7_13 := (blk_cell HX13.out 7).trans rfl
      have f7_13 := blk_frozen HX13.out 7
      have y0 := (blk_cell HY13.out 0).trans rfl
      have g0 := blk_frozen HY13.out 0
      have y1 := (blk_cell HY13.out 1).trans rfl
      have g1 := blk_frozen HY13.out 1
      have y2 := (blk_cell HY13.out 2).trans rfl
      have g2 := blk_frozen HY13.out 2
      have y3 := (blk_cell HY13.out 3).trans rfl
      have g3 := blk_frozen HY13.out 3
      have y4 := (blk_cell HY13.out 4).trans rfl
      have g4 := blk_frozen HY13.out 4
      have y5 := (blk_cell HY13.out 5).trans rfl
      have g5 := blk_frozen HY13.out 5
      have y6 := (blk_cell HY13.out 6).trans rfl
      have g6 := blk_frozen HY13.out 6
      have y7 := (blk_cell HY13.out 7).trans rfl
      have g7 := blk_frozen HY13.out 7
      go_wp2
      refine bodyPost_ret (results_c rfl _ _ b2 62 #[.int .i64 2, .string ta.f1, .string tb.f1, .string ⟨#[]⟩, .string ⟨#[]⟩, .string ⟨#[]⟩, .slice none 0 0, .int .i64 p1] (0, 0) _ rfl (set8 HY13.out) Try.underlying62 rfl (by kernel_rfl)) rfl ?_
      refine ⟨⟨2, ta.f1, tb.f1, ⟨#[]⟩, ⟨#[]⟩, ⟨#[]⟩, ⟨none, 0, 0⟩, p1⟩, [], rfl, Kd.R_nil _ _ _ _ _, (fun k hk => by simp [Sl.v, Value.ownBlock] at hk), ?_, grown8 HR13.out LB2.out, fun ts d r h1 h2 => ?_⟩
      · rw [← HFE.out _ (Co.end_' HC13.out)]
        exact up8 HU13.out GB2.out
      · have := Co.val HC13.out HF0.out ts d r h1 h2
        subst this
        exact ⟨rfl, rfl, rfl, rfl, rfl, rfl, rfl, rfl⟩
    · have HKK : Aside0 (∀ ts, s = .ok ts → P.stK ts = 3) := ⟨hkk⟩
      have HC5 := Aside0.mk (HF0.out.to (fun r hr => front_eq (k := 3) (p := p1) (HKK.out r hr) (by rw [← HT1.out r hr])))
      clear hkk
      go_wp2_with fail
      refine HIX.out.mono ?_
      rintro e w6 ⟨rfl, hw6⟩
      rw [hw6]
      clear HIX hw6
      have HU6' := HU5
      obtain ⟨w6, hw⟩ : ∃ w6, w6 = w5.setCell ⟨b3, 0, none⟩ (.int .i64 3) := ⟨_, rfl⟩
      have HU6 := Aside0.mk (show Up w6 A c L g _ from by rw [hw]; exact HU5.out.far GB3.out 0 _)
      have HR6 := Aside0.mk (show w.grownBy w6 (some g) from by rw [hw]; exact grown_far (g := g) HR5.out LB3.out 0 _)
      have HX6 := Aside0.mk (show w6.heap[b3]? = some (.cells #[.int .i64 3, .string ⟨#[]⟩, .string ⟨#[]⟩, .string ⟨#[]⟩, .string ⟨#[]⟩, .string ⟨#[]⟩, .slice none 0 0, .int .i64 p1] 62 (0, 0)) from by rw [hw]; exact (blk_setS HX5.out _).trans (by rfl))
      have HY6 := Aside0.mk (show w6.heap[b2]? = some (.cells #[.int .i64 0, .string ⟨#[]⟩, .string ⟨#[]⟩, .string ⟨#[]⟩, .string ⟨#[]⟩, .string ⟨#[]⟩, .slice none 0 0, .int .i64 0] 62 (0, 0)) from by rw [hw]; exact blk_setN NB23.out HY5.out _)
      have HC6 := HC5
      have HW6 := Aside0.mk hw
      clear hw
      have c0_6 := (blk_cell HX6.out 0).trans rfl
      have f0_6 := blk_frozen HX6.out 0
      have HCL := Aside0.mk (utake_calls HG.out true (fun ts => decide (0 < P.stK ts)) HU6.out (fun ts hs => ⟨by rw [HKK.out ts hs]; rfl, fun h => P.stK_kind (by rw [HKK.out ts hs]; exact (by decide))⟩))
      go_wp2_with fail
      rw [← HW6.out]
      refine HCL.out.mono ?_
      rintro e w7 ⟨⟨tk0, hfr, rfl⟩, hu, hg⟩
      clear HCL
      have HC7 := Aside0.mk (Co.step HC6.out hfr)
      have HU7 := Aside0.mk hu
      have HR7 := Aside0.mk (HR6.out.trans hg)
      have HX7 := Aside0.mk (keepB hg HX6.out NB3.out)
      have HY7 := Aside0.mk (keepB hg HY6.out NB2.out)
      clear hu hg hfr
      have HCL := Aside0.mk (uname_calls HG.out HU7.out)
      go_wp2_with fail
      refine HCL.out.mono ?_
      rintro e w8 ⟨⟨ta, hfr, rfl⟩, hu, hg⟩
      clear HCL
      have HC8 := Aside0.mk ((HC7.out).name hfr)
      have HU8 := Aside0.mk hu
      have HR8 := Aside0.mk (HR7.out.trans hg)
      have HX8 := Aside0.mk (keepB hg HX7.out NB3.out)
      have HY8 := Aside0.mk (keepB hg HY7.out NB2.out)
      clear hu hg hfr
      have c0_8 := (blk_cell HX8.out 0).trans rfl
      have f0_8 := blk_frozen HX8.out 0
      have c1_8 := (blk_cell HX8.out 1).trans rfl
      have f1_8 := blk_frozen HX8.out 1
      obtain ⟨w9, hw⟩ : ∃ w9, w9 = w8.setCell ⟨b3, 1, none⟩ (.string ta.f1) := ⟨_, rfl⟩
      have HU9 := Aside0.mk (show Up w9 A c L g _ from by rw [hw]; exact HU8.out.far GB3.out 1 _)
      have HR9 := Aside0.mk (show w.grownBy w9 (some g) from by rw [hw]; exact grown_far (g := g) HR8.out LB3.out 1 _)
      have HX9 := Aside0.mk (show w9.heap[b3]? = some (.cells #[.int .i64 3, .string ta.f1, .string ⟨#[]⟩, .string ⟨#[]⟩, .string ⟨#[]⟩, .string ⟨#[]⟩, .slice none 0 0, .int .i64 p1] 62 (0, 0)) from by rw [hw]; exact (blk_setS HX8.out _).trans (by rfl))
      have HY9 := Aside0.mk (show w9.heap[b2]? = some (.cells #[.int .i64 0, .string ⟨#[]⟩, .string ⟨#[]⟩, .string ⟨#[]⟩, .string ⟨#[]⟩, .string ⟨#[]⟩, .slice none 0 0, .int .i64 0] 62 (0, 0)) from by rw [hw]; exact blk_setN NB23.out HY8.out _)
      have HC9 := HC8
      have HW9 := Aside0.mk hw
      clear hw
      have HC9 := Aside0.mk (HC9.out.to (fun r _ => tail3 _ _ r))
      have HCL := Aside0.mk (uword_calls HG.out P.sAt HU9.out)
      go_wp2_with fail
      rw [← HW9.out]
      refine HCL.out.mono ?_
      rintro e w10 ⟨⟨tq1, hfr, rfl⟩, hu, hg⟩
      clear HCL
      have HC10 := Aside0.mk ((HC9.out).word hfr)
      have HU10 := Aside0.mk hu
      have HR10 := Aside0.mk (HR9.out.trans hg)
      have HX10 := Aside0.mk (keepB hg HX9.out NB3.out)
      have HY10 := Aside0.mk (keepB hg HY9.out NB2.out)
      clear hu hg hfr
      have HCL := Aside0.mk (utext_calls HG.out HU10.out)
      go_wp2_with fail
      refine HCL.out.mono ?_
      rintro e w11 ⟨⟨tx, hfr, rfl⟩, hu, hg⟩
      clear HCL
      have HC11 := Aside0.mk ((HC10.out).text hfr)
      have HU11 := Aside0.mk hu
      have HR11 := Aside0.mk (HR10.out.trans hg)
      have HX11 := Aside0.mk (keepB hg HX10.out NB3.out)
      have HY11 := Aside0.mk (keepB hg HY10.out NB2.out)
      clear hu hg hfr
      have c4_11 := (blk_cell HX11.out 4).trans rfl
      have f4_11 := blk_frozen HX11.out 4
      obtain ⟨w12, hw⟩ : ∃ w12, w12 = w11.setCell ⟨b3, 4, none⟩ (.string tx.f1) := ⟨_, rfl⟩
      have HU12 := Aside0.mk (show Up w12 A c L g _ from by rw [hw]; exact HU11.out.far GB3.out 4 _)
      have HR12 := Aside0.mk (show w.grownBy w12 (some g) from by rw [hw]; exact grown_far (g := g) HR11.out LB3.out 4 _)
      have HX12 := Aside0.mk (show w12.heap[b3]? = some (.cells #[.int .i64 3, .string ta.f1, .string ⟨#[]⟩, .string ⟨#[]⟩, .string tx.f1, .string ⟨#[]⟩, .slice none 0 0, .int .i64 p1] 62 (0, 0)) from by rw [hw]; exact (blk_setS HX11.out _).trans (by rfl))
      have HY12 := Aside0.mk (show w12.heap[b2]? = some (.cells #[.int .i64 0, .string ⟨#[]⟩, .string ⟨#[]⟩, .string ⟨#[]⟩, .string ⟨#[]⟩, .string ⟨#[]⟩, .slice none 0 0, .int .i64 0] 62 (0, 0)) from by rw [hw]; exact blk_setN NB23.out HY11.out _)
      have HC12 := HC11
      have HW12 := Aside0.mk hw
      clear hw
      have HCL := Aside0.mk (uword_calls HG.out P.sInto HU12.out)
      go_wp2_with fail
      rw [← HW12.out]
      refine HCL.out.mono ?_
      rintro e w13 ⟨⟨tq2, hfr, rfl⟩, hu, hg⟩
      clear HCL
      have HC13 := Aside0.mk ((HC12.out).word hfr)
      have HU13 := Aside0.mk hu
      have HR13 := Aside0.mk (HR12.out.trans hg)
      have HX13 := Aside0.mk (keepB hg HX12.out NB3.out)
      have HY13 := Aside0.mk (keepB hg HY12.out NB2.out)
      clear hu hg hfr
      have HCL := Aside0.mk (uname_calls HG.out HU13.out)
      go_wp2_with fail
      refine HCL.out.mono ?_
      rintro e w14 ⟨⟨tb, hfr, rfl⟩, hu, hg⟩
      clear HCL
      have HC14 := Aside0.mk ((HC13.out).name hfr)
      have HU14 := Aside0.mk hu
      have HR14 := Aside0.mk (HR13.out.trans hg)
      have HX14 := Aside0.mk (keepB hg HX13.out NB3.out)
      have HY14 := Aside0.mk (keepB hg HY13.out NB2.out)
      clear hu hg hfr
      have c2_14 := (blk_cell HX14.out 2).trans rfl
      have f2_14 := blk_frozen HX14.out 2
      obtain ⟨w15, hw⟩ : ∃ w15, w15 = w14.setCell ⟨b3, 2, none⟩ (.string tb.f1) := ⟨_, rfl⟩
      have HU15 := Aside0.mk (show Up w15 A c L g _ from by rw [hw]; exact HU14.out.far GB3.out 2 _)
      have HR15 := Aside0.mk (show w.grownBy w15 (some g) from by rw [hw]; exact grown_far (g := g) HR14.out LB3.out 2 _)
      have HX15 := Aside0.mk (show w15.heap[b3]? = some (.cells #[.int .i64 3, .string ta.f1, .string tb.f1, .string ⟨#[]⟩, .string tx.f1, .string ⟨#[]⟩, .slice none 0 0, .int .i64 p1] 62 (0, 0)) from by rw [hw]; exact (blk_setS HX14.out _).trans (by rfl))
      have HY15 := Aside0.mk (show w15.heap[b2]? = some (.cells #[.int .i64 0, .string ⟨#[]⟩, .string ⟨#[]⟩, .string ⟨#[]⟩, .string ⟨#[]⟩, .string ⟨#[]⟩, .slice none 0 0, .int .i64 0] 62 (0, 0)) from by rw [hw]; exact blk_setN NB23.out HY14.out _)
      have HC15 := HC14
      have HW15 := Aside0.mk hw
      clear hw
      have HCL := Aside0.mk (umark_calls HG.out 44 HU15.out)
      go_wp2_with fail
      rw [← HW15.out]
      refine HCL.out.mono ?_
      rintro e w16 ⟨⟨tq3, hfr, rfl⟩, hu, hg⟩
      clear HCL
      have HC16 := Aside0.mk ((HC15.out).mark hfr)
      have HU16 := Aside0.mk hu
      have HR16 := Aside0.mk (HR15.out.trans hg)
      have HX16 := Aside0.mk (keepB hg HX15.out NB3.out)
      have HY16 := Aside0.mk (keepB hg HY15.out NB2.out)
      clear hu hg hfr
      have HCL := Aside0.mk (uname_calls HG.out HU16.out)
      go_wp2_with fail
      refine HCL.out.mono ?_
      rintro e w17 ⟨⟨tc, hfr, rfl⟩, hu, hg⟩
      clear HCL
      have HC17 := Aside0.mk ((HC16.out).name hfr)
      have HU17 := Aside0.mk hu
      have HR17 := Aside0.mk (HR16.out.trans hg)
      have HX17 := Aside0.mk (keepB hg HX16.out NB3.out)
      have HY17 := Aside0.mk (keepB hg HY16.out NB2.out)
      clear hu hg hfr
      have c3_17 := (blk_cell HX17.out 3).trans rfl
      have f3_17 := blk_frozen HX17.out 3
      obtain ⟨w18, hw⟩ : ∃ w18, w18 = w17.setCell ⟨b3, 3, none⟩ (.string tc.f1) := ⟨_, rfl⟩
      have HU18 := Aside0.mk (show Up w18 A c L g _ from by rw [hw]; exact HU17.out.far GB3.out 3 _)
      have HR18 := Aside0.mk (show w.grownBy w18 (some g) from by rw [hw]; exact grown_far (g := g) HR17.out LB3.out 3 _)
      have HX18 := Aside0.mk (show w18.heap[b3]? = some (.cells #[.int .i64 3, .string ta.f1, .string tb.f1, .string tc.f1, .string tx.f1, .string ⟨#[]⟩, .slice none 0 0, .int .i64 p1] 62 (0, 0)) from by rw [hw]; exact (blk_setS HX17.out _).trans (by rfl))
      have HY18 := Aside0.mk (show w18.heap[b2]? = some (.cells #[.int .i64 0, .string ⟨#[]⟩, .string ⟨#[]⟩, .string ⟨#[]⟩, .string ⟨#[]⟩, .string ⟨#[]⟩, .slice none 0 0, .int .i64 0] 62 (0, 0)) from by rw [hw]; exact blk_setN NB23.out HY17.out _)
      have HC18 := HC17
      have HW18 := Aside0.mk hw
      clear hw
      have HCL := Aside0.mk (umark_calls HG.out 59 HU18.out)
      go_wp2_with fail
      rw [← HW18.out]
      refine HCL.out.mono ?_
      rintro e w19 ⟨⟨tz, hfr, rfl⟩, hu, hg⟩
      clear HCL
      have HC19 := Aside0.mk ((HC18.out).mark hfr)
      have HU19 := Aside0.mk hu
      have HR19 := Aside0.mk (HR18.out.trans hg)
      have HX19 := Aside0.mk (keepB hg HX18.out NB3.out)
      have HY19 := Aside0.mk (keepB hg HY18.out NB2.out)
      have hgz := hg
      clear hu hg hfr
      have c0_19 := (blk_cell HX19.out 0).trans rfl
      have f0_19 := blk_frozen HX19.out 0
      have c1_19 := (blk_cell HX19.out 1).trans rfl
      have f1_19 := blk_frozen HX19.out 1
      have c2_19 := (blk_cell HX19.out 2).trans rfl
      have f2_19 := blk_frozen HX19.out 2
      have c3_19 := (blk_cell HX19.out 3).trans rfl
      have f3_19 := blk_frozen HX19.out 3
      have c4_19 := (blk_cell HX19.out 4).trans rfl
      have f4_19 := blk_frozen HX19.out 4
      have c5_19 := (blk_cell HX19.out 5).trans rfl
      have f5_19 := blk_frozen HX19.out 5
      have c6_19 := (blk_cell HX19.out 6).trans rfl
      have f6_19 := blk_frozen HX19.out 6
      have c7_19 := (blk_cell HX19.out 7).trans rfl
      have f7_19 := blk_frozen HX19.out 7
      have y0 := (blk_cell HY19.out 0).trans rfl
      have g0 := blk_frozen HY19.out 0
      have y1 := (blk_cell HY19.out 1).trans rfl
      have g1 := blk_frozen HY19.out 1
      have y2 := (blk_cell HY19.out 2).trans rfl
      have g2 := blk_frozen HY19.out 2
      have y3 := (blk_cell HY19.out 3).trans rfl
      have g3 := blk_frozen HY19.out 3
      have y4 := (blk_cell HY19.out 4).trans rfl
      have g4 := blk_frozen HY19.out 4
      have y5 := (blk_cell HY19.out 5).trans rfl
      have g5 := blk_frozen HY19.out 5
      have y6 := (blk_cell HY19.out 6).trans rfl
      have g6 := blk_frozen HY19.out 6
      have y7 := (blk_cell HY19.out 7).trans rfl
      have g7 := blk_frozen HY19.out 7
      go_wp2
      refine bodyPost_ret (results_c rfl _ _ b2 62 #[.int .i64 3, .string ta.f1, .string tb.f1, .string tc.f1, .string tx.f1, .string ⟨#[]⟩, .slice none 0 0, .int .i64 p1] (0, 0) _ rfl (set8 HY19.out) Try.underlying62 rfl (by kernel_rfl)) rfl ?_
      refine ⟨⟨3, ta.f1, tb.f1, tc.f1, tx.f1, ⟨#[]⟩, ⟨none, 0, 0⟩, p1⟩, [], rfl, Kd.R_nil _ _ _ _ _, (fun k hk => by simp [Sl.v, Value.ownBlock] at hk), ?_, grown8 HR19.out LB2.out, fun ts d r h1 h2 => ?_⟩
      · rw [← HFE.out _ (Co.end_' HC19.out)]
        exact up8 HU19.out GB2.out
      · have := Co.val HC19.out HF0.out ts d r h1 h2
        subst this
        exact ⟨rfl, rfl, rfl, rfl, rfl, rfl, rfl, rfl⟩
    · have HKK : Aside0 (∀ ts, s = .ok ts → P.stK ts = 4) := ⟨hkk⟩
      have HC5 := Aside0.mk (HF0.out.to (fun r hr => front_eq (k := 4) (p := p1) (HKK.out r hr) (by rw [← HT1.out r hr])))
      clear hkk
      go_wp2_with fail
      refine HIX.out.mono ?_
      rintro e w6 ⟨rfl, hw6⟩
      rw [hw6]
      clear HIX hw6
      have HU6' := HU5
      obtain ⟨w6, hw⟩ : ∃ w6, w6 = w5.setCell ⟨b3, 0, none⟩ (.int .i64 4) := ⟨_, rfl⟩
      have HU6 := Aside0.mk (show Up w6 A c L g _ from by rw [hw]; exact HU5.out.far GB3.out 0 _)
      have HR6 := Aside0.mk (show w.grownBy w6 (some g) from by rw [hw]; exact grown_far (g := g) HR5.out LB3.out 0 _)
      have HX6 := Aside0.mk (show w6.heap[b3]? = some (.cells #[.int .i64 4, .string ⟨#[]⟩, .string ⟨#[]⟩, .string ⟨#[]⟩, .string ⟨#[]⟩, .string ⟨#[]⟩, .slice none 0 0, .int .i64 p1] 62 (0, 0)) from by rw [hw]; exact (blk_setS HX5.out _).trans (by rfl))
      have HY6 := Aside0.mk (show w6.heap[b2]? = some (.cells #[.int .i64 0, .string ⟨#[]⟩, .string ⟨#[]⟩, .string ⟨#[]⟩, .string ⟨#[]⟩, .string ⟨#[]⟩, .slice none 0 0, .int .i64 0] 62 (0, 0)) from by rw [hw]; exact blk_setN NB23.out HY5.out _)
      have HC6 := HC5
      have HW6 := Aside0.mk hw
      clear hw
      have c0_6 := (blk_cell HX6.out 0).trans rfl
      have f0_6 := blk_frozen HX6.out 0
      have HCL := Aside0.mk (utake_calls HG.out true (fun ts => decide (0 < P.stK ts)) HU6.out (fun ts hs => ⟨by rw [HKK.out ts hs]; rfl, fun h => P.stK_kind (by rw [HKK.out ts hs]; exact (by decide))⟩))
      go_wp2_with fail
      rw [← HW6.out]
      refine HCL.out.mono ?_
      rintro e w7 ⟨⟨tk0, hfr, rfl⟩, hu, hg⟩
      clear HCL
      have HC7 := Aside0.mk (Co.step HC6.out hfr)
      have HU7 := Aside0.mk hu
      have HR7 := Aside0.mk (HR6.out.trans hg)
      have HX7 := Aside0.mk (keepB hg HX6.out NB3.out)
      have HY7 := Aside0.mk (keepB hg HY6.out NB2.out)
      clear hu hg hfr
      have HCL := Aside0.mk (uname_calls HG.out HU7.out)
      go_wp2_with fail
      refine HCL.out.mono ?_
      rintro e w8 ⟨⟨ta, hfr, rfl⟩, hu, hg⟩
      clear HCL
      have HC8 := Aside0.mk ((HC7.out).name hfr)
      have HU8 := Aside0.mk hu
      have HR8 := Aside0.mk (HR7.out.trans hg)
      have HX8 := Aside0.mk (keepB hg HX7.out NB3.out)
      have HY8 := Aside0.mk (keepB hg HY7.out NB2.out)
      clear hu hg hfr
      have c0_8 := (blk_cell HX8.out 0).trans rfl
      have f0_8 := blk_frozen HX8.out 0
      have c1_8 := (blk_cell HX8.out 1).trans rfl
      have f1_8 := blk_frozen HX8.out 1
      obtain ⟨w9, hw⟩ : ∃ w9, w9 = w8.setCell ⟨b3, 1, none⟩ (.string ta.f1) := ⟨_, rfl⟩
      have HU9 := Aside0.mk (show Up w9 A c L g _ from by rw [hw]; exact HU8.out.far GB3.out 1 _)
      have HR9 := Aside0.mk (show w.grownBy w9 (some g) from by rw [hw]; exact grown_far (g := g) HR8.out LB3.out 1 _)
      have HX9 := Aside0.mk (show w9.heap[b3]? = some (.cells #[.int .i64 4, .string ta.f1, .string ⟨#[]⟩, .string ⟨#[]⟩, .string ⟨#[]⟩, .string ⟨#[]⟩, .slice none 0 0, .int .i64 p1] 62 (0, 0)) from by rw [hw]; exact (blk_setS HX8.out _).trans (by rfl))
      have HY9 := Aside0.mk (show w9.heap[b2]? = some (.cells #[.int .i64 0, .string ⟨#[]⟩, .string ⟨#[]⟩, .string ⟨#[]⟩, .string ⟨#[]⟩, .string ⟨#[]⟩, .slice none 0 0, .int .i64 0] 62 (0, 0)) from by rw [hw]; exact blk_setN NB23.out HY8.out _)
      have HC9 := HC8
      have HW9 := Aside0.mk hw
      clear hw
      have HC9 := Aside0.mk (HC9.out.to (fun r _ => tail4 _ _ r))
      have HCL := Aside0.mk (umark_calls HG.out 44 HU9.out)
      go_wp2_with fail
      rw [← HW9.out]
      refine HCL.out.mono ?_
      rintro e w10 ⟨⟨tq1, hfr, rfl⟩, hu, hg⟩
      clear HCL
      have HC10 := Aside0.mk ((HC9.out).mark hfr)
      have HU10 := Aside0.mk hu
      have HR10 := Aside0.mk (HR9.out.trans hg)
      have HX10 := Aside0.mk (keepB hg HX9.out NB3.out)
      have HY10 := Aside0.mk (keepB hg HY9.out NB2.out)
      clear hu hg hfr
      have HCL := Aside0.mk (uname_calls HG.out HU10.out)
      go_wp2_with fail
      refine HCL.out.mono ?_
      rintro e w11 ⟨⟨tb, hfr, rfl⟩, hu, hg⟩
      clear HCL
      have HC11 := Aside0.mk ((HC10.out).name hfr)
      have HU11 := Aside0.mk hu
      have HR11 := Aside0.mk (HR10.out.trans hg)
      have HX11 := Aside0.mk (keepB hg HX10.out NB3.out)
      have HY11 := Aside0.mk (keepB hg HY10.out NB2.out)
      clear hu hg hfr
      have c2_11 := (blk_cell HX11.out 2).trans rfl
      have f2_11 := blk_frozen HX11.out 2
      obtain ⟨w12, hw⟩ : ∃ w12, w12 = w11.setCell ⟨b3, 2, none⟩ (.string tb.f1) := ⟨_, rfl⟩
      have HU12 := Aside0.mk (show Up w12 A c L g _ from by rw [hw]; exact HU11.out.far GB3.out 2 _)
      have HR12 := Aside0.mk (show w.grownBy w12 (some g) from by rw [hw]; exact grown_far (g := g) HR11.out LB3.out 2 _)
      have HX12 := Aside0.mk (show w12.heap[b3]? = some (.cells #[.int .i64 4, .string ta.f1, .string tb.f1, .string ⟨#[]⟩, .string ⟨#[]⟩, .string ⟨#[]⟩, .slice none 0 0, .int .i64 p1] 62 (0, 0)) from by rw [hw]; exact (blk_setS HX11.out _).trans (by rfl))
      have HY12 := Aside0.mk (show w12.heap[b2]? = some (.cells #[.int .i64 0, .string ⟨#[]⟩, .string ⟨#[]⟩, .string ⟨#[]⟩, .string ⟨#[]⟩, .string ⟨#[]⟩, .slice none 0 0, .int .i64 0] 62 (0, 0)) from by rw [hw]; exact blk_setN NB23.out HY11.out _)
      have HC12 := HC11
      have HW12 := Aside0.mk hw
      clear hw
      have HCL := Aside0.mk (uword_calls HG.out P.sWith HU12.out)
      go_wp2_with fail
      rw [← HW12.out]
      refine HCL.out.mono ?_
      rintro e w13 ⟨⟨tq2, hfr, rfl⟩, hu, hg⟩
      clear HCL
      have HC13 := Aside0.mk ((HC12.out).word hfr)
      have HU13 := Aside0.mk hu
      have HR13 := Aside0.mk (HR12.out.trans hg)
      have HX13 := Aside0.mk (keepB hg HX12.out NB3.out)
      have HY13 := Aside0.mk (keepB hg HY12.out NB2.out)
      clear hu hg hfr
      have HCL := Aside0.mk (utext_calls HG.out HU13.out)
      go_wp2_with fail
      refine HCL.out.mono ?_
      rintro e w14 ⟨⟨tx, hfr, rfl⟩, hu, hg⟩
      clear HCL
      have HC14 := Aside0.mk ((HC13.out).text hfr)
      have HU14 := Aside0.mk hu
      have HR14 := Aside0.mk (HR13.out.trans hg)
      have HX14 := Aside0.mk (keepB hg HX13.out NB3.out)
      have HY14 := Aside0.mk (keepB hg HY13.out NB2.out)
      clear hu hg hfr
      have c4_14 := (blk_cell HX14.out 4).trans rfl
      have f4_14 := blk_frozen HX14.out 4
      obtain ⟨w15, hw⟩ : ∃ w15, w15 = w14.setCell ⟨b3, 4, none⟩ (.string tx.f1) := ⟨_, rfl⟩
      have HU15 := Aside0.mk (show Up w15 A c L g _ from by rw [hw]; exact HU14.out.far GB3.out 4 _)
      have HR15 := Aside0.mk (show w.grownBy w15 (some g) from by rw [hw]; exact grown_far (g := g) HR14.out LB3.out 4 _)
      have HX15 := Aside0.mk (show w15.heap[b3]? = some (.cells #[.int .i64 4, .string ta.f1, .string tb.f1, .string ⟨#[]⟩, .string tx.f1, .string ⟨#[]⟩, .slice none 0 0, .int .i64 p1] 62 (0, 0)) from by rw [hw]; exact (blk_setS HX14.out _).trans (by rfl))
      have HY15 := Aside0.mk (show w15.heap[b2]? = some (.cells #[.int .i64 0, .string ⟨#[]⟩, .string ⟨#[]⟩, .string ⟨#[]⟩, .string ⟨#[]⟩, .string ⟨#[]⟩, .slice none 0 0, .int .i64 0] 62 (0, 0)) from by rw [hw]; exact blk_setN NB23.out HY14.out _)
      have HC15 := HC14
      have HW15 := Aside0.mk hw
      clear hw
      have HCL := Aside0.mk (uword_calls HG.out P.sInto HU15.out)
      go_wp2_with fail
      rw [← HW15.out]
      refine HCL.out.mono ?_
      rintro e w16 ⟨⟨tq3, hfr, rfl⟩, hu, hg⟩
      clear HCL
      have HC16 := Aside0.mk ((HC15.out).word hfr)
      have HU16 := Aside0.mk hu
      have HR16 := Aside0.mk (HR15.out.trans hg)
      have HX16 := Aside0.mk (keepB hg HX15.out NB3.out)
      have HY16 := Aside0.mk (keepB hg HY15.out NB2.out)
      clear hu hg hfr
      have HCL := Aside0.mk (uname_calls HG.out HU16.out)
      go_wp2_with fail
      refine HCL.out.mono ?_
      rintro e w17 ⟨⟨tc, hfr, rfl⟩, hu, hg⟩
      clear HCL
      have HC17 := Aside0.mk ((HC16.out).name hfr)
      have HU17 := Aside0.mk hu
      have HR17 := Aside0.mk (HR16.out.trans hg)
      have HX17 := Aside0.mk (keepB hg HX16.out NB3.out)
      have HY17 := Aside0.mk (keepB hg HY16.out NB2.out)
      clear hu hg hfr
      have c3_17 := (blk_cell HX17.out 3).trans rfl
      have f3_17 := blk_frozen HX17.out 3
      obtain ⟨w18, hw⟩ : ∃ w18, w18 = w17.setCell ⟨b3, 3, none⟩ (.string tc.f1) := ⟨_, rfl⟩
      have HU18 := Aside0.mk (show Up w18 A c L g _ from by rw [hw]; exact HU17.out.far GB3.out 3 _)
      have HR18 := Aside0.mk (show w.grownBy w18 (some g) from by rw [hw]; exact grown_far (g := g) HR17.out LB3.out 3 _)
      have HX18 := Aside0.mk (show w18.heap[b3]? = some (.cells #[.int .i64 4, .string ta.f1, .string tb.f1, .string tc.f1, .string tx.f1, .string ⟨#[]⟩, .slice none 0 0, .int .i64 p1] 62 (0, 0)) from by rw [hw]; exact (blk_setS HX17.out _).trans (by rfl))
      have HY18 := Aside0.mk (show w18.heap[b2]? = some (.cells #[.int .i64 0, .string ⟨#[]⟩, .string ⟨#[]⟩, .string ⟨#[]⟩, .string ⟨#[]⟩, .string ⟨#[]⟩, .slice none 0 0, .int .i64 0] 62 (0, 0)) from by rw [hw]; exact blk_setN NB23.out HY17.out _)
      have HC18 := HC17
      have HW18 := Aside0.mk hw
      clear hw
      have HCL := Aside0.mk (umark_calls HG.out 59 HU18.out)
      go_wp2_with fail
      rw [← HW18.out]
      refine HCL.out.mono ?_
      rintro e w19 ⟨⟨tz, hfr, rfl⟩, hu, hg⟩
      clear HCL
      have HC19 := Aside0.mk ((HC18.out).mark hfr)
      have HU19 := Aside0.mk hu
      have HR19 := Aside0.mk (HR18.out.trans hg)
      have HX19 := Aside0.mk (keepB hg HX18.out NB3.out)
      have HY19 := Aside0.mk (keepB hg HY18.out NB2.out)
      have hgz := hg
      clear hu hg hfr
      have c0_19 := (blk_cell HX19.out 0).trans rfl
      have f0_19 := blk_frozen HX19.out 0
      have c1_19 := (blk_cell HX19.out 1).trans rfl
      have f1_19 := blk_frozen HX19.out 1
      have c2_19 := (blk_cell HX19.out 2).trans rfl
      have f2_19 := blk_frozen HX19.out 2
      have c3_19 := (blk_cell HX19.out 3).trans rfl
      have f3_19 := blk_frozen HX19.out 3
      have c4_19 := (blk_cell HX19.out 4).trans rfl
      have f4_19 := blk_frozen HX19.out 4
      have c5_19 := (blk_cell HX19.out 5).trans rfl
      have f5_19 := blk_frozen HX19.out 5
      have c6_19 := (blk_cell HX19.out 6).trans rfl
      have f6_19 := blk_frozen HX19.out 6
      have c7_19 := (blk_cell HX19.out 7).trans rfl
      have f7_19 := blk_frozen HX19.out 7
      have y0 := (blk_cell HY19.out 0).trans rfl
      have g0 := blk_frozen HY19.out 0
      have y1 := (blk_cell HY19.out 1).trans rfl
      have g1 := blk_frozen HY19.out 1
      have y2 := (blk_cell HY19.out 2).trans rfl
      have g2 := blk_frozen HY19.out 2
      have y3 := (blk_cell HY19.out 3).trans rfl
      have g3 := blk_frozen HY19.out 3
      have y4 := (blk_cell HY19.out 4).trans rfl
      have g4 := blk_frozen HY19.out 4
      have y5 := (blk_cell HY19.out 5).trans rfl
      have g5 := blk_frozen HY19.out 5
      have y6 := (blk_cell HY19.out 6).trans rfl
      have g6 := blk_frozen HY19.out 6
      have y7 := (blk_cell HY19.out 7).trans rfl
      have g7 := blk_frozen HY19.out 7
      go_wp2
      refine bodyPost_ret (results_c rfl _ _ b2 62 #[.int .i64 4, .string ta.f1, .string tb.f1, .string tc.f1, .string tx.f1, .string ⟨#[]⟩, .slice none 0 0, .int .i64 p1] (0, 0) _ rfl (set8 HY19.out) Try.underlying62 rfl (by kernel_rfl)) rfl ?_
      refine ⟨⟨4, ta.f1, tb.f1, tc.f1, tx.f1, ⟨#[]⟩, ⟨none, 0, 0⟩, p1⟩, [], rfl, Kd.R_nil _ _ _ _ _, (fun k hk => by simp [Sl.v, Value.ownBlock] at hk), ?_, grown8 HR19.out LB2.out, fun ts d r h1 h2 => ?_⟩
      · rw [← HFE.out _ (Co.end_' HC19.out)]
        exact up8 HU19.out GB2.out
      · have := Co.val HC19.out HF0.out ts d r h1 h2
        subst this
        exact ⟨rfl, rfl, rfl, rfl, rfl, rfl, rfl, rfl⟩
    · have HKK : Aside0 (∀ ts, s = .ok ts → P.stK ts = 5) := ⟨hkk⟩
      have HC5 := Aside0.mk (HF0.out.to (fun r hr => front_eq (k := 5) (p := p1) (HKK.out r hr) (by rw [← HT1.out r hr])))
      clear hkk
      go_wp2_with fail
      refine HIX.out.mono ?_
      rintro e w6 ⟨rfl, hw6⟩
      rw [hw6]
      clear HIX hw6
      have HU6' := HU5
      obtain ⟨w6, hw⟩ : ∃ w6, w6 = w5.setCell ⟨b3, 0, none⟩ (.int .i64 5) := ⟨_, rfl⟩
      have HU6 := Aside0.mk (show Up w6 A c L g _ from by rw [hw]; exact HU5.out.far GB3.out 0 _)
      have HR6 := Aside0.mk (show w.grownBy w6 (some g) from by rw [hw]; exact grown_far (g := g) HR5.out LB3.out 0 _)
      have HX6 := Aside0.mk (show w6.heap[b3]? = some (.cells #[.int .i64 5, .string ⟨#[]⟩, .string ⟨#[]⟩, .string ⟨#[]⟩, .string ⟨#[]⟩, .string ⟨#[]⟩, .slice none 0 0, .int .i64 p1] 62 (0, 0)) from by rw [hw]; exact (blk_setS HX5.out _).trans (by rfl))
      have HY6 := Aside0.mk (show w6.heap[b2]? = some (.cells #[.int .i64 0, .string ⟨#[]⟩, .string ⟨#[]⟩, .string ⟨#[]⟩, .string ⟨#[]⟩, .string ⟨#[]⟩, .slice none 0 0, .int .i64 0] 62 (0, 0)) from by rw [hw]; exact blk_setN NB23.out HY5.out _)
      have HC6 := HC5
      have HW6 := Aside0.mk hw
      clear hw
      have c0_6 := (blk_cell HX6.out 0).trans rfl
      have f0_6 := blk_frozen HX6.out 0
      have HCL := Aside0.mk (utake_calls HG.out true (fun ts => decide (0 < P.stK ts)) HU6.out (fun ts hs => ⟨by rw [HKK.out ts hs]; rfl, fun h => P.stK_kind (by rw [HKK.out ts hs]; exact (by decide))⟩))
      go_wp2_with fail
      rw [← HW6.out]
      refine HCL.out.mono ?_
      rintro e w7 ⟨⟨tk0, hfr, rfl⟩, hu, hg⟩
      clear HCL
      have HC7 := Aside0.mk (Co.step HC6.out hfr)
      have HU7 := Aside0.mk hu
      have HR7 := Aside0.mk (HR6.out.trans hg)
      have HX7 := Aside0.mk (keepB hg HX6.out NB3.out)
      have HY7 := Aside0.mk (keepB hg HY6.out NB2.out)
      clear hu hg hfr
      have HCL := Aside0.mk (uname_calls HG.out HU7.out)
      go_wp2_with fail
      refine HCL.out.mono ?_
      rintro e w8 ⟨⟨ta, hfr, rfl⟩, hu, hg⟩
      clear HCL
      have HC8 := Aside0.mk ((HC7.out).name hfr)
      have HU8 := Aside0.mk hu
      have HR8 := Aside0.mk (HR7.out.trans hg)
      have HX8 := Aside0.mk (keepB hg HX7.out NB3.out)
      have HY8 := Aside0.mk (keepB hg HY7.out NB2.out)
      clear hu hg hfr
      have c0_8 := (blk_cell HX8.out 0).trans rfl
      have f0_8 := blk_frozen HX8.out 0
      have c1_8 := (blk_cell HX8.out 1).trans rfl
      have f1_8 := blk_frozen HX8.out 1
      obtain ⟨w9, hw⟩ : ∃ w9, w9 = w8.setCell ⟨b3, 1, none⟩ (.string ta.f1) := ⟨_, rfl⟩
      have HU9 := Aside0.mk (show Up w9 A c L g _ from by rw [hw]; exact HU8.out.far GB3.out 1 _)
      have HR9 := Aside0.mk (show w.grownBy w9 (some g) from by rw [hw]; exact grown_far (g := g) HR8.out LB3.out 1 _)
      have HX9 := Aside0.mk (show w9.heap[b3]? = some (.cells #[.int .i64 5, .string ta.f1, .string ⟨#[]⟩, .string ⟨#[]⟩, .string ⟨#[]⟩, .string ⟨#[]⟩, .slice none 0 0, .int .i64 p1] 62 (0, 0)) from by rw [hw]; exact (blk_setS HX8.out _).trans (by rfl))
      have HY9 := Aside0.mk (show w9.heap[b2]? = some (.cells #[.int .i64 0, .string ⟨#[]⟩, .string ⟨#[]⟩, .string ⟨#[]⟩, .string ⟨#[]⟩, .string ⟨#[]⟩, .slice none 0 0, .int .i64 0] 62 (0, 0)) from by rw [hw]; exact blk_setN NB23.out HY8.out _)
      have HC9 := HC8
      have HW9 := Aside0.mk hw
      clear hw
      have HC9 := Aside0.mk (HC9.out.to (fun r _ => tail5 _ _ r))
      have HCL := Aside0.mk (uword_calls HG.out P.sTo HU9.out)
      go_wp2_with fail
      rw [← HW9.out]
      refine HCL.out.mono ?_
      rintro e w10 ⟨⟨tq1, hfr, rfl⟩, hu, hg⟩
      clear HCL
      have HC10 := Aside0.mk ((HC9.out).word hfr)
      have HU10 := Aside0.mk hu
      have HR10 := Aside0.mk (HR9.out.trans hg)
      have HX10 := Aside0.mk (keepB hg HX9.out NB3.out)
      have HY10 := Aside0.mk (keepB hg HY9.out NB2.out)
      clear hu hg hfr
      have HCL := Aside0.mk (uname_calls HG.out HU10.out)
      go_wp2_with fail
      refine HCL.out.mono ?_
      rintro e w11 ⟨⟨tb, hfr, rfl⟩, hu, hg⟩
      clear HCL
      have HC11 := Aside0.mk ((HC10.out).name hfr)
      have HU11 := Aside0.mk hu
      have HR11 := Aside0.mk (HR10.out.trans hg)
      have HX11 := Aside0.mk (keepB hg HX10.out NB3.out)
      have HY11 := Aside0.mk (keepB hg HY10.out NB2.out)
      clear hu hg hfr
      have c5_11 := (blk_cell HX11.out 5).trans rfl
      have f5_11 := blk_frozen HX11.out 5
      obtain ⟨w12, hw⟩ : ∃ w12, w12 = w11.setCell ⟨b3, 5, none⟩ (.string tb.f1) := ⟨_, rfl⟩
      have HU12 := Aside0.mk (show Up w12 A c L g _ from by rw [hw]; exact HU11.out.far GB3.out 5 _)
      have HR12 := Aside0.mk (show w.grownBy w12 (some g) from by rw [hw]; exact grown_far (g := g) HR11.out LB3.out 5 _)
      have HX12 := Aside0.mk (show w12.heap[b3]? = some (.cells #[.int .i64 5, .string ta.f1, .string ⟨#[]⟩, .string ⟨#[]⟩, .string ⟨#[]⟩, .string tb.f1, .slice none 0 0, .int .i64 p1] 62 (0, 0)) from by rw [hw]; exact (blk_setS HX11.out _).trans (by rfl))
      have HY12 := Aside0.mk (show w12.heap[b2]? = some (.cells #[.int .i64 0, .string ⟨#[]⟩, .string ⟨#[]⟩, .string ⟨#[]⟩, .string ⟨#[]⟩, .string ⟨#[]⟩, .slice none 0 0, .int .i64 0] 62 (0, 0)) from by rw [hw]; exact blk_setN NB23.out HY11.out _)
      have HC12 := HC11
      have HW12 := Aside0.mk hw
      clear hw
      have HCL := Aside0.mk (umark_calls HG.out 59 HU12.out)
      go_wp2_with fail
      rw [← HW12.out]
      refine HCL.out.mono ?_
      rintro e w13 ⟨⟨tz, hfr, rfl⟩, hu, hg⟩
      clear HCL
      have HC13 := Aside0.mk ((HC12.out).mark hfr)
      have HU13 := Aside0.mk hu
      have HR13 := Aside0.mk (HR12.out.trans hg)
      have HX13 := Aside0.mk (keepB hg HX12.out NB3.out)
      have HY13 := Aside0.mk (keepB hg HY12.out NB2.out)
      have hgz := hg
      clear hu hg hfr
      have c0_13 := (blk_cell HX13.out 0).trans rfl
      have f0_13 := blk_frozen HX13.out 0
      have c1_13 := (blk_cell HX13.out 1).trans rfl
      have f1_13 := blk_frozen HX13.out 1
      have c2_13 := (blk_cell HX13.out 2).trans rfl
      have f2_13 := blk_frozen HX13.out 2
      have c3_13 := (blk_cell HX13.out 3).trans rfl
      have f3_13 := blk_frozen HX13.out 3
      have c4_13 := (blk_cell HX13.out 4).trans rfl
      have f4_13 := blk_frozen HX13.out 4
      have c5_13 := (blk_cell HX13.out 5).trans rfl
      have f5_13 := blk_frozen HX13.out 5
      have c6_13 := (blk_cell HX13.out 6).trans rfl
      have f6_13 := blk_frozen HX13.out 6
      have c7_13 := (blk_cell HX13.out 7).trans rfl
      have f7_13 := blk_frozen HX13.out 7
      have y0 := (blk_cell HY13.out 0).trans rfl
      have g0 := blk_frozen HY13.out 0
      have y1 := (blk_cell HY13.out 1).trans rfl
      have g1 := blk_frozen HY13.out 1
      have y2 := (blk_cell HY13.out 2).trans rfl
      have g2 := blk_frozen HY13.out 2
      have y3 := (blk_cell HY13.out 3).trans rfl
      have g3 := blk_frozen HY13.out 3
      have y4 := (blk_cell HY13.out 4).trans rfl
      have g4 := blk_frozen HY13.out 4
      have y5 := (blk_cell HY13.out 5).trans rfl
      have g5 := blk_frozen HY13.out 5
      have y6 := (blk_cell HY13.out 6).trans rfl
      have g6 := blk_frozen HY13.out 6
      have y7 := (blk_cell HY13.out 7).trans rfl
      have g7 := blk_frozen HY13.out 7
      go_wp2
      refine bodyPost_ret (results_c rfl _ _ b2 62 #[.int .i64 5, .string ta.f1, .string ⟨#[]⟩, .string ⟨#[]⟩, .string ⟨#[]⟩, .string tb.f1, .slice none 0 0, .int .i64 p1] (0, 0) _ rfl (set8 HY13.out) Try.underlying62 rfl (by kernel_rfl)) rfl ?_
      refine ⟨⟨5, ta.f1, ⟨#[]⟩, ⟨#[]⟩, ⟨#[]⟩, tb.f1, ⟨none, 0, 0⟩, p1⟩, [], rfl, Kd.R_nil _ _ _ _ _, (fun k hk => by simp [Sl.v, Value.ownBlock] at hk), ?_, grown8 HR13.out LB2.out, fun ts d r h1 h2 => ?_⟩
      · rw [← HFE.out _ (Co.end_' HC13.out)]
        exact up8 HU13.out GB2.out
      · have := Co.val HC13.out HF0.out ts d r h1 h2
        subst this
        exact ⟨rfl, rfl, rfl, rfl, rfl, rfl, rfl, rfl⟩
    · have HKK : Aside0 (∀ ts, s = .ok ts → P.stK ts = 6) := ⟨hkk⟩
      have HC5 := Aside0.mk (HF0.out.to (fun r hr => front_eq (k := 6) (p := p1) (HKK.out r hr) (by rw [← HT1.out r hr])))
      clear hkk
      go_wp2_with fail
      refine HIX.out.mono ?_
      rintro e w6 ⟨rfl, hw6⟩
      rw [hw6]
      clear HIX hw6
      have HU6' := HU5
      obtain ⟨w6, hw⟩ : ∃ w6, w6 = w5.setCell ⟨b3, 0, none⟩ (.int .i64 6) := ⟨_, rfl⟩
      have HU6 := Aside0.mk (show Up w6 A c L g _ from by rw [hw]; exact HU5.out.far GB3.out 0 _)
      have HR6 := Aside0.mk (show w.grownBy w6 (some g) from by rw [hw]; exact grown_far (g := g) HR5.out LB3.out 0 _)
      have HX6 := Aside0.mk (show w6.heap[b3]? = some (.cells #[.int .i64 6, .string ⟨#[]⟩, .string ⟨#[]⟩, .string ⟨#[]⟩, .string ⟨#[]⟩, .string ⟨#[]⟩, .slice none 0 0, .int .i64 p1] 62 (0, 0)) from by rw [hw]; exact (blk_setS HX5.out _).trans (by rfl))
      have HY6 := Aside0.mk (show w6.heap[b2]? = some (.cells #[.int .i64 0, .string ⟨#[]⟩, .string ⟨#[]⟩, .string ⟨#[]⟩, .string ⟨#[]⟩, .string ⟨#[]⟩, .slice none 0 0, .int .i64 0] 62 (0, 0)) from by rw [hw]; exact blk_setN NB23.out HY5.out _)
      have HC6 := HC5
      have HW6 := Aside0.mk hw
      clear hw
      have c0_6 := (blk_cell HX6.out 0).trans rfl
      have f0_6 := blk_frozen HX6.out 0
      have HCL := Aside0.mk (utake_calls HG.out true (fun ts => decide (0 < P.stK ts)) HU6.out (fun ts hs => ⟨by rw [HKK.out ts hs]; rfl, fun h => P.stK_kind (by rw [HKK.out ts hs]; exact (by decide))⟩))
      go_wp2_with fail
      rw [← HW6.out]
      refine HCL.out.mono ?_
      rintro e w7 ⟨⟨tk0, hfr, rfl⟩, hu, hg⟩
      clear HCL
      have HC7 := Aside0.mk (Co.step HC6.out hfr)
      have HU7 := Aside0.mk hu
      have HR7 := Aside0.mk (HR6.out.trans hg)
      have HX7 := Aside0.mk (keepB hg HX6.out NB3.out)
      have HY7 := Aside0.mk (keepB hg HY6.out NB2.out)
      clear hu hg hfr
      have HCL := Aside0.mk (uname_calls HG.out HU7.out)
      go_wp2_with fail
      refine HCL.out.mono ?_
      rintro e w8 ⟨⟨ta, hfr, rfl⟩, hu, hg⟩
      clear HCL
      have HC8 := Aside0.mk ((HC7.out).name hfr)
      have HU8 := Aside0.mk hu
      have HR8 := Aside0.mk (HR7.out.trans hg)
      have HX8 := Aside0.mk (keepB hg HX7.out NB3.out)
      have HY8 := Aside0.mk (keepB hg HY7.out NB2.out)
      clear hu hg hfr
      have c0_8 := (blk_cell HX8.out 0).trans rfl
      have f0_8 := blk_frozen HX8.out 0
      have c1_8 := (blk_cell HX8.out 1).trans rfl
      have f1_8 := blk_frozen HX8.out 1
      obtain ⟨w9, hw⟩ : ∃ w9, w9 = w8.setCell ⟨b3, 1, none⟩ (.string ta.f1) := ⟨_, rfl⟩
      have HU9 := Aside0.mk (show Up w9 A c L g _ from by rw [hw]; exact HU8.out.far GB3.out 1 _)
      have HR9 := Aside0.mk (show w.grownBy w9 (some g) from by rw [hw]; exact grown_far (g := g) HR8.out LB3.out 1 _)
      have HX9 := Aside0.mk (show w9.heap[b3]? = some (.cells #[.int .i64 6, .string ta.f1, .string ⟨#[]⟩, .string ⟨#[]⟩, .string ⟨#[]⟩, .string ⟨#[]⟩, .slice none 0 0, .int .i64 p1] 62 (0, 0)) from by rw [hw]; exact (blk_setS HX8.out _).trans (by rfl))
      have HY9 := Aside0.mk (show w9.heap[b2]? = some (.cells #[.int .i64 0, .string ⟨#[]⟩, .string ⟨#[]⟩, .string ⟨#[]⟩, .string ⟨#[]⟩, .string ⟨#[]⟩, .slice none 0 0, .int .i64 0] 62 (0, 0)) from by rw [hw]; exact blk_setN NB23.out HY8.out _)
      have HC9 := HC8
      have HW9 := Aside0.mk hw
      clear hw
      have HC9 := Aside0.mk (HC9.out.to (fun r _ => tail6 _ _ r))
      have HCL := Aside0.mk (umark_calls HG.out 59 HU9.out)
      go_wp2_with fail
      rw [← HW9.out]
      refine HCL.out.mono ?_
      rintro e w10 ⟨⟨tz, hfr, rfl⟩, hu, hg⟩
      clear HCL
      have HC10 := Aside0.mk ((HC9.out).mark hfr)
      have HU10 := Aside0.mk hu
      have HR10 := Aside0.mk (HR9.out.trans hg)
      have HX10 := Aside0.mk (keepB hg HX9.out NB3.out)
      have HY10 := Aside0.mk (keepB hg HY9.out NB2.out)
      have hgz := hg
      clear hu hg hfr
      have c0_10 := (blk_cell HX10.out 0).trans rfl
      have f0_10 := blk_frozen HX10.out 0
      have c1_10 := (blk_cell HX10.out 1).trans rfl
      have f1_10 := blk_frozen HX10.out 1
      have c2_10 := (blk_cell HX10.out 2).trans rfl
      have f2_10 := blk_frozen HX10.out 2
      have c3_10 := (blk_cell HX10.out 3).trans rfl
      have f3_10 := blk_frozen HX10.out 3
      have c4_10 := (blk_cell HX10.out 4).trans rfl
      have f4_10 := blk_frozen HX10.out 4
      have c5_10 := (blk_cell HX10.out 5).trans rfl
      have f5_10 := blk_frozen HX10.out 5
      have c6_10 := (blk_cell HX10.out 6).trans rfl
      have f6_10 := blk_frozen HX10.out 6
      have c7_10 := (blk_cell HX10.out 7).trans rfl
      have f7_10 := blk_frozen HX10.out 7
      have y0 := (blk_cell HY10.out 0).trans rfl
      have g0 := blk_frozen HY10.out 0
      have y1 := (blk_cell HY10.out 1).trans rfl
      have g1 := blk_frozen HY10.out 1
      have y2 := (blk_cell HY10.out 2).trans rfl
      have g2 := blk_frozen HY10.out 2
      have y3 := (blk_cell HY10.out 3).trans rfl
      have g3 := blk_frozen HY10.out 3
      have y4 := (blk_cell HY10.out 4).trans rfl
      have g4 := blk_frozen HY10.out 4
      have y5 := (blk_cell HY10.out 5).trans rfl
      have g5 := blk_frozen HY10.out 5
      have y6 := (blk_cell HY10.out 6).trans rfl
      have g6 := blk_frozen HY10.out 6
      have y7 := (blk_cell HY10.out 7).trans rfl
      have g7 := blk_frozen HY10.out 7
      go_wp2
      refine bodyPost_ret (results_c rfl _ _ b2 62 #[.int .i64 6, .string ta.f1, .string ⟨#[]⟩, .string ⟨#[]⟩, .string ⟨#[]⟩, .string ⟨#[]⟩, .slice none 0 0, .int .i64 p1] (0, 0) _ rfl (set8 HY10.out) Try.underlying62 rfl (by kernel_rfl)) rfl ?_
      refine ⟨⟨6, ta.f1, ⟨#[]⟩, ⟨#[]⟩, ⟨#[]⟩, ⟨#[]⟩, ⟨none, 0, 0⟩, p1⟩, [], rfl, Kd.R_nil _ _ _ _ _, (fun k hk => by simp [Sl.v, Value.ownBlock] at hk), ?_, grown8 HR10.out LB2.out, fun ts d r h1 h2 => ?_⟩
      · rw [← HFE.out _ (Co.end_' HC10.out)]
        exact up8 HU10.out GB2.out
      · have := Co.val HC10.out HF0.out ts d r h1 h2
        subst this
        exact ⟨rfl, rfl, rfl, rfl, rfl, rfl, rfl, rfl⟩
  · have e1 : (k2 == 1) = false := beq_eq_false_iff_ne.2 hk2
    have HKK : Aside0 (∀ ts, s = .ok ts → P.stK ts = 0) := ⟨fun ts hs => by
      unfold P.stK
      rw [← HT2.out ts hs, if_neg hk2]⟩
    have HC4 := Aside0.mk (HF0.out.to (fun r hr => front_eq (k := 0) (p := p1) (HKK.out r hr) (by rw [← HT1.out r hr])))
    clear hk2
    have c0_4 := (blk_cell HX4.out 0).trans rfl
    have f0_4 := blk_frozen HX4.out 0
    have HCL := Aside0.mk (utake_calls HG.out false (fun ts => decide (0 < P.stK ts)) HU4.out (fun ts hs => ⟨by rw [HKK.out ts hs]; rfl, fun h => P.stK_kind (by rw [HKK.out ts hs]; exact absurd h (by decide))⟩))
    go_wp2_with fail
    refine HCL.out.mono ?_
    rintro e w5 ⟨⟨tk0, hfr, rfl⟩, hu, hg⟩
    clear HCL
    have HC5 := Aside0.mk (Co.step HC4.out hfr)
    have HU5 := Aside0.mk hu
    have HR5 := Aside0.mk (HR4.out.trans hg)
    have HX5 := Aside0.mk (keepB hg HX4.out NB3.out)
    have HY5 := Aside0.mk (keepB hg HY4.out NB2.out)
    clear hu hg hfr
    have HCL := Aside0.mk (uname_calls HG.out HU5.out)
    go_wp2_with fail
    refine HCL.out.mono ?_
    rintro e w6 ⟨⟨ta, hfr, rfl⟩, hu, hg⟩
    clear HCL
    have HC6 := Aside0.mk ((HC5.out).name hfr)
    have HU6 := Aside0.mk hu
    have HR6 := Aside0.mk (HR5.out.trans hg)
    have HX6 := Aside0.mk (keepB hg HX5.out NB3.out)
    have HY6 := Aside0.mk (keepB hg HY5.out NB2.out)
    clear hu hg hfr
    have c0_6 := (blk_cell HX6.out 0).trans rfl
    have f0_6 := blk_frozen HX6.out 0
    have c1_6 := (blk_cell HX6.out 1).trans rfl
    have f1_6 := blk_frozen HX6.out 1
    obtain ⟨w7, hw⟩ : ∃ w7, w7 = w6.setCell ⟨b3, 1, none⟩ (.string ta.f1) := ⟨_, rfl⟩
    have HU7 := Aside0.mk (show Up w7 A c L g _ from by rw [hw]; exact HU6.out.far GB3.out 1 _)
    have HR7 := Aside0.mk (show w.grownBy w7 (some g) from by rw [hw]; exact grown_far (g := g) HR6.out LB3.out 1 _)
    have HX7 := Aside0.mk (show w7.heap[b3]? = some (.cells #[.int .i64 0, .string ta.f1, .string ⟨#[]⟩, .string ⟨#[]⟩, .string ⟨#[]⟩, .string ⟨#[]⟩, .slice none 0 0, .int .i64 p1] 62 (0, 0)) from by rw [hw]; exact (blk_setS HX6.out _).trans (by rfl))
    have HY7 := Aside0.mk (show w7.heap[b2]? = some (.cells #[.int .i64 0, .string ⟨#[]⟩, .string ⟨#[]⟩, .string ⟨#[]⟩, .string ⟨#[]⟩, .string ⟨#[]⟩, .slice none 0 0, .int .i64 0] 62 (0, 0)) from by rw [hw]; exact blk_setN NB23.out HY6.out _)
    have HC7 := HC6
    have HW7 := Aside0.mk hw
    clear hw
    have HC7 := Aside0.mk (HC7.out.to (fun r _ => tail0 _ _ r))
    have HCL := Aside0.mk (umark_calls HG.out 59 HU7.out)
    go_wp2_with fail
    rw [← HW7.out]
    refine HCL.out.mono ?_
    rintro e w8 ⟨⟨tz, hfr, rfl⟩, hu, hg⟩
    clear HCL
    have HC8 := Aside0.mk ((HC7.out).mark hfr)
    have HU8 := Aside0.mk hu
    have HR8 := Aside0.mk (HR7.out.trans hg)
    have HX8 := Aside0.mk (keepB hg HX7.out NB3.out)
    have HY8 := Aside0.mk (keepB hg HY7.out NB2.out)
    have hgz := hg
    clear hu hg hfr
    have c0_8 := (blk_cell HX8.out 0).trans rfl
    have f0_8 := blk_frozen HX8.out 0
    have c1_8 := (blk_cell HX8.out 1).trans rfl
    have f1_8 := blk_frozen HX8.out 1
    have c2_8 := (blk_cell HX8.out 2).trans rfl
    have f2_8 := blk_frozen HX8.out 2
    have c3_8 := (blk_cell HX8.out 3).trans rfl
    have f3_8 := blk_frozen HX8.out 3
    have c4_8 := (blk_cell HX8.out 4).trans rfl
    have f4_8 := blk_frozen HX8.out 4
    have c5_8 := (blk_cell HX8.out 5).trans rfl
    have f5_8 := blk_frozen HX8.out 5
    have c6_8 := (blk_cell HX8.out 6).trans rfl
    have f6_8 := blk_frozen HX8.out 6
    have c7_8 := (blk_cell HX8.out 7).trans rfl
    have f7_8 := blk_frozen HX8.out 7
    have y0 := (blk_cell HY8.out 0).trans rfl
    have g0 := blk_frozen HY8.out 0
    have y1 := (blk_cell HY8.out 1).trans rfl
    have g1 := blk_frozen HY8.out 1
    have y2 := (blk_cell HY8.out 2).trans rfl
    have g2 := blk_frozen HY8.out 2
    have y3 := (blk_cell HY8.out 3).trans rfl
    have g3 := blk_frozen HY8.out 3
    have y4 := (blk_cell HY8.out 4).trans rfl
    have g4 := blk_frozen HY8.out 4
    have y5 := (blk_cell HY8.out 5).trans rfl
    have g5 := blk_frozen HY8.out 5
    have y6 := (blk_cell HY8.out 6).trans rfl
    have g6 := blk_frozen HY8.out 6
    have y7 := (blk_cell HY8.out 7).trans rfl
    have g7 := blk_frozen HY8.out 7
    go_wp2
    refine bodyPost_ret (results_c rfl _ _ b2 62 #[.int .i64 0, .string ta.f1, .string ⟨#[]⟩, .string ⟨#[]⟩, .string ⟨#[]⟩, .string ⟨#[]⟩, .slice none 0 0, .int .i64 p1] (0, 0) _ rfl (set8 HY8.out) Try.underlying62 rfl (by kernel_rfl)) rfl ?_
    refine ⟨⟨0, ta.f1, ⟨#[]⟩, ⟨#[]⟩, ⟨#[]⟩, ⟨#[]⟩, ⟨none, 0, 0⟩, p1⟩, [], rfl, Kd.R_nil _ _ _ _ _, (fun k hk => by simp [Sl.v, Value.ownBlock] at hk), ?_, grown8 HR8.out LB2.out, fun ts d r h1 h2 => ?_⟩
    · rw [← HFE.out _ (Co.end_' HC8.out)]
      exact up8 HU8.out GB2.out
    · have := Co.val HC8.out HF0.out ts d r h1 h2
      subst this
      exact ⟨rfl, rfl, rfl, rfl, rfl, rfl, rfl, rfl⟩
end Go.Proofs.Ytbdcndkafaajpaa.A
end
section
set_option linter.unusedVariables false
set_option linter.unusedSimpArgs false
namespace Go.Proofs.Ytbdcndkafaajpaa.A
open Go.RowKit Go.Proofs.Ytbdcndkafaajpaa.X Go.Proofs.YtbdcndkafaajpaaW.PrintWords Go.Proofs.YtbdcndkafaajpaaW.PrintLast Go.Proofs.YtbdcndkafaajpaaW.PrintMore
open Go.Proofs.Ytbdcndkafaajpaa.P (Nd EO Res hd isT isM takeM mxl comb mk1 StD VeD EvD)
theorem Up.flt {w : World} {A : Option Addr} {c : Nat} {L : List Tk} {g : Nat} {s : US} (h : Up w A c L g s) : ∃ e : Int, w.cell? ⟨g, 2, none⟩ = some (.int .i64 e) ∧ (∀ ts, s = .ok ts → e = 0) ∧ ∀ e' p, s = .bad e' p → e ≠ 0 := by
  obtain ⟨q, lv, v5, v6, hq, hp⟩ := h
  refine ⟨_, hp.c2, ?_, ?_⟩
  · rintro ts rfl; exact hq.1
  · rintro e' p rfl; rw [hq.1]; exact hq.2.2
theorem infoS : (Try.prog.info? 62).map (fun i => (i.zero, i.size, i.bytes)) = some (some (.agg #[.int .i64 0, .string ⟨#[]⟩, .string ⟨#[]⟩, .string ⟨#[]⟩, .string ⟨#[]⟩, .string ⟨#[]⟩, .slice none 0 0, .int .i64 0]), 8, 120) := by kernel_rfl
theorem infoV : (Try.prog.info? 60).map (fun i => (i.zero, i.size, i.bytes)) = some (some (.agg #[.int .u64 0, .slice none 0 0, .int .i64 0]), 3, 40) := by kernel_rfl
theorem infoE : (Try.prog.info? 57).map (fun i => (i.zero, i.size, i.bytes)) = some (some (.agg #[.string ⟨#[]⟩, .slice none 0 0, .int .i64 0]), 3, 48) := by kernel_rfl
structure VeL (F : Res VeD) (num p : Int) (w : World) (A : Option Addr) (c : Nat) (L : List Tk) (g b2 b3 B N : Nat) (k : Nat) (wr : World) (S : US) (v : Sl) (sv : List StV) (l : List Row) (ds : List StD) : Prop where
  up : Up wr A c L g S
  gr : w.grownBy wr (some g)
  bx : wr.heap[b3]? = some (.cells #[.int .u64 num, .slice v.A v.n v.c, .int .i64 p] 60 (0, 0))
  by_ : wr.heap[b2]? = some (.cells #[.int .u64 0, .slice none 0 0, .int .i64 0] 60 (0, 0))
  rows : Rows wr B (Row.s v sv :: l)
  bl : B ≤ wr.heap.size
  nn : sv.length + k ≤ N
  tr : ∀ r, S = .ok r → All2 (StT l) ds sv
  co : Co F (fun r => (P.stepsW k ds r).bind fun l r => (takeM 125 r).bind fun _ r => .ok ⟨num, l, p⟩ r) S
theorem set3 {W : World} {b : Nat} {a0 a1 a2 v0 v1 v2 : Value} {t : TypeId} (h : W.heap[b]? = some (.cells #[a0, a1, a2] t (0, 0))) : (((W.setCell ⟨b, 0, none⟩ v0).setCell ⟨b, 1, none⟩ v1).setCell ⟨b, 2, none⟩ v2).heap[b]? = some (.cells #[v0, v1, v2] t (0, 0)) :=
  blk_put (blk_put (blk_put h 0 v0 rfl) 1 v1 rfl) 2 v2 rfl
theorem up3 {W : World} {A : Option Addr} {c : Nat} {L : List Tk} {g b : Nat} {s : US} {v0 v1 v2 : Value} (h : Up W A c L g s) (hb : g < b) : Up (((W.setCell ⟨b, 0, none⟩ v0).setCell ⟨b, 1, none⟩ v1).setCell ⟨b, 2, none⟩ v2) A c L g s := ((h.far hb 0 v0).far hb 1 v1).far hb 2 v2
theorem grown3 {w W : World} {g b : Nat} {v0 v1 v2 : Value} (h : w.grownBy W (some g)) (hb : w.heap.size ≤ b) : w.grownBy (((W.setCell ⟨b, 0, none⟩ v0).setCell ⟨b, 1, none⟩ v1).setCell ⟨b, 2, none⟩ v2) (some g) := grown_far (g := g) (grown_far (g := g) (grown_far (g := g) h hb 0 v0) hb 1 v1) hb 2 v2
theorem Rows.far {W : World} {base b i : Nat} {l : List Row} {v : Value} (h : Rows W base l) (hb : b < base) : Rows (W.setCell ⟨b, i, none⟩ v) base l := h.keep (fun k hk _ => Below.heap_setCell W ⟨b, i, none⟩ v k (by show k ≠ b; omega))
theorem Rows.grown {W W' : World} {base g : Nat} {l : List Row} (h : Rows W base l) (hg : W.grownBy W' (some g)) (hb : g < base) : Rows W' base l := h.keep (fun k hk hlt => hg.block k hlt (fun e => by injection e with e; omega))
theorem len3 {s : US} {L : List Tk} {r : List Tk} (h : ∀ ts, s = .ok ts → ts.length ≤ L.length) (hr : (((s.step (P.wordW P.sVersion)).step fun ts => P.want ((hd ts).f0 == 2) ts).step (takeM 123)) = .ok r) : r.length ≤ L.length := by
  obtain ⟨t2, a2, h2, k2⟩ := step_okS hr
  obtain ⟨t1, a1, h1, k1⟩ := step_okS h2
  obtain ⟨t0, a0, h0, k0⟩ := step_okS h1
  have e0 := h _ h0
  have e1 := P.wordW_ok k0
  have e2 := P.numW_ok k1
  have e3 := (P.takeM_ok k2).2.2.2
  omega
theorem rows_new {w' w0 : World} {B : Nat} {q r : Row} {l : List Row} (h : Rows w' B (q :: l)) (hr : r.holds w' B) (hn : ∀ k, r.own = some k → w0.heap.size ≤ k) (h0 : Rows w0 B (q :: l)) : Rows w' B (q :: r :: l) := by
  refine Rows.swap ⟨fun x hx => ?_, ⟨fun k hk hm => ?_, h.lone⟩⟩
  · rcases List.mem_cons.1 hx with rfl | hx
    · exact hr
    · exact h.holds x hx
  · have := hn k hk
    have := (h0.in_ k hm).2
    omega
theorem up_grown {w w' : World} {A : Option Addr} {c : Nat} {L : List Tk} {g : Nat} {s : US} {row : Option Nat} (h : Up w A c L g s) (hg : w.grownBy w' row) (hne : ∀ k, row = some k → g < k) : Up w' A c L g s := by
  obtain ⟨q, lv, v5, v6, hq, hp⟩ := h
  exact ⟨q, lv, v5, v6, hq, ⟨blk_grown hp.blk hg (fun e => by have := hne g e.symm; omega), Kd.F_grown hp.row hg (fun k hk e => by have := hne k e.symm; omega), hp.lt, hp.cap⟩⟩
theorem grown_over {w W W' : World} {g : Nat} {row : Option Nat} (h : w.grownBy W (some g)) (hg : W.grownBy W' row) (hr : ∀ k, row = some k → w.heap.size ≤ k) : w.grownBy W' (some g) :=
  ⟨hg.os.trans h.os, hg.tape.trans h.tape, hg.output.trans h.output, Nat.le_trans h.size hg.size, fun k hk hne => (hg.block k (Nat.lt_of_lt_of_le hk h.size) (fun e => by have := hr k e.symm; omega)).trans (h.block k hk hne)⟩
theorem okOf {β : Type} {F : Res β} {k : List Tk → Res β} {s : US} {x : US} {d e : β} {ts r : List Tk} {f : List Tk → Res Tk} (h : Co F (fun r => .ok d r) (x.step f)) (hs : Co F k s) (h1 : s = .ok ts) (h2 : k ts = .ok e r) (hn : ∀ p, F ≠ .bad 0 p) : ∃ r1, x = .ok r1 := by
  subst h1
  have hF : F = .ok e r := Eq.trans hs h2
  cases x with
  | ok r1 => exact ⟨r1, rfl⟩
  | bad e' p => rw [show F = .bad e' p from h] at hF; cases hF
set_option maxHeartbeats 16000000 in
set_option maxRecDepth 100000 in
theorem version_calls (w : World) (A : Option Addr) (c : Nat) (L : List Tk) (g : Nat) (s : US) (hG : Good L) (hL : L.length ≤ 33554432) (h : Up w A c L g s) (hsz : ∀ ts, s = .ok ts → ts.length ≤ L.length) :
    Calls Try.prog 62 #[.pointer (some ⟨g, 0, none⟩)] w fun e w' => ∃ x l, e = .returned (.agg #[.int .u64 x.num, .slice x.steps.A x.steps.n x.steps.c, .int .i64 x.pl]) ∧ Rows w' w.heap.size l ∧ Up w' A c L g (s.step P.versionW) ∧ w.grownBy w' (some g) ∧ ∀ ts d r, s = .ok ts → P.versionW ts = .ok d r → VeT l d x := by
  obtain ⟨w0, hw0⟩ : ∃ w0, w0 = w.alloc (.cells #[.int .u64 0, .slice none 0 0, .int .i64 0] 60) := ⟨_, rfl⟩
  obtain ⟨b2, hb2⟩ : ∃ b2, b2 = w.heap.size := ⟨_, rfl⟩
  have hB0 : Below w.heap.size w w0 := by rw [hw0]; exact below_alloc (Below.refl _ _) _
  have HU0 := Aside0.mk (h.below hB0)
  have HR0 := Aside0.mk (grown_below hB0 (some g))
  have HY0 := Aside0.mk (show w0.heap[b2]? = some (.cells #[.int .u64 0, .slice none 0 0, .int .i64 0] 60 (0, 0)) from by rw [hw0, hb2]; exact blk_new _ _)
  have GB2 : Aside0 (g < b2) := ⟨by rw [hb2]; exact h.glt⟩
  have NB2 : Aside0 (b2 ≠ g) := ⟨by have := GB2.out; omega⟩
  have LB2 : Aside0 (w.heap.size ≤ b2) := ⟨by rw [hb2]; exact Nat.le_refl _⟩
  have HB2 := Aside0.mk hb2
  have HW0 := Aside0.mk hw0
  have HG := Aside0.mk hG
  have HL := Aside0.mk hL
  have HSZ := Aside0.mk hsz
  obtain ⟨F, hF0, hFe⟩ := Co.start s P.versionW
  have HNE : Aside0 (∀ p, F ≠ .bad 0 p) := ⟨by
    intro p hp
    cases s with
    | ok ts => exact P.versionW_ne ts p (Eq.trans (Eq.symm hF0) hp)
    | bad e q =>
      obtain ⟨_, _, _, _, hq, _⟩ := h
      have : F = .bad e q := hF0
      rw [this] at hp
      cases hp
      exact hq.2.2 rfl⟩
  have HF0 := Aside0.mk hF0
  have HFE := Aside0.mk hFe
  have HC0 := Aside0.mk (show Co F (fun ts => (P.wordW P.sVersion ts).bind fun t r => (P.numW r).bind fun m r => (takeM 123 r).bind fun _ r => (P.stepsW (r.length + 1) [] r).bind fun l r => (takeM 125 r).bind fun _ r => .ok ⟨m.f2, l, t.f3⟩ r) s from hF0)
  have HCL := Aside0.mk (uword_calls HG.out P.sVersion HU0.out)
  clear h hw0 hb2 hB0 hG hL hF0 hFe hsz
  go_enter Try.func62, Try.ntmps62
  go_wp2_with fail
  rw [← HW0.out, ← HB2.out]
  refine HCL.out.mono ?_
  rintro e w1 ⟨⟨⟨k1, s1, n1, p1, e1⟩, hfr, rfl⟩, hu, hg⟩
  clear HCL
  have HC1 := Aside0.mk ((HC0.out).word hfr)
  have HU1 := Aside0.mk hu
  have HR1 := Aside0.mk (HR0.out.trans hg)
  have HY1 := Aside0.mk (keepB hg HY0.out NB2.out)
  clear hu hg hfr
  obtain ⟨fd0, fd1, fd2, fd3⟩ := fld ⟨k1, s1, n1, p1, e1⟩
  obtain ⟨b3, hb3⟩ : ∃ b3, b3 = w1.heap.size := ⟨_, rfl⟩
  obtain ⟨w2, hw2⟩ : ∃ w2, w2 = w1.alloc (.cells #[.int .u64 0, .slice none 0 0, .int .i64 p1] 60) := ⟨_, rfl⟩
  have hb : Below w1.heap.size w1 w2 := by rw [hw2]; exact below_alloc (Below.refl _ _) _
  have HU2 := Aside0.mk (HU1.out.below hb)
  have HR2 := Aside0.mk (HR1.out.trans (grown_below hb _))
  have HY2 := Aside0.mk (blk_below HY1.out hb)
  have HX2 := Aside0.mk (show w2.heap[b3]? = some (.cells #[.int .u64 0, .slice none 0 0, .int .i64 p1] 60 (0, 0)) from by rw [hw2, hb3]; exact blk_new _ _)
  have GB3 : Aside0 (g < b3) := ⟨by rw [hb3]; exact HU1.out.glt⟩
  have NB3 : Aside0 (b3 ≠ g) := ⟨by have := GB3.out; omega⟩
  have LB3 : Aside0 (w.heap.size ≤ b3) := ⟨by rw [hb3]; exact HR1.out.size⟩
  have NB23 : Aside0 (b2 ≠ b3) := ⟨by have := blk_lt HY1.out; rw [hb3]; omega⟩
  have HB3 := Aside0.mk hb3
  have HW2 := Aside0.mk hw2
  clear hb hw2 hb3
  go_wp2_with fail
  rw [← HW2.out, ← HB3.out]
  refine (unow_calls HU2.out).mono ?_
  rintro e w3 ⟨⟨k2, s2, n2, p2, e2⟩, hf2, rfl, hb⟩
  have HT2 := Aside0.mk hf2
  have HU3 := Aside0.mk (HU2.out.below hb)
  have HR3 := Aside0.mk (HR2.out.trans (grown_below hb _))
  have HY3 := Aside0.mk (blk_below HY2.out hb)
  have HX3 := Aside0.mk (blk_below HX2.out hb)
  clear hb hf2
  obtain ⟨gd0, gd1, gd2, gd3⟩ := fld ⟨k2, s2, n2, p2, e2⟩
  have HCL := Aside0.mk (utake_calls HG.out (k2 == 2) (fun ts => (hd ts).f0 == 2) HU3.out (fun ts hs => ⟨by rw [← HT2.out ts hs], fun hb => by rw [← HT2.out ts hs, eq_of_beq hb]; exact (by decide : (2 : Int) ≠ 0)⟩))
  go_wp2_with fail
  refine HCL.out.mono ?_
  rintro e w4 ⟨⟨⟨k3, s3, n3, p3, e3⟩, hfr, rfl⟩, hu, hg⟩
  clear HCL
  have HC4 := Aside0.mk (Co.num HC1.out hfr)
  have HU4 := Aside0.mk hu
  have HR4 := Aside0.mk (HR3.out.trans hg)
  have HX4 := Aside0.mk (keepB hg HX3.out NB3.out)
  have HY4 := Aside0.mk (keepB hg HY3.out NB2.out)
  clear hu hg hfr
  obtain ⟨id0, id1, id2, id3⟩ := fld ⟨k3, s3, n3, p3, e3⟩
  have c0_4 := (blk_cell HX4.out 0).trans rfl
  have f0_4 := blk_frozen HX4.out 0
  obtain ⟨w5, hw5⟩ : ∃ w5, w5 = w4.setCell ⟨b3, 0, none⟩ (.int .u64 n3) := ⟨_, rfl⟩
  have HU5 := Aside0.mk (show Up w5 A c L g _ from by rw [hw5]; exact HU4.out.far GB3.out 0 _)
  have HR5 := Aside0.mk (show w.grownBy w5 (some g) from by rw [hw5]; exact grown_far (g := g) HR4.out LB3.out 0 _)
  have HX5 := Aside0.mk (show w5.heap[b3]? = some (.cells #[.int .u64 n3, .slice none 0 0, .int .i64 p1] 60 (0, 0)) from by rw [hw5]; exact (blk_setS HX4.out _).trans (by rfl))
  have HY5 := Aside0.mk (show w5.heap[b2]? = some (.cells #[.int .u64 0, .slice none 0 0, .int .i64 0] 60 (0, 0)) from by rw [hw5]; exact blk_setN NB23.out HY4.out _)
  have HW5 := Aside0.mk hw5
  clear hw5
  have HCL := Aside0.mk (umark_calls HG.out 123 HU5.out)
  go_wp2_with fail
  rw [← HW5.out]
  refine HCL.out.mono ?_
  rintro e w6 ⟨⟨tq, hfr, rfl⟩, hu, hg⟩
  clear HCL
  have HC6 := Aside0.mk ((HC4.out).mark hfr)
  obtain ⟨S6, hS6⟩ : ∃ S6, S6 = (((s.step (P.wordW P.sVersion)).step fun ts => P.want ((hd ts).f0 == 2) ts).step (takeM 123)) := ⟨_, rfl⟩
  have HSL : Aside0 (∀ r, S6 = .ok r → r.length ≤ L.length) := ⟨fun r hr => by rw [hS6] at hr; exact len3 HSZ.out hr⟩
  obtain ⟨N, hN, hN2⟩ : ∃ N, N ≤ 33554433 ∧ ∀ r, S6 = .ok r → N = r.length + 1 := by
    cases hx : S6 with
    | ok r => exact ⟨r.length + 1, by have := HSL.out r hx; have := HL.out; omega, fun r' h => by cases h; rfl⟩
    | bad e p => exact ⟨0, by omega, fun r' h => by cases h⟩
  have HLP : Aside0 (VeL F n3 p1 w A c L g b2 b3 w6.heap.size N N w6 S6 ⟨none, 0, 0⟩ [] [] []) := ⟨{
    up := by rw [hS6]; exact hu
    gr := HR5.out.trans hg
    bx := keepB hg HX5.out NB3.out
    by_ := keepB hg HY5.out NB2.out
    rows := ⟨fun r hr => by rw [List.mem_singleton.1 hr]; exact Kd.R_nil _ _ _ _ _, ⟨fun k hk => by simp [Row.own, Row.sl, Sl.v, Value.ownBlock] at hk, trivial⟩⟩
    bl := Nat.le_refl _
    nn := by simp
    tr := fun _ _ => trivial
    co := by
      rw [hS6]
      exact HC6.out.to (fun r hr => by rw [hN2 r (by rw [hS6]; exact hr)]) }⟩
  have HB6 : Aside0 (b3 < w6.heap.size ∧ b2 < w6.heap.size ∧ g < w6.heap.size ∧ w.heap.size ≤ w6.heap.size) := ⟨blk_lt (keepB hg HX5.out NB3.out), blk_lt (keepB hg HY5.out NB2.out), hu.glt, (HR5.out.trans hg).size⟩
  obtain ⟨B6, hB6⟩ : ∃ B6, B6 = w6.heap.size := ⟨_, rfl⟩
  rw [← hB6] at HLP HB6
  have HN := Aside0.mk hN
  clear hu hg hfr hN2 hS6 hB6
  go_wp2_with fail
  go_loopg [] N (fun k wr => ∃ S v sv l ds, Aside0 (VeL F n3 p1 w A c L g b2 b3 B6 N k wr S v sv l ds))
  case atStart => exact ⟨_, _, _, _, _, HLP⟩
  case round =>
    obtain ⟨S, ⟨Av, nv, cv⟩, sv, l, ds, HV⟩ := hrel
    obtain ⟨ef, c2, he1, he2⟩ := HV.out.up.flt
    cases hS : S with
    | bad e q =>
      have d1 : (ef == 0) = false := beq_eq_false_iff_ne.2 (he2 e q hS)
      subst hS
      have HCE := Aside0.mk (show Co F (fun r => (takeM 125 r).bind fun _ r => .ok (⟨n3, ds, p1⟩ : VeD) r) (US.bad e q) from HV.out.co)
      clear he1 he2
      go_wp2_with fail
      have HCL := Aside0.mk (umark_calls HG.out 125 HV.out.up)
      go_wp2_with fail
      refine HCL.out.mono ?_
      rintro e wz ⟨⟨tz, hfr, rfl⟩, hu, hg⟩
      clear HCL
      have HCZ := Aside0.mk ((HCE.out).mark hfr)
      have HXZ := Aside0.mk (keepB hg HV.out.bx NB3.out)
      have HYZ := Aside0.mk (keepB hg HV.out.by_ NB2.out)
      have HRZ := Aside0.mk (HV.out.gr.trans hg)
      have HQZ := Aside0.mk (HV.out.rows.grown hg (by have := HB6.out; omega))
      have HUZ := Aside0.mk hu
      clear hu hg hfr
      have d0 := (blk_cell HXZ.out 0).trans rfl
      have d1 := (blk_cell HXZ.out 1).trans rfl
      have d2 := (blk_cell HXZ.out 2).trans rfl
      have y0 := (blk_cell HYZ.out 0).trans rfl
      have y1 := (blk_cell HYZ.out 1).trans rfl
      have y2 := (blk_cell HYZ.out 2).trans rfl
      have g0 := blk_frozen HYZ.out 0
      have g1 := blk_frozen HYZ.out 1
      have g2 := blk_frozen HYZ.out 2
      go_wp2
      refine bodyPost_ret (results_c rfl _ _ b2 60 #[.int .u64 n3, .slice Av nv cv, .int .i64 p1] (0, 0) _ rfl (set3 HYZ.out) Try.underlying60 rfl (by kernel_rfl)) rfl ?_
      refine ⟨⟨n3, ⟨Av, nv, cv⟩, p1⟩, Row.s ⟨Av, nv, cv⟩ sv :: l, rfl, (((HQZ.out.far (by have := HB6.out; omega)).far (by have := HB6.out; omega)).far (by have := HB6.out; omega)).lower (by have := HB6.out; omega), ?_, grown3 HRZ.out LB2.out, fun ts d r h1 h2 => ?_⟩
      · rw [← HFE.out _ (Co.end_' HCZ.out)]
        exact up3 HUZ.out GB2.out
      · have := Co.val HCZ.out HF0.out ts d r h1 h2
        subst this
        refine ⟨rfl, ⟨sv, List.mem_cons_self, ?_⟩, rfl⟩
        obtain ⟨r1, hr1⟩ := okOf HCZ.out HF0.out h1 h2 HNE.out
        exact (HV.out.tr r1 hr1).imp (fun _ _ h => h.mono (fun _ hm => List.mem_cons_of_mem _ hm))
    | ok r =>
      have he := he1 r hS
      subst he hS
      have hnb : gk ≠ 0 := fun e => by subst e; exact HNE.out 0 HV.out.co
      obtain ⟨m, rfl⟩ : ∃ m, gk = m + 1 := ⟨gk - 1, by omega⟩
      have HIS := Aside0.mk (uis_calls 4 ⟨#[125]⟩ HV.out.up)
      have hco : F = (P.stepsW (m + 1) ds r).bind fun l r => (takeM 125 r).bind fun _ r => .ok ⟨n3, l, p1⟩ r := HV.out.co
      rw [P.stepsW] at hco
      clear he1 he2
      by_cases hm : isM 125 r = true
      · have hv : US.is 4 ⟨#[125]⟩ (.ok r) = true := hm
        rw [hv] at HIS
        rw [if_pos hm] at hco
        have HCE := Aside0.mk (show Co F (fun r => (takeM 125 r).bind fun _ r => .ok (⟨n3, ds, p1⟩ : VeD) r) (US.ok r) from hco)
        clear hm hv hco
        go_wp2_with fail
        refine HIS.out.mono ?_
        rintro e w7 ⟨rfl, hb7⟩
        have HU7 := Aside0.mk (HV.out.up.below hb7)
        have HX7 := Aside0.mk (blk_below HV.out.bx hb7)
        have HY7 := Aside0.mk (blk_below HV.out.by_ hb7)
        have HR7 := Aside0.mk (HV.out.gr.trans (grown_below hb7 _))
        have HQ7 := Aside0.mk (HV.out.rows.keep (fun k _ hk => hb7.block k hk))
        clear hb7
        have HCL := Aside0.mk (umark_calls HG.out 125 HU7.out)
        go_wp2_with fail
        refine HCL.out.mono ?_
        rintro e wz ⟨⟨tz, hfr, rfl⟩, hu, hg⟩
        clear HCL
        have HCZ := Aside0.mk ((HCE.out).mark hfr)
        have HXZ := Aside0.mk (keepB hg HX7.out NB3.out)
        have HYZ := Aside0.mk (keepB hg HY7.out NB2.out)
        have HRZ := Aside0.mk (HR7.out.trans hg)
        have HQZ := Aside0.mk (HQ7.out.grown hg (by have := HB6.out; omega))
        have HUZ := Aside0.mk hu
        clear hu hg hfr
        have d0 := (blk_cell HXZ.out 0).trans rfl
        have d1 := (blk_cell HXZ.out 1).trans rfl
        have d2 := (blk_cell HXZ.out 2).trans rfl
        have y0 := (blk_cell HYZ.out 0).trans rfl
        have y1 := (blk_cell HYZ.out 1).trans rfl
        have y2 := (blk_cell HYZ.out 2).trans rfl
        have g0 := blk_frozen HYZ.out 0
        have g1 := blk_frozen HYZ.out 1
        have g2 := blk_frozen HYZ.out 2
        go_wp2
        refine bodyPost_ret (results_c rfl _ _ b2 60 #[.int .u64 n3, .slice Av nv cv, .int .i64 p1] (0, 0) _ rfl (set3 HYZ.out) Try.underlying60 rfl (by kernel_rfl)) rfl ?_
        refine ⟨⟨n3, ⟨Av, nv, cv⟩, p1⟩, Row.s ⟨Av, nv, cv⟩ sv :: l, rfl, (((HQZ.out.far (by have := HB6.out; omega)).far (by have := HB6.out; omega)).far (by have := HB6.out; omega)).lower (by have := HB6.out; omega), ?_, grown3 HRZ.out LB2.out, fun ts d r h1 h2 => ?_⟩
        · rw [← HFE.out _ (Co.end_' HCZ.out)]
          exact up3 HUZ.out GB2.out
        · have := Co.val HCZ.out HF0.out ts d r h1 h2
          subst this
          refine ⟨rfl, ⟨sv, List.mem_cons_self, ?_⟩, rfl⟩
          obtain ⟨r1, hr1⟩ := okOf HCZ.out HF0.out h1 h2 HNE.out
          exact (HV.out.tr r1 hr1).imp (fun _ _ h => h.mono (fun _ hm => List.mem_cons_of_mem _ hm))
      · have hv : US.is 4 ⟨#[125]⟩ (.ok r) = false := (by simpa using hm : isM 125 r = false)
        rw [hv] at HIS
        rw [if_neg hm] at hco
        have HCO := Aside0.mk hco
        clear hm hv hco
        go_wp2_with fail
        refine HIS.out.mono ?_
        rintro e w7 ⟨rfl, hb7⟩
        have HU7 := Aside0.mk (HV.out.up.below hb7)
        have HX7 := Aside0.mk (blk_below HV.out.bx hb7)
        have HY7 := Aside0.mk (blk_below HV.out.by_ hb7)
        have HR7 := Aside0.mk (HV.out.gr.trans (grown_below hb7 _))
        have HQ7 := Aside0.mk (HV.out.rows.keep (fun k _ hk => hb7.block k hk))
        have HZ7 : Aside0 (B6 ≤ w7.heap.size) := ⟨Nat.le_trans HV.out.bl hb7.size⟩
        clear hb7
        have S0 : (fun w' : World => w'.cell? ⟨b3, 1, none⟩ = some (.slice Av nv cv)) w7.drew := (blk_cell HX7.out 1).trans rfl
        go_wp2
        refine start_ (n := 8) (S := fun w' => w'.cell? ⟨b3, 1, none⟩ = some (.slice Av nv cv)) (ds := [7]) #[false, false, false, false, false, false, false, false] (by kernel_rfl) rfl rfl (S0) (fun hHeld => ?_)
        refine pure_ (i := 0) (N := some 28) (v := ?_) (a' := ?_) #[true, false, false, false, false, false, false, false] rfl rfl (by kernel_rfl) (fun _ _ _ h => h) (Or.inl ⟨by rfl, ?_⟩) ?_ ?_
        rotate_left
        · intro w'
          go_simp
          with_reducible rfl
        rotate_left
        · simp only [Act.put, List.setIfInBounds_toArray, List.set_cons_zero, List.set_cons_succ, i64_w, i32_w]
          rfl
        refine take_ (i := 1) (N := some 29) (v := ?_) (a' := ?_) #[true, true, false, false, false, false, false, false] rfl rfl (by kernel_rfl) (fun _ _ _ h => h) (Or.inl ⟨by rfl, ?_⟩) hHeld ?_ ?_
        rotate_left
        · intro w' hS'
          have hS2 : w'.cell? ⟨b3, 1, none⟩ = some (.slice Av nv cv) := hS'
          clear hS'
          go_simp
          with_reducible rfl
        rotate_left
        · simp only [Act.put, List.setIfInBounds_toArray, List.set_cons_zero, List.set_cons_succ, i64_w, i32_w]
          rfl
        refine pure_ (i := 2) (N := some 30) (v := ?_) (a' := ?_) #[true, true, true, false, false, false, false, false] rfl rfl (by kernel_rfl) (fun _ _ _ h => h) (Or.inl ⟨by rfl, ?_⟩) ?_ ?_
        rotate_left
        · intro w'
          go_simp
          with_reducible rfl
        rotate_left
        · simp only [Act.put, List.setIfInBounds_toArray, List.set_cons_zero, List.set_cons_succ, i64_w, i32_w]
          rfl
        refine one_ (i := 3) (N := some 31) #[true, true, true, true, false, false, false, false] rfl rfl (by kernel_rfl) (by decide) (fun K hK => ?_)
        refine goes_ Try.func83 (by kernel_rfl) rfl #[.pointer (some ⟨g, 0, none⟩)] (by rfl) rfl rfl (by (try simp only [List.map_toArray, List.map_cons, List.map_nil]); first | done | rfl) ?_
        refine (step_calls w7.drew A c L g (.ok r) HG.out HL.out (HU7.out.below (below_drew1 (Below.refl _ _)))).mono ?_
        rintro e w8 ⟨x, nsx, rfl, hrn, hnew, hu, hg, hval⟩
        have hgd : w7.grownBy w8 (some g) := (grown_below (below_drew1 (Below.refl _ _)) _).trans hg
        have HX8 := Aside0.mk (keepB hgd HX7.out NB3.out)
        have HY8 := Aside0.mk (keepB hgd HY7.out NB2.out)
        have HR8 := Aside0.mk (HR7.out.trans hgd)
        have HQ8 := Aside0.mk (rows_new (w0 := w7) (HQ7.out.grown hgd (by have := HB6.out; omega)) (r := Row.n x.val nsx) (show Row.holds w8 B6 (Row.n x.val nsx) from R_flat (d := kn) flat_n hrn (fun _ _ => rfl) (fun k hk => Nat.le_trans HZ7.out (hnew k hk))) (fun k hk => hnew k hk) HQ7.out)
        have HU8 := Aside0.mk hu
        have HVAL := Aside0.mk hval
        have HZ8 : Aside0 (B6 ≤ w8.heap.size) := ⟨Nat.le_trans HZ7.out hgd.size⟩
        have SC : (fun w' : World => w'.cell? ⟨b3, 1, none⟩ = some (.slice Av nv cv)) w8 := (blk_cell HX8.out 1).trans rfl
        clear hrn hnew hu hg hval hgd
        refine ⟨_, rfl, ?_⟩
        refine hK.out _ _ (SC) (fun hHeld => ?_)
        clear hK K
        have HBZ := Aside0.mk (show Below w8.heap.size w8 (w8.alloc (.cells #[.int .i64 x.k, .string x.a, .string x.b, .string x.c, .string x.sep, .string x.ty, .slice x.val.A x.val.n x.val.c, .int .i64 x.pl] 62)) from below_alloc (Below.refl _ _) _)
        have SB : (fun w' : World => w'.cell? ⟨b3, 1, none⟩ = some (.slice Av nv cv)) (w8.alloc (.cells #[.int .i64 x.k, .string x.a, .string x.b, .string x.c, .string x.sep, .string x.ty, .slice x.val.A x.val.n x.val.c, .int .i64 x.pl] 62)) := (blk_cell (blk_below HX8.out HBZ.out) 1).trans rfl
        refine one_ (i := 4) (N := some 32) #[true, true, true, true, true, false, false, false] rfl rfl (by kernel_rfl) (by decide) (fun K hK => ?_)
        refine value_ (w1 := ?_) (v := ?_) (by rfl) rfl ?_ ?_
        rotate_left 2
        · go_simp
          first | rfl | (constructor <;> rfl)
        refine hK.out _ _ (SB) (fun hHeld => ?_)
        clear hK K
        refine one_ (i := 5) (N := some 33) #[true, true, true, true, true, true, false, false] rfl rfl (by kernel_rfl) (by decide) (fun K hK => ?_)
        refine Kd.R_step_at (N := some 33) rfl kst (w0 := w8) B6 (by rfl) (.tmp 29) (.tmp 32) 58 62 (.agg #[.int .i64 0, .string ⟨#[]⟩, .string ⟨#[]⟩, .string ⟨#[]⟩, .string ⟨#[]⟩, .string ⟨#[]⟩, .slice none 0 0, .int .i64 0]) 120 rfl Try.underlying58 infoS rfl (by decide) (by omega) (.slice Av nv cv) sv x (stCs x) (fun _ => True) (fun _ => False) (by rfl) ⟨w8.heap.size, 0, none⟩ 1 (by rfl) (World.news_of_block (cs := (stCs x).toArray) (t := 62) (fr := (0, 0)) (heap_alloc_new _ _)) (kst_mkM _ _ _ x) (fun _ hk => hk.elim) (fun _ _ => trivial) (Kd.R_below (d := kst) HQ8.out.head HBZ.out) (HBZ.out.mono HZ8.out) (by have := HZ8.out; have := HBZ.out.size; omega) (by have := HV.out.nn; have := HN.out; omega) ?_
        intro v2 w9 ho hb hw
        obtain ⟨A2, c2_, hv2⟩ := Kd.R_slice ho
        rw [List.length_append, List.length_singleton] at hv2
        subst hv2
        have hq9 : Rows w9 B6 (Row.s ⟨A2, sv.length + 1, c2_⟩ (sv ++ [x]) :: Row.n x.val nsx :: l) := (HQ8.out.keep (fun k _ hk => HBZ.out.block k hk)).grow hw.grown ho hw.at
        have hne3 : some b3 ≠ (Value.slice Av nv cv).ownBlock := fun e => by have := (HQ8.out.in_ b3 (by rw [e]; exact List.mem_cons_self)).1; have := HB6.out; omega
        have hne2 : some b2 ≠ (Value.slice Av nv cv).ownBlock := fun e => by have := (HQ8.out.in_ b2 (by rw [e]; exact List.mem_cons_self)).1; have := HB6.out; omega
        have HX9 := Aside0.mk (blk_grown (blk_below HX8.out HBZ.out) hw.grown hne3)
        have HY9 := Aside0.mk (blk_grown (blk_below HY8.out HBZ.out) hw.grown hne2)
        have HU9 := Aside0.mk (up_grown (HU8.out.below HBZ.out) hw.grown (fun k hk => by have := (HQ8.out.in_ k (by rw [← hk]; exact List.mem_cons_self)).1; have := HB6.out; omega))
        have HR9 := Aside0.mk (grown_over (HR8.out.trans (grown_below HBZ.out _)) hw.grown (fun k hk => by have := (HQ8.out.in_ k (by rw [← hk]; exact List.mem_cons_self)).1; have := HB6.out; omega))
        have HZ9 : Aside0 (B6 ≤ w9.heap.size) := ⟨by have := HZ8.out; have := HBZ.out.size; have := hw.grown.size; omega⟩
        have HQ9 := Aside0.mk hq9
        have SA : (fun w' : World => w'.cell? ⟨b3, 1, none⟩ = some (.slice Av nv cv)) w9 := (blk_cell HX9.out 1).trans rfl
        have c1_9 : w9.cell? ⟨b3, 1, none⟩ = some (.slice Av nv cv) := SA
        have f1_9 := blk_frozen HX9.out 1
        clear ho hb hw hq9 hne3 hne2
        refine hK.out _ _ (SA) (fun hHeld => ?_)
        clear hK K
        refine pure_ (i := 6) (N := some 34) (v := ?_) (a' := ?_) #[true, true, true, true, true, true, true, false] rfl rfl (by kernel_rfl) (fun _ _ _ h => h) (Or.inl ⟨by rfl, ?_⟩) ?_ ?_
        rotate_left
        · intro w'
          go_simp
          with_reducible rfl
        rotate_left
        · simp only [Act.put, List.setIfInBounds_toArray, List.set_cons_zero, List.set_cons_succ, i64_w, i32_w]
          rfl
        refine last_ (i := 7) (N := none) #[true, true, true, true, true, true, true, true] rfl rfl (by kernel_rfl) (by decide) (fun K hK => ?_)
        refine skip_ (w1 := ?_) (by rfl) rfl ?_ ?_
        rotate_left
        · go_simp
          first | rfl | (constructor <;> rfl)
        refine hK.out _ _ ?_
        clear hK K
        refine done_ (by kernel_rfl) ?_
        obtain ⟨dd, hdd⟩ : ∃ dd, ∀ d r', P.stepW r = .ok d r' → d = dd := by
          cases hx : P.stepW r with
          | ok d r' => exact ⟨d, fun d' r'' h => by cases h; rfl⟩
          | bad e q => exact ⟨⟨0, ⟨#[]⟩, ⟨#[]⟩, ⟨#[]⟩, ⟨#[]⟩, ⟨#[]⟩, [], 0⟩, fun d' r'' h => by cases h⟩
        go_wp2
        go_roundg m
        case measure => omega
        case rel =>
          refine ⟨(US.ok r).step P.stepW, ⟨A2, sv.length + 1, c2_⟩, sv ++ [x], Row.n x.val nsx :: l, ds ++ [dd], ⟨{ up := ?_, gr := ?_, bx := ?_, by_ := ?_, rows := ?_, bl := ?_, nn := ?_, tr := ?_, co := ?_ }⟩⟩
          · exact HU9.out.far GB3.out 1 _
          · exact grown_far (g := g) HR9.out LB3.out 1 _
          · exact (blk_setS HX9.out _).trans (by rfl)
          · exact blk_setN NB23.out HY9.out _
          · exact HQ9.out.far (by have := HB6.out; omega)
          · simpa using HZ9.out
          · have := HV.out.nn; rw [List.length_append, List.length_singleton]; omega
          · intro r1 hr1
            obtain ⟨ts, a, h1, h2⟩ := step_okS hr1
            cases h1
            have := hdd a r1 h2
            subst this
            obtain ⟨m1, m2, m3, m4, m5, m6, m7, m8⟩ := HVAL.out r a r1 rfl h2
            subst m7
            exact ((HV.out.tr r rfl).imp (fun _ _ h => h.mono (fun _ hm => List.mem_cons_of_mem _ hm))).snoc ⟨m1, m2, m3, m4, m5, m6, List.mem_cons_self, m8⟩
          · have hc : Co F (fun r => (P.stepW r).bind fun d r => (P.stepsW m (ds ++ [d]) r).bind fun l r => (takeM 125 r).bind fun _ r => .ok (⟨n3, l, p1⟩ : VeD) r) (US.ok r) := by
              show F = _
              rw [HCO.out, bindA]
            exact Co.call (P := fun _ => True) hc (fun ts a r1 h1 h2 => by cases h1; rw [hdd a r1 h2])
end Go.Proofs.Ytbdcndkafaajpaa.A
end
