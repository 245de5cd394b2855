/- Walks and plain laws behind ParseSchemas. Conditions: those in the theorems. -/
import Derived.Test.YtbdcndkafaajpaaBParseSchemas0
import Derived.Test.YtbdcndkafaajpaaBParseSchemas1
import Derived.Test.YtbdcndkafaajpaaBParseSchemas2
import Derived.Test.YtbdcndkafaajpaaBParseSchemas3
import Derived.Test.YtbdcndkafaajpaaBParseSchemas4
set_option linter.unusedVariables false
set_option linter.unusedSimpArgs false
set_option maxHeartbeats 16000000
set_option maxRecDepth 100000
section
namespace Go.Proofs.Ytbdcndkafaajpaa.P
open Ytbdcndkafaajpaa.X Ytbdcndkafaajpaa.T
inductive Out (α : Type) where
 | ok (a : α)
 | bad (e pl : Int)
def outO {α : Type} : Res α → Out α
 | .ok a _ => .ok a
 | .bad e p => .bad e p
def Qdc {α : Type} (f : List Tk → Res α) (s : ByteArray) : Out α := match L.Lex s.data.toList with
 | .bad a e => .bad (e : Int) (a : Int)
 | .toks l => outO (f (l.map toS))
def Qdk (s : ByteArray) : Out (List EvD) := Qdc Qdj s
def Qex (s : ByteArray) : Out (List Nd) := Qdc Qhq s
end Go.Proofs.Ytbdcndkafaajpaa.P
namespace Go.Proofs.Ytbdcndkafaajpaa.A
open Go.RowKit Ytbdcndkafaajpaa.X Ytbdcndkafaajpaa.L Ytbdcndkafaajpaa.T YtbdcndkafaajpaaW.PrintWords YtbdcndkafaajpaaW.PrintLast YtbdcndkafaajpaaW.PrintMore
open Ytbdcndkafaajpaa.P (Nd EO Res hd isT isM Qar mxl comb mk1 StD VeD EvD Out Qdc Qdk Qex)
theorem Qq6 : ∀ (d off : Nat) (l : List UInt8) (ts : List L.Tok), l.length ≤ d → lx off l = .toks ts → ∃ i e, ts = i ++ [e] ∧ e.kind = 0 := by
 intro d
 induction d with
 | zero =>
  intro off l ts hd h
  obtain rfl : l = [] := List.length_eq_zero_iff.1 (by omega)
  rw [Qe2 rfl] at h; cases h; exact ⟨[], _, rfl, rfl⟩
 | succ d ih =>
  intro off l ts hd h
  rcases Qhz off l with ⟨q, hq, e⟩ | ⟨g, w, r, t, rfl, hg, ht, hw, e⟩ | ⟨g, m, a, e, rfl, hg, hm, hne, ht, h2⟩
  ·rw [e] at h; cases h; exact ⟨[], _, rfl, rfl⟩
  ·have hl2 := Qd4 ht
   rw [e] at h
   obtain ⟨l', h1, rfl⟩ := Qfu h
   simp only [List.length_append, List.length_cons] at hd
   obtain ⟨i, e', rfl, h0⟩ := ih _ r l' (by omega) h1
   exact ⟨_ :: i, e', rfl, h0⟩
  ·rw [h2] at h; cases h
theorem Qri {l : List Tk} {i : List Tk} {e : Tk} (h : l = i ++ [e]) (h0 : e.f0 = 0) : Good l ∧ 0 < l.length := by
 subst h
 refine ⟨fun j hj hk => ?_, by rw [List.length_append, List.length_singleton]; omega⟩
 rw [List.length_append, List.length_singleton] at hj ⊢
 by_cases hji : j = i.length
 ·subst hji
  exfalso
  apply hk
  unfold tk Qga
  rw [Int.toNat_natCast, List.getD_eq_getElem?_getD, List.getElem?_append_right (Nat.le_refl _), Nat.sub_self]
  exact h0
 ·omega
theorem Qjm {l : List UInt8} {ts : List L.Tok} (h : L.Lex l = .toks ts) : Good (ts.map toS) ∧ 0 < (ts.map toS).length ∧ (ts.map toS).length ≤ 1048577 := by
 obtain ⟨h1, h2, h3⟩ := Qma h
 obtain ⟨i, e, rfl, h0⟩ := Qq6 _ _ _ _ (Nat.le_refl _) h2
 have := Qri (l := (i ++ [e]).map toS) (i := i.map toS) (e := toS e) (by simp) (by unfold toS; rw [h0]; rfl)
 exact ⟨this.1, this.2, by rw [List.length_map]; omega⟩
structure Qki (w w' : World) (A : Option Addr) (c : Nat) (L : List Tk) (g : Nat) : Prop where
 up : Up w' A c L g (.ok L)
 good : Good L
 len : L.length ≤ 33554432
 new : w.heap.size ≤ g
 bel : Below w.heap.size w w'
theorem Qh6 (w : World) (s : ByteArray) : Calls Try.prog 23 #[.string s] w fun e w' =>
  match L.Lex s.data.toList with
  | .bad a er => e = .returned (.tuple #[.pointer none, .int .i64 (a : Int), .int .i64 (er : Int)]) ∧ Below w.heap.size w w'
  | .toks l => ∃ A c g, e = .returned (.tuple #[.pointer (some ⟨g, 0, none⟩), .int .i64 0, .int .i64 0]) ∧ Qki w w' A c (l.map toS) g := by
 obtain ⟨k, hk⟩ := (Ql0 s).rounds
 cases hx : L.Lex s.data.toList with
 | bad a er =>
  rw [hx] at hk
  have hne : (er : Int) ≠ 0 := by
   rcases Qib hx with ⟨_, _, h⟩ | ⟨_, _, _, h⟩ <;> omega
  have d1 : ((er : Int) != 0) = true := bne_iff_ne.2 hne
  have HCL := J0.m (Qbw.calls k s _ _ _ w hk)
  clear hk hx hne
  go_enter Try.func23, Try.ntmps23
  go_wp2_with fail
  refine HCL.o.mono ?_
  rintro e w1 ⟨v0, rfl, hr, hb⟩
  have HB := J0.m hb
  clear hr hb
  go_wp2
  go_ret3
  exact ⟨rfl, HB.o⟩
 | toks l =>
  rw [hx] at hk
  obtain ⟨hg1, hg2, hg3⟩ := Qjm hx
  have HGD := J0.m hg1
  have HG2 := J0.m hg2
  have HG3 := J0.m hg3
  have HCL := J0.m (Qbw.calls k s _ _ _ w hk)
  clear hk hx hg1 hg2 hg3
  go_enter Try.func23, Try.ntmps23
  go_wp2_with fail
  refine HCL.o.mono ?_
  rintro e w1 ⟨v0, rfl, hr, hb⟩
  obtain ⟨A, c, rfl⟩ := Kd.Qcp hr
  have HR := J0.m hr
  have HB := J0.m hb
  clear hr hb
  go_wp2
  go_ret3
  have hlen : ([] ++ l.map toS).length = (l.map toS).length := by simp
  obtain ⟨W, hW⟩ : ∃ W, W = w1.alloc (.cells (pv A (l.map toS).length c ⟨0, 0, 0⟩ (.int .i64 0) (.slice none 0 0) (.slice none 0 0)) 68) := ⟨_, rfl⟩
  have hb1 : Below w1.heap.size w1 W := by rw [hW]; exact Qab (Below.refl _ _) _
  have hrow : Kd.R kt 47 w1 w.heap.size (fun _ => True) (.slice A (l.map toS).length c) (l.map toS) := by
   have := HR.o
   simpa using this
  refine ⟨A, c, w1.heap.size, rfl, ?_⟩
  have hgoal : Qki w W A c (l.map toS) w1.heap.size := ⟨⟨⟨0, 0, 0⟩, 0, _, _, ⟨rfl, rfl⟩, ⟨by rw [hW]; exact Qay _ _, ?_, HG2.o, ?_⟩⟩, HGD.o, by have := HG3.o; omega, HB.o.size, HB.o.trans (hb1.mono HB.o.size)⟩
  ·rw [hW] at hgoal
   simpa [pv] using hgoal
  ·intro W' hW'
   exact (Kd.Qqm rfl (Kd.Qb4 hrow hb1)) W' (fun k hk => hW' k (by have := Kd.R_lt hrow k hk; omega))
  ·obtain ⟨A', c', he, hc, _⟩ := Kd.Qg4 hrow
   injection he with _ _ he
   omega
end Go.Proofs.Ytbdcndkafaajpaa.A
end
section
namespace Go.Proofs.Ytbdcndkafaajpaa.A
open Go.RowKit Ytbdcndkafaajpaa.X Ytbdcndkafaajpaa.L Ytbdcndkafaajpaa.T YtbdcndkafaajpaaW.PrintWords YtbdcndkafaajpaaW.PrintLast YtbdcndkafaajpaaW.PrintMore
open Ytbdcndkafaajpaa.P (Nd EO Res hd isT isM Qar mxl comb mk1 StD VeD EvD Out Qdc Qdk Qex)
theorem Up.okc {w : World} {A : Option Addr} {c : Nat} {L : List Tk} {g : Nat} {ts : List Tk} (h : Up w A c L g (.ok ts)) : w.cell? ⟨g, 2, none⟩ = some (.int .i64 0) := by
 obtain ⟨q, lv, v5, v6, hq, hp⟩ := h
 rw [← hq.1]; exact hp.c2
theorem Up.badc {w : World} {A : Option Addr} {c : Nat} {L : List Tk} {g : Nat} {e p : Int} (h : Up w A c L g (.bad e p)) : w.cell? ⟨g, 2, none⟩ = some (.int .i64 e) ∧ w.cell? ⟨g, 3, none⟩ = some (.int .i64 p) ∧ e ≠ 0 := by
 obtain ⟨q, lv, v5, v6, hq, hp⟩ := h
 exact ⟨by rw [← hq.1]; exact hp.c2, by rw [← hq.2.1]; exact hp.c3, hq.2.2⟩
theorem Qki.below {w w1 w2 : World} {A : Option Addr} {c : Nat} {L : List Tk} {g : Nat} (h : Qki w w1 A c L g) (hg : w1.grownBy w2 (some g)) : Below w.heap.size w w2 :=
 h.bel.grown hg (by have := h.bel.size; omega) (fun k hk => by injection hk with hk; have := h.new; omega)
def Says {α : Type} (o : Out α) (v : Sl) (at_ er : Int) (P : α → Prop) : Prop := match o with
 | .ok a => at_ = 0 ∧ er = 0 ∧ P a
 | .bad e p => er = e ∧ at_ = p ∧ v = ⟨none, 0, 0⟩ ∧ e ≠ 0
theorem Qh8 (w : World) (s : ByteArray) : Calls Try.prog 15 #[.string s] w fun e w' => ∃ (v : Sl) (l : List Row) (at_ er : Int), e = .returned (.tuple #[.slice v.A v.n v.c, .int .i64 at_, .int .i64 er]) ∧ Rows w' w.heap.size l ∧ Below w.heap.size w w' ∧ Says (Qex s) v at_ er (fun ns => Row.n v ns ∈ l) := by
 have HBG := J0.m (Qh6 w s)
 unfold Qex Qdc
 cases hx : L.Lex s.data.toList with
 | bad a er =>
  rw [hx] at HBG
  have hne : (er : Int) ≠ 0 := by
   rcases Qib hx with ⟨_, _, h⟩ | ⟨_, _, _, h⟩ <;> omega
  have d1 : ((er : Int) != 0) = true := bne_iff_ne.2 hne
  have HNE := J0.m hne
  clear hx hne
  go_enter Try.func15, Try.ntmps15
  go_wp2_with fail
  refine HBG.o.mono ?_
  rintro e w1 ⟨rfl, hb⟩
  have HB := J0.m hb
  clear hb
  go_wp2
  go_ret3
  exact ⟨⟨none, 0, 0⟩, [], _, _, rfl, Rows.nil _ _, HB.o, rfl, rfl, rfl, HNE.o⟩
 | toks l =>
  rw [hx] at HBG
  clear hx
  go_enter Try.func15, Try.ntmps15
  go_wp2_with fail
  refine HBG.o.mono ?_
  rintro e w1 ⟨A, c, g, rfl, hbg⟩
  have HBE := J0.m hbg
  clear hbg
  obtain ⟨F, hF0, hFe⟩ := Co.start (.ok (l.map toS)) P.Qhq
  have HF0 := J0.m hF0
  have HFE := J0.m hFe
  have HC1 := J0.m (show Co F (fun ts => (P.Qdh ts).bind fun v r => (P.endW r).bind fun _ r => .ok v.ns r) (.ok (l.map toS)) from hF0)
  clear hF0 hFe
  have HCL := J0.m (Qhn w1 A c _ g _ HBE.o.good HBE.o.len HBE.o.up)
  go_wp2_with fail
  refine HCL.o.mono ?_
  rintro e w2 ⟨v, ns, rfl, hrv, hnew, hu, hg, hval⟩
  clear HCL
  obtain ⟨Av, cv, hvv⟩ := Kd.Qcp hrv
  subst hvv
  have HC2 := J0.m (Co.call (P := fun _ => True) (g' := fun r => (P.endW r).bind fun _ r => .ok ns r) HC1.o (fun ts a r h1 h2 => by rw [hval ts a r h1 h2]))
  have HU2 := J0.m hu
  have HG2 := J0.m hg
  have HN2 := J0.m (Qgs (base' := w.heap.size) Qj4 hrv (fun _ _ => rfl) (fun k hk => Nat.le_trans HBE.o.bel.size (hnew k hk)))
  have HOW : J0 (∀ k, (Value.slice Av ns.length cv).ownBlock = some k → w1.heap.size ≤ k) := ⟨hnew⟩
  clear hrv hnew hu hg hval
  go_wp2_with fail
  refine (Qen HU2.o).mono ?_
  rintro e w3 ⟨⟨k2, s2, n2, p2, e2⟩, hf2, rfl, hb⟩
  have HT2 := J0.m hf2
  have HU3 := J0.m (HU2.o.below hb)
  have HG3 := J0.m (HG2.o.trans (Qaj hb _))
  have HB3 := J0.m hb
  clear hb hf2
  obtain ⟨gd0, gd1, gd2, gd3⟩ := fld ⟨k2, s2, n2, p2, e2⟩
  have HCL := J0.m (Qip HBE.o.good (k2 == 0) HU3.o (fun ts hs => by rw [← HT2.o ts hs]))
  go_wp2_with fail
  refine HCL.o.mono ?_
  rintro e w4 ⟨⟨⟨k4, s4, n4, p4, e4⟩, hfr, rfl⟩, hu, hg⟩
  clear HCL
  have HC4 := J0.m (Co.call (P := fun _ => True) (g' := fun r => .ok ns r) HC2.o (fun _ _ _ _ _ => rfl))
  have HB4 := J0.m (HBE.o.below (HG3.o.trans hg))
  have HN4 : J0 (Rows w4 w.heap.size [Row.n ⟨Av, ns.length, cv⟩ ns]) := ⟨⟨fun r hr => by
   rw [List.mem_singleton.1 hr]
   refine Qgs (d := kn) Qj4 HN2.o (fun k hk => ?_) (fun k hk => Kd.Qfe HN2.o k hk)
   have hlt := Kd.R_lt HN2.o k hk
   have hgk : k ≠ g := by have := HOW.o k hk; have := HBE.o.up.glt; omega
   rw [hg.block k (Nat.lt_of_lt_of_le hlt HB3.o.size) (fun e => by injection e with e; exact hgk e)]
   exact HB3.o.block k hlt, ⟨fun k hk hm => (by cases hm), trivial⟩⟩⟩
  have HU4 := J0.m (show Up w4 A c _ g ((US.ok (l.map toS)).step P.Qhq) from by
   rw [← HFE.o _ (Co.Qej HC4.o)]; exact hu)
  clear hu hg hfr
  cases hy : P.Qhq (l.map toS) with
  | ok ds r =>
   have hd : ds = ns := Co.val HC4.o HF0.o _ _ _ rfl hy
   subst hd
   have y2 := (show Up w4 A c _ g (.ok r) from by have := HU4.o; rw [step_ok hy] at this; exact this).okc
   have HY := J0.m hy
   clear hy
   go_wp2
   go_ret3
   rw [HY.o]
   exact ⟨⟨Av, ds.length, cv⟩, _, _, _, rfl, HN4.o, HB4.o, rfl, rfl, List.mem_singleton.2 rfl⟩
  | bad e p =>
   obtain ⟨y2, y3, hne⟩ := (show Up w4 A c _ g (.bad e p) from by have := HU4.o; rw [Qfq hy] at this; exact this).badc
   have d1 : (e != 0) = true := bne_iff_ne.2 hne
   have HNE := J0.m hne
   have HY := J0.m hy
   clear hy hne
   go_wp2_with fail
   go_quiet (fail)
   go_wp2
   go_ret3
   rw [HY.o]
   exact ⟨⟨none, 0, 0⟩, _, _, _, rfl, Rows.nil _ _, Qad HB4.o _, rfl, rfl, rfl, HNE.o⟩
theorem Qg9 (w : World) (s : ByteArray) : Calls Try.prog 12 #[.string s] w fun e w' => ∃ (v : Sl) (l : List Row) (at_ er : Int), e = .returned (.tuple #[.agg #[.slice v.A v.n v.c], .int .i64 at_, .int .i64 er]) ∧ Rows w' w.heap.size l ∧ Below w.heap.size w w' ∧ Says (Qdk s) v at_ er (fun ds => ∃ xs, Row.e v xs ∈ l ∧ All2 (EvT l) ds xs) := by
 obtain ⟨w0, hw0⟩ : ∃ w0, w0 = w.alloc (.cells #[.slice none 0 0] 27) := ⟨_, rfl⟩
 obtain ⟨b2, hb2⟩ : ∃ b2, b2 = w.heap.size := ⟨_, rfl⟩
 have hB0 : Below w.heap.size w w0 := by rw [hw0]; exact Qab (Below.refl _ _) _
 have HY0 := J0.m (show w0.heap[b2]? = some (.cells #[.slice none 0 0] 27 (0, 0)) from by rw [hw0, hb2]; exact Qay _ _)
 have HB0 := J0.m hB0
 have HB2 := J0.m hb2
 have HW0 := J0.m hw0
 have HBG := J0.m (Qh6 w0 s)
 clear hw0 hb2 hB0
 unfold Qdk Qdc
 cases hx : L.Lex s.data.toList with
 | bad a er =>
  rw [hx] at HBG
  have hne : (er : Int) ≠ 0 := by
   rcases Qib hx with ⟨_, _, h⟩ | ⟨_, _, _, h⟩ <;> omega
  have d1 : ((er : Int) != 0) = true := bne_iff_ne.2 hne
  have HNE := J0.m hne
  clear hx hne
  go_enter Try.func12, Try.ntmps12
  go_wp2_with fail
  rw [← HW0.o, ← HB2.o]
  refine HBG.o.mono ?_
  rintro e w1 ⟨rfl, hb⟩
  have HB := J0.m (HB0.o.trans (hb.mono HB0.o.size))
  have HY1 := J0.m (Qae HY0.o hb)
  have y0 := (Qac HY1.o 0).trans rfl
  have g0 := Qaa HY1.o 0
  clear hb
  go_wp2
  refine bodyPost_ret (Qbc rfl _ _ b2 27 #[.slice none 0 0] (0, 0) _ rfl (Qby HY1.o 0 _ rfl) Try.underlying27 rfl (by kernel_rfl)) rfl ?_
  exact ⟨⟨none, 0, 0⟩, [], _, _, rfl, Rows.nil _ _, HB.o.setCell (p := ⟨b2, 0, none⟩) (by rw [HB2.o]; exact Nat.le_refl _) _, rfl, rfl, rfl, HNE.o⟩
 | toks l =>
  rw [hx] at HBG
  clear hx
  go_enter Try.func12, Try.ntmps12
  go_wp2_with fail
  rw [← HW0.o, ← HB2.o]
  refine HBG.o.mono ?_
  rintro e w1 ⟨A, c, g, rfl, hbg⟩
  have HBE := J0.m hbg
  have HY1 := J0.m (Qae HY0.o hbg.bel)
  clear hbg
  have NB2 : J0 (b2 ≠ g) := ⟨by have := HBE.o.new; have := Qb3 HY0.o; omega⟩
  have HCL := J0.m (Qjo w1 A c _ g _ HBE.o.good HBE.o.len HBE.o.up)
  go_wp2_with fail
  refine HCL.o.mono ?_
  rintro e w2 ⟨⟨Av, nv, cv⟩, lr, rfl, hrows, hu, hg, hval⟩
  clear HCL
  have HB2' := J0.m (HB0.o.trans ((HBE.o.below hg).mono HB0.o.size))
  have HY2 := J0.m (Qas hg HY1.o NB2.o)
  have HU2 := J0.m hu
  have HR2 := J0.m hrows
  have HVL := J0.m hval
  have HS1 : J0 (b2 < w1.heap.size ∧ w.heap.size ≤ w1.heap.size) := ⟨Qb3 HY1.o, Nat.le_trans HB0.o.size HBE.o.bel.size⟩
  clear hrows hu hg hval
  obtain ⟨b8, hb8⟩ : ∃ b8, b8 = w2.heap.size := ⟨_, rfl⟩
  obtain ⟨w3, hw3⟩ : ∃ w3, w3 = w2.alloc (.cells #[.slice Av nv cv] 27) := ⟨_, rfl⟩
  have hb3 : Below w2.heap.size w2 w3 := by rw [hw3]; exact Qab (Below.refl _ _) _
  have hx3 : w3.heap[b8]? = some (.cells #[.slice Av nv cv] 27 (0, 0)) := by rw [hw3, hb8]; exact Qay _ _
  have c8 := (Qac hx3 0).trans rfl
  have HU3 := J0.m (HU2.o.below hb3)
  have HY3 := J0.m (Qae HY2.o hb3)
  have HR3 := J0.m (HR2.o.keep (fun k _ hk => hb3.block k hk))
  have HB3 := J0.m (HB2'.o.trans (hb3.mono HB2'.o.size))
  have y0 := (Qac HY3.o 0).trans rfl
  have g0 := Qaa HY3.o 0
  have HW3 := J0.m hw3
  have HB8 := J0.m hb8
  cases hy : P.Qdj (l.map toS) with
  | ok ds r =>
   have y2 := (show Up w3 A c _ g (.ok r) from by have := HU3.o; rw [step_ok hy] at this; exact this).okc
   have HV := J0.m (HVL.o _ _ _ rfl hy)
   have HY := J0.m hy
   rw [hw3] at y2 y0 g0 c8
   rw [hb8] at c8
   clear hy hw3 hb8 hb3 hx3
   go_wp2
   rw [← HW3.o]
   refine bodyPost_ret (Qbc rfl _ _ b2 27 #[.slice Av nv cv] (0, 0) _ rfl (Qby HY3.o 0 _ rfl) Try.underlying27 rfl (by kernel_rfl)) rfl ?_
   rw [HY.o]
   exact ⟨⟨Av, nv, cv⟩, lr, _, _, rfl, (HR3.o.far HS1.o.1).lower HS1.o.2, HB3.o.setCell (p := ⟨b2, 0, none⟩) (by rw [HB2.o]; exact Nat.le_refl _) _, rfl, rfl, HV.o⟩
  | bad e p =>
   obtain ⟨y2, y3, hne⟩ := (show Up w3 A c _ g (.bad e p) from by have := HU3.o; rw [Qfq hy] at this; exact this).badc
   have d1 : (e != 0) = true := bne_iff_ne.2 hne
   have HNE := J0.m hne
   have HY := J0.m hy
   clear hne hy
   rw [hw3] at y2 y3 y0 g0
   clear hw3 hb8 hb3 hx3 c8
   go_wp2_with fail
   rw [← HW3.o] at y2 y3 y0 g0 ⊢
   have z2 : (w3.setCell ⟨b2, 0, none⟩ (.slice none 0 0)).drew.cell? ⟨g, 2, none⟩ = some (.int .i64 e) := (World.cell?_of_block (a := ⟨g, 2, none⟩) (Below.heap_setCell w3 ⟨b2, 0, none⟩ _ g (fun h => NB2.o h.symm))).trans y2
   have z3 : (w3.setCell ⟨b2, 0, none⟩ (.slice none 0 0)).drew.cell? ⟨g, 3, none⟩ = some (.int .i64 p) := (World.cell?_of_block (a := ⟨g, 3, none⟩) (Below.heap_setCell w3 ⟨b2, 0, none⟩ _ g (fun h => NB2.o h.symm))).trans y3
   go_region_held3 (fun w' => w'.cell? ⟨g, 2, none⟩ = some (.int .i64 e) ∧ w'.cell? ⟨g, 3, none⟩ = some (.int .i64 p)) (first | exact ⟨y2, y3⟩ | exact ⟨z2, z3⟩) (fail)
   all_goals
    go_wp2
    refine bodyPost_ret (Qbc rfl _ _ b2 27 #[.slice none 0 0] (0, 0) _ rfl (Qby HY3.o 0 _ rfl) Try.underlying27 rfl (by kernel_rfl)) rfl ?_
    rw [HY.o]
    exact ⟨⟨none, 0, 0⟩, [], _, _, rfl, Rows.nil _ _, (Qad HB3.o 1).setCell (p := ⟨b2, 0, none⟩) (by rw [HB2.o]; exact Nat.le_refl _) _, rfl, rfl, rfl, HNE.o⟩
end Go.Proofs.Ytbdcndkafaajpaa.A
end
section
namespace Go.Proofs.Ytbdcndkafaajpaa.X
open Go.RowKit YtbdcndkafaajpaaW.PrintWords YtbdcndkafaajpaaW.PrintLast YtbdcndkafaajpaaW.PrintMore
attribute [local go_sem] Qdz Qdx Qes Qer Qdm Qdl Qdy Qdw
def Qa1.f (a0 : Int) : Option (Bool) := if a0 ≥ 48 then (some (decide (a0 ≤ 57))) else (some false)
theorem Qa1.calls (a0 : Int) (r : Bool) (w : World) (h : Qa1.f a0 = some r) :
  Calls Try.prog 66 #[.int .u8 a0] w fun e w' => e = .returned (.bool r) ∧ Qbe w w' := by
 have H : (if a0 ≥ 48 then (some (decide (a0 ≤ 57))) else (some false)) = some r := h
 clear h
 by_cases c2 : a0 ≥ 48
 ·rw [if_pos c2] at H
  have c2b0 : decide (48 ≤ a0) = true := decide_eq_true c2
  clear c2
  obtain rfl := Option.some.inj H
  go_enter Try.func66, Try.ntmps66
  go_wp2
  go_ret
  exact eQ
 ·rw [if_neg c2] at H
  have c2b0 : decide (48 ≤ a0) = false := decide_eq_false c2
  clear c2
  obtain rfl := Option.some.inj H
  go_enter Try.func66, Try.ntmps66
  go_wp2
  go_ret
  exact eQ
def Qa0.l0 : Nat → ByteArray → Int → Int → Option (Int × ByteArray × Int × Int × Int × Int × Int)
 | 0, _, _, _ => none
 | k + 1, x0, x1, x7 => if x7 < (x0.size : Int) then (if 0 ≤ x7 then ((Qbb.f (bt x0 x7)).bind fun t150 => (if t150 = true then (Qa0.l0 k x0 x1 (wrap64 (x7 + 1))) else ((Qa1.f (bt x0 x7)).bind fun t151 => (if t151 = true then (Qa0.l0 k x0 x1 (wrap64 (x7 + 1))) else (if (wrap64 (x7 - x1)) > 64 then (some (0, (⟨#[]⟩ : ByteArray), 0, 0, 0, x1, 111)) else (if 0 ≤ x1 then (if x1 ≤ x7 then (if x7 ≤ (x0.size : Int) then (some (1, x0.extract (x1 : Int).toNat (x7 : Int).toNat, 0, x1, x7, 0, 0)) else (none)) else (none)) else (none))))))) else (none)) else (if (wrap64 (x7 - x1)) > 64 then (some (0, (⟨#[]⟩ : ByteArray), 0, 0, 0, x1, 111)) else (if 0 ≤ x1 then (if x1 ≤ x7 then (if x7 ≤ (x0.size : Int) then (some (1, x0.extract (x1 : Int).toNat (x7 : Int).toNat, 0, x1, x7, 0, 0)) else (none)) else (none)) else (none)))
def Qa0.f (k : Nat) (a0 : ByteArray) (a1 : Int) : Option (Int × ByteArray × Int × Int × Int × Int × Int) := Qa0.l0 k a0 a1 a1
theorem Qa0.calls (k : Nat) (a0 : ByteArray) (a1 : Int) (r1 : Int) (r2 : ByteArray) (r3 : Int) (r4 : Int) (r5 : Int) (r6 : Int) (r7 : Int) (w : World) (h : Qa0.f k a0 a1 = some (r1, r2, r3, r4, r5, r6, r7)) :
  Calls Try.prog 65 #[.string a0, .int .i64 a1] w fun e w' => e = .returned (.tuple #[.agg #[.int .i64 r1, .string r2, .int .u64 r3, .int .i64 r4, .int .i64 r5], .int .i64 r6, .int .i64 r7]) ∧ Below w.heap.size w w' := by
 have hu47 := Try.underlying47
 have HB := J0.m (Below.refl w.heap.size w)
 have H : (Qa0.l0 k a0 a1 a1) = some (r1, r2, r3, r4, r5, r6, r7) := h
 clear h
 have H' := J0.m H
 clear H
 go_enter Try.func65, Try.ntmps65
 go_wp2_with (first | ((with_reducible refine Qb0 (N := 4) rfl ?_); refine Qbu ?hg (N := 4) ?hd (cs := zT0) (t := 47) ?hr ?_; (case hd => rfl); (case hg => rfl); (case hr => first | (go_simp; done) | (go_simp; rfl)); intro gb149 hg w3 hbox hb; have n0_ := J0.m (Qak bR hb); have n1_ := J0.m (hbox); have n2_ := J0.m ((by rw [hg]; exact (Qbd bR) : w.heap.size ≤ gb149)); have n3_ := n2_; clear HB; have HB := n0_; have BK149 := n1_; have GW149 := n2_; have GE149 := n3_; clear n0_ n1_ n2_ n3_; clear hb hbox hg))
 go_loopg [7] k (fun kq v7 w' => ∃ (x7_1 : Int), v7 = .int .i64 x7_1 ∧ J0 (Qa0.l0 kq a0 a1 x7_1 = some (r1, r2, r3, r4, r5, r6, r7)) ∧ J0 (kq ≤ k) ∧ J0 (w'.heap[gb149]? = some (.cells #[.int .i64 0, .string ⟨#[]⟩, .int .u64 0, .int .i64 0, .int .i64 0] 47 (0, 0))) ∧ J0 (Below w.heap.size w w'))
 case atStart => exact ⟨(a1), (by first | rfl | (simp; done) | (simp [*]; done)), H', ⟨Nat.le_refl _⟩, ⟨by (with_reducible repeat (first | apply Qag | apply Qai | apply Qah)); exact BK149.o⟩, ⟨by repeat (first | (with_reducible first | exact HB.o | apply Qab | apply Qad | apply Qaf | refine Qan ?_ GE149.o) | exact HB.o)⟩⟩
 case round =>
  clear H'
  try clear p2
  obtain ⟨x7_1, rfl, HA, HK1, BK149, HB⟩ := hrel
  cases gk with
  | zero => exact absurd HA.o (by simp [Qa0.l0])
  | succ k1 =>
   have H := HA.o
   clear HA
   simp only [Qa0.l0] at H
   by_cases c4 : x7_1 < (a0.size : Int)
   ·rw [if_pos c4] at H
    have c4b0 : decide (x7_1 < (a0.size : Int)) = true := decide_eq_true c4
    clear c4
    by_cases c5 : 0 ≤ x7_1
    ·rw [if_pos c5] at H
     have c5b0 : decide (0 ≤ x7_1) = true := decide_eq_true c5
     clear c5
     replace H := Option.bind_eq_some_iff.mp H
     obtain ⟨t150, A70, H⟩ := H
     replace H : (if t150 = true then (Qa0.l0 k1 a0 a1 (wrap64 (x7_1 + 1))) else ((Qa1.f (bt a0 x7_1)).bind fun t151 => (if t151 = true then (Qa0.l0 k1 a0 a1 (wrap64 (x7_1 + 1))) else (if (wrap64 (x7_1 - a1)) > 64 then (some (0, (⟨#[]⟩ : ByteArray), 0, 0, 0, a1, 111)) else (if 0 ≤ a1 then (if a1 ≤ x7_1 then (if x7_1 ≤ (a0.size : Int) then (some (1, a0.extract (a1 : Int).toNat (x7_1 : Int).toNat, 0, a1, x7_1, 0, 0)) else (none)) else (none)) else (none)))))) = some (r1, r2, r3, r4, r5, r6, r7) := H
     have A7 := J0.m A70
     clear A70
     by_cases c8 : t150 = true
     ·subst c8
      have H1 : (Qa0.l0 k1 a0 a1 (wrap64 (x7_1 + 1))) = some (r1, r2, r3, r4, r5, r6, r7) := by rw [if_pos rfl] at H; exact H
      clear H
      have H := H1
      clear H1
      have H' := J0.m H
      clear H
      have p6 : 0 ≤ (x7_1 : Int) := dQ
      have q6 : x7_1 < (a0.size : Int) := dQ
      have hx6 := Qb2 a0 x7_1
      replace p6 := eq_true p6
      replace q6 := eq_true q6
      go_wp2_with (first | (go_at_call 64; (with_reducible refine (Qbb.calls (bt a0 x7_1) true _ A7.o).mono ?_); rintro e w' ⟨rfl, ⟨nd, rfl⟩⟩))
      go_roundg k1
      case measure => have := HK1.o; omega
      case rel => exact ⟨(wrap64 (x7_1 + 1)), (by first | rfl | (simp; done) | (simp [*]; done)), H', ⟨by have := HK1.o; omega⟩, ⟨by (with_reducible repeat (first | apply Qag | apply Qai | apply Qah)); exact BK149.o⟩, ⟨by repeat (first | (with_reducible first | exact HB.o | apply Qab | apply Qad | apply Qaf | refine Qan ?_ GE149.o) | exact HB.o)⟩⟩
     ·replace c8 := Bool.eq_false_iff.mpr c8
      subst c8
      have H1 : ((Qa1.f (bt a0 x7_1)).bind fun t151 => (if t151 = true then (Qa0.l0 k1 a0 a1 (wrap64 (x7_1 + 1))) else (if (wrap64 (x7_1 - a1)) > 64 then (some (0, (⟨#[]⟩ : ByteArray), 0, 0, 0, a1, 111)) else (if 0 ≤ a1 then (if a1 ≤ x7_1 then (if x7_1 ≤ (a0.size : Int) then (some (1, a0.extract (a1 : Int).toNat (x7_1 : Int).toNat, 0, a1, x7_1, 0, 0)) else (none)) else (none)) else (none))))) = some (r1, r2, r3, r4, r5, r6, r7) := by rw [if_neg (show ¬ (false = true) by decide)] at H; exact H
      clear H
      have H := H1
      clear H1
      replace H := Option.bind_eq_some_iff.mp H
      obtain ⟨t151, A100, H⟩ := H
      replace H : (if t151 = true then (Qa0.l0 k1 a0 a1 (wrap64 (x7_1 + 1))) else (if (wrap64 (x7_1 - a1)) > 64 then (some (0, (⟨#[]⟩ : ByteArray), 0, 0, 0, a1, 111)) else (if 0 ≤ a1 then (if a1 ≤ x7_1 then (if x7_1 ≤ (a0.size : Int) then (some (1, a0.extract (a1 : Int).toNat (x7_1 : Int).toNat, 0, a1, x7_1, 0, 0)) else (none)) else (none)) else (none)))) = some (r1, r2, r3, r4, r5, r6, r7) := H
      have A10 := J0.m A100
      clear A100
      by_cases c11 : t151 = true
      ·subst c11
       have H1 : (Qa0.l0 k1 a0 a1 (wrap64 (x7_1 + 1))) = some (r1, r2, r3, r4, r5, r6, r7) := by rw [if_pos rfl] at H; exact H
       clear H
       have H := H1
       clear H1
       have H' := J0.m H
       clear H
       have p6 : 0 ≤ (x7_1 : Int) := dQ
       have q6 : x7_1 < (a0.size : Int) := dQ
       have hx6 := Qb2 a0 x7_1
       replace p6 := eq_true p6
       replace q6 := eq_true q6
       go_wp2_with (first | (go_at_call 64; (with_reducible refine (Qbb.calls (bt a0 x7_1) false _ A7.o).mono ?_); rintro e w' ⟨rfl, ⟨nd, rfl⟩⟩; have p9 : 0 ≤ (x7_1 : Int) := dQ; have q9 : x7_1 < (a0.size : Int) := dQ; have hx9 := Qb2 a0 x7_1; replace p9 := eq_true p9; replace q9 := eq_true q9) | (go_at_call 66; (with_reducible refine (Qa1.calls (bt a0 x7_1) true _ A10.o).mono ?_); rintro e w' ⟨rfl, ⟨nd, rfl⟩⟩))
       go_roundg k1
       case measure => have := HK1.o; omega
       case rel => exact ⟨(wrap64 (x7_1 + 1)), (by first | rfl | (simp; done) | (simp [*]; done)), H', ⟨by have := HK1.o; omega⟩, ⟨by (with_reducible repeat (first | apply Qag | apply Qai | apply Qah)); exact BK149.o⟩, ⟨by repeat (first | (with_reducible first | exact HB.o | apply Qab | apply Qad | apply Qaf | refine Qan ?_ GE149.o) | exact HB.o)⟩⟩
      ·replace c11 := Bool.eq_false_iff.mpr c11
       subst c11
       have H1 : (if (wrap64 (x7_1 - a1)) > 64 then (some (0, (⟨#[]⟩ : ByteArray), 0, 0, 0, a1, 111)) else (if 0 ≤ a1 then (if a1 ≤ x7_1 then (if x7_1 ≤ (a0.size : Int) then (some (1, a0.extract (a1 : Int).toNat (x7_1 : Int).toNat, 0, a1, x7_1, 0, 0)) else (none)) else (none)) else (none))) = some (r1, r2, r3, r4, r5, r6, r7) := by rw [if_neg (show ¬ (false = true) by decide)] at H; exact H
       clear H
       have H := H1
       clear H1
       by_cases c12 : (wrap64 (x7_1 - a1)) > 64
       ·rw [if_pos c12] at H
        have c12b0 : decide (64 < (wrap64 (x7_1 - a1))) = true := decide_eq_true c12
        clear c12
        simp only [Option.some.injEq, Prod.mk.injEq] at H
        obtain ⟨rfl, rfl, rfl, rfl, rfl, rfl, rfl⟩ := H
        have p6 : 0 ≤ (x7_1 : Int) := dQ
        have q6 : x7_1 < (a0.size : Int) := dQ
        have hx6 := Qb2 a0 x7_1
        replace p6 := eq_true p6
        replace q6 := eq_true q6
        go_wp2_with (first | (go_at_call 64; (with_reducible refine (Qbb.calls (bt a0 x7_1) false _ A7.o).mono ?_); rintro e w' ⟨rfl, ⟨nd, rfl⟩⟩; (try (rw [Qb6 wr]; generalize hq_ : World.drewN wr _ = wr; have n0_ : J0 (wr.heap[gb149]? = some (.cells #[.int .i64 0, .string ⟨#[]⟩, .int .u64 0, .int .i64 0, .int .i64 0] 47 (0, 0))) := ⟨by rw [← hq_]; exact (by (with_reducible repeat (first | apply Qag | apply Qai | apply Qah)); exact BK149.o)⟩; have n1_ : J0 (Below w.heap.size w wr) := ⟨by rw [← hq_]; exact (by repeat (first | (with_reducible first | exact HB.o | apply Qab | apply Qad | apply Qaf | refine Qan ?_ GE149.o) | exact HB.o))⟩; clear BK149 HB hq_; have BK149 := n0_; have HB := n1_; clear n0_ n1_)); have p9 : 0 ≤ (x7_1 : Int) := dQ; have q9 : x7_1 < (a0.size : Int) := dQ; have hx9 := Qb2 a0 x7_1; replace p9 := eq_true p9; replace q9 := eq_true q9) | (go_at_call 66; (with_reducible refine (Qa1.calls (bt a0 x7_1) false _ A10.o).mono ?_); rintro e w' ⟨rfl, ⟨nd, rfl⟩⟩; (try (rw [Qb6 wr]; generalize hq_ : World.drewN wr _ = wr; have n0_ : J0 (wr.heap[gb149]? = some (.cells #[.int .i64 0, .string ⟨#[]⟩, .int .u64 0, .int .i64 0, .int .i64 0] 47 (0, 0))) := ⟨by rw [← hq_]; exact (by (with_reducible repeat (first | apply Qag | apply Qai | apply Qah)); exact BK149.o)⟩; have n1_ : J0 (Below w.heap.size w wr) := ⟨by rw [← hq_]; exact (by repeat (first | (with_reducible first | exact HB.o | apply Qab | apply Qad | apply Qaf | refine Qan ?_ GE149.o) | exact HB.o))⟩; clear BK149 HB hq_; have BK149 := n0_; have HB := n1_; clear n0_ n1_)); obtain ⟨hcz13_0, hcz13_1, hcz13_2, hcz13_3, hcz13_4⟩ := (bx5 BK149.o); have hfz13_0 := Qaa BK149.o 0; have hfz13_1 := Qaa BK149.o 1; have hfz13_2 := Qaa BK149.o 2; have hfz13_3 := Qaa BK149.o 3; have hfz13_4 := Qaa BK149.o 4))
        refine bodyPost_ret (Qbc rfl _ _ gb149 47 #[.int .i64 0, .string ⟨#[]⟩, .int .u64 0, .int .i64 0, .int .i64 0] (0, 0) _ rfl (by (with_reducible repeat (first | apply Qag | apply Qai | apply Qah)); apply sv5; (with_reducible repeat (first | apply Qag | apply Qai | apply Qah)); exact BK149.o) Try.underlying47 rfl (by kernel_rfl)) rfl ?_
        exact ⟨by first | rfl | (simp [Qax, Qaw] <;> rfl) | (simp [*, Qax, Qaw] <;> rfl), by repeat (first | (with_reducible first | exact HB.o | apply Qab | apply Qad | apply Qaf | refine Qan ?_ GE149.o) | exact HB.o)⟩
       ·rw [if_neg c12] at H
        have c12b0 : decide (64 < (wrap64 (x7_1 - a1))) = false := decide_eq_false c12
        clear c12
        by_cases c14 : 0 ≤ a1
        ·rw [if_pos c14] at H
         have c14b0 := eq_true c14
         have c14b1 : decide (0 ≤ a1) = true := decide_eq_true c14
         clear c14
         by_cases c15 : a1 ≤ x7_1
         ·rw [if_pos c15] at H
          have c15b0 := eq_true c15
          have c15b1 : decide (a1 ≤ x7_1) = true := decide_eq_true c15
          clear c15
          by_cases c16 : x7_1 ≤ (a0.size : Int)
          ·rw [if_pos c16] at H
           have c16b0 := eq_true c16
           have c16b1 : decide (x7_1 ≤ (a0.size : Int)) = true := decide_eq_true c16
           clear c16
           simp only [Option.some.injEq, Prod.mk.injEq] at H
           obtain ⟨rfl, rfl, rfl, rfl, rfl, rfl, rfl⟩ := H
           have p6 : 0 ≤ (x7_1 : Int) := dQ
           have q6 : x7_1 < (a0.size : Int) := dQ
           have hx6 := Qb2 a0 x7_1
           replace p6 := eq_true p6
           replace q6 := eq_true q6
           go_wp2_with (first | (go_at_call 64; (with_reducible refine (Qbb.calls (bt a0 x7_1) false _ A7.o).mono ?_); rintro e w' ⟨rfl, ⟨nd, rfl⟩⟩; (try (rw [Qb6 wr]; generalize hq_ : World.drewN wr _ = wr; have n0_ : J0 (wr.heap[gb149]? = some (.cells #[.int .i64 0, .string ⟨#[]⟩, .int .u64 0, .int .i64 0, .int .i64 0] 47 (0, 0))) := ⟨by rw [← hq_]; exact (by (with_reducible repeat (first | apply Qag | apply Qai | apply Qah)); exact BK149.o)⟩; have n1_ : J0 (Below w.heap.size w wr) := ⟨by rw [← hq_]; exact (by repeat (first | (with_reducible first | exact HB.o | apply Qab | apply Qad | apply Qaf | refine Qan ?_ GE149.o) | exact HB.o))⟩; clear BK149 HB hq_; have BK149 := n0_; have HB := n1_; clear n0_ n1_)); have p9 : 0 ≤ (x7_1 : Int) := dQ; have q9 : x7_1 < (a0.size : Int) := dQ; have hx9 := Qb2 a0 x7_1; replace p9 := eq_true p9; replace q9 := eq_true q9) | (go_at_call 66; (with_reducible refine (Qa1.calls (bt a0 x7_1) false _ A10.o).mono ?_); rintro e w' ⟨rfl, ⟨nd, rfl⟩⟩; (try (rw [Qb6 wr]; generalize hq_ : World.drewN wr _ = wr; have n0_ : J0 (wr.heap[gb149]? = some (.cells #[.int .i64 0, .string ⟨#[]⟩, .int .u64 0, .int .i64 0, .int .i64 0] 47 (0, 0))) := ⟨by rw [← hq_]; exact (by (with_reducible repeat (first | apply Qag | apply Qai | apply Qah)); exact BK149.o)⟩; have n1_ : J0 (Below w.heap.size w wr) := ⟨by rw [← hq_]; exact (by repeat (first | (with_reducible first | exact HB.o | apply Qab | apply Qad | apply Qaf | refine Qan ?_ GE149.o) | exact HB.o))⟩; clear BK149 HB hq_; have BK149 := n0_; have HB := n1_; clear n0_ n1_)); obtain ⟨hcz17_0, hcz17_1, hcz17_2, hcz17_3, hcz17_4⟩ := (bx5 BK149.o); have hfz17_0 := Qaa BK149.o 0; have hfz17_1 := Qaa BK149.o 1; have hfz17_2 := Qaa BK149.o 2; have hfz17_3 := Qaa BK149.o 3; have hfz17_4 := Qaa BK149.o 4))
           refine bodyPost_ret (Qbc rfl _ _ gb149 47 #[.int .i64 1, .string (a0.extract (a1 : Int).toNat (x7_1 : Int).toNat), .int .u64 0, .int .i64 a1, .int .i64 x7_1] (0, 0) _ rfl (by (with_reducible repeat (first | apply Qag | apply Qai | apply Qah)); apply sv5; (with_reducible repeat (first | apply Qag | apply Qai | apply Qah)); exact BK149.o) Try.underlying47 rfl (by kernel_rfl)) rfl ?_
           exact ⟨by first | rfl | (simp [Qax, Qaw] <;> rfl) | (simp [*, Qax, Qaw] <;> rfl), by repeat (first | (with_reducible first | exact HB.o | apply Qab | apply Qad | apply Qaf | refine Qan ?_ GE149.o) | exact HB.o)⟩
          ·rw [if_neg c16] at H
           exact absurd H (by simp)
         ·rw [if_neg c15] at H
          exact absurd H (by simp)
        ·rw [if_neg c14] at H
         exact absurd H (by simp)
    ·rw [if_neg c5] at H
     exact absurd H (by simp)
   ·rw [if_neg c4] at H
    have c4b0 : decide (x7_1 < (a0.size : Int)) = false := decide_eq_false c4
    clear c4
    by_cases c18 : (wrap64 (x7_1 - a1)) > 64
    ·rw [if_pos c18] at H
     have c18b0 : decide (64 < (wrap64 (x7_1 - a1))) = true := decide_eq_true c18
     clear c18
     simp only [Option.some.injEq, Prod.mk.injEq] at H
     obtain ⟨rfl, rfl, rfl, rfl, rfl, rfl, rfl⟩ := H
     have hcz19_0 : wr.cell? ⟨gb149, 0, none⟩ = some (.int .i64 0) := (Qac BK149.o 0).trans rfl
     have hcz19_1 : wr.cell? ⟨gb149, 1, none⟩ = some (.string ⟨#[]⟩) := (Qac BK149.o 1).trans rfl
     have hcz19_2 : wr.cell? ⟨gb149, 2, none⟩ = some (.int .u64 0) := (Qac BK149.o 2).trans rfl
     have hcz19_3 : wr.cell? ⟨gb149, 3, none⟩ = some (.int .i64 0) := (Qac BK149.o 3).trans rfl
     have hcz19_4 : wr.cell? ⟨gb149, 4, none⟩ = some (.int .i64 0) := (Qac BK149.o 4).trans rfl
     have hfz19_0 := Qaa BK149.o 0
     have hfz19_1 := Qaa BK149.o 1
     have hfz19_2 := Qaa BK149.o 2
     have hfz19_3 := Qaa BK149.o 3
     have hfz19_4 := Qaa BK149.o 4
     go_wp2
     refine bodyPost_ret (Qbc rfl _ _ gb149 47 #[.int .i64 0, .string ⟨#[]⟩, .int .u64 0, .int .i64 0, .int .i64 0] (0, 0) _ rfl (by (with_reducible repeat (first | apply Qag | apply Qai | apply Qah)); apply sv5; (with_reducible repeat (first | apply Qag | apply Qai | apply Qah)); exact BK149.o) Try.underlying47 rfl (by kernel_rfl)) rfl ?_
     exact ⟨by first | rfl | (simp [Qax, Qaw] <;> rfl) | (simp [*, Qax, Qaw] <;> rfl), by repeat (first | (with_reducible first | exact HB.o | apply Qab | apply Qad | apply Qaf | refine Qan ?_ GE149.o) | exact HB.o)⟩
    ·rw [if_neg c18] at H
     have c18b0 : decide (64 < (wrap64 (x7_1 - a1))) = false := decide_eq_false c18
     clear c18
     by_cases c20 : 0 ≤ a1
     ·rw [if_pos c20] at H
      have c20b0 := eq_true c20
      have c20b1 : decide (0 ≤ a1) = true := decide_eq_true c20
      clear c20
      by_cases c21 : a1 ≤ x7_1
      ·rw [if_pos c21] at H
       have c21b0 := eq_true c21
       have c21b1 : decide (a1 ≤ x7_1) = true := decide_eq_true c21
       clear c21
       by_cases c22 : x7_1 ≤ (a0.size : Int)
       ·rw [if_pos c22] at H
        have c22b0 := eq_true c22
        have c22b1 : decide (x7_1 ≤ (a0.size : Int)) = true := decide_eq_true c22
        clear c22
        simp only [Option.some.injEq, Prod.mk.injEq] at H
        obtain ⟨rfl, rfl, rfl, rfl, rfl, rfl, rfl⟩ := H
        have hcz23_0 : wr.cell? ⟨gb149, 0, none⟩ = some (.int .i64 0) := (Qac BK149.o 0).trans rfl
        have hcz23_1 : wr.cell? ⟨gb149, 1, none⟩ = some (.string ⟨#[]⟩) := (Qac BK149.o 1).trans rfl
        have hcz23_2 : wr.cell? ⟨gb149, 2, none⟩ = some (.int .u64 0) := (Qac BK149.o 2).trans rfl
        have hcz23_3 : wr.cell? ⟨gb149, 3, none⟩ = some (.int .i64 0) := (Qac BK149.o 3).trans rfl
        have hcz23_4 : wr.cell? ⟨gb149, 4, none⟩ = some (.int .i64 0) := (Qac BK149.o 4).trans rfl
        have hfz23_0 := Qaa BK149.o 0
        have hfz23_1 := Qaa BK149.o 1
        have hfz23_2 := Qaa BK149.o 2
        have hfz23_3 := Qaa BK149.o 3
        have hfz23_4 := Qaa BK149.o 4
        go_wp2
        refine bodyPost_ret (Qbc rfl _ _ gb149 47 #[.int .i64 1, .string (a0.extract (a1 : Int).toNat (x7_1 : Int).toNat), .int .u64 0, .int .i64 a1, .int .i64 x7_1] (0, 0) _ rfl (by (with_reducible repeat (first | apply Qag | apply Qai | apply Qah)); apply sv5; (with_reducible repeat (first | apply Qag | apply Qai | apply Qah)); exact BK149.o) Try.underlying47 rfl (by kernel_rfl)) rfl ?_
        exact ⟨by first | rfl | (simp [Qax, Qaw] <;> rfl) | (simp [*, Qax, Qaw] <;> rfl), by repeat (first | (with_reducible first | exact HB.o | apply Qab | apply Qad | apply Qaf | refine Qan ?_ GE149.o) | exact HB.o)⟩
       ·rw [if_neg c22] at H
        exact absurd H (by simp)
      ·rw [if_neg c21] at H
       exact absurd H (by simp)
     ·rw [if_neg c20] at H
      exact absurd H (by simp)
mutual
def Qal.l0 : Nat → ByteArray → Int → Int → Int → Bool → Option (Int × ByteArray × Int × Int × Int × Int × Int)
 | 0, _, _, _, _, _ => none
 | k + 1, x0, x1, x7, x8, x9 => if x7 < (x0.size : Int) then (if 0 ≤ x7 then ((Qa1.f (bt x0 x7)).bind fun t153 => (Qal.j1 k x0 x1 x7 x8 x9 t153)) else (none)) else (Qal.j1 k x0 x1 x7 x8 x9 false)
def Qal.j1 : Nat → ByteArray → Int → Int → Int → Bool → Bool → Option (Int × ByteArray × Int × Int × Int × Int × Int)
 | 0, _, _, _, _, _, _ => none
 | k + 1, x0, x1, x7, x8, x9, x21 => if x21 = true then (if 0 ≤ x7 then (if x7 < (x0.size : Int) then (if x8 > 1844674407370955161 then (Qal.l0 k x0 x1 (wrap64 (x7 + 1)) (IntKind.u64.wrap ((IntKind.u64.wrap (x8 * 10)) + (((bt x0 x7) - 48) % 256))) true) else (if (IntKind.u64.wrap (x8 * 10)) > (18446744073709551615 - (((bt x0 x7) - 48) % 256)) then (Qal.l0 k x0 x1 (wrap64 (x7 + 1)) (IntKind.u64.wrap ((IntKind.u64.wrap (x8 * 10)) + (((bt x0 x7) - 48) % 256))) true) else (Qal.l0 k x0 x1 (wrap64 (x7 + 1)) (IntKind.u64.wrap ((IntKind.u64.wrap (x8 * 10)) + (((bt x0 x7) - 48) % 256))) x9))) else (none)) else (none)) else (if x9 = true then (some (0, (⟨#[]⟩ : ByteArray), 0, 0, 0, x1, 111)) else (some (2, (⟨#[]⟩ : ByteArray), x8, x1, x7, 0, 0)))
end
def Qal.f (k : Nat) (a0 : ByteArray) (a1 : Int) : Option (Int × ByteArray × Int × Int × Int × Int × Int) := Qal.l0 k a0 a1 a1 0 false
theorem Qal.calls (k : Nat) (a0 : ByteArray) (a1 : Int) (r1 : Int) (r2 : ByteArray) (r3 : Int) (r4 : Int) (r5 : Int) (r6 : Int) (r7 : Int) (w : World) (h : Qal.f k a0 a1 = some (r1, r2, r3, r4, r5, r6, r7)) :
  Calls Try.prog 67 #[.string a0, .int .i64 a1] w fun e w' => e = .returned (.tuple #[.agg #[.int .i64 r1, .string r2, .int .u64 r3, .int .i64 r4, .int .i64 r5], .int .i64 r6, .int .i64 r7]) ∧ Below w.heap.size w w' := by
 have hu47 := Try.underlying47
 have HB := J0.m (Below.refl w.heap.size w)
 have H : (Qal.l0 k a0 a1 a1 0 false) = some (r1, r2, r3, r4, r5, r6, r7) := h
 clear h
 have H' := J0.m H
 clear H
 go_enter Try.func67, Try.ntmps67
 go_wp2_with (first | ((with_reducible refine Qb0 (N := 4) rfl ?_); refine Qbu ?hg (N := 4) ?hd (cs := zT0) (t := 47) ?hr ?_; (case hd => rfl); (case hg => rfl); (case hr => first | (go_simp; done) | (go_simp; rfl)); intro gb152 hg w3 hbox hb; have n0_ := J0.m (Qak bR hb); have n1_ := J0.m (hbox); have n2_ := J0.m ((by rw [hg]; exact (Qbd bR) : w.heap.size ≤ gb152)); have n3_ := n2_; clear HB; have HB := n0_; have BK152 := n1_; have GW152 := n2_; have GE152 := n3_; clear n0_ n1_ n2_ n3_; clear hb hbox hg))
 go_loopg [7, 8, 9] k (fun kq v7 v8 v9 w' => ∃ (x7_1 : Int) (x8_1 : Int) (x9_1 : Bool), v7 = .int .i64 x7_1 ∧ v8 = .int .u64 x8_1 ∧ v9 = .bool x9_1 ∧ J0 (Qal.l0 kq a0 a1 x7_1 x8_1 x9_1 = some (r1, r2, r3, r4, r5, r6, r7)) ∧ J0 (kq ≤ k) ∧ J0 (w'.heap[gb152]? = some (.cells #[.int .i64 0, .string ⟨#[]⟩, .int .u64 0, .int .i64 0, .int .i64 0] 47 (0, 0))) ∧ J0 (Below w.heap.size w w'))
 case atStart => exact ⟨(a1), (0), (false), (by first | rfl | (simp; done) | (simp [*]; done)), (by first | rfl | (simp; done) | (simp [*]; done)), (by first | rfl | (simp; done) | (simp [*]; done)), H', ⟨Nat.le_refl _⟩, ⟨by (with_reducible repeat (first | apply Qag | apply Qai | apply Qah)); exact BK152.o⟩, ⟨by repeat (first | (with_reducible first | exact HB.o | apply Qab | apply Qad | apply Qaf | refine Qan ?_ GE152.o) | exact HB.o)⟩⟩
 case round =>
  clear H'
  try clear p2
  obtain ⟨x7_1, x8_1, x9_1, rfl, rfl, rfl, HA, HK1, BK152, HB⟩ := hrel
  cases gk with
  | zero => exact absurd HA.o (by simp [Qal.l0])
  | succ k1 =>
   have H := HA.o
   clear HA
   simp only [Qal.l0] at H
   have HC4 := J0.m H
   clear H
   go_upto_region 4 with (fail)
   go_cut [21] (fun v21 wc => ∃ (kq : Nat) (x21_3 : Bool), v21 = .bool x21_3 ∧ J0 (Qal.j1 kq a0 a1 x7_1 x8_1 x9_1 x21_3 = some (r1, r2, r3, r4, r5, r6, r7)) ∧ J0 (kq ≤ k1) ∧ J0 (wc.heap[gb152]? = some (.cells #[.int .i64 0, .string ⟨#[]⟩, .int .u64 0, .int .i64 0, .int .i64 0] 47 (0, 0))) ∧ J0 (Below w.heap.size w wc))
   case first =>
    have H := HC4.o
    clear HC4
    by_cases c5 : x7_1 < (a0.size : Int)
    ·rw [if_pos c5] at H
     have c5b0 : decide (x7_1 < (a0.size : Int)) = true := decide_eq_true c5
     clear c5
     (first | rw [c5b0] | (simp only [Qbj, Qbp]; rw [c5b0]) | skip)
     by_cases c6 : 0 ≤ x7_1
     ·rw [if_pos c6] at H
      have c6b0 : decide (0 ≤ x7_1) = true := decide_eq_true c6
      clear c6
      replace H := Option.bind_eq_some_iff.mp H
      obtain ⟨t153, A80, H⟩ := H
      replace H : (Qal.j1 k1 a0 a1 x7_1 x8_1 x9_1 t153) = some (r1, r2, r3, r4, r5, r6, r7) := H
      have A8 := J0.m A80
      clear A80
      have H' := J0.m H
      clear H
      have p7 : 0 ≤ (x7_1 : Int) := dQ
      have q7 : x7_1 < (a0.size : Int) := dQ
      have hx7 := Qb2 a0 x7_1
      replace p7 := eq_true p7
      replace q7 := eq_true q7
      go_wp2_with (first | (go_at_call 66; (with_reducible refine (Qa1.calls (bt a0 x7_1) t153 _ A8.o).mono ?_); rintro e w' ⟨rfl, ⟨nd, rfl⟩⟩))
      go_meet
      case rel => exact ⟨_, (t153), (by first | rfl | (simp; done) | (simp [*]; done)), H', ⟨by have := HK1.o; first | omega | exact Nat.le_refl _⟩, ⟨by (with_reducible repeat (first | apply Qag | apply Qai | apply Qah)); exact BK152.o⟩, ⟨by repeat (first | (with_reducible first | exact HB.o | apply Qab | apply Qad | apply Qaf | refine Qan ?_ GE152.o) | exact HB.o)⟩⟩
     ·rw [if_neg c6] at H
      exact absurd H (by simp)
    ·rw [if_neg c5] at H
     have c5b0 : decide (x7_1 < (a0.size : Int)) = false := decide_eq_false c5
     clear c5
     (first | rw [c5b0] | (simp only [Qbj, Qbp]; rw [c5b0]) | skip)
     have H' := J0.m H
     clear H
     go_wp2
     go_meet
     case rel => exact ⟨_, (false), (by first | rfl | (simp; done) | (simp [*]; done)), H', ⟨by have := HK1.o; first | omega | exact Nat.le_refl _⟩, ⟨by (with_reducible repeat (first | apply Qag | apply Qai | apply Qah)); exact BK152.o⟩, ⟨by repeat (first | (with_reducible first | exact HB.o | apply Qab | apply Qad | apply Qaf | refine Qan ?_ GE152.o) | exact HB.o)⟩⟩
   case rest =>
    clear HC4
    try clear p2
    try clear c5
    try clear c5b0
    try clear c6
    try clear c6b0
    try clear p7
    try clear q7
    try clear hx7
    try clear p2
    try clear p7
    try clear q7
    obtain ⟨kq, x21_3, rfl, HA, HJ3, BK152, HB⟩ := hcut
    cases kq with
    | zero => exact absurd HA.o (by simp [Qal.j1])
    | succ kj3 =>
     have H := HA.o
     clear HA
     simp only [Qal.j1] at H
     by_cases c9 : x21_3 = true
     ·subst c9
      have H1 : (if 0 ≤ x7_1 then (if x7_1 < (a0.size : Int) then (if x8_1 > 1844674407370955161 then (Qal.l0 kj3 a0 a1 (wrap64 (x7_1 + 1)) (IntKind.u64.wrap ((IntKind.u64.wrap (x8_1 * 10)) + (((bt a0 x7_1) - 48) % 256))) true) else (if (IntKind.u64.wrap (x8_1 * 10)) > (18446744073709551615 - (((bt a0 x7_1) - 48) % 256)) then (Qal.l0 kj3 a0 a1 (wrap64 (x7_1 + 1)) (IntKind.u64.wrap ((IntKind.u64.wrap (x8_1 * 10)) + (((bt a0 x7_1) - 48) % 256))) true) else (Qal.l0 kj3 a0 a1 (wrap64 (x7_1 + 1)) (IntKind.u64.wrap ((IntKind.u64.wrap (x8_1 * 10)) + (((bt a0 x7_1) - 48) % 256))) x9_1))) else (none)) else (none)) = some (r1, r2, r3, r4, r5, r6, r7) := by rw [if_pos rfl] at H; exact H
      clear H
      have H := H1
      clear H1
      by_cases c10 : 0 ≤ x7_1
      ·rw [if_pos c10] at H
       have c10b0 : decide (0 ≤ x7_1) = true := decide_eq_true c10
       clear c10
       by_cases c11 : x7_1 < (a0.size : Int)
       ·rw [if_pos c11] at H
        have c11b0 : decide (x7_1 < (a0.size : Int)) = true := decide_eq_true c11
        clear c11
        by_cases c13 : x8_1 > 1844674407370955161
        ·rw [if_pos c13] at H
         have c13b0 : decide (1844674407370955161 < x8_1) = true := decide_eq_true c13
         clear c13
         have H' := J0.m H
         clear H
         have p12 : 0 ≤ (x7_1 : Int) := dQ
         have q12 : x7_1 < (a0.size : Int) := dQ
         have hx12 := Qb2 a0 x7_1
         replace p12 := eq_true p12
         replace q12 := eq_true q12
         go_wp2
         go_roundg kj3
         case measure => have := HK1.o; have := HJ3.o; omega
         case rel => exact ⟨(wrap64 (x7_1 + 1)), (IntKind.u64.wrap ((IntKind.u64.wrap (x8_1 * 10)) + (((bt a0 x7_1) - 48) % 256))), (true), (by first | rfl | (simp; done) | (simp [*]; done)), (by first | rfl | (simp; done) | (simp [*]; done)), (by first | rfl | (simp; done) | (simp [*]; done)), H', ⟨by have := HK1.o; have := HJ3.o; omega⟩, ⟨by (with_reducible repeat (first | apply Qag | apply Qai | apply Qah)); exact BK152.o⟩, ⟨by repeat (first | (with_reducible first | exact HB.o | apply Qab | apply Qad | apply Qaf | refine Qan ?_ GE152.o) | exact HB.o)⟩⟩
        ·rw [if_neg c13] at H
         have c13b0 : decide (1844674407370955161 < x8_1) = false := decide_eq_false c13
         clear c13
         by_cases c14 : (IntKind.u64.wrap (x8_1 * 10)) > (18446744073709551615 - (((bt a0 x7_1) - 48) % 256))
         ·rw [if_pos c14] at H
          have c14b0 : decide ((18446744073709551615 - (((bt a0 x7_1) - 48) % 256)) < (IntKind.u64.wrap (x8_1 * 10))) = true := decide_eq_true c14
          clear c14
          have H' := J0.m H
          clear H
          have p12 : 0 ≤ (x7_1 : Int) := dQ
          have q12 : x7_1 < (a0.size : Int) := dQ
          have hx12 := Qb2 a0 x7_1
          replace p12 := eq_true p12
          replace q12 := eq_true q12
          go_wp2
          go_roundg kj3
          case measure => have := HK1.o; have := HJ3.o; omega
          case rel => exact ⟨(wrap64 (x7_1 + 1)), (IntKind.u64.wrap ((IntKind.u64.wrap (x8_1 * 10)) + (((bt a0 x7_1) - 48) % 256))), (true), (by first | rfl | (simp; done) | (simp [*]; done)), (by first | rfl | (simp; done) | (simp [*]; done)), (by first | rfl | (simp; done) | (simp [*]; done)), H', ⟨by have := HK1.o; have := HJ3.o; omega⟩, ⟨by (with_reducible repeat (first | apply Qag | apply Qai | apply Qah)); exact BK152.o⟩, ⟨by repeat (first | (with_reducible first | exact HB.o | apply Qab | apply Qad | apply Qaf | refine Qan ?_ GE152.o) | exact HB.o)⟩⟩
         ·rw [if_neg c14] at H
          have c14b0 : decide ((18446744073709551615 - (((bt a0 x7_1) - 48) % 256)) < (IntKind.u64.wrap (x8_1 * 10))) = false := decide_eq_false c14
          clear c14
          have H' := J0.m H
          clear H
          have p12 : 0 ≤ (x7_1 : Int) := dQ
          have q12 : x7_1 < (a0.size : Int) := dQ
          have hx12 := Qb2 a0 x7_1
          replace p12 := eq_true p12
          replace q12 := eq_true q12
          go_wp2
          go_roundg kj3
          case measure => have := HK1.o; have := HJ3.o; omega
          case rel => exact ⟨(wrap64 (x7_1 + 1)), (IntKind.u64.wrap ((IntKind.u64.wrap (x8_1 * 10)) + (((bt a0 x7_1) - 48) % 256))), (x9_1), (by first | rfl | (simp; done) | (simp [*]; done)), (by first | rfl | (simp; done) | (simp [*]; done)), (by first | rfl | (simp; done) | (simp [*]; done)), H', ⟨by have := HK1.o; have := HJ3.o; omega⟩, ⟨by (with_reducible repeat (first | apply Qag | apply Qai | apply Qah)); exact BK152.o⟩, ⟨by repeat (first | (with_reducible first | exact HB.o | apply Qab | apply Qad | apply Qaf | refine Qan ?_ GE152.o) | exact HB.o)⟩⟩
       ·rw [if_neg c11] at H
        exact absurd H (by simp)
      ·rw [if_neg c10] at H
       exact absurd H (by simp)
     ·replace c9 := Bool.eq_false_iff.mpr c9
      subst c9
      have H1 : (if x9_1 = true then (some (0, (⟨#[]⟩ : ByteArray), 0, 0, 0, a1, 111)) else (some (2, (⟨#[]⟩ : ByteArray), x8_1, a1, x7_1, 0, 0))) = some (r1, r2, r3, r4, r5, r6, r7) := by rw [if_neg (show ¬ (false = true) by decide)] at H; exact H
      clear H
      have H := H1
      clear H1
      by_cases c15 : x9_1 = true
      ·subst c15
       have H1 : (some (0, (⟨#[]⟩ : ByteArray), 0, 0, 0, a1, 111)) = some (r1, r2, r3, r4, r5, r6, r7) := by rw [if_pos rfl] at H; exact H
       clear H
       have H := H1
       clear H1
       simp only [Option.some.injEq, Prod.mk.injEq] at H
       obtain ⟨rfl, rfl, rfl, rfl, rfl, rfl, rfl⟩ := H
       have hcz16_0 : wc.cell? ⟨gb152, 0, none⟩ = some (.int .i64 0) := (Qac BK152.o 0).trans rfl
       have hcz16_1 : wc.cell? ⟨gb152, 1, none⟩ = some (.string ⟨#[]⟩) := (Qac BK152.o 1).trans rfl
       have hcz16_2 : wc.cell? ⟨gb152, 2, none⟩ = some (.int .u64 0) := (Qac BK152.o 2).trans rfl
       have hcz16_3 : wc.cell? ⟨gb152, 3, none⟩ = some (.int .i64 0) := (Qac BK152.o 3).trans rfl
       have hcz16_4 : wc.cell? ⟨gb152, 4, none⟩ = some (.int .i64 0) := (Qac BK152.o 4).trans rfl
       have hfz16_0 := Qaa BK152.o 0
       have hfz16_1 := Qaa BK152.o 1
       have hfz16_2 := Qaa BK152.o 2
       have hfz16_3 := Qaa BK152.o 3
       have hfz16_4 := Qaa BK152.o 4
       go_wp2
       refine bodyPost_ret (Qbc rfl _ _ gb152 47 #[.int .i64 0, .string ⟨#[]⟩, .int .u64 0, .int .i64 0, .int .i64 0] (0, 0) _ rfl (by (with_reducible repeat (first | apply Qag | apply Qai | apply Qah)); apply sv5; (with_reducible repeat (first | apply Qag | apply Qai | apply Qah)); exact BK152.o) Try.underlying47 rfl (by kernel_rfl)) rfl ?_
       exact ⟨by first | rfl | (simp [Qax, Qaw] <;> rfl) | (simp [*, Qax, Qaw] <;> rfl), by repeat (first | (with_reducible first | exact HB.o | apply Qab | apply Qad | apply Qaf | refine Qan ?_ GE152.o) | exact HB.o)⟩
      ·replace c15 := Bool.eq_false_iff.mpr c15
       subst c15
       have H1 : (some (2, (⟨#[]⟩ : ByteArray), x8_1, a1, x7_1, 0, 0)) = some (r1, r2, r3, r4, r5, r6, r7) := by rw [if_neg (show ¬ (false = true) by decide)] at H; exact H
       clear H
       have H := H1
       clear H1
       simp only [Option.some.injEq, Prod.mk.injEq] at H
       obtain ⟨rfl, rfl, rfl, rfl, rfl, rfl, rfl⟩ := H
       have hcz17_0 : wc.cell? ⟨gb152, 0, none⟩ = some (.int .i64 0) := (Qac BK152.o 0).trans rfl
       have hcz17_1 : wc.cell? ⟨gb152, 1, none⟩ = some (.string ⟨#[]⟩) := (Qac BK152.o 1).trans rfl
       have hcz17_2 : wc.cell? ⟨gb152, 2, none⟩ = some (.int .u64 0) := (Qac BK152.o 2).trans rfl
       have hcz17_3 : wc.cell? ⟨gb152, 3, none⟩ = some (.int .i64 0) := (Qac BK152.o 3).trans rfl
       have hcz17_4 : wc.cell? ⟨gb152, 4, none⟩ = some (.int .i64 0) := (Qac BK152.o 4).trans rfl
       have hfz17_0 := Qaa BK152.o 0
       have hfz17_1 := Qaa BK152.o 1
       have hfz17_2 := Qaa BK152.o 2
       have hfz17_3 := Qaa BK152.o 3
       have hfz17_4 := Qaa BK152.o 4
       go_wp2
       refine bodyPost_ret (Qbc rfl _ _ gb152 47 #[.int .i64 2, .string ⟨#[]⟩, .int .u64 x8_1, .int .i64 a1, .int .i64 x7_1] (0, 0) _ rfl (by (with_reducible repeat (first | apply Qag | apply Qai | apply Qah)); apply sv5; (with_reducible repeat (first | apply Qag | apply Qai | apply Qah)); exact BK152.o) Try.underlying47 rfl (by kernel_rfl)) rfl ?_
       exact ⟨by first | rfl | (simp [Qax, Qaw] <;> rfl) | (simp [*, Qax, Qaw] <;> rfl), by repeat (first | (with_reducible first | exact HB.o | apply Qab | apply Qad | apply Qaf | refine Qan ?_ GE152.o) | exact HB.o)⟩
def Qao.j0 : Nat → Int → Bool → Option (Int)
 | 0, _, _ => none
 | k + 1, x0, x9 => if x9 = true then (some (((x0 - 97) % 256) + 10)) else (if x0 ≥ 65 then (if x0 ≤ 70 then (some (((x0 - 65) % 256) + 10)) else (some (-1))) else (some (-1)))
def Qao.f (k : Nat) (a0 : Int) : Option (Int) := (Qa1.f a0).bind fun t154 => (if t154 = true then (some ((a0 - 48) % 256)) else (if a0 ≥ 97 then (Qao.j0 k a0 (decide (a0 ≤ 102))) else (Qao.j0 k a0 false)))
theorem Qao.calls (k : Nat) (a0 : Int) (r : Int) (w : World) (h : Qao.f k a0 = some r) :
  Calls Try.prog 92 #[.int .u8 a0] w fun e w' => e = .returned (.int .i64 r) ∧ Qbe w w' := by
 have H : ((Qa1.f a0).bind fun t154 => (if t154 = true then (some ((a0 - 48) % 256)) else (if a0 ≥ 97 then (Qao.j0 k a0 (decide (a0 ≤ 102))) else (Qao.j0 k a0 false)))) = some r := h
 clear h
 replace H := Option.bind_eq_some_iff.mp H
 obtain ⟨t154, A20, H⟩ := H
 replace H : (if t154 = true then (some ((a0 - 48) % 256)) else (if a0 ≥ 97 then (Qao.j0 k a0 (decide (a0 ≤ 102))) else (Qao.j0 k a0 false))) = some r := H
 have A2 := J0.m A20
 clear A20
 by_cases c3 : t154 = true
 ·subst c3
  have H1 : (some ((a0 - 48) % 256)) = some r := by rw [if_pos rfl] at H; exact H
  clear H
  have H := H1
  clear H1
  obtain rfl := Option.some.inj H
  go_enter Try.func92, Try.ntmps92
  go_wp2_with (first | ((with_reducible refine Qat (f := 66) rfl ?_); refine Qbt (some 5) rfl rfl Try.func66 (by kernel_rfl) rfl #[.int .u8 a0] rfl mQ ?_; (with_reducible refine (Qa1.calls a0 true _ A2.o).mono ?_); rintro e w' ⟨rfl, ⟨nd, rfl⟩⟩; refine ⟨_, rfl, ?_⟩))
  go_ret
  exact eQ
 ·replace c3 := Bool.eq_false_iff.mpr c3
  subst c3
  have H1 : (if a0 ≥ 97 then (Qao.j0 k a0 (decide (a0 ≤ 102))) else (Qao.j0 k a0 false)) = some r := by rw [if_neg (show ¬ (false = true) by decide)] at H; exact H
  clear H
  have H := H1
  clear H1
  have HC4 := J0.m H
  clear H
  go_enter Try.func92, Try.ntmps92
  go_upto_region 3 with (first | ((with_reducible refine Qat (f := 66) rfl ?_); refine Qbt (some 5) rfl rfl Try.func66 (by kernel_rfl) rfl #[.int .u8 a0] rfl mQ ?_; (with_reducible refine (Qa1.calls a0 false _ A2.o).mono ?_); rintro e w' ⟨rfl, ⟨nd, rfl⟩⟩; refine ⟨_, rfl, ?_⟩))
  (try simp only [Act.put, List.setIfInBounds_toArray, List.set_cons_zero, List.set_cons_succ])
  go_cut [9] (fun v9 wc => ∃ (kq : Nat) (x9_3 : Bool), v9 = .bool x9_3 ∧ J0 (Qao.j0 kq a0 x9_3 = some r) ∧ J0 (kq ≤ k) ∧ Qbe w wc)
  case first =>
   have H := HC4.o
   clear HC4
   by_cases c5 : a0 ≥ 97
   ·rw [if_pos c5] at H
    have c5b0 : decide (97 ≤ a0) = true := decide_eq_true c5
    clear c5
    (first | rw [c5b0] | (simp only [Qbj, Qbp]; rw [c5b0]) | skip)
    have H' := J0.m H
    clear H
    go_wp2
    go_meet
    case rel => exact ⟨_, (decide (a0 ≤ 102)), (by first | rfl | (simp; done) | (simp [*]; done)), H', ⟨by first | omega | exact Nat.le_refl _⟩, dR⟩
   ·rw [if_neg c5] at H
    have c5b0 : decide (97 ≤ a0) = false := decide_eq_false c5
    clear c5
    (first | rw [c5b0] | (simp only [Qbj, Qbp]; rw [c5b0]) | skip)
    have H' := J0.m H
    clear H
    go_wp2
    go_meet
    case rel => exact ⟨_, (false), (by first | rfl | (simp; done) | (simp [*]; done)), H', ⟨by first | omega | exact Nat.le_refl _⟩, dR⟩
  case rest =>
   clear HC4
   try clear p2
   try clear c3
   try clear c5
   try clear c5b0
   obtain ⟨kq, x9_3, rfl, HA, HJ3, ⟨mc3, rfl⟩⟩ := hcut
   cases kq with
   | zero => exact absurd HA.o (by simp [Qao.j0])
   | succ kj3 =>
    have H := HA.o
    clear HA
    simp only [Qao.j0] at H
    by_cases c6 : x9_3 = true
    ·subst c6
     have H1 : (some (((a0 - 97) % 256) + 10)) = some r := by rw [if_pos rfl] at H; exact H
     clear H
     have H := H1
     clear H1
     obtain rfl := Option.some.inj H
     go_wp2
     go_ret
     exact eQ
    ·replace c6 := Bool.eq_false_iff.mpr c6
     subst c6
     have H1 : (if a0 ≥ 65 then (if a0 ≤ 70 then (some (((a0 - 65) % 256) + 10)) else (some (-1))) else (some (-1))) = some r := by rw [if_neg (show ¬ (false = true) by decide)] at H; exact H
     clear H
     have H := H1
     clear H1
     by_cases c7 : a0 ≥ 65
     ·rw [if_pos c7] at H
      have c7b0 : decide (65 ≤ a0) = true := decide_eq_true c7
      clear c7
      by_cases c8 : a0 ≤ 70
      ·rw [if_pos c8] at H
       have c8b0 : decide (a0 ≤ 70) = true := decide_eq_true c8
       clear c8
       obtain rfl := Option.some.inj H
       go_wp2
       go_ret
       exact eQ
      ·rw [if_neg c8] at H
       have c8b0 : decide (a0 ≤ 70) = false := decide_eq_false c8
       clear c8
       obtain rfl := Option.some.inj H
       go_wp2
       go_ret
       exact eQ
     ·rw [if_neg c7] at H
      have c7b0 : decide (65 ≤ a0) = false := decide_eq_false c7
      clear c7
      obtain rfl := Option.some.inj H
      go_wp2
      go_ret
      exact eQ
end Go.Proofs.Ytbdcndkafaajpaa.X
end
section
namespace Go.Proofs.Ytbdcndkafaajpaa.X
open Go.RowKit YtbdcndkafaajpaaW.PrintWords YtbdcndkafaajpaaW.PrintLast YtbdcndkafaajpaaW.PrintMore
attribute [local go_sem] Qdz Qdx Qes Qer Qdm Qdl Qdy Qdw
mutual
def Qam.j0 : Nat → ByteArray → Int → Int → Bool → Option (Int × Int)
 | 0, _, _, _, _ => none
 | k + 1, x0, x1, x14, x15 => if x15 = true then (if 0 ≤ (wrap64 (x1 + 1)) then (if (wrap64 (x1 + 1)) < (x0.size : Int) then (some (bt x0 (wrap64 (x1 + 1)), 2)) else (none)) else (none)) else (if x14 = 110 then (some (10, 2)) else (if x14 = 116 then (some (9, 2)) else (if x14 = 120 then (if (wrap64 (x1 + 3)) < (x0.size : Int) then (if 0 ≤ (wrap64 (x1 + 2)) then (if (wrap64 (x1 + 2)) < (x0.size : Int) then ((Qao.f k (bt x0 (wrap64 (x1 + 2)))).bind fun t155 => (if t155 ≥ 0 then (if 0 ≤ (wrap64 (x1 + 3)) then ((Qao.f k (bt x0 (wrap64 (x1 + 3)))).bind fun t156 => (Qam.j1 k x0 x1 (decide (t156 ≥ 0)))) else (none)) else (Qam.j1 k x0 x1 false))) else (none)) else (none)) else (Qam.j1 k x0 x1 false)) else (some (0, 0)))))
def Qam.j1 : Nat → ByteArray → Int → Bool → Option (Int × Int)
 | 0, _, _, _ => none
 | k + 1, x0, x1, x48 => if x48 = true then (if 0 ≤ (wrap64 (x1 + 2)) then (if (wrap64 (x1 + 2)) < (x0.size : Int) then ((Qao.f k (bt x0 (wrap64 (x1 + 2)))).bind fun t157 => (if 0 ≤ (wrap64 (x1 + 3)) then (if (wrap64 (x1 + 3)) < (x0.size : Int) then ((Qao.f k (bt x0 (wrap64 (x1 + 3)))).bind fun t158 => (some ((wrap64 ((wrap64 (16 * t157)) + t158)) % 256, 4))) else (none)) else (none))) else (none)) else (none)) else (some (0, 0))
end
def Qam.f (k : Nat) (a0 : ByteArray) (a1 : Int) : Option (Int × Int) := if (wrap64 (a1 + 1)) ≥ (a0.size : Int) then (some (0, 0)) else (if 0 ≤ (wrap64 (a1 + 1)) then (if (wrap64 (a1 + 1)) < (a0.size : Int) then (if (bt a0 (wrap64 (a1 + 1))) = 92 then (Qam.j0 k a0 a1 (bt a0 (wrap64 (a1 + 1))) ((bt a0 (wrap64 (a1 + 1))) == 92)) else (Qam.j0 k a0 a1 (bt a0 (wrap64 (a1 + 1))) ((bt a0 (wrap64 (a1 + 1))) == 34))) else (none)) else (none))
theorem Qam.calls (k : Nat) (a0 : ByteArray) (a1 : Int) (r1 : Int) (r2 : Int) (w : World) (h : Qam.f k a0 a1 = some (r1, r2)) :
  Calls Try.prog 84 #[.string a0, .int .i64 a1] w fun e w' => e = .returned (.tuple #[.int .u8 r1, .int .i64 r2]) ∧ Qbe w w' := by
 have H : (if (wrap64 (a1 + 1)) ≥ (a0.size : Int) then (some (0, 0)) else (if 0 ≤ (wrap64 (a1 + 1)) then (if (wrap64 (a1 + 1)) < (a0.size : Int) then (if (bt a0 (wrap64 (a1 + 1))) = 92 then (Qam.j0 k a0 a1 (bt a0 (wrap64 (a1 + 1))) ((bt a0 (wrap64 (a1 + 1))) == 92)) else (Qam.j0 k a0 a1 (bt a0 (wrap64 (a1 + 1))) ((bt a0 (wrap64 (a1 + 1))) == 34))) else (none)) else (none))) = some (r1, r2) := h
 clear h
 by_cases c3 : (wrap64 (a1 + 1)) ≥ (a0.size : Int)
 ·rw [if_pos c3] at H
  have c3b0 : decide ((a0.size : Int) ≤ (wrap64 (a1 + 1))) = true := decide_eq_true c3
  clear c3
  simp only [Option.some.injEq, Prod.mk.injEq] at H
  obtain ⟨rfl, rfl⟩ := H
  go_enter Try.func84, Try.ntmps84
  go_wp2
  repeat (go_quiet (fail); try go_wp2)
  go_ret2
  exact eQ
 ·rw [if_neg c3] at H
  have c3b0 : decide ((a0.size : Int) ≤ (wrap64 (a1 + 1))) = false := decide_eq_false c3
  clear c3
  obtain ⟨ji4, hji4⟩ : ∃ j_ : Int, (wrap64 (a1 + 1)) = j_ := ⟨_, rfl⟩
  replace H : (if 0 ≤ (ji4) then (if (ji4) < (a0.size : Int) then (if (bt a0 (ji4)) = 92 then (Qam.j0 k a0 a1 (bt a0 (ji4)) ((bt a0 (ji4)) == 92)) else (Qam.j0 k a0 a1 (bt a0 (ji4)) ((bt a0 (ji4)) == 34))) else (none)) else (none)) = some (r1, r2) := by first | (rw [hji4] at H; exact H) | (simp only [hji4] at H ⊢; exact H)
  (try rw [hji4] at c3b0)
  have hji4w : (IntKind.i64.wrap (a1 + 1)) = ji4 := (Qbj _).trans hji4
  by_cases c5 : 0 ≤ (ji4)
  ·rw [if_pos c5] at H
   have c5b0 : decide (0 ≤ (ji4)) = true := decide_eq_true c5
   clear c5
   by_cases c6 : (ji4) < (a0.size : Int)
   ·rw [if_pos c6] at H
    have c6b0 : decide ((ji4) < (a0.size : Int)) = true := decide_eq_true c6
    clear c6
    have HC8 := J0.m H
    clear H
    have p7 : 0 ≤ ((ji4) : Int) := dQ
    have q7 : (ji4) < (a0.size : Int) := dQ
    have hx7 := Qb2 a0 (ji4)
    replace p7 := eq_true p7
    replace q7 := eq_true q7
    go_enter Try.func84, Try.ntmps84
    go_upto_if 15 with (fail)
    repeat (go_quiet (fail); go_upto_if 15 with (fail))
    go_cut [15] (fun v15 wc => ∃ (kq : Nat) (x15_7 : Bool), v15 = .bool x15_7 ∧ J0 (Qam.j0 kq a0 a1 (bt a0 (ji4)) x15_7 = some (r1, r2)) ∧ J0 (kq ≤ k) ∧ Qbe w wc)
    case first =>
     have H := HC8.o
     clear HC8
     by_cases c9 : (bt a0 (ji4)) = 92
     ·rw [if_pos c9] at H
      have c9b0 : ((bt a0 (ji4)) == 92) = true := beq_iff_eq.mpr c9
      have c9b1 : ((bt a0 (ji4)) != 92) = false := bne_eq_false_iff_eq.mpr c9
      clear c9
      (first | rw [c9b0] | (simp only [Qbj, Qbp]; rw [c9b0]) | skip)
      have H' := J0.m H
      clear H
      go_wp2
      repeat (go_quiet (fail); try go_wp2)
      go_meet
      case rel => exact ⟨_, (((bt a0 (ji4)) == 92)), (by first | rfl | (simp; done) | (simp [*]; done) | (simp [Qbj, IntKind.wrap_u8]; done) | ((try simp only [← hji4]); (first | rfl | (simp; done))) | (simp [*]; done)), H', ⟨by first | omega | exact Nat.le_refl _⟩, dR⟩
     ·rw [if_neg c9] at H
      have c9b0 : ((bt a0 (ji4)) == 92) = false := beq_eq_false_iff_ne.mpr c9
      have c9b1 : ((bt a0 (ji4)) != 92) = true := bne_iff_ne.mpr c9
      (first | rw [c9b0] | (simp only [Qbj, Qbp]; rw [c9b0]) | skip)
      have H' := J0.m H
      clear H
      go_wp2
      repeat (go_quiet (fail); try go_wp2)
      go_meet
      case rel => exact ⟨_, (((bt a0 (ji4)) == 34)), (by first | rfl | (simp; done) | (simp [*]; done) | (simp [Qbj, IntKind.wrap_u8]; done) | ((try simp only [← hji4]); (first | rfl | (simp; done))) | (simp [*]; done)), H', ⟨by first | omega | exact Nat.le_refl _⟩, dR⟩
    case rest =>
     clear HC8
     try clear p2
     try clear c3
     try clear c3b0
     try clear c5
     try clear c5b0
     try clear c6
     try clear c6b0
     try clear p6
     try clear p7
     try clear q7
     try clear hx7
     try clear c8
     try clear c9
     try clear c9b0
     try clear c9b1
     try clear p7
     try clear q7
     obtain ⟨kq, x15_7, rfl, HA, HJ7, ⟨mc7, rfl⟩⟩ := hcut
     cases kq with
     | zero => exact absurd HA.o (by simp [Qam.j0])
     | succ kj7 =>
      have H := HA.o
      clear HA
      simp only [Qam.j0] at H
      by_cases c10 : x15_7 = true
      ·subst c10
       have H1 : (if 0 ≤ (wrap64 (a1 + 1)) then (if (wrap64 (a1 + 1)) < (a0.size : Int) then (some (bt a0 (wrap64 (a1 + 1)), 2)) else (none)) else (none)) = some (r1, r2) := by rw [if_pos rfl] at H; exact H
       clear H
       have H := H1
       clear H1
       try clear hji4
       try clear hji4w
       obtain ⟨ji11, hji11⟩ : ∃ j_ : Int, (wrap64 (a1 + 1)) = j_ := ⟨_, rfl⟩
       replace H : (if 0 ≤ (ji11) then (if (ji11) < (a0.size : Int) then (some (bt a0 (ji11), 2)) else (none)) else (none)) = some (r1, r2) := by first | (rw [hji11] at H; exact H) | (simp only [hji11] at H ⊢; exact H)
       (try rw [hji11] at c3b0)
       have hji11w : (IntKind.i64.wrap (a1 + 1)) = ji11 := (Qbj _).trans hji11
       by_cases c12 : 0 ≤ (ji11)
       ·rw [if_pos c12] at H
        have c12b0 : decide (0 ≤ (ji11)) = true := decide_eq_true c12
        clear c12
        by_cases c13 : (ji11) < (a0.size : Int)
        ·rw [if_pos c13] at H
         have c13b0 : decide ((ji11) < (a0.size : Int)) = true := decide_eq_true c13
         clear c13
         simp only [Option.some.injEq, Prod.mk.injEq] at H
         obtain ⟨rfl, rfl⟩ := H
         have p14 : 0 ≤ ((ji11) : Int) := dQ
         have q14 : (ji11) < (a0.size : Int) := dQ
         have hx14 := Qb2 a0 (ji11)
         replace p14 := eq_true p14
         replace q14 := eq_true q14
         go_wp2
         repeat (go_quiet (fail); try go_wp2)
         go_ret2
         exact ⟨by first | rfl | (simp; done) | (simp [*]; done) | (simp [Qbj, IntKind.wrap_u8]; done) | ((try simp only [← hji4]); (try simp only [← hji11]); (first | rfl | (simp; done))) | (simp [*]; done), dR⟩
        ·rw [if_neg c13] at H
         exact absurd H (by simp)
       ·rw [if_neg c12] at H
        exact absurd H (by simp)
      ·replace c10 := Bool.eq_false_iff.mpr c10
       subst c10
       have H1 : (if (bt a0 (ji4)) = 110 then (some (10, 2)) else (if (bt a0 (ji4)) = 116 then (some (9, 2)) else (if (bt a0 (ji4)) = 120 then (if (wrap64 (a1 + 3)) < (a0.size : Int) then (if 0 ≤ (wrap64 (a1 + 2)) then (if (wrap64 (a1 + 2)) < (a0.size : Int) then ((Qao.f kj7 (bt a0 (wrap64 (a1 + 2)))).bind fun t155 => (if t155 ≥ 0 then (if 0 ≤ (wrap64 (a1 + 3)) then ((Qao.f kj7 (bt a0 (wrap64 (a1 + 3)))).bind fun t156 => (Qam.j1 kj7 a0 a1 (decide (t156 ≥ 0)))) else (none)) else (Qam.j1 kj7 a0 a1 false))) else (none)) else (none)) else (Qam.j1 kj7 a0 a1 false)) else (some (0, 0))))) = some (r1, r2) := by rw [if_neg (show ¬ (false = true) by decide)] at H; exact H
       clear H
       have H := H1
       clear H1
       by_cases c15 : (bt a0 (ji4)) = 110
       ·rw [if_pos c15] at H
        have c15b0 : ((bt a0 (ji4)) == 110) = true := beq_iff_eq.mpr c15
        have c15b1 : ((bt a0 (ji4)) != 110) = false := bne_eq_false_iff_eq.mpr c15
        clear c15
        simp only [Option.some.injEq, Prod.mk.injEq] at H
        obtain ⟨rfl, rfl⟩ := H
        go_wp2
        repeat (go_quiet (fail); try go_wp2)
        go_ret2
        exact ⟨by first | rfl | (simp; done) | (simp [*]; done) | (simp [Qbj, IntKind.wrap_u8]; done) | ((try simp only [← hji4]); (first | rfl | (simp; done))) | (simp [*]; done), dR⟩
       ·rw [if_neg c15] at H
        have c15b0 : ((bt a0 (ji4)) == 110) = false := beq_eq_false_iff_ne.mpr c15
        have c15b1 : ((bt a0 (ji4)) != 110) = true := bne_iff_ne.mpr c15
        by_cases c16 : (bt a0 (ji4)) = 116
        ·rw [if_pos c16] at H
         have c16b0 : ((bt a0 (ji4)) == 116) = true := beq_iff_eq.mpr c16
         have c16b1 : ((bt a0 (ji4)) != 116) = false := bne_eq_false_iff_eq.mpr c16
         clear c16
         simp only [Option.some.injEq, Prod.mk.injEq] at H
         obtain ⟨rfl, rfl⟩ := H
         go_wp2
         repeat (go_quiet (fail); try go_wp2)
         go_ret2
         exact ⟨by first | rfl | (simp; done) | (simp [*]; done) | (simp [Qbj, IntKind.wrap_u8]; done) | ((try simp only [← hji4]); (first | rfl | (simp; done))) | (simp [*]; done), dR⟩
        ·rw [if_neg c16] at H
         have c16b0 : ((bt a0 (ji4)) == 116) = false := beq_eq_false_iff_ne.mpr c16
         have c16b1 : ((bt a0 (ji4)) != 116) = true := bne_iff_ne.mpr c16
         by_cases c17 : (bt a0 (ji4)) = 120
         ·rw [if_pos c17] at H
          have c17b0 : ((bt a0 (ji4)) == 120) = true := beq_iff_eq.mpr c17
          have c17b1 : ((bt a0 (ji4)) != 120) = false := bne_eq_false_iff_eq.mpr c17
          clear c17
          have HC18 := J0.m H
          clear H
          go_upto_region 12 with (fail)
          repeat (go_quiet (fail); go_upto_region 12 with (fail))
          go_cut [48] (fun v48 wc => ∃ (kq : Nat) (x48_17 : Bool), v48 = .bool x48_17 ∧ J0 (Qam.j1 kq a0 a1 x48_17 = some (r1, r2)) ∧ J0 (kq ≤ kj7) ∧ Qbe w wc)
          case first =>
           have H := HC18.o
           clear HC18
           by_cases c19 : (wrap64 (a1 + 3)) < (a0.size : Int)
           ·rw [if_pos c19] at H
            have c19b0 : decide ((wrap64 (a1 + 3)) < (a0.size : Int)) = true := decide_eq_true c19
            clear c19
            (first | rw [c19b0] | (simp only [Qbj, Qbp]; rw [c19b0]) | skip)
            obtain ⟨ji20, hji20⟩ : ∃ j_ : Int, (wrap64 (a1 + 2)) = j_ := ⟨_, rfl⟩
            replace H : (if 0 ≤ (ji20) then (if (ji20) < (a0.size : Int) then ((Qao.f kj7 (bt a0 (ji20))).bind fun t155 => (if t155 ≥ 0 then (if 0 ≤ (wrap64 (a1 + 3)) then ((Qao.f kj7 (bt a0 (wrap64 (a1 + 3)))).bind fun t156 => (Qam.j1 kj7 a0 a1 (decide (t156 ≥ 0)))) else (none)) else (Qam.j1 kj7 a0 a1 false))) else (none)) else (none)) = some (r1, r2) := by first | (rw [hji20] at H; exact H) | (simp only [hji20] at H ⊢; exact H)
            have hji20w : (IntKind.i64.wrap (a1 + 2)) = ji20 := (Qbj _).trans hji20
            by_cases c21 : 0 ≤ (ji20)
            ·rw [if_pos c21] at H
             have c21b0 : decide (0 ≤ (ji20)) = true := decide_eq_true c21
             clear c21
             by_cases c22 : (ji20) < (a0.size : Int)
             ·rw [if_pos c22] at H
              have c22b0 : decide ((ji20) < (a0.size : Int)) = true := decide_eq_true c22
              clear c22
              replace H := Option.bind_eq_some_iff.mp H
              obtain ⟨t155, A240, H⟩ := H
              replace H : (if t155 ≥ 0 then (if 0 ≤ (wrap64 (a1 + 3)) then ((Qao.f kj7 (bt a0 (wrap64 (a1 + 3)))).bind fun t156 => (Qam.j1 kj7 a0 a1 (decide (t156 ≥ 0)))) else (none)) else (Qam.j1 kj7 a0 a1 false)) = some (r1, r2) := H
              have A24 := J0.m A240
              clear A240
              by_cases c25 : t155 ≥ 0
              ·rw [if_pos c25] at H
               have c25b0 : decide (0 ≤ t155) = true := decide_eq_true c25
               clear c25
               obtain ⟨ji26, hji26⟩ : ∃ j_ : Int, (wrap64 (a1 + 3)) = j_ := ⟨_, rfl⟩
               replace H : (if 0 ≤ (ji26) then ((Qao.f kj7 (bt a0 (ji26))).bind fun t156 => (Qam.j1 kj7 a0 a1 (decide (t156 ≥ 0)))) else (none)) = some (r1, r2) := by first | (rw [hji26] at H; exact H) | (simp only [hji26] at H ⊢; exact H)
               (try rw [hji26] at c19b0)
               (try rw [hji26] at A24)
               have hji26w : (IntKind.i64.wrap (a1 + 3)) = ji26 := (Qbj _).trans hji26
               by_cases c27 : 0 ≤ (ji26)
               ·rw [if_pos c27] at H
                have c27b0 : decide (0 ≤ (ji26)) = true := decide_eq_true c27
                clear c27
                replace H := Option.bind_eq_some_iff.mp H
                obtain ⟨t156, A290, H⟩ := H
                replace H : (Qam.j1 kj7 a0 a1 (decide (t156 ≥ 0))) = some (r1, r2) := H
                have A29 := J0.m A290
                clear A290
                have H' := J0.m H
                clear H
                have p23 : 0 ≤ ((ji20) : Int) := dQ
                have q23 : (ji20) < (a0.size : Int) := dQ
                have hx23 := Qb2 a0 (ji20)
                replace p23 := eq_true p23
                replace q23 := eq_true q23
                go_wp2_with (first | (go_at_call 92; (with_reducible refine (Qao.calls kj7 (bt a0 (ji20)) t155 _ A24.o).mono ?_); rintro e w' ⟨rfl, ⟨nd, rfl⟩⟩; (try first | exact ⟨rfl, _, World.drewN_drewN _ _ _⟩ | exact ⟨rfl, _, Eq.trans (World.drewN_drewN _ _ _) (congrArg (World.drewN _) (Nat.add_assoc _ _ _))⟩); have p28 : 0 ≤ ((ji26) : Int) := dQ; have q28 : (ji26) < (a0.size : Int) := dQ; have hx28 := Qb2 a0 (ji26); replace p28 := eq_true p28; replace q28 := eq_true q28) | (go_at_call 92; (with_reducible refine (Qao.calls kj7 (bt a0 (ji26)) t156 _ A29.o).mono ?_); rintro e w' ⟨rfl, ⟨nd, rfl⟩⟩; (try first | exact ⟨rfl, _, World.drewN_drewN _ _ _⟩ | exact ⟨rfl, _, Eq.trans (World.drewN_drewN _ _ _) (congrArg (World.drewN _) (Nat.add_assoc _ _ _))⟩)))
                repeat (go_quiet (first | (go_at_call 92; (with_reducible refine (Qao.calls kj7 (bt a0 (ji20)) t155 _ A24.o).mono ?_); rintro e w' ⟨rfl, ⟨nd, rfl⟩⟩; (try first | exact ⟨rfl, _, World.drewN_drewN _ _ _⟩ | exact ⟨rfl, _, Eq.trans (World.drewN_drewN _ _ _) (congrArg (World.drewN _) (Nat.add_assoc _ _ _))⟩); have p28 : 0 ≤ ((ji26) : Int) := dQ; have q28 : (ji26) < (a0.size : Int) := dQ; have hx28 := Qb2 a0 (ji26); replace p28 := eq_true p28; replace q28 := eq_true q28) | (go_at_call 92; (with_reducible refine (Qao.calls kj7 (bt a0 (ji26)) t156 _ A29.o).mono ?_); rintro e w' ⟨rfl, ⟨nd, rfl⟩⟩; (try first | exact ⟨rfl, _, World.drewN_drewN _ _ _⟩ | exact ⟨rfl, _, Eq.trans (World.drewN_drewN _ _ _) (congrArg (World.drewN _) (Nat.add_assoc _ _ _))⟩))); try go_wp2_with (first | (go_at_call 92; (with_reducible refine (Qao.calls kj7 (bt a0 (ji20)) t155 _ A24.o).mono ?_); rintro e w' ⟨rfl, ⟨nd, rfl⟩⟩; (try first | exact ⟨rfl, _, World.drewN_drewN _ _ _⟩ | exact ⟨rfl, _, Eq.trans (World.drewN_drewN _ _ _) (congrArg (World.drewN _) (Nat.add_assoc _ _ _))⟩); have p28 : 0 ≤ ((ji26) : Int) := dQ; have q28 : (ji26) < (a0.size : Int) := dQ; have hx28 := Qb2 a0 (ji26); replace p28 := eq_true p28; replace q28 := eq_true q28) | (go_at_call 92; (with_reducible refine (Qao.calls kj7 (bt a0 (ji26)) t156 _ A29.o).mono ?_); rintro e w' ⟨rfl, ⟨nd, rfl⟩⟩; (try first | exact ⟨rfl, _, World.drewN_drewN _ _ _⟩ | exact ⟨rfl, _, Eq.trans (World.drewN_drewN _ _ _) (congrArg (World.drewN _) (Nat.add_assoc _ _ _))⟩))))
                go_meet
                case rel => exact ⟨_, (decide (t156 ≥ 0)), (by first | rfl | (simp; done) | (simp [*]; done)), H', ⟨by have := HJ7.o; first | omega | exact Nat.le_refl _⟩, dR⟩
               ·rw [if_neg c27] at H
                exact absurd H (by simp)
              ·rw [if_neg c25] at H
               have c25b0 : decide (0 ≤ t155) = false := decide_eq_false c25
               clear c25
               have H' := J0.m H
               clear H
               have p23 : 0 ≤ ((ji20) : Int) := dQ
               have q23 : (ji20) < (a0.size : Int) := dQ
               have hx23 := Qb2 a0 (ji20)
               replace p23 := eq_true p23
               replace q23 := eq_true q23
               go_wp2_with (first | (go_at_call 92; (with_reducible refine (Qao.calls kj7 (bt a0 (ji20)) t155 _ A24.o).mono ?_); rintro e w' ⟨rfl, ⟨nd, rfl⟩⟩; (try first | exact ⟨rfl, _, World.drewN_drewN _ _ _⟩ | exact ⟨rfl, _, Eq.trans (World.drewN_drewN _ _ _) (congrArg (World.drewN _) (Nat.add_assoc _ _ _))⟩)))
               repeat (go_quiet (first | (go_at_call 92; (with_reducible refine (Qao.calls kj7 (bt a0 (ji20)) t155 _ A24.o).mono ?_); rintro e w' ⟨rfl, ⟨nd, rfl⟩⟩; (try first | exact ⟨rfl, _, World.drewN_drewN _ _ _⟩ | exact ⟨rfl, _, Eq.trans (World.drewN_drewN _ _ _) (congrArg (World.drewN _) (Nat.add_assoc _ _ _))⟩))); try go_wp2_with (first | (go_at_call 92; (with_reducible refine (Qao.calls kj7 (bt a0 (ji20)) t155 _ A24.o).mono ?_); rintro e w' ⟨rfl, ⟨nd, rfl⟩⟩; (try first | exact ⟨rfl, _, World.drewN_drewN _ _ _⟩ | exact ⟨rfl, _, Eq.trans (World.drewN_drewN _ _ _) (congrArg (World.drewN _) (Nat.add_assoc _ _ _))⟩))))
               go_meet
               case rel => exact ⟨_, (false), (by first | rfl | (simp; done) | (simp [*]; done)), H', ⟨by have := HJ7.o; first | omega | exact Nat.le_refl _⟩, dR⟩
             ·rw [if_neg c22] at H
              exact absurd H (by simp)
            ·rw [if_neg c21] at H
             exact absurd H (by simp)
           ·rw [if_neg c19] at H
            have c19b0 : decide ((wrap64 (a1 + 3)) < (a0.size : Int)) = false := decide_eq_false c19
            clear c19
            (first | rw [c19b0] | (simp only [Qbj, Qbp]; rw [c19b0]) | skip)
            have H' := J0.m H
            clear H
            go_wp2
            repeat (go_quiet (fail); try go_wp2)
            go_meet
            case rel => exact ⟨_, (false), (by first | rfl | (simp; done) | (simp [*]; done)), H', ⟨by have := HJ7.o; first | omega | exact Nat.le_refl _⟩, dR⟩
          case rest =>
           clear HC18
           try clear c1
           try clear p1
           try clear q1
           try clear hx1
           try clear c2
           try clear p2
           try clear q2
           try clear hx2
           try clear c3
           try clear c3b0
           try clear c5
           try clear c5b0
           try clear c6
           try clear c6b0
           try clear p6
           try clear c7
           try clear p7
           try clear q7
           try clear hx7
           try clear c8
           try clear c9
           try clear c9b0
           try clear c9b1
           try clear c10
           try clear c12
           try clear c12b0
           try clear c13
           try clear c13b0
           try clear p14
           try clear q14
           try clear hx14
           try clear c15
           try clear c15b0
           try clear c15b1
           try clear c16
           try clear c16b0
           try clear c16b1
           try clear c17
           try clear c17b0
           try clear c17b1
           try clear c19
           try clear c19b0
           try clear c21
           try clear c21b0
           try clear c22
           try clear c22b0
           try clear p23
           try clear q23
           try clear hx23
           try clear c25
           try clear c25b0
           try clear c27
           try clear c27b0
           try clear p28
           try clear q28
           try clear hx28
           try clear p14
           try clear p2
           try clear p23
           try clear p28
           try clear p6
           try clear p7
           try clear q14
           try clear q23
           try clear q28
           try clear q7
           obtain ⟨kq, x48_17, rfl, HA, HJ17, ⟨mc17, rfl⟩⟩ := hcut
           cases kq with
           | zero => exact absurd HA.o (by simp [Qam.j1])
           | succ kj17 =>
            have H := HA.o
            clear HA
            simp only [Qam.j1] at H
            by_cases c30 : x48_17 = true
            ·subst c30
             have H1 : (if 0 ≤ (wrap64 (a1 + 2)) then (if (wrap64 (a1 + 2)) < (a0.size : Int) then ((Qao.f kj17 (bt a0 (wrap64 (a1 + 2)))).bind fun t157 => (if 0 ≤ (wrap64 (a1 + 3)) then (if (wrap64 (a1 + 3)) < (a0.size : Int) then ((Qao.f kj17 (bt a0 (wrap64 (a1 + 3)))).bind fun t158 => (some ((wrap64 ((wrap64 (16 * t157)) + t158)) % 256, 4))) else (none)) else (none))) else (none)) else (none)) = some (r1, r2) := by rw [if_pos rfl] at H; exact H
             clear H
             have H := H1
             clear H1
             try clear hji20
             try clear hji20w
             obtain ⟨ji31, hji31⟩ : ∃ j_ : Int, (wrap64 (a1 + 2)) = j_ := ⟨_, rfl⟩
             replace H : (if 0 ≤ (ji31) then (if (ji31) < (a0.size : Int) then ((Qao.f kj17 (bt a0 (ji31))).bind fun t157 => (if 0 ≤ (wrap64 (a1 + 3)) then (if (wrap64 (a1 + 3)) < (a0.size : Int) then ((Qao.f kj17 (bt a0 (wrap64 (a1 + 3)))).bind fun t158 => (some ((wrap64 ((wrap64 (16 * t157)) + t158)) % 256, 4))) else (none)) else (none))) else (none)) else (none)) = some (r1, r2) := by first | (rw [hji31] at H; exact H) | (simp only [hji31] at H ⊢; exact H)
             have hji31w : (IntKind.i64.wrap (a1 + 2)) = ji31 := (Qbj _).trans hji31
             by_cases c32 : 0 ≤ (ji31)
             ·rw [if_pos c32] at H
              have c32b0 : decide (0 ≤ (ji31)) = true := decide_eq_true c32
              clear c32
              by_cases c33 : (ji31) < (a0.size : Int)
              ·rw [if_pos c33] at H
               have c33b0 : decide ((ji31) < (a0.size : Int)) = true := decide_eq_true c33
               clear c33
               replace H := Option.bind_eq_some_iff.mp H
               obtain ⟨t157, A350, H⟩ := H
               replace H : (if 0 ≤ (wrap64 (a1 + 3)) then (if (wrap64 (a1 + 3)) < (a0.size : Int) then ((Qao.f kj17 (bt a0 (wrap64 (a1 + 3)))).bind fun t158 => (some ((wrap64 ((wrap64 (16 * t157)) + t158)) % 256, 4))) else (none)) else (none)) = some (r1, r2) := H
               have A35 := J0.m A350
               clear A350
               try clear hji26
               try clear hji26w
               obtain ⟨ji36, hji36⟩ : ∃ j_ : Int, (wrap64 (a1 + 3)) = j_ := ⟨_, rfl⟩
               replace H : (if 0 ≤ (ji36) then (if (ji36) < (a0.size : Int) then ((Qao.f kj17 (bt a0 (ji36))).bind fun t158 => (some ((wrap64 ((wrap64 (16 * t157)) + t158)) % 256, 4))) else (none)) else (none)) = some (r1, r2) := by first | (rw [hji36] at H; exact H) | (simp only [hji36] at H ⊢; exact H)
               (try rw [hji36] at A35)
               have hji36w : (IntKind.i64.wrap (a1 + 3)) = ji36 := (Qbj _).trans hji36
               by_cases c37 : 0 ≤ (ji36)
               ·rw [if_pos c37] at H
                have c37b0 : decide (0 ≤ (ji36)) = true := decide_eq_true c37
                clear c37
                by_cases c38 : (ji36) < (a0.size : Int)
                ·rw [if_pos c38] at H
                 have c38b0 : decide ((ji36) < (a0.size : Int)) = true := decide_eq_true c38
                 clear c38
                 replace H := Option.bind_eq_some_iff.mp H
                 obtain ⟨t158, A400, H⟩ := H
                 replace H : (some ((wrap64 ((wrap64 (16 * t157)) + t158)) % 256, 4)) = some (r1, r2) := H
                 have A40 := J0.m A400
                 clear A400
                 simp only [Option.some.injEq, Prod.mk.injEq] at H
                 obtain ⟨rfl, rfl⟩ := H
                 have p34 : 0 ≤ ((ji31) : Int) := dQ
                 have q34 : (ji31) < (a0.size : Int) := dQ
                 have hx34 := Qb2 a0 (ji31)
                 replace p34 := eq_true p34
                 replace q34 := eq_true q34
                 go_wp2_with (first | (go_at_call 92; (with_reducible refine (Qao.calls kj17 (bt a0 (ji31)) t157 _ A35.o).mono ?_); rintro e w' ⟨rfl, ⟨nd, rfl⟩⟩; (try first | exact ⟨rfl, _, World.drewN_drewN _ _ _⟩ | exact ⟨rfl, _, Eq.trans (World.drewN_drewN _ _ _) (congrArg (World.drewN _) (Nat.add_assoc _ _ _))⟩); have p39 : 0 ≤ ((ji36) : Int) := dQ; have q39 : (ji36) < (a0.size : Int) := dQ; have hx39 := Qb2 a0 (ji36); replace p39 := eq_true p39; replace q39 := eq_true q39) | (go_at_call 92; (with_reducible refine (Qao.calls kj17 (bt a0 (ji36)) t158 _ A40.o).mono ?_); rintro e w' ⟨rfl, ⟨nd, rfl⟩⟩; (try first | exact ⟨rfl, _, World.drewN_drewN _ _ _⟩ | exact ⟨rfl, _, Eq.trans (World.drewN_drewN _ _ _) (congrArg (World.drewN _) (Nat.add_assoc _ _ _))⟩)))
                 repeat (go_quiet (first | (go_at_call 92; (with_reducible refine (Qao.calls kj17 (bt a0 (ji31)) t157 _ A35.o).mono ?_); rintro e w' ⟨rfl, ⟨nd, rfl⟩⟩; (try first | exact ⟨rfl, _, World.drewN_drewN _ _ _⟩ | exact ⟨rfl, _, Eq.trans (World.drewN_drewN _ _ _) (congrArg (World.drewN _) (Nat.add_assoc _ _ _))⟩); have p39 : 0 ≤ ((ji36) : Int) := dQ; have q39 : (ji36) < (a0.size : Int) := dQ; have hx39 := Qb2 a0 (ji36); replace p39 := eq_true p39; replace q39 := eq_true q39) | (go_at_call 92; (with_reducible refine (Qao.calls kj17 (bt a0 (ji36)) t158 _ A40.o).mono ?_); rintro e w' ⟨rfl, ⟨nd, rfl⟩⟩; (try first | exact ⟨rfl, _, World.drewN_drewN _ _ _⟩ | exact ⟨rfl, _, Eq.trans (World.drewN_drewN _ _ _) (congrArg (World.drewN _) (Nat.add_assoc _ _ _))⟩))); try go_wp2_with (first | (go_at_call 92; (with_reducible refine (Qao.calls kj17 (bt a0 (ji31)) t157 _ A35.o).mono ?_); rintro e w' ⟨rfl, ⟨nd, rfl⟩⟩; (try first | exact ⟨rfl, _, World.drewN_drewN _ _ _⟩ | exact ⟨rfl, _, Eq.trans (World.drewN_drewN _ _ _) (congrArg (World.drewN _) (Nat.add_assoc _ _ _))⟩); have p39 : 0 ≤ ((ji36) : Int) := dQ; have q39 : (ji36) < (a0.size : Int) := dQ; have hx39 := Qb2 a0 (ji36); replace p39 := eq_true p39; replace q39 := eq_true q39) | (go_at_call 92; (with_reducible refine (Qao.calls kj17 (bt a0 (ji36)) t158 _ A40.o).mono ?_); rintro e w' ⟨rfl, ⟨nd, rfl⟩⟩; (try first | exact ⟨rfl, _, World.drewN_drewN _ _ _⟩ | exact ⟨rfl, _, Eq.trans (World.drewN_drewN _ _ _) (congrArg (World.drewN _) (Nat.add_assoc _ _ _))⟩))))
                 go_ret2
                 exact ⟨by first | rfl | (simp; done) | (simp [*]; done) | (simp [Qbj, IntKind.wrap_u8]; done) | ((try simp only [← hji4]); (try simp only [← hji31]); (try simp only [← hji36]); (first | rfl | (simp; done))) | (simp [*]; done), dR⟩
                ·rw [if_neg c38] at H
                 exact absurd H (by simp)
               ·rw [if_neg c37] at H
                exact absurd H (by simp)
              ·rw [if_neg c33] at H
               exact absurd H (by simp)
             ·rw [if_neg c32] at H
              exact absurd H (by simp)
            ·replace c30 := Bool.eq_false_iff.mpr c30
             subst c30
             have H1 : (some (0, 0)) = some (r1, r2) := by rw [if_neg (show ¬ (false = true) by decide)] at H; exact H
             clear H
             have H := H1
             clear H1
             simp only [Option.some.injEq, Prod.mk.injEq] at H
             obtain ⟨rfl, rfl⟩ := H
             go_wp2
             repeat (go_quiet (fail); try go_wp2)
             go_ret2
             exact ⟨by first | rfl | (simp; done) | (simp [*]; done) | (simp [Qbj, IntKind.wrap_u8]; done) | ((try simp only [← hji4]); (first | rfl | (simp; done))) | (simp [*]; done), dR⟩
         ·rw [if_neg c17] at H
          have c17b0 : ((bt a0 (ji4)) == 120) = false := beq_eq_false_iff_ne.mpr c17
          have c17b1 : ((bt a0 (ji4)) != 120) = true := bne_iff_ne.mpr c17
          simp only [Option.some.injEq, Prod.mk.injEq] at H
          obtain ⟨rfl, rfl⟩ := H
          go_wp2
          repeat (go_quiet (fail); try go_wp2)
          go_ret2
          exact ⟨by first | rfl | (simp; done) | (simp [*]; done) | (simp [Qbj, IntKind.wrap_u8]; done) | ((try simp only [← hji4]); (first | rfl | (simp; done))) | (simp [*]; done), dR⟩
   ·rw [if_neg c6] at H
    exact absurd H (by simp)
  ·rw [if_neg c5] at H
   exact absurd H (by simp)
mutual
def Qaq.l0 : Nat → ByteArray → Int → List Int → Int → Option (Int × ByteArray × Int × Int × Int × Int × Int)
 | 0, _, _, _, _ => none
 | k + 1, x0, x1, x7, x8 => if x8 < (x0.size : Int) then (if 0 ≤ x8 then (Qaq.j1 k x0 x1 x7 x8 ((bt x0 x8) != 10)) else (none)) else (Qaq.j1 k x0 x1 x7 x8 false)
def Qaq.j1 : Nat → ByteArray → Int → List Int → Int → Bool → Option (Int × ByteArray × Int × Int × Int × Int × Int)
 | 0, _, _, _, _, _ => none
 | k + 1, x0, x1, x7, x8, x22 => if x22 = true then (if 0 ≤ x8 then (if x8 < (x0.size : Int) then (if (bt x0 x8) = 34 then (some (3, strOfNums x7, 0, x1, wrap64 (x8 + 1), 0, 0)) else (if (bt x0 x8) = 92 then ((Qam.f k x0 x8).bind fun bt160 => (if bt160.2 = 0 then (some (0, (⟨#[]⟩ : ByteArray), 0, 0, 0, x8, 82)) else (if x7.length < 140737488355328 then (Qaq.l0 k x0 x1 (x7 ++ [bt160.1]) (wrap64 (x8 + bt160.2))) else (none)))) else (if x7.length < 140737488355328 then (Qaq.l0 k x0 x1 (x7 ++ [bt x0 x8]) (wrap64 (x8 + 1))) else (none)))) else (none)) else (none)) else (some (0, (⟨#[]⟩ : ByteArray), 0, 0, 0, x1, 81))
end
def Qaq.f (k : Nat) (a0 : ByteArray) (a1 : Int) : Option (Int × ByteArray × Int × Int × Int × Int × Int) := Qaq.l0 k a0 a1 ([] : List Int) (wrap64 (a1 + 1))
theorem Qaq.calls (k : Nat) (a0 : ByteArray) (a1 : Int) (r1 : Int) (r2 : ByteArray) (r3 : Int) (r4 : Int) (r5 : Int) (r6 : Int) (r7 : Int) (w : World) (h : Qaq.f k a0 a1 = some (r1, r2, r3, r4, r5, r6, r7)) :
  Calls Try.prog 68 #[.string a0, .int .i64 a1] w fun e w' => e = .returned (.tuple #[.agg #[.int .i64 r1, .string r2, .int .u64 r3, .int .i64 r4, .int .i64 r5], .int .i64 r6, .int .i64 r7]) ∧ Below w.heap.size w w' := by
 have hu47 := Try.underlying47
 have HB := J0.m (Below.refl w.heap.size w)
 have H : (Qaq.l0 k a0 a1 ([] : List Int) (wrap64 (a1 + 1))) = some (r1, r2, r3, r4, r5, r6, r7) := h
 clear h
 have H' := J0.m H
 clear H
 go_enter Try.func68, Try.ntmps68
 go_wp2_with (first | ((with_reducible refine Qb0 (N := 4) rfl ?_); refine Qbu ?hg (N := 4) ?hd (cs := zT0) (t := 47) ?hr ?_; (case hd => rfl); (case hg => rfl); (case hr => first | (go_simp; done) | (go_simp; rfl)); intro gb159 hg w3 hbox hb; have n0_ := J0.m (Qak bR hb); have n1_ := J0.m (hbox); have n2_ := J0.m ((by rw [hg]; exact (Qbd bR) : w.heap.size ≤ gb159)); have n3_ := n2_; clear HB; have HB := n0_; have BK159 := n1_; have GW159 := n2_; have GE159 := n3_; clear n0_ n1_ n2_ n3_; clear hb hbox hg))
 go_loopg [7, 8] k (fun kq v7 v8 w' => ∃ (x7_1 : List Int) (x8_1 : Int) (x160000_1 : Int) (x160001_1 : ByteArray) (x160002_1 : Int) (x160003_1 : Int) (x160004_1 : Int), v8 = .int .i64 x8_1 ∧ J0 (Qaq.l0 kq a0 a1 x7_1 x8_1 = some (r1, r2, r3, r4, r5, r6, r7)) ∧ J0 (kq ≤ k) ∧ J0 (Kd.R (Kd.int .u8) 5 w' w.heap.size (fun _ => True) v7 x7_1) ∧ J0 (w'.heap[gb159]? = some (.cells #[.int .i64 x160000_1, .string x160001_1, .int .u64 x160002_1, .int .i64 x160003_1, .int .i64 x160004_1] 47 (0, 0))) ∧ J0 (Below w.heap.size w w'))
 case atStart => exact ⟨(([] : List Int)), (wrap64 (a1 + 1)), (0), ((⟨#[]⟩ : ByteArray)), (0), (0), (0), (by first | rfl | (simp; done) | (simp [*]; done)), H', ⟨Nat.le_refl _⟩, ⟨by first | exact Kd.Qdd _ _ _ _ _ | exact Kd.Qkg _ _ _ _ _ | exact Kd.Qkc _ _ _ _ _ | exact Kd.Qkf _ _ _ _ _ | exact Kd.Qkd _ _ _ _ _⟩, ⟨by (with_reducible repeat (first | apply Qag | apply Qai | apply Qah)); exact BK159.o⟩, ⟨by repeat (first | (with_reducible first | exact HB.o | apply Qab | apply Qad | apply Qaf | refine Qan ?_ GE159.o) | exact HB.o)⟩⟩
 case round =>
  clear H'
  try clear p2
  obtain ⟨x7_1, x8_1, x160000_1, x160001_1, x160002_1, x160003_1, x160004_1, rfl, HA, HK1, HO_7, BK159, HB⟩ := hrel
  cases gk with
  | zero => exact absurd HA.o (by simp [Qaq.l0])
  | succ k1 =>
   have H := HA.o
   clear HA
   simp only [Qaq.l0] at H
   have HC4 := J0.m H
   clear H
   go_upto_region 3 with (fail)
   go_cut [22] (fun v22 wc => ∃ (kq : Nat) (x22_3 : Bool), v22 = .bool x22_3 ∧ J0 (Qaq.j1 kq a0 a1 x7_1 x8_1 x22_3 = some (r1, r2, r3, r4, r5, r6, r7)) ∧ J0 (kq ≤ k1) ∧ J0 (Kd.R (Kd.int .u8) 5 wc w.heap.size (fun _ => True) u7 x7_1) ∧ J0 (wc.heap[gb159]? = some (.cells #[.int .i64 x160000_1, .string x160001_1, .int .u64 x160002_1, .int .i64 x160003_1, .int .i64 x160004_1] 47 (0, 0))) ∧ J0 (Below w.heap.size w wc))
   case first =>
    have H := HC4.o
    clear HC4
    by_cases c5 : x8_1 < (a0.size : Int)
    ·rw [if_pos c5] at H
     have c5b0 : decide (x8_1 < (a0.size : Int)) = true := decide_eq_true c5
     clear c5
     (first | rw [c5b0] | (simp only [Qbj, Qbp]; rw [c5b0]) | skip)
     by_cases c6 : 0 ≤ x8_1
     ·rw [if_pos c6] at H
      have c6b0 : decide (0 ≤ x8_1) = true := decide_eq_true c6
      clear c6
      have H' := J0.m H
      clear H
      have p7 : 0 ≤ (x8_1 : Int) := dQ
      have q7 : x8_1 < (a0.size : Int) := dQ
      have hx7 := Qb2 a0 x8_1
      replace p7 := eq_true p7
      replace q7 := eq_true q7
      go_wp2
      go_meet
      case rel => exact ⟨_, (((bt a0 x8_1) != 10)), (by first | rfl | (simp; done) | (simp [*]; done)), H', ⟨by have := HK1.o; first | omega | exact Nat.le_refl _⟩, ⟨by (with_reducible repeat (first | apply Kd.Qb8 | apply Kd.Qb7 | apply Kd.Qcl)); exact HO_7.o⟩, ⟨by (with_reducible repeat (first | apply Qag | apply Qai | apply Qah)); exact BK159.o⟩, ⟨by repeat (first | (with_reducible first | exact HB.o | apply Qab | apply Qad | apply Qaf | refine Qan ?_ GE159.o) | exact HB.o)⟩⟩
     ·rw [if_neg c6] at H
      exact absurd H (by simp)
    ·rw [if_neg c5] at H
     have c5b0 : decide (x8_1 < (a0.size : Int)) = false := decide_eq_false c5
     clear c5
     (first | rw [c5b0] | (simp only [Qbj, Qbp]; rw [c5b0]) | skip)
     have H' := J0.m H
     clear H
     go_wp2
     go_meet
     case rel => exact ⟨_, (false), (by first | rfl | (simp; done) | (simp [*]; done)), H', ⟨by have := HK1.o; first | omega | exact Nat.le_refl _⟩, ⟨by (with_reducible repeat (first | apply Kd.Qb8 | apply Kd.Qb7 | apply Kd.Qcl)); exact HO_7.o⟩, ⟨by (with_reducible repeat (first | apply Qag | apply Qai | apply Qah)); exact BK159.o⟩, ⟨by repeat (first | (with_reducible first | exact HB.o | apply Qab | apply Qad | apply Qaf | refine Qan ?_ GE159.o) | exact HB.o)⟩⟩
   case rest =>
    clear HC4
    try clear p2
    try clear c5
    try clear c5b0
    try clear c6
    try clear c6b0
    try clear p6
    try clear p7
    try clear q7
    try clear hx7
    try clear p2
    try clear p7
    try clear q7
    obtain ⟨kq, x22_3, rfl, HA, HJ3, HO_7, BK159, HB⟩ := hcut
    cases kq with
    | zero => exact absurd HA.o (by simp [Qaq.j1])
    | succ kj3 =>
     have H := HA.o
     clear HA
     simp only [Qaq.j1] at H
     by_cases c8 : x22_3 = true
     ·subst c8
      have H1 : (if 0 ≤ x8_1 then (if x8_1 < (a0.size : Int) then (if (bt a0 x8_1) = 34 then (some (3, strOfNums x7_1, 0, a1, wrap64 (x8_1 + 1), 0, 0)) else (if (bt a0 x8_1) = 92 then ((Qam.f kj3 a0 x8_1).bind fun bt160 => (if bt160.2 = 0 then (some (0, (⟨#[]⟩ : ByteArray), 0, 0, 0, x8_1, 82)) else (if x7_1.length < 140737488355328 then (Qaq.l0 kj3 a0 a1 (x7_1 ++ [bt160.1]) (wrap64 (x8_1 + bt160.2))) else (none)))) else (if x7_1.length < 140737488355328 then (Qaq.l0 kj3 a0 a1 (x7_1 ++ [bt a0 x8_1]) (wrap64 (x8_1 + 1))) else (none)))) else (none)) else (none)) = some (r1, r2, r3, r4, r5, r6, r7) := by rw [if_pos rfl] at H; exact H
      clear H
      have H := H1
      clear H1
      by_cases c9 : 0 ≤ x8_1
      ·rw [if_pos c9] at H
       have c9b0 : decide (0 ≤ x8_1) = true := decide_eq_true c9
       clear c9
       by_cases c10 : x8_1 < (a0.size : Int)
       ·rw [if_pos c10] at H
        have c10b0 : decide (x8_1 < (a0.size : Int)) = true := decide_eq_true c10
        clear c10
        by_cases c12 : (bt a0 x8_1) = 34
        ·rw [if_pos c12] at H
         have c12b0 : ((bt a0 x8_1) == 34) = true := beq_iff_eq.mpr c12
         have c12b1 : ((bt a0 x8_1) != 34) = false := bne_eq_false_iff_eq.mpr c12
         clear c12
         simp only [Option.some.injEq, Prod.mk.injEq] at H
         obtain ⟨rfl, rfl, rfl, rfl, rfl, rfl, rfl⟩ := H
         have p11 : 0 ≤ (x8_1 : Int) := dQ
         have q11 : x8_1 < (a0.size : Int) := dQ
         have hx11 := Qb2 a0 x8_1
         replace p11 := eq_true p11
         replace q11 := eq_true q11
         have hcv13 := Qit (P := Try.prog) Try.underlying36 Try.underlying5 Try.underlying9 (Kd.Qlv HO_7.o)
         have hcz14_0 : wc.cell? ⟨gb159, 0, none⟩ = some (.int .i64 x160000_1) := (Qac BK159.o 0).trans rfl
         have hcz14_1 : wc.cell? ⟨gb159, 1, none⟩ = some (.string x160001_1) := (Qac BK159.o 1).trans rfl
         have hcz14_2 : wc.cell? ⟨gb159, 2, none⟩ = some (.int .u64 x160002_1) := (Qac BK159.o 2).trans rfl
         have hcz14_3 : wc.cell? ⟨gb159, 3, none⟩ = some (.int .i64 x160003_1) := (Qac BK159.o 3).trans rfl
         have hcz14_4 : wc.cell? ⟨gb159, 4, none⟩ = some (.int .i64 x160004_1) := (Qac BK159.o 4).trans rfl
         have hfz14_0 := Qaa BK159.o 0
         have hfz14_1 := Qaa BK159.o 1
         have hfz14_2 := Qaa BK159.o 2
         have hfz14_3 := Qaa BK159.o 3
         have hfz14_4 := Qaa BK159.o 4
         go_wp2
         refine bodyPost_ret (Qbc rfl _ _ gb159 47 #[.int .i64 3, .string (strOfNums x7_1), .int .u64 0, .int .i64 a1, .int .i64 (wrap64 (x8_1 + 1))] (0, 0) _ rfl (by (with_reducible repeat (first | apply Qag | apply Qai | apply Qah)); apply sv5; (with_reducible repeat (first | apply Qag | apply Qai | apply Qah)); exact BK159.o) Try.underlying47 rfl (by kernel_rfl)) rfl ?_
         exact ⟨by first | rfl | (simp [Qax, Qaw] <;> rfl) | (simp [*, Qax, Qaw] <;> rfl), by repeat (first | (with_reducible first | exact HB.o | apply Qab | apply Qad | apply Qaf | refine Qan ?_ GE159.o) | exact HB.o)⟩
        ·rw [if_neg c12] at H
         have c12b0 : ((bt a0 x8_1) == 34) = false := beq_eq_false_iff_ne.mpr c12
         have c12b1 : ((bt a0 x8_1) != 34) = true := bne_iff_ne.mpr c12
         by_cases c15 : (bt a0 x8_1) = 92
         ·rw [if_pos c15] at H
          have c15b0 : ((bt a0 x8_1) == 92) = true := beq_iff_eq.mpr c15
          have c15b1 : ((bt a0 x8_1) != 92) = false := bne_eq_false_iff_eq.mpr c15
          clear c15
          replace H := Option.bind_eq_some_iff.mp H
          obtain ⟨⟨t160, t161⟩, A160, H⟩ := H
          replace H : (if t161 = 0 then (some (0, (⟨#[]⟩ : ByteArray), 0, 0, 0, x8_1, 82)) else (if x7_1.length < 140737488355328 then (Qaq.l0 kj3 a0 a1 (x7_1 ++ [t160]) (wrap64 (x8_1 + t161))) else (none))) = some (r1, r2, r3, r4, r5, r6, r7) := H
          have A16 := J0.m A160
          clear A160
          by_cases c17 : t161 = 0
          ·rw [if_pos c17] at H
           have c17b0 : (t161 == 0) = true := beq_iff_eq.mpr c17
           have c17b1 : (t161 != 0) = false := bne_eq_false_iff_eq.mpr c17
           clear c17
           simp only [Option.some.injEq, Prod.mk.injEq] at H
           obtain ⟨rfl, rfl, rfl, rfl, rfl, rfl, rfl⟩ := H
           have p11 : 0 ≤ (x8_1 : Int) := dQ
           have q11 : x8_1 < (a0.size : Int) := dQ
           have hx11 := Qb2 a0 x8_1
           replace p11 := eq_true p11
           replace q11 := eq_true q11
           go_wp2_with (first | ((with_reducible refine Qat (f := 84) rfl ?_); refine Qbt (some 47) rfl rfl Try.func84 (by kernel_rfl) rfl #[.string a0, .int .i64 x8_1] rfl mQ ?_; (with_reducible refine (Qam.calls kj3 a0 x8_1 t160 t161 _ A16.o).mono ?_); rintro e w' ⟨rfl, ⟨nd, rfl⟩⟩; refine ⟨_, rfl, ?_⟩; (try (rw [Qb6 wc]; generalize hq_ : World.drewN wc _ = wc; have n0_ : J0 (Kd.R (Kd.int .u8) 5 wc w.heap.size (fun _ => True) u7 x7_1) := ⟨by rw [← hq_]; exact (by (with_reducible repeat (first | apply Kd.Qb8 | apply Kd.Qb7 | apply Kd.Qcl)); exact HO_7.o)⟩; have n1_ : J0 (wc.heap[gb159]? = some (.cells #[.int .i64 x160000_1, .string x160001_1, .int .u64 x160002_1, .int .i64 x160003_1, .int .i64 x160004_1] 47 (0, 0))) := ⟨by rw [← hq_]; exact (by (with_reducible repeat (first | apply Qag | apply Qai | apply Qah)); exact BK159.o)⟩; have n2_ : J0 (Below w.heap.size w wc) := ⟨by rw [← hq_]; exact (by repeat (first | (with_reducible first | exact HB.o | apply Qab | apply Qad | apply Qaf | refine Qan ?_ GE159.o) | exact HB.o))⟩; clear HO_7 BK159 HB hq_; have HO_7 := n0_; have BK159 := n1_; have HB := n2_; clear n0_ n1_ n2_)); obtain ⟨hcz18_0, hcz18_1, hcz18_2, hcz18_3, hcz18_4⟩ := (bx5 BK159.o); have hfz18_0 := Qaa BK159.o 0; have hfz18_1 := Qaa BK159.o 1; have hfz18_2 := Qaa BK159.o 2; have hfz18_3 := Qaa BK159.o 3; have hfz18_4 := Qaa BK159.o 4))
           refine bodyPost_ret (Qbc rfl _ _ gb159 47 #[.int .i64 0, .string ⟨#[]⟩, .int .u64 0, .int .i64 0, .int .i64 0] (0, 0) _ rfl (by (with_reducible repeat (first | apply Qag | apply Qai | apply Qah)); apply sv5; (with_reducible repeat (first | apply Qag | apply Qai | apply Qah)); exact BK159.o) Try.underlying47 rfl (by kernel_rfl)) rfl ?_
           exact ⟨by first | rfl | (simp [Qax, Qaw] <;> rfl) | (simp [*, Qax, Qaw] <;> rfl), by repeat (first | (with_reducible first | exact HB.o | apply Qab | apply Qad | apply Qaf | refine Qan ?_ GE159.o) | exact HB.o)⟩
          ·rw [if_neg c17] at H
           have c17b0 : (t161 == 0) = false := beq_eq_false_iff_ne.mpr c17
           have c17b1 : (t161 != 0) = true := bne_iff_ne.mpr c17
           by_cases c19 : x7_1.length < 140737488355328
           ·rw [if_pos c19] at H
            have LMc19 := J0.m c19
            clear c19
            obtain ⟨y162, hy162⟩ : ∃ y_ : List Int, y_ = (x7_1 ++ [t160]) := ⟨_, rfl⟩
            replace H : (Qaq.l0 kj3 a0 a1 y162 (wrap64 (x8_1 + t161))) = some (r1, r2, r3, r4, r5, r6, r7) := by first | (rw [hy162]; with_reducible exact H) | (have H2_ := (Option.bind_some _ _).symm.trans H; rw [hy162]; with_reducible exact H2_) | (have H2_ := (Option.bind_some _ _).symm.trans H; with_reducible exact H2_) | with_reducible exact H | (rw [hy162]; exact H) | exact H
            have Ny162 := J0.m hy162
            clear hy162
            have H' := J0.m H
            clear H
            have p11 : 0 ≤ (x8_1 : Int) := dQ
            have q11 : x8_1 < (a0.size : Int) := dQ
            have hx11 := Qb2 a0 x8_1
            replace p11 := eq_true p11
            replace q11 := eq_true q11
            go_wp2_with (first | ((with_reducible refine Qat (f := 84) rfl ?_); refine Qbt (some 47) rfl rfl Try.func84 (by kernel_rfl) rfl #[.string a0, .int .i64 x8_1] rfl mQ ?_; (with_reducible refine (Qam.calls kj3 a0 x8_1 t160 t161 _ A16.o).mono ?_); rintro e w' ⟨rfl, ⟨nd, rfl⟩⟩; refine ⟨_, rfl, ?_⟩) | ((with_reducible refine Qcu (b := .append) (xs := #[.tmp 54, .tmp 56]) rfl ?_); at_builtin; refine Kd.Qem (Kd.int .u8) (w0 := w) w.heap.size rfl (.tmp 54) (.tmp 56) 36 5 (.int .u8 0) 1 rfl Try.underlying36 info5 rfl (by decide) (by omega) u7 x7_1 t160 [.int .u8 t160] (fun _ => True) (fun _ => False) rfl rfl ?aP (fun _ hk => hk.elim) ?aF ?aO ?aB ?aS ?aL ?_; (case aP => exact rfl); (case aB => exact (by repeat (first | (with_reducible first | exact HB.o | apply Qab | apply Qad | apply Qaf | refine Qan ?_ GE159.o) | exact HB.o))); (case aF => exact (fun _ _ => trivial)); (case aO => exact (by (with_reducible repeat (first | apply Kd.Qb8 | apply Kd.Qb7 | apply Kd.Qcl)); exact HO_7.o)); (case aS => exact (Qbd (by repeat (first | (with_reducible first | exact HB.o | apply Qab | apply Qad | apply Qaf | refine Qan ?_ GE159.o) | exact HB.o)))); (case aL => have := LMc19.o; omega); intro v163 w20 ho hb hg hat; rw [← Ny162.o] at ho; have n0_ := J0.m (Qbh (g := gb159) (o := .cells #[.int .i64 x160000_1, .string x160001_1, .int .u64 x160002_1, .int .i64 x160003_1, .int .i64 x160004_1] 47 (0, 0)) (by (with_reducible repeat (first | apply Qag | apply Qai | apply Qah)); exact BK159.o) hg (Kd.R_ne HO_7.o BK159.o (by decide))); have n1_ := J0.m (hb); have n2_ := J0.m (ho); clear BK159; clear HB; clear HO_7; have BK159 := n0_; have HB := n1_; have HO164 := n2_; clear n0_ n1_ n2_; clear ho hb hg hat))
            go_roundg kj3
            case measure => have := HK1.o; have := HJ3.o; omega
            case rel => exact ⟨(y162), (wrap64 (x8_1 + t161)), (x160000_1), (x160001_1), (x160002_1), (x160003_1), (x160004_1), (by first | rfl | (simp; done) | (simp [*]; done)), H', ⟨by have := HK1.o; have := HJ3.o; omega⟩, ⟨by (with_reducible repeat (first | apply Kd.Qb8 | apply Kd.Qb7 | apply Kd.Qcl)); exact HO164.o⟩, ⟨by (with_reducible repeat (first | apply Qag | apply Qai | apply Qah)); exact BK159.o⟩, ⟨by repeat (first | (with_reducible first | exact HB.o | apply Qab | apply Qad | apply Qaf | refine Qan ?_ GE159.o) | exact HB.o)⟩⟩
           ·rw [if_neg c19] at H
            exact absurd H (by simp)
         ·rw [if_neg c15] at H
          have c15b0 : ((bt a0 x8_1) == 92) = false := beq_eq_false_iff_ne.mpr c15
          have c15b1 : ((bt a0 x8_1) != 92) = true := bne_iff_ne.mpr c15
          by_cases c22 : x7_1.length < 140737488355328
          ·rw [if_pos c22] at H
           have LMc22 := J0.m c22
           clear c22
           obtain ⟨y165, hy165⟩ : ∃ y_ : List Int, y_ = (x7_1 ++ [bt a0 x8_1]) := ⟨_, rfl⟩
           replace H : (Qaq.l0 kj3 a0 a1 y165 (wrap64 (x8_1 + 1))) = some (r1, r2, r3, r4, r5, r6, r7) := by first | (rw [hy165]; with_reducible exact H) | (have H2_ := (Option.bind_some _ _).symm.trans H; rw [hy165]; with_reducible exact H2_) | (have H2_ := (Option.bind_some _ _).symm.trans H; with_reducible exact H2_) | with_reducible exact H | (rw [hy165]; exact H) | exact H
           have Ny165 := J0.m hy165
           clear hy165
           have H' := J0.m H
           clear H
           have p11 : 0 ≤ (x8_1 : Int) := dQ
           have q11 : x8_1 < (a0.size : Int) := dQ
           have hx11 := Qb2 a0 x8_1
           replace p11 := eq_true p11
           replace q11 := eq_true q11
           have p21 : 0 ≤ (x8_1 : Int) := dQ
           have q21 : x8_1 < (a0.size : Int) := dQ
           have hx21 := Qb2 a0 x8_1
           replace p21 := eq_true p21
           replace q21 := eq_true q21
           go_wp2_with (first | ((with_reducible refine Qcu (b := .append) (xs := #[.tmp 26, .tmp 30]) rfl ?_); at_builtin; refine Kd.Qem (Kd.int .u8) (w0 := w) w.heap.size rfl (.tmp 26) (.tmp 30) 36 5 (.int .u8 0) 1 rfl Try.underlying36 info5 rfl (by decide) (by omega) u7 x7_1 (bt a0 x8_1) [.int .u8 (bt a0 x8_1)] (fun _ => True) (fun _ => False) rfl rfl ?aP (fun _ hk => hk.elim) ?aF ?aO ?aB ?aS ?aL ?_; (case aP => exact rfl); (case aB => exact (by repeat (first | (with_reducible first | exact HB.o | apply Qab | apply Qad | apply Qaf | refine Qan ?_ GE159.o) | exact HB.o))); (case aF => exact (fun _ _ => trivial)); (case aO => exact (by (with_reducible repeat (first | apply Kd.Qb8 | apply Kd.Qb7 | apply Kd.Qcl)); exact HO_7.o)); (case aS => exact (Qbd (by repeat (first | (with_reducible first | exact HB.o | apply Qab | apply Qad | apply Qaf | refine Qan ?_ GE159.o) | exact HB.o)))); (case aL => have := LMc22.o; omega); intro v166 w23 ho hb hg hat; rw [← Ny165.o] at ho; have n0_ := J0.m (Qbh (g := gb159) (o := .cells #[.int .i64 x160000_1, .string x160001_1, .int .u64 x160002_1, .int .i64 x160003_1, .int .i64 x160004_1] 47 (0, 0)) (by (with_reducible repeat (first | apply Qag | apply Qai | apply Qah)); exact BK159.o) hg (Kd.R_ne HO_7.o BK159.o (by decide))); have n1_ := J0.m (hb); have n2_ := J0.m (ho); clear BK159; clear HB; clear HO_7; have BK159 := n0_; have HB := n1_; have HO167 := n2_; clear n0_ n1_ n2_; clear ho hb hg hat))
           go_roundg kj3
           case measure => have := HK1.o; have := HJ3.o; omega
           case rel => exact ⟨(y165), (wrap64 (x8_1 + 1)), (x160000_1), (x160001_1), (x160002_1), (x160003_1), (x160004_1), (by first | rfl | (simp; done) | (simp [*]; done)), H', ⟨by have := HK1.o; have := HJ3.o; omega⟩, ⟨by (with_reducible repeat (first | apply Kd.Qb8 | apply Kd.Qb7 | apply Kd.Qcl)); exact HO167.o⟩, ⟨by (with_reducible repeat (first | apply Qag | apply Qai | apply Qah)); exact BK159.o⟩, ⟨by repeat (first | (with_reducible first | exact HB.o | apply Qab | apply Qad | apply Qaf | refine Qan ?_ GE159.o) | exact HB.o)⟩⟩
          ·rw [if_neg c22] at H
           exact absurd H (by simp)
       ·rw [if_neg c10] at H
        exact absurd H (by simp)
      ·rw [if_neg c9] at H
       exact absurd H (by simp)
     ·replace c8 := Bool.eq_false_iff.mpr c8
      subst c8
      have H1 : (some (0, (⟨#[]⟩ : ByteArray), 0, 0, 0, a1, 81)) = some (r1, r2, r3, r4, r5, r6, r7) := by rw [if_neg (show ¬ (false = true) by decide)] at H; exact H
      clear H
      have H := H1
      clear H1
      simp only [Option.some.injEq, Prod.mk.injEq] at H
      obtain ⟨rfl, rfl, rfl, rfl, rfl, rfl, rfl⟩ := H
      have hcz24_0 : wc.cell? ⟨gb159, 0, none⟩ = some (.int .i64 x160000_1) := (Qac BK159.o 0).trans rfl
      have hcz24_1 : wc.cell? ⟨gb159, 1, none⟩ = some (.string x160001_1) := (Qac BK159.o 1).trans rfl
      have hcz24_2 : wc.cell? ⟨gb159, 2, none⟩ = some (.int .u64 x160002_1) := (Qac BK159.o 2).trans rfl
      have hcz24_3 : wc.cell? ⟨gb159, 3, none⟩ = some (.int .i64 x160003_1) := (Qac BK159.o 3).trans rfl
      have hcz24_4 : wc.cell? ⟨gb159, 4, none⟩ = some (.int .i64 x160004_1) := (Qac BK159.o 4).trans rfl
      have hfz24_0 := Qaa BK159.o 0
      have hfz24_1 := Qaa BK159.o 1
      have hfz24_2 := Qaa BK159.o 2
      have hfz24_3 := Qaa BK159.o 3
      have hfz24_4 := Qaa BK159.o 4
      go_wp2
      refine bodyPost_ret (Qbc rfl _ _ gb159 47 #[.int .i64 0, .string ⟨#[]⟩, .int .u64 0, .int .i64 0, .int .i64 0] (0, 0) _ rfl (by (with_reducible repeat (first | apply Qag | apply Qai | apply Qah)); apply sv5; (with_reducible repeat (first | apply Qag | apply Qai | apply Qah)); exact BK159.o) Try.underlying47 rfl (by kernel_rfl)) rfl ?_
      exact ⟨by first | rfl | (simp [Qax, Qaw] <;> rfl) | (simp [*, Qax, Qaw] <;> rfl), by repeat (first | (with_reducible first | exact HB.o | apply Qab | apply Qad | apply Qaf | refine Qan ?_ GE159.o) | exact HB.o)⟩
def Qa5.l0 : Nat → Int → ByteArray → Int → Option (Bool)
 | 0, _, _, _ => none
 | k + 1, x0, x3, x4 => if x4 < (x3.size : Int) then (if 0 ≤ x4 then (if (bt x3 x4) = x0 then (some true) else (Qa5.l0 k x0 x3 (wrap64 (x4 + 1)))) else (none)) else (some false)
def Qa5.f (k : Nat) (a0 : Int) : Option (Bool) := Qa5.l0 k a0 (⟨#[123, 125, 40, 41, 58, 59, 44, 61, 43, 45, 42]⟩ : ByteArray) 0
theorem Qa5.calls (k : Nat) (a0 : Int) (r : Bool) (w : World) (h : Qa5.f k a0 = some r) :
  Calls Try.prog 69 #[.int .u8 a0] w fun e w' => e = .returned (.bool r) ∧ Qbe w w' := by
 have H : (Qa5.l0 k a0 (⟨#[123, 125, 40, 41, 58, 59, 44, 61, 43, 45, 42]⟩ : ByteArray) 0) = some r := h
 clear h
 have H' := J0.m H
 clear H
 go_enter Try.func69, Try.ntmps69
 go_wp2
 go_loopg [4] k (fun kq v4 w' => ∃ (x4_1 : Int), v4 = .int .i64 x4_1 ∧ J0 (Qa5.l0 kq a0 (⟨#[123, 125, 40, 41, 58, 59, 44, 61, 43, 45, 42]⟩ : ByteArray) x4_1 = some r) ∧ J0 (kq ≤ k) ∧ Qbe w w')
 case atStart => exact ⟨(0), (by first | rfl | (simp; done) | (simp [*]; done)), H', ⟨Nat.le_refl _⟩, dR⟩
 case round =>
  clear H'
  obtain ⟨x4_1, rfl, HA, HK1, ⟨m1, rfl⟩⟩ := hrel
  cases gk with
  | zero => exact absurd HA.o (by simp [Qa5.l0])
  | succ k1 =>
   have H := HA.o
   clear HA
   simp only [Qa5.l0] at H
   by_cases c2 : x4_1 < ((⟨#[123, 125, 40, 41, 58, 59, 44, 61, 43, 45, 42]⟩ : ByteArray).size : Int)
   ·rw [if_pos c2] at H
    have c2b0 : decide (x4_1 < ((⟨#[123, 125, 40, 41, 58, 59, 44, 61, 43, 45, 42]⟩ : ByteArray).size : Int)) = true := decide_eq_true c2
    have c2y : decide (x4_1 < (11 : Int)) = true := c2b0
    clear c2
    by_cases c3 : 0 ≤ x4_1
    ·rw [if_pos c3] at H
     have c3b0 : decide (0 ≤ x4_1) = true := decide_eq_true c3
     clear c3
     by_cases c5 : (bt (⟨#[123, 125, 40, 41, 58, 59, 44, 61, 43, 45, 42]⟩ : ByteArray) x4_1) = a0
     ·rw [if_pos c5] at H
      have c5b0 : ((bt (⟨#[123, 125, 40, 41, 58, 59, 44, 61, 43, 45, 42]⟩ : ByteArray) x4_1) == a0) = true := beq_iff_eq.mpr c5
      have c5b1 : ((bt (⟨#[123, 125, 40, 41, 58, 59, 44, 61, 43, 45, 42]⟩ : ByteArray) x4_1) != a0) = false := bne_eq_false_iff_eq.mpr c5
      clear c5
      obtain rfl := Option.some.inj H
      have p4 : 0 ≤ (x4_1 : Int) := dQ
      have q4 : x4_1 < (11 : Int) := dQ
      have hx4 := Qb2 (⟨#[123, 125, 40, 41, 58, 59, 44, 61, 43, 45, 42]⟩ : ByteArray) x4_1
      replace p4 := eq_true p4
      replace q4 := eq_true q4
      go_wp2
      go_ret
      exact eQ
     ·rw [if_neg c5] at H
      have c5b0 : ((bt (⟨#[123, 125, 40, 41, 58, 59, 44, 61, 43, 45, 42]⟩ : ByteArray) x4_1) == a0) = false := beq_eq_false_iff_ne.mpr c5
      have c5b1 : ((bt (⟨#[123, 125, 40, 41, 58, 59, 44, 61, 43, 45, 42]⟩ : ByteArray) x4_1) != a0) = true := bne_iff_ne.mpr c5
      have H' := J0.m H
      clear H
      have p4 : 0 ≤ (x4_1 : Int) := dQ
      have q4 : x4_1 < (11 : Int) := dQ
      have hx4 := Qb2 (⟨#[123, 125, 40, 41, 58, 59, 44, 61, 43, 45, 42]⟩ : ByteArray) x4_1
      replace p4 := eq_true p4
      replace q4 := eq_true q4
      go_wp2
      go_roundg k1
      case measure => have := HK1.o; omega
      case rel => exact ⟨(wrap64 (x4_1 + 1)), (by first | rfl | (simp; done) | (simp [*]; done)), H', ⟨by have := HK1.o; omega⟩, dR⟩
    ·rw [if_neg c3] at H
     exact absurd H (by simp)
   ·rw [if_neg c2] at H
    have c2b0 : decide (x4_1 < ((⟨#[123, 125, 40, 41, 58, 59, 44, 61, 43, 45, 42]⟩ : ByteArray).size : Int)) = false := decide_eq_false c2
    have c2y : decide (x4_1 < (11 : Int)) = false := c2b0
    clear c2
    obtain rfl := Option.some.inj H
    go_wp2
    go_ret
    exact eQ
end Go.Proofs.Ytbdcndkafaajpaa.X
end
section
namespace Go.Proofs.Ytbdcndkafaajpaa.X
open Go.RowKit YtbdcndkafaajpaaW.PrintWords YtbdcndkafaajpaaW.PrintLast YtbdcndkafaajpaaW.PrintMore
attribute [local go_sem] Qdz Qdx Qes Qer Qdm Qdl Qdy Qdw
def Qcb.f (k : Nat) (a0 : ByteArray) (a1 : Int) : Option (Int × ByteArray × Int × Int × Int × Int × Int) := if 0 ≤ a1 then (if a1 < (a0.size : Int) then ((Qbb.f (bt a0 a1)).bind fun t169 => (if t169 = true then ((Qa0.f k a0 a1).bind fun bt170 => (some (bt170.1, bt170.2.1, bt170.2.2.1, bt170.2.2.2.1, bt170.2.2.2.2.1, bt170.2.2.2.2.2.1, bt170.2.2.2.2.2.2))) else ((Qa1.f (bt a0 a1)).bind fun t177 => (if t177 = true then ((Qal.f k a0 a1).bind fun bt178 => (some (bt178.1, bt178.2.1, bt178.2.2.1, bt178.2.2.2.1, bt178.2.2.2.2.1, bt178.2.2.2.2.2.1, bt178.2.2.2.2.2.2))) else (if (bt a0 a1) = 34 then ((Qaq.f k a0 a1).bind fun bt185 => (some (bt185.1, bt185.2.1, bt185.2.2.1, bt185.2.2.2.1, bt185.2.2.2.2.1, bt185.2.2.2.2.2.1, bt185.2.2.2.2.2.2))) else ((Qa5.f k (bt a0 a1)).bind fun t192 => (if t192 = true then (if a1 ≤ (wrap64 (a1 + 1)) then (if (wrap64 (a1 + 1)) ≤ (a0.size : Int) then (some (4, a0.extract (a1 : Int).toNat ((wrap64 (a1 + 1)) : Int).toNat, 0, a1, wrap64 (a1 + 1), 0, 0)) else (none)) else (none)) else (some (0, (⟨#[]⟩ : ByteArray), 0, 0, 0, a1, 80))))))))) else (none)) else (none)
theorem Qcb.calls (k : Nat) (a0 : ByteArray) (a1 : Int) (r1 : Int) (r2 : ByteArray) (r3 : Int) (r4 : Int) (r5 : Int) (r6 : Int) (r7 : Int) (w : World) (h : Qcb.f k a0 a1 = some (r1, r2, r3, r4, r5, r6, r7)) :
  Calls Try.prog 42 #[.string a0, .int .i64 a1] w fun e w' => e = .returned (.tuple #[.agg #[.int .i64 r1, .string r2, .int .u64 r3, .int .i64 r4, .int .i64 r5], .int .i64 r6, .int .i64 r7]) ∧ Below w.heap.size w w' := by
 have hu47 := Try.underlying47
 have HB := J0.m (Below.refl w.heap.size w)
 have H : (if 0 ≤ a1 then (if a1 < (a0.size : Int) then ((Qbb.f (bt a0 a1)).bind fun t169 => (if t169 = true then ((Qa0.f k a0 a1).bind fun bt170 => (some (bt170.1, bt170.2.1, bt170.2.2.1, bt170.2.2.2.1, bt170.2.2.2.2.1, bt170.2.2.2.2.2.1, bt170.2.2.2.2.2.2))) else ((Qa1.f (bt a0 a1)).bind fun t177 => (if t177 = true then ((Qal.f k a0 a1).bind fun bt178 => (some (bt178.1, bt178.2.1, bt178.2.2.1, bt178.2.2.2.1, bt178.2.2.2.2.1, bt178.2.2.2.2.2.1, bt178.2.2.2.2.2.2))) else (if (bt a0 a1) = 34 then ((Qaq.f k a0 a1).bind fun bt185 => (some (bt185.1, bt185.2.1, bt185.2.2.1, bt185.2.2.2.1, bt185.2.2.2.2.1, bt185.2.2.2.2.2.1, bt185.2.2.2.2.2.2))) else ((Qa5.f k (bt a0 a1)).bind fun t192 => (if t192 = true then (if a1 ≤ (wrap64 (a1 + 1)) then (if (wrap64 (a1 + 1)) ≤ (a0.size : Int) then (some (4, a0.extract (a1 : Int).toNat ((wrap64 (a1 + 1)) : Int).toNat, 0, a1, wrap64 (a1 + 1), 0, 0)) else (none)) else (none)) else (some (0, (⟨#[]⟩ : ByteArray), 0, 0, 0, a1, 80))))))))) else (none)) else (none)) = some (r1, r2, r3, r4, r5, r6, r7) := h
 clear h
 by_cases c3 : 0 ≤ a1
 ·rw [if_pos c3] at H
  have c3b0 : decide (0 ≤ a1) = true := decide_eq_true c3
  clear c3
  by_cases c4 : a1 < (a0.size : Int)
  ·rw [if_pos c4] at H
   have c4b0 : decide (a1 < (a0.size : Int)) = true := decide_eq_true c4
   clear c4
   replace H := Option.bind_eq_some_iff.mp H
   obtain ⟨t169, A60, H⟩ := H
   replace H : (if t169 = true then ((Qa0.f k a0 a1).bind fun bt170 => (some (bt170.1, bt170.2.1, bt170.2.2.1, bt170.2.2.2.1, bt170.2.2.2.2.1, bt170.2.2.2.2.2.1, bt170.2.2.2.2.2.2))) else ((Qa1.f (bt a0 a1)).bind fun t177 => (if t177 = true then ((Qal.f k a0 a1).bind fun bt178 => (some (bt178.1, bt178.2.1, bt178.2.2.1, bt178.2.2.2.1, bt178.2.2.2.2.1, bt178.2.2.2.2.2.1, bt178.2.2.2.2.2.2))) else (if (bt a0 a1) = 34 then ((Qaq.f k a0 a1).bind fun bt185 => (some (bt185.1, bt185.2.1, bt185.2.2.1, bt185.2.2.2.1, bt185.2.2.2.2.1, bt185.2.2.2.2.2.1, bt185.2.2.2.2.2.2))) else ((Qa5.f k (bt a0 a1)).bind fun t192 => (if t192 = true then (if a1 ≤ (wrap64 (a1 + 1)) then (if (wrap64 (a1 + 1)) ≤ (a0.size : Int) then (some (4, a0.extract (a1 : Int).toNat ((wrap64 (a1 + 1)) : Int).toNat, 0, a1, wrap64 (a1 + 1), 0, 0)) else (none)) else (none)) else (some (0, (⟨#[]⟩ : ByteArray), 0, 0, 0, a1, 80)))))))) = some (r1, r2, r3, r4, r5, r6, r7) := H
   have A6 := J0.m A60
   clear A60
   by_cases c7 : t169 = true
   ·subst c7
    have H1 : ((Qa0.f k a0 a1).bind fun bt170 => (some (bt170.1, bt170.2.1, bt170.2.2.1, bt170.2.2.2.1, bt170.2.2.2.2.1, bt170.2.2.2.2.2.1, bt170.2.2.2.2.2.2))) = some (r1, r2, r3, r4, r5, r6, r7) := by rw [if_pos rfl] at H; exact H
    clear H
    have H := H1
    clear H1
    replace H := Option.bind_eq_some_iff.mp H
    obtain ⟨⟨t170, t171, t172, t173, t174, t175, t176⟩, A80, H⟩ := H
    replace H : (some (t170, t171, t172, t173, t174, t175, t176)) = some (r1, r2, r3, r4, r5, r6, r7) := H
    have A8 := J0.m A80
    clear A80
    simp only [Option.some.injEq, Prod.mk.injEq] at H
    obtain ⟨rfl, rfl, rfl, rfl, rfl, rfl, rfl⟩ := H
    go_enter Try.func42, Try.ntmps42
    go_wp2_with (first | ((with_reducible refine Qb0 (N := 4) rfl ?_); refine Qbu ?hg (N := 4) ?hd (cs := zT0) (t := 47) ?hr ?_; (case hd => rfl); (case hg => rfl); (case hr => first | (go_simp; done) | (go_simp; rfl)); intro gb168 hg w9 hbox hb; have n0_ := J0.m (Qak bR hb); have n1_ := J0.m (hbox); have n2_ := J0.m ((by rw [hg]; exact (Qbd bR) : w.heap.size ≤ gb168)); have n3_ := n2_; clear HB; have HB := n0_; have BK168 := n1_; have GW168 := n2_; have GE168 := n3_; clear n0_ n1_ n2_ n3_; clear hb hbox hg; have p5 : 0 ≤ (a1 : Int) := dQ; have q5 : a1 < (a0.size : Int) := dQ; have hx5 := Qb2 a0 a1; replace p5 := eq_true p5; replace q5 := eq_true q5) | ((with_reducible refine Qat (f := 64) rfl ?_); refine Qbt (some 13) rfl rfl Try.func64 (by kernel_rfl) rfl #[.int .u8 (bt a0 a1)] rfl mQ ?_; (with_reducible refine (Qbb.calls (bt a0 a1) true _ A6.o).mono ?_); rintro e w' ⟨rfl, ⟨nd, rfl⟩⟩; refine ⟨_, rfl, ?_⟩; (try (rw [Qb6 w9]; generalize hq_ : World.drewN w9 _ = w9; have n0_ : J0 (w9.heap[gb168]? = some (.cells #[.int .i64 0, .string ⟨#[]⟩, .int .u64 0, .int .i64 0, .int .i64 0] 47 (0, 0))) := ⟨by rw [← hq_]; exact (by (with_reducible repeat (first | apply Qag | apply Qai | apply Qah)); exact BK168.o)⟩; have n1_ : J0 (Below w.heap.size w w9) := ⟨by rw [← hq_]; exact (by repeat (first | (with_reducible first | exact HB.o | apply Qab | apply Qad | apply Qaf | refine Qan ?_ GE168.o) | exact HB.o))⟩; clear BK168 HB hq_; have BK168 := n0_; have HB := n1_; clear n0_ n1_))) | ((with_reducible refine Qat (f := 65) rfl ?_); refine Qbt (some 16) rfl rfl Try.func65 (by kernel_rfl) rfl #[.string a0, .int .i64 a1] rfl mQ ?_; (with_reducible refine (Qa0.calls k a0 a1 t170 t171 t172 t173 t174 t175 t176 _ A8.o).mono ?_); rintro e w10 ⟨rfl, hb⟩; refine ⟨_, rfl, ?_⟩; have n0_ := J0.m (Qae (g := gb168) (o := .cells #[.int .i64 0, .string ⟨#[]⟩, .int .u64 0, .int .i64 0, .int .i64 0] 47 (0, 0)) (by (with_reducible repeat (first | apply Qag | apply Qai | apply Qah)); exact BK168.o) hb); have n1_ := J0.m (Qak (by repeat (first | (with_reducible first | exact HB.o | apply Qab | apply Qad | apply Qaf | refine Qan ?_ GE168.o) | exact HB.o)) hb); clear BK168; clear HB; have BK168 := n0_; have HB := n1_; clear n0_ n1_; (try clear hb); (try clear hb2); (try clear hk); (try clear hi); obtain ⟨hcz11_0, hcz11_1, hcz11_2, hcz11_3, hcz11_4⟩ := (bx5 BK168.o); have hfz11_0 := Qaa BK168.o 0; have hfz11_1 := Qaa BK168.o 1; have hfz11_2 := Qaa BK168.o 2; have hfz11_3 := Qaa BK168.o 3; have hfz11_4 := Qaa BK168.o 4))
    refine bodyPost_ret (Qbc rfl _ _ gb168 47 #[.int .i64 t170, .string t171, .int .u64 t172, .int .i64 t173, .int .i64 t174] (0, 0) _ rfl (by (with_reducible repeat (first | apply Qag | apply Qai | apply Qah)); apply sv5; (with_reducible repeat (first | apply Qag | apply Qai | apply Qah)); exact BK168.o) Try.underlying47 rfl (by kernel_rfl)) rfl ?_
    exact ⟨by first | rfl | (simp [Qax, Qaw] <;> rfl) | (simp [*, Qax, Qaw] <;> rfl), by repeat (first | (with_reducible first | exact HB.o | apply Qab | apply Qad | apply Qaf | refine Qan ?_ GE168.o) | exact HB.o)⟩
   ·replace c7 := Bool.eq_false_iff.mpr c7
    subst c7
    have H1 : ((Qa1.f (bt a0 a1)).bind fun t177 => (if t177 = true then ((Qal.f k a0 a1).bind fun bt178 => (some (bt178.1, bt178.2.1, bt178.2.2.1, bt178.2.2.2.1, bt178.2.2.2.2.1, bt178.2.2.2.2.2.1, bt178.2.2.2.2.2.2))) else (if (bt a0 a1) = 34 then ((Qaq.f k a0 a1).bind fun bt185 => (some (bt185.1, bt185.2.1, bt185.2.2.1, bt185.2.2.2.1, bt185.2.2.2.2.1, bt185.2.2.2.2.2.1, bt185.2.2.2.2.2.2))) else ((Qa5.f k (bt a0 a1)).bind fun t192 => (if t192 = true then (if a1 ≤ (wrap64 (a1 + 1)) then (if (wrap64 (a1 + 1)) ≤ (a0.size : Int) then (some (4, a0.extract (a1 : Int).toNat ((wrap64 (a1 + 1)) : Int).toNat, 0, a1, wrap64 (a1 + 1), 0, 0)) else (none)) else (none)) else (some (0, (⟨#[]⟩ : ByteArray), 0, 0, 0, a1, 80))))))) = some (r1, r2, r3, r4, r5, r6, r7) := by rw [if_neg (show ¬ (false = true) by decide)] at H; exact H
    clear H
    have H := H1
    clear H1
    replace H := Option.bind_eq_some_iff.mp H
    obtain ⟨t177, A120, H⟩ := H
    replace H : (if t177 = true then ((Qal.f k a0 a1).bind fun bt178 => (some (bt178.1, bt178.2.1, bt178.2.2.1, bt178.2.2.2.1, bt178.2.2.2.2.1, bt178.2.2.2.2.2.1, bt178.2.2.2.2.2.2))) else (if (bt a0 a1) = 34 then ((Qaq.f k a0 a1).bind fun bt185 => (some (bt185.1, bt185.2.1, bt185.2.2.1, bt185.2.2.2.1, bt185.2.2.2.2.1, bt185.2.2.2.2.2.1, bt185.2.2.2.2.2.2))) else ((Qa5.f k (bt a0 a1)).bind fun t192 => (if t192 = true then (if a1 ≤ (wrap64 (a1 + 1)) then (if (wrap64 (a1 + 1)) ≤ (a0.size : Int) then (some (4, a0.extract (a1 : Int).toNat ((wrap64 (a1 + 1)) : Int).toNat, 0, a1, wrap64 (a1 + 1), 0, 0)) else (none)) else (none)) else (some (0, (⟨#[]⟩ : ByteArray), 0, 0, 0, a1, 80)))))) = some (r1, r2, r3, r4, r5, r6, r7) := H
    have A12 := J0.m A120
    clear A120
    by_cases c13 : t177 = true
    ·subst c13
     have H1 : ((Qal.f k a0 a1).bind fun bt178 => (some (bt178.1, bt178.2.1, bt178.2.2.1, bt178.2.2.2.1, bt178.2.2.2.2.1, bt178.2.2.2.2.2.1, bt178.2.2.2.2.2.2))) = some (r1, r2, r3, r4, r5, r6, r7) := by rw [if_pos rfl] at H; exact H
     clear H
     have H := H1
     clear H1
     replace H := Option.bind_eq_some_iff.mp H
     obtain ⟨⟨t178, t179, t180, t181, t182, t183, t184⟩, A140, H⟩ := H
     replace H : (some (t178, t179, t180, t181, t182, t183, t184)) = some (r1, r2, r3, r4, r5, r6, r7) := H
     have A14 := J0.m A140
     clear A140
     simp only [Option.some.injEq, Prod.mk.injEq] at H
     obtain ⟨rfl, rfl, rfl, rfl, rfl, rfl, rfl⟩ := H
     go_enter Try.func42, Try.ntmps42
     go_wp2_with (first | ((with_reducible refine Qb0 (N := 4) rfl ?_); refine Qbu ?hg (N := 4) ?hd (cs := zT0) (t := 47) ?hr ?_; (case hd => rfl); (case hg => rfl); (case hr => first | (go_simp; done) | (go_simp; rfl)); intro gb168 hg w15 hbox hb; have n0_ := J0.m (Qak bR hb); have n1_ := J0.m (hbox); have n2_ := J0.m ((by rw [hg]; exact (Qbd bR) : w.heap.size ≤ gb168)); have n3_ := n2_; clear HB; have HB := n0_; have BK168 := n1_; have GW168 := n2_; have GE168 := n3_; clear n0_ n1_ n2_ n3_; clear hb hbox hg; have p5 : 0 ≤ (a1 : Int) := dQ; have q5 : a1 < (a0.size : Int) := dQ; have hx5 := Qb2 a0 a1; replace p5 := eq_true p5; replace q5 := eq_true q5) | ((with_reducible refine Qat (f := 64) rfl ?_); refine Qbt (some 13) rfl rfl Try.func64 (by kernel_rfl) rfl #[.int .u8 (bt a0 a1)] rfl mQ ?_; (with_reducible refine (Qbb.calls (bt a0 a1) false _ A6.o).mono ?_); rintro e w' ⟨rfl, ⟨nd, rfl⟩⟩; refine ⟨_, rfl, ?_⟩; (try (rw [Qb6 w15]; generalize hq_ : World.drewN w15 _ = w15; have n0_ : J0 (w15.heap[gb168]? = some (.cells #[.int .i64 0, .string ⟨#[]⟩, .int .u64 0, .int .i64 0, .int .i64 0] 47 (0, 0))) := ⟨by rw [← hq_]; exact (by (with_reducible repeat (first | apply Qag | apply Qai | apply Qah)); exact BK168.o)⟩; have n1_ : J0 (Below w.heap.size w w15) := ⟨by rw [← hq_]; exact (by repeat (first | (with_reducible first | exact HB.o | apply Qab | apply Qad | apply Qaf | refine Qan ?_ GE168.o) | exact HB.o))⟩; clear BK168 HB hq_; have BK168 := n0_; have HB := n1_; clear n0_ n1_))) | ((with_reducible refine Qat (f := 66) rfl ?_); refine Qbt (some 22) rfl rfl Try.func66 (by kernel_rfl) rfl #[.int .u8 (bt a0 a1)] rfl mQ ?_; (with_reducible refine (Qa1.calls (bt a0 a1) true _ A12.o).mono ?_); rintro e w' ⟨rfl, ⟨nd, rfl⟩⟩; refine ⟨_, rfl, ?_⟩; (try (rw [Qb6 w15]; generalize hq_ : World.drewN w15 _ = w15; have n0_ : J0 (w15.heap[gb168]? = some (.cells #[.int .i64 0, .string ⟨#[]⟩, .int .u64 0, .int .i64 0, .int .i64 0] 47 (0, 0))) := ⟨by rw [← hq_]; exact (by (with_reducible repeat (first | apply Qag | apply Qai | apply Qah)); exact BK168.o)⟩; have n1_ : J0 (Below w.heap.size w w15) := ⟨by rw [← hq_]; exact (by repeat (first | (with_reducible first | exact HB.o | apply Qab | apply Qad | apply Qaf | refine Qan ?_ GE168.o) | exact HB.o))⟩; clear BK168 HB hq_; have BK168 := n0_; have HB := n1_; clear n0_ n1_))) | ((with_reducible refine Qat (f := 67) rfl ?_); refine Qbt (some 25) rfl rfl Try.func67 (by kernel_rfl) rfl #[.string a0, .int .i64 a1] rfl mQ ?_; (with_reducible refine (Qal.calls k a0 a1 t178 t179 t180 t181 t182 t183 t184 _ A14.o).mono ?_); rintro e w16 ⟨rfl, hb⟩; refine ⟨_, rfl, ?_⟩; have n0_ := J0.m (Qae (g := gb168) (o := .cells #[.int .i64 0, .string ⟨#[]⟩, .int .u64 0, .int .i64 0, .int .i64 0] 47 (0, 0)) (by (with_reducible repeat (first | apply Qag | apply Qai | apply Qah)); exact BK168.o) hb); have n1_ := J0.m (Qak (by repeat (first | (with_reducible first | exact HB.o | apply Qab | apply Qad | apply Qaf | refine Qan ?_ GE168.o) | exact HB.o)) hb); clear BK168; clear HB; have BK168 := n0_; have HB := n1_; clear n0_ n1_; (try clear hb); (try clear hb2); (try clear hk); (try clear hi); obtain ⟨hcz17_0, hcz17_1, hcz17_2, hcz17_3, hcz17_4⟩ := (bx5 BK168.o); have hfz17_0 := Qaa BK168.o 0; have hfz17_1 := Qaa BK168.o 1; have hfz17_2 := Qaa BK168.o 2; have hfz17_3 := Qaa BK168.o 3; have hfz17_4 := Qaa BK168.o 4))
     refine bodyPost_ret (Qbc rfl _ _ gb168 47 #[.int .i64 t178, .string t179, .int .u64 t180, .int .i64 t181, .int .i64 t182] (0, 0) _ rfl (by (with_reducible repeat (first | apply Qag | apply Qai | apply Qah)); apply sv5; (with_reducible repeat (first | apply Qag | apply Qai | apply Qah)); exact BK168.o) Try.underlying47 rfl (by kernel_rfl)) rfl ?_
     exact ⟨by first | rfl | (simp [Qax, Qaw] <;> rfl) | (simp [*, Qax, Qaw] <;> rfl), by repeat (first | (with_reducible first | exact HB.o | apply Qab | apply Qad | apply Qaf | refine Qan ?_ GE168.o) | exact HB.o)⟩
    ·replace c13 := Bool.eq_false_iff.mpr c13
     subst c13
     have H1 : (if (bt a0 a1) = 34 then ((Qaq.f k a0 a1).bind fun bt185 => (some (bt185.1, bt185.2.1, bt185.2.2.1, bt185.2.2.2.1, bt185.2.2.2.2.1, bt185.2.2.2.2.2.1, bt185.2.2.2.2.2.2))) else ((Qa5.f k (bt a0 a1)).bind fun t192 => (if t192 = true then (if a1 ≤ (wrap64 (a1 + 1)) then (if (wrap64 (a1 + 1)) ≤ (a0.size : Int) then (some (4, a0.extract (a1 : Int).toNat ((wrap64 (a1 + 1)) : Int).toNat, 0, a1, wrap64 (a1 + 1), 0, 0)) else (none)) else (none)) else (some (0, (⟨#[]⟩ : ByteArray), 0, 0, 0, a1, 80))))) = some (r1, r2, r3, r4, r5, r6, r7) := by rw [if_neg (show ¬ (false = true) by decide)] at H; exact H
     clear H
     have H := H1
     clear H1
     by_cases c18 : (bt a0 a1) = 34
     ·rw [if_pos c18] at H
      have c18b0 : ((bt a0 a1) == 34) = true := beq_iff_eq.mpr c18
      have c18b1 : ((bt a0 a1) != 34) = false := bne_eq_false_iff_eq.mpr c18
      clear c18
      replace H := Option.bind_eq_some_iff.mp H
      obtain ⟨⟨t185, t186, t187, t188, t189, t190, t191⟩, A190, H⟩ := H
      replace H : (some (t185, t186, t187, t188, t189, t190, t191)) = some (r1, r2, r3, r4, r5, r6, r7) := H
      have A19 := J0.m A190
      clear A190
      simp only [Option.some.injEq, Prod.mk.injEq] at H
      obtain ⟨rfl, rfl, rfl, rfl, rfl, rfl, rfl⟩ := H
      go_enter Try.func42, Try.ntmps42
      go_wp2_with (first | ((with_reducible refine Qb0 (N := 4) rfl ?_); refine Qbu ?hg (N := 4) ?hd (cs := zT0) (t := 47) ?hr ?_; (case hd => rfl); (case hg => rfl); (case hr => first | (go_simp; done) | (go_simp; rfl)); intro gb168 hg w20 hbox hb; have n0_ := J0.m (Qak bR hb); have n1_ := J0.m (hbox); have n2_ := J0.m ((by rw [hg]; exact (Qbd bR) : w.heap.size ≤ gb168)); have n3_ := n2_; clear HB; have HB := n0_; have BK168 := n1_; have GW168 := n2_; have GE168 := n3_; clear n0_ n1_ n2_ n3_; clear hb hbox hg; have p5 : 0 ≤ (a1 : Int) := dQ; have q5 : a1 < (a0.size : Int) := dQ; have hx5 := Qb2 a0 a1; replace p5 := eq_true p5; replace q5 := eq_true q5) | ((with_reducible refine Qat (f := 64) rfl ?_); refine Qbt (some 13) rfl rfl Try.func64 (by kernel_rfl) rfl #[.int .u8 (bt a0 a1)] rfl mQ ?_; (with_reducible refine (Qbb.calls (bt a0 a1) false _ A6.o).mono ?_); rintro e w' ⟨rfl, ⟨nd, rfl⟩⟩; refine ⟨_, rfl, ?_⟩; (try (rw [Qb6 w20]; generalize hq_ : World.drewN w20 _ = w20; have n0_ : J0 (w20.heap[gb168]? = some (.cells #[.int .i64 0, .string ⟨#[]⟩, .int .u64 0, .int .i64 0, .int .i64 0] 47 (0, 0))) := ⟨by rw [← hq_]; exact (by (with_reducible repeat (first | apply Qag | apply Qai | apply Qah)); exact BK168.o)⟩; have n1_ : J0 (Below w.heap.size w w20) := ⟨by rw [← hq_]; exact (by repeat (first | (with_reducible first | exact HB.o | apply Qab | apply Qad | apply Qaf | refine Qan ?_ GE168.o) | exact HB.o))⟩; clear BK168 HB hq_; have BK168 := n0_; have HB := n1_; clear n0_ n1_))) | ((with_reducible refine Qat (f := 66) rfl ?_); refine Qbt (some 22) rfl rfl Try.func66 (by kernel_rfl) rfl #[.int .u8 (bt a0 a1)] rfl mQ ?_; (with_reducible refine (Qa1.calls (bt a0 a1) false _ A12.o).mono ?_); rintro e w' ⟨rfl, ⟨nd, rfl⟩⟩; refine ⟨_, rfl, ?_⟩; (try (rw [Qb6 w20]; generalize hq_ : World.drewN w20 _ = w20; have n0_ : J0 (w20.heap[gb168]? = some (.cells #[.int .i64 0, .string ⟨#[]⟩, .int .u64 0, .int .i64 0, .int .i64 0] 47 (0, 0))) := ⟨by rw [← hq_]; exact (by (with_reducible repeat (first | apply Qag | apply Qai | apply Qah)); exact BK168.o)⟩; have n1_ : J0 (Below w.heap.size w w20) := ⟨by rw [← hq_]; exact (by repeat (first | (with_reducible first | exact HB.o | apply Qab | apply Qad | apply Qaf | refine Qan ?_ GE168.o) | exact HB.o))⟩; clear BK168 HB hq_; have BK168 := n0_; have HB := n1_; clear n0_ n1_))) | ((with_reducible refine Qat (f := 68) rfl ?_); refine Qbt (some 34) rfl rfl Try.func68 (by kernel_rfl) rfl #[.string a0, .int .i64 a1] rfl mQ ?_; (with_reducible refine (Qaq.calls k a0 a1 t185 t186 t187 t188 t189 t190 t191 _ A19.o).mono ?_); rintro e w21 ⟨rfl, hb⟩; refine ⟨_, rfl, ?_⟩; have n0_ := J0.m (Qae (g := gb168) (o := .cells #[.int .i64 0, .string ⟨#[]⟩, .int .u64 0, .int .i64 0, .int .i64 0] 47 (0, 0)) (by (with_reducible repeat (first | apply Qag | apply Qai | apply Qah)); exact BK168.o) hb); have n1_ := J0.m (Qak (by repeat (first | (with_reducible first | exact HB.o | apply Qab | apply Qad | apply Qaf | refine Qan ?_ GE168.o) | exact HB.o)) hb); clear BK168; clear HB; have BK168 := n0_; have HB := n1_; clear n0_ n1_; (try clear hb); (try clear hb2); (try clear hk); (try clear hi); obtain ⟨hcz22_0, hcz22_1, hcz22_2, hcz22_3, hcz22_4⟩ := (bx5 BK168.o); have hfz22_0 := Qaa BK168.o 0; have hfz22_1 := Qaa BK168.o 1; have hfz22_2 := Qaa BK168.o 2; have hfz22_3 := Qaa BK168.o 3; have hfz22_4 := Qaa BK168.o 4))
      refine bodyPost_ret (Qbc rfl _ _ gb168 47 #[.int .i64 t185, .string t186, .int .u64 t187, .int .i64 t188, .int .i64 t189] (0, 0) _ rfl (by (with_reducible repeat (first | apply Qag | apply Qai | apply Qah)); apply sv5; (with_reducible repeat (first | apply Qag | apply Qai | apply Qah)); exact BK168.o) Try.underlying47 rfl (by kernel_rfl)) rfl ?_
      exact ⟨by first | rfl | (simp [Qax, Qaw] <;> rfl) | (simp [*, Qax, Qaw] <;> rfl), by repeat (first | (with_reducible first | exact HB.o | apply Qab | apply Qad | apply Qaf | refine Qan ?_ GE168.o) | exact HB.o)⟩
     ·rw [if_neg c18] at H
      have c18b0 : ((bt a0 a1) == 34) = false := beq_eq_false_iff_ne.mpr c18
      have c18b1 : ((bt a0 a1) != 34) = true := bne_iff_ne.mpr c18
      replace H := Option.bind_eq_some_iff.mp H
      obtain ⟨t192, A230, H⟩ := H
      replace H : (if t192 = true then (if a1 ≤ (wrap64 (a1 + 1)) then (if (wrap64 (a1 + 1)) ≤ (a0.size : Int) then (some (4, a0.extract (a1 : Int).toNat ((wrap64 (a1 + 1)) : Int).toNat, 0, a1, wrap64 (a1 + 1), 0, 0)) else (none)) else (none)) else (some (0, (⟨#[]⟩ : ByteArray), 0, 0, 0, a1, 80))) = some (r1, r2, r3, r4, r5, r6, r7) := H
      have A23 := J0.m A230
      clear A230
      by_cases c24 : t192 = true
      ·subst c24
       have H1 : (if a1 ≤ (wrap64 (a1 + 1)) then (if (wrap64 (a1 + 1)) ≤ (a0.size : Int) then (some (4, a0.extract (a1 : Int).toNat ((wrap64 (a1 + 1)) : Int).toNat, 0, a1, wrap64 (a1 + 1), 0, 0)) else (none)) else (none)) = some (r1, r2, r3, r4, r5, r6, r7) := by rw [if_pos rfl] at H; exact H
       clear H
       have H := H1
       clear H1
       have c25b0 := eq_true (dQ : 0 ≤ a1)
       by_cases c26 : a1 ≤ (wrap64 (a1 + 1))
       ·rw [if_pos c26] at H
        have c26b0 := eq_true c26
        have c26b1 : decide (a1 ≤ (wrap64 (a1 + 1))) = true := decide_eq_true c26
        by_cases c27 : (wrap64 (a1 + 1)) ≤ (a0.size : Int)
        ·rw [if_pos c27] at H
         have c27b0 := eq_true c27
         have c27b1 : decide ((wrap64 (a1 + 1)) ≤ (a0.size : Int)) = true := decide_eq_true c27
         simp only [Option.some.injEq, Prod.mk.injEq] at H
         obtain ⟨rfl, rfl, rfl, rfl, rfl, rfl, rfl⟩ := H
         go_enter Try.func42, Try.ntmps42
         go_wp2_with (first | ((with_reducible refine Qb0 (N := 4) rfl ?_); refine Qbu ?hg (N := 4) ?hd (cs := zT0) (t := 47) ?hr ?_; (case hd => rfl); (case hg => rfl); (case hr => first | (go_simp; done) | (go_simp; rfl)); intro gb168 hg w28 hbox hb; have n0_ := J0.m (Qak bR hb); have n1_ := J0.m (hbox); have n2_ := J0.m ((by rw [hg]; exact (Qbd bR) : w.heap.size ≤ gb168)); have n3_ := n2_; clear HB; have HB := n0_; have BK168 := n1_; have GW168 := n2_; have GE168 := n3_; clear n0_ n1_ n2_ n3_; clear hb hbox hg; have p5 : 0 ≤ (a1 : Int) := dQ; have q5 : a1 < (a0.size : Int) := dQ; have hx5 := Qb2 a0 a1; replace p5 := eq_true p5; replace q5 := eq_true q5) | ((with_reducible refine Qat (f := 64) rfl ?_); refine Qbt (some 13) rfl rfl Try.func64 (by kernel_rfl) rfl #[.int .u8 (bt a0 a1)] rfl mQ ?_; (with_reducible refine (Qbb.calls (bt a0 a1) false _ A6.o).mono ?_); rintro e w' ⟨rfl, ⟨nd, rfl⟩⟩; refine ⟨_, rfl, ?_⟩; (try (rw [Qb6 w28]; generalize hq_ : World.drewN w28 _ = w28; have n0_ : J0 (w28.heap[gb168]? = some (.cells #[.int .i64 0, .string ⟨#[]⟩, .int .u64 0, .int .i64 0, .int .i64 0] 47 (0, 0))) := ⟨by rw [← hq_]; exact (by (with_reducible repeat (first | apply Qag | apply Qai | apply Qah)); exact BK168.o)⟩; have n1_ : J0 (Below w.heap.size w w28) := ⟨by rw [← hq_]; exact (by repeat (first | (with_reducible first | exact HB.o | apply Qab | apply Qad | apply Qaf | refine Qan ?_ GE168.o) | exact HB.o))⟩; clear BK168 HB hq_; have BK168 := n0_; have HB := n1_; clear n0_ n1_))) | ((with_reducible refine Qat (f := 66) rfl ?_); refine Qbt (some 22) rfl rfl Try.func66 (by kernel_rfl) rfl #[.int .u8 (bt a0 a1)] rfl mQ ?_; (with_reducible refine (Qa1.calls (bt a0 a1) false _ A12.o).mono ?_); rintro e w' ⟨rfl, ⟨nd, rfl⟩⟩; refine ⟨_, rfl, ?_⟩; (try (rw [Qb6 w28]; generalize hq_ : World.drewN w28 _ = w28; have n0_ : J0 (w28.heap[gb168]? = some (.cells #[.int .i64 0, .string ⟨#[]⟩, .int .u64 0, .int .i64 0, .int .i64 0] 47 (0, 0))) := ⟨by rw [← hq_]; exact (by (with_reducible repeat (first | apply Qag | apply Qai | apply Qah)); exact BK168.o)⟩; have n1_ : J0 (Below w.heap.size w w28) := ⟨by rw [← hq_]; exact (by repeat (first | (with_reducible first | exact HB.o | apply Qab | apply Qad | apply Qaf | refine Qan ?_ GE168.o) | exact HB.o))⟩; clear BK168 HB hq_; have BK168 := n0_; have HB := n1_; clear n0_ n1_))) | ((with_reducible refine Qat (f := 69) rfl ?_); refine Qbt (some 40) rfl rfl Try.func69 (by kernel_rfl) rfl #[.int .u8 (bt a0 a1)] rfl mQ ?_; (with_reducible refine (Qa5.calls k (bt a0 a1) true _ A23.o).mono ?_); rintro e w' ⟨rfl, ⟨nd, rfl⟩⟩; refine ⟨_, rfl, ?_⟩; (try (rw [Qb6 w28]; generalize hq_ : World.drewN w28 _ = w28; have n0_ : J0 (w28.heap[gb168]? = some (.cells #[.int .i64 0, .string ⟨#[]⟩, .int .u64 0, .int .i64 0, .int .i64 0] 47 (0, 0))) := ⟨by rw [← hq_]; exact (by (with_reducible repeat (first | apply Qag | apply Qai | apply Qah)); exact BK168.o)⟩; have n1_ : J0 (Below w.heap.size w w28) := ⟨by rw [← hq_]; exact (by repeat (first | (with_reducible first | exact HB.o | apply Qab | apply Qad | apply Qaf | refine Qan ?_ GE168.o) | exact HB.o))⟩; clear BK168 HB hq_; have BK168 := n0_; have HB := n1_; clear n0_ n1_)); obtain ⟨hcz29_0, hcz29_1, hcz29_2, hcz29_3, hcz29_4⟩ := (bx5 BK168.o); have hfz29_0 := Qaa BK168.o 0; have hfz29_1 := Qaa BK168.o 1; have hfz29_2 := Qaa BK168.o 2; have hfz29_3 := Qaa BK168.o 3; have hfz29_4 := Qaa BK168.o 4))
         refine bodyPost_ret (Qbc rfl _ _ gb168 47 #[.int .i64 4, .string (a0.extract (a1 : Int).toNat ((wrap64 (a1 + 1)) : Int).toNat), .int .u64 0, .int .i64 a1, .int .i64 (wrap64 (a1 + 1))] (0, 0) _ rfl (by (with_reducible repeat (first | apply Qag | apply Qai | apply Qah)); apply sv5; (with_reducible repeat (first | apply Qag | apply Qai | apply Qah)); exact BK168.o) Try.underlying47 rfl (by kernel_rfl)) rfl ?_
         exact ⟨by first | rfl | (simp [Qax, Qaw] <;> rfl) | (simp [*, Qax, Qaw] <;> rfl), by repeat (first | (with_reducible first | exact HB.o | apply Qab | apply Qad | apply Qaf | refine Qan ?_ GE168.o) | exact HB.o)⟩
        ·rw [if_neg c27] at H
         exact absurd H (by simp)
       ·rw [if_neg c26] at H
        exact absurd H (by simp)
      ·replace c24 := Bool.eq_false_iff.mpr c24
       subst c24
       have H1 : (some (0, (⟨#[]⟩ : ByteArray), 0, 0, 0, a1, 80)) = some (r1, r2, r3, r4, r5, r6, r7) := by rw [if_neg (show ¬ (false = true) by decide)] at H; exact H
       clear H
       have H := H1
       clear H1
       simp only [Option.some.injEq, Prod.mk.injEq] at H
       obtain ⟨rfl, rfl, rfl, rfl, rfl, rfl, rfl⟩ := H
       go_enter Try.func42, Try.ntmps42
       go_wp2_with (first | ((with_reducible refine Qb0 (N := 4) rfl ?_); refine Qbu ?hg (N := 4) ?hd (cs := zT0) (t := 47) ?hr ?_; (case hd => rfl); (case hg => rfl); (case hr => first | (go_simp; done) | (go_simp; rfl)); intro gb168 hg w30 hbox hb; have n0_ := J0.m (Qak bR hb); have n1_ := J0.m (hbox); have n2_ := J0.m ((by rw [hg]; exact (Qbd bR) : w.heap.size ≤ gb168)); have n3_ := n2_; clear HB; have HB := n0_; have BK168 := n1_; have GW168 := n2_; have GE168 := n3_; clear n0_ n1_ n2_ n3_; clear hb hbox hg; have p5 : 0 ≤ (a1 : Int) := dQ; have q5 : a1 < (a0.size : Int) := dQ; have hx5 := Qb2 a0 a1; replace p5 := eq_true p5; replace q5 := eq_true q5) | ((with_reducible refine Qat (f := 64) rfl ?_); refine Qbt (some 13) rfl rfl Try.func64 (by kernel_rfl) rfl #[.int .u8 (bt a0 a1)] rfl mQ ?_; (with_reducible refine (Qbb.calls (bt a0 a1) false _ A6.o).mono ?_); rintro e w' ⟨rfl, ⟨nd, rfl⟩⟩; refine ⟨_, rfl, ?_⟩; (try (rw [Qb6 w30]; generalize hq_ : World.drewN w30 _ = w30; have n0_ : J0 (w30.heap[gb168]? = some (.cells #[.int .i64 0, .string ⟨#[]⟩, .int .u64 0, .int .i64 0, .int .i64 0] 47 (0, 0))) := ⟨by rw [← hq_]; exact (by (with_reducible repeat (first | apply Qag | apply Qai | apply Qah)); exact BK168.o)⟩; have n1_ : J0 (Below w.heap.size w w30) := ⟨by rw [← hq_]; exact (by repeat (first | (with_reducible first | exact HB.o | apply Qab | apply Qad | apply Qaf | refine Qan ?_ GE168.o) | exact HB.o))⟩; clear BK168 HB hq_; have BK168 := n0_; have HB := n1_; clear n0_ n1_))) | ((with_reducible refine Qat (f := 66) rfl ?_); refine Qbt (some 22) rfl rfl Try.func66 (by kernel_rfl) rfl #[.int .u8 (bt a0 a1)] rfl mQ ?_; (with_reducible refine (Qa1.calls (bt a0 a1) false _ A12.o).mono ?_); rintro e w' ⟨rfl, ⟨nd, rfl⟩⟩; refine ⟨_, rfl, ?_⟩; (try (rw [Qb6 w30]; generalize hq_ : World.drewN w30 _ = w30; have n0_ : J0 (w30.heap[gb168]? = some (.cells #[.int .i64 0, .string ⟨#[]⟩, .int .u64 0, .int .i64 0, .int .i64 0] 47 (0, 0))) := ⟨by rw [← hq_]; exact (by (with_reducible repeat (first | apply Qag | apply Qai | apply Qah)); exact BK168.o)⟩; have n1_ : J0 (Below w.heap.size w w30) := ⟨by rw [← hq_]; exact (by repeat (first | (with_reducible first | exact HB.o | apply Qab | apply Qad | apply Qaf | refine Qan ?_ GE168.o) | exact HB.o))⟩; clear BK168 HB hq_; have BK168 := n0_; have HB := n1_; clear n0_ n1_))) | ((with_reducible refine Qat (f := 69) rfl ?_); refine Qbt (some 40) rfl rfl Try.func69 (by kernel_rfl) rfl #[.int .u8 (bt a0 a1)] rfl mQ ?_; (with_reducible refine (Qa5.calls k (bt a0 a1) false _ A23.o).mono ?_); rintro e w' ⟨rfl, ⟨nd, rfl⟩⟩; refine ⟨_, rfl, ?_⟩; (try (rw [Qb6 w30]; generalize hq_ : World.drewN w30 _ = w30; have n0_ : J0 (w30.heap[gb168]? = some (.cells #[.int .i64 0, .string ⟨#[]⟩, .int .u64 0, .int .i64 0, .int .i64 0] 47 (0, 0))) := ⟨by rw [← hq_]; exact (by (with_reducible repeat (first | apply Qag | apply Qai | apply Qah)); exact BK168.o)⟩; have n1_ : J0 (Below w.heap.size w w30) := ⟨by rw [← hq_]; exact (by repeat (first | (with_reducible first | exact HB.o | apply Qab | apply Qad | apply Qaf | refine Qan ?_ GE168.o) | exact HB.o))⟩; clear BK168 HB hq_; have BK168 := n0_; have HB := n1_; clear n0_ n1_)); obtain ⟨hcz31_0, hcz31_1, hcz31_2, hcz31_3, hcz31_4⟩ := (bx5 BK168.o); have hfz31_0 := Qaa BK168.o 0; have hfz31_1 := Qaa BK168.o 1; have hfz31_2 := Qaa BK168.o 2; have hfz31_3 := Qaa BK168.o 3; have hfz31_4 := Qaa BK168.o 4))
       refine bodyPost_ret (Qbc rfl _ _ gb168 47 #[.int .i64 0, .string ⟨#[]⟩, .int .u64 0, .int .i64 0, .int .i64 0] (0, 0) _ rfl (by (with_reducible repeat (first | apply Qag | apply Qai | apply Qah)); apply sv5; (with_reducible repeat (first | apply Qag | apply Qai | apply Qah)); exact BK168.o) Try.underlying47 rfl (by kernel_rfl)) rfl ?_
       exact ⟨by first | rfl | (simp [Qax, Qaw] <;> rfl) | (simp [*, Qax, Qaw] <;> rfl), by repeat (first | (with_reducible first | exact HB.o | apply Qab | apply Qad | apply Qaf | refine Qan ?_ GE168.o) | exact HB.o)⟩
  ·rw [if_neg c4] at H
   exact absurd H (by simp)
 ·rw [if_neg c3] at H
  exact absurd H (by simp)
def Qa3.l0 : Nat → ByteArray → List (S47) → Int → Option ((List (S47)) × Int × Int)
 | 0, _, _, _ => none
 | k + 1, x0, x5, x6 => if x6 < (x0.size : Int) then ((Qcb.f k x0 x6).bind fun bt197 => (if bt197.2.2.2.2.2.2 = 0 then (if x5.length < 2932031007402 then ((Qap.f k x0 bt197.2.2.2.2.1).bind fun t208 => (Qa3.l0 k x0 (x5 ++ [(⟨bt197.1, bt197.2.1, bt197.2.2.1, bt197.2.2.2.1, bt197.2.2.2.2.1⟩ : S47)]) t208)) else (none)) else (some (([] : List (S47)), bt197.2.2.2.2.2.1, bt197.2.2.2.2.2.2)))) else (if x5.length < 2932031007402 then (some ((x5 ++ [(⟨0, (⟨#[]⟩ : ByteArray), 0, (x0.size : Int), (x0.size : Int)⟩ : S47)]), 0, 0)) else (none))
def Qa3.f (k : Nat) (a0 : ByteArray) : Option ((List (S47)) × Int × Int) := if (a0.size : Int) > 1048576 then (some (([] : List (S47)), 0, 2)) else ((Qap.f k a0 0).bind fun t193 => (Qa3.l0 k a0 ([] : List (S47)) t193))
theorem Qa3.calls (k : Nat) (a0 : ByteArray) (r1 : List (S47)) (r2 : Int) (r3 : Int) (w : World) (h : Qa3.f k a0 = some (r1, r2, r3)) :
  Calls Try.prog 25 #[.string a0] w fun e w' => ∃ v0_ : Value, e = .returned (.tuple #[v0_, .int .i64 r2, .int .i64 r3]) ∧ Kd.R k47 47 w' w.heap.size (fun _ => True) v0_ r1 ∧ Below w.heap.size w w' := by
 have hu47 := Try.underlying47
 have HB := J0.m (Below.refl w.heap.size w)
 have H : (if (a0.size : Int) > 1048576 then (some (([] : List (S47)), 0, 2)) else ((Qap.f k a0 0).bind fun t193 => (Qa3.l0 k a0 ([] : List (S47)) t193))) = some (r1, r2, r3) := h
 clear h
 by_cases c2 : (a0.size : Int) > 1048576
 ·rw [if_pos c2] at H
  have c2b0 : decide (1048576 < (a0.size : Int)) = true := decide_eq_true c2
  have c2b1 : decide (1048576 < a0.size) = true := decide_eq_true (by omega)
  clear c2
  simp only [Option.some.injEq, Prod.mk.injEq] at H
  obtain ⟨rfl, rfl, rfl⟩ := H
  go_enter Try.func25, Try.ntmps25
  go_wp2
  go_ret3
  exact ⟨_, by first | rfl | (simp [Qax, Qaw] <;> rfl) | (simp [*, Qax, Qaw] <;> rfl), by first | exact Kd.Qdd _ _ _ _ _ | exact Kd.Qkg _ _ _ _ _ | exact Kd.Qkc _ _ _ _ _ | exact Kd.Qkf _ _ _ _ _ | exact Kd.Qkd _ _ _ _ _, bR⟩
 ·rw [if_neg c2] at H
  have c2b0 : decide (1048576 < (a0.size : Int)) = false := decide_eq_false c2
  have c2b1 : decide (1048576 < a0.size) = false := decide_eq_false (by omega)
  clear c2
  replace H := Option.bind_eq_some_iff.mp H
  obtain ⟨t193, A30, H⟩ := H
  replace H : (Qa3.l0 k a0 ([] : List (S47)) t193) = some (r1, r2, r3) := H
  have A3 := J0.m A30
  clear A30
  have H' := J0.m H
  clear H
  go_enter Try.func25, Try.ntmps25
  go_wp2_with (first | ((with_reducible refine Qat (f := 41) rfl ?_); refine Qbt (some 14) rfl rfl Try.func41 (by kernel_rfl) rfl #[.string a0, .int .i64 0] rfl mQ ?_; (with_reducible refine (Qap.calls k a0 0 t193 _ A3.o).mono ?_); rintro e w' ⟨rfl, ⟨nd, rfl⟩⟩; refine ⟨_, rfl, ?_⟩))
  go_loopg [5, 6] k (fun kq v5 v6 w' => ∃ (x5_1 : List (S47)) (x6_1 : Int), v6 = .int .i64 x6_1 ∧ J0 (Qa3.l0 kq a0 x5_1 x6_1 = some (r1, r2, r3)) ∧ J0 (kq ≤ k) ∧ J0 (Kd.R k47 47 w' w.heap.size (fun _ => True) v5 x5_1) ∧ J0 (Below w.heap.size w w'))
  case atStart => exact ⟨(([] : List (S47))), (t193), (by first | rfl | (simp; done) | (simp [*]; done)), H', ⟨Nat.le_refl _⟩, ⟨by first | exact Kd.Qdd _ _ _ _ _ | exact Kd.Qkg _ _ _ _ _ | exact Kd.Qkc _ _ _ _ _ | exact Kd.Qkf _ _ _ _ _ | exact Kd.Qkd _ _ _ _ _⟩, ⟨bR⟩⟩
  case round =>
   clear H'
   try clear c2
   try clear c2b0
   try clear c2b1
   try clear p2
   obtain ⟨x5_1, x6_1, rfl, HA, HK1, HO_5, HB⟩ := hrel
   cases gk with
   | zero => exact absurd HA.o (by simp [Qa3.l0])
   | succ k1 =>
    have H := HA.o
    clear HA
    simp only [Qa3.l0] at H
    by_cases c4 : x6_1 < (a0.size : Int)
    ·rw [if_pos c4] at H
     have c4b0 : decide (x6_1 < (a0.size : Int)) = true := decide_eq_true c4
     clear c4
     replace H := Option.bind_eq_some_iff.mp H
     obtain ⟨⟨t197, t198, t199, t200, t201, t202, t203⟩, A50, H⟩ := H
     replace H : (if t203 = 0 then (if x5_1.length < 2932031007402 then ((Qap.f k1 a0 t201).bind fun t208 => (Qa3.l0 k1 a0 (x5_1 ++ [(⟨t197, t198, t199, t200, t201⟩ : S47)]) t208)) else (none)) else (some (([] : List (S47)), t202, t203))) = some (r1, r2, r3) := H
     have A5 := J0.m A50
     clear A50
     by_cases c6 : t203 = 0
     ·rw [if_pos c6] at H
      have c6b0 : (t203 == 0) = true := beq_iff_eq.mpr c6
      have c6b1 : (t203 != 0) = false := bne_eq_false_iff_eq.mpr c6
      clear c6
      by_cases c7 : x5_1.length < 2932031007402
      ·rw [if_pos c7] at H
       have LMc7 := J0.m c7
       clear c7
       obtain ⟨y205, hy205⟩ : ∃ y_ : List (S47), y_ = (x5_1 ++ [(⟨t197, t198, t199, t200, t201⟩ : S47)]) := ⟨_, rfl⟩
       replace H : ((Qap.f k1 a0 t201).bind fun t208 => (Qa3.l0 k1 a0 y205 t208)) = some (r1, r2, r3) := by first | (rw [hy205]; with_reducible exact H) | (have H2_ := (Option.bind_some _ _).symm.trans H; rw [hy205]; with_reducible exact H2_) | (have H2_ := (Option.bind_some _ _).symm.trans H; with_reducible exact H2_) | with_reducible exact H | (rw [hy205]; exact H) | exact H
       have Ny205 := J0.m hy205
       clear hy205
       replace H := Option.bind_eq_some_iff.mp H
       obtain ⟨t208, A80, H⟩ := H
       replace H : (Qa3.l0 k1 a0 y205 t208) = some (r1, r2, r3) := H
       have A8 := J0.m A80
       clear A80
       have H' := J0.m H
       clear H
       go_wp2_with (first | ((with_reducible refine Qat (f := 42) rfl ?_); refine Qbt (some 22) rfl rfl Try.func42 (by kernel_rfl) rfl #[.string a0, .int .i64 x6_1] rfl mQ ?_; (with_reducible refine (Qcb.calls k1 a0 x6_1 t197 t198 t199 t200 t201 t202 t203 _ A5.o).mono ?_); rintro e w9 ⟨rfl, hb⟩; refine ⟨_, rfl, ?_⟩; have n0_ := J0.m (Kd.Qb4 (by (with_reducible repeat (first | apply Kd.Qb8 | apply Kd.Qb7 | apply Kd.Qcl)); exact HO_5.o) hb); have n1_ := J0.m (Qak bR hb); clear HO_5; clear HB; have HO_5 := n0_; have HB := n1_; clear n0_ n1_; (try clear hb); (try clear hb2); (try clear hk); (try clear hi)) | ((with_reducible refine Qb0 (N := 7) rfl ?_); refine Qbu ?hg (N := 7) ?hd (cs := zT0) (t := 47) ?hr ?_; (case hd => rfl); (case hg => rfl); (case hr => first | (go_simp; done) | (go_simp; rfl)); intro gb204 hg w10 hbox hb; have n0_ := J0.m (Kd.Qb4 (Kd.Qhj (by (with_reducible repeat (first | apply Kd.Qb8 | apply Kd.Qb7 | apply Kd.Qcl)); exact HO_5.o) gb204 (Nat.le_of_eq hg.symm)) hb); have n1_ := J0.m (Qak bR hb); have n2_ := J0.m (hbox); have n3_ := J0.m ((by rw [hg]; exact (Qbd bR) : w.heap.size ≤ gb204)); have n4_ := n3_; clear HO_5; clear HB; have HO_5 := n0_; have HB := n1_; have BK204 := n2_; have GW204 := n3_; have GE204 := n4_; clear n0_ n1_ n2_ n3_ n4_; clear hb hbox hg; have hcz11_0 : w10.cell? ⟨gb204, 0, none⟩ = some (.int .i64 0) := (Qac BK204.o 0).trans rfl; have hcz11_1 : w10.cell? ⟨gb204, 1, none⟩ = some (.string ⟨#[]⟩) := (Qac BK204.o 1).trans rfl; have hcz11_2 : w10.cell? ⟨gb204, 2, none⟩ = some (.int .u64 0) := (Qac BK204.o 2).trans rfl; have hcz11_3 : w10.cell? ⟨gb204, 3, none⟩ = some (.int .i64 0) := (Qac BK204.o 3).trans rfl; have hcz11_4 : w10.cell? ⟨gb204, 4, none⟩ = some (.int .i64 0) := (Qac BK204.o 4).trans rfl; have hfz11_0 := Qaa BK204.o 0; have hfz11_1 := Qaa BK204.o 1; have hfz11_2 := Qaa BK204.o 2; have hfz11_3 := Qaa BK204.o 3; have hfz11_4 := Qaa BK204.o 4) | ((with_reducible refine Qcu (b := .append) (xs := #[.tmp 30, .tmp 32]) rfl ?_); at_builtin; refine Kd.Qem k47 (w0 := w) w.heap.size rfl (.tmp 30) (.tmp 32) 37 47 (.agg #[(.int .i64 0), (.string ⟨#[]⟩), (.int .u64 0), (.int .i64 0), (.int .i64 0)]) 48 rfl Try.underlying37 Ql2 rfl (by decide) (by omega) u5 x5_1 (⟨t197, t198, t199, t200, t201⟩ : S47) [.int .i64 t197, .string t198, .int .u64 t199, .int .i64 t200, .int .i64 t201] (fun k_ => k_ ≠ gb204) (fun _ => False) rfl (by first | (go_simp; done) | (go_simp; rfl)) ?aP (fun _ hk => hk.elim) ?aF ?aO ?aB ?aS ?aL ?_; (case aP => exact Qjd _ _ _ (⟨t197, t198, t199, t200, t201⟩ : S47)); (case aB => exact (by repeat (first | (with_reducible first | exact HB.o | apply Qab | apply Qad | apply Qaf | refine Qan ?_ GE204.o) | exact HB.o))); (case aF => exact (fun k_ hk => Kd.Qqc (g := gb204) (o := .cells #[.int .i64 t197, .string t198, .int .u64 t199, .int .i64 t200, .int .i64 t201] 47 (0, 0)) (by (with_reducible repeat (first | apply Qag | apply Qai | apply Qah)); apply sv5; (with_reducible repeat (first | apply Qag | apply Qai | apply Qah)); exact BK204.o) k_ hk)); (case aO => exact (by (with_reducible repeat (first | apply Kd.Qb8 | apply Kd.Qb7 | apply Kd.Qcl)); exact Kd.Qe4 (Kd.Qh9 (p := ⟨gb204, 4, none⟩) (Kd.Qh9 (p := ⟨gb204, 3, none⟩) (Kd.Qh9 (p := ⟨gb204, 2, none⟩) (Kd.Qh9 (p := ⟨gb204, 1, none⟩) (Kd.Qh9 (p := ⟨gb204, 0, none⟩) (Kd.Qe4 HO_5.o (fun k_ hk => (⟨hk, hk.2⟩ : _ ∧ k_ ≠ gb204))) (fun _ hk => hk.2) (.int .i64 t197)) (fun _ hk => hk.2) (.string t198)) (fun _ hk => hk.2) (.int .u64 t199)) (fun _ hk => hk.2) (.int .i64 t200)) (fun _ hk => hk.2) (.int .i64 t201)) (fun _ hk => hk.1.2))); (case aS => exact (Qbd (by repeat (first | (with_reducible first | exact HB.o | apply Qab | apply Qad | apply Qaf | refine Qan ?_ GE204.o) | exact HB.o)))); (case aL => have := LMc7.o; omega); intro v206 w12 ho hb hg hat; rw [← Ny205.o] at ho; have n0_ := J0.m (Qbh (g := gb204) (o := .cells #[.int .i64 t197, .string t198, .int .u64 t199, .int .i64 t200, .int .i64 t201] 47 (0, 0)) (by (with_reducible repeat (first | apply Qag | apply Qai | apply Qah)); apply sv5; (with_reducible repeat (first | apply Qag | apply Qai | apply Qah)); exact BK204.o) hg (Kd.Qqk HO_5.o (fun _ hk => hk.2))); have n1_ := J0.m (hb); have n2_ := J0.m (ho); clear BK204; clear HB; clear HO_5; have BK204 := n0_; have HB := n1_; have HO207 := n2_; clear n0_ n1_ n2_; clear ho hb hg hat; obtain ⟨hcz13_0, hcz13_1, hcz13_2, hcz13_3, hcz13_4⟩ := (bx5 BK204.o); have hfz13_0 := Qaa BK204.o 0; have hfz13_1 := Qaa BK204.o 1; have hfz13_2 := Qaa BK204.o 2; have hfz13_3 := Qaa BK204.o 3; have hfz13_4 := Qaa BK204.o 4) | ((with_reducible refine Qat (f := 41) rfl ?_); refine Qbt (some 37) rfl rfl Try.func41 (by kernel_rfl) rfl #[.string a0, .int .i64 t201] rfl mQ ?_; (with_reducible refine (Qap.calls k1 a0 t201 t208 _ A8.o).mono ?_); rintro e w' ⟨rfl, ⟨nd, rfl⟩⟩; refine ⟨_, rfl, ?_⟩))
       go_roundg k1
       case measure => have := HK1.o; omega
       case rel => exact ⟨(y205), (t208), (by first | rfl | (simp; done) | (simp [*]; done)), H', ⟨by have := HK1.o; omega⟩, ⟨by (with_reducible repeat (first | apply Kd.Qb8 | apply Kd.Qb7 | apply Kd.Qcl)); exact Kd.Qe4 HO207.o (fun _ hk => trivial)⟩, ⟨by repeat (first | (with_reducible first | exact HB.o | apply Qab | apply Qad | apply Qaf | refine Qan ?_ GE204.o) | exact HB.o)⟩⟩
      ·rw [if_neg c7] at H
       exact absurd H (by simp)
     ·rw [if_neg c6] at H
      have c6b0 : (t203 == 0) = false := beq_eq_false_iff_ne.mpr c6
      have c6b1 : (t203 != 0) = true := bne_iff_ne.mpr c6
      simp only [Option.some.injEq, Prod.mk.injEq] at H
      obtain ⟨rfl, rfl, rfl⟩ := H
      go_wp2_with (first | ((with_reducible refine Qat (f := 42) rfl ?_); refine Qbt (some 22) rfl rfl Try.func42 (by kernel_rfl) rfl #[.string a0, .int .i64 x6_1] rfl mQ ?_; (with_reducible refine (Qcb.calls k1 a0 x6_1 t197 t198 t199 t200 t201 t202 t203 _ A5.o).mono ?_); rintro e w14 ⟨rfl, hb⟩; refine ⟨_, rfl, ?_⟩; have n0_ := J0.m (Kd.Qb4 (by (with_reducible repeat (first | apply Kd.Qb8 | apply Kd.Qb7 | apply Kd.Qcl)); exact HO_5.o) hb); have n1_ := J0.m (Qak bR hb); clear HO_5; clear HB; have HO_5 := n0_; have HB := n1_; clear n0_ n1_; (try clear hb); (try clear hb2); (try clear hk); (try clear hi)) | ((with_reducible refine Qb0 (N := 7) rfl ?_); refine Qbu ?hg (N := 7) ?hd (cs := zT0) (t := 47) ?hr ?_; (case hd => rfl); (case hg => rfl); (case hr => first | (go_simp; done) | (go_simp; rfl)); intro gb204 hg w15 hbox hb; have n0_ := J0.m (Kd.Qb4 (Kd.Qhj (by (with_reducible repeat (first | apply Kd.Qb8 | apply Kd.Qb7 | apply Kd.Qcl)); exact HO_5.o) gb204 (Nat.le_of_eq hg.symm)) hb); have n1_ := J0.m (Qak bR hb); have n2_ := J0.m (hbox); have n3_ := J0.m ((by rw [hg]; exact (Qbd bR) : w.heap.size ≤ gb204)); have n4_ := n3_; clear HO_5; clear HB; have HO_5 := n0_; have HB := n1_; have BK204 := n2_; have GW204 := n3_; have GE204 := n4_; clear n0_ n1_ n2_ n3_ n4_; clear hb hbox hg; obtain ⟨hcz16_0, hcz16_1, hcz16_2, hcz16_3, hcz16_4⟩ := (bx5 BK204.o); have hfz16_0 := Qaa BK204.o 0; have hfz16_1 := Qaa BK204.o 1; have hfz16_2 := Qaa BK204.o 2; have hfz16_3 := Qaa BK204.o 3; have hfz16_4 := Qaa BK204.o 4))
      go_ret3
      exact ⟨_, by first | rfl | (simp [Qax, Qaw] <;> rfl) | (simp [*, Qax, Qaw] <;> rfl), by first | exact Kd.Qdd _ _ _ _ _ | exact Kd.Qkg _ _ _ _ _ | exact Kd.Qkc _ _ _ _ _ | exact Kd.Qkf _ _ _ _ _ | exact Kd.Qkd _ _ _ _ _, by repeat (first | (with_reducible first | exact HB.o | apply Qab | apply Qad | apply Qaf | refine Qan ?_ GE204.o) | exact HB.o)⟩
    ·rw [if_neg c4] at H
     have c4b0 : decide (x6_1 < (a0.size : Int)) = false := decide_eq_false c4
     clear c4
     by_cases c17 : x5_1.length < 2932031007402
     ·rw [if_pos c17] at H
      have LMc17 := J0.m c17
      clear c17
      obtain ⟨y194, hy194⟩ : ∃ y_ : List (S47), y_ = (x5_1 ++ [(⟨0, (⟨#[]⟩ : ByteArray), 0, (a0.size : Int), (a0.size : Int)⟩ : S47)]) := ⟨_, rfl⟩
      replace H : (some (y194, 0, 0)) = some (r1, r2, r3) := by first | (rw [hy194]; with_reducible exact H) | (have H2_ := (Option.bind_some _ _).symm.trans H; rw [hy194]; with_reducible exact H2_) | (have H2_ := (Option.bind_some _ _).symm.trans H; with_reducible exact H2_) | with_reducible exact H | (rw [hy194]; exact H) | exact H
      have Ny194 := J0.m hy194
      clear hy194
      simp only [Option.some.injEq, Prod.mk.injEq] at H
      obtain ⟨rfl, rfl, rfl⟩ := H
      go_wp2_with (first | ((with_reducible refine Qcu (b := .append) (xs := #[.tmp 38, .tmp 44]) rfl ?_); at_builtin; refine Kd.Qem k47 (w0 := w) w.heap.size rfl (.tmp 38) (.tmp 44) 37 47 (.agg #[(.int .i64 0), (.string ⟨#[]⟩), (.int .u64 0), (.int .i64 0), (.int .i64 0)]) 48 rfl Try.underlying37 Ql2 rfl (by decide) (by omega) u5 x5_1 (⟨0, (⟨#[]⟩ : ByteArray), 0, (a0.size : Int), (a0.size : Int)⟩ : S47) [.int .i64 0, .string ⟨#[]⟩, .int .u64 0, .int .i64 (a0.size : Int), .int .i64 (a0.size : Int)] (fun _ => True) (fun _ => False) rfl rfl ?aP (fun _ hk => hk.elim) ?aF ?aO ?aB ?aS ?aL ?_; (case aP => exact Qjd _ _ _ (⟨0, (⟨#[]⟩ : ByteArray), 0, (a0.size : Int), (a0.size : Int)⟩ : S47)); (case aB => exact bR); (case aF => exact (fun _ _ => trivial)); (case aO => exact (by (with_reducible repeat (first | apply Kd.Qb8 | apply Kd.Qb7 | apply Kd.Qcl)); exact HO_5.o)); (case aS => exact (Qbd bR)); (case aL => have := LMc17.o; omega); intro v195 w18 ho hb hg hat; rw [← Ny194.o] at ho; have n0_ := J0.m (hb); have n1_ := J0.m (ho); clear HB; clear HO_5; have HB := n0_; have HO196 := n1_; clear n0_ n1_; clear ho hb hg hat))
      go_ret3
      exact ⟨_, by first | rfl | (simp [Qax, Qaw] <;> rfl) | (simp [*, Qax, Qaw] <;> rfl), by (with_reducible repeat (first | apply Kd.Qb8 | apply Kd.Qb7 | apply Kd.Qcl)); exact HO196.o, bR⟩
     ·rw [if_neg c17] at H
      exact absurd H (by simp)
def Qbn.l0 : Nat → List ByteArray → Int → Int → Option (Bool)
 | 0, _, _, _ => none
 | k + 1, x0, x3, x4 => if x4 < (x0.length : Int) then (if x3 ≤ 16777216 then (if 0 ≤ x4 then (Qbn.l0 k x0 (wrap64 (x3 + ((rdOf ByteArray.empty x0 x4).size : Int))) (wrap64 (x4 + 1))) else (none)) else (some (decide (x3 > 16777216)))) else (some (decide (x3 > 16777216)))
def Qbn.f (k : Nat) (l0 : List ByteArray) : Option (Bool) := Qbn.l0 k l0 0 0
theorem Qbn.calls (k : Nat) (A0 : Option Addr) (c0 : Nat) (l0 : List ByteArray) (r : Bool) (w : World) (hr0 : Kd.C Kd.string w A0 l0.length l0) (hc0 : l0.length ≤ c0) (h : Qbn.f k l0 = some r) :
  Calls Try.prog 11 #[.slice A0 l0.length c0] w fun e w' => e = .returned (.bool r) ∧ Qbe w w' := by
 have HR0 := J0.m hr0
 have HC0 := J0.m hc0
 clear hr0 hc0
 have H : (Qbn.l0 k l0 0 0) = some r := h
 clear h
 have H' := J0.m H
 clear H
 go_enter Try.func11, Try.ntmps11
 go_wp2
 go_loopg [3, 4] k (fun kq v3 v4 w' => ∃ (x3_1 : Int) (x4_1 : Int), v3 = .int .i64 x3_1 ∧ v4 = .int .i64 x4_1 ∧ J0 (Qbn.l0 kq l0 x3_1 x4_1 = some r) ∧ J0 (kq ≤ k) ∧ Qbe w w')
 case atStart => exact ⟨(0), (0), (by first | rfl | (simp; done) | (simp [*]; done)), (by first | rfl | (simp; done) | (simp [*]; done)), H', ⟨Nat.le_refl _⟩, dR⟩
 case round =>
  clear H'
  try clear c1
  obtain ⟨x3_1, x4_1, rfl, rfl, HA, HK1, ⟨m1, rfl⟩⟩ := hrel
  cases gk with
  | zero => exact absurd HA.o (by simp [Qbn.l0])
  | succ k1 =>
   have H := HA.o
   clear HA
   simp only [Qbn.l0] at H
   by_cases c2 : x4_1 < (l0.length : Int)
   ·rw [if_pos c2] at H
    have c2b0 : decide (x4_1 < (l0.length : Int)) = true := decide_eq_true c2
    clear c2
    by_cases c3 : x3_1 ≤ 16777216
    ·rw [if_pos c3] at H
     have c3b0 : decide (x3_1 ≤ 16777216) = true := decide_eq_true c3
     clear c3
     by_cases c4 : 0 ≤ x4_1
     ·rw [if_pos c4] at H
      have c4b0 : decide (0 ≤ x4_1) = true := decide_eq_true c4
      clear c4
      have H' := J0.m H
      clear H
      have p209 : 0 ≤ (x4_1 : Int) := dQ
      have q209 : x4_1 < (l0.length : Int) := dQ
      obtain ⟨ad209, e209, hx209_0⟩ := Kd.Qfy HR0.o x4_1 p209 q209
      cases e209
      replace p209 := eq_true p209
      replace q209 := eq_true q209
      go_wp2
      go_roundg k1
      case measure => have := HK1.o; omega
      case rel => exact ⟨(wrap64 (x3_1 + ((rdOf ByteArray.empty l0 x4_1).size : Int))), (wrap64 (x4_1 + 1)), (by first | rfl | (simp; done) | (simp [*]; done)), (by first | rfl | (simp; done) | (simp [*]; done)), H', ⟨by have := HK1.o; omega⟩, dR⟩
     ·rw [if_neg c4] at H
      exact absurd H (by simp)
    ·rw [if_neg c3] at H
     have c3b0 : decide (x3_1 ≤ 16777216) = false := decide_eq_false c3
     clear c3
     obtain rfl := Option.some.inj H
     go_wp2
     go_ret
     exact eQ
   ·rw [if_neg c2] at H
    have c2b0 : decide (x4_1 < (l0.length : Int)) = false := decide_eq_false c2
    clear c2
    obtain rfl := Option.some.inj H
    go_wp2
    go_ret
    exact eQ
end Go.Proofs.Ytbdcndkafaajpaa.X
end
section
namespace Go.Proofs.Ytbdcndkafaajpaa.T
open Go.RowKit Ytbdcndkafaajpaa Ytbdcndkafaajpaa.X Ytbdcndkafaajpaa.L YtbdcndkafaajpaaW.PrintWords YtbdcndkafaajpaaW.PrintLast YtbdcndkafaajpaaW.PrintMore
theorem Qm9 (b : UInt8) : Qb5.f (b.toNat : Int) = some (L.blank b) := by
 unfold Qb5.f L.blank
 by_cases h1 : b.toNat = 32
 ·rw [if_pos (by omega), h1]; rfl
 by_cases h2 : b.toNat = 9
 ·rw [if_neg (by omega), if_pos (by omega), h2]; rfl
 by_cases h3 : b.toNat = 10
 ·rw [if_neg (by omega), if_neg (by omega), if_pos (by omega), h3]; rfl
 rw [if_neg (by omega), if_neg (by omega), if_neg (by omega)]
 congr 1
 rw [Bool.eq_iff_iff, beq_iff_eq, decide_eq_true_iff]; omega
theorem Qls (s : ByteArray) (hs : s.size ≤ 70368744177664) : ∀ (d i : Nat), s.size - i ≤ d → i ≤ s.size → Ev (fun k => Qap.l0 k s (i : Int)) ((i + sk false (s.data.toList.drop i) : Nat) : Int) ∧ Ev (fun k => Qap.l1 k s (i : Int)) ((i + sk true (s.data.toList.drop i) : Nat) : Int) := by
 intro d
 induction d with
 | zero =>
  intro i hd hi
  obtain rfl : i = s.size := by omega
  have e : s.data.toList.drop s.size = [] := List.drop_of_length_le (by rw [← Qch]; omega)
  have h0 : Ev (fun k => Qap.l0 k s (s.size : Int)) ((s.size + sk false (s.data.toList.drop s.size) : Nat) : Int) := by
   refine Ev.step (fun k => by simp only [Qap.l0]; rfl) ?_
   simp only [Int.lt_irrefl, if_false, e, sk, Nat.add_zero]
   exact Ev.now _
  refine ⟨h0, Ev.step (fun k => by simp only [Qap.l1]; rfl) ?_⟩
  simp only [Int.lt_irrefl, if_false]
  rw [e] at h0 ⊢
  exact h0
 | succ d ih =>
  intro i hd hi
  cases hl : s.data.toList.drop i with
  | nil =>
   have := Qcr hl hi
   simp only [List.length_nil] at this
   have := ih i (by omega) hi
   rw [hl] at this; exact this
  | cons b t =>
   have hlt := Qd9 hl
   have hbt := Qdq hl
   have hnx := Qco hl
   have ihn := ih (i + 1) (by omega) (by omega)
   rw [hnx] at ihn
   have W : wrap64 ((i : Int) + 1) = ((i + 1 : Nat) : Int) := w1 1 (by omega)
   have c1 : (i : Int) < (s.size : Int) := by omega
   have c2 : (0 : Int) ≤ (i : Int) := by omega
   have hR : b.toNat ≠ 10 → Ev (fun k => Qap.l1 k s (i : Int)) ((i + (sk true t + 1) : Nat) : Int) := by
    intro h
    refine Ev.step (fun k => by simp only [Qap.l1]; rfl) ?_
    simp only [if_pos c1, if_pos c2, hbt, if_neg (show ¬ (b.toNat : Int) = 10 by omega), W]
    rw [show i + (sk true t + 1) = i + 1 + sk true t by omega]
    exact ihn.2
   have h0 : Ev (fun k => Qap.l0 k s (i : Int)) ((i + sk false (b :: t) : Nat) : Int) := by
    refine Ev.step (fun k => by simp only [Qap.l0]; rfl) ?_
    simp only [if_pos c1, if_pos c2, hbt, Qm9, Option.bind_some]
    rw [sk]
    by_cases hb : L.blank b = true
    ·rw [if_pos hb]
     simp only [if_pos hb, W]
     rw [show i + (sk false t + 1) = i + 1 + sk false t by omega]
     exact ihn.1
    ·rw [if_neg hb]
     simp only [if_neg hb]
     by_cases h5 : b.toNat = 35
     ·rw [if_pos h5]
      simp only [if_pos (show (b.toNat : Int) = 35 by omega)]
      exact hR (by omega)
     ·rw [if_neg h5]
      simp only [if_neg (show ¬ (b.toNat : Int) = 35 by omega), Nat.add_zero]
      exact Ev.now _
   refine ⟨h0, ?_⟩
   rw [sk]
   by_cases h10 : b.toNat = 10
   ·refine Ev.step (fun k => by simp only [Qap.l1]; rfl) ?_
    simp only [if_pos c1, if_pos c2, hbt, if_pos (show (b.toNat : Int) = 10 by omega)]
    rw [show (b.toNat != 10) = false by rw [h10]; rfl]
    rw [sk, if_pos (by unfold L.blank; rw [h10]; rfl)] at h0
    exact h0
   ·rw [show (b.toNat != 10) = true by rw [bne_iff_ne]; exact h10]
    exact hR h10
theorem Qi8 (b : UInt8) : Qa1.f (b.toNat : Int) = some (isD b) := Qnu b
theorem Qm7 (b : UInt8) : Qbb.f (b.toNat : Int) = some (isL b) := by
 unfold Qbb.f isL G.letr
 have e : ∀ x : Bool, (x = true ↔ ((97 ≤ (b.toNat : Int) ∧ (b.toNat : Int) ≤ 122) ∨ (65 ≤ (b.toNat : Int) ∧ (b.toNat : Int) ≤ 90) ∨ (b.toNat : Int) = 95)) → some x = some (decide ((97 ≤ (b.toNat : Int) ∧ (b.toNat : Int) ≤ 122) ∨ (65 ≤ (b.toNat : Int) ∧ (b.toNat : Int) ≤ 90) ∨ (b.toNat : Int) = 95)) := fun x h => by rw [Option.some.injEq, Bool.eq_iff_iff, decide_eq_true_iff]; exact h
 repeat' split
 all_goals refine e _ ?_
 all_goals first | (simp only [true_iff]; omega) | (simp only [Bool.false_eq_true, false_iff]; omega) | (rw [decide_eq_true_iff]; omega)
theorem Qkt (b : UInt8) : Ev (fun k => Qao.f k (b.toNat : Int)) (hexI b) := by
 have e : ∀ k x y, Qao.j0 k x y = Qba.j0 k x y := fun k x y => by cases k <;> rfl
 refine Ev.congr (fun k => ?_) (Ql3 b)
 unfold Qao.f Qba.f
 simp only [e]
 rfl
def Qku (p : Nat) (t : List UInt8) : Int × Int := match esc t with | some (c, n) => ((c.toNat : Int), ((1 + n : Nat) : Int)) | none => (0, 0)
theorem Qmf (s : ByteArray) (hs : s.size ≤ 70368744177664) (p : Nat) (b : UInt8) (t : List UInt8) (hp : s.data.toList.drop p = b :: t) : Ev (fun k => Qam.f k s (p : Int)) (Qku p t) := by
 have hlt := Qd9 hp
 have hn1 := Qco hp
 have hsz := Qcr hp (by omega)
 rw [List.length_cons] at hsz
 have W1 : wrap64 ((p : Int) + 1) = ((p + 1 : Nat) : Int) := w1 1 (by omega)
 have W2 : wrap64 ((p : Int) + 2) = ((p + 2 : Nat) : Int) := w1 2 (by omega)
 have W3 : wrap64 ((p : Int) + 3) = ((p + 3 : Nat) : Int) := w1 3 (by omega)
 have W4 : wrap64 ((p : Int) + 4) = ((p + 4 : Nat) : Int) := w1 4 (by omega)
 unfold Qam.f Qku
 simp only [W1]
 cases t with
 | nil =>
  simp only [List.length_nil] at hsz
  simp only [if_pos (show ((p + 1 : Nat) : Int) ≥ (s.size : Int) by omega), esc]
  exact Ev.now _
 | cons c t =>
  have hb1 := Qdq hn1
  have hn2 := Qco hn1
  simp only [List.length_cons] at hsz
  simp only [if_neg (show ¬ ((p + 1 : Nat) : Int) ≥ (s.size : Int) by omega), if_pos (show (0 : Int) ≤ ((p + 1 : Nat) : Int) by omega), if_pos (show ((p + 1 : Nat) : Int) < (s.size : Int) by omega), hb1, esc]
  by_cases h1 : c.toNat = 92 ∨ c.toNat = 34
  ·have key : Ev (fun k => Qam.j0 k s (p : Int) (c.toNat : Int) true) ((c.toNat : Int), ((2 : Nat) : Int)) := by
    refine Ev.step (fun k => by simp only [Qam.j0]; rfl) ?_
    simp only [if_true, W1, W2, if_pos (show (0 : Int) ≤ ((p + 1 : Nat) : Int) by omega), if_pos (show ((p + 1 : Nat) : Int) < (s.size : Int) by omega), hb1]
    exact Ev.now _
   simp only [if_pos h1]
   by_cases h2 : c.toNat = 92
   ·simp only [if_pos (show (c.toNat : Int) = 92 by omega), show ((c.toNat : Int) == 92) = true by rw [beq_iff_eq]; omega]; exact key
   ·simp only [if_neg (show ¬ (c.toNat : Int) = 92 by omega), show ((c.toNat : Int) == 34) = true by rw [beq_iff_eq]; omega]; exact key
  ·have h92 : ¬ (c.toNat : Int) = 92 := by omega
   have h34 : ((c.toNat : Int) == 34) = false := by rw [beq_eq_false_iff_ne]; omega
   simp only [if_neg h1, if_neg h92, h34]
   refine Ev.step (fun k => by simp only [Qam.j0]; rfl) ?_
   simp only [Bool.false_eq_true, if_false, W2, W3]
   by_cases h2 : c.toNat = 110
   ·simp only [if_pos h2, if_pos (show (c.toNat : Int) = 110 by omega)]; exact Ev.now _
   simp only [if_neg h2, if_neg (show ¬ (c.toNat : Int) = 110 by omega)]
   by_cases h3 : c.toNat = 116
   ·simp only [if_pos h3, if_pos (show (c.toNat : Int) = 116 by omega)]; exact Ev.now _
   simp only [if_neg h3, if_neg (show ¬ (c.toNat : Int) = 116 by omega)]
   by_cases h4 : c.toNat = 120
   ·simp only [if_pos h4, if_pos (show (c.toNat : Int) = 120 by omega)]
    have jF : Ev (fun k => Qam.j1 k s (p : Int) false) ((0 : Int), (0 : Int)) := by
     refine Ev.step (fun k => by simp only [Qam.j1]; rfl) ?_
     simp only [Bool.false_eq_true, if_false]; exact Ev.now _
    match t, hn2, hsz with
    | [], _, hsz =>
     simp only [List.length_nil] at hsz
     simp only [if_neg (show ¬ ((p + 3 : Nat) : Int) < (s.size : Int) by omega), escx]; exact jF
    | [a], _, hsz =>
     simp only [List.length_nil, List.length_cons] at hsz
     simp only [if_neg (show ¬ ((p + 3 : Nat) : Int) < (s.size : Int) by omega), escx]; exact jF
    | a :: e :: t', hn2, hsz =>
     simp only [List.length_cons] at hsz
     have hba := Qdq hn2
     have hbe := Qdq (Qco hn2)
     simp only [if_pos (show ((p + 3 : Nat) : Int) < (s.size : Int) by omega), if_pos (show (0 : Int) ≤ ((p + 2 : Nat) : Int) by omega), if_pos (show ((p + 2 : Nat) : Int) < (s.size : Int) by omega), if_pos (show (0 : Int) ≤ ((p + 3 : Nat) : Int) by omega), escx]
     rw [show bt s ((p + 2 : Nat) : Int) = (a.toNat : Int) from hba, show bt s ((p + 3 : Nat) : Int) = (e.toNat : Int) from hbe]
     refine Ev.bind (Qkt a) ?_
     have hea := Qkt a
     have hee := Qkt e
     unfold hexI at hea hee ⊢
     cases hx : hexv a with
     | none =>
      simp only [if_neg (show ¬ ((-1 : Int)) ≥ 0 by omega)]
      exact jF
     | some x =>
      simp only [if_pos (show (x : Int) ≥ 0 by omega)]
      rw [hx] at hea; simp only at hea
      refine Ev.bind hee ?_
      cases hy : hexv e with
      | none =>
       simp only [decide_eq_false (show ¬ ((-1 : Int)) ≥ 0 by omega)]
       exact jF
      | some y =>
       rw [hy] at hee; simp only at hee
       have lx := Qjf hx
       have ly := Qjf hy
       simp only [decide_eq_true (show (y : Int) ≥ 0 by omega)]
       refine Ev.step (fun k => by simp only [Qam.j1]; rfl) ?_
       simp only [if_true, W2, W3, W4, if_pos (show ((p + 3 : Nat) : Int) < (s.size : Int) by omega), if_pos (show (0 : Int) ≤ ((p + 2 : Nat) : Int) by omega), if_pos (show ((p + 2 : Nat) : Int) < (s.size : Int) by omega), if_pos (show (0 : Int) ≤ ((p + 3 : Nat) : Int) by omega)]
       rw [show bt s ((p + 2 : Nat) : Int) = (a.toNat : Int) from hba, show bt s ((p + 3 : Nat) : Int) = (e.toNat : Int) from hbe]
       refine Ev.bind hea ?_
       refine Ev.bind hee ?_
       rw [w64s (x := 16 * (x : Int)) (by omega) (by omega), w64s (x := 16 * (x : Int) + (y : Int)) (by omega) (by omega), Qpy (show 16 * x + y < 256 by omega),
        show (16 * (x : Int) + (y : Int)) % 256 = ((16 * x + y : Nat) : Int) by omega]
       exact Ev.now _
   ·simp only [if_neg h4, if_neg (show ¬ (c.toNat : Int) = 120 by omega)]; exact Ev.now _
theorem Qoz (s : ByteArray) (hs : s.size ≤ 70368744177664) (i : Nat) : ∀ (d off : Nat) (acc : List UInt8), s.size - (i + off) ≤ d → i + off ≤ s.size → acc.length ≤ off →
  ∃ p, Ev (fun k => Qaq.l0 k s (i : Int) (nums acc) ((i + off : Nat) : Int)) p ∧ Ql7 i (tx off acc (s.data.toList.drop (i + off))) p := by
 have bad : ∀ (off : Nat) (acc : List UInt8), Ev (fun k => Qaq.j1 k s (i : Int) (nums acc) ((i + off : Nat) : Int) false) ((0 : Int), (⟨#[]⟩ : ByteArray), (0 : Int), (0 : Int), (0 : Int), (i : Int), (81 : Int)) := by
  intro off acc
  refine Ev.step (fun k => by simp only [Qaq.j1]; rfl) ?_
  simp only [Bool.false_eq_true, if_false]; exact Ev.now _
 intro d
 induction d with
 | zero =>
  intro off acc hd hi ha
  have e : s.data.toList.drop (i + off) = [] := List.drop_of_length_le (by rw [← Qch]; omega)
  refine ⟨((0 : Int), (⟨#[]⟩ : ByteArray), (0 : Int), (0 : Int), (0 : Int), (i : Int), (81 : Int)), Ev.step (fun k => by simp only [Qaq.l0]; rfl) ?_, ?_⟩
  ·simp only [if_neg (show ¬ ((i + off : Nat) : Int) < (s.size : Int) by omega)]; exact bad off acc
  ·rw [e, tx]; exact ⟨by simp, rfl, by decide⟩
 | succ d ih =>
  intro off acc hd hi ha
  cases hl : s.data.toList.drop (i + off) with
  | nil =>
   have := Qcr hl hi
   simp only [List.length_nil] at this
   have := ih off acc (by omega) hi ha
   rw [hl] at this; exact this
  | cons b t =>
   have hlt := Qd9 hl
   have hbt := Qdq hl
   have hnx := Qco hl
   have hsz := Qcr hl hi
   rw [List.length_cons] at hsz
   rw [tx]
   by_cases h1 : b.toNat = 10
   ·rw [if_pos h1]
    refine ⟨((0 : Int), (⟨#[]⟩ : ByteArray), (0 : Int), (0 : Int), (0 : Int), (i : Int), (81 : Int)), Ev.step (fun k => by simp only [Qaq.l0]; rfl) ?_, ?_⟩
    ·simp only [if_pos (show ((i + off : Nat) : Int) < (s.size : Int) by omega), if_pos (show (0 : Int) ≤ ((i + off : Nat) : Int) by omega), hbt, show ((b.toNat : Int) != 10) = false by rw [bne_eq_false_iff_eq]; omega]; exact bad off acc
    ·exact ⟨by simp, rfl, by decide⟩
   rw [if_neg h1]
   have st : ∀ p, Ev (fun k => if (b.toNat : Int) = 34 then some ((3 : Int), strOfNums (nums acc), (0 : Int), (i : Int), wrap64 (((i + off : Nat) : Int) + 1), (0 : Int), (0 : Int))
     else if (b.toNat : Int) = 92 then (Qam.f k s ((i + off : Nat) : Int)).bind fun bt108 => if bt108.2 = 0 then some ((0 : Int), (⟨#[]⟩ : ByteArray), (0 : Int), (0 : Int), (0 : Int), ((i + off : Nat) : Int), (82 : Int)) else if (nums acc).length < 140737488355328 then Qaq.l0 k s (i : Int) (nums acc ++ [bt108.1]) (wrap64 (((i + off : Nat) : Int) + bt108.2)) else none
     else if (nums acc).length < 140737488355328 then Qaq.l0 k s (i : Int) (nums acc ++ [(b.toNat : Int)]) (wrap64 (((i + off : Nat) : Int) + 1)) else none) p →
     Ev (fun k => Qaq.l0 k s (i : Int) (nums acc) ((i + off : Nat) : Int)) p := by
    intro p hp
    refine Ev.step (fun k => by simp only [Qaq.l0]; rfl) ?_
    simp only [if_pos (show ((i + off : Nat) : Int) < (s.size : Int) by omega), if_pos (show (0 : Int) ≤ ((i + off : Nat) : Int) by omega), hbt, show ((b.toNat : Int) != 10) = true by rw [bne_iff_ne]; omega]
    refine Ev.step (fun k => by simp only [Qaq.j1]; rfl) ?_
    simp only [if_true, if_pos (show ((i + off : Nat) : Int) < (s.size : Int) by omega), if_pos (show (0 : Int) ≤ ((i + off : Nat) : Int) by omega), hbt]
    exact hp
   have W : wrap64 (((i + off : Nat) : Int) + 1) = ((i + (off + 1) : Nat) : Int) := w1 (i := i + off) 1 (by omega)
   by_cases h2 : b.toNat = 34
   ·rw [if_pos h2]
    refine ⟨((3 : Int), ba acc, (0 : Int), (i : Int), ((i + (off + 1) : Nat) : Int), (0 : Int), (0 : Int)), st _ ?_, ?_⟩
    ·simp only [if_pos (show (b.toNat : Int) = 34 by omega), strOf, W]; exact Ev.now _
    ·rfl
   rw [if_neg h2]
   by_cases h3 : b.toNat = 92
   ·rw [if_pos h3]
    have he := Qmf s hs (i + off) b t hl
    unfold Qku at he
    cases hx : esc t with
    | none =>
     rw [hx] at he
     refine ⟨((0 : Int), (⟨#[]⟩ : ByteArray), (0 : Int), (0 : Int), (0 : Int), ((i + off : Nat) : Int), (82 : Int)), st _ ?_, ?_⟩
     ·simp only [if_neg (show ¬ (b.toNat : Int) = 34 by omega), if_pos (show (b.toNat : Int) = 92 by omega)]
      refine Ev.bind he ?_
      exact Ev.now _
     ·exact ⟨rfl, rfl, by decide⟩
    | some q =>
     obtain ⟨c, n⟩ := q
     rw [hx] at he; simp only at he ⊢
     have hn := (Qiw hx).2
     obtain ⟨p, hp1, hp2⟩ := ih (off + n + 1) (acc ++ [c]) (by omega) (by omega) (by simp only [List.length_append, List.length_cons, List.length_nil]; omega)
     have hdr : s.data.toList.drop (i + (off + n + 1)) = t.drop n := by
      rw [show i + (off + n + 1) = (i + off) + 1 + n by omega, ← List.drop_drop, hnx]
     rw [hdr] at hp2
     refine ⟨p, st _ ?_, hp2⟩
     simp only [if_neg (show ¬ (b.toNat : Int) = 34 by omega), if_pos (show (b.toNat : Int) = 92 by omega)]
     refine Ev.bind he ?_
     have hnz : ¬ ((1 + n : Nat) : Int) = 0 := by omega
     have hln : (nums acc).length < 140737488355328 := by rw [Qhd]; omega
     have W2 : wrap64 (((i + off : Nat) : Int) + ((1 + n : Nat) : Int)) = ((i + (off + n + 1) : Nat) : Int) := by rw [w64s (by omega) (by omega)]; omega
     simp only [W2, if_neg hnz, if_pos hln, Qgk]
     exact hp1
   ·rw [if_neg h3]
    obtain ⟨p, hp1, hp2⟩ := ih (off + 1) (acc ++ [b]) (by omega) (by omega) (by simp only [List.length_append, List.length_cons, List.length_nil]; omega)
    rw [show i + (off + 1) = i + off + 1 by omega, hnx] at hp2
    refine ⟨p, st _ ?_, hp2⟩
    simp only [if_neg (show ¬ (b.toNat : Int) = 34 by omega), if_neg (show ¬ (b.toNat : Int) = 92 by omega), if_pos (show (nums acc).length < 140737488355328 by rw [Qhd]; omega), Qgk, W]
    exact hp1
theorem Qow (s : ByteArray) (hs : s.size ≤ 70368744177664) (i : Nat) : ∀ (d n : Nat), s.size - (i + n) ≤ d → i + n ≤ s.size →
  Ev (fun k => Qa0.l0 k s (i : Int) ((i + n : Nat) : Int)) (if n + lead isW (s.data.toList.drop (i + n)) > 64 then ((0 : Int), (⟨#[]⟩ : ByteArray), (0 : Int), (0 : Int), (0 : Int), (i : Int), (111 : Int)) else ((1 : Int), s.extract i (i + (n + lead isW (s.data.toList.drop (i + n)))), (0 : Int), (i : Int), ((i + (n + lead isW (s.data.toList.drop (i + n))) : Nat) : Int), (0 : Int), (0 : Int))) := by
 have fin : ∀ n : Nat, i + n ≤ s.size → Ev (fun _ => if wrap64 (((i + n : Nat) : Int) - (i : Int)) > 64 then some ((0 : Int), (⟨#[]⟩ : ByteArray), (0 : Int), (0 : Int), (0 : Int), (i : Int), (111 : Int)) else if 0 ≤ (i : Int) then if (i : Int) ≤ ((i + n : Nat) : Int) then if ((i + n : Nat) : Int) ≤ (s.size : Int) then some ((1 : Int), s.extract ((i : Int)).toNat (((i + n : Nat) : Int)).toNat, (0 : Int), (i : Int), ((i + n : Nat) : Int), (0 : Int), (0 : Int)) else none else none else none)
   (if n + 0 > 64 then ((0 : Int), (⟨#[]⟩ : ByteArray), (0 : Int), (0 : Int), (0 : Int), (i : Int), (111 : Int)) else ((1 : Int), s.extract i (i + (n + 0)), (0 : Int), (i : Int), ((i + (n + 0) : Nat) : Int), (0 : Int), (0 : Int))) := by
  intro n hn
  have W : wrap64 (((i + n : Nat) : Int) - (i : Int)) = (n : Int) := by rw [w64s (by omega) (by omega)]; omega
  rw [Nat.add_zero]
  by_cases h : n > 64
  ·simp only [W, if_pos h, if_pos (show (n : Int) > 64 by omega)]; exact Ev.now _
  ·simp only [W, if_neg h, if_neg (show ¬ (n : Int) > 64 by omega), if_pos (show (0 : Int) ≤ (i : Int) by omega), if_pos (show (i : Int) ≤ ((i + n : Nat) : Int) by omega), if_pos (show ((i + n : Nat) : Int) ≤ (s.size : Int) by omega), Int.toNat_natCast]; exact Ev.now _
 intro d
 induction d with
 | zero =>
  intro n hd hi
  have e : s.data.toList.drop (i + n) = [] := List.drop_of_length_le (by rw [← Qch]; omega)
  refine Ev.step (fun k => by simp only [Qa0.l0]; rfl) ?_
  rw [e]
  simp only [if_neg (show ¬ ((i + n : Nat) : Int) < (s.size : Int) by omega), lead]
  exact fin n hi
 | succ d ih =>
  intro n hd hi
  cases hl : s.data.toList.drop (i + n) with
  | nil =>
   have := Qcr hl hi
   simp only [List.length_nil] at this
   have := ih n (by omega) hi
   rw [hl] at this; exact this
  | cons b t =>
   have hlt := Qd9 hl
   have hbt := Qdq hl
   have hnx := Qco hl
   have ihn := ih (n + 1) (by omega) (by omega)
   rw [show i + (n + 1) = i + n + 1 by omega, hnx] at ihn
   have W : wrap64 (((i + n : Nat) : Int) + 1) = ((i + n + 1 : Nat) : Int) := w1 (i := i + n) 1 (by omega)
   refine Ev.step (fun k => by simp only [Qa0.l0]; rfl) ?_
   simp only [if_pos (show ((i + n : Nat) : Int) < (s.size : Int) by omega), if_pos (show (0 : Int) ≤ ((i + n : Nat) : Int) by omega), hbt, Qm7, Qi8, Option.bind_some, W]
   rw [lead]
   by_cases h : isW b = true
   ·rw [if_pos h, show n + (lead isW t + 1) = n + 1 + lead isW t by omega]
    by_cases h2 : isL b = true
    ·simp only [if_pos h2]; exact ihn
    ·have h3 : isD b = true := by unfold isW at h; rw [Bool.or_eq_true] at h; exact h.resolve_left h2
     simp only [if_neg h2, if_pos h3]; exact ihn
   ·have hb : ¬ isL b = true ∧ ¬ isD b = true := by unfold isW at h; rw [Bool.or_eq_true, not_or] at h; exact h
    rw [if_neg h]
    simp only [if_neg hb.1, if_neg hb.2]
    exact fin n hi
theorem Qrn {b : UInt8} (h : isD b = true) : (((b.toNat : Int) - 48) % 256) = ((G.dval b : Nat) : Int) := by
 rw [Qje] at h; unfold G.dval; omega
theorem Qjs (s : ByteArray) (hs : s.size ≤ 70368744177664) (i : Nat) : ∀ (d n : Nat) (x : Int), s.size - (i + n) ≤ d → i + n ≤ s.size →
  Ev (fun k => Qal.l0 k s (i : Int) ((i + n : Nat) : Int) x true) ((0 : Int), (⟨#[]⟩ : ByteArray), (0 : Int), (0 : Int), (0 : Int), (i : Int), (111 : Int)) := by
 have fin : ∀ (n : Nat) (x : Int), Ev (fun k => Qal.j1 k s (i : Int) ((i + n : Nat) : Int) x true false) ((0 : Int), (⟨#[]⟩ : ByteArray), (0 : Int), (0 : Int), (0 : Int), (i : Int), (111 : Int)) := by
  intro n x
  refine Ev.step (fun k => by simp only [Qal.j1]; rfl) ?_
  simp only [Bool.false_eq_true, if_false, if_true]; exact Ev.now _
 intro d
 induction d with
 | zero =>
  intro n x hd hi
  refine Ev.step (fun k => by simp only [Qal.l0]; rfl) ?_
  simp only [if_neg (show ¬ ((i + n : Nat) : Int) < (s.size : Int) by omega)]
  exact fin n x
 | succ d ih =>
  intro n x hd hi
  cases hl : s.data.toList.drop (i + n) with
  | nil =>
   have := Qcr hl hi
   simp only [List.length_nil] at this
   exact ih n x (by omega) hi
  | cons b t =>
   have hlt := Qd9 hl
   have hbt := Qdq hl
   have W : wrap64 (((i + n : Nat) : Int) + 1) = ((i + (n + 1) : Nat) : Int) := w1 (i := i + n) 1 (by omega)
   refine Ev.step (fun k => by simp only [Qal.l0]; rfl) ?_
   simp only [if_pos (show ((i + n : Nat) : Int) < (s.size : Int) by omega), if_pos (show (0 : Int) ≤ ((i + n : Nat) : Int) by omega), hbt, Qi8, Option.bind_some]
   by_cases h : isD b = true
   ·rw [h]
    refine Ev.step (fun k => by simp only [Qal.j1]; rfl) ?_
    simp only [if_true, if_pos (show ((i + n : Nat) : Int) < (s.size : Int) by omega), if_pos (show (0 : Int) ≤ ((i + n : Nat) : Int) by omega), W, ite_self]
    exact ih (n + 1) _ (by omega) (by omega)
   ·rw [show isD b = false by simpa using h]; exact fin n x
theorem Qqy (s : ByteArray) (hs : s.size ≤ 70368744177664) (i : Nat) : ∀ (d n x : Nat), s.size - (i + n) ≤ d → i + n ≤ s.size → x < 18446744073709551616 →
  Ev (fun k => Qal.l0 k s (i : Int) ((i + n : Nat) : Int) (x : Int) false) (match G.numv x ((s.data.toList.drop (i + n)).take (lead isD (s.data.toList.drop (i + n)))) with
   | none => ((0 : Int), (⟨#[]⟩ : ByteArray), (0 : Int), (0 : Int), (0 : Int), (i : Int), (111 : Int))
   | some y => ((2 : Int), (⟨#[]⟩ : ByteArray), (y : Int), (i : Int), ((i + (n + lead isD (s.data.toList.drop (i + n))) : Nat) : Int), (0 : Int), (0 : Int))) := by
 have fin : ∀ (n x : Nat), Ev (fun k => Qal.j1 k s (i : Int) ((i + n : Nat) : Int) (x : Int) false false) ((2 : Int), (⟨#[]⟩ : ByteArray), (x : Int), (i : Int), ((i + n : Nat) : Int), (0 : Int), (0 : Int)) := by
  intro n x
  refine Ev.step (fun k => by simp only [Qal.j1]; rfl) ?_
  simp only [Bool.false_eq_true, if_false]; exact Ev.now _
 intro d
 induction d with
 | zero =>
  intro n x hd hi hx
  have e : s.data.toList.drop (i + n) = [] := List.drop_of_length_le (by rw [← Qch]; omega)
  refine Ev.step (fun k => by simp only [Qal.l0]; rfl) ?_
  rw [e]
  simp only [if_neg (show ¬ ((i + n : Nat) : Int) < (s.size : Int) by omega), lead, List.take_nil, G.numv, Nat.add_zero]
  exact fin n x
 | succ d ih =>
  intro n x hd hi hx
  cases hl : s.data.toList.drop (i + n) with
  | nil =>
   have := Qcr hl hi
   simp only [List.length_nil] at this
   have := ih n x (by omega) hi hx
   rw [hl] at this; exact this
  | cons b t =>
   have hlt := Qd9 hl
   have hbt := Qdq hl
   have hnx := Qco hl
   have W : wrap64 (((i + n : Nat) : Int) + 1) = ((i + (n + 1) : Nat) : Int) := w1 (i := i + n) 1 (by omega)
   refine Ev.step (fun k => by simp only [Qal.l0]; rfl) ?_
   simp only [if_pos (show ((i + n : Nat) : Int) < (s.size : Int) by omega), if_pos (show (0 : Int) ≤ ((i + n : Nat) : Int) by omega), hbt, Qi8, Option.bind_some]
   rw [lead]
   by_cases h : isD b = true
   ·rw [if_pos h, h, List.take_succ_cons, G.numv]
    have hdv : G.dval b < 10 := by rw [Qje] at h; unfold G.dval; omega
    refine Ev.step (fun k => by simp only [Qal.j1]; rfl) ?_
    simp only [if_true, if_pos (show ((i + n : Nat) : Int) < (s.size : Int) by omega), if_pos (show (0 : Int) ≤ ((i + n : Nat) : Int) by omega), W, hbt, Qrn h]
    by_cases hf : x * 10 + G.dval b < 18446744073709551616
    ·have e1 : IntKind.u64.wrap ((x : Int) * 10) = ((x * 10 : Nat) : Int) := by
      rw [show (x : Int) * 10 = ((x * 10 : Nat) : Int) by omega]; show ((x * 10 : Nat) : Int) % 18446744073709551616 = _; omega
     have e2 : IntKind.u64.wrap (((x * 10 : Nat) : Int) + ((G.dval b : Nat) : Int)) = ((x * 10 + G.dval b : Nat) : Int) := by
      rw [show ((x * 10 : Nat) : Int) + ((G.dval b : Nat) : Int) = ((x * 10 + G.dval b : Nat) : Int) by omega]; show ((x * 10 + G.dval b : Nat) : Int) % 18446744073709551616 = _; omega
     have := ih (n + 1) (x * 10 + G.dval b) (by omega) (by omega) hf
     rw [show s.data.toList.drop (i + (n + 1)) = t from hnx] at this
     simp only [if_pos hf, e1, e2, if_neg (show ¬ (x : Int) > 1844674407370955161 by omega), if_neg (show ¬ ((x * 10 : Nat) : Int) > 18446744073709551615 - ((G.dval b : Nat) : Int) by omega)]
     rw [show n + (lead isD t + 1) = n + 1 + lead isD t by omega]
     exact this
    ·simp only [if_neg hf]
     by_cases hb : (x : Int) > 1844674407370955161
     ·simp only [if_pos hb]
      exact Qjs s hs i _ (n + 1) _ (Nat.le_refl _) (by omega)
     ·have e1 : IntKind.u64.wrap ((x : Int) * 10) = ((x * 10 : Nat) : Int) := by
       rw [show (x : Int) * 10 = ((x * 10 : Nat) : Int) by omega]; show ((x * 10 : Nat) : Int) % 18446744073709551616 = _; omega
      simp only [if_neg hb, e1, if_pos (show ((x * 10 : Nat) : Int) > 18446744073709551615 - ((G.dval b : Nat) : Int) by omega)]
      exact Qjs s hs i _ (n + 1) _ (Nat.le_refl _) (by omega)
   ·rw [if_neg h, show isD b = false by simpa using h, List.take_zero, G.numv, Nat.add_zero]
    exact fin n x
theorem Qlu (b : UInt8) : Ev (fun k => Qa5.f k (b.toNat : Int)) (decide (b.toNat ∈ marks)) := by
 have key : ∀ (m : ByteArray), m.size ≤ 1000 → ∀ (d i : Nat), m.size - i ≤ d → i ≤ m.size → Ev (fun k => Qa5.l0 k (b.toNat : Int) m (i : Int)) (decide (b.toNat ∈ (m.data.toList.drop i).map UInt8.toNat)) := by
  intro m hm d
  induction d with
  | zero =>
   intro i hd hi
   obtain rfl : i = m.size := by omega
   have e : m.data.toList.drop m.size = [] := List.drop_of_length_le (by rw [← Qch]; omega)
   refine Ev.step (fun k => by simp only [Qa5.l0]; rfl) ?_
   simp only [Int.lt_irrefl, if_false, e, List.map_nil, List.not_mem_nil, decide_false]
   exact Ev.now _
  | succ d ih =>
   intro i hd hi
   cases hl : m.data.toList.drop i with
   | nil =>
    have := Qcr hl hi
    simp only [List.length_nil] at this
    have := ih i (by omega) hi
    rw [hl] at this; exact this
   | cons c t =>
    have hlt := Qd9 hl
    have hbt := Qdq hl
    have hnx := Qco hl
    have W : wrap64 ((i : Int) + 1) = ((i + 1 : Nat) : Int) := w1 1 (by omega)
    have ihn := ih (i + 1) (by omega) (by omega)
    rw [hnx] at ihn
    refine Ev.step (fun k => by simp only [Qa5.l0]; rfl) ?_
    simp only [if_pos (show (i : Int) < (m.size : Int) by omega), if_pos (show (0 : Int) ≤ (i : Int) by omega), hbt, W]
    by_cases h : c.toNat = b.toNat
    ·simp only [if_pos (show (c.toNat : Int) = (b.toNat : Int) by omega)]
     rw [decide_eq_true (by rw [List.map_cons, h]; exact List.mem_cons_self ..)]
     exact Ev.now _
    ·simp only [if_neg (show ¬ (c.toNat : Int) = (b.toNat : Int) by omega)]
     rw [show decide (b.toNat ∈ (c :: t).map UInt8.toNat) = decide (b.toNat ∈ t.map UInt8.toNat) by
      rw [Bool.eq_iff_iff, decide_eq_true_iff, decide_eq_true_iff, List.map_cons, List.mem_cons]
      exact ⟨fun h1 => h1.resolve_left fun h2 => h h2.symm, .inr⟩]
     exact ihn
 have := key (⟨#[123, 125, 40, 41, 58, 59, 44, 61, 43, 45, 42]⟩ : ByteArray) (by decide) 11 0 (by decide) (by decide)
 exact Ev.congr (fun k => rfl) this
theorem Qm5 (s : ByteArray) (hs : s.size ≤ 70368744177664) (i : Nat) (b : UInt8) (t : List UInt8) (hl : s.data.toList.drop i = b :: t) : ∃ p, Ev (fun k => Qcb.f k s (i : Int)) p ∧ Ql7 i (L.tok (s.data.toList.drop i)) p := by
 have hlt := Qd9 hl
 have hbt := Qdq hl
 have hnx := Qco hl
 have hsz := Qcr hl (by omega)
 rw [List.length_cons] at hsz
 have c1 : (0 : Int) ≤ (i : Int) := by omega
 have c2 : (i : Int) < (s.size : Int) := by omega
 have W : wrap64 ((i : Int) + 1) = ((i + 1 : Nat) : Int) := w1 1 (by omega)
 unfold Qcb.f
 simp only [if_pos c1, if_pos c2, hbt, Qm7, Qi8, Option.bind_some]
 rw [hl, L.tok]
 have lw := Qfk isW (b :: t)
 have ld := Qfk isD (b :: t)
 rw [List.length_cons] at lw ld
 by_cases h1 : isL b = true
 ·have hr := Qow s hs i s.size 0 (by omega) (by omega)
  rw [Nat.add_zero, hl, Nat.zero_add] at hr
  have hx := Qkb s i (i + lead isW (b :: t))
  rw [Nat.add_sub_cancel_left, hl] at hx
  have hr2 : Ev (fun k => Qa0.f k s (i : Int)) _ := hr
  rw [if_pos h1]
  simp only [h1, if_true]
  by_cases h64 : lead isW (b :: t) > 64
  ·rw [if_pos h64] at hr2 ⊢
   exact ⟨_, Ev.bind hr2 (Ev.now _), by simp, rfl, by decide⟩
  ·rw [if_neg h64] at hr2 ⊢
   exact ⟨_, Ev.bind hr2 (Ev.now _), by rw [hx]; rfl⟩
 have h1' : isL b = false := by simpa using h1
 rw [if_neg h1]
 simp only [h1', Bool.false_eq_true, if_false]
 by_cases h2 : isD b = true
 ·have hr := Qqy s hs i s.size 0 0 (by omega) (by omega) (by omega)
  rw [Nat.add_zero, hl, Nat.zero_add] at hr
  have hr2 : Ev (fun k => Qal.f k s (i : Int)) _ := hr
  rw [if_pos h2]
  simp only [h2, if_true]
  cases hn : G.numv 0 ((b :: t).take (lead isD (b :: t))) with
  | none => rw [hn] at hr2; exact ⟨_, Ev.bind hr2 (Ev.now _), by simp, rfl, by decide⟩
  | some x => rw [hn] at hr2; exact ⟨_, Ev.bind hr2 (Ev.now _), rfl⟩
 have h2' : isD b = false := by simpa using h2
 rw [if_neg h2]
 simp only [h2', Bool.false_eq_true, if_false]
 by_cases h3 : b.toNat = 34
 ·rw [if_pos h3]
  simp only [if_pos (show (b.toNat : Int) = 34 by omega)]
  obtain ⟨p, hp1, hp2⟩ := Qoz s hs i (s.size) 1 [] (by omega) (by omega) (by simp)
  rw [hnx] at hp2
  refine ⟨p, ?_, hp2⟩
  have hp3 : Ev (fun k => Qaq.f k s (i : Int)) p := Ev.congr (fun k => by unfold Qaq.f; rw [W]; rfl) hp1
  exact Ev.bind hp3 (Ev.now _)
 rw [if_neg h3]
 simp only [if_neg (show ¬ (b.toNat : Int) = 34 by omega)]
 by_cases h4 : b.toNat ∈ marks
 ·rw [if_pos h4]
  have hx := Qkb s i (i + 1)
  rw [Nat.add_sub_cancel_left, hl] at hx
  have hm := Qlu b
  rw [decide_eq_true h4] at hm
  refine ⟨((4 : Int), ba [b], (0 : Int), (i : Int), ((i + 1 : Nat) : Int), (0 : Int), (0 : Int)), Ev.bind hm ?_, ?_⟩
  ·simp only [if_true, W, if_pos (show (i : Int) ≤ ((i + 1 : Nat) : Int) by omega), if_pos (show ((i + 1 : Nat) : Int) ≤ (s.size : Int) by omega), Int.toNat_natCast, hx]
   exact Ev.now _
  ·rfl
 ·rw [if_neg h4]
  have hm := Qlu b
  rw [decide_eq_false h4] at hm
  refine ⟨((0 : Int), (⟨#[]⟩ : ByteArray), (0 : Int), (0 : Int), (0 : Int), (i : Int), (80 : Int)), Ev.bind hm ?_, by simp, rfl, by decide⟩
  simp only [Bool.false_eq_true, if_false]
  exact Ev.now _
theorem Qo0 (s : ByteArray) (hs : s.size ≤ 1048576) : ∀ (d off : Nat) (acc : List S47), s.size - off ≤ d → off ≤ s.size → acc.length ≤ off →
  Ev (fun k => Qa3.l0 k s acc ((off + sk false (s.data.toList.drop off) : Nat) : Int)) (outL acc (lx off (s.data.toList.drop off))) := by
 intro d
 induction d with
 | zero =>
  intro off acc hd hi ha
  have e : s.data.toList.drop off = [] := List.drop_of_length_le (by rw [← Qch]; omega)
  refine Ev.step (fun k => by simp only [Qa3.l0]; rfl) ?_
  rw [e, Qe2 rfl]
  simp only [sk, Nat.add_zero, if_neg (show ¬ (off : Int) < (s.size : Int) by omega), if_pos (show acc.length < 2932031007402 by omega), List.length_nil]
  obtain rfl : off = s.size := by omega
  exact Ev.now _
 | succ d ih =>
  intro off acc hd hi ha
  have hlen : (s.data.toList.drop off).length = s.size - off := by rw [List.length_drop, ← Qch]
  have hsk := Qou false (s.data.toList.drop off)
  by_cases hz : sk false (s.data.toList.drop off) = (s.data.toList.drop off).length
  ·refine Ev.step (fun k => by simp only [Qa3.l0]; rfl) ?_
   rw [Qe2 hz, hz, hlen, show off + (s.size - off) = s.size by omega]
   simp only [Int.lt_irrefl, if_false, if_pos (show acc.length < 2932031007402 by omega)]
   exact Ev.now _
  ·obtain ⟨i, hi2⟩ : ∃ i, i = off + sk false (s.data.toList.drop off) := ⟨_, rfl⟩
   have hdr : (s.data.toList.drop off).drop (sk false (s.data.toList.drop off)) = s.data.toList.drop i := by rw [List.drop_drop, hi2]
   have hil : i < s.size := by omega
   cases hl : s.data.toList.drop i with
   | nil => have := Qcr hl (by omega); simp only [List.length_nil] at this; omega
   | cons b t =>
    obtain ⟨p, hp1, hp2⟩ := Qm5 s (by omega) i b t hl
    refine Ev.step (fun k => by simp only [Qa3.l0]; rfl) ?_
    simp only [← hi2, if_pos (show (i : Int) < (s.size : Int) by omega)]
    refine Ev.bind hp1 ?_
    cases ht : L.tok (s.data.toList.drop i) with
    | bad a e =>
     rw [ht] at hp2
     obtain ⟨h1, h2, h3⟩ := hp2
     rw [Qlz (a := a) (e := e) hz (by rw [hdr]; exact ht), ← hi2]
     simp only [h1, h2, if_neg (show ¬ (e : Int) = 0 by omega)]
     exact Ev.now _
    | ok t' =>
     rw [ht] at hp2
     have hp2' : p = ((t'.kind : Int), ba t'.text, (t'.num : Int), (i : Int), ((i + t'.len : Nat) : Int), 0, 0) := hp2
     have htl := Qd4 ht
     rw [List.length_drop, ← Qch] at htl
     subst hp2'
     rw [Qpc (t := t') hz (by rw [hdr]; exact ht), ← hi2]
     simp only [if_true, if_pos (show acc.length < 2932031007402 by omega)]
     have hsk2 := (Qls s (by omega) _ (i + t'.len) (Nat.le_refl _) (by omega))
     have hnx := ih (i + t'.len) (acc ++ [toS (t'.at_ i)]) (by omega) (by omega) (by simp only [List.length_append, List.length_cons, List.length_nil]; omega)
     rw [Qjx, show (s.data.toList.drop off).drop (sk false (s.data.toList.drop off) + t'.len) = s.data.toList.drop (i + t'.len) by rw [← List.drop_drop, hdr, List.drop_drop]]
     refine Ev.bind (g := fun k => Qap.f k s ((i + t'.len : Nat) : Int)) hsk2.1 ?_
     exact hnx
theorem Qm6 (s : ByteArray) : Ev (fun k => Qa3.f k s) (outL [] (L.Lex s.data.toList)) := by
 unfold L.Lex
 rw [← Qch]
 by_cases h : s.size > 1048576
 ·rw [if_pos h]
  refine Ev.congr (fun k => ?_) (Ev.now _)
  unfold Qa3.f
  rw [if_pos (by omega)]; rfl
 ·rw [if_neg h]
  have h1 := Qls s (by omega) _ 0 (Nat.le_refl _) (by omega)
  have h2 := Qo0 s (by omega) _ 0 [] (Nat.le_refl _) (by omega) (Nat.le_refl _)
  rw [List.drop_zero] at h1 h2
  refine Ev.congr (f := fun k => (Qap.f k s 0).bind fun t132 => Qa3.l0 k s [] t132) (fun k => ?_) (Ev.bind (g := fun k => Qap.f k s 0) h1.1 h2)
  unfold Qa3.f
  rw [if_neg (by omega)]
end Go.Proofs.Ytbdcndkafaajpaa.T
end
section
namespace Go.Proofs.Ytbdcndkafaajpaa.R
open Ytbdcndkafaajpaa.L hiding Tk
open Go.RowKit Ytbdcndkafaajpaa.T Ytbdcndkafaajpaa.X Ytbdcndkafaajpaa.A YtbdcndkafaajpaaW.PrintWords YtbdcndkafaajpaaW.PrintLast YtbdcndkafaajpaaW.PrintMore
open Ytbdcndkafaajpaa.P (Nd EO Res hd isT isM Qar mxl comb mk1 StD VeD EvD Out Qdc Qdk Qex)
theorem Up.okc {w : World} {A : Option Addr} {c : Nat} {L : List Tk} {g : Nat} {ts : List Tk} (h : Up w A c L g (.ok ts)) : w.cell? ⟨g, 3, none⟩ = some (.int .i64 0) := by
 obtain ⟨q, lv, v5, v6, hq, hp⟩ := h
 rw [← hq.1]; exact hp.cf
theorem Up.badc {w : World} {A : Option Addr} {c : Nat} {L : List Tk} {g : Nat} {e p : Int} (h : Up w A c L g (.bad e p)) : w.cell? ⟨g, 3, none⟩ = some (.int .i64 e) ∧ w.cell? ⟨g, 2, none⟩ = some (.int .i64 p) ∧ e ≠ 0 := by
 obtain ⟨q, lv, v5, v6, hq, hp⟩ := h
 exact ⟨by rw [← hq.1]; exact hp.cf, by rw [← hq.2.1]; exact hp.cp, hq.2.2⟩
theorem Up.flt {w : World} {A : Option Addr} {c : Nat} {L : List Tk} {g : Nat} {s : US} (h : Up w A c L g s) : ∃ e : Int, w.cell? ⟨g, 3, none⟩ = some (.int .i64 e) ∧ (∀ ts, s = .ok ts → (e == 0) = true) ∧ ∀ e' p, s = .bad e' p → (e == 0) = false := by
 obtain ⟨q, lv, v5, v6, hq, hp⟩ := h
 refine ⟨_, hp.cf, ?_, ?_⟩
 ·rintro ts rfl; rw [hq.1]; rfl
 ·rintro e' p rfl; exact beq_eq_false_iff_ne.2 (by rw [hq.1]; exact hq.2.2)
structure Qki (w w' : World) (A : Option Addr) (c : Nat) (L : List Tk) (g : Nat) : Prop where
 up : Up w' A c L g (.ok L)
 good : Qdo L
 len : L.length ≤ 33554432
 new : w.heap.size ≤ g
 bel : Below w.heap.size w w'
theorem Qki.below {w w1 w2 : World} {A : Option Addr} {c : Nat} {L : List Tk} {g : Nat} (h : Qki w w1 A c L g) (hg : w1.grownBy w2 (some g)) : Below w.heap.size w w2 :=
 h.bel.grown hg (by have := h.bel.size; omega) (fun k hk => by injection hk with hk; have := h.new; omega)
theorem Qpw {w w1 : World} {A : Option Addr} {c : Nat} {M : List Tk} (hr : Kd.R kt 47 w1 w.heap.size (fun _ => True) (.slice A M.length c) M) (hb : Below w.heap.size w w1) (hG : Qdo M) (h0 : 0 < M.length) (hl : M.length ≤ 1048577) :
  Qki w (w1.alloc (.cells #[.slice A M.length c, .int .i64 0, .int .i64 0, .int .i64 0, .slice none 0 0, .slice none 0 0, .int .i64 0] 71)) A c M w1.heap.size := by
 have hb1 : Below w1.heap.size w1 (w1.alloc (.cells #[.slice A M.length c, .int .i64 0, .int .i64 0, .int .i64 0, .slice none 0 0, .slice none 0 0, .int .i64 0] 71)) := Qab (Below.refl _ _) _
 refine ⟨⟨⟨0, 0, 0⟩, 0, .slice none 0 0, .slice none 0 0, ⟨rfl, rfl⟩, ⟨Qay _ _, ?_, h0, ?_⟩⟩, hG, by omega, hb.size, hb.trans (hb1.mono hb.size)⟩
 ·intro W' hW'
  exact (Kd.Qqm rfl (Kd.Qb4 hr hb1)) W' (fun k hk => hW' k (by have := Kd.R_lt hr k hk; omega))
 ·obtain ⟨A', c', he, hc, _⟩ := Kd.Qg4 hr
  injection he with _ _ he
  omega
theorem Qhu (w : World) (A : Option Addr) (c : Nat) (L : List Tk) (g : Nat) (s : US) (h : Up w A c L g s) : Calls Try.prog 28 #[.pointer (some ⟨g, 0, none⟩)] w fun e w' => e = .returned (.tuple #[]) ∧ Up w' A c L g (s.step P.endW) ∧ w.grownBy w' (some g) := by
 have HU := J0.m h
 obtain ⟨ef, y3, he⟩ := h.fault
 cases s with
 | bad e q =>
  replace he : (ef == 0) = false := he
  clear h
  go_enter Try.func28, Try.ntmps28
  go_wp2
  go_end0
  exact ⟨rfl, HU.o, Qaj (Below.refl _ _) _⟩
 | ok r =>
  replace he : (ef == 0) = true := he
  have HTK := J0.m (Qdp h)
  clear h
  go_enter Try.func28, Try.ntmps28
  go_wp2_with fail
  refine HTK.o.mono ?_
  rintro e w1 ⟨⟨k1, s1, n1, p1, e1⟩, hfr, rfl, hb⟩
  have HT1 := J0.m (hfr r rfl)
  have HU1 := J0.m (HU.o.below hb)
  have HR1 := J0.m (Qaj hb (some g))
  clear hb hfr
  obtain ⟨fd0, fd1, fd2, fd3⟩ := fld ⟨k1, s1, n1, p1, e1⟩
  by_cases h0 : k1 = 0
  ·have d1 : (k1 != 0) = false := by rw [h0]; rfl
   have HK : J0 ((hd r).f0 = 0) := ⟨by rw [← HT1.o]; exact h0⟩
   clear h0
   go_wp2
   go_end0
   have hst : (US.ok r).step P.endW = .ok r := step_ok (a := hd r) (by unfold P.endW; rw [if_pos HK.o])
   rw [hst]
   exact ⟨rfl, HU1.o, HR1.o⟩
  ·have d1 : (k1 != 0) = true := bne_iff_ne.2 h0
   have HK : J0 (¬ (hd r).f0 = 0) := ⟨by rw [← HT1.o]; exact h0⟩
   clear h0
   go_wp2_with fail
   refine (Qdp HU1.o).mono ?_
   rintro e w2 ⟨⟨k2, s2, n2, p2, e2⟩, hfr, rfl, hb⟩
   have HT2 := J0.m (hfr r rfl)
   have HU2 := J0.m (HU1.o.below hb)
   have HR2 := J0.m (HR1.o.trans (Qaj hb (some g)))
   clear hb hfr
   obtain ⟨gd0, gd1, gd2, gd3⟩ := fld ⟨k2, s2, n2, p2, e2⟩
   have HFL := J0.m (Qff 90 p2 (by decide) HU2.o)
   go_wp2_with fail
   refine HFL.o.mono ?_
   rintro e w3 ⟨rfl, hu, hg⟩
   have HU3 := J0.m hu
   have HR3 := J0.m (HR2.o.trans hg)
   clear hu hg
   go_wp2
   go_end0
   have hst : (US.ok r).step P.endW = .bad 90 p2 := Qfq (by unfold P.endW; rw [if_neg HK.o, ← HT2.o])
   rw [hst]
   exact ⟨rfl, HU3.o, HR3.o⟩
structure rScL (F : Res (List EvD)) (w : World) (A : Option Addr) (c : Nat) (L : List Tk) (g b2 b3 B N : Nat) (k : Nat) (wr : World) (S : US) (v : Sl) (sv : List EvV) (l : List Row) (ds : List EvD) : Prop where
 up : Up wr A c L g S
 gr : w.grownBy wr (some g)
 bx : wr.heap[b3]? = some (.cells #[.slice v.A v.n v.c] 27 (0, 0))
 by_ : wr.heap[b2]? = some (.cells #[.slice none 0 0] 27 (0, 0))
 rows : Ytbdcndkafaajpaa.A.Rows wr B (Row.e v sv :: l)
 bl : B ≤ wr.heap.size
 nn : sv.length + k ≤ N
 tr : ∀ r, S = .ok r → All2 (EvT l) ds sv
 co : Co F (fun r => (P.Qc3 k ds r).bind fun l r => (P.endW r).bind fun _ r => .ok l r) S
theorem Qi9 (w : World) (s : ByteArray) : Calls Try.prog 13 #[.string s] w fun e w' => ∃ (v : Sl) (l : List Row) (at_ er : Int), e = .returned (.tuple #[.agg #[.slice v.A v.n v.c], .int .i64 at_, .int .i64 er]) ∧ Ytbdcndkafaajpaa.A.Rows w' w.heap.size l ∧ Below w.heap.size w w' ∧ Says (Qdk s) v at_ er (fun ds => ∃ xs, Row.e v xs ∈ l ∧ All2 (EvT l) ds xs) := by
 obtain ⟨w0, hw0⟩ : ∃ w0, w0 = w.alloc (.cells #[.slice none 0 0] 27) := ⟨_, rfl⟩
 obtain ⟨b2, hb2⟩ : ∃ b2, b2 = w.heap.size := ⟨_, rfl⟩
 have hB0 : Below w.heap.size w w0 := by rw [hw0]; exact Qab (Below.refl _ _) _
 have HY0 := J0.m (show w0.heap[b2]? = some (.cells #[.slice none 0 0] 27 (0, 0)) from by rw [hw0, hb2]; exact Qay _ _)
 have HB0 := J0.m hB0
 have HB2 := J0.m hb2
 have HW0 := J0.m hw0
 obtain ⟨k, hk⟩ := (Qm6 s).rounds
 clear hw0 hb2 hB0
 unfold Qdk Qdc
 cases hx : L.Lex s.data.toList with
 | bad a er =>
  rw [hx] at hk
  have hne : (er : Int) ≠ 0 := by
   rcases Qib hx with ⟨_, _, h⟩ | ⟨_, _, _, h⟩ <;> omega
  have d1 : ((er : Int) != 0) = true := bne_iff_ne.2 hne
  have HNE := J0.m hne
  have HCL := J0.m (Qa3.calls k s _ _ _ w0 hk)
  clear hk hx hne
  go_enter Try.func13, Try.ntmps13
  go_wp2_with fail
  rw [← HW0.o, ← HB2.o]
  refine HCL.o.mono ?_
  rintro e w1 ⟨v0, rfl, hr, hb⟩
  have HB := J0.m (HB0.o.trans (hb.mono HB0.o.size))
  have HY1 := J0.m (Qae HY0.o hb)
  have y0 := (Qac HY1.o 0).trans rfl
  have g0 := Qaa HY1.o 0
  clear hr hb
  go_wp2
  refine bodyPost_ret (Qbc rfl _ _ b2 27 #[.slice none 0 0] (0, 0) _ rfl (Qby HY1.o 0 _ rfl) Try.underlying27 rfl (by kernel_rfl)) rfl ?_
  exact ⟨⟨none, 0, 0⟩, [], _, _, rfl, Qfs _ _, HB.o.setCell (p := ⟨b2, 0, none⟩) (by rw [HB2.o]; exact Nat.le_refl _) _, rfl, rfl, rfl, HNE.o⟩
 | toks l =>
  rw [hx] at hk
  show Calls _ _ _ _ fun e w' => ∃ (v : Sl) (l2 : List Row) (at_ er : Int), e = .returned (.tuple #[.agg #[.slice v.A v.n v.c], .int .i64 at_, .int .i64 er]) ∧ Ytbdcndkafaajpaa.A.Rows w' w.heap.size l2 ∧ Below w.heap.size w w' ∧ Says (P.outO (P.Qdj (l.map toS))) v at_ er (fun ds => ∃ xs, Row.e v xs ∈ l2 ∧ All2 (EvT l2) ds xs)
  obtain ⟨hg1, hg2, hg3⟩ := Qjm hx
  have HGD := J0.m hg1
  have HG2 := J0.m hg2
  have HG3 := J0.m hg3
  obtain ⟨M, hM⟩ : ∃ M, M = l.map toS := ⟨_, rfl⟩
  have hk' : Qa3.f k s = some (M, 0, 0) := by rw [hk, hM]; simp [outL]
  rw [← hM] at HGD HG2 HG3
  have HCL := J0.m (Qa3.calls k s _ _ _ w0 hk')
  rw [← hM]
  clear hk hk' hx hg1 hg2 hg3 hM
  go_enter Try.func13, Try.ntmps13
  go_wp2_with fail
  rw [← HW0.o, ← HB2.o]
  refine HCL.o.mono ?_
  rintro e w1 ⟨v0, rfl, hr, hb⟩
  obtain ⟨A, c, rfl⟩ := Kd.Qcp hr
  obtain ⟨g, hgd⟩ : ∃ g, g = w1.heap.size := ⟨_, rfl⟩
  obtain ⟨W, hW⟩ : ∃ W, W = w1.alloc (.cells #[.slice A M.length c, .int .i64 0, .int .i64 0, .int .i64 0, .slice none 0 0, .slice none 0 0, .int .i64 0] 71) := ⟨_, rfl⟩
  have hbe := Qpw hr hb HGD.o HG2.o HG3.o
  rw [← hW, ← hgd] at hbe
  have hbW : Below w1.heap.size w1 W := by rw [hW]; exact Qab (Below.refl _ _) _
  have hsW : W.heap.size = w1.heap.size + 1 := by rw [hW]; exact Array.size_push _
  obtain ⟨b3, hb3⟩ : ∃ b3, b3 = w1.heap.size + 1 := ⟨_, rfl⟩
  obtain ⟨w6, hw6⟩ : ∃ w6, w6 = W.alloc (.cells #[.slice none 0 0] 27) := ⟨_, rfl⟩
  have hb6 : Below W.heap.size W w6 := by rw [hw6]; exact Qab (Below.refl _ _) _
  have hx6 : w6.heap[b3]? = some (.cells #[.slice none 0 0] 27 (0, 0)) := by rw [hw6, hb3, ← hsW]; exact Qay _ _
  have hy6 : w6.heap[b2]? = some (.cells #[.slice none 0 0] 27 (0, 0)) := Qae (Qae (Qae HY0.o hb) hbW) hb6
  have hl2 := Qb3 HY0.o
  have hl2' := hb.size
  have NB2 : J0 (b2 ≠ g) := ⟨by omega⟩
  have GB3 : J0 (g < b3) := ⟨by omega⟩
  have NB3 : J0 (b3 ≠ g) := ⟨by omega⟩
  have NB23 : J0 (b2 ≠ b3) := ⟨by omega⟩
  have LB3 : J0 (W.heap.size ≤ b3) := ⟨by omega⟩
  have HG := J0.m hbe.good
  have HL := J0.m hbe.len
  have HBEL : J0 (Below w.heap.size w W ∧ w.heap.size ≤ g) := ⟨HB0.o.trans (hbe.bel.mono HB0.o.size), Nat.le_trans HB0.o.size hbe.new⟩
  obtain ⟨F, hF0, hFe⟩ := Co.start (.ok M) P.Qdj
  have HNE : J0 (∀ p, F ≠ .bad 0 p) := ⟨fun p hp => Qg0 M p (Eq.trans (Eq.symm hF0) hp)⟩
  have HF0 := J0.m (show F = P.Qdj M from hF0)
  obtain ⟨N, hN, hN2⟩ : ∃ N, N ≤ 33554433 ∧ N = M.length + 1 := ⟨_, by have := HL.o; omega, rfl⟩
  have HLP : J0 (rScL F W A c M g b2 b3 w6.heap.size N N w6 (.ok M) ⟨none, 0, 0⟩ [] [] []) := ⟨{
   up := hbe.up.below hb6
   gr := Qaj hb6 (some g)
   bx := hx6
   by_ := hy6
   rows := ⟨fun r hr => by rw [List.mem_singleton.1 hr]; exact Kd.Qdd _ _ _ _ _, ⟨fun k hk => by simp [Row.own, Row.sl, Sl.v, Value.ownBlock] at hk, trivial⟩⟩
   bl := Nat.le_refl _
   nn := by simp
   tr := fun _ _ => trivial
   co := by rw [hN2]; exact hF0 }⟩
  have HB6 : J0 (b3 < w6.heap.size ∧ b2 < w6.heap.size ∧ g < w6.heap.size ∧ w.heap.size ≤ w6.heap.size ∧ W.heap.size ≤ w6.heap.size) := ⟨Qb3 hx6, Qb3 hy6, (hbe.up.below hb6).glt, by have := HB0.o.size; have := hb6.size; omega, hb6.size⟩
  obtain ⟨B6, hB6e⟩ : ∃ B6, B6 = w6.heap.size := ⟨_, rfl⟩
  rw [← hB6e] at HLP HB6
  have HN := J0.m hN
  have HB3 := J0.m hb3
  have HW := J0.m hW
  have HW6 := J0.m hw6
  have HGD2 := J0.m hgd
  have hsz1 : (w1.alloc (.cells #[.slice A M.length c, .int .i64 0, .int .i64 0, .int .i64 0, .slice none 0 0, .slice none 0 0, .int .i64 0] 71)).heap.size = w1.heap.size + 1 := Array.size_push _
  clear hr hb hW hgd hbe hbW hsW hb3 hw6 hb6 hx6 hy6 hl2 hl2' hF0 hFe hN2 hB6e hN
  go_wp2_with fail
  rw [← HW.o, ← HW6.o]
  try rw [← HB3.o]
  try rw [← HGD2.o]
  clear hsz1
  go_loopg [] N (fun k wr => ∃ S v sv l ds, J0 (rScL F W A c M g b2 b3 B6 N k wr S v sv l ds))
  case atStart => exact ⟨_, _, _, _, _, HLP⟩
  case round =>
   obtain ⟨S, ⟨Av, nv, cv⟩, sv, l, ds, HV⟩ := hrel
   have HPOS : J0 (∀ r, S = .ok r → 0 < gk) := ⟨fun r hr => by
    have := HV.o.co
    subst hr
    rcases Nat.eq_zero_or_pos gk with h | h
    ·subst h; exact absurd this (HNE.o 0)
    ·exact h⟩
   have HCO : J0 (Co F (fun r => if isT 1 P.Qeg r then (P.Qdf r).bind fun d r => (P.Qc3 (gk - 1) (ds ++ [d]) r).bind fun l r => (P.endW r).bind fun _ r => .ok l r else (P.endW r).bind fun _ r => .ok ds r) S) := ⟨HV.o.co.to (fun r hr => by
    obtain ⟨m, hm⟩ : ∃ m, gk = m + 1 := ⟨gk - 1, by have := HPOS.o r hr; omega⟩
    subst hm
    show (P.Qc3 (m + 1) ds r).bind _ = _
    rw [P.Qc3]
    by_cases ht : isT 1 P.Qeg r = true
    ·rw [if_pos ht, if_pos ht, Qg3]; rfl
    ·rw [if_neg ht, if_neg ht]; rfl)⟩
   obtain ⟨ef, c3, he1, he2⟩ := HV.o.up.flt
   have HIS := J0.m (Qcn 1 P.Qeg HV.o.up)
   cases hS : S with
   | bad e q =>
    have he := he2 e q hS
    clear he1 he2
    have HCE := J0.m (show Co F (fun r => (P.endW r).bind fun _ r => .ok ds r) (US.bad e q) from by have := HCO.o; rw [hS] at this; exact this)
    rw [← hS] at HCE
    clear hS
    go_wp2_with fail
    have HCL := J0.m (Qhu wr A c M g _ HV.o.up)
    go_wp2_with fail
    refine HCL.o.mono ?_
    rintro e wz ⟨rfl, hu, hg⟩
    clear HCL
    have HCZ := J0.m (Co.call (P := fun _ => True) (g' := fun r => .ok ds r) HCE.o (fun _ _ _ _ _ => rfl))
    have HXZ := J0.m (Qas hg HV.o.bx NB3.o)
    have HYZ := J0.m (Qas hg HV.o.by_ NB2.o)
    have HRZ := J0.m (HV.o.gr.trans hg)
    have HQZ := J0.m (HV.o.rows.grown hg (by have := HB6.o; omega))
    have HBZ := J0.m (HBEL.o.1.grown HRZ.o (by have := HBEL.o.1.size; omega) (fun k hk => by injection hk with hk; have := HBEL.o.2; omega))
    have d0 := (Qac HXZ.o 0).trans rfl
    have y0 := (Qac HYZ.o 0).trans rfl
    have g0 := Qaa HYZ.o 0
    rcases Co.end_ HCZ.o with ⟨r9, hfin, hF⟩ | ⟨e9, p9, hfin, hF⟩
    ·have y2 := (show Up wz A c M g (.ok r9) from hfin ▸ hu).okc
     have HTR : J0 (All2 (EvT l) ds sv) := ⟨by obtain ⟨t1, a1, h1, _⟩ := Qct hfin; exact HV.o.tr t1 h1⟩
     have HF := J0.m (HF0.o.symm.trans hF)
     clear hu hg hfin hF
     go_wp2
     refine bodyPost_ret (Qbc rfl _ _ b2 27 #[.slice Av nv cv] (0, 0) _ rfl (Qby HYZ.o 0 _ rfl) Try.underlying27 rfl (by kernel_rfl)) rfl ?_
     rw [HF.o]
     exact ⟨⟨Av, nv, cv⟩, Row.e ⟨Av, nv, cv⟩ sv :: l, _, _, rfl, (HQZ.o.far (by have := HB6.o; omega)).lower (by have := HB6.o; omega), HBZ.o.setCell (p := ⟨b2, 0, none⟩) (by rw [HB2.o]; exact Nat.le_refl _) _, rfl, rfl, sv, List.mem_cons_self, HTR.o.imp (fun _ _ h => h.mono (fun _ hm => List.mem_cons_of_mem _ hm))⟩
    ·obtain ⟨y2, y3, hne⟩ := (show Up wz A c M g (.bad e9 p9) from hfin ▸ hu).badc
     have d1 : (e9 != 0) = true := bne_iff_ne.2 hne
     have HNE9 := J0.m hne
     have HF := J0.m (HF0.o.symm.trans hF)
     clear hu hg hfin hF hne
     go_wp2_with fail
     have z2 : (wz.setCell ⟨b2, 0, none⟩ (.slice none 0 0)).drew.cell? ⟨g, 3, none⟩ = some (.int .i64 e9) := (World.cell?_of_block (a := ⟨g, 3, none⟩) (Below.heap_setCell wz ⟨b2, 0, none⟩ _ g (fun h => NB2.o h.symm))).trans y2
     have z3 : (wz.setCell ⟨b2, 0, none⟩ (.slice none 0 0)).drew.cell? ⟨g, 2, none⟩ = some (.int .i64 p9) := (World.cell?_of_block (a := ⟨g, 2, none⟩) (Below.heap_setCell wz ⟨b2, 0, none⟩ _ g (fun h => NB2.o h.symm))).trans y3
     go_region_held3 (fun w' => w'.cell? ⟨g, 3, none⟩ = some (.int .i64 e9) ∧ w'.cell? ⟨g, 2, none⟩ = some (.int .i64 p9)) (first | exact ⟨y2, y3⟩ | exact ⟨z2, z3⟩) (fail)
     all_goals
      go_wp2
      refine bodyPost_ret (Qbc rfl _ _ b2 27 #[.slice none 0 0] (0, 0) _ rfl (Qby HYZ.o 0 _ rfl) Try.underlying27 rfl (by kernel_rfl)) rfl ?_
      rw [HF.o]
      exact ⟨⟨none, 0, 0⟩, [], _, _, rfl, Qfs _ _, (Qad HBZ.o 1).setCell (p := ⟨b2, 0, none⟩) (by rw [HB2.o]; exact Nat.le_refl _) _, rfl, rfl, rfl, HNE9.o⟩
   | ok r =>
    have he := he1 r hS
    clear he1 he2
    have HGK : J0 (0 < gk) := ⟨HPOS.o r hS⟩
    clear hS
    cases hb : S.is 1 P.Qeg with
    | false =>
     have HCE := J0.m (show Co F (fun r => (P.endW r).bind fun _ r => .ok ds r) S from HCO.o.is hb)
     rw [hb] at HIS
     clear hb
     go_wp2_with fail
     refine HIS.o.mono ?_
     rintro e w7 ⟨rfl, hb7⟩
     have HU7 := J0.m (HV.o.up.below hb7)
     have HX7 := J0.m (Qae HV.o.bx hb7)
     have HY7 := J0.m (Qae HV.o.by_ hb7)
     have HR7 := J0.m (HV.o.gr.trans (Qaj hb7 _))
     have HQ7 := J0.m (HV.o.rows.keep (fun k _ hk => hb7.block k hk))
     clear hb7
     have HCL := J0.m (Qhu w7 A c M g _ HU7.o)
     go_wp2_with fail
     refine HCL.o.mono ?_
     rintro e wz ⟨rfl, hu, hg⟩
     clear HCL
     have HCZ := J0.m (Co.call (P := fun _ => True) (g' := fun r => .ok ds r) HCE.o (fun _ _ _ _ _ => rfl))
     have HXZ := J0.m (Qas hg HX7.o NB3.o)
     have HYZ := J0.m (Qas hg HY7.o NB2.o)
     have HRZ := J0.m (HR7.o.trans hg)
     have HQZ := J0.m (HQ7.o.grown hg (by have := HB6.o; omega))
     have HBZ := J0.m (HBEL.o.1.grown HRZ.o (by have := HBEL.o.1.size; omega) (fun k hk => by injection hk with hk; have := HBEL.o.2; omega))
     have d0 := (Qac HXZ.o 0).trans rfl
     have y0 := (Qac HYZ.o 0).trans rfl
     have g0 := Qaa HYZ.o 0
     rcases Co.end_ HCZ.o with ⟨r9, hfin, hF⟩ | ⟨e9, p9, hfin, hF⟩
     ·have y2 := (show Up wz A c M g (.ok r9) from hfin ▸ hu).okc
      have HTR : J0 (All2 (EvT l) ds sv) := ⟨by obtain ⟨t1, a1, h1, _⟩ := Qct hfin; exact HV.o.tr t1 h1⟩
      have HF := J0.m (HF0.o.symm.trans hF)
      clear hu hg hfin hF
      go_wp2
      refine bodyPost_ret (Qbc rfl _ _ b2 27 #[.slice Av nv cv] (0, 0) _ rfl (Qby HYZ.o 0 _ rfl) Try.underlying27 rfl (by kernel_rfl)) rfl ?_
      rw [HF.o]
      exact ⟨⟨Av, nv, cv⟩, Row.e ⟨Av, nv, cv⟩ sv :: l, _, _, rfl, (HQZ.o.far (by have := HB6.o; omega)).lower (by have := HB6.o; omega), HBZ.o.setCell (p := ⟨b2, 0, none⟩) (by rw [HB2.o]; exact Nat.le_refl _) _, rfl, rfl, sv, List.mem_cons_self, HTR.o.imp (fun _ _ h => h.mono (fun _ hm => List.mem_cons_of_mem _ hm))⟩
     ·obtain ⟨y2, y3, hne⟩ := (show Up wz A c M g (.bad e9 p9) from hfin ▸ hu).badc
      have d1 : (e9 != 0) = true := bne_iff_ne.2 hne
      have HNE9 := J0.m hne
      have HF := J0.m (HF0.o.symm.trans hF)
      clear hu hg hfin hF hne
      go_wp2_with fail
      have z2 : (wz.setCell ⟨b2, 0, none⟩ (.slice none 0 0)).drew.cell? ⟨g, 3, none⟩ = some (.int .i64 e9) := (World.cell?_of_block (a := ⟨g, 3, none⟩) (Below.heap_setCell wz ⟨b2, 0, none⟩ _ g (fun h => NB2.o h.symm))).trans y2
      have z3 : (wz.setCell ⟨b2, 0, none⟩ (.slice none 0 0)).drew.cell? ⟨g, 2, none⟩ = some (.int .i64 p9) := (World.cell?_of_block (a := ⟨g, 2, none⟩) (Below.heap_setCell wz ⟨b2, 0, none⟩ _ g (fun h => NB2.o h.symm))).trans y3
      go_region_held3 (fun w' => w'.cell? ⟨g, 3, none⟩ = some (.int .i64 e9) ∧ w'.cell? ⟨g, 2, none⟩ = some (.int .i64 p9)) (first | exact ⟨y2, y3⟩ | exact ⟨z2, z3⟩) (fail)
      all_goals
       go_wp2
       refine bodyPost_ret (Qbc rfl _ _ b2 27 #[.slice none 0 0] (0, 0) _ rfl (Qby HYZ.o 0 _ rfl) Try.underlying27 rfl (by kernel_rfl)) rfl ?_
       rw [HF.o]
       exact ⟨⟨none, 0, 0⟩, [], _, _, rfl, Qfs _ _, (Qad HBZ.o 1).setCell (p := ⟨b2, 0, none⟩) (by rw [HB2.o]; exact Nat.le_refl _) _, rfl, rfl, rfl, HNE9.o⟩
    | true =>
     have HCN := J0.m (show Co F (fun r => (P.Qdf r).bind fun d r => (P.Qc3 (gk - 1) (ds ++ [d]) r).bind fun l r => (P.endW r).bind fun _ r => .ok l r) S from HCO.o.is hb)
     rw [hb] at HIS
     clear hb
     go_wp2_with fail
     refine HIS.o.mono ?_
     rintro e w7 ⟨rfl, hb7⟩
     have HU7 := J0.m (HV.o.up.below hb7)
     have HX7 := J0.m (Qae HV.o.bx hb7)
     have HY7 := J0.m (Qae HV.o.by_ hb7)
     have HR7 := J0.m (HV.o.gr.trans (Qaj hb7 _))
     have HQ7 := J0.m (HV.o.rows.keep (fun k _ hk => hb7.block k hk))
     have HZ7 : J0 (B6 ≤ w7.heap.size) := ⟨Nat.le_trans HV.o.bl hb7.size⟩
     clear hb7
     obtain ⟨dd, hdd⟩ : ∃ dd, ∀ ts d r', S = .ok ts → P.Qdf ts = .ok d r' → d = dd := by
      cases hS : S with
      | ok r =>
       cases hx : P.Qdf r with
       | ok d r' => exact ⟨d, fun ts d' r'' h1 h2 => by cases h1; rw [hx] at h2; cases h2; rfl⟩
       | bad e q => exact ⟨⟨⟨#[]⟩, [], 0⟩, fun ts d' r'' h1 h2 => by cases h1; rw [hx] at h2; cases h2⟩
      | bad e q => exact ⟨⟨⟨#[]⟩, [], 0⟩, fun ts d' r'' h1 h2 => by cases h1⟩
     have HDD := J0.m hdd
     have HC7 := J0.m (Co.call (P := fun _ => True) (g' := fun r => (P.Qc3 (gk - 1) (ds ++ [dd]) r).bind fun l r => (P.endW r).bind fun _ r => .ok l r) HCN.o (fun ts a r h1 h2 => by rw [hdd ts a r h1 h2]))
     clear hdd
     have S0 : (fun w' : World => w'.cell? ⟨b3, 0, none⟩ = some (.slice Av nv cv)) w7.drew := (Qac HX7.o 0).trans rfl
     go_wp2
     refine Qfr (n := 8) (S := fun w' => w'.cell? ⟨b3, 0, none⟩ = some (.slice Av nv cv)) (ds := [7]) #[false, false, false, false, false, false, false, false] (by kernel_rfl) rfl rfl (S0) (fun hHeld => ?_)
     refine Qcd (i := 0) (N := some 34) (v := ?_) (a' := ?_) #[true, false, false, false, false, false, false, false] rfl rfl (by kernel_rfl) (fun _ _ _ h => h) (Or.inl ⟨by rfl, ?_⟩) ?_ ?_
     rotate_left
     ·intro w'
      go_simp
      with_reducible rfl
     rotate_left
     ·simp only [Act.put, List.setIfInBounds_toArray, List.set_cons_zero, List.set_cons_succ, Qbj, Qbp]
      rfl
     refine Qge (i := 1) (N := some 35) (v := ?_) (a' := ?_) #[true, true, false, false, false, false, false, false] rfl rfl (by kernel_rfl) (fun _ _ _ h => h) (Or.inl ⟨by rfl, ?_⟩) hHeld ?_ ?_
     rotate_left
     ·intro w' hS'
      have hS2 : w'.cell? ⟨b3, 0, none⟩ = some (.slice Av nv cv) := hS'
      clear hS'
      go_simp
      with_reducible rfl
     rotate_left
     ·simp only [Act.put, List.setIfInBounds_toArray, List.set_cons_zero, List.set_cons_succ, Qbj, Qbp]
      rfl
     refine Qcd (i := 2) (N := some 36) (v := ?_) (a' := ?_) #[true, true, true, false, false, false, false, false] rfl rfl (by kernel_rfl) (fun _ _ _ h => h) (Or.inl ⟨by rfl, ?_⟩) ?_ ?_
     rotate_left
     ·intro w'
      go_simp
      with_reducible rfl
     rotate_left
     ·simp only [Act.put, List.setIfInBounds_toArray, List.set_cons_zero, List.set_cons_succ, Qbj, Qbp]
      rfl
     refine one_ (i := 3) (N := some 37) #[true, true, true, true, false, false, false, false] rfl rfl (by kernel_rfl) (by decide) (fun K hK => ?_)
     refine Qk4 Try.func27 (by kernel_rfl) rfl #[.pointer (some ⟨g, 0, none⟩)] (by rfl) rfl rfl (by (try simp only [List.map_toArray, List.map_cons, List.map_nil]); first | done | rfl) ?_
     refine (Qjt w7.drew A c M g S HG.o HL.o (HU7.o.below (Qaf (Below.refl _ _)))).mono ?_
     rintro e w8 ⟨x, lx, rfl, hrn, hu, hg, hval⟩
     have hgd : w7.grownBy w8 (some g) := (Qaj (Qaf (Below.refl _ _)) _).trans hg
     have HX8 := J0.m (Qas hgd HX7.o NB3.o)
     have HY8 := J0.m (Qas hgd HY7.o NB2.o)
     have HR8 := J0.m (HR7.o.trans hgd)
     have HQ8 := J0.m (Qft (w0 := w7) (HQ7.o.grown hgd (by have := HB6.o; omega)) hrn HZ7.o HQ7.o)
     have HU8 := J0.m hu
     have HVAL := J0.m hval
     have HZ8 : J0 (B6 ≤ w8.heap.size) := ⟨Nat.le_trans HZ7.o hgd.size⟩
     have SC : (fun w' : World => w'.cell? ⟨b3, 0, none⟩ = some (.slice Av nv cv)) w8 := (Qac HX8.o 0).trans rfl
     clear hrn hu hg hval hgd
     refine ⟨_, rfl, ?_⟩
     refine hK.out _ _ (SC) (fun hHeld => ?_)
     clear hK K
     have HBZ := J0.m (show Below w8.heap.size w8 (w8.alloc (.cells #[.string x.name, .slice x.vers.A x.vers.n x.vers.c, .int .i64 x.pl] 57)) from Qab (Below.refl _ _) _)
     have SB : (fun w' : World => w'.cell? ⟨b3, 0, none⟩ = some (.slice Av nv cv)) (w8.alloc (.cells #[.string x.name, .slice x.vers.A x.vers.n x.vers.c, .int .i64 x.pl] 57)) := (Qac (Qae HX8.o HBZ.o) 0).trans rfl
     refine one_ (i := 4) (N := some 38) #[true, true, true, true, true, false, false, false] rfl rfl (by kernel_rfl) (by decide) (fun K hK => ?_)
     refine Qf7 (w1 := ?_) (v := ?_) (by rfl) rfl ?_ ?_
     rotate_left 2
     ·go_simp
      first | rfl | (constructor <;> rfl)
     refine hK.out _ _ (SB) (fun hHeld => ?_)
     clear hK K
     refine one_ (i := 5) (N := some 39) #[true, true, true, true, true, true, false, false] rfl rfl (by kernel_rfl) (by decide) (fun K hK => ?_)
     refine Kd.Qds (N := some 39) rfl kev (w0 := w8) B6 (by rfl) (.tmp 35) (.tmp 38) 25 57 (.agg #[.string ⟨#[]⟩, .slice none 0 0, .int .i64 0]) 48 rfl Try.underlying25 infoE rfl (by decide) (by omega) (.slice Av nv cv) sv x (evCs x) (fun _ => True) (fun _ => False) (by rfl) ⟨w8.heap.size, 0, none⟩ 1 (by rfl) (World.news_of_block (cs := (evCs x).toArray) (t := 57) (fr := (0, 0)) (heap_alloc_new _ _)) (Qnr _ _ _ x) (fun _ hk => hk.elim) (fun _ _ => trivial) (Kd.Qb4 (d := kev) HQ8.o.head HBZ.o) (HBZ.o.mono HZ8.o) (by have := HZ8.o; have := HBZ.o.size; omega) (by have := HV.o.nn; have := HN.o; omega) ?_
     intro v2 w9 ho hb hw
     obtain ⟨A2, c2_, hv2⟩ := Kd.Qcp ho
     rw [List.length_append, List.length_singleton] at hv2
     subst hv2
     have hq9 : Ytbdcndkafaajpaa.A.Rows w9 B6 (Row.e ⟨A2, sv.length + 1, c2_⟩ (sv ++ [x]) :: (lx ++ l)) := (HQ8.o.keep (fun k _ hk => HBZ.o.block k hk)).grow hw.grown ho hw.at
     have hne3 : some b3 ≠ (Value.slice Av nv cv).ownBlock := fun e => by have := (HQ8.o.in_ b3 (by rw [e]; exact List.mem_cons_self)).1; have := HB6.o; omega
     have hne2 : some b2 ≠ (Value.slice Av nv cv).ownBlock := fun e => by have := (HQ8.o.in_ b2 (by rw [e]; exact List.mem_cons_self)).1; have := HB6.o; omega
     have HX9 := J0.m (Qbh (Qae HX8.o HBZ.o) hw.grown hne3)
     have HY9 := J0.m (Qbh (Qae HY8.o HBZ.o) hw.grown hne2)
     have HU9 := J0.m (Qey (HU8.o.below HBZ.o) hw.grown (fun k hk => by have := (HQ8.o.in_ k (by rw [← hk]; exact List.mem_cons_self)).1; have := HB6.o; omega))
     have HR9 := J0.m (Qd8 (HR8.o.trans (Qaj HBZ.o _)) hw.grown (fun k hk => by have := (HQ8.o.in_ k (by rw [← hk]; exact List.mem_cons_self)).1; have := HB6.o; omega))
     have HZ9 : J0 (B6 ≤ w9.heap.size) := ⟨by have := HZ8.o; have := HBZ.o.size; have := hw.grown.size; omega⟩
     have HQ9 := J0.m hq9
     have SA : (fun w' : World => w'.cell? ⟨b3, 0, none⟩ = some (.slice Av nv cv)) w9 := (Qac HX9.o 0).trans rfl
     have c1_9 : w9.cell? ⟨b3, 0, none⟩ = some (.slice Av nv cv) := SA
     have f1_9 := Qaa HX9.o 0
     clear ho hb hw hq9 hne3 hne2
     refine hK.out _ _ (SA) (fun hHeld => ?_)
     clear hK K
     refine Qcd (i := 6) (N := some 40) (v := ?_) (a' := ?_) #[true, true, true, true, true, true, true, false] rfl rfl (by kernel_rfl) (fun _ _ _ h => h) (Or.inl ⟨by rfl, ?_⟩) ?_ ?_
     rotate_left
     ·intro w'
      go_simp
      with_reducible rfl
     rotate_left
     ·simp only [Act.put, List.setIfInBounds_toArray, List.set_cons_zero, List.set_cons_succ, Qbj, Qbp]
      rfl
     refine Qil (i := 7) (N := none) #[true, true, true, true, true, true, true, true] rfl rfl (by kernel_rfl) (by decide) (fun K hK => ?_)
     refine Qgz (w1 := ?_) (by rfl) rfl ?_ ?_
     rotate_left
     ·go_simp
      first | rfl | (constructor <;> rfl)
     refine hK.out _ _ ?_
     clear hK K
     refine Qh4 (by kernel_rfl) ?_
     go_wp2
     go_roundg (gk - 1)
     case measure => have := HGK.o; omega
     case rel =>
      refine ⟨S.step P.Qdf, ⟨A2, sv.length + 1, c2_⟩, sv ++ [x], lx ++ l, ds ++ [dd], ⟨{ up := ?_, gr := ?_, bx := ?_, by_ := ?_, rows := ?_, bl := ?_, nn := ?_, tr := ?_, co := HC7.o }⟩⟩
      ·exact HU9.o.far GB3.o 0 _
      ·exact Qau (g := g) HR9.o LB3.o 0 _
      ·exact (Qa8 HX9.o _).trans (by rfl)
      ·exact Qa2 NB23.o HY9.o _
      ·exact HQ9.o.far (by have := HB6.o; omega)
      ·simpa using HZ9.o
      ·have := HV.o.nn; have := HGK.o; rw [List.length_append, List.length_singleton]; omega
      ·intro r1 hr1
       obtain ⟨ts, a, h1, h2⟩ := Qct hr1
       have hd := HDD.o ts a r1 h1 h2
       subst hd
       exact ((HV.o.tr ts h1).imp (fun _ _ h => h.mono (fun _ hm => List.mem_append_right _ hm))).snoc ((HVAL.o ts a r1 h1 h2).mono (fun _ hm => List.mem_append_left _ hm))
end Go.Proofs.Ytbdcndkafaajpaa.R
end
section
namespace Go.Proofs.Ytbdcndkafaajpaa.P
open Ytbdcndkafaajpaa.X
def Le {α : Type} (x y : Res α) : Prop := (∀ p, x ≠ .bad 0 p) → y = x
section
variable {α β : Type}
theorem Le.same (x : Res α) : Le x x := fun _ => rfl
theorem Le.trans {x y z : Res α} (h : Le x y) (k : Le y z) : Le x z := fun hn => by
 have e := h hn
 rw [k (by rw [e]; exact hn), e]
theorem Le.bind {x y : Res α} {g g' : α → List Tk → Res β} (h : Le x y) (hg : ∀ a r, Le (g a r) (g' a r)) : Le (x.bind g) (y.bind g') := by
 intro hn
 cases x with
 | ok a r => rw [h (fun p e => by cases e)]; exact hg a r hn
 | bad e p => rw [h (fun q e' => by cases e'; exact hn _ rfl)]; rfl
theorem Le.ite {c : Prop} [Decidable c] {x y x' y' : Res α} (h1 : Le x y) (h2 : Le x' y') : Le (if c then x else x') (if c then y else y') := by
 split
 ·exact h1
 ·exact h2
end
def XS (R : Fn → Nat → List Tk → Res EO) : Fn → Nat → List Tk → Res EO
 | .expr, lev, ts => (R .term lev ts).bind fun a r => R (.addL a) lev r
 | .addL a, lev, ts =>
  if isM 43 ts || isM 45 ts then (R .term lev ts.tail).bind fun b r => (comb (node (if (hd ts).f1.toList == (mk1 45).toList then 7 else 6) (hd ts).f3) [a, b] r).bind fun c r => R (.addL c) lev r
  else .ok a ts
 | .term, lev, ts => (R .fac lev ts).bind fun a r => R (.mulL a) lev r
 | .mulL a, lev, ts =>
  if isM 42 ts then (R .fac lev ts.tail).bind fun b r => (comb (node 8 (hd ts).f3) [a, b] r).bind fun c r => R (.mulL c) lev r
  else .ok a ts
 | .args t l, lev, ts =>
  if isM 44 ts then (R .expr lev ts.tail).bind fun b r => R (.args t (l ++ [b])) lev r
  else (Qar 41 ts).bind fun _ r => comb ⟨9, (l.length : Int), 0, ⟨#[]⟩, t.f3⟩ l r
 | .fac, lev, ts =>
  if (hd ts).f0 = 2 then comb ⟨1, 0, (hd ts).f2, ⟨#[]⟩, (hd ts).f3⟩ [] ts.tail
  else if (hd ts).f0 = 3 then comb ⟨2, 0, 0, (hd ts).f1, (hd ts).f3⟩ [] ts.tail
  else if (hd ts).f0 = 1 then
   if (hd ts).f1 = Qif then comb (node 3 (hd ts).f3) [] ts.tail
   else if (hd ts).f1 = Qgj then comb (node 4 (hd ts).f3) [] ts.tail
   else if (hd ts).f1 = sCat then
    if 100 ≤ lev then .bad 91 (hd ts).f3
    else (Qar 40 ts.tail).bind fun _ r => (R .expr (lev + 1) r).bind fun a r => R (.args (hd ts) [a]) (lev + 1) r
   else if (hd ts).f1 = sRep then
    if 100 ≤ lev then .bad 91 (hd ts).f3
    else (Qar 40 ts.tail).bind fun _ r => (R .expr (lev + 1) r).bind fun a r => (Qar 44 r).bind fun _ r => (R .expr (lev + 1) r).bind fun b r => (Qar 41 r).bind fun _ r => comb (node 10 (hd ts).f3) [a, b] r
   else if (hd ts).f1 = sLen then
    if 100 ≤ lev then .bad 91 (hd ts).f3
    else (Qar 40 ts.tail).bind fun _ r => (R .expr (lev + 1) r).bind fun a r => (Qar 41 r).bind fun _ r => comb (node 11 (hd ts).f3) [a] r
   else if (hd ts).f1 = sHex then
    if 100 ≤ lev then .bad 91 (hd ts).f3
    else (Qar 40 ts.tail).bind fun _ r => (R .expr (lev + 1) r).bind fun a r => (Qar 41 r).bind fun _ r => comb (node 12 (hd ts).f3) [a] r
   else .bad 90 (hd ts).f3
  else if isM 45 ts then
   if 100 ≤ lev then .bad 91 (hd ts).f3
   else (R .fac (lev + 1) ts.tail).bind fun a r => comb (node 5 (hd ts).f3) [a] r
  else if isM 40 ts then
   if 100 ≤ lev then .bad 91 (hd ts).f3
   else (R .expr (lev + 1) ts.tail).bind fun a r => (Qar 41 r).bind fun _ r => .ok a r
  else .bad 90 (hd ts).f3
theorem Qqh (n : Nat) (f : Fn) (lev : Nat) (ts : List Tk) : X (n + 1) f lev ts = XS (X n) f lev ts := by
 cases f <;> rfl
theorem Le.go {α : Type} {F : Nat → List Tk → Res α} (h : ∀ n ts, Le (F n ts) (F (n + 1) ts)) {n m : Nat} (hn : n ≤ m) (ts : List Tk) : Le (F n ts) (F m ts) := by
 obtain ⟨k, rfl⟩ : ∃ k, m = n + k := ⟨m - n, by omega⟩
 induction k with
 | zero => exact Le.same _
 | succ k ih => exact (ih (by omega)).trans (h _ _)
section
variable {α β : Type} {t : Tk} {f : List Tk → Res α}
def LocH (t : Tk) (f : List Tk → Res α) : Prop := ∀ ts a r, hd ts = t → f ts = .ok a r → ∃ c, ts = c ++ r ∧ (∀ x ∈ c, x.f0 ≠ 0) ∧ ∀ r', hd r' = hd r → f (c ++ r') = .ok a r'
def Loc (f : List Tk → Res α) : Prop := ∀ t, LocH t f
def LocS (f : List Tk → Res α) : Prop := ∀ ts a r, f ts = .ok a r → ∃ c, c ≠ [] ∧ ts = c ++ r ∧ (∀ x ∈ c, x.f0 ≠ 0) ∧ ∀ r', f (c ++ r') = .ok a r'
theorem Qp9 {c r r' : List Tk} (h : hd r' = hd r) : hd (c ++ r') = hd (c ++ r) := by
 cases c with
 | nil => exact h
 | cons x c => rfl
theorem Qgp {c : List Tk} (h : c ≠ []) (r r' : List Tk) : hd (c ++ r') = hd (c ++ r) := by
 cases c with
 | nil => exact absurd rfl h
 | cons x c => rfl
theorem LocH.at {F : Tk → List Tk → Res α} (h : LocH t (F t)) : LocH t (fun ts => F (hd ts) ts) := by
 intro ts a r ht hx
 have hx : F (hd ts) ts = .ok a r := hx
 rw [ht] at hx
 obtain ⟨c, e, hk, hr⟩ := h ts a r ht hx
 refine ⟨c, e, hk, fun r' h' => ?_⟩
 show F (hd (c ++ r')) (c ++ r') = _
 rw [Qp9 h', ← e, ht]
 exact hr r' h'
theorem LocH.ok (a : α) : LocH t (fun ts => .ok a ts) := by
 intro ts b r _ h
 cases h
 exact ⟨[], rfl, fun x hx => (by cases hx), fun r' _ => rfl⟩
theorem LocH.bad (e p : Int) : LocH t (fun _ => (.bad e p : Res α)) := fun ts b r _ h => by cases h
theorem LocH.ite {c : Prop} [Decidable c] {g : List Tk → Res α} (h1 : c → LocH t f) (h2 : ¬ c → LocH t g) : LocH t (fun ts => if c then f ts else g ts) := by
 by_cases hc : c
 ·simp only [if_pos hc]; exact h1 hc
 ·simp only [if_neg hc]; exact h2 hc
theorem LocH.bind {g : α → List Tk → Res β} (h : LocH t f) (hg : ∀ a, Loc (g a)) : LocH t (fun ts => (f ts).bind g) := by
 intro ts b r ht hx
 obtain ⟨a, s, h1, h2⟩ := bind_ok hx
 obtain ⟨c, rfl, hk, hc⟩ := h ts a s ht h1
 obtain ⟨c2, rfl, hk2, hc2⟩ := hg a _ s b r rfl h2
 refine ⟨c ++ c2, by rw [List.append_assoc], fun x hx => ?_, fun r' h' => ?_⟩
 ·rcases List.mem_append.1 hx with hx | hx
  ·exact hk x hx
  ·exact hk2 x hx
 ·show (f (c ++ c2 ++ r')).bind g = _
  rw [List.append_assoc, hc (c2 ++ r') (Qp9 h')]
  exact hc2 r' h'
theorem LocH.tail (h0 : t.f0 ≠ 0) (h : Loc f) : LocH t (fun ts => f ts.tail) := by
 intro ts a r ht hx
 cases ts with
 | nil => exact absurd (by rw [← ht]; rfl) h0
 | cons x ts =>
  have hxt : x = t := ht
  subst hxt
  obtain ⟨c, e, hk, hr⟩ := h _ ts a r rfl hx
  refine ⟨x :: c, by rw [e]; rfl, fun y hy => ?_, fun r' h' => hr r' h'⟩
  rcases List.mem_cons.1 hy with rfl | hy
  ·exact h0
  ·exact hk y hy
theorem LocS.to (h : LocS f) : Loc f := by
 intro t ts a r _ hx
 obtain ⟨c, _, e, hk, hr⟩ := h ts a r hx
 exact ⟨c, e, hk, fun r' _ => hr r'⟩
theorem LocS.bind {g : α → List Tk → Res β} (h : Loc f) (hg : ∀ a, LocS (g a)) : LocS (fun ts => (f ts).bind g) := by
 intro ts b r hx
 obtain ⟨a, s, h1, h2⟩ := bind_ok hx
 obtain ⟨c, rfl, hk, hc⟩ := h _ ts a s rfl h1
 obtain ⟨c2, hne, rfl, hk2, hc2⟩ := hg a s b r h2
 refine ⟨c ++ c2, fun e => hne (List.append_eq_nil_iff.1 e).2, by rw [List.append_assoc], fun x hx => ?_, fun r' => ?_⟩
 ·rcases List.mem_append.1 hx with hx | hx
  ·exact hk x hx
  ·exact hk2 x hx
 ·show (f (c ++ c2 ++ r')).bind g = _
  rw [List.append_assoc, hc (c2 ++ r') (Qgp hne _ _)]
  exact hc2 r'
theorem LocS.map {k : α → β} (h : LocS f) : LocS (fun ts => (f ts).bind fun a r => .ok (k a) r) := by
 intro ts b r hx
 obtain ⟨a, s, h1, h2⟩ := bind_ok hx
 cases h2
 obtain ⟨c, hne, e, hk, hc⟩ := h ts a _ h1
 refine ⟨c, hne, e, hk, fun r' => ?_⟩
 show (f (c ++ r')).bind _ = _
 rw [hc r']; rfl
theorem LocS.want {b : Tk → Bool} (hb : ∀ t, b t = true → t.f0 ≠ 0) : LocS (fun ts => P.want (b (hd ts)) ts) := by
 intro ts a r hx
 obtain ⟨h1, h2, h3, _⟩ := Qgw (hb _) hx
 cases ts with
 | nil => exact absurd rfl (hb _ h1)
 | cons x ts =>
  refine ⟨[x], by simp, by rw [h3]; rfl, fun y hy => ?_, fun r' => ?_⟩
  ·rw [List.mem_singleton.1 hy]; exact hb _ h1
  ·show P.want (b x) (x :: r') = _
   unfold P.want
   rw [if_pos (show b x = true from h1), h2]; rfl
theorem Loc.fuel {F : Nat → List Tk → Res α} {b : List Tk → Nat} (hL : ∀ n, Loc (F n)) (hle : ∀ n ts, Le (F n ts) (F (n + 1) ts)) (hne : ∀ n ts, b ts ≤ n → ∀ p, F n ts ≠ .bad 0 p) : Loc (fun ts => F (b ts) ts) := by
 intro t ts a r ht hx
 have hx : F (b ts) ts = .ok a r := hx
 obtain ⟨c, e, hk, _⟩ := hL _ t ts a r ht hx
 refine ⟨c, e, hk, fun r' h' => ?_⟩
 obtain ⟨N, hN⟩ : ∃ N, N = max (b ts) (b (c ++ r')) := ⟨_, rfl⟩
 have h1 := (Le.go hle (show b ts ≤ N by omega) ts) (hne _ _ (Nat.le_refl _))
 rw [hx] at h1
 obtain ⟨c', e', _, hr⟩ := hL _ t ts a r ht h1
 have hcc : c' = c := List.append_cancel_right (e'.symm.trans e)
 subst hcc
 have h2 := (Le.go hle (show b (c' ++ r') ≤ N by omega) (c' ++ r')) (hne _ _ (Nat.le_refl _))
 show F (b (c' ++ r')) (c' ++ r') = _
 rw [← h2]
 exact hr r' h'
end
def isMt (c : UInt8) (t : Tk) : Bool := (t.f0 == 4) && (t.f1.toList == (mk1 c).toList)
section
variable {α β : Type} {p q : Tk → Prop} {t : Tk} {f : List Tk → Res α}
def LocQ (p : Tk → Prop) (f : List Tk → Res α) : Prop := ∀ ts a r, f ts = .ok a r → ∃ c, ts = c ++ r ∧ (∀ x ∈ c, x.f0 ≠ 0) ∧ ∀ r', (hd r' = hd r ∨ p (hd r')) → f (c ++ r') = .ok a r'
def LocT (t : Tk) (p : Tk → Prop) (f : List Tk → Res α) : Prop := ∀ ts a r, hd ts = t → f ts = .ok a r → ∃ c, c ≠ [] ∧ ts = c ++ r ∧ (∀ x ∈ c, x.f0 ≠ 0) ∧ ∀ r', (hd r' = hd r ∨ p (hd r')) → f (c ++ r') = .ok a r'
theorem LocT.at {F : Tk → List Tk → Res α} (h : LocT t p (F t)) : LocT t p (fun ts => F (hd ts) ts) := by
 intro ts a r ht hx
 have hx : F (hd ts) ts = .ok a r := hx
 rw [ht] at hx
 obtain ⟨c, hne, e, hk, hr⟩ := h ts a r ht hx
 refine ⟨c, hne, e, hk, fun r' h' => ?_⟩
 show F (hd (c ++ r')) (c ++ r') = _
 rw [Qgp hne r r', ← e, ht]
 exact hr r' h'
theorem LocT.bad (e pl : Int) : LocT t p (fun _ => (.bad e pl : Res α)) := fun ts b r _ h => by cases h
theorem LocT.ite {c : Prop} [Decidable c] {g : List Tk → Res α} (h1 : c → LocT t p f) (h2 : ¬ c → LocT t p g) : LocT t p (fun ts => if c then f ts else g ts) := by
 by_cases hc : c
 ·simp only [if_pos hc]; exact h1 hc
 ·simp only [if_neg hc]; exact h2 hc
theorem LocT.tail (h0 : t.f0 ≠ 0) (h : LocQ p f) : LocT t p (fun ts => f ts.tail) := by
 intro ts a r ht hx
 cases ts with
 | nil => exact absurd (by rw [← ht]; rfl) h0
 | cons x ts =>
  have hxt : x = t := ht
  subst hxt
  obtain ⟨c, e, hk, hr⟩ := h ts a r hx
  refine ⟨x :: c, by simp, by rw [e]; rfl, fun y hy => ?_, fun r' h' => hr r' h'⟩
  rcases List.mem_cons.1 hy with rfl | hy
  ·exact h0
  ·exact hk y hy
theorem LocQ.bind {g : α → List Tk → Res β} (h : LocQ p f) (hg : ∀ a, LocQ q (g a)) (hpq : ∀ t, q t → p t) : LocQ q (fun ts => (f ts).bind g) := by
 intro ts b r hx
 obtain ⟨a, s, h1, h2⟩ := bind_ok hx
 obtain ⟨c, rfl, hk, hc⟩ := h ts a s h1
 obtain ⟨c2, rfl, hk2, hc2⟩ := hg a s b r h2
 refine ⟨c ++ c2, by rw [List.append_assoc], fun x hx => ?_, fun r' h' => ?_⟩
 ·rcases List.mem_append.1 hx with hx | hx
  ·exact hk x hx
  ·exact hk2 x hx
 ·show (f (c ++ c2 ++ r')).bind g = _
  rw [List.append_assoc, hc (c2 ++ r')]
  ·exact hc2 r' h'
  ·by_cases hne : c2 = []
   ·subst hne
    exact h'.imp id (hpq _)
   ·exact .inl (Qgp hne r r')
theorem LocT.bind {g : α → List Tk → Res β} (h : LocT t p f) (hg : ∀ a, LocQ q (g a)) (hpq : ∀ t, q t → p t) : LocT t q (fun ts => (f ts).bind g) := by
 intro ts b r ht hx
 obtain ⟨a, s, h1, h2⟩ := bind_ok hx
 obtain ⟨c, hne0, rfl, hk, hc⟩ := h ts a s ht h1
 obtain ⟨c2, rfl, hk2, hc2⟩ := hg a s b r h2
 refine ⟨c ++ c2, fun e => hne0 (List.append_eq_nil_iff.1 e).1, by rw [List.append_assoc], fun x hx => ?_, fun r' h' => ?_⟩
 ·rcases List.mem_append.1 hx with hx | hx
  ·exact hk x hx
  ·exact hk2 x hx
 ·show (f (c ++ c2 ++ r')).bind g = _
  rw [List.append_assoc, hc (c2 ++ r')]
  ·exact hc2 r' h'
  ·by_cases hne : c2 = []
   ·subst hne
    exact h'.imp id (hpq _)
   ·exact .inl (Qgp hne r r')
theorem LocQ.ok (a : α) : LocQ p (fun ts => .ok a ts) := by
 intro ts b r h
 cases h
 exact ⟨[], rfl, fun x hx => (by cases hx), fun r' _ => rfl⟩
theorem LocS.Q (h : LocS f) : LocQ p f := by
 intro ts a r hx
 obtain ⟨c, _, e, hk, hr⟩ := h ts a r hx
 exact ⟨c, e, hk, fun r' _ => hr r'⟩
theorem LocS.T (h : LocS f) : LocT t p f := by
 intro ts a r _ hx
 obtain ⟨c, hne, e, hk, hr⟩ := h ts a r hx
 exact ⟨c, hne, e, hk, fun r' _ => hr r'⟩
theorem LocQ.of (h : ∀ t, LocT t p f) : LocQ p f := by
 intro ts a r hx
 obtain ⟨c, _, e, hk, hr⟩ := h _ ts a r rfl hx
 exact ⟨c, e, hk, hr⟩
theorem LocQ.to (h : LocQ p f) : Loc f := by
 intro t ts a r _ hx
 obtain ⟨c, e, hk, hr⟩ := h ts a r hx
 exact ⟨c, e, hk, fun r' h' => hr r' (.inl h')⟩
theorem LocQ.fuel {F : Nat → List Tk → Res α} {b : List Tk → Nat} (hL : ∀ n, LocQ p (F n)) (hle : ∀ n ts, Le (F n ts) (F (n + 1) ts)) (hne : ∀ n ts, b ts ≤ n → ∀ p, F n ts ≠ .bad 0 p) : LocQ p (fun ts => F (b ts) ts) := by
 intro ts a r hx
 have hx : F (b ts) ts = .ok a r := hx
 obtain ⟨c, e, hk, _⟩ := hL _ ts a r hx
 refine ⟨c, e, hk, fun r' h' => ?_⟩
 obtain ⟨N, hN⟩ : ∃ N, N = max (b ts) (b (c ++ r')) := ⟨_, rfl⟩
 have h1 := (Le.go hle (show b ts ≤ N by omega) ts) (hne _ _ (Nat.le_refl _))
 rw [hx] at h1
 obtain ⟨c', e', _, hr⟩ := hL _ ts a r h1
 have hcc : c' = c := List.append_cancel_right (e'.symm.trans e)
 subst hcc
 have h2 := (Le.go hle (show b (c' ++ r') ≤ N by omega) (c' ++ r')) (hne _ _ (Nat.le_refl _))
 show F (b (c' ++ r')) (c' ++ r') = _
 rw [← h2]
 exact hr r' h'
end
theorem LocS.of {α : Type} {f : List Tk → Res α} (h : ∀ t, LocT t (fun _ => True) f) : LocS f := by
 intro ts a r hx
 obtain ⟨c, hne, e, hk, hr⟩ := h _ ts a r rfl hx
 exact ⟨c, hne, e, hk, fun r' => hr r' (.inr trivial)⟩
def Pw {α β : Type} (R : α → β → Prop) : List α → List β → Prop
 | [], [] => True
 | a :: l, b :: m => R a b ∧ Pw R l m
 | _, _ => False
section
variable {α β : Type} {R : α → β → Prop}
theorem Pw.append : ∀ {l m : List α} {l' m' : List β}, Pw R l l' → Pw R m m' → Pw R (l ++ m) (l' ++ m')
 | [], m, [], m', _, h => h
 | _ :: _, _, _ :: _, _, h, k => ⟨h.1, Pw.append h.2 k⟩
theorem Pw.snoc {l : List α} {l' : List β} {a : α} {b : β} (h : Pw R l l') (k : R a b) : Pw R (l ++ [a]) (l' ++ [b]) := h.append ⟨k, trivial⟩
theorem Pw.len : ∀ {l : List α} {l' : List β}, Pw R l l' → l'.length = l.length
 | [], [], _ => rfl
 | _ :: _, _ :: _, h => by simp only [List.length_cons, Pw.len h.2]
theorem Pw.imp {S : α → β → Prop} (f : ∀ a b, R a b → S a b) : ∀ {l : List α} {l' : List β}, Pw R l l' → Pw S l l'
 | [], [], _ => trivial
 | _ :: _, _ :: _, h => ⟨f _ _ h.1, Pw.imp f h.2⟩
theorem Pw.refl {R : α → α → Prop} : ∀ {l : List α}, (∀ a ∈ l, R a a) → Pw R l l
 | [], _ => trivial
 | a :: l, h => ⟨h a List.mem_cons_self, Pw.refl fun b hb => h b (List.mem_cons_of_mem _ hb)⟩
theorem Pw.map {γ : Type} {R : α → γ → Prop} {f : α → γ} : ∀ {l : List α}, (∀ a ∈ l, R a (f a)) → Pw R l (l.map f)
 | [], _ => trivial
 | a :: l, h => ⟨h a List.mem_cons_self, Pw.map fun b hb => h b (List.mem_cons_of_mem _ hb)⟩
end
section
variable (ρ : Int → Int → Prop)
structure TR (t u : Tk) : Prop where
 k : u.f0 = t.f0
 s : u.f1 = t.f1
 n : u.f2 = t.f2
 p : ρ t.f3 u.f3
structure NR (x y : Nd) : Prop where
 f0 : y.f0 = x.f0
 f1 : y.f1 = x.f1
 f2 : y.f2 = x.f2
 f3 : y.f3 = x.f3
 p : ρ x.f4 y.f4
structure ER (a b : EO) : Prop where
 ns : Pw (NR ρ) a.ns b.ns
 dep : b.dep = a.dep
structure SR (x y : StD) : Prop where
 k : y.k = x.k
 a : y.a = x.a
 b : y.b = x.b
 c : y.c = x.c
 sep : y.sep = x.sep
 ty : y.ty = x.ty
 val : Pw (NR ρ) x.val y.val
 p : ρ x.pl y.pl
structure VR (x y : VeD) : Prop where
 num : y.num = x.num
 steps : Pw (SR ρ) x.steps y.steps
 p : ρ x.pl y.pl
structure WR (x y : EvD) : Prop where
 name : y.name = x.name
 vers : Pw (VR ρ) x.vers y.vers
 p : ρ x.pl y.pl
def Ends (ts : List Tk) : Prop := ∃ i e, ts = i ++ [e] ∧ e.f0 = 0 ∧ ∀ t ∈ i, t.f0 ≠ 0
structure TL (ts us : List Tk) : Prop where
 e : Ends ts
 r : Pw (TR ρ) ts us
def RR {α β : Type} (A : α → β → Prop) : Res α → Res β → Prop
 | .ok a r, .ok b s => A a b ∧ TL ρ r s
 | .bad e p, .bad e' p' => e' = e ∧ (e ≠ 0 → ρ p p')
 | _, _ => False
end
section
variable {ρ : Int → Int → Prop} {α β γ δ : Type} {A : α → β → Prop} {B : γ → δ → Prop} {ts us : List Tk}
theorem Ends.tail (h : Ends ts) (h0 : (hd ts).f0 ≠ 0) : Ends ts.tail := by
 obtain ⟨i, e, rfl, he, hi⟩ := h
 cases i with
 | nil => exact absurd he h0
 | cons x i => exact ⟨i, e, rfl, he, fun t ht => hi t (List.mem_cons_of_mem _ ht)⟩
theorem Ends.ne (h : Ends ts) : ts ≠ [] := by
 obtain ⟨i, e, rfl, _, _⟩ := h
 simp
theorem TL.hd (h : TL ρ ts us) : TR ρ (P.hd ts) (P.hd us) := by
 have hn := h.e.ne
 have hr := h.r
 cases ts with
 | nil => exact absurd rfl hn
 | cons t ts =>
  cases us with
  | nil => exact hr.elim
  | cons u us => exact hr.1
theorem TL.tail (h : TL ρ ts us) (h0 : (P.hd ts).f0 ≠ 0) : TL ρ ts.tail us.tail := by
 refine ⟨h.e.tail h0, ?_⟩
 have hr := h.r
 cases ts with
 | nil => exact absurd rfl h0
 | cons t ts =>
  cases us with
  | nil => exact hr.elim
  | cons u us => exact hr.2
theorem TL.isT (h : TL ρ ts us) (k : Int) (s : ByteArray) : P.isT k s us = P.isT k s ts := by
 unfold P.isT
 rw [h.hd.k, h.hd.s]
theorem TL.isM (h : TL ρ ts us) (c : UInt8) : P.isM c us = P.isM c ts := h.isT _ _
theorem RR.bind {x : Res α} {y : Res β} {f : α → List Tk → Res γ} {g : β → List Tk → Res δ} (h : RR ρ A x y) (k : ∀ a b r s, A a b → TL ρ r s → RR ρ B (f a r) (g b s)) : RR ρ B (x.bind f) (y.bind g) := by
 cases x with
 | ok a r =>
  cases y with
  | ok b s => exact k a b r s h.1 h.2
  | bad e p => exact h.elim
 | bad e p =>
  cases y with
  | ok b s => exact h.elim
  | bad e' p' => exact h
theorem RR.ite {c d : Prop} [Decidable c] [Decidable d] {x x' : Res α} {y y' : Res β} (hcd : c ↔ d) (h1 : c → RR ρ A x y) (h2 : ¬ c → RR ρ A x' y') : RR ρ A (if c then x else x') (if d then y else y') := by
 by_cases hc : c
 ·rw [if_pos hc, if_pos (hcd.1 hc)]; exact h1 hc
 ·rw [if_neg hc, if_neg (fun h => hc (hcd.2 h))]; exact h2 hc
theorem RR.want {b b' : Bool} (h : TL ρ ts us) (hb : b' = b) (hk : b = true → (P.hd ts).f0 ≠ 0) : RR ρ (TR ρ) (P.want b ts) (P.want b' us) := by
 subst hb
 unfold P.want
 cases b' with
 | true => exact ⟨h.hd, h.tail (hk rfl)⟩
 | false => exact ⟨rfl, fun _ => h.hd.p⟩
theorem RR.Qar (h : TL ρ ts us) (c : UInt8) : RR ρ (TR ρ) (P.Qar c ts) (P.Qar c us) := RR.want h (h.isM c) fun hb => by rw [Qbz hb]; decide
theorem Qq4 {k k' : List EO} (h : Pw (ER ρ) k k') : mxl (k'.map EO.dep) = mxl (k.map EO.dep) := by
 have : k'.map EO.dep = k.map EO.dep := by
  induction k generalizing k' with
  | nil =>
   cases k' with
   | nil => rfl
   | cons b m => exact h.elim
  | cons a l ih =>
   cases k' with
   | nil => exact h.elim
   | cons b m => rw [List.map_cons, List.map_cons, ih h.2, h.1.dep]
 rw [this]
theorem Qq2 {k k' : List EO} (h : Pw (ER ρ) k k') : Pw (NR ρ) (k.map EO.ns).flatten (k'.map EO.ns).flatten := by
 induction k generalizing k' with
 | nil =>
  cases k' with
  | nil => trivial
  | cons b m => exact h.elim
 | cons a l ih =>
  cases k' with
  | nil => exact h.elim
  | cons b m =>
   rw [List.map_cons, List.map_cons, List.flatten_cons, List.flatten_cons]
   exact h.1.ns.append (ih h.2)
theorem RR.comb {n n' : Nd} {k k' : List EO} {r s : List Tk} (hn : NR ρ n n') (hk : Pw (ER ρ) k k') (hr : TL ρ r s) : RR ρ (ER ρ) (P.comb n k r) (P.comb n' k' s) := by
 unfold P.comb
 rw [Qq4 hk]
 refine RR.ite Iff.rfl (fun _ => ⟨rfl, fun _ => hn.p⟩) fun _ => ⟨⟨(Qq2 hk).snoc hn, rfl⟩, hr⟩
def FR (ρ : Int → Int → Prop) : Fn → Fn → Prop
 | .expr, .expr => True
 | .addL a, .addL b => ER ρ a b
 | .term, .term => True
 | .mulL a, .mulL b => ER ρ a b
 | .fac, .fac => True
 | .args t l, .args u m => TR ρ t u ∧ Pw (ER ρ) l m
 | _, _ => False
theorem NR.node {op p p' : Int} (h : ρ p p') : NR ρ (P.node op p) (P.node op p') := ⟨rfl, rfl, rfl, rfl, h⟩
theorem XS_rel {R R' : Fn → Nat → List Tk → Res EO} (ih : ∀ f f' lev ts us, FR ρ f f' → TL ρ ts us → RR ρ (ER ρ) (R f lev ts) (R' f' lev us)) :
  ∀ f f' lev ts us, FR ρ f f' → TL ρ ts us → RR ρ (ER ρ) (XS R f lev ts) (XS R' f' lev us) := by
 intro f f' lev ts us hf h
 have hh := h.hd
 cases f with
 | expr =>
  cases f' with
  | expr => exact RR.bind (ih _ _ _ _ _ trivial h) fun a b r s ha hr => ih _ _ _ _ _ ha hr
  | _ => exact hf.elim
 | term =>
  cases f' with
  | term => exact RR.bind (ih _ _ _ _ _ trivial h) fun a b r s ha hr => ih _ _ _ _ _ ha hr
  | _ => exact hf.elim
 | addL a =>
  cases f' with
  | addL a' =>
   have hf : ER ρ a a' := hf
   unfold XS
   refine RR.ite (by rw [h.isM, h.isM]) (fun hm => ?_) fun _ => ⟨hf, h⟩
   have h0 : (P.hd ts).f0 ≠ 0 := by
    rw [Bool.or_eq_true] at hm
    rcases hm with hm | hm <;> (rw [Qbz hm]; decide)
   rw [hh.s]
   exact RR.bind (ih _ _ _ _ _ trivial (h.tail h0)) fun b b' r s hb hr => RR.bind (RR.comb (NR.node hh.p) ⟨hf, hb, trivial⟩ hr) fun c c' r s hc hr => ih _ _ _ _ _ hc hr
  | _ => exact hf.elim
 | mulL a =>
  cases f' with
  | mulL a' =>
   have hf : ER ρ a a' := hf
   unfold XS
   refine RR.ite (by rw [h.isM]) (fun hm => ?_) fun _ => ⟨hf, h⟩
   have h0 : (P.hd ts).f0 ≠ 0 := by rw [Qbz hm]; decide
   exact RR.bind (ih _ _ _ _ _ trivial (h.tail h0)) fun b b' r s hb hr => RR.bind (RR.comb (NR.node hh.p) ⟨hf, hb, trivial⟩ hr) fun c c' r s hc hr => ih _ _ _ _ _ hc hr
  | _ => exact hf.elim
 | args t l =>
  cases f' with
  | args t' l' =>
   have hf : TR ρ t t' ∧ Pw (ER ρ) l l' := hf
   unfold XS
   refine RR.ite (by rw [h.isM]) (fun hm => ?_) fun _ => ?_
   ·have h0 : (P.hd ts).f0 ≠ 0 := by rw [Qbz hm]; decide
    exact RR.bind (ih _ _ _ _ _ trivial (h.tail h0)) fun b b' r s hb hr => ih _ _ _ _ _ ⟨hf.1, hf.2.snoc hb⟩ hr
   ·refine RR.bind (RR.Qar h _) fun _ _ r s _ hr => RR.comb ⟨rfl, ?_, rfl, rfl, hf.1.p⟩ hf.2 hr
    rw [hf.2.len]
  | _ => exact hf.elim
 | fac =>
  cases f' with
  | fac =>
   unfold XS
   have hbad : ∀ e : Int, RR ρ (ER ρ) (.bad e (P.hd ts).f3) (.bad e (P.hd us).f3) := fun e => ⟨rfl, fun _ => hh.p⟩
   have leaf : ∀ {n n' : Nd}, (P.hd ts).f0 ≠ 0 → NR ρ n n' → RR ρ (ER ρ) (P.comb n [] ts.tail) (P.comb n' [] us.tail) := fun h0 hn => RR.comb hn trivial (h.tail h0)
   have lev' : ∀ {x y : Res EO}, RR ρ (ER ρ) x y → RR ρ (ER ρ) (if 100 ≤ lev then .bad 91 (P.hd ts).f3 else x) (if 100 ≤ lev then .bad 91 (P.hd us).f3 else y) := fun hx => RR.ite Iff.rfl (fun _ => hbad 91) fun _ => hx
   have q2 : (P.hd us).f0 = 2 ↔ (P.hd ts).f0 = 2 := by rw [hh.k]
   refine RR.ite (by rw [hh.k]) (fun k => leaf (by rw [k]; decide) ⟨rfl, rfl, hh.n, rfl, hh.p⟩) fun _ => ?_
   refine RR.ite (by rw [hh.k]) (fun k => leaf (by rw [k]; decide) ⟨rfl, rfl, rfl, hh.s, hh.p⟩) fun _ => ?_
   refine RR.ite (by rw [hh.k]) (fun k => ?_) fun _ => ?_
   ·have h0 : (P.hd ts).f0 ≠ 0 := by rw [k]; decide
    have hp := RR.Qar (h.tail h0) 40
    refine RR.ite (by rw [hh.s]) (fun _ => leaf h0 (NR.node hh.p)) fun _ => ?_
    refine RR.ite (by rw [hh.s]) (fun _ => leaf h0 (NR.node hh.p)) fun _ => ?_
    refine RR.ite (by rw [hh.s]) (fun _ => lev' ?_) fun _ => ?_
    ·exact RR.bind hp fun _ _ r s _ hr => RR.bind (ih _ _ _ _ _ trivial hr) fun a b r s ha hr => ih _ _ _ _ _ ⟨hh, ha, trivial⟩ hr
    refine RR.ite (by rw [hh.s]) (fun _ => lev' ?_) fun _ => ?_
    ·exact RR.bind hp fun _ _ r s _ hr => RR.bind (ih _ _ _ _ _ trivial hr) fun a b r s ha hr => RR.bind (RR.Qar hr _) fun _ _ r s _ hr => RR.bind (ih _ _ _ _ _ trivial hr) fun c d r s hc hr => RR.bind (RR.Qar hr _) fun _ _ r s _ hr => RR.comb (NR.node hh.p) ⟨ha, hc, trivial⟩ hr
    refine RR.ite (by rw [hh.s]) (fun _ => lev' ?_) fun _ => ?_
    ·exact RR.bind hp fun _ _ r s _ hr => RR.bind (ih _ _ _ _ _ trivial hr) fun a b r s ha hr => RR.bind (RR.Qar hr _) fun _ _ r s _ hr => RR.comb (NR.node hh.p) ⟨ha, trivial⟩ hr
    refine RR.ite (by rw [hh.s]) (fun _ => lev' ?_) fun _ => hbad 90
    ·exact RR.bind hp fun _ _ r s _ hr => RR.bind (ih _ _ _ _ _ trivial hr) fun a b r s ha hr => RR.bind (RR.Qar hr _) fun _ _ r s _ hr => RR.comb (NR.node hh.p) ⟨ha, trivial⟩ hr
   ·refine RR.ite (by rw [h.isM]) (fun hm => lev' ?_) fun _ => ?_
    ·have h0 : (P.hd ts).f0 ≠ 0 := by rw [Qbz hm]; decide
     exact RR.bind (ih _ _ _ _ _ trivial (h.tail h0)) fun a b r s ha hr => RR.comb (NR.node hh.p) ⟨ha, trivial⟩ hr
    refine RR.ite (by rw [h.isM]) (fun hm => lev' ?_) fun _ => hbad 90
    ·have h0 : (P.hd ts).f0 ≠ 0 := by rw [Qbz hm]; decide
     exact RR.bind (ih _ _ _ _ _ trivial (h.tail h0)) fun a b r s ha hr => RR.bind (RR.Qar hr _) fun _ _ r s _ hr => ⟨ha, hr⟩
  | _ => exact hf.elim
theorem X_rel : ∀ (n : Nat) (f f' : Fn) (lev : Nat) (ts us : List Tk), FR ρ f f' → TL ρ ts us → RR ρ (ER ρ) (X n f lev ts) (X n f' lev us) := by
 intro n
 induction n with
 | zero => intro f f' lev ts us _ _; exact ⟨rfl, fun h => absurd rfl h⟩
 | succ n ih =>
  intro f f' lev ts us hf h
  rw [Qqh, Qqh]
  exact XS_rel ih f f' lev ts us hf h
theorem Qny (h : TL ρ ts us) : RR ρ (ER ρ) (Qdh ts) (Qdh us) := by
 unfold Qdh
 rw [h.r.len]
 exact X_rel _ _ _ _ _ _ trivial h
theorem Qee (h : TL ρ ts us) (s : ByteArray) : RR ρ (TR ρ) (Qdi s ts) (Qdi s us) := RR.want h (h.isT 1 s) fun hb => by rw [Qbz hb]; decide
theorem Qdv (h : TL ρ ts us) : RR ρ (TR ρ) (Qdg ts) (Qdg us) := RR.want h (by unfold Qe0; rw [h.hd.k, h.hd.s]) Qfj
theorem Qjn (h : TL ρ ts us) : RR ρ (TR ρ) (Qgi ts) (Qgi us) := RR.want h (by rw [h.hd.k]) fun hb => by rw [eq_of_beq hb]; decide
theorem Qo7 (h : TL ρ ts us) : RR ρ (TR ρ) (numW ts) (numW us) := RR.want h (by rw [h.hd.k]) fun hb => by rw [eq_of_beq hb]; decide
theorem Qpp (h : TL ρ ts us) : RR ρ (TR ρ) (endW ts) (endW us) := by
 unfold endW
 exact RR.ite (by rw [h.hd.k]) (fun _ => ⟨h.hd, h⟩) fun _ => ⟨rfl, fun _ => h.hd.p⟩
theorem Qof {d d' : StD} (hd' : SR ρ d d') (hv : d.val = [] ∧ d'.val = []) (h : TL ρ ts us) : RR ρ (SR ρ) (Qf6 d ts) (Qf6 d' us) := by
 obtain ⟨k, a, b, c, sep, ty, val, p⟩ := hd'
 have hvv : Pw (NR ρ) d.val d'.val := val
 unfold Qf6
 refine RR.ite (by rw [k]) (fun _ => ?_) fun _ => RR.ite (by rw [k]) (fun _ => ?_) fun _ => RR.ite (by rw [k]) (fun _ => ?_) fun _ => RR.ite (by rw [k]) (fun _ => ?_) fun _ => RR.ite (by rw [k]) (fun _ => ?_) fun _ => ⟨⟨k, a, b, c, sep, ty, val, p⟩, h⟩
 ·refine RR.bind (RR.Qar h _) fun _ _ r s _ h => RR.bind (Qdv h) fun t u r s ht h => ?_
  refine RR.ite (by rw [h.isM]) (fun hm => ?_) fun _ => ⟨⟨k, a, b, c, sep, ht.s, val, p⟩, h⟩
  have h0 : (P.hd r).f0 ≠ 0 := by rw [Qbz hm]; decide
  exact RR.bind (Qny (h.tail h0)) fun v w r s hv h => ⟨⟨k, a, b, c, sep, ht.s, hv.ns, p⟩, h⟩
 ·exact RR.bind (Qee h _) fun _ _ r s _ h => RR.bind (Qdv h) fun t u r s ht h => ⟨⟨k, a, ht.s, c, sep, ty, val, p⟩, h⟩
 ·exact RR.bind (Qee h _) fun _ _ r s _ h => RR.bind (Qjn h) fun x y r s hx h => RR.bind (Qee h _) fun _ _ r s _ h => RR.bind (Qdv h) fun t u r s ht h => RR.bind (RR.Qar h _) fun _ _ r s _ h => RR.bind (Qdv h) fun t' u' r s ht' h => ⟨⟨k, a, ht.s, ht'.s, hx.s, ty, val, p⟩, h⟩
 ·exact RR.bind (RR.Qar h _) fun _ _ r s _ h => RR.bind (Qdv h) fun t u r s ht h => RR.bind (Qee h _) fun _ _ r s _ h => RR.bind (Qjn h) fun x y r s hx h => RR.bind (Qee h _) fun _ _ r s _ h => RR.bind (Qdv h) fun t' u' r s ht' h => ⟨⟨k, a, ht.s, ht'.s, hx.s, ty, val, p⟩, h⟩
 ·exact RR.bind (Qee h _) fun _ _ r s _ h => RR.bind (Qdv h) fun t u r s ht h => ⟨⟨k, a, b, c, sep, ht.s, val, p⟩, h⟩
theorem Qm1 (h : TL ρ ts us) : RR ρ (SR ρ) (stepW ts) (stepW us) := by
 have hk : stK us = stK ts := by unfold stK; rw [h.hd.k, h.hd.s]
 unfold stepW
 rw [hk]
 exact RR.bind (RR.want h rfl fun hb => Qc0 (of_decide_eq_true hb)) fun t u r s ht h => RR.bind (Qdv h) fun a b r s ha h =>
  RR.bind (Qof ⟨rfl, ha.s, rfl, rfl, rfl, rfl, trivial, ht.p⟩ ⟨rfl, rfl⟩ h) fun d d' r s hd h => RR.bind (RR.Qar h _) fun _ _ r s _ h => ⟨hd, h⟩
theorem Qmc : ∀ (n : Nat) (l l' : List StD) (ts us : List Tk), Pw (SR ρ) l l' → TL ρ ts us → RR ρ (Pw (SR ρ)) (Qdr n l ts) (Qdr n l' us) := by
 intro n
 induction n with
 | zero => intro l l' ts us _ _; exact ⟨rfl, fun h => absurd rfl h⟩
 | succ n ih =>
  intro l l' ts us hl h
  rw [Qdr, Qdr]
  exact RR.ite (by rw [h.isM]) (fun _ => ⟨hl, h⟩) fun _ => RR.bind (Qm1 h) fun d d' r s hd h => ih _ _ _ _ (hl.snoc hd) h
theorem Qjl (h : TL ρ ts us) : RR ρ (VR ρ) (Qbq ts) (Qbq us) := by
 unfold Qbq
 exact RR.bind (Qee h _) fun t u r s ht h => RR.bind (Qo7 h) fun m m' r s hm h => RR.bind (RR.Qar h _) fun _ _ r s _ h =>
  RR.bind (by rw [h.r.len]; exact Qmc _ _ _ _ _ trivial h) fun l l' r s hl h => RR.bind (RR.Qar h _) fun _ _ r s _ h => ⟨⟨hm.n, hl, ht.p⟩, h⟩
theorem Qi2 : ∀ (n : Nat) (l l' : List VeD) (ts us : List Tk), Pw (VR ρ) l l' → TL ρ ts us → RR ρ (Pw (VR ρ)) (Qca n l ts) (Qca n l' us) := by
 intro n
 induction n with
 | zero => intro l l' ts us _ _; exact ⟨rfl, fun h => absurd rfl h⟩
 | succ n ih =>
  intro l l' ts us hl h
  rw [Qca, Qca]
  exact RR.bind (Qjl h) fun d d' r s hd h => RR.ite (by rw [h.isT]) (fun _ => ih _ _ _ _ (hl.snoc hd) h) fun _ => ⟨hl.snoc hd, h⟩
theorem Qmq (h : TL ρ ts us) : RR ρ (WR ρ) (Qdf ts) (Qdf us) := by
 unfold Qdf
 exact RR.bind (Qee h _) fun t u r s ht h => RR.bind (Qdv h) fun m m' r s hm h => RR.bind (RR.Qar h _) fun _ _ r s _ h =>
  RR.bind (by rw [h.r.len]; exact Qi2 _ _ _ _ _ trivial h) fun l l' r s hl h => RR.bind (RR.Qar h _) fun _ _ r s _ h => ⟨⟨hm.s, hl, ht.p⟩, h⟩
theorem Qla : ∀ (n : Nat) (l l' : List EvD) (ts us : List Tk), Pw (WR ρ) l l' → TL ρ ts us → RR ρ (Pw (WR ρ)) (Qc3 n l ts) (Qc3 n l' us) := by
 intro n
 induction n with
 | zero => intro l l' ts us _ _; exact ⟨rfl, fun h => absurd rfl h⟩
 | succ n ih =>
  intro l l' ts us hl h
  rw [Qc3, Qc3]
  exact RR.ite (by rw [h.isT]) (fun _ => RR.bind (Qmq h) fun d d' r s hd h => ih _ _ _ _ (hl.snoc hd) h) fun _ => ⟨hl, h⟩
theorem Qkq (h : TL ρ ts us) : RR ρ (Pw (WR ρ)) (Qdj ts) (Qdj us) := by
 unfold Qdj
 rw [h.r.len]
 exact RR.bind (Qla _ _ _ _ _ trivial h) fun l l' r s hl h => RR.bind (Qpp h) fun _ _ r s _ h => ⟨hl, h⟩
end
end Go.Proofs.Ytbdcndkafaajpaa.P
end
section
namespace Go.Proofs.Ytbdcndkafaajpaa.L
open Ytbdcndkafaajpaa
def LR.pre (ts : List Tok) : LR → LR
 | .toks l => .toks (ts ++ l)
 | .bad a e => .bad a e
theorem pre_nil (r : LR) : LR.pre [] r = r := by cases r <;> rfl
theorem Qo4 (t : Tok) (ts : List Tok) (r : LR) : (LR.pre ts r).push t = LR.pre (t :: ts) r := by cases r <;> rfl
theorem lx_gap {g l : List UInt8} (hg : gs false g = some false) (off : Nat) : lx off (g ++ l) = lx (off + g.length) l := by
 rcases Qhz (off + g.length) l with ⟨q, h, e⟩ | ⟨g', w, r, t, rfl, hg', ht, hw, e⟩ | ⟨g', m, a, e, rfl, hg', hm, hne, ht, h⟩
 ·rw [e, Qe2 (Qqa (by rw [Ql4 hg]; exact h)), List.length_append, Nat.add_assoc]
 ·rw [e, ← List.append_assoc, Qml (by rw [Ql4 hg]; exact hg') ht hw, List.length_append]; simp only [Nat.add_assoc]
 ·rw [h, ← List.append_assoc, Qjc (by rw [Ql4 hg]; exact hg') hm hne ht, List.length_append]; simp only [Nat.add_assoc]
theorem gs_nl (q : Bool) : gs q [10] = some false := by cases q <;> rfl
theorem Qq7 (m : List UInt8) : ∀ (d off : Nat) (s : List UInt8) (ts : List Tok), s.length ≤ d → lx off s = .toks ts →
  ∃ i, ts = i ++ [⟨0, [], 0, off + s.length, off + s.length⟩] ∧ (∀ t ∈ i, t.kind ≠ 0) ∧ lx off (s ++ 10 :: m) = LR.pre i (lx (off + s.length + 1) m) := by
 have w10 : Qev isW (10 :: m) := Qd7 (by decide)
 have fin : ∀ (off : Nat) (s : List UInt8) (q : Bool), gs false s = some q → lx off (s ++ 10 :: m) = LR.pre [] (lx (off + s.length + 1) m) := by
  intro off s q hq
  rw [pre_nil, show s ++ 10 :: m = (s ++ [10]) ++ m by simp, lx_gap (by rw [Ql4 hq]; exact gs_nl q), List.length_append]
  rfl
 intro d
 induction d with
 | zero =>
  intro off s ts hd h
  obtain rfl : s = [] := List.length_eq_zero_iff.1 (by omega)
  rw [Qe2 rfl] at h; cases h
  exact ⟨[], rfl, fun t ht => (by cases ht), fin off [] false rfl⟩
 | succ d ih =>
  intro off s ts hd h
  rcases Qhz off s with ⟨q, hq, e⟩ | ⟨g, w, r, t, rfl, hg, ht, hw, e⟩ | ⟨g, m', a, e, rfl, hg, hm, hne, ht, h2⟩
  ·rw [e] at h; cases h
   exact ⟨[], rfl, fun t ht => (by cases ht), fin off s q hq⟩
  ·have hl2 := Qd4 ht
   rw [e] at h
   obtain ⟨l', h1, rfl⟩ := Qfu h
   obtain ⟨i, rfl, hk, hx⟩ := ih _ r l' (by simp only [List.length_append] at hd; omega) h1
   refine ⟨t.at_ (off + g.length) :: i, ?_, fun u hu => ?_, ?_⟩
   ·simp only [List.cons_append, List.length_append, Nat.add_assoc]
   ·rcases List.mem_cons.1 hu with rfl | hu
    ·have := Qln ht
     show t.kind ≠ 0
     omega
    ·exact hk u hu
   ·rw [List.append_assoc, List.append_assoc, Qml hg (Qhs ht hw (Qlq (Qlm ht hw) w10)) hw, hx, Qo4]
    simp only [List.length_append, Nat.add_assoc]
  ·rw [h2] at h; cases h
theorem lx_at : ∀ (d off : Nat) (l : List UInt8) (ts : List Tok), l.length ≤ d → lx off l = .toks ts → ∀ t ∈ ts, off ≤ t.at' ∧ t.at' ≤ off + l.length := by
 intro d
 induction d with
 | zero =>
  intro off l ts hl h t ht
  obtain rfl : l = [] := List.length_eq_zero_iff.1 (by omega)
  rw [Qe2 rfl] at h; cases h
  rw [List.mem_singleton.1 ht]
  simp
 | succ d ih =>
  intro off l ts hl h t ht
  rcases Qhz off l with ⟨q, hq, e⟩ | ⟨g, w, r, t0, rfl, hg, ht0, hw, e⟩ | ⟨g, m, a, e, rfl, hg, hm, hne, ht0, h2⟩
  ·rw [e] at h; cases h
   rw [List.mem_singleton.1 ht]
   simp
  ·have hl2 := Qd4 ht0
   rw [e] at h
   obtain ⟨l', h1, rfl⟩ := Qfu h
   rcases List.mem_cons.1 ht with rfl | ht
   ·have : (t0.at_ (off + g.length)).at' = off + g.length := rfl
    simp only [List.length_append]; omega
   ·have := ih _ r l' (by simp only [List.length_append] at hl; omega) h1 t ht
    simp only [List.length_append]; omega
  ·rw [h2] at h; cases h
end Go.Proofs.Ytbdcndkafaajpaa.L
end
section
namespace Go.Proofs.Ytbdcndkafaajpaa.A
open Go.RowKit Ytbdcndkafaajpaa.X YtbdcndkafaajpaaW.PrintWords YtbdcndkafaajpaaW.PrintLast YtbdcndkafaajpaaW.PrintMore
open Ytbdcndkafaajpaa.P (Nd EO Res hd isT isM Qar mxl comb mk1 StD VeD EvD Out Qdc Qdk Qex)
theorem eqN (d : Nat) (w : World) (x0 y0 : Int) (x1 y1 : Int) (x2 y2 : Int) (x3 y3 : ByteArray) (x4 y4 : Int) :
  (Op.equalIn (d + 2) 49 (.agg #[.int .i64 x0, .int .i64 x1, .int .u64 x2, .string x3, .int .i64 x4]) (.agg #[.int .i64 y0, .int .i64 y1, .int .u64 y2, .string y3, .int .i64 y4])).run Try.prog w = .ok (x0 == y0 && (x1 == y1 && (x2 == y2 && (x3.toList == y3.toList && (x4 == y4))))) w := by
 refine eqA_of Try.underlying49 (by kernel_rfl) ?_
 refine Qhf (by rfl) (by go_simp; rfl) (by go_simp; rfl) (by go_simp) ?_
 refine Qhf (by rfl) (by go_simp; rfl) (by go_simp; rfl) (by go_simp) ?_
 refine Qhf (by rfl) (by go_simp; rfl) (by go_simp; rfl) (by go_simp) ?_
 refine Qhf (by rfl) (by go_simp; rfl) (by go_simp; rfl) (by go_simp) ?_
 exact Qpo (by rfl) (by go_simp; rfl) (by go_simp; rfl) (by go_simp)
def Qgl (more : Int) (pl : Bool) (x y : Nd) : Bool := x.f0 == y.f0 && (x.f1 == y.f1 && (x.f2 == y.f2 && (x.f3.toList == y.f3.toList && ((if pl then wrap64 (x.f4 + more) else y.f4) == y.f4))))
def allB {α : Type} (f : α → α → Bool) : List α → List α → Bool
 | [], [] => true
 | x :: l, y :: m => f x y && allB f l m
 | _, _ => false
def Qg7 (more : Int) (pl : Bool) (xs ys : List Nd) : Bool := allB (Qgl more pl) xs ys
def zN : Nd := ⟨0, 0, 0, ⟨#[]⟩, 0⟩
theorem at_N {w : World} {A : Option Addr} {n : Nat} {xs : List Nd} (h : Kd.C kn w A n xs) (i : Nat) (h1 : i < n) : ∃ ad, A = some ad ∧ w.cell? (ad.add (i * 5)) = some (.int .i64 (xs.getD i zN).f0) ∧ w.cell? ⟨(ad.add (i * 5)).block, (ad.add (i * 5)).off + 1, none⟩ = some (.int .i64 (xs.getD i zN).f1) ∧ w.cell? ⟨(ad.add (i * 5)).block, (ad.add (i * 5)).off + 2, none⟩ = some (.int .u64 (xs.getD i zN).f2) ∧ w.cell? ⟨(ad.add (i * 5)).block, (ad.add (i * 5)).off + 3, none⟩ = some (.string (xs.getD i zN).f3) ∧ w.cell? ⟨(ad.add (i * 5)).block, (ad.add (i * 5)).off + 4, none⟩ = some (.int .i64 (xs.getD i zN).f4) := by
 obtain ⟨ad, c, e, _, hK, hc0⟩ := Kd.Qkh h zN (i : Int) (by omega) (by omega)
 rw [Int.toNat_natCast] at hK hc0
 have hc : ∀ j u, c[j]? = some u → w.cell? (ad.add (i * 5 + j)) = some u := hc0
 obtain rfl := Qrb hK
 exact ⟨ad, e, hc 0 _ rfl, by rw [← Qcc _ _ 1 (by omega)]; exact hc 1 _ rfl, by rw [← Qcc _ _ 2 (by omega)]; exact hc 2 _ rfl, by rw [← Qcc _ _ 3 (by omega)]; exact hc 3 _ rfl, by rw [← Qcc _ _ 4 (by omega)]; exact hc 4 _ rfl⟩
theorem Qfd {α : Type} (f : α → α → Bool) (z : α) : ∀ (i : Nat) (l m : List α), i < l.length → i < m.length → allB f (l.drop i) (m.drop i) = (f (l.getD i z) (m.getD i z) && allB f (l.drop (i + 1)) (m.drop (i + 1)))
 | 0, x :: l, y :: m, _, _ => rfl
 | i + 1, x :: l, y :: m, h1, h2 => by
  have := Qfd f z i l m (by simpa using h1) (by simpa using h2)
  simpa using this
theorem Qhh {α : Type} (f : α → α → Bool) : ∀ (l m : List α), l.length ≠ m.length → allB f l m = false
 | [], [], h => absurd rfl h
 | [], _ :: _, _ => rfl
 | _ :: _, [], _ => rfl
 | x :: l, y :: m, h => by
  unfold allB
  rw [Qhh f l m (by simpa using h), Bool.and_false]
end Go.Proofs.Ytbdcndkafaajpaa.A
end
