/- Walks and plain laws behind ParseValues. Conditions: those in the theorems. -/
import Derived.Test.YtbdcndkafaajpaaBParseValues0
import Derived.Test.YtbdcndkafaajpaaBParseValues1
import Derived.Test.YtbdcndkafaajpaaBParseValues2
set_option linter.unusedVariables false
set_option linter.unusedSimpArgs false
set_option maxHeartbeats 16000000
set_option maxRecDepth 100000
section
namespace Go.Proofs.Ytbdcndkafaajpaa.A
open Go.RowKit Ytbdcndkafaajpaa.X YtbdcndkafaajpaaW.PrintWords YtbdcndkafaajpaaW.PrintLast YtbdcndkafaajpaaW.PrintMore
open Ytbdcndkafaajpaa.P (Nd EO Res hd isT isM Qar mxl comb mk1 StD VeD EvD)
theorem Qbb {w w' : World} {g b : Nat} {o : Obj} (hg : w.grownBy w' (some g)) (hx : w.heap[b]? = some o) (hb : b ≠ g) : w'.heap[b]? = some o := (hg.block b (Qcc hx) (fun e => by injection e with e; exact hb e)).trans hx
theorem Up.far {w : World} {A : Option Addr} {c : Nat} {L : List Tk} {g b : Nat} {s : US} (h : Up w A c L g s) (hb : g < b) (i : Nat) (v : Value) : Up (w.setCell ⟨b, i, none⟩ v) A c L g s := by
 obtain ⟨q, lv, v5, v6, hq, hp⟩ := h
 exact ⟨q, lv, v5, v6, hq, hp.far (a := i) hb v⟩
theorem Qhv {α β γ : Type} (x : Res α) (f : α → List Tk → Res β) (g : β → List Tk → Res γ) : (x.bind f).bind g = x.bind fun a r => (f a r).bind g := by cases x <;> rfl
theorem Qo3 (s : ByteArray) : ∀ (l : List ByteArray) (i : Nat), P.idxB s l i = Lib.idxFromS l s i
 | [], _ => rfl
 | x :: l, i => by
  unfold P.idxB Lib.idxFromS
  rw [Qo3 s l (i + 1)]
theorem Qp9 (s : ByteArray) : P.kindOf s = Lib.idxOfS ((Qcr.drop 2).take 6) s + 1 := by
 unfold P.kindOf Lib.idxOfS
 rw [Qo3]
 rfl
theorem Qo2 (s : ByteArray) : ∀ (l : List ByteArray) (i : Nat), P.idxB s l i = -1 ∨ ∃ j : Nat, P.idxB s l i = ((i + j : Nat) : Int) ∧ j < l.length
 | [], _ => .inl rfl
 | x :: l, i => by
  unfold P.idxB
  by_cases h : x = s
  ·rw [if_pos h]; exact .inr ⟨0, rfl, by simp⟩
  ·rw [if_neg h]
   rcases Qo2 s l (i + 1) with h | ⟨j, h, hj⟩
   ·exact .inl h
   ·exact .inr ⟨j + 1, by rw [h]; congr 1; omega, by simp only [List.length_cons]; omega⟩
theorem Qp8 (s : ByteArray) : ∃ k : Nat, P.kindOf s = (k : Int) ∧ k ≤ 6 := by
 unfold P.kindOf
 rcases Qo2 s P.kinds 0 with h | ⟨j, h, hj⟩
 ·exact ⟨0, by rw [h]; rfl, by omega⟩
 ·have h6 : P.kinds.length = 6 := by kernel_rfl
  exact ⟨j + 1, by rw [h]; omega, by omega⟩
theorem Qkc {w : World} {B : Nat} (h : w.heap[B]? = some (.cells (Qcr.map Value.string).toArray 9 (0, 0))) : ∀ j, j < (Qcr.drop 2).length → w.cell? ⟨B, 2 + j, none⟩ = some (.string ((Qcr.drop 2).getD j ByteArray.empty)) := fun j hj => by
 have hl : Qcr.length = 18 := by kernel_rfl
 have := Qgy h (2 + j) (by rw [List.length_drop] at hj; omega)
 rw [Nat.zero_add] at this
 rw [this]
 congr 2
 rw [List.getD_eq_getElem?_getD, List.getD_eq_getElem?_getD, List.getElem?_drop]
def tailW (k p : Int) (a : ByteArray) (r : List Tk) : Res StD := (P.Qgi (P.stepOf k p a) r).bind fun d r => (Qar 59 r).bind fun _ r => .ok d r
def Qo6 (k p : Int) (r : List Tk) : Res StD := (P.want (decide (0 < P.stK r)) r).bind fun t r => (P.Qdp r).bind fun a r => tailW k p a.f1 r
theorem Qeo {ts : List Tk} {k p : Int} (hk : P.stK ts = k) (hp : (hd ts).f3 = p) : P.stepW ts = Qo6 k p ts := by
 subst hk hp
 unfold P.stepW Qo6 P.want
 by_cases h : decide (0 < P.stK ts) = true
 ·rw [if_pos h]; rfl
 ·rw [if_neg h]; rfl
theorem tail0 (p : Int) (a : ByteArray) (r : List Tk) : tailW 0 p a r = (Qar 59 r).bind fun _ r => .ok (P.stepOf 0 p a) r := by
 unfold tailW P.Qgi
 simp only [P.stepOf, show ((0 : Int) = 1) = False from by decide, show ((0 : Int) = 2) = False from by decide, show ((0 : Int) = 3) = False from by decide, show ((0 : Int) = 4) = False from by decide, show ((0 : Int) = 5) = False from by decide, if_false]
 rfl
theorem tail1 (p : Int) (a : ByteArray) (r : List Tk) : tailW 1 p a r = (Qar 58 r).bind fun _ r => (P.Qdp r).bind fun t r => if isM 61 r then (P.Qda r.tail).bind fun v r => (Qar 59 r).bind fun _ r => .ok { P.stepOf 1 p a with ty := t.f1, val := v.ns } r else (Qar 59 r).bind fun _ r => .ok { P.stepOf 1 p a with ty := t.f1 } r := by
 unfold tailW P.Qgi
 simp only [P.stepOf, if_true]
 rw [Qhv]
 congr 1; funext _ r
 rw [Qhv]
 congr 1; funext t r
 by_cases h : isM 61 r = true
 ·rw [if_pos h, if_pos h, Qhv]; rfl
 ·rw [if_neg h, if_neg h]; rfl
theorem tail2 (p : Int) (a : ByteArray) (r : List Tk) : tailW 2 p a r = (P.Qd2 P.sTo r).bind fun _ r => (P.Qdp r).bind fun t r => (Qar 59 r).bind fun _ r => .ok { P.stepOf 2 p a with b := t.f1 } r := by
 unfold tailW P.Qgi
 simp only [P.stepOf, show ((2 : Int) = 1) = False from by decide, show ((2 : Int) = 3) = False from by decide, show ((2 : Int) = 4) = False from by decide, show ((2 : Int) = 5) = False from by decide, if_true, if_false, Qhv]
 rfl
theorem tail3 (p : Int) (a : ByteArray) (r : List Tk) : tailW 3 p a r = (P.Qd2 P.sAt r).bind fun _ r => (P.Qhn r).bind fun x r => (P.Qd2 P.Qll r).bind fun _ r => (P.Qdp r).bind fun t r => (Qar 44 r).bind fun _ r => (P.Qdp r).bind fun u r => (Qar 59 r).bind fun _ r => .ok { P.stepOf 3 p a with sep := x.f1, b := t.f1, c := u.f1 } r := by
 unfold tailW P.Qgi
 simp only [P.stepOf, show ((3 : Int) = 1) = False from by decide, show ((3 : Int) = 2) = False from by decide, show ((3 : Int) = 4) = False from by decide, show ((3 : Int) = 5) = False from by decide, if_true, if_false, Qhv]
 rfl
theorem tail4 (p : Int) (a : ByteArray) (r : List Tk) : tailW 4 p a r = (Qar 44 r).bind fun _ r => (P.Qdp r).bind fun t r => (P.Qd2 P.Qpp r).bind fun _ r => (P.Qhn r).bind fun x r => (P.Qd2 P.Qll r).bind fun _ r => (P.Qdp r).bind fun u r => (Qar 59 r).bind fun _ r => .ok { P.stepOf 4 p a with b := t.f1, sep := x.f1, c := u.f1 } r := by
 unfold tailW P.Qgi
 simp only [P.stepOf, show ((4 : Int) = 1) = False from by decide, show ((4 : Int) = 2) = False from by decide, show ((4 : Int) = 3) = False from by decide, show ((4 : Int) = 5) = False from by decide, if_true, if_false, Qhv]
 rfl
theorem tail5 (p : Int) (a : ByteArray) (r : List Tk) : tailW 5 p a r = (P.Qd2 P.sTo r).bind fun _ r => (P.Qdp r).bind fun t r => (Qar 59 r).bind fun _ r => .ok { P.stepOf 5 p a with ty := t.f1 } r := by
 unfold tailW P.Qgi
 simp only [P.stepOf, show ((5 : Int) = 1) = False from by decide, show ((5 : Int) = 2) = False from by decide, show ((5 : Int) = 3) = False from by decide, show ((5 : Int) = 4) = False from by decide, if_true, if_false, Qhv]
 rfl
theorem tail6 (p : Int) (a : ByteArray) (r : List Tk) : tailW 6 p a r = (Qar 59 r).bind fun _ r => .ok (P.stepOf 6 p a) r := by
 unfold tailW P.Qgi
 simp only [P.stepOf, show ((6 : Int) = 1) = False from by decide, show ((6 : Int) = 2) = False from by decide, show ((6 : Int) = 3) = False from by decide, show ((6 : Int) = 4) = False from by decide, show ((6 : Int) = 5) = False from by decide, if_false]
 rfl
theorem rn_own {W : World} {g : Nat} {v : Value} {ns : List Nd} (h : Kd.R kn 49 W g (fun _ => True) v ns) : Kd.R kn 49 W g (fun k => v.ownBlock = some k) v ns := by
 obtain ⟨_, inner, ho, hr⟩ := h
 exact ⟨fun k hk => hk, inner, ho, hr.imp_ (fun _ _ hp => hp)⟩
theorem Qma {W W' : World} {g : Nat} {v : Value} {ns : List Nd} (h : Kd.R kn 49 W g (fun _ => True) v ns) (hm : ∀ k, v.ownBlock = some k → W'.heap[k]? = W.heap[k]?) : Kd.R kn 49 W' g (fun _ => True) v ns :=
 Kd.Qep (Kd.Qjr (rn_own h) (fun k hk _ => hm k hk)) (fun _ _ => trivial)
theorem set8 {W : World} {b : Nat} {a0 a1 a2 a3 a4 a5 a6 a7 v0 v1 v2 v3 v4 v5 v6 v7 : Value} {t : TypeId} (h : W.heap[b]? = some (.cells #[a0, a1, a2, a3, a4, a5, a6, a7] t (0, 0))) : ((((((((W.setCell ⟨b, 0, none⟩ v0).setCell ⟨b, 1, none⟩ v1).setCell ⟨b, 2, none⟩ v2).setCell ⟨b, 3, none⟩ v3).setCell ⟨b, 4, none⟩ v4).setCell ⟨b, 5, none⟩ v5).setCell ⟨b, 6, none⟩ v6).setCell ⟨b, 7, none⟩ v7).heap[b]? = some (.cells #[v0, v1, v2, v3, v4, v5, v6, v7] t (0, 0)) := by
 have h0 : (W.setCell ⟨b, 0, none⟩ v0).heap[b]? = some (.cells #[v0, a1, a2, a3, a4, a5, a6, a7] t (0, 0)) := Qb4 h 0 v0 rfl
 have h1 : ((W.setCell ⟨b, 0, none⟩ v0).setCell ⟨b, 1, none⟩ v1).heap[b]? = some (.cells #[v0, v1, a2, a3, a4, a5, a6, a7] t (0, 0)) := Qb4 h0 1 v1 rfl
 have h2 : (((W.setCell ⟨b, 0, none⟩ v0).setCell ⟨b, 1, none⟩ v1).setCell ⟨b, 2, none⟩ v2).heap[b]? = some (.cells #[v0, v1, v2, a3, a4, a5, a6, a7] t (0, 0)) := Qb4 h1 2 v2 rfl
 have h3 : ((((W.setCell ⟨b, 0, none⟩ v0).setCell ⟨b, 1, none⟩ v1).setCell ⟨b, 2, none⟩ v2).setCell ⟨b, 3, none⟩ v3).heap[b]? = some (.cells #[v0, v1, v2, v3, a4, a5, a6, a7] t (0, 0)) := Qb4 h2 3 v3 rfl
 have h4 : (((((W.setCell ⟨b, 0, none⟩ v0).setCell ⟨b, 1, none⟩ v1).setCell ⟨b, 2, none⟩ v2).setCell ⟨b, 3, none⟩ v3).setCell ⟨b, 4, none⟩ v4).heap[b]? = some (.cells #[v0, v1, v2, v3, v4, a5, a6, a7] t (0, 0)) := Qb4 h3 4 v4 rfl
 have h5 : ((((((W.setCell ⟨b, 0, none⟩ v0).setCell ⟨b, 1, none⟩ v1).setCell ⟨b, 2, none⟩ v2).setCell ⟨b, 3, none⟩ v3).setCell ⟨b, 4, none⟩ v4).setCell ⟨b, 5, none⟩ v5).heap[b]? = some (.cells #[v0, v1, v2, v3, v4, v5, a6, a7] t (0, 0)) := Qb4 h4 5 v5 rfl
 have h6 : (((((((W.setCell ⟨b, 0, none⟩ v0).setCell ⟨b, 1, none⟩ v1).setCell ⟨b, 2, none⟩ v2).setCell ⟨b, 3, none⟩ v3).setCell ⟨b, 4, none⟩ v4).setCell ⟨b, 5, none⟩ v5).setCell ⟨b, 6, none⟩ v6).heap[b]? = some (.cells #[v0, v1, v2, v3, v4, v5, v6, a7] t (0, 0)) := Qb4 h5 6 v6 rfl
 have h7 : ((((((((W.setCell ⟨b, 0, none⟩ v0).setCell ⟨b, 1, none⟩ v1).setCell ⟨b, 2, none⟩ v2).setCell ⟨b, 3, none⟩ v3).setCell ⟨b, 4, none⟩ v4).setCell ⟨b, 5, none⟩ v5).setCell ⟨b, 6, none⟩ v6).setCell ⟨b, 7, none⟩ v7).heap[b]? = some (.cells #[v0, v1, v2, v3, v4, v5, v6, v7] t (0, 0)) := Qb4 h6 7 v7 rfl
 exact h7
theorem up8 {W : World} {A : Option Addr} {c : Nat} {L : List Tk} {g b : Nat} {s : US} {v0 v1 v2 v3 v4 v5 v6 v7 : Value} (h : Up W A c L g s) (hb : g < b) : Up ((((((((W.setCell ⟨b, 0, none⟩ v0).setCell ⟨b, 1, none⟩ v1).setCell ⟨b, 2, none⟩ v2).setCell ⟨b, 3, none⟩ v3).setCell ⟨b, 4, none⟩ v4).setCell ⟨b, 5, none⟩ v5).setCell ⟨b, 6, none⟩ v6).setCell ⟨b, 7, none⟩ v7) A c L g s := (Up.far (b := b) (Up.far (b := b) (Up.far (b := b) (Up.far (b := b) (Up.far (b := b) (Up.far (b := b) (Up.far (b := b) (Up.far (b := b) h hb 0 v0) hb 1 v1) hb 2 v2) hb 3 v3) hb 4 v4) hb 5 v5) hb 6 v6) hb 7 v7)
theorem Qf7 {w W : World} {g b : Nat} {v0 v1 v2 v3 v4 v5 v6 v7 : Value} (h : w.grownBy W (some g)) (hb : w.heap.size ≤ b) : w.grownBy ((((((((W.setCell ⟨b, 0, none⟩ v0).setCell ⟨b, 1, none⟩ v1).setCell ⟨b, 2, none⟩ v2).setCell ⟨b, 3, none⟩ v3).setCell ⟨b, 4, none⟩ v4).setCell ⟨b, 5, none⟩ v5).setCell ⟨b, 6, none⟩ v6).setCell ⟨b, 7, none⟩ v7) (some g) := (Qa5 (g := g) (Qa5 (g := g) (Qa5 (g := g) (Qa5 (g := g) (Qa5 (g := g) (Qa5 (g := g) (Qa5 (g := g) (Qa5 (g := g) h hb 0 v0) hb 1 v1) hb 2 v2) hb 3 v3) hb 4 v4) hb 5 v5) hb 6 v6) hb 7 v7)
theorem rn8 {W : World} {g b : Nat} {a0 a1 a2 a3 a4 a5 a6 a7 v0 v1 v2 v3 v4 v5 v6 v7 v : Value} {ns : List Nd} (h : Kd.R kn 49 W g (fun _ => True) v ns) (hb : W.heap[b]? = some (.cells #[a0, a1, a2, a3, a4, a5, a6, a7] 62 (0, 0))) : Kd.R kn 49 ((((((((W.setCell ⟨b, 0, none⟩ v0).setCell ⟨b, 1, none⟩ v1).setCell ⟨b, 2, none⟩ v2).setCell ⟨b, 3, none⟩ v3).setCell ⟨b, 4, none⟩ v4).setCell ⟨b, 5, none⟩ v5).setCell ⟨b, 6, none⟩ v6).setCell ⟨b, 7, none⟩ v7) g (fun _ => True) v ns := by
 have ne : ∀ k, v.ownBlock = some k → k ≠ b := fun k hk e => by subst e; exact Kd.R_ne h hb (by decide) hk.symm
 refine Qma h (fun k hk => ?_)
 have hne := ne k hk
 rw [Below.heap_setCell _ ⟨b, 7, none⟩ v7 k hne, Below.heap_setCell _ ⟨b, 6, none⟩ v6 k hne, Below.heap_setCell _ ⟨b, 5, none⟩ v5 k hne, Below.heap_setCell _ ⟨b, 4, none⟩ v4 k hne, Below.heap_setCell _ ⟨b, 3, none⟩ v3 k hne, Below.heap_setCell _ ⟨b, 2, none⟩ v2 k hne, Below.heap_setCell _ ⟨b, 1, none⟩ v1 k hne, Below.heap_setCell _ ⟨b, 0, none⟩ v0 k hne]
theorem Co.Qfw {β : Type} {F : Res β} {fin : US} {d : β} (h : Co F (fun r => .ok d r) fin) : (∃ d r, fin = US.ok r ∧ F = .ok d r) ∨ ∃ e p, fin = US.bad e p ∧ F = .bad e p := by
 rcases Co.end_ h with ⟨r, h1, h2⟩ | h
 ·exact .inl ⟨d, r, h1, h2⟩
 ·exact .inr h
theorem eqTrue {α : Type} {r : List Tk} {y : Res α} {f : List Tk → Res α} (h : true = isM 61 r) : (if isM 61 r then f r.tail else y) = (Qar 61 r).bind fun _ r => f r := by
 rw [if_pos h.symm]; unfold Qar P.want; rw [← h]; rfl
theorem box8 {W : World} {b : Nat} {a0 a1 a2 a3 a4 a5 a6 a7 : Value} {t : TypeId} (h : W.heap[b]? = some (.cells #[a0, a1, a2, a3, a4, a5, a6, a7] t (0, 0))) : W.cell? ⟨b, 0, none⟩ = some a0 ∧ W.cell? ⟨b, 1, none⟩ = some a1 ∧ W.cell? ⟨b, 2, none⟩ = some a2 ∧ W.cell? ⟨b, 3, none⟩ = some a3 ∧ W.cell? ⟨b, 4, none⟩ = some a4 ∧ W.cell? ⟨b, 5, none⟩ = some a5 ∧ W.cell? ⟨b, 6, none⟩ = some a6 ∧ W.cell? ⟨b, 7, none⟩ = some a7 :=
 ⟨(Qaf h 0).trans rfl, (Qaf h 1).trans rfl, (Qaf h 2).trans rfl, (Qaf h 3).trans rfl, (Qaf h 4).trans rfl, (Qaf h 5).trans rfl, (Qaf h 6).trans rfl, (Qaf h 7).trans rfl⟩
theorem Qiv {W : World} {b : Nat} {cs : Array Value} {t : TypeId} (h : W.heap[b]? = some (.cells cs t (0, 0))) : W.frozen? ⟨b, 0, none⟩ = false ∧ W.frozen? ⟨b, 1, none⟩ = false ∧ W.frozen? ⟨b, 2, none⟩ = false ∧ W.frozen? ⟨b, 3, none⟩ = false ∧ W.frozen? ⟨b, 4, none⟩ = false ∧ W.frozen? ⟨b, 5, none⟩ = false ∧ W.frozen? ⟨b, 6, none⟩ = false ∧ W.frozen? ⟨b, 7, none⟩ = false :=
 ⟨Qaa h 0, Qaa h 1, Qaa h 2, Qaa h 3, Qaa h 4, Qaa h 5, Qaa h 6, Qaa h 7⟩
theorem Qqi {α : Type} {r : List Tk} {x y : Res α} (h : false = isM 61 r) : (if isM 61 r then x else y) = y := if_neg (by rw [← h]; decide)
theorem Qlj (w : World) (A : Option Addr) (c : Nat) (L : List Tk) (g : Nat) (s : US) (hG : Good L) (hL : L.length ≤ 33554432) (h : Up w A c L g s) :
  Calls Try.prog 83 #[.pointer (some ⟨g, 0, none⟩)] w fun e w' => ∃ x ns, e = .returned (.agg #[.int .i64 x.k, .string x.a, .string x.b, .string x.c, .string x.sep, .string x.ty, .slice x.val.A x.val.n x.val.c, .int .i64 x.pl]) ∧ Kd.R kn 49 w' g (fun _ => True) x.val.v ns ∧ (∀ k, x.val.v.ownBlock = some k → w.heap.size ≤ k) ∧ Up w' A c L g (s.step P.stepW) ∧ w.grownBy w' (some g) ∧ ∀ ts d r, s = .ok ts → P.stepW ts = .ok d r → StM x ns d := by
 obtain ⟨w0, hw0⟩ : ∃ w0, w0 = w.alloc (.cells #[.int .i64 0, .string ⟨#[]⟩, .string ⟨#[]⟩, .string ⟨#[]⟩, .string ⟨#[]⟩, .string ⟨#[]⟩, .slice none 0 0, .int .i64 0] 62) := ⟨_, rfl⟩
 obtain ⟨b2, hb2⟩ : ∃ b2, b2 = w.heap.size := ⟨_, rfl⟩
 have hB0 : Below w.heap.size w w0 := by rw [hw0]; exact Qab (Below.refl _ _) _
 have HU0 := J0.m (h.below hB0)
 have HR0 := J0.m (Qaq hB0 (some g))
 have HY0 := J0.m (show w0.heap[b2]? = some zO8 from by rw [hw0, hb2]; exact Qa1 _ _)
 have GB2 : J0 (g < b2) := ⟨by rw [hb2]; exact h.glt⟩
 have NB2 : J0 (b2 ≠ g) := ⟨by have := GB2.o; omega⟩
 have LB2 : J0 (w.heap.size ≤ b2) := ⟨by rw [hb2]; exact Nat.le_refl _⟩
 have HB2 := J0.m hb2
 have HW0 := J0.m hw0
 have HG := J0.m hG
 have HL := J0.m hL
 obtain ⟨F, hF0, hFe⟩ := Co.start s P.stepW
 have HF0 := J0.m hF0
 have HFE := J0.m hFe
 clear h hw0 hb2 hB0 hG hL hF0 hFe
 go_enter Try.func83, Try.ntmps83
 go_wp2_with fail
 rw [← HW0.o, ← HB2.o]
 refine (Qea HU0.o).mono ?_
 rintro e w1 ⟨⟨k1, s1, n1, p1, e1⟩, hf1, rfl, hb⟩
 have HT1 := J0.m hf1
 have HU1 := J0.m (HU0.o.below hb)
 have HR1 := J0.m (HR0.o.trans (Qaq hb _))
 have HY1 := J0.m (Qai HY0.o hb)
 clear hb hf1
 obtain ⟨fd0, fd1, fd2, fd3⟩ := fld ⟨k1, s1, n1, p1, e1⟩
 obtain ⟨b3, hb3⟩ : ∃ b3, b3 = w1.heap.size := ⟨_, rfl⟩
 obtain ⟨w2, hw2⟩ : ∃ w2, w2 = w1.alloc (.cells #[.int .i64 0, .string ⟨#[]⟩, .string ⟨#[]⟩, .string ⟨#[]⟩, .string ⟨#[]⟩, .string ⟨#[]⟩, .slice none 0 0, .int .i64 p1] 62) := ⟨_, rfl⟩
 have hb : Below w1.heap.size w1 w2 := by rw [hw2]; exact Qab (Below.refl _ _) _
 have HU2 := J0.m (HU1.o.below hb)
 have HR2 := J0.m (HR1.o.trans (Qaq hb _))
 have HY2 := J0.m (Qai HY1.o hb)
 have HX2 := J0.m (show w2.heap[b3]? = some (.cells #[.int .i64 0, .string ⟨#[]⟩, .string ⟨#[]⟩, .string ⟨#[]⟩, .string ⟨#[]⟩, .string ⟨#[]⟩, .slice none 0 0, .int .i64 p1] 62 (0, 0)) from by rw [hw2, hb3]; exact Qa1 _ _)
 have GB3 : J0 (g < b3) := ⟨by rw [hb3]; exact HU1.o.glt⟩
 have NB3 : J0 (b3 ≠ g) := ⟨by have := GB3.o; omega⟩
 have LB3 : J0 (w.heap.size ≤ b3) := ⟨by rw [hb3]; exact HR1.o.size⟩
 have NB23 : J0 (b2 ≠ b3) := ⟨by have := Qcc HY1.o; rw [hb3]; omega⟩
 have HB3 := J0.m hb3
 have HW2 := J0.m hw2
 clear hb hw2 hb3
 go_wp2_with fail
 rw [← HW2.o, ← HB3.o]
 refine (Qgz w2).mono ?_
 rintro e w3 ⟨B, rfl, hbw, hb, _⟩
 have HBW3 := J0.m hbw
 have HU3 := J0.m (HU2.o.below hb)
 have HR3 := J0.m (HR2.o.trans (Qaq hb _))
 have HY3 := J0.m (Qai HY2.o hb)
 have HX3 := J0.m (Qai HX2.o hb)
 clear hb hbw
 go_wp2_with fail
 refine (Qea HU3.o).mono ?_
 rintro e w4 ⟨⟨k2, s2, n2, p2, e2⟩, hf2, rfl, hb⟩
 have HT2 := J0.m hf2
 have HBW4 := J0.m (Qai HBW3.o hb)
 have HU4 := J0.m (HU3.o.below hb)
 have HR4 := J0.m (HR3.o.trans (Qaq hb _))
 have HY4 := J0.m (Qai HY3.o hb)
 have HX4 := J0.m (Qai HX3.o hb)
 clear hb hf2
 obtain ⟨gd0, gd1, gd2, gd3⟩ := fld ⟨k2, s2, n2, p2, e2⟩
 by_cases hk2 : k2 = 1
 ·subst hk2
  go_wp2_with fail
  refine (Qea HU4.o).mono ?_
  rintro e w5 ⟨⟨k3, s3, n3, p3, e3⟩, hf3, rfl, hb⟩
  have HT3 := J0.m hf3
  have HBW5 := J0.m (Qai HBW4.o hb)
  have HU5 := J0.m (HU4.o.below hb)
  have HR5 := J0.m (HR4.o.trans (Qaq hb _))
  have HY5 := J0.m (Qai HY4.o hb)
  have HX5 := J0.m (Qai HX4.o hb)
  clear hb hf3
  obtain ⟨id0, id1, id2, id3⟩ := fld ⟨k3, s3, n3, p3, e3⟩
  obtain ⟨k, hk, hk6⟩ := Qp8 s3
  have hkk : ∀ ts, s = .ok ts → P.stK ts = (k : Int) := fun ts hs => by
   unfold P.stK
   rw [← HT2.o ts hs, if_pos rfl, HT2.o ts hs, ← HT3.o ts hs]; exact hk
  have hix : Lib.idxOfS ((Qcr.drop 2).take 6) s3 = (k : Int) - 1 := by have := Qp9 s3; omega
  have HIX : J0 (Calls Try.prog 90 #[.slice (some ⟨B, 2, none⟩) 6 16, .string s3] w5 fun e w' => e = .returned (.int .i64 ((k : Int) - 1)) ∧ w' = w5) := ⟨by rw [← hix]; exact Try.slices_Index_string B 2 6 16 (Qcr.drop 2) s3 w5 (by decide) (by decide) (Qkc HBW5.o)⟩
  have c0_5 := (Qaf HX5.o 0).trans rfl
  have f0_5 := Qaa HX5.o 0
  clear hix hk
  obtain rfl | rfl | rfl | rfl | rfl | rfl | rfl : k = 0 ∨ k = 1 ∨ k = 2 ∨ k = 3 ∨ k = 4 ∨ k = 5 ∨ k = 6 := by omega
  ·have HKK : J0 (∀ ts, s = .ok ts → P.stK ts = 0) := ⟨hkk⟩
   have HC5 := J0.m (HF0.o.to (fun r hr => Qeo (k := 0) (p := p1) (HKK.o r hr) (by rw [← HT1.o r hr])))
   clear hkk
   go_wp2_with fail
   refine HIX.o.mono ?_
   rintro e w6 ⟨rfl, hw6⟩
   rw [hw6]
   clear HIX hw6
   have HU6' := HU5
   obtain ⟨w6, hw⟩ : ∃ w6, w6 = w5.setCell ⟨b3, 0, none⟩ (.int .i64 0) := ⟨_, rfl⟩
   have HU6 := J0.m (show Up w6 A c L g _ from by rw [hw]; exact HU5.o.far GB3.o 0 _)
   have HR6 := J0.m (show w.grownBy w6 (some g) from by rw [hw]; exact Qa5 (g := g) HR5.o LB3.o 0 _)
   have HX6 := J0.m (show w6.heap[b3]? = some (.cells #[.int .i64 0, .string ⟨#[]⟩, .string ⟨#[]⟩, .string ⟨#[]⟩, .string ⟨#[]⟩, .string ⟨#[]⟩, .slice none 0 0, .int .i64 p1] 62 (0, 0)) from by rw [hw]; exact (Qbu HX5.o _).trans (by rfl))
   have HY6 := J0.m (show w6.heap[b2]? = some zO8 from by rw [hw]; exact Qbq NB23.o HY5.o _)
   have HC6 := HC5
   have HW6 := J0.m hw
   clear hw
   have c0_6 := (Qaf HX6.o 0).trans rfl
   have f0_6 := Qaa HX6.o 0
   have HCL := J0.m (Qc0 HG.o false (fun ts => decide (0 < P.stK ts)) HU6.o (fun ts hs => ⟨by rw [HKK.o ts hs]; rfl, fun h => P.Qd7 (by rw [HKK.o ts hs]; exact absurd h (by decide))⟩))
   go_wp2_with fail
   rw [← HW6.o]
   refine HCL.o.mono ?_
   rintro e w7 ⟨⟨tk0, hfr, rfl⟩, hu, hg⟩
   clear HCL
   have HC7 := J0.m (Co.step HC6.o hfr)
   have HU7 := J0.m hu
   have HR7 := J0.m (HR6.o.trans hg)
   have HX7 := J0.m (Qbb hg HX6.o NB3.o)
   have HY7 := J0.m (Qbb hg HY6.o NB2.o)
   clear hu hg hfr
   have HCL := J0.m (Qbw HG.o HU7.o)
   go_wp2_with fail
   refine HCL.o.mono ?_
   rintro e w8 ⟨⟨ta, hfr, rfl⟩, hu, hg⟩
   clear HCL
   have HC8 := J0.m ((HC7.o).name hfr)
   have HU8 := J0.m hu
   have HR8 := J0.m (HR7.o.trans hg)
   have HX8 := J0.m (Qbb hg HX7.o NB3.o)
   have HY8 := J0.m (Qbb hg HY7.o NB2.o)
   clear hu hg hfr
   have c0_8 := (Qaf HX8.o 0).trans rfl
   have f0_8 := Qaa HX8.o 0
   have c1_8 := (Qaf HX8.o 1).trans rfl
   have f1_8 := Qaa HX8.o 1
   obtain ⟨w9, hw⟩ : ∃ w9, w9 = w8.setCell ⟨b3, 1, none⟩ (.string ta.f1) := ⟨_, rfl⟩
   have HU9 := J0.m (show Up w9 A c L g _ from by rw [hw]; exact HU8.o.far GB3.o 1 _)
   have HR9 := J0.m (show w.grownBy w9 (some g) from by rw [hw]; exact Qa5 (g := g) HR8.o LB3.o 1 _)
   have HX9 := J0.m (show w9.heap[b3]? = some (.cells #[.int .i64 0, .string ta.f1, .string ⟨#[]⟩, .string ⟨#[]⟩, .string ⟨#[]⟩, .string ⟨#[]⟩, .slice none 0 0, .int .i64 p1] 62 (0, 0)) from by rw [hw]; exact (Qbu HX8.o _).trans (by rfl))
   have HY9 := J0.m (show w9.heap[b2]? = some zO8 from by rw [hw]; exact Qbq NB23.o HY8.o _)
   have HC9 := HC8
   have HW9 := J0.m hw
   clear hw
   have HC9 := J0.m (HC9.o.to (fun r _ => tail0 _ _ r))
   have HCL := J0.m (Qbo HG.o 59 HU9.o)
   go_wp2_with fail
   rw [← HW9.o]
   refine HCL.o.mono ?_
   rintro e w10 ⟨⟨tz, hfr, rfl⟩, hu, hg⟩
   clear HCL
   have HC10 := J0.m ((HC9.o).mark hfr)
   have HU10 := J0.m hu
   have HR10 := J0.m (HR9.o.trans hg)
   have HX10 := J0.m (Qbb hg HX9.o NB3.o)
   have HY10 := J0.m (Qbb hg HY9.o NB2.o)
   have hgz := hg
   clear hu hg hfr
   obtain ⟨c0_10, c1_10, c2_10, c3_10, c4_10, c5_10, c6_10, c7_10⟩ := box8 HX10.o
   obtain ⟨y0, y1, y2, y3, y4, y5, y6, y7⟩ := box8 HY10.o
   obtain ⟨g0, g1, g2, g3, g4, g5, g6, g7⟩ := Qiv HY10.o
   go_wp2
   refine bodyPost_ret (Qb0 rfl _ _ b2 62 #[.int .i64 0, .string ta.f1, .string ⟨#[]⟩, .string ⟨#[]⟩, .string ⟨#[]⟩, .string ⟨#[]⟩, .slice none 0 0, .int .i64 p1] (0, 0) _ rfl (set8 HY10.o) Try.underlying62 rfl (by kernel_rfl)) rfl ?_
   refine ⟨⟨0, ta.f1, ⟨#[]⟩, ⟨#[]⟩, ⟨#[]⟩, ⟨#[]⟩, ⟨none, 0, 0⟩, p1⟩, [], rfl, Kd.Qdq _ _ _ _ _, (fun k hk => by simp [Sl.v, Value.ownBlock] at hk), ?_, Qf7 HR10.o LB2.o, fun ts d r h1 h2 => ?_⟩
   ·rw [← HFE.o _ (Co.Qfw HC10.o)]
    exact up8 HU10.o GB2.o
   ·have := Co.val HC10.o HF0.o ts d r h1 h2
    subst this
    exact ⟨rfl, rfl, rfl, rfl, rfl, rfl, rfl, rfl⟩
  ·have HKK : J0 (∀ ts, s = .ok ts → P.stK ts = 1) := ⟨hkk⟩
   have HC5 := J0.m (HF0.o.to (fun r hr => Qeo (k := 1) (p := p1) (HKK.o r hr) (by rw [← HT1.o r hr])))
   clear hkk
   go_wp2_with fail
   refine HIX.o.mono ?_
   rintro e w6 ⟨rfl, hw6⟩
   rw [hw6]
   clear HIX hw6
   have HU6' := HU5
   obtain ⟨w6, hw⟩ : ∃ w6, w6 = w5.setCell ⟨b3, 0, none⟩ (.int .i64 1) := ⟨_, rfl⟩
   have HU6 := J0.m (show Up w6 A c L g _ from by rw [hw]; exact HU5.o.far GB3.o 0 _)
   have HR6 := J0.m (show w.grownBy w6 (some g) from by rw [hw]; exact Qa5 (g := g) HR5.o LB3.o 0 _)
   have HX6 := J0.m (show w6.heap[b3]? = some (.cells #[.int .i64 1, .string ⟨#[]⟩, .string ⟨#[]⟩, .string ⟨#[]⟩, .string ⟨#[]⟩, .string ⟨#[]⟩, .slice none 0 0, .int .i64 p1] 62 (0, 0)) from by rw [hw]; exact (Qbu HX5.o _).trans (by rfl))
   have HY6 := J0.m (show w6.heap[b2]? = some zO8 from by rw [hw]; exact Qbq NB23.o HY5.o _)
   have HC6 := HC5
   have HW6 := J0.m hw
   clear hw
   have c0_6 := (Qaf HX6.o 0).trans rfl
   have f0_6 := Qaa HX6.o 0
   have HCL := J0.m (Qc0 HG.o true (fun ts => decide (0 < P.stK ts)) HU6.o (fun ts hs => ⟨by rw [HKK.o ts hs]; rfl, fun h => P.Qd7 (by rw [HKK.o ts hs]; exact (by decide))⟩))
   go_wp2_with fail
   rw [← HW6.o]
   refine HCL.o.mono ?_
   rintro e w7 ⟨⟨tk0, hfr, rfl⟩, hu, hg⟩
   clear HCL
   have HC7 := J0.m (Co.step HC6.o hfr)
   have HU7 := J0.m hu
   have HR7 := J0.m (HR6.o.trans hg)
   have HX7 := J0.m (Qbb hg HX6.o NB3.o)
   have HY7 := J0.m (Qbb hg HY6.o NB2.o)
   clear hu hg hfr
   have HCL := J0.m (Qbw HG.o HU7.o)
   go_wp2_with fail
   refine HCL.o.mono ?_
   rintro e w8 ⟨⟨ta, hfr, rfl⟩, hu, hg⟩
   clear HCL
   have HC8 := J0.m ((HC7.o).name hfr)
   have HU8 := J0.m hu
   have HR8 := J0.m (HR7.o.trans hg)
   have HX8 := J0.m (Qbb hg HX7.o NB3.o)
   have HY8 := J0.m (Qbb hg HY7.o NB2.o)
   clear hu hg hfr
   have c0_8 := (Qaf HX8.o 0).trans rfl
   have f0_8 := Qaa HX8.o 0
   have c1_8 := (Qaf HX8.o 1).trans rfl
   have f1_8 := Qaa HX8.o 1
   obtain ⟨w9, hw⟩ : ∃ w9, w9 = w8.setCell ⟨b3, 1, none⟩ (.string ta.f1) := ⟨_, rfl⟩
   have HU9 := J0.m (show Up w9 A c L g _ from by rw [hw]; exact HU8.o.far GB3.o 1 _)
   have HR9 := J0.m (show w.grownBy w9 (some g) from by rw [hw]; exact Qa5 (g := g) HR8.o LB3.o 1 _)
   have HX9 := J0.m (show w9.heap[b3]? = some (.cells #[.int .i64 1, .string ta.f1, .string ⟨#[]⟩, .string ⟨#[]⟩, .string ⟨#[]⟩, .string ⟨#[]⟩, .slice none 0 0, .int .i64 p1] 62 (0, 0)) from by rw [hw]; exact (Qbu HX8.o _).trans (by rfl))
   have HY9 := J0.m (show w9.heap[b2]? = some zO8 from by rw [hw]; exact Qbq NB23.o HY8.o _)
   have HC9 := HC8
   have HW9 := J0.m hw
   clear hw
   have HC9 := J0.m (HC9.o.to (fun r _ => tail1 _ _ r))
   have HCL := J0.m (Qbo HG.o 58 HU9.o)
   go_wp2_with fail
   rw [← HW9.o]
   refine HCL.o.mono ?_
   rintro e w10 ⟨⟨tq1, hfr, rfl⟩, hu, hg⟩
   clear HCL
   have HC10 := J0.m ((HC9.o).mark hfr)
   have HU10 := J0.m hu
   have HR10 := J0.m (HR9.o.trans hg)
   have HX10 := J0.m (Qbb hg HX9.o NB3.o)
   have HY10 := J0.m (Qbb hg HY9.o NB2.o)
   clear hu hg hfr
   have HCL := J0.m (Qbw HG.o HU10.o)
   go_wp2_with fail
   refine HCL.o.mono ?_
   rintro e w11 ⟨⟨tb, hfr, rfl⟩, hu, hg⟩
   clear HCL
   have HC11 := J0.m ((HC10.o).name hfr)
   have HU11 := J0.m hu
   have HR11 := J0.m (HR10.o.trans hg)
   have HX11 := J0.m (Qbb hg HX10.o NB3.o)
   have HY11 := J0.m (Qbb hg HY10.o NB2.o)
   clear hu hg hfr
   have c5_11 := (Qaf HX11.o 5).trans rfl
   have f5_11 := Qaa HX11.o 5
   obtain ⟨w12, hw⟩ : ∃ w12, w12 = w11.setCell ⟨b3, 5, none⟩ (.string tb.f1) := ⟨_, rfl⟩
   have HU12 := J0.m (show Up w12 A c L g _ from by rw [hw]; exact HU11.o.far GB3.o 5 _)
   have HR12 := J0.m (show w.grownBy w12 (some g) from by rw [hw]; exact Qa5 (g := g) HR11.o LB3.o 5 _)
   have HX12 := J0.m (show w12.heap[b3]? = some (.cells #[.int .i64 1, .string ta.f1, .string ⟨#[]⟩, .string ⟨#[]⟩, .string ⟨#[]⟩, .string tb.f1, .slice none 0 0, .int .i64 p1] 62 (0, 0)) from by rw [hw]; exact (Qbu HX11.o _).trans (by rfl))
   have HY12 := J0.m (show w12.heap[b2]? = some zO8 from by rw [hw]; exact Qbq NB23.o HY11.o _)
   have HC12 := HC11
   have HW12 := J0.m hw
   clear hw
   have HIS := J0.m (Qfc 4 ⟨#[61]⟩ HU12.o)
   obtain ⟨bq, hbq⟩ : ∃ bq, bq = US.is 4 ⟨#[61]⟩ ((((s.step fun ts => P.want (decide (0 < P.stK ts)) ts).step P.Qdp).step (Qar 58)).step P.Qdp) := ⟨_, rfl⟩
   rw [← hbq] at HIS
   have HBQ := J0.m hbq
   clear hbq
   go_wp2_with fail
   rw [← HW12.o]
   refine HIS.o.mono ?_
   rintro e w13 ⟨rfl, hb⟩
   clear HIS
   have HC13 := HC12
   have HU13 := J0.m (HU12.o.below hb)
   have HR13 := J0.m (HR12.o.trans (Qaq hb _))
   have HX13 := J0.m (Qai HX12.o hb)
   have HY13 := J0.m (Qai HY12.o hb)
   clear hb
   cases bq with
   | true =>
    have HC13 := J0.m (HC13.o.to (k' := fun r => (Qar 61 r).bind fun _ r => (P.Qda r).bind fun v r => (Qar 59 r).bind fun _ r => .ok { P.stepOf 1 p1 ta.f1 with ty := tb.f1, val := v.ns } r) (fun r hr => eqTrue (f := fun r => (P.Qda r).bind fun v r => (Qar 59 r).bind fun _ r => .ok { P.stepOf 1 p1 ta.f1 with ty := tb.f1, val := v.ns } r) (HBQ.o.trans (by rw [hr]; rfl))))
    have HCL := J0.m (Qbo HG.o 61 HU13.o)
    go_wp2_with fail
    refine HCL.o.mono ?_
    rintro e w14 ⟨⟨tq2, hfr, rfl⟩, hu, hg⟩
    clear HCL
    have HC14 := J0.m ((HC13.o).mark hfr)
    have HU14 := J0.m hu
    have HR14 := J0.m (HR13.o.trans hg)
    have HX14 := J0.m (Qbb hg HX13.o NB3.o)
    have HY14 := J0.m (Qbb hg HY13.o NB2.o)
    clear hu hg hfr
    have c6_14 := (Qaf HX14.o 6).trans rfl
    have f6_14 := Qaa HX14.o 6
    have HCL := J0.m (Qg0 w14 A c L g _ HG.o HL.o HU14.o)
    go_wp2_with fail
    refine HCL.o.mono ?_
    rintro e w15 ⟨v, nsv, rfl, hrv, hnew, hu, hg, hval⟩
    clear HCL
    obtain ⟨Av, cv, hvv⟩ := Kd.Qc4 hrv
    subst hvv
    have HC15 := J0.m (Co.call (P := fun _ => True) (g' := fun r => (Qar 59 r).bind fun _ r => .ok { P.stepOf 1 p1 ta.f1 with ty := tb.f1, val := nsv } r) HC14.o (fun ts a r h1 h2 => by rw [hval ts a r h1 h2]))
    have HU15 := J0.m hu
    have HR15 := J0.m (HR14.o.trans hg)
    have HX15 := J0.m (Qbb hg HX14.o NB3.o)
    have HY15 := J0.m (Qbb hg HY14.o NB2.o)
    have HNEW : J0 (∀ k, (Value.slice Av nsv.length cv).ownBlock = some k → w.heap.size ≤ k) := ⟨fun k hk => Nat.le_trans HR14.o.size (hnew k hk)⟩
    have HNG : J0 ((Value.slice Av nsv.length cv).ownBlock = some g → False) := ⟨fun hk => by have := HNEW.o g hk; have := GB2.o; have := HB2.o; omega⟩
    have HN15 := J0.m hrv
    clear hu hg hval hnew hrv c6_14 f6_14
    have c6_15 := (Qaf HX15.o 6).trans rfl
    have f6_15 := Qaa HX15.o 6
    obtain ⟨w16, hw⟩ : ∃ w16, w16 = w15.setCell ⟨b3, 6, none⟩ (.slice Av nsv.length cv) := ⟨_, rfl⟩
    have HU16 := J0.m (show Up w16 A c L g _ from by rw [hw]; exact HU15.o.far GB3.o 6 _)
    have HR16 := J0.m (show w.grownBy w16 (some g) from by rw [hw]; exact Qa5 (g := g) HR15.o LB3.o 6 _)
    have HX16 := J0.m (show w16.heap[b3]? = some (.cells #[.int .i64 1, .string ta.f1, .string ⟨#[]⟩, .string ⟨#[]⟩, .string ⟨#[]⟩, .string tb.f1, .slice Av nsv.length cv, .int .i64 p1] 62 (0, 0)) from by rw [hw]; exact (Qbu HX15.o _).trans (by rfl))
    have HY16 := J0.m (show w16.heap[b2]? = some zO8 from by rw [hw]; exact Qbq NB23.o HY15.o _)
    have HC16 := HC15
    have HW16 := J0.m hw
    clear hw
    have HN16 := J0.m (show Kd.R kn 49 w16 g (fun _ => True) (.slice Av nsv.length cv) nsv from by rw [HW16.o]; exact Kd.R_set HN15.o HX15.o (by intro q hq; simp only [kn, Kd.iso, Kd.pair, Kd.int, Kd.string, Kd.scalar, List.append_nil, List.mem_singleton] at hq; rw [hq]; decide) 6 _)
    have HCL := J0.m (Qbo HG.o 59 HU16.o)
    go_wp2_with fail
    rw [← HW16.o]
    refine HCL.o.mono ?_
    rintro e w17 ⟨⟨tz, hfr, rfl⟩, hu, hg⟩
    clear HCL
    have HC17 := J0.m ((HC16.o).mark hfr)
    have HU17 := J0.m hu
    have HR17 := J0.m (HR16.o.trans hg)
    have HX17 := J0.m (Qbb hg HX16.o NB3.o)
    have HY17 := J0.m (Qbb hg HY16.o NB2.o)
    have hgz := hg
    clear hu hg hfr
    have HN17 := J0.m (Qma HN16.o (fun k hk => hgz.block k (Kd.R_lt HN16.o k hk) (fun e => by injection e with e; subst e; exact HNG.o hk)))
    obtain ⟨c0_17, c1_17, c2_17, c3_17, c4_17, c5_17, c6_17, c7_17⟩ := box8 HX17.o
    obtain ⟨y0, y1, y2, y3, y4, y5, y6, y7⟩ := box8 HY17.o
    obtain ⟨g0, g1, g2, g3, g4, g5, g6, g7⟩ := Qiv HY17.o
    go_wp2
    refine bodyPost_ret (Qb0 rfl _ _ b2 62 #[.int .i64 1, .string ta.f1, .string ⟨#[]⟩, .string ⟨#[]⟩, .string ⟨#[]⟩, .string tb.f1, .slice Av nsv.length cv, .int .i64 p1] (0, 0) _ rfl (set8 HY17.o) Try.underlying62 rfl (by kernel_rfl)) rfl ?_
    refine ⟨⟨1, ta.f1, ⟨#[]⟩, ⟨#[]⟩, ⟨#[]⟩, tb.f1, ⟨Av, nsv.length, cv⟩, p1⟩, nsv, rfl, rn8 HN17.o HY17.o, HNEW.o, ?_, Qf7 HR17.o LB2.o, fun ts d r h1 h2 => ?_⟩
    ·rw [← HFE.o _ (Co.Qfw HC17.o)]
     exact up8 HU17.o GB2.o
    ·have := Co.val HC17.o HF0.o ts d r h1 h2
     subst this
     exact ⟨rfl, rfl, rfl, rfl, rfl, rfl, rfl, rfl⟩
   | false =>
    have HC13 := J0.m (HC13.o.to (k' := fun r => (Qar 59 r).bind fun _ r => .ok { P.stepOf 1 p1 ta.f1 with ty := tb.f1 } r) (fun r hr => Qqi (HBQ.o.trans (by rw [hr]; rfl))))
    have HCL := J0.m (Qbo HG.o 59 HU13.o)
    go_wp2_with fail
    refine HCL.o.mono ?_
    rintro e w14 ⟨⟨tz, hfr, rfl⟩, hu, hg⟩
    clear HCL
    have HC14 := J0.m ((HC13.o).mark hfr)
    have HU14 := J0.m hu
    have HR14 := J0.m (HR13.o.trans hg)
    have HX14 := J0.m (Qbb hg HX13.o NB3.o)
    have HY14 := J0.m (Qbb hg HY13.o NB2.o)
    have hgz := hg
    clear hu hg hfr
    obtain ⟨c0_14, c1_14, c2_14, c3_14, c4_14, c5_14, c6_14, c7_14⟩ := box8 HX14.o
    obtain ⟨y0, y1, y2, y3, y4, y5, y6, y7⟩ := box8 HY14.o
    obtain ⟨g0, g1, g2, g3, g4, g5, g6, g7⟩ := Qiv HY14.o
    go_wp2
    refine bodyPost_ret (Qb0 rfl _ _ b2 62 #[.int .i64 1, .string ta.f1, .string ⟨#[]⟩, .string ⟨#[]⟩, .string ⟨#[]⟩, .string tb.f1, .slice none 0 0, .int .i64 p1] (0, 0) _ rfl (set8 HY14.o) Try.underlying62 rfl (by kernel_rfl)) rfl ?_
    refine ⟨⟨1, ta.f1, ⟨#[]⟩, ⟨#[]⟩, ⟨#[]⟩, tb.f1, ⟨none, 0, 0⟩, p1⟩, [], rfl, Kd.Qdq _ _ _ _ _, (fun k hk => by simp [Sl.v, Value.ownBlock] at hk), ?_, Qf7 HR14.o LB2.o, fun ts d r h1 h2 => ?_⟩
    ·rw [← HFE.o _ (Co.Qfw HC14.o)]
     exact up8 HU14.o GB2.o
    ·have := Co.val HC14.o HF0.o ts d r h1 h2
     subst this
     exact ⟨rfl, rfl, rfl, rfl, rfl, rfl, rfl, rfl⟩
  ·have HKK : J0 (∀ ts, s = .ok ts → P.stK ts = 2) := ⟨hkk⟩
   have HC5 := J0.m (HF0.o.to (fun r hr => Qeo (k := 2) (p := p1) (HKK.o r hr) (by rw [← HT1.o r hr])))
   clear hkk
   go_wp2_with fail
   refine HIX.o.mono ?_
   rintro e w6 ⟨rfl, hw6⟩
   rw [hw6]
   clear HIX hw6
   have HU6' := HU5
   obtain ⟨w6, hw⟩ : ∃ w6, w6 = w5.setCell ⟨b3, 0, none⟩ (.int .i64 2) := ⟨_, rfl⟩
   have HU6 := J0.m (show Up w6 A c L g _ from by rw [hw]; exact HU5.o.far GB3.o 0 _)
   have HR6 := J0.m (show w.grownBy w6 (some g) from by rw [hw]; exact Qa5 (g := g) HR5.o LB3.o 0 _)
   have HX6 := J0.m (show w6.heap[b3]? = some (.cells #[.int .i64 2, .string ⟨#[]⟩, .string ⟨#[]⟩, .string ⟨#[]⟩, .string ⟨#[]⟩, .string ⟨#[]⟩, .slice none 0 0, .int .i64 p1] 62 (0, 0)) from by rw [hw]; exact (Qbu HX5.o _).trans (by rfl))
   have HY6 := J0.m (show w6.heap[b2]? = some zO8 from by rw [hw]; exact Qbq NB23.o HY5.o _)
   have HC6 := HC5
   have HW6 := J0.m hw
   clear hw
   have c0_6 := (Qaf HX6.o 0).trans rfl
   have f0_6 := Qaa HX6.o 0
   have HCL := J0.m (Qc0 HG.o true (fun ts => decide (0 < P.stK ts)) HU6.o (fun ts hs => ⟨by rw [HKK.o ts hs]; rfl, fun h => P.Qd7 (by rw [HKK.o ts hs]; exact (by decide))⟩))
   go_wp2_with fail
   rw [← HW6.o]
   refine HCL.o.mono ?_
   rintro e w7 ⟨⟨tk0, hfr, rfl⟩, hu, hg⟩
   clear HCL
   have HC7 := J0.m (Co.step HC6.o hfr)
   have HU7 := J0.m hu
   have HR7 := J0.m (HR6.o.trans hg)
   have HX7 := J0.m (Qbb hg HX6.o NB3.o)
   have HY7 := J0.m (Qbb hg HY6.o NB2.o)
   clear hu hg hfr
   have HCL := J0.m (Qbw HG.o HU7.o)
   go_wp2_with fail
   refine HCL.o.mono ?_
   rintro e w8 ⟨⟨ta, hfr, rfl⟩, hu, hg⟩
   clear HCL
   have HC8 := J0.m ((HC7.o).name hfr)
   have HU8 := J0.m hu
   have HR8 := J0.m (HR7.o.trans hg)
   have HX8 := J0.m (Qbb hg HX7.o NB3.o)
   have HY8 := J0.m (Qbb hg HY7.o NB2.o)
   clear hu hg hfr
   have c0_8 := (Qaf HX8.o 0).trans rfl
   have f0_8 := Qaa HX8.o 0
   have c1_8 := (Qaf HX8.o 1).trans rfl
   have f1_8 := Qaa HX8.o 1
   obtain ⟨w9, hw⟩ : ∃ w9, w9 = w8.setCell ⟨b3, 1, none⟩ (.string ta.f1) := ⟨_, rfl⟩
   have HU9 := J0.m (show Up w9 A c L g _ from by rw [hw]; exact HU8.o.far GB3.o 1 _)
   have HR9 := J0.m (show w.grownBy w9 (some g) from by rw [hw]; exact Qa5 (g := g) HR8.o LB3.o 1 _)
   have HX9 := J0.m (show w9.heap[b3]? = some (.cells #[.int .i64 2, .string ta.f1, .string ⟨#[]⟩, .string ⟨#[]⟩, .string ⟨#[]⟩, .string ⟨#[]⟩, .slice none 0 0, .int .i64 p1] 62 (0, 0)) from by rw [hw]; exact (Qbu HX8.o _).trans (by rfl))
   have HY9 := J0.m (show w9.heap[b2]? = some zO8 from by rw [hw]; exact Qbq NB23.o HY8.o _)
   have HC9 := HC8
   have HW9 := J0.m hw
   clear hw
   have HC9 := J0.m (HC9.o.to (fun r _ => tail2 _ _ r))
   have HCL := J0.m (Qcz HG.o P.sTo HU9.o)
   go_wp2_with fail
   rw [← HW9.o]
   refine HCL.o.mono ?_
   rintro e w10 ⟨⟨tq1, hfr, rfl⟩, hu, hg⟩
   clear HCL
   have HC10 := J0.m ((HC9.o).word hfr)
   have HU10 := J0.m hu
   have HR10 := J0.m (HR9.o.trans hg)
   have HX10 := J0.m (Qbb hg HX9.o NB3.o)
   have HY10 := J0.m (Qbb hg HY9.o NB2.o)
   clear hu hg hfr
   have HCL := J0.m (Qbw HG.o HU10.o)
   go_wp2_with fail
   refine HCL.o.mono ?_
   rintro e w11 ⟨⟨tb, hfr, rfl⟩, hu, hg⟩
   clear HCL
   have HC11 := J0.m ((HC10.o).name hfr)
   have HU11 := J0.m hu
   have HR11 := J0.m (HR10.o.trans hg)
   have HX11 := J0.m (Qbb hg HX10.o NB3.o)
   have HY11 := J0.m (Qbb hg HY10.o NB2.o)
   clear hu hg hfr
   have c2_11 := (Qaf HX11.o 2).trans rfl
   have f2_11 := Qaa HX11.o 2
   obtain ⟨w12, hw⟩ : ∃ w12, w12 = w11.setCell ⟨b3, 2, none⟩ (.string tb.f1) := ⟨_, rfl⟩
   have HU12 := J0.m (show Up w12 A c L g _ from by rw [hw]; exact HU11.o.far GB3.o 2 _)
   have HR12 := J0.m (show w.grownBy w12 (some g) from by rw [hw]; exact Qa5 (g := g) HR11.o LB3.o 2 _)
   have HX12 := J0.m (show w12.heap[b3]? = some (.cells #[.int .i64 2, .string ta.f1, .string tb.f1, .string ⟨#[]⟩, .string ⟨#[]⟩, .string ⟨#[]⟩, .slice none 0 0, .int .i64 p1] 62 (0, 0)) from by rw [hw]; exact (Qbu HX11.o _).trans (by rfl))
   have HY12 := J0.m (show w12.heap[b2]? = some zO8 from by rw [hw]; exact Qbq NB23.o HY11.o _)
   have HC12 := HC11
   have HW12 := J0.m hw
   clear hw
   have HCL := J0.m (Qbo HG.o 59 HU12.o)
   go_wp2_with fail
   rw [← HW12.o]
   refine HCL.o.mono ?_
   rintro e w13 ⟨⟨tz, hfr, rfl⟩, hu, hg⟩
   clear HCL
   have HC13 := J0.m ((HC12.o).mark hfr)
   have HU13 := J0.m hu
   have HR13 := J0.m (HR12.o.trans hg)
   have HX13 := J0.m (Qbb hg HX12.o NB3.o)
   have HY13 := J0.m (Qbb hg HY12.o NB2.o)
   have hgz := hg
   clear hu hg hfr
   obtain ⟨c0_13, c1_13, c2_13, c3_13, c4_13, c5_13, c6_13, c7_13⟩ := box8 HX13.o
   obtain ⟨y0, y1, y2, y3, y4, y5, y6, y7⟩ := box8 HY13.o
   obtain ⟨g0, g1, g2, g3, g4, g5, g6, g7⟩ := Qiv HY13.o
   go_wp2
   refine bodyPost_ret (Qb0 rfl _ _ b2 62 #[.int .i64 2, .string ta.f1, .string tb.f1, .string ⟨#[]⟩, .string ⟨#[]⟩, .string ⟨#[]⟩, .slice none 0 0, .int .i64 p1] (0, 0) _ rfl (set8 HY13.o) Try.underlying62 rfl (by kernel_rfl)) rfl ?_
   refine ⟨⟨2, ta.f1, tb.f1, ⟨#[]⟩, ⟨#[]⟩, ⟨#[]⟩, ⟨none, 0, 0⟩, p1⟩, [], rfl, Kd.Qdq _ _ _ _ _, (fun k hk => by simp [Sl.v, Value.ownBlock] at hk), ?_, Qf7 HR13.o LB2.o, fun ts d r h1 h2 => ?_⟩
   ·rw [← HFE.o _ (Co.Qfw HC13.o)]
    exact up8 HU13.o GB2.o
   ·have := Co.val HC13.o HF0.o ts d r h1 h2
    subst this
    exact ⟨rfl, rfl, rfl, rfl, rfl, rfl, rfl, rfl⟩
  ·have HKK : J0 (∀ ts, s = .ok ts → P.stK ts = 3) := ⟨hkk⟩
   have HC5 := J0.m (HF0.o.to (fun r hr => Qeo (k := 3) (p := p1) (HKK.o r hr) (by rw [← HT1.o r hr])))
   clear hkk
   go_wp2_with fail
   refine HIX.o.mono ?_
   rintro e w6 ⟨rfl, hw6⟩
   rw [hw6]
   clear HIX hw6
   have HU6' := HU5
   obtain ⟨w6, hw⟩ : ∃ w6, w6 = w5.setCell ⟨b3, 0, none⟩ (.int .i64 3) := ⟨_, rfl⟩
   have HU6 := J0.m (show Up w6 A c L g _ from by rw [hw]; exact HU5.o.far GB3.o 0 _)
   have HR6 := J0.m (show w.grownBy w6 (some g) from by rw [hw]; exact Qa5 (g := g) HR5.o LB3.o 0 _)
   have HX6 := J0.m (show w6.heap[b3]? = some (.cells #[.int .i64 3, .string ⟨#[]⟩, .string ⟨#[]⟩, .string ⟨#[]⟩, .string ⟨#[]⟩, .string ⟨#[]⟩, .slice none 0 0, .int .i64 p1] 62 (0, 0)) from by rw [hw]; exact (Qbu HX5.o _).trans (by rfl))
   have HY6 := J0.m (show w6.heap[b2]? = some zO8 from by rw [hw]; exact Qbq NB23.o HY5.o _)
   have HC6 := HC5
   have HW6 := J0.m hw
   clear hw
   have c0_6 := (Qaf HX6.o 0).trans rfl
   have f0_6 := Qaa HX6.o 0
   have HCL := J0.m (Qc0 HG.o true (fun ts => decide (0 < P.stK ts)) HU6.o (fun ts hs => ⟨by rw [HKK.o ts hs]; rfl, fun h => P.Qd7 (by rw [HKK.o ts hs]; exact (by decide))⟩))
   go_wp2_with fail
   rw [← HW6.o]
   refine HCL.o.mono ?_
   rintro e w7 ⟨⟨tk0, hfr, rfl⟩, hu, hg⟩
   clear HCL
   have HC7 := J0.m (Co.step HC6.o hfr)
   have HU7 := J0.m hu
   have HR7 := J0.m (HR6.o.trans hg)
   have HX7 := J0.m (Qbb hg HX6.o NB3.o)
   have HY7 := J0.m (Qbb hg HY6.o NB2.o)
   clear hu hg hfr
   have HCL := J0.m (Qbw HG.o HU7.o)
   go_wp2_with fail
   refine HCL.o.mono ?_
   rintro e w8 ⟨⟨ta, hfr, rfl⟩, hu, hg⟩
   clear HCL
   have HC8 := J0.m ((HC7.o).name hfr)
   have HU8 := J0.m hu
   have HR8 := J0.m (HR7.o.trans hg)
   have HX8 := J0.m (Qbb hg HX7.o NB3.o)
   have HY8 := J0.m (Qbb hg HY7.o NB2.o)
   clear hu hg hfr
   have c0_8 := (Qaf HX8.o 0).trans rfl
   have f0_8 := Qaa HX8.o 0
   have c1_8 := (Qaf HX8.o 1).trans rfl
   have f1_8 := Qaa HX8.o 1
   obtain ⟨w9, hw⟩ : ∃ w9, w9 = w8.setCell ⟨b3, 1, none⟩ (.string ta.f1) := ⟨_, rfl⟩
   have HU9 := J0.m (show Up w9 A c L g _ from by rw [hw]; exact HU8.o.far GB3.o 1 _)
   have HR9 := J0.m (show w.grownBy w9 (some g) from by rw [hw]; exact Qa5 (g := g) HR8.o LB3.o 1 _)
   have HX9 := J0.m (show w9.heap[b3]? = some (.cells #[.int .i64 3, .string ta.f1, .string ⟨#[]⟩, .string ⟨#[]⟩, .string ⟨#[]⟩, .string ⟨#[]⟩, .slice none 0 0, .int .i64 p1] 62 (0, 0)) from by rw [hw]; exact (Qbu HX8.o _).trans (by rfl))
   have HY9 := J0.m (show w9.heap[b2]? = some zO8 from by rw [hw]; exact Qbq NB23.o HY8.o _)
   have HC9 := HC8
   have HW9 := J0.m hw
   clear hw
   have HC9 := J0.m (HC9.o.to (fun r _ => tail3 _ _ r))
   have HCL := J0.m (Qcz HG.o P.sAt HU9.o)
   go_wp2_with fail
   rw [← HW9.o]
   refine HCL.o.mono ?_
   rintro e w10 ⟨⟨tq1, hfr, rfl⟩, hu, hg⟩
   clear HCL
   have HC10 := J0.m ((HC9.o).word hfr)
   have HU10 := J0.m hu
   have HR10 := J0.m (HR9.o.trans hg)
   have HX10 := J0.m (Qbb hg HX9.o NB3.o)
   have HY10 := J0.m (Qbb hg HY9.o NB2.o)
   clear hu hg hfr
   have HCL := J0.m (Qfu HG.o HU10.o)
   go_wp2_with fail
   refine HCL.o.mono ?_
   rintro e w11 ⟨⟨tx, hfr, rfl⟩, hu, hg⟩
   clear HCL
   have HC11 := J0.m ((HC10.o).text hfr)
   have HU11 := J0.m hu
   have HR11 := J0.m (HR10.o.trans hg)
   have HX11 := J0.m (Qbb hg HX10.o NB3.o)
   have HY11 := J0.m (Qbb hg HY10.o NB2.o)
   clear hu hg hfr
   have c4_11 := (Qaf HX11.o 4).trans rfl
   have f4_11 := Qaa HX11.o 4
   obtain ⟨w12, hw⟩ : ∃ w12, w12 = w11.setCell ⟨b3, 4, none⟩ (.string tx.f1) := ⟨_, rfl⟩
   have HU12 := J0.m (show Up w12 A c L g _ from by rw [hw]; exact HU11.o.far GB3.o 4 _)
   have HR12 := J0.m (show w.grownBy w12 (some g) from by rw [hw]; exact Qa5 (g := g) HR11.o LB3.o 4 _)
   have HX12 := J0.m (show w12.heap[b3]? = some (.cells #[.int .i64 3, .string ta.f1, .string ⟨#[]⟩, .string ⟨#[]⟩, .string tx.f1, .string ⟨#[]⟩, .slice none 0 0, .int .i64 p1] 62 (0, 0)) from by rw [hw]; exact (Qbu HX11.o _).trans (by rfl))
   have HY12 := J0.m (show w12.heap[b2]? = some zO8 from by rw [hw]; exact Qbq NB23.o HY11.o _)
   have HC12 := HC11
   have HW12 := J0.m hw
   clear hw
   have HCL := J0.m (Qcz HG.o P.Qll HU12.o)
   go_wp2_with fail
   rw [← HW12.o]
   refine HCL.o.mono ?_
   rintro e w13 ⟨⟨tq2, hfr, rfl⟩, hu, hg⟩
   clear HCL
   have HC13 := J0.m ((HC12.o).word hfr)
   have HU13 := J0.m hu
   have HR13 := J0.m (HR12.o.trans hg)
   have HX13 := J0.m (Qbb hg HX12.o NB3.o)
   have HY13 := J0.m (Qbb hg HY12.o NB2.o)
   clear hu hg hfr
   have HCL := J0.m (Qbw HG.o HU13.o)
   go_wp2_with fail
   refine HCL.o.mono ?_
   rintro e w14 ⟨⟨tb, hfr, rfl⟩, hu, hg⟩
   clear HCL
   have HC14 := J0.m ((HC13.o).name hfr)
   have HU14 := J0.m hu
   have HR14 := J0.m (HR13.o.trans hg)
   have HX14 := J0.m (Qbb hg HX13.o NB3.o)
   have HY14 := J0.m (Qbb hg HY13.o NB2.o)
   clear hu hg hfr
   have c2_14 := (Qaf HX14.o 2).trans rfl
   have f2_14 := Qaa HX14.o 2
   obtain ⟨w15, hw⟩ : ∃ w15, w15 = w14.setCell ⟨b3, 2, none⟩ (.string tb.f1) := ⟨_, rfl⟩
   have HU15 := J0.m (show Up w15 A c L g _ from by rw [hw]; exact HU14.o.far GB3.o 2 _)
   have HR15 := J0.m (show w.grownBy w15 (some g) from by rw [hw]; exact Qa5 (g := g) HR14.o LB3.o 2 _)
   have HX15 := J0.m (show w15.heap[b3]? = some (.cells #[.int .i64 3, .string ta.f1, .string tb.f1, .string ⟨#[]⟩, .string tx.f1, .string ⟨#[]⟩, .slice none 0 0, .int .i64 p1] 62 (0, 0)) from by rw [hw]; exact (Qbu HX14.o _).trans (by rfl))
   have HY15 := J0.m (show w15.heap[b2]? = some zO8 from by rw [hw]; exact Qbq NB23.o HY14.o _)
   have HC15 := HC14
   have HW15 := J0.m hw
   clear hw
   have HCL := J0.m (Qbo HG.o 44 HU15.o)
   go_wp2_with fail
   rw [← HW15.o]
   refine HCL.o.mono ?_
   rintro e w16 ⟨⟨tq3, hfr, rfl⟩, hu, hg⟩
   clear HCL
   have HC16 := J0.m ((HC15.o).mark hfr)
   have HU16 := J0.m hu
   have HR16 := J0.m (HR15.o.trans hg)
   have HX16 := J0.m (Qbb hg HX15.o NB3.o)
   have HY16 := J0.m (Qbb hg HY15.o NB2.o)
   clear hu hg hfr
   have HCL := J0.m (Qbw HG.o HU16.o)
   go_wp2_with fail
   refine HCL.o.mono ?_
   rintro e w17 ⟨⟨tc, hfr, rfl⟩, hu, hg⟩
   clear HCL
   have HC17 := J0.m ((HC16.o).name hfr)
   have HU17 := J0.m hu
   have HR17 := J0.m (HR16.o.trans hg)
   have HX17 := J0.m (Qbb hg HX16.o NB3.o)
   have HY17 := J0.m (Qbb hg HY16.o NB2.o)
   clear hu hg hfr
   have c3_17 := (Qaf HX17.o 3).trans rfl
   have f3_17 := Qaa HX17.o 3
   obtain ⟨w18, hw⟩ : ∃ w18, w18 = w17.setCell ⟨b3, 3, none⟩ (.string tc.f1) := ⟨_, rfl⟩
   have HU18 := J0.m (show Up w18 A c L g _ from by rw [hw]; exact HU17.o.far GB3.o 3 _)
   have HR18 := J0.m (show w.grownBy w18 (some g) from by rw [hw]; exact Qa5 (g := g) HR17.o LB3.o 3 _)
   have HX18 := J0.m (show w18.heap[b3]? = some (.cells #[.int .i64 3, .string ta.f1, .string tb.f1, .string tc.f1, .string tx.f1, .string ⟨#[]⟩, .slice none 0 0, .int .i64 p1] 62 (0, 0)) from by rw [hw]; exact (Qbu HX17.o _).trans (by rfl))
   have HY18 := J0.m (show w18.heap[b2]? = some zO8 from by rw [hw]; exact Qbq NB23.o HY17.o _)
   have HC18 := HC17
   have HW18 := J0.m hw
   clear hw
   have HCL := J0.m (Qbo HG.o 59 HU18.o)
   go_wp2_with fail
   rw [← HW18.o]
   refine HCL.o.mono ?_
   rintro e w19 ⟨⟨tz, hfr, rfl⟩, hu, hg⟩
   clear HCL
   have HC19 := J0.m ((HC18.o).mark hfr)
   have HU19 := J0.m hu
   have HR19 := J0.m (HR18.o.trans hg)
   have HX19 := J0.m (Qbb hg HX18.o NB3.o)
   have HY19 := J0.m (Qbb hg HY18.o NB2.o)
   have hgz := hg
   clear hu hg hfr
   obtain ⟨c0_19, c1_19, c2_19, c3_19, c4_19, c5_19, c6_19, c7_19⟩ := box8 HX19.o
   obtain ⟨y0, y1, y2, y3, y4, y5, y6, y7⟩ := box8 HY19.o
   obtain ⟨g0, g1, g2, g3, g4, g5, g6, g7⟩ := Qiv HY19.o
   go_wp2
   refine bodyPost_ret (Qb0 rfl _ _ b2 62 #[.int .i64 3, .string ta.f1, .string tb.f1, .string tc.f1, .string tx.f1, .string ⟨#[]⟩, .slice none 0 0, .int .i64 p1] (0, 0) _ rfl (set8 HY19.o) Try.underlying62 rfl (by kernel_rfl)) rfl ?_
   refine ⟨⟨3, ta.f1, tb.f1, tc.f1, tx.f1, ⟨#[]⟩, ⟨none, 0, 0⟩, p1⟩, [], rfl, Kd.Qdq _ _ _ _ _, (fun k hk => by simp [Sl.v, Value.ownBlock] at hk), ?_, Qf7 HR19.o LB2.o, fun ts d r h1 h2 => ?_⟩
   ·rw [← HFE.o _ (Co.Qfw HC19.o)]
    exact up8 HU19.o GB2.o
   ·have := Co.val HC19.o HF0.o ts d r h1 h2
    subst this
    exact ⟨rfl, rfl, rfl, rfl, rfl, rfl, rfl, rfl⟩
  ·have HKK : J0 (∀ ts, s = .ok ts → P.stK ts = 4) := ⟨hkk⟩
   have HC5 := J0.m (HF0.o.to (fun r hr => Qeo (k := 4) (p := p1) (HKK.o r hr) (by rw [← HT1.o r hr])))
   clear hkk
   go_wp2_with fail
   refine HIX.o.mono ?_
   rintro e w6 ⟨rfl, hw6⟩
   rw [hw6]
   clear HIX hw6
   have HU6' := HU5
   obtain ⟨w6, hw⟩ : ∃ w6, w6 = w5.setCell ⟨b3, 0, none⟩ (.int .i64 4) := ⟨_, rfl⟩
   have HU6 := J0.m (show Up w6 A c L g _ from by rw [hw]; exact HU5.o.far GB3.o 0 _)
   have HR6 := J0.m (show w.grownBy w6 (some g) from by rw [hw]; exact Qa5 (g := g) HR5.o LB3.o 0 _)
   have HX6 := J0.m (show w6.heap[b3]? = some (.cells #[.int .i64 4, .string ⟨#[]⟩, .string ⟨#[]⟩, .string ⟨#[]⟩, .string ⟨#[]⟩, .string ⟨#[]⟩, .slice none 0 0, .int .i64 p1] 62 (0, 0)) from by rw [hw]; exact (Qbu HX5.o _).trans (by rfl))
   have HY6 := J0.m (show w6.heap[b2]? = some zO8 from by rw [hw]; exact Qbq NB23.o HY5.o _)
   have HC6 := HC5
   have HW6 := J0.m hw
   clear hw
   have c0_6 := (Qaf HX6.o 0).trans rfl
   have f0_6 := Qaa HX6.o 0
   have HCL := J0.m (Qc0 HG.o true (fun ts => decide (0 < P.stK ts)) HU6.o (fun ts hs => ⟨by rw [HKK.o ts hs]; rfl, fun h => P.Qd7 (by rw [HKK.o ts hs]; exact (by decide))⟩))
   go_wp2_with fail
   rw [← HW6.o]
   refine HCL.o.mono ?_
   rintro e w7 ⟨⟨tk0, hfr, rfl⟩, hu, hg⟩
   clear HCL
   have HC7 := J0.m (Co.step HC6.o hfr)
   have HU7 := J0.m hu
   have HR7 := J0.m (HR6.o.trans hg)
   have HX7 := J0.m (Qbb hg HX6.o NB3.o)
   have HY7 := J0.m (Qbb hg HY6.o NB2.o)
   clear hu hg hfr
   have HCL := J0.m (Qbw HG.o HU7.o)
   go_wp2_with fail
   refine HCL.o.mono ?_
   rintro e w8 ⟨⟨ta, hfr, rfl⟩, hu, hg⟩
   clear HCL
   have HC8 := J0.m ((HC7.o).name hfr)
   have HU8 := J0.m hu
   have HR8 := J0.m (HR7.o.trans hg)
   have HX8 := J0.m (Qbb hg HX7.o NB3.o)
   have HY8 := J0.m (Qbb hg HY7.o NB2.o)
   clear hu hg hfr
   have c0_8 := (Qaf HX8.o 0).trans rfl
   have f0_8 := Qaa HX8.o 0
   have c1_8 := (Qaf HX8.o 1).trans rfl
   have f1_8 := Qaa HX8.o 1
   obtain ⟨w9, hw⟩ : ∃ w9, w9 = w8.setCell ⟨b3, 1, none⟩ (.string ta.f1) := ⟨_, rfl⟩
   have HU9 := J0.m (show Up w9 A c L g _ from by rw [hw]; exact HU8.o.far GB3.o 1 _)
   have HR9 := J0.m (show w.grownBy w9 (some g) from by rw [hw]; exact Qa5 (g := g) HR8.o LB3.o 1 _)
   have HX9 := J0.m (show w9.heap[b3]? = some (.cells #[.int .i64 4, .string ta.f1, .string ⟨#[]⟩, .string ⟨#[]⟩, .string ⟨#[]⟩, .string ⟨#[]⟩, .slice none 0 0, .int .i64 p1] 62 (0, 0)) from by rw [hw]; exact (Qbu HX8.o _).trans (by rfl))
   have HY9 := J0.m (show w9.heap[b2]? = some zO8 from by rw [hw]; exact Qbq NB23.o HY8.o _)
   have HC9 := HC8
   have HW9 := J0.m hw
   clear hw
   have HC9 := J0.m (HC9.o.to (fun r _ => tail4 _ _ r))
   have HCL := J0.m (Qbo HG.o 44 HU9.o)
   go_wp2_with fail
   rw [← HW9.o]
   refine HCL.o.mono ?_
   rintro e w10 ⟨⟨tq1, hfr, rfl⟩, hu, hg⟩
   clear HCL
   have HC10 := J0.m ((HC9.o).mark hfr)
   have HU10 := J0.m hu
   have HR10 := J0.m (HR9.o.trans hg)
   have HX10 := J0.m (Qbb hg HX9.o NB3.o)
   have HY10 := J0.m (Qbb hg HY9.o NB2.o)
   clear hu hg hfr
   have HCL := J0.m (Qbw HG.o HU10.o)
   go_wp2_with fail
   refine HCL.o.mono ?_
   rintro e w11 ⟨⟨tb, hfr, rfl⟩, hu, hg⟩
   clear HCL
   have HC11 := J0.m ((HC10.o).name hfr)
   have HU11 := J0.m hu
   have HR11 := J0.m (HR10.o.trans hg)
   have HX11 := J0.m (Qbb hg HX10.o NB3.o)
   have HY11 := J0.m (Qbb hg HY10.o NB2.o)
   clear hu hg hfr
   have c2_11 := (Qaf HX11.o 2).trans rfl
   have f2_11 := Qaa HX11.o 2
   obtain ⟨w12, hw⟩ : ∃ w12, w12 = w11.setCell ⟨b3, 2, none⟩ (.string tb.f1) := ⟨_, rfl⟩
   have HU12 := J0.m (show Up w12 A c L g _ from by rw [hw]; exact HU11.o.far GB3.o 2 _)
   have HR12 := J0.m (show w.grownBy w12 (some g) from by rw [hw]; exact Qa5 (g := g) HR11.o LB3.o 2 _)
   have HX12 := J0.m (show w12.heap[b3]? = some (.cells #[.int .i64 4, .string ta.f1, .string tb.f1, .string ⟨#[]⟩, .string ⟨#[]⟩, .string ⟨#[]⟩, .slice none 0 0, .int .i64 p1] 62 (0, 0)) from by rw [hw]; exact (Qbu HX11.o _).trans (by rfl))
   have HY12 := J0.m (show w12.heap[b2]? = some zO8 from by rw [hw]; exact Qbq NB23.o HY11.o _)
   have HC12 := HC11
   have HW12 := J0.m hw
   clear hw
   have HCL := J0.m (Qcz HG.o P.Qpp HU12.o)
   go_wp2_with fail
   rw [← HW12.o]
   refine HCL.o.mono ?_
   rintro e w13 ⟨⟨tq2, hfr, rfl⟩, hu, hg⟩
   clear HCL
   have HC13 := J0.m ((HC12.o).word hfr)
   have HU13 := J0.m hu
   have HR13 := J0.m (HR12.o.trans hg)
   have HX13 := J0.m (Qbb hg HX12.o NB3.o)
   have HY13 := J0.m (Qbb hg HY12.o NB2.o)
   clear hu hg hfr
   have HCL := J0.m (Qfu HG.o HU13.o)
   go_wp2_with fail
   refine HCL.o.mono ?_
   rintro e w14 ⟨⟨tx, hfr, rfl⟩, hu, hg⟩
   clear HCL
   have HC14 := J0.m ((HC13.o).text hfr)
   have HU14 := J0.m hu
   have HR14 := J0.m (HR13.o.trans hg)
   have HX14 := J0.m (Qbb hg HX13.o NB3.o)
   have HY14 := J0.m (Qbb hg HY13.o NB2.o)
   clear hu hg hfr
   have c4_14 := (Qaf HX14.o 4).trans rfl
   have f4_14 := Qaa HX14.o 4
   obtain ⟨w15, hw⟩ : ∃ w15, w15 = w14.setCell ⟨b3, 4, none⟩ (.string tx.f1) := ⟨_, rfl⟩
   have HU15 := J0.m (show Up w15 A c L g _ from by rw [hw]; exact HU14.o.far GB3.o 4 _)
   have HR15 := J0.m (show w.grownBy w15 (some g) from by rw [hw]; exact Qa5 (g := g) HR14.o LB3.o 4 _)
   have HX15 := J0.m (show w15.heap[b3]? = some (.cells #[.int .i64 4, .string ta.f1, .string tb.f1, .string ⟨#[]⟩, .string tx.f1, .string ⟨#[]⟩, .slice none 0 0, .int .i64 p1] 62 (0, 0)) from by rw [hw]; exact (Qbu HX14.o _).trans (by rfl))
   have HY15 := J0.m (show w15.heap[b2]? = some zO8 from by rw [hw]; exact Qbq NB23.o HY14.o _)
   have HC15 := HC14
   have HW15 := J0.m hw
   clear hw
   have HCL := J0.m (Qcz HG.o P.Qll HU15.o)
   go_wp2_with fail
   rw [← HW15.o]
   refine HCL.o.mono ?_
   rintro e w16 ⟨⟨tq3, hfr, rfl⟩, hu, hg⟩
   clear HCL
   have HC16 := J0.m ((HC15.o).word hfr)
   have HU16 := J0.m hu
   have HR16 := J0.m (HR15.o.trans hg)
   have HX16 := J0.m (Qbb hg HX15.o NB3.o)
   have HY16 := J0.m (Qbb hg HY15.o NB2.o)
   clear hu hg hfr
   have HCL := J0.m (Qbw HG.o HU16.o)
   go_wp2_with fail
   refine HCL.o.mono ?_
   rintro e w17 ⟨⟨tc, hfr, rfl⟩, hu, hg⟩
   clear HCL
   have HC17 := J0.m ((HC16.o).name hfr)
   have HU17 := J0.m hu
   have HR17 := J0.m (HR16.o.trans hg)
   have HX17 := J0.m (Qbb hg HX16.o NB3.o)
   have HY17 := J0.m (Qbb hg HY16.o NB2.o)
   clear hu hg hfr
   have c3_17 := (Qaf HX17.o 3).trans rfl
   have f3_17 := Qaa HX17.o 3
   obtain ⟨w18, hw⟩ : ∃ w18, w18 = w17.setCell ⟨b3, 3, none⟩ (.string tc.f1) := ⟨_, rfl⟩
   have HU18 := J0.m (show Up w18 A c L g _ from by rw [hw]; exact HU17.o.far GB3.o 3 _)
   have HR18 := J0.m (show w.grownBy w18 (some g) from by rw [hw]; exact Qa5 (g := g) HR17.o LB3.o 3 _)
   have HX18 := J0.m (show w18.heap[b3]? = some (.cells #[.int .i64 4, .string ta.f1, .string tb.f1, .string tc.f1, .string tx.f1, .string ⟨#[]⟩, .slice none 0 0, .int .i64 p1] 62 (0, 0)) from by rw [hw]; exact (Qbu HX17.o _).trans (by rfl))
   have HY18 := J0.m (show w18.heap[b2]? = some zO8 from by rw [hw]; exact Qbq NB23.o HY17.o _)
   have HC18 := HC17
   have HW18 := J0.m hw
   clear hw
   have HCL := J0.m (Qbo HG.o 59 HU18.o)
   go_wp2_with fail
   rw [← HW18.o]
   refine HCL.o.mono ?_
   rintro e w19 ⟨⟨tz, hfr, rfl⟩, hu, hg⟩
   clear HCL
   have HC19 := J0.m ((HC18.o).mark hfr)
   have HU19 := J0.m hu
   have HR19 := J0.m (HR18.o.trans hg)
   have HX19 := J0.m (Qbb hg HX18.o NB3.o)
   have HY19 := J0.m (Qbb hg HY18.o NB2.o)
   have hgz := hg
   clear hu hg hfr
   obtain ⟨c0_19, c1_19, c2_19, c3_19, c4_19, c5_19, c6_19, c7_19⟩ := box8 HX19.o
   obtain ⟨y0, y1, y2, y3, y4, y5, y6, y7⟩ := box8 HY19.o
   obtain ⟨g0, g1, g2, g3, g4, g5, g6, g7⟩ := Qiv HY19.o
   go_wp2
   refine bodyPost_ret (Qb0 rfl _ _ b2 62 #[.int .i64 4, .string ta.f1, .string tb.f1, .string tc.f1, .string tx.f1, .string ⟨#[]⟩, .slice none 0 0, .int .i64 p1] (0, 0) _ rfl (set8 HY19.o) Try.underlying62 rfl (by kernel_rfl)) rfl ?_
   refine ⟨⟨4, ta.f1, tb.f1, tc.f1, tx.f1, ⟨#[]⟩, ⟨none, 0, 0⟩, p1⟩, [], rfl, Kd.Qdq _ _ _ _ _, (fun k hk => by simp [Sl.v, Value.ownBlock] at hk), ?_, Qf7 HR19.o LB2.o, fun ts d r h1 h2 => ?_⟩
   ·rw [← HFE.o _ (Co.Qfw HC19.o)]
    exact up8 HU19.o GB2.o
   ·have := Co.val HC19.o HF0.o ts d r h1 h2
    subst this
    exact ⟨rfl, rfl, rfl, rfl, rfl, rfl, rfl, rfl⟩
  ·have HKK : J0 (∀ ts, s = .ok ts → P.stK ts = 5) := ⟨hkk⟩
   have HC5 := J0.m (HF0.o.to (fun r hr => Qeo (k := 5) (p := p1) (HKK.o r hr) (by rw [← HT1.o r hr])))
   clear hkk
   go_wp2_with fail
   refine HIX.o.mono ?_
   rintro e w6 ⟨rfl, hw6⟩
   rw [hw6]
   clear HIX hw6
   have HU6' := HU5
   obtain ⟨w6, hw⟩ : ∃ w6, w6 = w5.setCell ⟨b3, 0, none⟩ (.int .i64 5) := ⟨_, rfl⟩
   have HU6 := J0.m (show Up w6 A c L g _ from by rw [hw]; exact HU5.o.far GB3.o 0 _)
   have HR6 := J0.m (show w.grownBy w6 (some g) from by rw [hw]; exact Qa5 (g := g) HR5.o LB3.o 0 _)
   have HX6 := J0.m (show w6.heap[b3]? = some (.cells #[.int .i64 5, .string ⟨#[]⟩, .string ⟨#[]⟩, .string ⟨#[]⟩, .string ⟨#[]⟩, .string ⟨#[]⟩, .slice none 0 0, .int .i64 p1] 62 (0, 0)) from by rw [hw]; exact (Qbu HX5.o _).trans (by rfl))
   have HY6 := J0.m (show w6.heap[b2]? = some zO8 from by rw [hw]; exact Qbq NB23.o HY5.o _)
   have HC6 := HC5
   have HW6 := J0.m hw
   clear hw
   have c0_6 := (Qaf HX6.o 0).trans rfl
   have f0_6 := Qaa HX6.o 0
   have HCL := J0.m (Qc0 HG.o true (fun ts => decide (0 < P.stK ts)) HU6.o (fun ts hs => ⟨by rw [HKK.o ts hs]; rfl, fun h => P.Qd7 (by rw [HKK.o ts hs]; exact (by decide))⟩))
   go_wp2_with fail
   rw [← HW6.o]
   refine HCL.o.mono ?_
   rintro e w7 ⟨⟨tk0, hfr, rfl⟩, hu, hg⟩
   clear HCL
   have HC7 := J0.m (Co.step HC6.o hfr)
   have HU7 := J0.m hu
   have HR7 := J0.m (HR6.o.trans hg)
   have HX7 := J0.m (Qbb hg HX6.o NB3.o)
   have HY7 := J0.m (Qbb hg HY6.o NB2.o)
   clear hu hg hfr
   have HCL := J0.m (Qbw HG.o HU7.o)
   go_wp2_with fail
   refine HCL.o.mono ?_
   rintro e w8 ⟨⟨ta, hfr, rfl⟩, hu, hg⟩
   clear HCL
   have HC8 := J0.m ((HC7.o).name hfr)
   have HU8 := J0.m hu
   have HR8 := J0.m (HR7.o.trans hg)
   have HX8 := J0.m (Qbb hg HX7.o NB3.o)
   have HY8 := J0.m (Qbb hg HY7.o NB2.o)
   clear hu hg hfr
   have c0_8 := (Qaf HX8.o 0).trans rfl
   have f0_8 := Qaa HX8.o 0
   have c1_8 := (Qaf HX8.o 1).trans rfl
   have f1_8 := Qaa HX8.o 1
   obtain ⟨w9, hw⟩ : ∃ w9, w9 = w8.setCell ⟨b3, 1, none⟩ (.string ta.f1) := ⟨_, rfl⟩
   have HU9 := J0.m (show Up w9 A c L g _ from by rw [hw]; exact HU8.o.far GB3.o 1 _)
   have HR9 := J0.m (show w.grownBy w9 (some g) from by rw [hw]; exact Qa5 (g := g) HR8.o LB3.o 1 _)
   have HX9 := J0.m (show w9.heap[b3]? = some (.cells #[.int .i64 5, .string ta.f1, .string ⟨#[]⟩, .string ⟨#[]⟩, .string ⟨#[]⟩, .string ⟨#[]⟩, .slice none 0 0, .int .i64 p1] 62 (0, 0)) from by rw [hw]; exact (Qbu HX8.o _).trans (by rfl))
   have HY9 := J0.m (show w9.heap[b2]? = some zO8 from by rw [hw]; exact Qbq NB23.o HY8.o _)
   have HC9 := HC8
   have HW9 := J0.m hw
   clear hw
   have HC9 := J0.m (HC9.o.to (fun r _ => tail5 _ _ r))
   have HCL := J0.m (Qcz HG.o P.sTo HU9.o)
   go_wp2_with fail
   rw [← HW9.o]
   refine HCL.o.mono ?_
   rintro e w10 ⟨⟨tq1, hfr, rfl⟩, hu, hg⟩
   clear HCL
   have HC10 := J0.m ((HC9.o).word hfr)
   have HU10 := J0.m hu
   have HR10 := J0.m (HR9.o.trans hg)
   have HX10 := J0.m (Qbb hg HX9.o NB3.o)
   have HY10 := J0.m (Qbb hg HY9.o NB2.o)
   clear hu hg hfr
   have HCL := J0.m (Qbw HG.o HU10.o)
   go_wp2_with fail
   refine HCL.o.mono ?_
   rintro e w11 ⟨⟨tb, hfr, rfl⟩, hu, hg⟩
   clear HCL
   have HC11 := J0.m ((HC10.o).name hfr)
   have HU11 := J0.m hu
   have HR11 := J0.m (HR10.o.trans hg)
   have HX11 := J0.m (Qbb hg HX10.o NB3.o)
   have HY11 := J0.m (Qbb hg HY10.o NB2.o)
   clear hu hg hfr
   have c5_11 := (Qaf HX11.o 5).trans rfl
   have f5_11 := Qaa HX11.o 5
   obtain ⟨w12, hw⟩ : ∃ w12, w12 = w11.setCell ⟨b3, 5, none⟩ (.string tb.f1) := ⟨_, rfl⟩
   have HU12 := J0.m (show Up w12 A c L g _ from by rw [hw]; exact HU11.o.far GB3.o 5 _)
   have HR12 := J0.m (show w.grownBy w12 (some g) from by rw [hw]; exact Qa5 (g := g) HR11.o LB3.o 5 _)
   have HX12 := J0.m (show w12.heap[b3]? = some (.cells #[.int .i64 5, .string ta.f1, .string ⟨#[]⟩, .string ⟨#[]⟩, .string ⟨#[]⟩, .string tb.f1, .slice none 0 0, .int .i64 p1] 62 (0, 0)) from by rw [hw]; exact (Qbu HX11.o _).trans (by rfl))
   have HY12 := J0.m (show w12.heap[b2]? = some zO8 from by rw [hw]; exact Qbq NB23.o HY11.o _)
   have HC12 := HC11
   have HW12 := J0.m hw
   clear hw
   have HCL := J0.m (Qbo HG.o 59 HU12.o)
   go_wp2_with fail
   rw [← HW12.o]
   refine HCL.o.mono ?_
   rintro e w13 ⟨⟨tz, hfr, rfl⟩, hu, hg⟩
   clear HCL
   have HC13 := J0.m ((HC12.o).mark hfr)
   have HU13 := J0.m hu
   have HR13 := J0.m (HR12.o.trans hg)
   have HX13 := J0.m (Qbb hg HX12.o NB3.o)
   have HY13 := J0.m (Qbb hg HY12.o NB2.o)
   have hgz := hg
   clear hu hg hfr
   obtain ⟨c0_13, c1_13, c2_13, c3_13, c4_13, c5_13, c6_13, c7_13⟩ := box8 HX13.o
   obtain ⟨y0, y1, y2, y3, y4, y5, y6, y7⟩ := box8 HY13.o
   obtain ⟨g0, g1, g2, g3, g4, g5, g6, g7⟩ := Qiv HY13.o
   go_wp2
   refine bodyPost_ret (Qb0 rfl _ _ b2 62 #[.int .i64 5, .string ta.f1, .string ⟨#[]⟩, .string ⟨#[]⟩, .string ⟨#[]⟩, .string tb.f1, .slice none 0 0, .int .i64 p1] (0, 0) _ rfl (set8 HY13.o) Try.underlying62 rfl (by kernel_rfl)) rfl ?_
   refine ⟨⟨5, ta.f1, ⟨#[]⟩, ⟨#[]⟩, ⟨#[]⟩, tb.f1, ⟨none, 0, 0⟩, p1⟩, [], rfl, Kd.Qdq _ _ _ _ _, (fun k hk => by simp [Sl.v, Value.ownBlock] at hk), ?_, Qf7 HR13.o LB2.o, fun ts d r h1 h2 => ?_⟩
   ·rw [← HFE.o _ (Co.Qfw HC13.o)]
    exact up8 HU13.o GB2.o
   ·have := Co.val HC13.o HF0.o ts d r h1 h2
    subst this
    exact ⟨rfl, rfl, rfl, rfl, rfl, rfl, rfl, rfl⟩
  ·have HKK : J0 (∀ ts, s = .ok ts → P.stK ts = 6) := ⟨hkk⟩
   have HC5 := J0.m (HF0.o.to (fun r hr => Qeo (k := 6) (p := p1) (HKK.o r hr) (by rw [← HT1.o r hr])))
   clear hkk
   go_wp2_with fail
   refine HIX.o.mono ?_
   rintro e w6 ⟨rfl, hw6⟩
   rw [hw6]
   clear HIX hw6
   have HU6' := HU5
   obtain ⟨w6, hw⟩ : ∃ w6, w6 = w5.setCell ⟨b3, 0, none⟩ (.int .i64 6) := ⟨_, rfl⟩
   have HU6 := J0.m (show Up w6 A c L g _ from by rw [hw]; exact HU5.o.far GB3.o 0 _)
   have HR6 := J0.m (show w.grownBy w6 (some g) from by rw [hw]; exact Qa5 (g := g) HR5.o LB3.o 0 _)
   have HX6 := J0.m (show w6.heap[b3]? = some (.cells #[.int .i64 6, .string ⟨#[]⟩, .string ⟨#[]⟩, .string ⟨#[]⟩, .string ⟨#[]⟩, .string ⟨#[]⟩, .slice none 0 0, .int .i64 p1] 62 (0, 0)) from by rw [hw]; exact (Qbu HX5.o _).trans (by rfl))
   have HY6 := J0.m (show w6.heap[b2]? = some zO8 from by rw [hw]; exact Qbq NB23.o HY5.o _)
   have HC6 := HC5
   have HW6 := J0.m hw
   clear hw
   have c0_6 := (Qaf HX6.o 0).trans rfl
   have f0_6 := Qaa HX6.o 0
   have HCL := J0.m (Qc0 HG.o true (fun ts => decide (0 < P.stK ts)) HU6.o (fun ts hs => ⟨by rw [HKK.o ts hs]; rfl, fun h => P.Qd7 (by rw [HKK.o ts hs]; exact (by decide))⟩))
   go_wp2_with fail
   rw [← HW6.o]
   refine HCL.o.mono ?_
   rintro e w7 ⟨⟨tk0, hfr, rfl⟩, hu, hg⟩
   clear HCL
   have HC7 := J0.m (Co.step HC6.o hfr)
   have HU7 := J0.m hu
   have HR7 := J0.m (HR6.o.trans hg)
   have HX7 := J0.m (Qbb hg HX6.o NB3.o)
   have HY7 := J0.m (Qbb hg HY6.o NB2.o)
   clear hu hg hfr
   have HCL := J0.m (Qbw HG.o HU7.o)
   go_wp2_with fail
   refine HCL.o.mono ?_
   rintro e w8 ⟨⟨ta, hfr, rfl⟩, hu, hg⟩
   clear HCL
   have HC8 := J0.m ((HC7.o).name hfr)
   have HU8 := J0.m hu
   have HR8 := J0.m (HR7.o.trans hg)
   have HX8 := J0.m (Qbb hg HX7.o NB3.o)
   have HY8 := J0.m (Qbb hg HY7.o NB2.o)
   clear hu hg hfr
   have c0_8 := (Qaf HX8.o 0).trans rfl
   have f0_8 := Qaa HX8.o 0
   have c1_8 := (Qaf HX8.o 1).trans rfl
   have f1_8 := Qaa HX8.o 1
   obtain ⟨w9, hw⟩ : ∃ w9, w9 = w8.setCell ⟨b3, 1, none⟩ (.string ta.f1) := ⟨_, rfl⟩
   have HU9 := J0.m (show Up w9 A c L g _ from by rw [hw]; exact HU8.o.far GB3.o 1 _)
   have HR9 := J0.m (show w.grownBy w9 (some g) from by rw [hw]; exact Qa5 (g := g) HR8.o LB3.o 1 _)
   have HX9 := J0.m (show w9.heap[b3]? = some (.cells #[.int .i64 6, .string ta.f1, .string ⟨#[]⟩, .string ⟨#[]⟩, .string ⟨#[]⟩, .string ⟨#[]⟩, .slice none 0 0, .int .i64 p1] 62 (0, 0)) from by rw [hw]; exact (Qbu HX8.o _).trans (by rfl))
   have HY9 := J0.m (show w9.heap[b2]? = some zO8 from by rw [hw]; exact Qbq NB23.o HY8.o _)
   have HC9 := HC8
   have HW9 := J0.m hw
   clear hw
   have HC9 := J0.m (HC9.o.to (fun r _ => tail6 _ _ r))
   have HCL := J0.m (Qbo HG.o 59 HU9.o)
   go_wp2_with fail
   rw [← HW9.o]
   refine HCL.o.mono ?_
   rintro e w10 ⟨⟨tz, hfr, rfl⟩, hu, hg⟩
   clear HCL
   have HC10 := J0.m ((HC9.o).mark hfr)
   have HU10 := J0.m hu
   have HR10 := J0.m (HR9.o.trans hg)
   have HX10 := J0.m (Qbb hg HX9.o NB3.o)
   have HY10 := J0.m (Qbb hg HY9.o NB2.o)
   have hgz := hg
   clear hu hg hfr
   obtain ⟨c0_10, c1_10, c2_10, c3_10, c4_10, c5_10, c6_10, c7_10⟩ := box8 HX10.o
   obtain ⟨y0, y1, y2, y3, y4, y5, y6, y7⟩ := box8 HY10.o
   obtain ⟨g0, g1, g2, g3, g4, g5, g6, g7⟩ := Qiv HY10.o
   go_wp2
   refine bodyPost_ret (Qb0 rfl _ _ b2 62 #[.int .i64 6, .string ta.f1, .string ⟨#[]⟩, .string ⟨#[]⟩, .string ⟨#[]⟩, .string ⟨#[]⟩, .slice none 0 0, .int .i64 p1] (0, 0) _ rfl (set8 HY10.o) Try.underlying62 rfl (by kernel_rfl)) rfl ?_
   refine ⟨⟨6, ta.f1, ⟨#[]⟩, ⟨#[]⟩, ⟨#[]⟩, ⟨#[]⟩, ⟨none, 0, 0⟩, p1⟩, [], rfl, Kd.Qdq _ _ _ _ _, (fun k hk => by simp [Sl.v, Value.ownBlock] at hk), ?_, Qf7 HR10.o LB2.o, fun ts d r h1 h2 => ?_⟩
   ·rw [← HFE.o _ (Co.Qfw HC10.o)]
    exact up8 HU10.o GB2.o
   ·have := Co.val HC10.o HF0.o ts d r h1 h2
    subst this
    exact ⟨rfl, rfl, rfl, rfl, rfl, rfl, rfl, rfl⟩
 ·have e1 : (k2 == 1) = false := beq_eq_false_iff_ne.2 hk2
  have HKK : J0 (∀ ts, s = .ok ts → P.stK ts = 0) := ⟨fun ts hs => by
   unfold P.stK
   rw [← HT2.o ts hs, if_neg hk2]⟩
  have HC4 := J0.m (HF0.o.to (fun r hr => Qeo (k := 0) (p := p1) (HKK.o r hr) (by rw [← HT1.o r hr])))
  clear hk2
  have c0_4 := (Qaf HX4.o 0).trans rfl
  have f0_4 := Qaa HX4.o 0
  have HCL := J0.m (Qc0 HG.o false (fun ts => decide (0 < P.stK ts)) HU4.o (fun ts hs => ⟨by rw [HKK.o ts hs]; rfl, fun h => P.Qd7 (by rw [HKK.o ts hs]; exact absurd h (by decide))⟩))
  go_wp2_with fail
  refine HCL.o.mono ?_
  rintro e w5 ⟨⟨tk0, hfr, rfl⟩, hu, hg⟩
  clear HCL
  have HC5 := J0.m (Co.step HC4.o hfr)
  have HU5 := J0.m hu
  have HR5 := J0.m (HR4.o.trans hg)
  have HX5 := J0.m (Qbb hg HX4.o NB3.o)
  have HY5 := J0.m (Qbb hg HY4.o NB2.o)
  clear hu hg hfr
  have HCL := J0.m (Qbw HG.o HU5.o)
  go_wp2_with fail
  refine HCL.o.mono ?_
  rintro e w6 ⟨⟨ta, hfr, rfl⟩, hu, hg⟩
  clear HCL
  have HC6 := J0.m ((HC5.o).name hfr)
  have HU6 := J0.m hu
  have HR6 := J0.m (HR5.o.trans hg)
  have HX6 := J0.m (Qbb hg HX5.o NB3.o)
  have HY6 := J0.m (Qbb hg HY5.o NB2.o)
  clear hu hg hfr
  have c0_6 := (Qaf HX6.o 0).trans rfl
  have f0_6 := Qaa HX6.o 0
  have c1_6 := (Qaf HX6.o 1).trans rfl
  have f1_6 := Qaa HX6.o 1
  obtain ⟨w7, hw⟩ : ∃ w7, w7 = w6.setCell ⟨b3, 1, none⟩ (.string ta.f1) := ⟨_, rfl⟩
  have HU7 := J0.m (show Up w7 A c L g _ from by rw [hw]; exact HU6.o.far GB3.o 1 _)
  have HR7 := J0.m (show w.grownBy w7 (some g) from by rw [hw]; exact Qa5 (g := g) HR6.o LB3.o 1 _)
  have HX7 := J0.m (show w7.heap[b3]? = some (.cells #[.int .i64 0, .string ta.f1, .string ⟨#[]⟩, .string ⟨#[]⟩, .string ⟨#[]⟩, .string ⟨#[]⟩, .slice none 0 0, .int .i64 p1] 62 (0, 0)) from by rw [hw]; exact (Qbu HX6.o _).trans (by rfl))
  have HY7 := J0.m (show w7.heap[b2]? = some zO8 from by rw [hw]; exact Qbq NB23.o HY6.o _)
  have HC7 := HC6
  have HW7 := J0.m hw
  clear hw
  have HC7 := J0.m (HC7.o.to (fun r _ => tail0 _ _ r))
  have HCL := J0.m (Qbo HG.o 59 HU7.o)
  go_wp2_with fail
  rw [← HW7.o]
  refine HCL.o.mono ?_
  rintro e w8 ⟨⟨tz, hfr, rfl⟩, hu, hg⟩
  clear HCL
  have HC8 := J0.m ((HC7.o).mark hfr)
  have HU8 := J0.m hu
  have HR8 := J0.m (HR7.o.trans hg)
  have HX8 := J0.m (Qbb hg HX7.o NB3.o)
  have HY8 := J0.m (Qbb hg HY7.o NB2.o)
  have hgz := hg
  clear hu hg hfr
  obtain ⟨c0_8, c1_8, c2_8, c3_8, c4_8, c5_8, c6_8, c7_8⟩ := box8 HX8.o
  obtain ⟨y0, y1, y2, y3, y4, y5, y6, y7⟩ := box8 HY8.o
  obtain ⟨g0, g1, g2, g3, g4, g5, g6, g7⟩ := Qiv HY8.o
  go_wp2
  refine bodyPost_ret (Qb0 rfl _ _ b2 62 #[.int .i64 0, .string ta.f1, .string ⟨#[]⟩, .string ⟨#[]⟩, .string ⟨#[]⟩, .string ⟨#[]⟩, .slice none 0 0, .int .i64 p1] (0, 0) _ rfl (set8 HY8.o) Try.underlying62 rfl (by kernel_rfl)) rfl ?_
  refine ⟨⟨0, ta.f1, ⟨#[]⟩, ⟨#[]⟩, ⟨#[]⟩, ⟨#[]⟩, ⟨none, 0, 0⟩, p1⟩, [], rfl, Kd.Qdq _ _ _ _ _, (fun k hk => by simp [Sl.v, Value.ownBlock] at hk), ?_, Qf7 HR8.o LB2.o, fun ts d r h1 h2 => ?_⟩
  ·rw [← HFE.o _ (Co.Qfw HC8.o)]
   exact up8 HU8.o GB2.o
  ·have := Co.val HC8.o HF0.o ts d r h1 h2
   subst this
   exact ⟨rfl, rfl, rfl, rfl, rfl, rfl, rfl, rfl⟩
end Go.Proofs.Ytbdcndkafaajpaa.A
end
section
namespace Go.Proofs.Ytbdcndkafaajpaa.R
open Go.RowKit Ytbdcndkafaajpaa.X Ytbdcndkafaajpaa.A YtbdcndkafaajpaaW.PrintWords YtbdcndkafaajpaaW.PrintLast YtbdcndkafaajpaaW.PrintMore
open Ytbdcndkafaajpaa.P (Nd EO Res hd isT isM Qar mxl comb mk1 StD VeD EvD)
theorem Up.far {w : World} {A : Option Addr} {c : Nat} {L : List Tk} {g b : Nat} {s : US} (h : Up w A c L g s) (hb : g < b) (i : Nat) (v : Value) : Up (w.setCell ⟨b, i, none⟩ v) A c L g s := by
 obtain ⟨q, lv, v5, v6, hq, hp⟩ := h
 exact ⟨q, lv, v5, v6, hq, hp.far (a := i) hb v⟩
theorem up8 {W : World} {A : Option Addr} {c : Nat} {L : List Tk} {g b : Nat} {s : US} {v0 v1 v2 v3 v4 v5 v6 v7 : Value} (h : Up W A c L g s) (hb : g < b) : Up ((((((((W.setCell ⟨b, 0, none⟩ v0).setCell ⟨b, 1, none⟩ v1).setCell ⟨b, 2, none⟩ v2).setCell ⟨b, 3, none⟩ v3).setCell ⟨b, 4, none⟩ v4).setCell ⟨b, 5, none⟩ v5).setCell ⟨b, 6, none⟩ v6).setCell ⟨b, 7, none⟩ v7) A c L g s := (Up.far (b := b) (Up.far (b := b) (Up.far (b := b) (Up.far (b := b) (Up.far (b := b) (Up.far (b := b) (Up.far (b := b) (Up.far (b := b) h hb 0 v0) hb 1 v1) hb 2 v2) hb 3 v3) hb 4 v4) hb 5 v5) hb 6 v6) hb 7 v7)
section
variable {β : Type} {F : Res β} {s : US} {t : Tk}
end
theorem Up.mark {w : World} {A : Option Addr} {c : Nat} {L : List Tk} {g : Nat} {s : US} (m : UInt8) (hG : Qde L) (h : Up w A c L g s) (hi : s.is 4 (mk1 m) = true) : ∃ at_ : Int, w.cell? ⟨g, 1, none⟩ = some (.int .i64 at_) ∧ w.frozen? ⟨g, 1, none⟩ = false ∧ Up (w.setCell ⟨g, 1, none⟩ (.int .i64 (wrap64 (at_ + 1)))) A c L g (s.step (Qar m)) ∧ w.grownBy (w.setCell ⟨g, 1, none⟩ (.int .i64 (wrap64 (at_ + 1)))) (some g) := by
 cases s with
 | bad e p => cases hi
 | ok ts =>
  have hm : isM m ts = true := hi
  have hs : (US.ok ts).step (Qar m) = .ok ts.tail := by unfold US.step Qar P.want; simp only [hm]; rfl
  rw [hs]
  exact h.adv hG (by rw [Qb5 hm]; decide)
end Go.Proofs.Ytbdcndkafaajpaa.R
end
section
namespace Go.Proofs.Ytbdcndkafaajpaa.A
open Go.RowKit Ytbdcndkafaajpaa.X YtbdcndkafaajpaaW.PrintWords YtbdcndkafaajpaaW.PrintLast YtbdcndkafaajpaaW.PrintMore
open Ytbdcndkafaajpaa.P (Nd EO Res hd isT isM Qar mxl comb mk1 StD VeD EvD)
structure VeV where
 num : Int
 steps : Sl
 pl : Int
structure EvV where
 name : ByteArray
 vers : Sl
 pl : Int
def ksl : Kd Sl := Kd.scalar Sl.v (fun _ => rfl)
def kst : Kd StV := Kd.iso (Kd.pair (Kd.int .i64) (Kd.pair Kd.string (Kd.pair Kd.string (Kd.pair Kd.string (Kd.pair Kd.string (Kd.pair Kd.string (Kd.pair ksl (Kd.int .i64)))))))) (fun x : StV => (x.k, x.a, x.b, x.c, x.sep, x.ty, x.val, x.pl))
def kve : Kd VeV := Kd.iso (Kd.pair (Kd.int .u64) (Kd.pair ksl (Kd.int .i64))) (fun x : VeV => (x.num, x.steps, x.pl))
def kev : Kd EvV := Kd.iso (Kd.pair Kd.string (Kd.pair ksl (Kd.int .i64))) (fun x : EvV => (x.name, x.vers, x.pl))
def veCs (x : VeV) : List Value := [.int .u64 x.num, .slice x.steps.A x.steps.n x.steps.c, .int .i64 x.pl]
def evCs (x : EvV) : List Value := [.string x.name, .slice x.vers.A x.vers.n x.vers.c, .int .i64 x.pl]
theorem Qp6 (w : World) (base : Nat) (ok : Nat → Prop) (x : StV) : kst.M w base ok x (stCs x) := ⟨[_], [_, _, _, _, _, _, _], rfl, rfl, ⟨[_], [_, _, _, _, _, _], rfl, rfl, ⟨[_], [_, _, _, _, _], rfl, rfl, ⟨[_], [_, _, _, _], rfl, rfl, ⟨[_], [_, _, _], rfl, rfl, ⟨[_], [_, _], rfl, rfl, ⟨[_], [_], rfl, rfl, rfl⟩⟩⟩⟩⟩⟩⟩
theorem Qp5 (w : World) (base : Nat) (ok : Nat → Prop) (x : VeV) : kve.M w base ok x (veCs x) := ⟨[_], [_, _], rfl, rfl, ⟨[_], [_], rfl, rfl, rfl⟩⟩
theorem Qqa (w : World) (base : Nat) (ok : Nat → Prop) (x : EvV) : kev.M w base ok x (evCs x) := ⟨[_], [_, _], rfl, rfl, ⟨[_], [_], rfl, rfl, rfl⟩⟩
def Flat {α : Type} (d : Kd α) : Prop := ∀ {w w' : World} {base base' : Nat} {ok ok' : Nat → Prop} {x : α} {cs : List Value}, d.M w base ok x cs → d.M w' base' ok' x cs
theorem Qh8 : Flat kn := fun h => h
theorem flat_s : Flat kst := fun h => h
theorem flat_v : Flat kve := fun h => h
theorem flat_e : Flat kev := fun h => h
theorem Qfs {α : Type} {d : Kd α} (hf : Flat d) {e : Nat} {w w' : World} {base base' : Nat} {ok : Nat → Prop} {v : Value} {xs : List α} (h : d.R e w base ok v xs) (hm : ∀ k, v.ownBlock = some k → w'.heap[k]? = w.heap[k]?) (hb : ∀ k, v.ownBlock = some k → base' ≤ k) : d.R e w' base' (fun _ => True) v xs := by
 obtain ⟨_, inner, ho, hr⟩ := h
 have ho' := Qk3 ho hm
 refine ⟨fun _ _ => trivial, inner, ⟨ho'.1, ?_⟩, hr.imp_ (fun _ _ hp => hf hp)⟩
 rcases ho'.2 with h2 | ⟨g, cap, cur, rfl, hg, rest⟩
 ·exact .inl h2
 ·exact .inr ⟨g, cap, cur, rfl, hb g (by simp [Value.ownBlock]), rest⟩
inductive Row where
 | n (v : Sl) (xs : List Nd)
 | s (v : Sl) (xs : List StV)
 | v (v : Sl) (xs : List VeV)
 | e (v : Sl) (xs : List EvV)
def Row.sl : Row → Sl
 | .n a _ => a
 | .s a _ => a
 | .v a _ => a
 | .e a _ => a
def Row.own (r : Row) : Option Nat := r.sl.v.ownBlock
def Row.holds (w : World) (base : Nat) : Row → Prop
 | .n a xs => Kd.R kn 49 w base (fun _ => True) a.v xs
 | .s a xs => Kd.R kst 62 w base (fun _ => True) a.v xs
 | .v a xs => Kd.R kve 60 w base (fun _ => True) a.v xs
 | .e a xs => Kd.R kev 57 w base (fun _ => True) a.v xs
theorem Row.in_ {w : World} {base : Nat} {r : Row} (h : r.holds w base) : ∀ k, r.own = some k → base ≤ k ∧ k < w.heap.size := by
 intro k hk
 cases r with
 | n a xs => exact ⟨Kd.Qeq (d := kn) h k hk, Kd.R_lt (d := kn) h k hk⟩
 | s a xs => exact ⟨Kd.Qeq (d := kst) h k hk, Kd.R_lt (d := kst) h k hk⟩
 | v a xs => exact ⟨Kd.Qeq (d := kve) h k hk, Kd.R_lt (d := kve) h k hk⟩
 | e a xs => exact ⟨Kd.Qeq (d := kev) h k hk, Kd.R_lt (d := kev) h k hk⟩
theorem Row.move {w w' : World} {base base' : Nat} {r : Row} (h : r.holds w base) (hm : ∀ k, r.own = some k → w'.heap[k]? = w.heap[k]?) (hb : ∀ k, r.own = some k → base' ≤ k) : r.holds w' base' := by
 cases r with
 | n a xs => exact Qfs Qh8 h hm hb
 | s a xs => exact Qfs flat_s h hm hb
 | v a xs => exact Qfs flat_v h hm hb
 | e a xs => exact Qfs flat_e h hm hb
def Lone : List (Option Nat) → Prop
 | [] => True
 | o :: l => (∀ k, o = some k → some k ∉ l) ∧ Lone l
structure Rows (w : World) (base : Nat) (l : List Row) : Prop where
 holds : ∀ r, r ∈ l → r.holds w base
 lone : Lone (l.map Row.own)
theorem Lone.append {l m : List (Option Nat)} (hl : Lone l) (hm : Lone m) (hx : ∀ k, some k ∈ l → some k ∉ m) : Lone (l ++ m) := by
 induction l with
 | nil => exact hm
 | cons o l ih =>
  obtain ⟨h1, h2⟩ := hl
  refine ⟨fun k hk hmem => ?_, ih h2 (fun k hk => hx k (List.mem_cons_of_mem _ hk))⟩
  rcases List.mem_append.1 hmem with h | h
  ·exact h1 k hk h
  ·exact hx k (by rw [← hk]; exact List.mem_cons_self) h
section
variable {w w' : World} {base base' : Nat} {l m : List Row}
theorem Rows.nil (w : World) (base : Nat) : Rows w base [] := ⟨fun r hr => (by cases hr), trivial⟩
theorem Rows.in_ (h : Rows w base l) : ∀ k, some k ∈ l.map Row.own → base ≤ k ∧ k < w.heap.size := by
 intro k hk
 obtain ⟨r, hr, he⟩ := List.mem_map.1 hk
 exact Row.in_ (h.holds r hr) k he
theorem Rows.keep (h : Rows w base l) (hm : ∀ k, base ≤ k → k < w.heap.size → w'.heap[k]? = w.heap[k]?) : Rows w' base l :=
 ⟨fun r hr => Row.move (h.holds r hr) (fun k hk => hm k (Row.in_ (h.holds r hr) k hk).1 (Row.in_ (h.holds r hr) k hk).2) (fun k hk => (Row.in_ (h.holds r hr) k hk).1), h.lone⟩
theorem Rows.lower (h : Rows w base l) (hb : base' ≤ base) : Rows w base' l :=
 ⟨fun r hr => Row.move (h.holds r hr) (fun _ _ => rfl) (fun k hk => Nat.le_trans hb (Row.in_ (h.holds r hr) k hk).1), h.lone⟩
theorem Rows.join (h : Rows w' base' l) (k : Rows w' base m) (hb : base ≤ base') (hm : ∀ i, some i ∈ m.map Row.own → i < base') : Rows w' base (l ++ m) := by
 have h' := h.lower hb
 refine ⟨fun r hr => ?_, ?_⟩
 ·rcases List.mem_append.1 hr with hr | hr
  ·exact h'.holds r hr
  ·exact k.holds r hr
 ·rw [List.map_append]
  exact h.lone.append k.lone (fun i hi hj => by have := (h.in_ i hi).1; have := hm i hj; omega)
theorem Rows.tail {r : Row} (h : Rows w base (r :: l)) : Rows w base l := ⟨fun r' hr => h.holds r' (List.mem_cons_of_mem _ hr), h.lone.2⟩
theorem Rows.head {r : Row} (h : Rows w base (r :: l)) : r.holds w base := h.holds r List.mem_cons_self
theorem Rows.grow {r r' : Row} (h : Rows w base (r :: l)) (hg : w.grownBy w' r.own) (hr : r'.holds w' base) (hat : r'.own = r.own ∨ ∃ b, r'.own = some b ∧ w.heap.size ≤ b) : Rows w' base (r' :: l) := by
 have hl : Rows w' base l := ⟨fun q hq => Row.move (h.tail.holds q hq) (fun k hk => hg.block k (Row.in_ (h.tail.holds q hq) k hk).2 (fun e => h.lone.1 k e.symm (List.mem_map.2 ⟨q, hq, hk⟩))) (fun k hk => (Row.in_ (h.tail.holds q hq) k hk).1), h.tail.lone⟩
 refine ⟨fun q hq => ?_, ?_⟩
 ·rcases List.mem_cons.1 hq with rfl | hq
  ·exact hr
  ·exact hl.holds q hq
 ·refine ⟨fun k hk hmem => ?_, hl.lone⟩
  rcases hat with e | ⟨b, e, hb⟩
  ·rw [hk] at e
   exact h.lone.1 k e.symm hmem
  ·rw [hk] at e
   injection e with e
   have := (h.tail.in_ k hmem).2
   omega
theorem Rows.swap {r q : Row} (h : Rows w base (r :: q :: l)) : Rows w base (q :: r :: l) := by
 refine ⟨fun x hx => h.holds x ?_, ?_⟩
 ·simp only [List.mem_cons] at hx ⊢
  rcases hx with hx | hx | hx
  ·exact .inr (.inl hx)
  ·exact .inl hx
  ·exact .inr (.inr hx)
 ·obtain ⟨h1, h2, h3⟩ := h.lone
  refine ⟨fun k hk hmem => ?_, fun k hk hmem => h1 k hk (List.mem_cons_of_mem _ hmem), h3⟩
  rcases List.mem_cons.1 hmem with e | hmem
  ·exact h1 k e.symm (by rw [List.map_cons] at *; rw [hk]; exact List.mem_cons_self)
  ·exact h2 k hk hmem
end
def All2 {α β : Type} (R : α → β → Prop) : List α → List β → Prop
 | [], [] => True
 | a :: l, b :: m => R a b ∧ All2 R l m
 | _, _ => False
theorem All2.imp {α β : Type} {R S : α → β → Prop} (h : ∀ a b, R a b → S a b) : ∀ {l : List α} {m : List β}, All2 R l m → All2 S l m
 | [], [], _ => trivial
 | _ :: _, _ :: _, ⟨h1, h2⟩ => ⟨h _ _ h1, All2.imp h h2⟩
theorem All2.snoc {α β : Type} {R : α → β → Prop} {a : α} {b : β} (hab : R a b) : ∀ {l : List α} {m : List β}, All2 R l m → All2 R (l ++ [a]) (m ++ [b])
 | [], [], _ => ⟨hab, trivial⟩
 | _ :: _, _ :: _, ⟨h1, h2⟩ => ⟨h1, All2.snoc hab h2⟩
theorem All2.len {α β : Type} {R : α → β → Prop} : ∀ {l : List α} {m : List β}, All2 R l m → l.length = m.length
 | [], [], _ => rfl
 | _ :: _, _ :: _, ⟨_, h2⟩ => by simp only [List.length_cons, All2.len h2]
def StT (l : List Row) (d : StD) (x : StV) : Prop := x.k = d.k ∧ x.a = d.a ∧ x.b = d.b ∧ x.c = d.c ∧ x.sep = d.sep ∧ x.ty = d.ty ∧ Row.n x.val d.val ∈ l ∧ x.pl = d.pl
def VeT (l : List Row) (d : VeD) (x : VeV) : Prop := x.num = d.num ∧ (∃ xs, Row.s x.steps xs ∈ l ∧ All2 (StT l) d.steps xs) ∧ x.pl = d.pl
def EvT (l : List Row) (d : EvD) (x : EvV) : Prop := x.name = d.name ∧ (∃ xs, Row.v x.vers xs ∈ l ∧ All2 (VeT l) d.vers xs) ∧ x.pl = d.pl
theorem StT.mono {l m : List Row} {d : StD} {x : StV} (h : StT l d x) (hs : ∀ r, r ∈ l → r ∈ m) : StT m d x := ⟨h.1, h.2.1, h.2.2.1, h.2.2.2.1, h.2.2.2.2.1, h.2.2.2.2.2.1, hs _ h.2.2.2.2.2.2.1, h.2.2.2.2.2.2.2⟩
theorem VeT.mono {l m : List Row} {d : VeD} {x : VeV} (h : VeT l d x) (hs : ∀ r, r ∈ l → r ∈ m) : VeT m d x := by
 obtain ⟨h1, ⟨xs, h2, h3⟩, h4⟩ := h
 exact ⟨h1, ⟨xs, hs _ h2, h3.imp (fun _ _ h => h.mono hs)⟩, h4⟩
theorem EvT.mono {l m : List Row} {d : EvD} {x : EvV} (h : EvT l d x) (hs : ∀ r, r ∈ l → r ∈ m) : EvT m d x := by
 obtain ⟨h1, ⟨xs, h2, h3⟩, h4⟩ := h
 exact ⟨h1, ⟨xs, hs _ h2, h3.imp (fun _ _ h => h.mono hs)⟩, h4⟩
theorem Up.flt {w : World} {A : Option Addr} {c : Nat} {L : List Tk} {g : Nat} {s : US} (h : Up w A c L g s) : ∃ e : Int, w.cell? ⟨g, 2, none⟩ = some (.int .i64 e) ∧ (∀ ts, s = .ok ts → e = 0) ∧ ∀ e' p, s = .bad e' p → e ≠ 0 := by
 obtain ⟨q, lv, v5, v6, hq, hp⟩ := h
 refine ⟨_, hp.c2, ?_, ?_⟩
 ·rintro ts rfl; exact hq.1
 ·rintro e' p rfl; rw [hq.1]; exact hq.2.2
theorem infoS : (Try.prog.info? 62).map (fun i => (i.zero, i.size, i.bytes)) = some (some (.agg #[.int .i64 0, .string ⟨#[]⟩, .string ⟨#[]⟩, .string ⟨#[]⟩, .string ⟨#[]⟩, .string ⟨#[]⟩, .slice none 0 0, .int .i64 0]), 8, 120) := by kernel_rfl
theorem infoV : (Try.prog.info? 60).map (fun i => (i.zero, i.size, i.bytes)) = some (some (.agg #[.int .u64 0, .slice none 0 0, .int .i64 0]), 3, 40) := by kernel_rfl
theorem infoE : (Try.prog.info? 57).map (fun i => (i.zero, i.size, i.bytes)) = some (some (.agg #[.string ⟨#[]⟩, .slice none 0 0, .int .i64 0]), 3, 48) := by kernel_rfl
structure VeL (F : Res VeD) (num p : Int) (w : World) (A : Option Addr) (c : Nat) (L : List Tk) (g b2 b3 B N : Nat) (k : Nat) (wr : World) (S : US) (v : Sl) (sv : List StV) (l : List Row) (ds : List StD) : Prop where
 up : Up wr A c L g S
 gr : w.grownBy wr (some g)
 bx : wr.heap[b3]? = some (.cells #[.int .u64 num, .slice v.A v.n v.c, .int .i64 p] 60 (0, 0))
 by_ : wr.heap[b2]? = some (.cells #[.int .u64 0, .slice none 0 0, .int .i64 0] 60 (0, 0))
 rows : Rows wr B (Row.s v sv :: l)
 bl : B ≤ wr.heap.size
 nn : sv.length + k ≤ N
 tr : ∀ r, S = .ok r → All2 (StT l) ds sv
 co : Co F (fun r => (P.Qfd k ds r).bind fun l r => (Qar 125 r).bind fun _ r => .ok ⟨num, l, p⟩ r) S
theorem set3 {W : World} {b : Nat} {a0 a1 a2 v0 v1 v2 : Value} {t : TypeId} (h : W.heap[b]? = some (.cells #[a0, a1, a2] t (0, 0))) : (((W.setCell ⟨b, 0, none⟩ v0).setCell ⟨b, 1, none⟩ v1).setCell ⟨b, 2, none⟩ v2).heap[b]? = some (.cells #[v0, v1, v2] t (0, 0)) :=
 Qb4 (Qb4 (Qb4 h 0 v0 rfl) 1 v1 rfl) 2 v2 rfl
theorem up3 {W : World} {A : Option Addr} {c : Nat} {L : List Tk} {g b : Nat} {s : US} {v0 v1 v2 : Value} (h : Up W A c L g s) (hb : g < b) : Up (((W.setCell ⟨b, 0, none⟩ v0).setCell ⟨b, 1, none⟩ v1).setCell ⟨b, 2, none⟩ v2) A c L g s := ((h.far hb 0 v0).far hb 1 v1).far hb 2 v2
theorem Qmv {w W : World} {g b : Nat} {v0 v1 v2 : Value} (h : w.grownBy W (some g)) (hb : w.heap.size ≤ b) : w.grownBy (((W.setCell ⟨b, 0, none⟩ v0).setCell ⟨b, 1, none⟩ v1).setCell ⟨b, 2, none⟩ v2) (some g) := Qa5 (g := g) (Qa5 (g := g) (Qa5 (g := g) h hb 0 v0) hb 1 v1) hb 2 v2
theorem Rows.far {W : World} {base b i : Nat} {l : List Row} {v : Value} (h : Rows W base l) (hb : b < base) : Rows (W.setCell ⟨b, i, none⟩ v) base l := h.keep (fun k hk _ => Below.heap_setCell W ⟨b, i, none⟩ v k (by show k ≠ b; omega))
theorem Rows.grown {W W' : World} {base g : Nat} {l : List Row} (h : Rows W base l) (hg : W.grownBy W' (some g)) (hb : g < base) : Rows W' base l := h.keep (fun k hk hlt => hg.block k hlt (fun e => by injection e with e; omega))
theorem len3 {s : US} {L : List Tk} {r : List Tk} (h : ∀ ts, s = .ok ts → ts.length ≤ L.length) (hr : (((s.step (P.Qd2 P.Qdg)).step fun ts => P.want ((hd ts).f0 == 2) ts).step (Qar 123)) = .ok r) : r.length ≤ L.length := by
 obtain ⟨t2, a2, h2, k2⟩ := Qd6 hr
 obtain ⟨t1, a1, h1, k1⟩ := Qd6 h2
 obtain ⟨t0, a0, h0, k0⟩ := Qd6 h1
 have e0 := h _ h0
 have e1 := P.Qdy k0
 have e2 := P.Qmi k1
 have e3 := (P.Qcb k2).2.2.2
 omega
theorem Qnu {w' w0 : World} {B : Nat} {q r : Row} {l : List Row} (h : Rows w' B (q :: l)) (hr : r.holds w' B) (hn : ∀ k, r.own = some k → w0.heap.size ≤ k) (h0 : Rows w0 B (q :: l)) : Rows w' B (q :: r :: l) := by
 refine Rows.swap ⟨fun x hx => ?_, ⟨fun k hk hm => ?_, h.lone⟩⟩
 ·rcases List.mem_cons.1 hx with rfl | hx
  ·exact hr
  ·exact h.holds x hx
 ·have := hn k hk
  have := (h0.in_ k hm).2
  omega
theorem Qgo {w w' : World} {A : Option Addr} {c : Nat} {L : List Tk} {g : Nat} {s : US} {row : Option Nat} (h : Up w A c L g s) (hg : w.grownBy w' row) (hne : ∀ k, row = some k → g < k) : Up w' A c L g s := by
 obtain ⟨q, lv, v5, v6, hq, hp⟩ := h
 exact ⟨q, lv, v5, v6, hq, ⟨Qbh hp.blk hg (fun e => by have := hne g e.symm; omega), Kd.Qfi hp.row hg (fun k hk e => by have := hne k e.symm; omega), hp.lt, hp.cap⟩⟩
theorem Qgh {w W W' : World} {g : Nat} {row : Option Nat} (h : w.grownBy W (some g)) (hg : W.grownBy W' row) (hr : ∀ k, row = some k → w.heap.size ≤ k) : w.grownBy W' (some g) :=
 ⟨hg.os.trans h.os, hg.tape.trans h.tape, hg.output.trans h.output, Nat.le_trans h.size hg.size, fun k hk hne => (hg.block k (Nat.lt_of_lt_of_le hk h.size) (fun e => by have := hr k e.symm; omega)).trans (h.block k hk hne)⟩
theorem okOf {β : Type} {F : Res β} {k : List Tk → Res β} {s : US} {x : US} {d e : β} {ts r : List Tk} {f : List Tk → Res Tk} (h : Co F (fun r => .ok d r) (x.step f)) (hs : Co F k s) (h1 : s = .ok ts) (h2 : k ts = .ok e r) (hn : ∀ p, F ≠ .bad 0 p) : ∃ r1, x = .ok r1 := by
 subst h1
 have hF : F = .ok e r := Eq.trans hs h2
 cases x with
 | ok r1 => exact ⟨r1, rfl⟩
 | bad e' p => rw [show F = .bad e' p from h] at hF; cases hF
theorem Qig (w : World) (A : Option Addr) (c : Nat) (L : List Tk) (g : Nat) (s : US) (hG : Good L) (hL : L.length ≤ 33554432) (h : Up w A c L g s) (hsz : ∀ ts, s = .ok ts → ts.length ≤ L.length) :
  Calls Try.prog 62 #[.pointer (some ⟨g, 0, none⟩)] w fun e w' => ∃ x l, e = .returned (.agg #[.int .u64 x.num, .slice x.steps.A x.steps.n x.steps.c, .int .i64 x.pl]) ∧ Rows w' w.heap.size l ∧ Up w' A c L g (s.step P.Qcy) ∧ w.grownBy w' (some g) ∧ ∀ ts d r, s = .ok ts → P.Qcy ts = .ok d r → VeT l d x := by
 obtain ⟨w0, hw0⟩ : ∃ w0, w0 = w.alloc (.cells #[.int .u64 0, .slice none 0 0, .int .i64 0] 60) := ⟨_, rfl⟩
 obtain ⟨b2, hb2⟩ : ∃ b2, b2 = w.heap.size := ⟨_, rfl⟩
 have hB0 : Below w.heap.size w w0 := by rw [hw0]; exact Qab (Below.refl _ _) _
 have HU0 := J0.m (h.below hB0)
 have HR0 := J0.m (Qaq hB0 (some g))
 have HY0 := J0.m (show w0.heap[b2]? = some (.cells #[.int .u64 0, .slice none 0 0, .int .i64 0] 60 (0, 0)) from by rw [hw0, hb2]; exact Qa1 _ _)
 have GB2 : J0 (g < b2) := ⟨by rw [hb2]; exact h.glt⟩
 have NB2 : J0 (b2 ≠ g) := ⟨by have := GB2.o; omega⟩
 have LB2 : J0 (w.heap.size ≤ b2) := ⟨by rw [hb2]; exact Nat.le_refl _⟩
 have HB2 := J0.m hb2
 have HW0 := J0.m hw0
 have HG := J0.m hG
 have HL := J0.m hL
 have HSZ := J0.m hsz
 obtain ⟨F, hF0, hFe⟩ := Co.start s P.Qcy
 have HNE : J0 (∀ p, F ≠ .bad 0 p) := ⟨by
  intro p hp
  cases s with
  | ok ts => exact P.Qg3 ts p (Eq.trans (Eq.symm hF0) hp)
  | bad e q =>
   obtain ⟨_, _, _, _, hq, _⟩ := h
   have : F = .bad e q := hF0
   rw [this] at hp
   cases hp
   exact hq.2.2 rfl⟩
 have HF0 := J0.m hF0
 have HFE := J0.m hFe
 have HC0 := J0.m (show Co F (fun ts => (P.Qd2 P.Qdg ts).bind fun t r => (P.numW r).bind fun m r => (Qar 123 r).bind fun _ r => (P.Qfd (r.length + 1) [] r).bind fun l r => (Qar 125 r).bind fun _ r => .ok ⟨m.f2, l, t.f3⟩ r) s from hF0)
 have HCL := J0.m (Qcz HG.o P.Qdg HU0.o)
 clear h hw0 hb2 hB0 hG hL hF0 hFe hsz
 go_enter Try.func62, Try.ntmps62
 go_wp2_with fail
 rw [← HW0.o, ← HB2.o]
 refine HCL.o.mono ?_
 rintro e w1 ⟨⟨⟨k1, s1, n1, p1, e1⟩, hfr, rfl⟩, hu, hg⟩
 clear HCL
 have HC1 := J0.m ((HC0.o).word hfr)
 have HU1 := J0.m hu
 have HR1 := J0.m (HR0.o.trans hg)
 have HY1 := J0.m (Qbb hg HY0.o NB2.o)
 clear hu hg hfr
 obtain ⟨fd0, fd1, fd2, fd3⟩ := fld ⟨k1, s1, n1, p1, e1⟩
 obtain ⟨b3, hb3⟩ : ∃ b3, b3 = w1.heap.size := ⟨_, rfl⟩
 obtain ⟨w2, hw2⟩ : ∃ w2, w2 = w1.alloc (.cells #[.int .u64 0, .slice none 0 0, .int .i64 p1] 60) := ⟨_, rfl⟩
 have hb : Below w1.heap.size w1 w2 := by rw [hw2]; exact Qab (Below.refl _ _) _
 have HU2 := J0.m (HU1.o.below hb)
 have HR2 := J0.m (HR1.o.trans (Qaq hb _))
 have HY2 := J0.m (Qai HY1.o hb)
 have HX2 := J0.m (show w2.heap[b3]? = some (.cells #[.int .u64 0, .slice none 0 0, .int .i64 p1] 60 (0, 0)) from by rw [hw2, hb3]; exact Qa1 _ _)
 have GB3 : J0 (g < b3) := ⟨by rw [hb3]; exact HU1.o.glt⟩
 have NB3 : J0 (b3 ≠ g) := ⟨by have := GB3.o; omega⟩
 have LB3 : J0 (w.heap.size ≤ b3) := ⟨by rw [hb3]; exact HR1.o.size⟩
 have NB23 : J0 (b2 ≠ b3) := ⟨by have := Qcc HY1.o; rw [hb3]; omega⟩
 have HB3 := J0.m hb3
 have HW2 := J0.m hw2
 clear hb hw2 hb3
 go_wp2_with fail
 rw [← HW2.o, ← HB3.o]
 refine (Qea HU2.o).mono ?_
 rintro e w3 ⟨⟨k2, s2, n2, p2, e2⟩, hf2, rfl, hb⟩
 have HT2 := J0.m hf2
 have HU3 := J0.m (HU2.o.below hb)
 have HR3 := J0.m (HR2.o.trans (Qaq hb _))
 have HY3 := J0.m (Qai HY2.o hb)
 have HX3 := J0.m (Qai HX2.o hb)
 clear hb hf2
 obtain ⟨gd0, gd1, gd2, gd3⟩ := fld ⟨k2, s2, n2, p2, e2⟩
 have HCL := J0.m (Qc0 HG.o (k2 == 2) (fun ts => (hd ts).f0 == 2) HU3.o (fun ts hs => ⟨by rw [← HT2.o ts hs], fun hb => by rw [← HT2.o ts hs, eq_of_beq hb]; exact (by decide : (2 : Int) ≠ 0)⟩))
 go_wp2_with fail
 refine HCL.o.mono ?_
 rintro e w4 ⟨⟨⟨k3, s3, n3, p3, e3⟩, hfr, rfl⟩, hu, hg⟩
 clear HCL
 have HC4 := J0.m (Co.num HC1.o hfr)
 have HU4 := J0.m hu
 have HR4 := J0.m (HR3.o.trans hg)
 have HX4 := J0.m (Qbb hg HX3.o NB3.o)
 have HY4 := J0.m (Qbb hg HY3.o NB2.o)
 clear hu hg hfr
 obtain ⟨id0, id1, id2, id3⟩ := fld ⟨k3, s3, n3, p3, e3⟩
 have c0_4 := (Qaf HX4.o 0).trans rfl
 have f0_4 := Qaa HX4.o 0
 obtain ⟨w5, hw5⟩ : ∃ w5, w5 = w4.setCell ⟨b3, 0, none⟩ (.int .u64 n3) := ⟨_, rfl⟩
 have HU5 := J0.m (show Up w5 A c L g _ from by rw [hw5]; exact HU4.o.far GB3.o 0 _)
 have HR5 := J0.m (show w.grownBy w5 (some g) from by rw [hw5]; exact Qa5 (g := g) HR4.o LB3.o 0 _)
 have HX5 := J0.m (show w5.heap[b3]? = some (.cells #[.int .u64 n3, .slice none 0 0, .int .i64 p1] 60 (0, 0)) from by rw [hw5]; exact (Qbu HX4.o _).trans (by rfl))
 have HY5 := J0.m (show w5.heap[b2]? = some (.cells #[.int .u64 0, .slice none 0 0, .int .i64 0] 60 (0, 0)) from by rw [hw5]; exact Qbq NB23.o HY4.o _)
 have HW5 := J0.m hw5
 clear hw5
 have HCL := J0.m (Qbo HG.o 123 HU5.o)
 go_wp2_with fail
 rw [← HW5.o]
 refine HCL.o.mono ?_
 rintro e w6 ⟨⟨tq, hfr, rfl⟩, hu, hg⟩
 clear HCL
 have HC6 := J0.m ((HC4.o).mark hfr)
 obtain ⟨S6, hS6⟩ : ∃ S6, S6 = (((s.step (P.Qd2 P.Qdg)).step fun ts => P.want ((hd ts).f0 == 2) ts).step (Qar 123)) := ⟨_, rfl⟩
 have HSL : J0 (∀ r, S6 = .ok r → r.length ≤ L.length) := ⟨fun r hr => by rw [hS6] at hr; exact len3 HSZ.o hr⟩
 obtain ⟨N, hN, hN2⟩ : ∃ N, N ≤ 33554433 ∧ ∀ r, S6 = .ok r → N = r.length + 1 := by
  cases hx : S6 with
  | ok r => exact ⟨r.length + 1, by have := HSL.o r hx; have := HL.o; omega, fun r' h => by cases h; rfl⟩
  | bad e p => exact ⟨0, by omega, fun r' h => by cases h⟩
 have HLP : J0 (VeL F n3 p1 w A c L g b2 b3 w6.heap.size N N w6 S6 ⟨none, 0, 0⟩ [] [] []) := ⟨{
  up := by rw [hS6]; exact hu
  gr := HR5.o.trans hg
  bx := Qbb hg HX5.o NB3.o
  by_ := Qbb hg HY5.o NB2.o
  rows := ⟨fun r hr => by rw [List.mem_singleton.1 hr]; exact Kd.Qdq _ _ _ _ _, ⟨fun k hk => by simp [Row.own, Row.sl, Sl.v, Value.ownBlock] at hk, trivial⟩⟩
  bl := Nat.le_refl _
  nn := by simp
  tr := fun _ _ => trivial
  co := by
   rw [hS6]
   exact HC6.o.to (fun r hr => by rw [hN2 r (by rw [hS6]; exact hr)]) }⟩
 have HB6 : J0 (b3 < w6.heap.size ∧ b2 < w6.heap.size ∧ g < w6.heap.size ∧ w.heap.size ≤ w6.heap.size) := ⟨Qcc (Qbb hg HX5.o NB3.o), Qcc (Qbb hg HY5.o NB2.o), hu.glt, (HR5.o.trans hg).size⟩
 obtain ⟨B6, hB6⟩ : ∃ B6, B6 = w6.heap.size := ⟨_, rfl⟩
 rw [← hB6] at HLP HB6
 have HN := J0.m hN
 clear hu hg hfr hN2 hS6 hB6
 go_wp2_with fail
 go_loopg [] N (fun k wr => ∃ S v sv l ds, J0 (VeL F n3 p1 w A c L g b2 b3 B6 N k wr S v sv l ds))
 case atStart => exact ⟨_, _, _, _, _, HLP⟩
 case round =>
  obtain ⟨S, ⟨Av, nv, cv⟩, sv, l, ds, HV⟩ := hrel
  obtain ⟨ef, c2, he1, he2⟩ := HV.o.up.flt
  cases hS : S with
  | bad e q =>
   have d1 : (ef == 0) = false := beq_eq_false_iff_ne.2 (he2 e q hS)
   subst hS
   have HCE := J0.m (show Co F (fun r => (Qar 125 r).bind fun _ r => .ok (⟨n3, ds, p1⟩ : VeD) r) (US.bad e q) from HV.o.co)
   clear he1 he2
   go_wp2_with fail
   have HCL := J0.m (Qbo HG.o 125 HV.o.up)
   go_wp2_with fail
   refine HCL.o.mono ?_
   rintro e wz ⟨⟨tz, hfr, rfl⟩, hu, hg⟩
   clear HCL
   have HCZ := J0.m ((HCE.o).mark hfr)
   have HXZ := J0.m (Qbb hg HV.o.bx NB3.o)
   have HYZ := J0.m (Qbb hg HV.o.by_ NB2.o)
   have HRZ := J0.m (HV.o.gr.trans hg)
   have HQZ := J0.m (HV.o.rows.grown hg (by have := HB6.o; omega))
   have HUZ := J0.m hu
   clear hu hg hfr
   have d0 := (Qaf HXZ.o 0).trans rfl
   have d1 := (Qaf HXZ.o 1).trans rfl
   have d2 := (Qaf HXZ.o 2).trans rfl
   have y0 := (Qaf HYZ.o 0).trans rfl
   have y1 := (Qaf HYZ.o 1).trans rfl
   have y2 := (Qaf HYZ.o 2).trans rfl
   have g0 := Qaa HYZ.o 0
   have g1 := Qaa HYZ.o 1
   have g2 := Qaa HYZ.o 2
   go_wp2
   refine bodyPost_ret (Qb0 rfl _ _ b2 60 #[.int .u64 n3, .slice Av nv cv, .int .i64 p1] (0, 0) _ rfl (set3 HYZ.o) Try.underlying60 rfl (by kernel_rfl)) rfl ?_
   refine ⟨⟨n3, ⟨Av, nv, cv⟩, p1⟩, Row.s ⟨Av, nv, cv⟩ sv :: l, rfl, (((HQZ.o.far (by have := HB6.o; omega)).far (by have := HB6.o; omega)).far (by have := HB6.o; omega)).lower (by have := HB6.o; omega), ?_, Qmv HRZ.o LB2.o, fun ts d r h1 h2 => ?_⟩
   ·rw [← HFE.o _ (Co.Qfw HCZ.o)]
    exact up3 HUZ.o GB2.o
   ·have := Co.val HCZ.o HF0.o ts d r h1 h2
    subst this
    refine ⟨rfl, ⟨sv, List.mem_cons_self, ?_⟩, rfl⟩
    obtain ⟨r1, hr1⟩ := okOf HCZ.o HF0.o h1 h2 HNE.o
    exact (HV.o.tr r1 hr1).imp (fun _ _ h => h.mono (fun _ hm => List.mem_cons_of_mem _ hm))
  | ok r =>
   have he := he1 r hS
   subst he hS
   have hnb : gk ≠ 0 := fun e => by subst e; exact HNE.o 0 HV.o.co
   obtain ⟨m, rfl⟩ : ∃ m, gk = m + 1 := ⟨gk - 1, by omega⟩
   have HIS := J0.m (Qfc 4 ⟨#[125]⟩ HV.o.up)
   have hco : F = (P.Qfd (m + 1) ds r).bind fun l r => (Qar 125 r).bind fun _ r => .ok ⟨n3, l, p1⟩ r := HV.o.co
   rw [P.Qfd] at hco
   clear he1 he2
   by_cases hm : isM 125 r = true
   ·have hv : US.is 4 ⟨#[125]⟩ (.ok r) = true := hm
    rw [hv] at HIS
    rw [if_pos hm] at hco
    have HCE := J0.m (show Co F (fun r => (Qar 125 r).bind fun _ r => .ok (⟨n3, ds, p1⟩ : VeD) r) (US.ok r) from hco)
    clear hm hv hco
    go_wp2_with fail
    refine HIS.o.mono ?_
    rintro e w7 ⟨rfl, hb7⟩
    have HU7 := J0.m (HV.o.up.below hb7)
    have HX7 := J0.m (Qai HV.o.bx hb7)
    have HY7 := J0.m (Qai HV.o.by_ hb7)
    have HR7 := J0.m (HV.o.gr.trans (Qaq hb7 _))
    have HQ7 := J0.m (HV.o.rows.keep (fun k _ hk => hb7.block k hk))
    clear hb7
    have HCL := J0.m (Qbo HG.o 125 HU7.o)
    go_wp2_with fail
    refine HCL.o.mono ?_
    rintro e wz ⟨⟨tz, hfr, rfl⟩, hu, hg⟩
    clear HCL
    have HCZ := J0.m ((HCE.o).mark hfr)
    have HXZ := J0.m (Qbb hg HX7.o NB3.o)
    have HYZ := J0.m (Qbb hg HY7.o NB2.o)
    have HRZ := J0.m (HR7.o.trans hg)
    have HQZ := J0.m (HQ7.o.grown hg (by have := HB6.o; omega))
    have HUZ := J0.m hu
    clear hu hg hfr
    have d0 := (Qaf HXZ.o 0).trans rfl
    have d1 := (Qaf HXZ.o 1).trans rfl
    have d2 := (Qaf HXZ.o 2).trans rfl
    have y0 := (Qaf HYZ.o 0).trans rfl
    have y1 := (Qaf HYZ.o 1).trans rfl
    have y2 := (Qaf HYZ.o 2).trans rfl
    have g0 := Qaa HYZ.o 0
    have g1 := Qaa HYZ.o 1
    have g2 := Qaa HYZ.o 2
    go_wp2
    refine bodyPost_ret (Qb0 rfl _ _ b2 60 #[.int .u64 n3, .slice Av nv cv, .int .i64 p1] (0, 0) _ rfl (set3 HYZ.o) Try.underlying60 rfl (by kernel_rfl)) rfl ?_
    refine ⟨⟨n3, ⟨Av, nv, cv⟩, p1⟩, Row.s ⟨Av, nv, cv⟩ sv :: l, rfl, (((HQZ.o.far (by have := HB6.o; omega)).far (by have := HB6.o; omega)).far (by have := HB6.o; omega)).lower (by have := HB6.o; omega), ?_, Qmv HRZ.o LB2.o, fun ts d r h1 h2 => ?_⟩
    ·rw [← HFE.o _ (Co.Qfw HCZ.o)]
     exact up3 HUZ.o GB2.o
    ·have := Co.val HCZ.o HF0.o ts d r h1 h2
     subst this
     refine ⟨rfl, ⟨sv, List.mem_cons_self, ?_⟩, rfl⟩
     obtain ⟨r1, hr1⟩ := okOf HCZ.o HF0.o h1 h2 HNE.o
     exact (HV.o.tr r1 hr1).imp (fun _ _ h => h.mono (fun _ hm => List.mem_cons_of_mem _ hm))
   ·have hv : US.is 4 ⟨#[125]⟩ (.ok r) = false := (by simpa using hm : isM 125 r = false)
    rw [hv] at HIS
    rw [if_neg hm] at hco
    have HCO := J0.m hco
    clear hm hv hco
    go_wp2_with fail
    refine HIS.o.mono ?_
    rintro e w7 ⟨rfl, hb7⟩
    have HU7 := J0.m (HV.o.up.below hb7)
    have HX7 := J0.m (Qai HV.o.bx hb7)
    have HY7 := J0.m (Qai HV.o.by_ hb7)
    have HR7 := J0.m (HV.o.gr.trans (Qaq hb7 _))
    have HQ7 := J0.m (HV.o.rows.keep (fun k _ hk => hb7.block k hk))
    have HZ7 : J0 (B6 ≤ w7.heap.size) := ⟨Nat.le_trans HV.o.bl hb7.size⟩
    clear hb7
    have S0 : (fun w' : World => w'.cell? ⟨b3, 1, none⟩ = some (.slice Av nv cv)) w7.drew := (Qaf HX7.o 1).trans rfl
    go_wp2
    refine Qg7 (n := 8) (S := fun w' => w'.cell? ⟨b3, 1, none⟩ = some (.slice Av nv cv)) (ds := [7]) #[false, false, false, false, false, false, false, false] (by kernel_rfl) rfl rfl (S0) (fun hHeld => ?_)
    refine Qck (i := 0) (N := some 28) (v := ?_) (a' := ?_) #[true, false, false, false, false, false, false, false] rfl rfl (by kernel_rfl) (fun _ _ _ h => h) (Or.inl ⟨by rfl, ?_⟩) ?_ ?_
    rotate_left
    ·intro w'
     go_simp
     with_reducible rfl
    rotate_left
    ·simp only [Act.put, List.setIfInBounds_toArray, List.set_cons_zero, List.set_cons_succ, Qbg, Qbs]
     rfl
    refine Qg6 (i := 1) (N := some 29) (v := ?_) (a' := ?_) #[true, true, false, false, false, false, false, false] rfl rfl (by kernel_rfl) (fun _ _ _ h => h) (Or.inl ⟨by rfl, ?_⟩) hHeld ?_ ?_
    rotate_left
    ·intro w' hS'
     have hS2 : w'.cell? ⟨b3, 1, none⟩ = some (.slice Av nv cv) := hS'
     clear hS'
     go_simp
     with_reducible rfl
    rotate_left
    ·simp only [Act.put, List.setIfInBounds_toArray, List.set_cons_zero, List.set_cons_succ, Qbg, Qbs]
     rfl
    refine Qck (i := 2) (N := some 30) (v := ?_) (a' := ?_) #[true, true, true, false, false, false, false, false] rfl rfl (by kernel_rfl) (fun _ _ _ h => h) (Or.inl ⟨by rfl, ?_⟩) ?_ ?_
    rotate_left
    ·intro w'
     go_simp
     with_reducible rfl
    rotate_left
    ·simp only [Act.put, List.setIfInBounds_toArray, List.set_cons_zero, List.set_cons_succ, Qbg, Qbs]
     rfl
    refine one_ (i := 3) (N := some 31) #[true, true, true, true, false, false, false, false] rfl rfl (by kernel_rfl) (by decide) (fun K hK => ?_)
    refine Qqg Try.func83 (by kernel_rfl) rfl #[.pointer (some ⟨g, 0, none⟩)] (by rfl) rfl rfl (by (try simp only [List.map_toArray, List.map_cons, List.map_nil]); first | done | rfl) ?_
    refine (Qlj w7.drew A c L g (.ok r) HG.o HL.o (HU7.o.below (Qad (Below.refl _ _)))).mono ?_
    rintro e w8 ⟨x, nsx, rfl, hrn, hnew, hu, hg, hval⟩
    have hgd : w7.grownBy w8 (some g) := (Qaq (Qad (Below.refl _ _)) _).trans hg
    have HX8 := J0.m (Qbb hgd HX7.o NB3.o)
    have HY8 := J0.m (Qbb hgd HY7.o NB2.o)
    have HR8 := J0.m (HR7.o.trans hgd)
    have HQ8 := J0.m (Qnu (w0 := w7) (HQ7.o.grown hgd (by have := HB6.o; omega)) (r := Row.n x.val nsx) (show Row.holds w8 B6 (Row.n x.val nsx) from Qfs (d := kn) Qh8 hrn (fun _ _ => rfl) (fun k hk => Nat.le_trans HZ7.o (hnew k hk))) (fun k hk => hnew k hk) HQ7.o)
    have HU8 := J0.m hu
    have HVAL := J0.m hval
    have HZ8 : J0 (B6 ≤ w8.heap.size) := ⟨Nat.le_trans HZ7.o hgd.size⟩
    have SC : (fun w' : World => w'.cell? ⟨b3, 1, none⟩ = some (.slice Av nv cv)) w8 := (Qaf HX8.o 1).trans rfl
    clear hrn hnew hu hg hval hgd
    refine ⟨_, rfl, ?_⟩
    refine hK.out _ _ (SC) (fun hHeld => ?_)
    clear hK K
    have HBZ := J0.m (show Below w8.heap.size w8 (w8.alloc (.cells #[.int .i64 x.k, .string x.a, .string x.b, .string x.c, .string x.sep, .string x.ty, .slice x.val.A x.val.n x.val.c, .int .i64 x.pl] 62)) from Qab (Below.refl _ _) _)
    have SB : (fun w' : World => w'.cell? ⟨b3, 1, none⟩ = some (.slice Av nv cv)) (w8.alloc (.cells #[.int .i64 x.k, .string x.a, .string x.b, .string x.c, .string x.sep, .string x.ty, .slice x.val.A x.val.n x.val.c, .int .i64 x.pl] 62)) := (Qaf (Qai HX8.o HBZ.o) 1).trans rfl
    refine one_ (i := 4) (N := some 32) #[true, true, true, true, true, false, false, false] rfl rfl (by kernel_rfl) (by decide) (fun K hK => ?_)
    refine Qhy (w1 := ?_) (v := ?_) (by rfl) rfl ?_ ?_
    rotate_left 2
    ·go_simp
     first | rfl | (constructor <;> rfl)
    refine hK.out _ _ (SB) (fun hHeld => ?_)
    clear hK K
    refine one_ (i := 5) (N := some 33) #[true, true, true, true, true, true, false, false] rfl rfl (by kernel_rfl) (by decide) (fun K hK => ?_)
    refine Kd.Qe2 (N := some 33) rfl kst (w0 := w8) B6 (by rfl) (.tmp 29) (.tmp 32) 58 62 (.agg #[.int .i64 0, .string ⟨#[]⟩, .string ⟨#[]⟩, .string ⟨#[]⟩, .string ⟨#[]⟩, .string ⟨#[]⟩, .slice none 0 0, .int .i64 0]) 120 rfl Try.underlying58 infoS rfl (by decide) (by omega) (.slice Av nv cv) sv x (stCs x) (fun _ => True) (fun _ => False) (by rfl) ⟨w8.heap.size, 0, none⟩ 1 (by rfl) (World.news_of_block (cs := (stCs x).toArray) (t := 62) (fr := (0, 0)) (heap_alloc_new _ _)) (Qp6 _ _ _ x) (fun _ hk => hk.elim) (fun _ _ => trivial) (Kd.Qb8 (d := kst) HQ8.o.head HBZ.o) (HBZ.o.mono HZ8.o) (by have := HZ8.o; have := HBZ.o.size; omega) (by have := HV.o.nn; have := HN.o; omega) ?_
    intro v2 w9 ho hb hw
    obtain ⟨A2, c2_, hv2⟩ := Kd.Qc4 ho
    rw [List.length_append, List.length_singleton] at hv2
    subst hv2
    have hq9 : Rows w9 B6 (Row.s ⟨A2, sv.length + 1, c2_⟩ (sv ++ [x]) :: Row.n x.val nsx :: l) := (HQ8.o.keep (fun k _ hk => HBZ.o.block k hk)).grow hw.grown ho hw.at
    have hne3 : some b3 ≠ (Value.slice Av nv cv).ownBlock := fun e => by have := (HQ8.o.in_ b3 (by rw [e]; exact List.mem_cons_self)).1; have := HB6.o; omega
    have hne2 : some b2 ≠ (Value.slice Av nv cv).ownBlock := fun e => by have := (HQ8.o.in_ b2 (by rw [e]; exact List.mem_cons_self)).1; have := HB6.o; omega
    have HX9 := J0.m (Qbh (Qai HX8.o HBZ.o) hw.grown hne3)
    have HY9 := J0.m (Qbh (Qai HY8.o HBZ.o) hw.grown hne2)
    have HU9 := J0.m (Qgo (HU8.o.below HBZ.o) hw.grown (fun k hk => by have := (HQ8.o.in_ k (by rw [← hk]; exact List.mem_cons_self)).1; have := HB6.o; omega))
    have HR9 := J0.m (Qgh (HR8.o.trans (Qaq HBZ.o _)) hw.grown (fun k hk => by have := (HQ8.o.in_ k (by rw [← hk]; exact List.mem_cons_self)).1; have := HB6.o; omega))
    have HZ9 : J0 (B6 ≤ w9.heap.size) := ⟨by have := HZ8.o; have := HBZ.o.size; have := hw.grown.size; omega⟩
    have HQ9 := J0.m hq9
    have SA : (fun w' : World => w'.cell? ⟨b3, 1, none⟩ = some (.slice Av nv cv)) w9 := (Qaf HX9.o 1).trans rfl
    have c1_9 : w9.cell? ⟨b3, 1, none⟩ = some (.slice Av nv cv) := SA
    have f1_9 := Qaa HX9.o 1
    clear ho hb hw hq9 hne3 hne2
    refine hK.out _ _ (SA) (fun hHeld => ?_)
    clear hK K
    refine Qck (i := 6) (N := some 34) (v := ?_) (a' := ?_) #[true, true, true, true, true, true, true, false] rfl rfl (by kernel_rfl) (fun _ _ _ h => h) (Or.inl ⟨by rfl, ?_⟩) ?_ ?_
    rotate_left
    ·intro w'
     go_simp
     with_reducible rfl
    rotate_left
    ·simp only [Act.put, List.setIfInBounds_toArray, List.set_cons_zero, List.set_cons_succ, Qbg, Qbs]
     rfl
    refine Qlu (i := 7) (N := none) #[true, true, true, true, true, true, true, true] rfl rfl (by kernel_rfl) (by decide) (fun K hK => ?_)
    refine Qij (w1 := ?_) (by rfl) rfl ?_ ?_
    rotate_left
    ·go_simp
     first | rfl | (constructor <;> rfl)
    refine hK.out _ _ ?_
    clear hK K
    refine Qkm (by kernel_rfl) ?_
    obtain ⟨dd, hdd⟩ : ∃ dd, ∀ d r', P.stepW r = .ok d r' → d = dd := by
     cases hx : P.stepW r with
     | ok d r' => exact ⟨d, fun d' r'' h => by cases h; rfl⟩
     | bad e q => exact ⟨⟨0, ⟨#[]⟩, ⟨#[]⟩, ⟨#[]⟩, ⟨#[]⟩, ⟨#[]⟩, [], 0⟩, fun d' r'' h => by cases h⟩
    go_wp2
    go_roundg m
    case measure => omega
    case rel =>
     refine ⟨(US.ok r).step P.stepW, ⟨A2, sv.length + 1, c2_⟩, sv ++ [x], Row.n x.val nsx :: l, ds ++ [dd], ⟨{ up := ?_, gr := ?_, bx := ?_, by_ := ?_, rows := ?_, bl := ?_, nn := ?_, tr := ?_, co := ?_ }⟩⟩
     ·exact HU9.o.far GB3.o 1 _
     ·exact Qa5 (g := g) HR9.o LB3.o 1 _
     ·exact (Qbu HX9.o _).trans (by rfl)
     ·exact Qbq NB23.o HY9.o _
     ·exact HQ9.o.far (by have := HB6.o; omega)
     ·simpa using HZ9.o
     ·have := HV.o.nn; rw [List.length_append, List.length_singleton]; omega
     ·intro r1 hr1
      obtain ⟨ts, a, h1, h2⟩ := Qd6 hr1
      cases h1
      have := hdd a r1 h2
      subst this
      obtain ⟨m1, m2, m3, m4, m5, m6, m7, m8⟩ := HVAL.o r a r1 rfl h2
      subst m7
      exact ((HV.o.tr r rfl).imp (fun _ _ h => h.mono (fun _ hm => List.mem_cons_of_mem _ hm))).snoc ⟨m1, m2, m3, m4, m5, m6, List.mem_cons_self, m8⟩
     ·have hc : Co F (fun r => (P.stepW r).bind fun d r => (P.Qfd m (ds ++ [d]) r).bind fun l r => (Qar 125 r).bind fun _ r => .ok (⟨n3, l, p1⟩ : VeD) r) (US.ok r) := by
       show F = _
       rw [HCO.o, Qhv]
      exact Co.call (P := fun _ => True) hc (fun ts a r1 h1 h2 => by cases h1; rw [hdd a r1 h2])
theorem Up.len {w : World} {A : Option Addr} {c : Nat} {L : List Tk} {g : Nat} {s : US} (h : Up w A c L g s) : ∀ ts, s = .ok ts → ts.length ≤ L.length := by
 rintro ts rfl
 obtain ⟨q, lv, v5, v6, hq, hp⟩ := h
 rw [← hq.2, List.length_drop]; omega
theorem Qi4 {w' w0 : World} {B : Nat} {q : Row} {l m : List Row} (h : Rows w' B (q :: l)) (hm : Rows w' w0.heap.size m) (hB : B ≤ w0.heap.size) (h0 : Rows w0 B (q :: l)) : Rows w' B (q :: (m ++ l)) := by
 have hj := hm.join (base := B) h.tail hB (fun i hi => (h0.tail.in_ i hi).2)
 refine ⟨fun r hr => ?_, ⟨fun k hk hmem => ?_, hj.lone⟩⟩
 ·rcases List.mem_cons.1 hr with rfl | hr
  ·exact h.head
  ·exact hj.holds r hr
 ·rw [List.map_append] at hmem
  rcases List.mem_append.1 hmem with hmem | hmem
  ·have h1 := (hm.in_ k hmem).1
   have h2 := (h0.in_ k (by rw [← hk]; exact List.mem_cons_self)).2
   omega
  ·exact h.lone.1 k hk hmem
structure EvL (F : Res EvD) (nm : ByteArray) (p : Int) (w : World) (A : Option Addr) (c : Nat) (L : List Tk) (g b2 b3 B N : Nat) (k : Nat) (wr : World) (S : US) (v : Sl) (sv : List VeV) (l : List Row) (ds : List VeD) : Prop where
 up : Up wr A c L g S
 gr : w.grownBy wr (some g)
 bx : wr.heap[b3]? = some (.cells #[.string nm, .slice v.A v.n v.c, .int .i64 p] 57 (0, 0))
 by_ : wr.heap[b2]? = some (.cells #[.string ⟨#[]⟩, .slice none 0 0, .int .i64 0] 57 (0, 0))
 rows : Rows wr B (Row.v v sv :: l)
 bl : B ≤ wr.heap.size
 nn : sv.length + k ≤ N
 tr : ∀ r, S = .ok r → All2 (VeT l) ds sv
 co : Co F (fun r => (P.Qc5 k ds r).bind fun l r => (Qar 125 r).bind fun _ r => .ok ⟨nm, l, p⟩ r) S
theorem len4 {s : US} {L : List Tk} {r : List Tk} (h : ∀ ts, s = .ok ts → ts.length ≤ L.length) (hr : (((s.step (P.Qd2 P.Qfo)).step P.Qdp).step (Qar 123)) = .ok r) : r.length ≤ L.length := by
 obtain ⟨t2, a2, h2, k2⟩ := Qd6 hr
 obtain ⟨t1, a1, h1, k1⟩ := Qd6 h2
 obtain ⟨t0, a0, h0, k0⟩ := Qd6 h1
 have e0 := h _ h0
 have e1 := P.Qdy k0
 have e2 := P.Qdz k1
 have e3 := (P.Qcb k2).2.2.2
 omega
theorem Co.is {β : Type} {F : Res β} {f g : List Tk → Res β} {S : US} {k : Int} {x : ByteArray} {b : Bool} (h : Co F (fun r => if isT k x r then f r else g r) S) (hb : S.is k x = b) : Co F (if b then f else g) S := by
 refine h.to (fun r hr => ?_)
 subst hr
 have hb : isT k x r = b := hb
 rw [hb]
 cases b <;> rfl
theorem Qki (w : World) (A : Option Addr) (c : Nat) (L : List Tk) (g : Nat) (s : US) (hG : Good L) (hL : L.length ≤ 33554432) (h : Up w A c L g s) :
  Calls Try.prog 40 #[.pointer (some ⟨g, 0, none⟩)] w fun e w' => ∃ x l, e = .returned (.agg #[.string x.name, .slice x.vers.A x.vers.n x.vers.c, .int .i64 x.pl]) ∧ Rows w' w.heap.size l ∧ Up w' A c L g (s.step P.Qe0) ∧ w.grownBy w' (some g) ∧ ∀ ts d r, s = .ok ts → P.Qe0 ts = .ok d r → EvT l d x := by
 obtain ⟨w0, hw0⟩ : ∃ w0, w0 = w.alloc (.cells #[.string ⟨#[]⟩, .slice none 0 0, .int .i64 0] 57) := ⟨_, rfl⟩
 obtain ⟨b2, hb2⟩ : ∃ b2, b2 = w.heap.size := ⟨_, rfl⟩
 have hB0 : Below w.heap.size w w0 := by rw [hw0]; exact Qab (Below.refl _ _) _
 have HU0 := J0.m (h.below hB0)
 have HR0 := J0.m (Qaq hB0 (some g))
 have HY0 := J0.m (show w0.heap[b2]? = some (.cells #[.string ⟨#[]⟩, .slice none 0 0, .int .i64 0] 57 (0, 0)) from by rw [hw0, hb2]; exact Qa1 _ _)
 have GB2 : J0 (g < b2) := ⟨by rw [hb2]; exact h.glt⟩
 have NB2 : J0 (b2 ≠ g) := ⟨by have := GB2.o; omega⟩
 have LB2 : J0 (w.heap.size ≤ b2) := ⟨by rw [hb2]; exact Nat.le_refl _⟩
 have HB2 := J0.m hb2
 have HW0 := J0.m hw0
 have HG := J0.m hG
 have HL := J0.m hL
 have HSZ := J0.m h.len
 obtain ⟨F, hF0, hFe⟩ := Co.start s P.Qe0
 have HNE : J0 (∀ p, F ≠ .bad 0 p) := ⟨by
  intro p hp
  cases s with
  | ok ts => exact P.Qjj ts p (Eq.trans (Eq.symm hF0) hp)
  | bad e q =>
   obtain ⟨_, _, _, _, hq, _⟩ := h
   have : F = .bad e q := hF0
   rw [this] at hp
   cases hp
   exact hq.2.2 rfl⟩
 have HF0 := J0.m hF0
 have HFE := J0.m hFe
 have HC0 := J0.m (show Co F (fun ts => (P.Qd2 P.Qfo ts).bind fun t r => (P.Qdp r).bind fun m r => (Qar 123 r).bind fun _ r => (P.Qc5 (r.length + 1) [] r).bind fun l r => (Qar 125 r).bind fun _ r => .ok ⟨m.f1, l, t.f3⟩ r) s from hF0)
 have HCL := J0.m (Qcz HG.o P.Qfo HU0.o)
 clear h hw0 hb2 hB0 hG hL hF0 hFe
 go_enter Try.func40, Try.ntmps40
 go_wp2_with fail
 rw [← HW0.o, ← HB2.o]
 refine HCL.o.mono ?_
 rintro e w1 ⟨⟨⟨k1, s1, n1, p1, e1⟩, hfr, rfl⟩, hu, hg⟩
 clear HCL
 have HC1 := J0.m ((HC0.o).word hfr)
 have HU1 := J0.m hu
 have HR1 := J0.m (HR0.o.trans hg)
 have HY1 := J0.m (Qbb hg HY0.o NB2.o)
 clear hu hg hfr
 obtain ⟨fd0, fd1, fd2, fd3⟩ := fld ⟨k1, s1, n1, p1, e1⟩
 have HCL := J0.m (Qbw HG.o HU1.o)
 go_wp2_with fail
 refine HCL.o.mono ?_
 rintro e w4 ⟨⟨⟨k3, nm, n3, p3, e3⟩, hfr, rfl⟩, hu, hg⟩
 clear HCL
 have HC4 := J0.m (Co.name HC1.o hfr)
 have HU4 := J0.m hu
 have HR4 := J0.m (HR1.o.trans hg)
 have HY4 := J0.m (Qbb hg HY1.o NB2.o)
 clear hu hg hfr
 obtain ⟨b3, hb3⟩ : ∃ b3, b3 = w4.heap.size := ⟨_, rfl⟩
 obtain ⟨w5, hw5⟩ : ∃ w5, w5 = w4.alloc (.cells #[.string nm, .slice none 0 0, .int .i64 p1] 57) := ⟨_, rfl⟩
 have hb : Below w4.heap.size w4 w5 := by rw [hw5]; exact Qab (Below.refl _ _) _
 have HU5 := J0.m (HU4.o.below hb)
 have HR5 := J0.m (HR4.o.trans (Qaq hb _))
 have HY5 := J0.m (Qai HY4.o hb)
 have HX5 := J0.m (show w5.heap[b3]? = some (.cells #[.string nm, .slice none 0 0, .int .i64 p1] 57 (0, 0)) from by rw [hw5, hb3]; exact Qa1 _ _)
 have GB3 : J0 (g < b3) := ⟨by rw [hb3]; exact HU4.o.glt⟩
 have NB3 : J0 (b3 ≠ g) := ⟨by have := GB3.o; omega⟩
 have LB3 : J0 (w.heap.size ≤ b3) := ⟨by rw [hb3]; exact HR4.o.size⟩
 have NB23 : J0 (b2 ≠ b3) := ⟨by have := Qcc HY4.o; rw [hb3]; omega⟩
 have HB3 := J0.m hb3
 have HW5 := J0.m hw5
 clear hb hw5 hb3
 have HCL := J0.m (Qbo HG.o 123 HU5.o)
 go_wp2_with fail
 rw [← HW5.o, ← HB3.o]
 refine HCL.o.mono ?_
 rintro e w6 ⟨⟨tq, hfr, rfl⟩, hu, hg⟩
 clear HCL
 have HC6 := J0.m ((HC4.o).mark hfr)
 obtain ⟨S6, hS6⟩ : ∃ S6, S6 = (((s.step (P.Qd2 P.Qfo)).step P.Qdp).step (Qar 123)) := ⟨_, rfl⟩
 have HSL : J0 (∀ r, S6 = .ok r → r.length ≤ L.length) := ⟨fun r hr => by rw [hS6] at hr; exact len4 HSZ.o hr⟩
 obtain ⟨N, hN, hN2⟩ : ∃ N, N ≤ 33554433 ∧ ∀ r, S6 = .ok r → N = r.length + 1 := by
  cases hx : S6 with
  | ok r => exact ⟨r.length + 1, by have := HSL.o r hx; have := HL.o; omega, fun r' h => by cases h; rfl⟩
  | bad e p => exact ⟨0, by omega, fun r' h => by cases h⟩
 have HLP : J0 (EvL F nm p1 w A c L g b2 b3 w6.heap.size N N w6 S6 ⟨none, 0, 0⟩ [] [] []) := ⟨{
  up := by rw [hS6]; exact hu
  gr := HR5.o.trans hg
  bx := Qbb hg HX5.o NB3.o
  by_ := Qbb hg HY5.o NB2.o
  rows := ⟨fun r hr => by rw [List.mem_singleton.1 hr]; exact Kd.Qdq _ _ _ _ _, ⟨fun k hk => by simp [Row.own, Row.sl, Sl.v, Value.ownBlock] at hk, trivial⟩⟩
  bl := Nat.le_refl _
  nn := by simp
  tr := fun _ _ => trivial
  co := by
   rw [hS6]
   exact HC6.o.to (fun r hr => by rw [hN2 r (by rw [hS6]; exact hr)]) }⟩
 have HB6 : J0 (b3 < w6.heap.size ∧ b2 < w6.heap.size ∧ g < w6.heap.size ∧ w.heap.size ≤ w6.heap.size) := ⟨Qcc (Qbb hg HX5.o NB3.o), Qcc (Qbb hg HY5.o NB2.o), hu.glt, (HR5.o.trans hg).size⟩
 obtain ⟨B6, hB6⟩ : ∃ B6, B6 = w6.heap.size := ⟨_, rfl⟩
 rw [← hB6] at HLP HB6
 have HN := J0.m hN
 clear hu hg hfr hN2 hS6 hB6
 go_wp2_with fail
 go_loopg [] N (fun k wr => ∃ S v sv l ds, J0 (EvL F nm p1 w A c L g b2 b3 B6 N k wr S v sv l ds))
 case atStart => exact ⟨_, _, _, _, _, HLP⟩
 case round =>
  obtain ⟨S, ⟨Av, nv, cv⟩, sv, l, ds, HV⟩ := hrel
  have HPOS : J0 (∀ r, S = .ok r → 0 < gk) := ⟨fun r hr => by
   have := HV.o.co
   subst hr
   rcases Nat.eq_zero_or_pos gk with h | h
   ·subst h; exact absurd this (HNE.o 0)
   ·exact h⟩
  have HCO : J0 (Co F (fun r => (P.Qcy r).bind fun d r => if isT 1 P.Qdg r then (P.Qc5 (gk - 1) (ds ++ [d]) r).bind fun l r => (Qar 125 r).bind fun _ r => .ok (⟨nm, l, p1⟩ : EvD) r else (Qar 125 r).bind fun _ r => .ok (⟨nm, ds ++ [d], p1⟩ : EvD) r) S) := ⟨HV.o.co.to (fun r hr => by
   obtain ⟨m, hm⟩ : ∃ m, gk = m + 1 := ⟨gk - 1, by have := HPOS.o r hr; omega⟩
   subst hm
   show (P.Qc5 (m + 1) ds r).bind _ = _
   rw [P.Qc5, Qhv]
   congr 1
   funext d r
   by_cases ht : isT 1 P.Qdg r = true
   ·rw [if_pos ht, if_pos ht]; rfl
   ·rw [if_neg ht, if_neg ht]; rfl)⟩
  obtain ⟨dd, hdd⟩ : ∃ dd, ∀ ts d r', S = .ok ts → P.Qcy ts = .ok d r' → d = dd := by
   cases hS : S with
   | ok r =>
    cases hx : P.Qcy r with
    | ok d r' => exact ⟨d, fun ts d' r'' h1 h2 => by cases h1; rw [hx] at h2; cases h2; rfl⟩
    | bad e q => exact ⟨⟨0, [], 0⟩, fun ts d' r'' h1 h2 => by cases h1; rw [hx] at h2; cases h2⟩
   | bad e q => exact ⟨⟨0, [], 0⟩, fun ts d' r'' h1 h2 => by cases h1⟩
  have HDD := J0.m hdd
  have HC7 := J0.m (Co.call (P := fun _ => True) (g' := fun r => if isT 1 P.Qdg r then (P.Qc5 (gk - 1) (ds ++ [dd]) r).bind fun l r => (Qar 125 r).bind fun _ r => .ok (⟨nm, l, p1⟩ : EvD) r else (Qar 125 r).bind fun _ r => .ok (⟨nm, ds ++ [dd], p1⟩ : EvD) r) HCO.o (fun ts a r h1 h2 => by rw [hdd ts a r h1 h2]))
  clear hdd
  have S0 : (fun w' : World => w'.cell? ⟨b3, 1, none⟩ = some (.slice Av nv cv)) wr.drew := (Qaf HV.o.bx 1).trans rfl
  go_wp2
  refine Qg7 (n := 8) (S := fun w' => w'.cell? ⟨b3, 1, none⟩ = some (.slice Av nv cv)) (ds := [7]) #[false, false, false, false, false, false, false, false] (by kernel_rfl) rfl rfl (S0) (fun hHeld => ?_)
  refine Qck (i := 0) (N := some 12) (v := ?_) (a' := ?_) #[true, false, false, false, false, false, false, false] rfl rfl (by kernel_rfl) (fun _ _ _ h => h) (Or.inl ⟨by rfl, ?_⟩) ?_ ?_
  rotate_left
  ·intro w'
   go_simp
   with_reducible rfl
  rotate_left
  ·simp only [Act.put, List.setIfInBounds_toArray, List.set_cons_zero, List.set_cons_succ, Qbg, Qbs]
   rfl
  refine Qg6 (i := 1) (N := some 13) (v := ?_) (a' := ?_) #[true, true, false, false, false, false, false, false] rfl rfl (by kernel_rfl) (fun _ _ _ h => h) (Or.inl ⟨by rfl, ?_⟩) hHeld ?_ ?_
  rotate_left
  ·intro w' hS'
   have hS2 : w'.cell? ⟨b3, 1, none⟩ = some (.slice Av nv cv) := hS'
   clear hS'
   go_simp
   with_reducible rfl
  rotate_left
  ·simp only [Act.put, List.setIfInBounds_toArray, List.set_cons_zero, List.set_cons_succ, Qbg, Qbs]
   rfl
  refine Qck (i := 2) (N := some 14) (v := ?_) (a' := ?_) #[true, true, true, false, false, false, false, false] rfl rfl (by kernel_rfl) (fun _ _ _ h => h) (Or.inl ⟨by rfl, ?_⟩) ?_ ?_
  rotate_left
  ·intro w'
   go_simp
   with_reducible rfl
  rotate_left
  ·simp only [Act.put, List.setIfInBounds_toArray, List.set_cons_zero, List.set_cons_succ, Qbg, Qbs]
   rfl
  refine one_ (i := 3) (N := some 15) #[true, true, true, true, false, false, false, false] rfl rfl (by kernel_rfl) (by decide) (fun K hK => ?_)
  refine Qqg Try.func62 (by kernel_rfl) rfl #[.pointer (some ⟨g, 0, none⟩)] (by rfl) rfl rfl (by (try simp only [List.map_toArray, List.map_cons, List.map_nil]); first | done | rfl) ?_
  refine (Qig wr.drew A c L g S HG.o HL.o (HV.o.up.below (Qad (Below.refl _ _))) HV.o.up.len).mono ?_
  rintro e w8 ⟨x, lx, rfl, hrn, hu, hg, hval⟩
  have hgd : wr.grownBy w8 (some g) := (Qaq (Qad (Below.refl _ _)) _).trans hg
  have HX8 := J0.m (Qbb hgd HV.o.bx NB3.o)
  have HY8 := J0.m (Qbb hgd HV.o.by_ NB2.o)
  have HR8 := J0.m (HV.o.gr.trans hgd)
  have HQ8 := J0.m (Qi4 (w0 := wr) (HV.o.rows.grown hgd (by have := HB6.o; omega)) hrn HV.o.bl HV.o.rows)
  have HU8 := J0.m hu
  have HVAL := J0.m hval
  have HZ8 : J0 (B6 ≤ w8.heap.size) := ⟨Nat.le_trans HV.o.bl hgd.size⟩
  have SC : (fun w' : World => w'.cell? ⟨b3, 1, none⟩ = some (.slice Av nv cv)) w8 := (Qaf HX8.o 1).trans rfl
  clear hrn hu hg hval hgd
  refine ⟨_, rfl, ?_⟩
  refine hK.out _ _ (SC) (fun hHeld => ?_)
  clear hK K
  have HBZ := J0.m (show Below w8.heap.size w8 (w8.alloc (.cells #[.int .u64 x.num, .slice x.steps.A x.steps.n x.steps.c, .int .i64 x.pl] 60)) from Qab (Below.refl _ _) _)
  have SB : (fun w' : World => w'.cell? ⟨b3, 1, none⟩ = some (.slice Av nv cv)) (w8.alloc (.cells #[.int .u64 x.num, .slice x.steps.A x.steps.n x.steps.c, .int .i64 x.pl] 60)) := (Qaf (Qai HX8.o HBZ.o) 1).trans rfl
  refine one_ (i := 4) (N := some 16) #[true, true, true, true, true, false, false, false] rfl rfl (by kernel_rfl) (by decide) (fun K hK => ?_)
  refine Qhy (w1 := ?_) (v := ?_) (by rfl) rfl ?_ ?_
  rotate_left 2
  ·go_simp
   first | rfl | (constructor <;> rfl)
  refine hK.out _ _ (SB) (fun hHeld => ?_)
  clear hK K
  refine one_ (i := 5) (N := some 17) #[true, true, true, true, true, true, false, false] rfl rfl (by kernel_rfl) (by decide) (fun K hK => ?_)
  refine Kd.Qe2 (N := some 17) rfl kve (w0 := w8) B6 (by rfl) (.tmp 13) (.tmp 16) 55 60 (.agg #[.int .u64 0, .slice none 0 0, .int .i64 0]) 40 rfl Try.underlying55 infoV rfl (by decide) (by omega) (.slice Av nv cv) sv x (veCs x) (fun _ => True) (fun _ => False) (by rfl) ⟨w8.heap.size, 0, none⟩ 1 (by rfl) (World.news_of_block (cs := (veCs x).toArray) (t := 60) (fr := (0, 0)) (heap_alloc_new _ _)) (Qp5 _ _ _ x) (fun _ hk => hk.elim) (fun _ _ => trivial) (Kd.Qb8 (d := kve) HQ8.o.head HBZ.o) (HBZ.o.mono HZ8.o) (by have := HZ8.o; have := HBZ.o.size; omega) (by have := HV.o.nn; have := HN.o; omega) ?_
  intro v2 w9 ho hb hw
  obtain ⟨A2, c2_, hv2⟩ := Kd.Qc4 ho
  rw [List.length_append, List.length_singleton] at hv2
  subst hv2
  have hq9 : Rows w9 B6 (Row.v ⟨A2, sv.length + 1, c2_⟩ (sv ++ [x]) :: (lx ++ l)) := (HQ8.o.keep (fun k _ hk => HBZ.o.block k hk)).grow hw.grown ho hw.at
  have hne3 : some b3 ≠ (Value.slice Av nv cv).ownBlock := fun e => by have := (HQ8.o.in_ b3 (by rw [e]; exact List.mem_cons_self)).1; have := HB6.o; omega
  have hne2 : some b2 ≠ (Value.slice Av nv cv).ownBlock := fun e => by have := (HQ8.o.in_ b2 (by rw [e]; exact List.mem_cons_self)).1; have := HB6.o; omega
  have HX9 := J0.m (Qbh (Qai HX8.o HBZ.o) hw.grown hne3)
  have HY9 := J0.m (Qbh (Qai HY8.o HBZ.o) hw.grown hne2)
  have HU9 := J0.m (Qgo (HU8.o.below HBZ.o) hw.grown (fun k hk => by have := (HQ8.o.in_ k (by rw [← hk]; exact List.mem_cons_self)).1; have := HB6.o; omega))
  have HR9 := J0.m (Qgh (HR8.o.trans (Qaq HBZ.o _)) hw.grown (fun k hk => by have := (HQ8.o.in_ k (by rw [← hk]; exact List.mem_cons_self)).1; have := HB6.o; omega))
  have HZ9 : J0 (B6 ≤ w9.heap.size) := ⟨by have := HZ8.o; have := HBZ.o.size; have := hw.grown.size; omega⟩
  have HQ9 := J0.m hq9
  have SA : (fun w' : World => w'.cell? ⟨b3, 1, none⟩ = some (.slice Av nv cv)) w9 := (Qaf HX9.o 1).trans rfl
  have c1_9 : w9.cell? ⟨b3, 1, none⟩ = some (.slice Av nv cv) := SA
  have f1_9 := Qaa HX9.o 1
  clear ho hb hw hq9 hne3 hne2
  refine hK.out _ _ (SA) (fun hHeld => ?_)
  clear hK K
  refine Qck (i := 6) (N := some 18) (v := ?_) (a' := ?_) #[true, true, true, true, true, true, true, false] rfl rfl (by kernel_rfl) (fun _ _ _ h => h) (Or.inl ⟨by rfl, ?_⟩) ?_ ?_
  rotate_left
  ·intro w'
   go_simp
   with_reducible rfl
  rotate_left
  ·simp only [Act.put, List.setIfInBounds_toArray, List.set_cons_zero, List.set_cons_succ, Qbg, Qbs]
   rfl
  refine Qlu (i := 7) (N := none) #[true, true, true, true, true, true, true, true] rfl rfl (by kernel_rfl) (by decide) (fun K hK => ?_)
  refine Qij (w1 := ?_) (by rfl) rfl ?_ ?_
  rotate_left
  ·go_simp
   first | rfl | (constructor <;> rfl)
  refine hK.out _ _ ?_
  clear hK K
  refine Qkm (by kernel_rfl) ?_
  obtain ⟨wa, hwa⟩ : ∃ wa, wa = w9.setCell ⟨b3, 1, none⟩ (.slice A2 (sv.length + 1) c2_) := ⟨_, rfl⟩
  have HUA := J0.m (show Up wa A c L g _ from by rw [hwa]; exact HU9.o.far GB3.o 1 _)
  have HRA := J0.m (show w.grownBy wa (some g) from by rw [hwa]; exact Qa5 (g := g) HR9.o LB3.o 1 _)
  have HXA := J0.m (show wa.heap[b3]? = some (.cells #[.string nm, .slice A2 (sv.length + 1) c2_, .int .i64 p1] 57 (0, 0)) from by rw [hwa]; exact (Qbu HX9.o _).trans (by rfl))
  have HYA := J0.m (show wa.heap[b2]? = some (.cells #[.string ⟨#[]⟩, .slice none 0 0, .int .i64 0] 57 (0, 0)) from by rw [hwa]; exact Qbq NB23.o HY9.o _)
  have HQA := J0.m (show Rows wa B6 _ from by rw [hwa]; exact HQ9.o.far (by have := HB6.o; omega))
  have HZA : J0 (B6 ≤ wa.heap.size) := ⟨by rw [hwa]; simpa using HZ9.o⟩
  have HTA : J0 (∀ r1, S.step P.Qcy = .ok r1 → All2 (VeT (lx ++ l)) (ds ++ [dd]) (sv ++ [x])) := ⟨fun r1 hr1 => by
   obtain ⟨ts, a, h1, h2⟩ := Qd6 hr1
   have hd := HDD.o ts a r1 h1 h2
   subst hd
   exact ((HV.o.tr ts h1).imp (fun _ _ h => h.mono (fun _ hm => List.mem_append_right _ hm))).snoc ((HVAL.o ts a r1 h1 h2).mono (fun _ hm => List.mem_append_left _ hm))⟩
  have HWA := J0.m hwa
  clear hwa
  have HIS := J0.m (Qfc 1 P.Qdg HUA.o)
  go_wp2_with fail
  rw [← HWA.o]
  cases hb : (S.step P.Qcy).is 1 P.Qdg with
  | true =>
   have HCN := J0.m (HC7.o.is hb)
   have HGK : J0 (0 < gk) := ⟨by
    cases hS : S with
    | ok r => exact HPOS.o r hS
    | bad e q => rw [hS] at hb; cases hb⟩
   rw [hb] at HIS
   clear hb
   refine HIS.o.mono ?_
   rintro e w7 ⟨rfl, hb7⟩
   have HU7 := J0.m (HUA.o.below hb7)
   have HX7 := J0.m (Qai HXA.o hb7)
   have HY7 := J0.m (Qai HYA.o hb7)
   have HR7 := J0.m (HRA.o.trans (Qaq hb7 _))
   have HQ7 := J0.m (HQA.o.keep (fun k _ hk => hb7.block k hk))
   have HZ7 : J0 (B6 ≤ w7.heap.size) := ⟨Nat.le_trans HZA.o hb7.size⟩
   clear hb7
   go_wp2
   go_roundg (gk - 1)
   case measure => have := HGK.o; omega
   case rel =>
    refine ⟨S.step P.Qcy, ⟨A2, sv.length + 1, c2_⟩, sv ++ [x], lx ++ l, ds ++ [dd], ⟨{ up := HU7.o, gr := HR7.o, bx := HX7.o, by_ := HY7.o, rows := HQ7.o, bl := HZ7.o, nn := ?_, tr := HTA.o, co := HCN.o }⟩⟩
    have := HV.o.nn; have := HGK.o; rw [List.length_append, List.length_singleton]; omega
  | false =>
   have HCE := J0.m (show Co F (fun r => (Qar 125 r).bind fun _ r => .ok (⟨nm, ds ++ [dd], p1⟩ : EvD) r) (S.step P.Qcy) from HC7.o.is hb)
   rw [hb] at HIS
   clear hb
   refine HIS.o.mono ?_
   rintro e w7 ⟨rfl, hb7⟩
   have HU7 := J0.m (HUA.o.below hb7)
   have HX7 := J0.m (Qai HXA.o hb7)
   have HY7 := J0.m (Qai HYA.o hb7)
   have HR7 := J0.m (HRA.o.trans (Qaq hb7 _))
   have HQ7 := J0.m (HQA.o.keep (fun k _ hk => hb7.block k hk))
   clear hb7
   have HCL := J0.m (Qbo HG.o 125 HU7.o)
   go_wp2_with fail
   refine HCL.o.mono ?_
   rintro e wz ⟨⟨tz, hfr, rfl⟩, hu, hg⟩
   clear HCL
   have HCZ := J0.m ((HCE.o).mark hfr)
   have HXZ := J0.m (Qbb hg HX7.o NB3.o)
   have HYZ := J0.m (Qbb hg HY7.o NB2.o)
   have HRZ := J0.m (HR7.o.trans hg)
   have HQZ := J0.m (HQ7.o.grown hg (by have := HB6.o; omega))
   have HUZ := J0.m hu
   clear hu hg hfr
   have d0 := (Qaf HXZ.o 0).trans rfl
   have d1 := (Qaf HXZ.o 1).trans rfl
   have d2 := (Qaf HXZ.o 2).trans rfl
   have y0 := (Qaf HYZ.o 0).trans rfl
   have y1 := (Qaf HYZ.o 1).trans rfl
   have y2 := (Qaf HYZ.o 2).trans rfl
   have g0 := Qaa HYZ.o 0
   have g1 := Qaa HYZ.o 1
   have g2 := Qaa HYZ.o 2
   go_wp2
   refine bodyPost_ret (Qb0 rfl _ _ b2 57 #[.string nm, .slice A2 (sv.length + 1) c2_, .int .i64 p1] (0, 0) _ rfl (set3 HYZ.o) Try.underlying57 rfl (by kernel_rfl)) rfl ?_
   refine ⟨⟨nm, ⟨A2, sv.length + 1, c2_⟩, p1⟩, Row.v ⟨A2, sv.length + 1, c2_⟩ (sv ++ [x]) :: (lx ++ l), rfl, (((HQZ.o.far (by have := HB6.o; omega)).far (by have := HB6.o; omega)).far (by have := HB6.o; omega)).lower (by have := HB6.o; omega), ?_, Qmv HRZ.o LB2.o, fun ts d r h1 h2 => ?_⟩
   ·rw [← HFE.o _ (Co.Qfw HCZ.o)]
    exact up3 HUZ.o GB2.o
   ·have := Co.val HCZ.o HF0.o ts d r h1 h2
    subst this
    refine ⟨rfl, ⟨sv ++ [x], List.mem_cons_self, ?_⟩, rfl⟩
    obtain ⟨r1, hr1⟩ := okOf HCZ.o HF0.o h1 h2 HNE.o
    exact (HTA.o r1 hr1).imp (fun _ _ h => h.mono (fun _ hm => List.mem_cons_of_mem _ hm))
end Go.Proofs.Ytbdcndkafaajpaa.A
end
section
namespace Go.Proofs.Ytbdcndkafaajpaa.R
open Go.RowKit Ytbdcndkafaajpaa.X Ytbdcndkafaajpaa.A YtbdcndkafaajpaaW.PrintWords YtbdcndkafaajpaaW.PrintLast YtbdcndkafaajpaaW.PrintMore
open Ytbdcndkafaajpaa.P (Nd EO Res hd isT isM Qar mxl comb mk1 StD VeD EvD)
theorem Up.len {w : World} {A : Option Addr} {c : Nat} {L : List Tk} {g : Nat} {s : US} (h : Up w A c L g s) : ∀ ts, s = .ok ts → ts.length ≤ L.length := by
 rintro ts rfl
 obtain ⟨q, lv, v5, v6, hq, hp⟩ := h
 rw [← hq.2, List.length_drop]; omega
theorem up3 {W : World} {A : Option Addr} {c : Nat} {L : List Tk} {g b : Nat} {s : US} {v0 v1 v2 : Value} (h : Up W A c L g s) (hb : g < b) : Up (((W.setCell ⟨b, 0, none⟩ v0).setCell ⟨b, 1, none⟩ v1).setCell ⟨b, 2, none⟩ v2) A c L g s := ((h.far hb 0 v0).far hb 1 v1).far hb 2 v2
theorem Qgo {w w' : World} {A : Option Addr} {c : Nat} {L : List Tk} {g : Nat} {s : US} {row : Option Nat} (h : Up w A c L g s) (hg : w.grownBy w' row) (hne : ∀ k, row = some k → g < k) : Up w' A c L g s := by
 obtain ⟨q, lv, v5, v6, hq, hp⟩ := h
 exact ⟨q, lv, v5, v6, hq, ⟨Qbh hp.blk hg (fun e => by have := hne g e.symm; omega), Kd.Qfi hp.row hg (fun k hk e => by have := hne k e.symm; omega), hp.lt, hp.cap⟩⟩
theorem Qi3 (w : World) (B : Nat) : Ytbdcndkafaajpaa.A.Rows w B [] := ⟨fun r hr => (by cases hr), trivial⟩
end Go.Proofs.Ytbdcndkafaajpaa.R
end
section
namespace Go.Proofs.Ytbdcndkafaajpaa.A
open Go.RowKit Ytbdcndkafaajpaa.X YtbdcndkafaajpaaW.PrintWords YtbdcndkafaajpaaW.PrintLast YtbdcndkafaajpaaW.PrintMore
open Ytbdcndkafaajpaa.P (Nd EO Res hd isT isM Qar mxl comb mk1 StD VeD EvD)
theorem Qqk (ts : List Tk) : ∀ p, P.endW ts ≠ .bad 0 p := by
 intro p e
 unfold P.endW at e
 split at e
 ·cases e
 ·cases e
theorem Qh1 (ts : List Tk) : ∀ p, P.Qes ts ≠ .bad 0 p := by
 unfold P.Qes
 exact P.Qbd (P.Qh9 _ _ _ (Nat.lt_succ_self _)) fun l r _ => P.Qbd (Qqk _) fun _ r _ => P.Qfa _ _
section
variable {w w' : World} {A : Option Addr} {c : Nat} {L : List Tk} {g : Nat} {s : US}
theorem Qh0 (hG : Good L) (b : Bool) (h : Up w A c L g s) (hb : ∀ ts, s = .ok ts → b = ((hd ts).f0 == 0)) : Calls Try.prog 31 #[.pointer (some ⟨g, 0, none⟩), .bool b] w fun e w' =>
  (∃ t, Fr s t ∧ e = .returned (.agg #[.int .i64 t.f0, .string t.f1, .int .u64 t.f2, .int .i64 t.f3, .int .i64 t.f4])) ∧ Up w' A c L g (s.step P.endW) ∧ w.grownBy w' (some g) := by
 obtain ⟨q, lv, v5, v6, hq, hp⟩ := h
 refine (Qdt w A c L g q _ _ _ b hp hG).mono fun e w' ⟨he, hp'⟩ => ⟨⟨_, hq.fr hp.lt, he⟩, ?_, hp'.2⟩
 have hp' := hp'.1
 cases s with
 | ok ts =>
  obtain ⟨h1, rfl⟩ := hq
  have hb := hb _ rfl
  unfold Qcn at hp'
  rw [if_pos h1] at hp'
  have hh := Qca hp.lt
  by_cases h0 : (hd (L.drop q.at_)).f0 = 0
  ·have : b = true := by rw [hb, h0]; rfl
   subst this
   rw [if_pos rfl, if_pos (by rw [← hh]; exact h0)] at hp'
   have he : (US.ok (L.drop q.at_)).step P.endW = .ok (L.drop q.at_) := step_ok (a := hd (L.drop q.at_)) (by unfold P.endW; rw [if_pos h0])
   rw [he]
   exact ⟨q, _, _, _, ⟨h1, rfl⟩, hp'⟩
  ·have : b = false := by rw [hb]; exact beq_eq_false_iff_ne.2 h0
   subst this
   rw [if_neg (by decide)] at hp'
   unfold Qcq at hp'
   rw [if_pos h1] at hp'
   have he : (US.ok (L.drop q.at_)).step P.endW = .bad 90 (hd (L.drop q.at_)).f3 := Qew (by unfold P.endW; rw [if_neg h0])
   rw [he]
   exact ⟨_, _, _, _, ⟨rfl, by rw [hh], by decide⟩, hp'⟩
 | bad e p =>
  obtain ⟨h1, h2, h0⟩ := hq
  unfold Qcn at hp'
  rw [if_neg (by rw [h1]; exact h0)] at hp'
  exact ⟨_, _, _, _, ⟨h1, h2, h0⟩, hp'⟩
end
structure ScL (F : Res (List EvD)) (w : World) (A : Option Addr) (c : Nat) (L : List Tk) (g b2 b3 B N : Nat) (k : Nat) (wr : World) (S : US) (v : Sl) (sv : List EvV) (l : List Row) (ds : List EvD) : Prop where
 up : Up wr A c L g S
 gr : w.grownBy wr (some g)
 bx : wr.heap[b3]? = some (.cells #[.slice v.A v.n v.c] 27 (0, 0))
 by_ : wr.heap[b2]? = some (.cells #[.slice none 0 0] 27 (0, 0))
 rows : Rows wr B (Row.e v sv :: l)
 bl : B ≤ wr.heap.size
 nn : sv.length + k ≤ N
 tr : ∀ r, S = .ok r → All2 (EvT l) ds sv
 co : Co F (fun r => (P.Qev k ds r).bind fun l r => (P.endW r).bind fun _ r => .ok l r) S
theorem Qi0 (w : World) (A : Option Addr) (c : Nat) (L : List Tk) (g : Nat) (s : US) (hG : Good L) (hL : L.length ≤ 33554432) (h : Up w A c L g s) :
  Calls Try.prog 24 #[.pointer (some ⟨g, 0, none⟩)] w fun e w' => ∃ v l, e = .returned (.agg #[.slice v.A v.n v.c]) ∧ Rows w' w.heap.size l ∧ Up w' A c L g (s.step P.Qes) ∧ w.grownBy w' (some g) ∧ ∀ ts ds r, s = .ok ts → P.Qes ts = .ok ds r → ∃ xs, Row.e v xs ∈ l ∧ All2 (EvT l) ds xs := by
 obtain ⟨w0, hw0⟩ : ∃ w0, w0 = w.alloc (.cells #[.slice none 0 0] 27) := ⟨_, rfl⟩
 obtain ⟨w6, hw6⟩ : ∃ w6, w6 = w0.alloc (.cells #[.slice none 0 0] 27) := ⟨_, rfl⟩
 obtain ⟨b2, hb2⟩ : ∃ b2, b2 = w.heap.size := ⟨_, rfl⟩
 obtain ⟨b3, hb3⟩ : ∃ b3, b3 = w0.heap.size := ⟨_, rfl⟩
 have hB0 : Below w.heap.size w w0 := by rw [hw0]; exact Qab (Below.refl _ _) _
 have hB6 : Below w0.heap.size w0 w6 := by rw [hw6]; exact Qab (Below.refl _ _) _
 have hu := (h.below hB0).below hB6
 have hgr := (Qaq hB0 (some g)).trans (Qaq hB6 (some g))
 have hy0 : w0.heap[b2]? = some (.cells #[.slice none 0 0] 27 (0, 0)) := by rw [hw0, hb2]; exact Qa1 _ _
 have hx6 : w6.heap[b3]? = some (.cells #[.slice none 0 0] 27 (0, 0)) := by rw [hw6, hb3]; exact Qa1 _ _
 have hs0 : w0.heap.size = w.heap.size + 1 := by rw [hw0]; exact Array.size_push _
 have GB2 : J0 (g < b2) := ⟨by rw [hb2]; exact h.glt⟩
 have NB2 : J0 (b2 ≠ g) := ⟨by have := GB2.o; omega⟩
 have LB2 : J0 (w.heap.size ≤ b2) := ⟨by rw [hb2]; exact Nat.le_refl _⟩
 have GB3 : J0 (g < b3) := ⟨by have := GB2.o; omega⟩
 have NB3 : J0 (b3 ≠ g) := ⟨by have := GB3.o; omega⟩
 have LB3 : J0 (w.heap.size ≤ b3) := ⟨by omega⟩
 have NB23 : J0 (b2 ≠ b3) := ⟨by omega⟩
 have HG := J0.m hG
 have HL := J0.m hL
 obtain ⟨F, hF0, hFe⟩ := Co.start s P.Qes
 have HNE : J0 (∀ p, F ≠ .bad 0 p) := ⟨by
  intro p hp
  cases s with
  | ok ts => exact Qh1 ts p (Eq.trans (Eq.symm hF0) hp)
  | bad e q =>
   obtain ⟨_, _, _, _, hq, _⟩ := h
   have : F = .bad e q := hF0
   rw [this] at hp
   cases hp
   exact hq.2.2 rfl⟩
 have HF0 := J0.m hF0
 have HFE := J0.m hFe
 obtain ⟨N, hN, hN2⟩ : ∃ N, N ≤ 33554433 ∧ ∀ r, s = .ok r → N = r.length + 1 := by
  cases hx : s with
  | ok r => exact ⟨r.length + 1, by have := h.len r hx; have := HL.o; omega, fun r' h => by cases h; rfl⟩
  | bad e p => exact ⟨0, by omega, fun r' h => by cases h⟩
 have HLP : J0 (ScL F w A c L g b2 b3 w6.heap.size N N w6 s ⟨none, 0, 0⟩ [] [] []) := ⟨{
  up := hu
  gr := hgr
  bx := hx6
  by_ := Qai hy0 hB6
  rows := ⟨fun r hr => by rw [List.mem_singleton.1 hr]; exact Kd.Qdq _ _ _ _ _, ⟨fun k hk => by simp [Row.own, Row.sl, Sl.v, Value.ownBlock] at hk, trivial⟩⟩
  bl := Nat.le_refl _
  nn := by simp
  tr := fun _ _ => trivial
  co := HF0.o.to (fun r hr => by rw [hN2 r hr]; rfl) }⟩
 have HB6 : J0 (b3 < w6.heap.size ∧ b2 < w6.heap.size ∧ g < w6.heap.size ∧ w.heap.size ≤ w6.heap.size) := ⟨Qcc hx6, Qcc (Qai hy0 hB6), hu.glt, hgr.size⟩
 obtain ⟨B6, hB6e⟩ : ∃ B6, B6 = w6.heap.size := ⟨_, rfl⟩
 rw [← hB6e] at HLP HB6
 have HN := J0.m hN
 have hb3' : b3 = w.heap.size + 1 := by rw [hb3, hs0]
 have HB2 := J0.m hb2
 have HB3 := J0.m hb3'
 rw [hw0] at hw6
 have HW6 := J0.m hw6
 clear h hw0 hw6 hb2 hb3 hb3' hB0 hB6 hu hgr hy0 hx6 hs0 hG hL hF0 hFe hN2 hB6e
 go_enter Try.func24, Try.ntmps24
 go_wp2_with fail
 rw [← HW6.o, ← HB3.o, ← HB2.o]
 go_loopg [] N (fun k wr => ∃ S v sv l ds, J0 (ScL F w A c L g b2 b3 B6 N k wr S v sv l ds))
 case atStart => exact ⟨_, _, _, _, _, HLP⟩
 case round =>
  obtain ⟨S, ⟨Av, nv, cv⟩, sv, l, ds, HV⟩ := hrel
  have HPOS : J0 (∀ r, S = .ok r → 0 < gk) := ⟨fun r hr => by
   have := HV.o.co
   subst hr
   rcases Nat.eq_zero_or_pos gk with h | h
   ·subst h; exact absurd this (HNE.o 0)
   ·exact h⟩
  have HCO : J0 (Co F (fun r => if isT 1 P.Qfo r then (P.Qe0 r).bind fun d r => (P.Qev (gk - 1) (ds ++ [d]) r).bind fun l r => (P.endW r).bind fun _ r => .ok l r else (P.endW r).bind fun _ r => .ok ds r) S) := ⟨HV.o.co.to (fun r hr => by
   obtain ⟨m, hm⟩ : ∃ m, gk = m + 1 := ⟨gk - 1, by have := HPOS.o r hr; omega⟩
   subst hm
   show (P.Qev (m + 1) ds r).bind _ = _
   rw [P.Qev]
   by_cases ht : isT 1 P.Qfo r = true
   ·rw [if_pos ht, if_pos ht, Qhv]; rfl
   ·rw [if_neg ht, if_neg ht]; rfl)⟩
  have HIS := J0.m (Qfc 1 P.Qfo HV.o.up)
  go_wp2_with fail
  cases hb : S.is 1 P.Qfo with
  | true =>
   have HCN := J0.m (show Co F (fun r => (P.Qe0 r).bind fun d r => (P.Qev (gk - 1) (ds ++ [d]) r).bind fun l r => (P.endW r).bind fun _ r => .ok l r) S from HCO.o.is hb)
   have HGK : J0 (0 < gk) := ⟨by
    cases hS : S with
    | ok r => exact HPOS.o r hS
    | bad e q => rw [hS] at hb; cases hb⟩
   rw [hb] at HIS
   clear hb
   refine HIS.o.mono ?_
   rintro e w7 ⟨rfl, hb7⟩
   have HU7 := J0.m (HV.o.up.below hb7)
   have HX7 := J0.m (Qai HV.o.bx hb7)
   have HY7 := J0.m (Qai HV.o.by_ hb7)
   have HR7 := J0.m (HV.o.gr.trans (Qaq hb7 _))
   have HQ7 := J0.m (HV.o.rows.keep (fun k _ hk => hb7.block k hk))
   have HZ7 : J0 (B6 ≤ w7.heap.size) := ⟨Nat.le_trans HV.o.bl hb7.size⟩
   clear hb7
   obtain ⟨dd, hdd⟩ : ∃ dd, ∀ ts d r', S = .ok ts → P.Qe0 ts = .ok d r' → d = dd := by
    cases hS : S with
    | ok r =>
     cases hx : P.Qe0 r with
     | ok d r' => exact ⟨d, fun ts d' r'' h1 h2 => by cases h1; rw [hx] at h2; cases h2; rfl⟩
     | bad e q => exact ⟨⟨⟨#[]⟩, [], 0⟩, fun ts d' r'' h1 h2 => by cases h1; rw [hx] at h2; cases h2⟩
    | bad e q => exact ⟨⟨⟨#[]⟩, [], 0⟩, fun ts d' r'' h1 h2 => by cases h1⟩
   have HDD := J0.m hdd
   have HC7 := J0.m (Co.call (P := fun _ => True) (g' := fun r => (P.Qev (gk - 1) (ds ++ [dd]) r).bind fun l r => (P.endW r).bind fun _ r => .ok l r) HCN.o (fun ts a r h1 h2 => by rw [hdd ts a r h1 h2]))
   clear hdd
   have S0 : (fun w' : World => w'.cell? ⟨b3, 0, none⟩ = some (.slice Av nv cv)) w7.drew := (Qaf HX7.o 0).trans rfl
   go_wp2
   refine Qg7 (n := 8) (S := fun w' => w'.cell? ⟨b3, 0, none⟩ = some (.slice Av nv cv)) (ds := [7]) #[false, false, false, false, false, false, false, false] (by kernel_rfl) rfl rfl (S0) (fun hHeld => ?_)
   refine Qck (i := 0) (N := some 6) (v := ?_) (a' := ?_) #[true, false, false, false, false, false, false, false] rfl rfl (by kernel_rfl) (fun _ _ _ h => h) (Or.inl ⟨by rfl, ?_⟩) ?_ ?_
   rotate_left
   ·intro w'
    go_simp
    with_reducible rfl
   rotate_left
   ·simp only [Act.put, List.setIfInBounds_toArray, List.set_cons_zero, List.set_cons_succ, Qbg, Qbs]
    rfl
   refine Qg6 (i := 1) (N := some 7) (v := ?_) (a' := ?_) #[true, true, false, false, false, false, false, false] rfl rfl (by kernel_rfl) (fun _ _ _ h => h) (Or.inl ⟨by rfl, ?_⟩) hHeld ?_ ?_
   rotate_left
   ·intro w' hS'
    have hS2 : w'.cell? ⟨b3, 0, none⟩ = some (.slice Av nv cv) := hS'
    clear hS'
    go_simp
    with_reducible rfl
   rotate_left
   ·simp only [Act.put, List.setIfInBounds_toArray, List.set_cons_zero, List.set_cons_succ, Qbg, Qbs]
    rfl
   refine Qck (i := 2) (N := some 8) (v := ?_) (a' := ?_) #[true, true, true, false, false, false, false, false] rfl rfl (by kernel_rfl) (fun _ _ _ h => h) (Or.inl ⟨by rfl, ?_⟩) ?_ ?_
   rotate_left
   ·intro w'
    go_simp
    with_reducible rfl
   rotate_left
   ·simp only [Act.put, List.setIfInBounds_toArray, List.set_cons_zero, List.set_cons_succ, Qbg, Qbs]
    rfl
   refine one_ (i := 3) (N := some 9) #[true, true, true, true, false, false, false, false] rfl rfl (by kernel_rfl) (by decide) (fun K hK => ?_)
   refine Qqg Try.func40 (by kernel_rfl) rfl #[.pointer (some ⟨g, 0, none⟩)] (by rfl) rfl rfl (by (try simp only [List.map_toArray, List.map_cons, List.map_nil]); first | done | rfl) ?_
   refine (Qki w7.drew A c L g S HG.o HL.o (HU7.o.below (Qad (Below.refl _ _)))).mono ?_
   rintro e w8 ⟨x, lx, rfl, hrn, hu, hg, hval⟩
   have hgd : w7.grownBy w8 (some g) := (Qaq (Qad (Below.refl _ _)) _).trans hg
   have HX8 := J0.m (Qbb hgd HX7.o NB3.o)
   have HY8 := J0.m (Qbb hgd HY7.o NB2.o)
   have HR8 := J0.m (HR7.o.trans hgd)
   have HQ8 := J0.m (Qi4 (w0 := w7) (HQ7.o.grown hgd (by have := HB6.o; omega)) hrn HZ7.o HQ7.o)
   have HU8 := J0.m hu
   have HVAL := J0.m hval
   have HZ8 : J0 (B6 ≤ w8.heap.size) := ⟨Nat.le_trans HZ7.o hgd.size⟩
   have SC : (fun w' : World => w'.cell? ⟨b3, 0, none⟩ = some (.slice Av nv cv)) w8 := (Qaf HX8.o 0).trans rfl
   clear hrn hu hg hval hgd
   refine ⟨_, rfl, ?_⟩
   refine hK.out _ _ (SC) (fun hHeld => ?_)
   clear hK K
   have HBZ := J0.m (show Below w8.heap.size w8 (w8.alloc (.cells #[.string x.name, .slice x.vers.A x.vers.n x.vers.c, .int .i64 x.pl] 57)) from Qab (Below.refl _ _) _)
   have SB : (fun w' : World => w'.cell? ⟨b3, 0, none⟩ = some (.slice Av nv cv)) (w8.alloc (.cells #[.string x.name, .slice x.vers.A x.vers.n x.vers.c, .int .i64 x.pl] 57)) := (Qaf (Qai HX8.o HBZ.o) 0).trans rfl
   refine one_ (i := 4) (N := some 10) #[true, true, true, true, true, false, false, false] rfl rfl (by kernel_rfl) (by decide) (fun K hK => ?_)
   refine Qhy (w1 := ?_) (v := ?_) (by rfl) rfl ?_ ?_
   rotate_left 2
   ·go_simp
    first | rfl | (constructor <;> rfl)
   refine hK.out _ _ (SB) (fun hHeld => ?_)
   clear hK K
   refine one_ (i := 5) (N := some 11) #[true, true, true, true, true, true, false, false] rfl rfl (by kernel_rfl) (by decide) (fun K hK => ?_)
   refine Kd.Qe2 (N := some 11) rfl kev (w0 := w8) B6 (by rfl) (.tmp 7) (.tmp 10) 25 57 (.agg #[.string ⟨#[]⟩, .slice none 0 0, .int .i64 0]) 48 rfl Try.underlying25 infoE rfl (by decide) (by omega) (.slice Av nv cv) sv x (evCs x) (fun _ => True) (fun _ => False) (by rfl) ⟨w8.heap.size, 0, none⟩ 1 (by rfl) (World.news_of_block (cs := (evCs x).toArray) (t := 57) (fr := (0, 0)) (heap_alloc_new _ _)) (Qqa _ _ _ x) (fun _ hk => hk.elim) (fun _ _ => trivial) (Kd.Qb8 (d := kev) HQ8.o.head HBZ.o) (HBZ.o.mono HZ8.o) (by have := HZ8.o; have := HBZ.o.size; omega) (by have := HV.o.nn; have := HN.o; omega) ?_
   intro v2 w9 ho hb hw
   obtain ⟨A2, c2_, hv2⟩ := Kd.Qc4 ho
   rw [List.length_append, List.length_singleton] at hv2
   subst hv2
   have hq9 : Rows w9 B6 (Row.e ⟨A2, sv.length + 1, c2_⟩ (sv ++ [x]) :: (lx ++ l)) := (HQ8.o.keep (fun k _ hk => HBZ.o.block k hk)).grow hw.grown ho hw.at
   have hne3 : some b3 ≠ (Value.slice Av nv cv).ownBlock := fun e => by have := (HQ8.o.in_ b3 (by rw [e]; exact List.mem_cons_self)).1; have := HB6.o; omega
   have hne2 : some b2 ≠ (Value.slice Av nv cv).ownBlock := fun e => by have := (HQ8.o.in_ b2 (by rw [e]; exact List.mem_cons_self)).1; have := HB6.o; omega
   have HX9 := J0.m (Qbh (Qai HX8.o HBZ.o) hw.grown hne3)
   have HY9 := J0.m (Qbh (Qai HY8.o HBZ.o) hw.grown hne2)
   have HU9 := J0.m (Qgo (HU8.o.below HBZ.o) hw.grown (fun k hk => by have := (HQ8.o.in_ k (by rw [← hk]; exact List.mem_cons_self)).1; have := HB6.o; omega))
   have HR9 := J0.m (Qgh (HR8.o.trans (Qaq HBZ.o _)) hw.grown (fun k hk => by have := (HQ8.o.in_ k (by rw [← hk]; exact List.mem_cons_self)).1; have := HB6.o; omega))
   have HZ9 : J0 (B6 ≤ w9.heap.size) := ⟨by have := HZ8.o; have := HBZ.o.size; have := hw.grown.size; omega⟩
   have HQ9 := J0.m hq9
   have SA : (fun w' : World => w'.cell? ⟨b3, 0, none⟩ = some (.slice Av nv cv)) w9 := (Qaf HX9.o 0).trans rfl
   have c1_9 : w9.cell? ⟨b3, 0, none⟩ = some (.slice Av nv cv) := SA
   have f1_9 := Qaa HX9.o 0
   clear ho hb hw hq9 hne3 hne2
   refine hK.out _ _ (SA) (fun hHeld => ?_)
   clear hK K
   refine Qck (i := 6) (N := some 12) (v := ?_) (a' := ?_) #[true, true, true, true, true, true, true, false] rfl rfl (by kernel_rfl) (fun _ _ _ h => h) (Or.inl ⟨by rfl, ?_⟩) ?_ ?_
   rotate_left
   ·intro w'
    go_simp
    with_reducible rfl
   rotate_left
   ·simp only [Act.put, List.setIfInBounds_toArray, List.set_cons_zero, List.set_cons_succ, Qbg, Qbs]
    rfl
   refine Qlu (i := 7) (N := none) #[true, true, true, true, true, true, true, true] rfl rfl (by kernel_rfl) (by decide) (fun K hK => ?_)
   refine Qij (w1 := ?_) (by rfl) rfl ?_ ?_
   rotate_left
   ·go_simp
    first | rfl | (constructor <;> rfl)
   refine hK.out _ _ ?_
   clear hK K
   refine Qkm (by kernel_rfl) ?_
   go_wp2
   go_roundg (gk - 1)
   case measure => have := HGK.o; omega
   case rel =>
    refine ⟨S.step P.Qe0, ⟨A2, sv.length + 1, c2_⟩, sv ++ [x], lx ++ l, ds ++ [dd], ⟨{ up := ?_, gr := ?_, bx := ?_, by_ := ?_, rows := ?_, bl := ?_, nn := ?_, tr := ?_, co := HC7.o }⟩⟩
    ·exact HU9.o.far GB3.o 0 _
    ·exact Qa5 (g := g) HR9.o LB3.o 0 _
    ·exact (Qbu HX9.o _).trans (by rfl)
    ·exact Qbq NB23.o HY9.o _
    ·exact HQ9.o.far (by have := HB6.o; omega)
    ·simpa using HZ9.o
    ·have := HV.o.nn; have := HGK.o; rw [List.length_append, List.length_singleton]; omega
    ·intro r1 hr1
     obtain ⟨ts, a, h1, h2⟩ := Qd6 hr1
     have hd := HDD.o ts a r1 h1 h2
     subst hd
     exact ((HV.o.tr ts h1).imp (fun _ _ h => h.mono (fun _ hm => List.mem_append_right _ hm))).snoc ((HVAL.o ts a r1 h1 h2).mono (fun _ hm => List.mem_append_left _ hm))
  | false =>
   have HCE := J0.m (show Co F (fun r => (P.endW r).bind fun _ r => .ok ds r) S from HCO.o.is hb)
   rw [hb] at HIS
   clear hb
   refine HIS.o.mono ?_
   rintro e w7 ⟨rfl, hb7⟩
   have HU7 := J0.m (HV.o.up.below hb7)
   have HX7 := J0.m (Qai HV.o.bx hb7)
   have HY7 := J0.m (Qai HV.o.by_ hb7)
   have HR7 := J0.m (HV.o.gr.trans (Qaq hb7 _))
   have HQ7 := J0.m (HV.o.rows.keep (fun k _ hk => hb7.block k hk))
   clear hb7
   go_wp2_with fail
   refine (Qea HU7.o).mono ?_
   rintro e w8 ⟨⟨k2, s2, n2, p2, e2⟩, hf2, rfl, hb⟩
   have HT2 := J0.m hf2
   have HU8 := J0.m (HU7.o.below hb)
   have HX8 := J0.m (Qai HX7.o hb)
   have HY8 := J0.m (Qai HY7.o hb)
   have HR8 := J0.m (HR7.o.trans (Qaq hb _))
   have HQ8 := J0.m (HQ7.o.keep (fun k _ hk => hb.block k hk))
   clear hb hf2
   obtain ⟨gd0, gd1, gd2, gd3⟩ := fld ⟨k2, s2, n2, p2, e2⟩
   have HCL := J0.m (Qh0 HG.o (k2 == 0) HU8.o (fun ts hs => by rw [← HT2.o ts hs]))
   go_wp2_with fail
   refine HCL.o.mono ?_
   rintro e wz ⟨⟨tz, hfr, rfl⟩, hu, hg⟩
   clear HCL
   have HCZ := J0.m (Co.call (P := fun _ => True) (g' := fun r => .ok ds r) HCE.o (fun _ _ _ _ _ => rfl))
   have HXZ := J0.m (Qbb hg HX8.o NB3.o)
   have HYZ := J0.m (Qbb hg HY8.o NB2.o)
   have HRZ := J0.m (HR8.o.trans hg)
   have HQZ := J0.m (HQ8.o.grown hg (by have := HB6.o; omega))
   have HUZ := J0.m hu
   clear hu hg hfr
   have d0 := (Qaf HXZ.o 0).trans rfl
   have y0 := (Qaf HYZ.o 0).trans rfl
   have g0 := Qaa HYZ.o 0
   go_wp2
   refine bodyPost_ret (Qb0 rfl _ _ b2 27 #[.slice Av nv cv] (0, 0) _ rfl (Qb4 HYZ.o 0 _ rfl) Try.underlying27 rfl (by kernel_rfl)) rfl ?_
   refine ⟨⟨Av, nv, cv⟩, Row.e ⟨Av, nv, cv⟩ sv :: l, rfl, (HQZ.o.far (by have := HB6.o; omega)).lower (by have := HB6.o; omega), ?_, Qa5 (g := g) HRZ.o LB2.o 0 _, fun ts d r h1 h2 => ?_⟩
   ·rw [← HFE.o _ (Co.Qfw HCZ.o)]
    exact HUZ.o.far GB2.o 0 _
   ·have := Co.val HCZ.o HF0.o ts d r h1 h2
    subst this
    refine ⟨sv, List.mem_cons_self, ?_⟩
    obtain ⟨r1, hr1⟩ := okOf HCZ.o HF0.o h1 h2 HNE.o
    exact (HV.o.tr r1 hr1).imp (fun _ _ h => h.mono (fun _ hm => List.mem_cons_of_mem _ hm))
end Go.Proofs.Ytbdcndkafaajpaa.A
end
section
namespace Go.Proofs.Ytbdcndkafaajpaa.X
open Go.RowKit YtbdcndkafaajpaaW.PrintWords YtbdcndkafaajpaaW.PrintLast YtbdcndkafaajpaaW.PrintMore
theorem mQ {α : Type} {a b : α} (h : a = b := by (try simp only [List.map_toArray, List.map_cons, List.map_nil]); first | done | rfl | (simp only [List.length_drop, List.length_take]; rfl)) : a = b := h
theorem bR {b : Nat} {w w' : World} (h : Below b w w' := by repeat (first | (with_reducible first | exact HB.o | apply Qab | apply Qac | apply Qad) | exact HB.o)) : Below b w w' := h
theorem dR {w w' : World} (h : Qa9 w w' := by repeat (first | exact Qa9.refl _ | apply Qa9.step)) : Qa9 w w' := h
theorem eQ {p : Prop} {w w' : World} (h : p := by first | rfl | (simp; done) | (simp [*]; done)) (k : Qa9 w w' := by repeat (first | exact Qa9.refl _ | apply Qa9.step)) : p ∧ Qa9 w w' := ⟨h, k⟩
attribute [local go_sem] Qdl Qdj Qef Qee Qc9 Qc8 Qdk Qdi
def strings_IndexByte.f (a0 : ByteArray) (a1 : Int) : Option Int := some (Lib.indexByte a0.data.toList a1.toNat.toUInt8)
theorem strings_IndexByte.calls (a0 : ByteArray) (a1 : Int) (r : Int) (w : World) (h : strings_IndexByte.f a0 a1 = some r) :
  Calls Try.prog 52 #[.string a0, .int .u8 a1] w fun e w' => e = .returned (.int .i64 r) ∧ Qa9 w w' := by
 obtain rfl := Option.some.inj h
 refine (Try.strings_IndexByte a0 a1 w).mono ?_
 rintro e w' ⟨rfl, rfl⟩
 exact ⟨rfl, Qa9.refl _⟩
mutual
def Qa4.l0 : Nat → ByteArray → Int → Option (Int)
 | 0, _, _ => none
 | k + 1, x0, x1 => if x1 < (x0.size : Int) then (if 0 ≤ x1 then (if (bt x0 x1) = 32 then (Qa4.j1 k x0 x1 (bt x0 x1) ((bt x0 x1) == 32)) else (if (bt x0 x1) = 9 then (Qa4.j1 k x0 x1 (bt x0 x1) ((bt x0 x1) == 9)) else (if (bt x0 x1) = 10 then (Qa4.j1 k x0 x1 (bt x0 x1) ((bt x0 x1) == 10)) else (Qa4.j1 k x0 x1 (bt x0 x1) ((bt x0 x1) == 13))))) else (none)) else (some x1)
def Qa4.j1 : Nat → ByteArray → Int → Int → Bool → Option (Int)
 | 0, _, _, _, _ => none
 | k + 1, x0, x1, x12, x14 => if x14 = true then (Qa4.l0 k x0 (wrap64 (x1 + 1))) else (if x12 = 35 then (if 0 ≤ x1 then (if x1 ≤ (x0.size : Int) then ((strings_IndexByte.f (x0.extract (x1 : Int).toNat x0.size) 10).bind fun t101 => (if t101 < 0 then (some (x0.size : Int)) else (Qa4.l0 k x0 (wrap64 (x1 + t101))))) else (none)) else (none)) else (some x1))
end
def Qa4.f (k : Nat) (a0 : ByteArray) (a1 : Int) : Option (Int) := Qa4.l0 k a0 a1
theorem Qa4.Qel : ∀ k, (∀ y0 y1, LeO (Qa4.l0 k y0 y1) (Qa4.l0 (k + 1) y0 y1)) ∧ (∀ y0 y1 y2 y3, LeO (Qa4.j1 k y0 y1 y2 y3) (Qa4.j1 (k + 1) y0 y1 y2 y3))
 | 0 => ⟨fun _ _ r h => by simp [Qa4.l0] at h, fun _ _ _ _ r h => by simp [Qa4.j1] at h⟩
 | k + 1 => by
  obtain ⟨ih0, ih1⟩ := Qa4.Qel k
  refine ⟨?_, ?_⟩
  ·intro y0 y1
   unfold Qa4.l0
   repeat' first
   | (with_reducible exact ih0 _ _)
   | (with_reducible exact ih1 _ _ _ _)
   | (with_reducible exact LeO.refl _)
   | (with_reducible exact LeO.none _)
   | (with_reducible refine LeO.ite ?_ ?_)
   | (with_reducible refine LeO.bind ?_ (fun _ => ?_))
   | exact ih0 _ _
   | exact ih1 _ _ _ _
   | exact LeO.none _
   | refine LeO.ite ?_ ?_
   | refine LeO.bind ?_ (fun _ => ?_)
  ·intro y0 y1 y2 y3
   unfold Qa4.j1
   repeat' first
   | (with_reducible exact ih0 _ _)
   | (with_reducible exact ih1 _ _ _ _)
   | (with_reducible exact LeO.refl _)
   | (with_reducible exact LeO.none _)
   | (with_reducible refine LeO.ite ?_ ?_)
   | (with_reducible refine LeO.bind ?_ (fun _ => ?_))
   | exact ih0 _ _
   | exact ih1 _ _ _ _
   | exact LeO.none _
   | refine LeO.ite ?_ ?_
   | refine LeO.bind ?_ (fun _ => ?_)
theorem Qa4.mono : ∀ a0 a1 k, LeO (Qa4.f k a0 a1) (Qa4.f (k + 1) a0 a1) := by
 intro a0 a1 k
 obtain ⟨ih0, ih1⟩ := Qa4.Qel k
 unfold Qa4.f
 repeat' first
   | (with_reducible exact ih0 _ _)
   | (with_reducible exact ih1 _ _ _ _)
   | (with_reducible exact LeO.refl _)
   | (with_reducible exact LeO.none _)
   | (with_reducible refine LeO.ite ?_ ?_)
   | (with_reducible refine LeO.bind ?_ (fun _ => ?_))
   | exact ih0 _ _
   | exact ih1 _ _ _ _
   | exact LeO.none _
   | refine LeO.ite ?_ ?_
   | refine LeO.bind ?_ (fun _ => ?_)
theorem Qa4.calls (k : Nat) (a0 : ByteArray) (a1 : Int) (r : Int) (w : World) (h : Qa4.f k a0 a1 = some r) :
  Calls Try.prog 34 #[.string a0, .int .i64 a1] w fun e w' => e = .returned (.int .i64 r) ∧ Qa9 w w' := by
 have H : (Qa4.l0 k a0 a1) = some r := h
 clear h
 have H' := J0.m H
 clear H
 go_enter Try.func34, Try.ntmps34
 go_wp2
 go_loopg [1] k (fun kq v1 w' => ∃ (x1_1 : Int), v1 = .int .i64 x1_1 ∧ J0 (Qa4.l0 kq a0 x1_1 = some r) ∧ J0 (kq ≤ k) ∧ Qa9 w w')
 case atStart => exact ⟨(a1), (by first | rfl | (simp; done) | (simp [*]; done)), H', ⟨Nat.le_refl _⟩, dR⟩
 case round =>
  clear H'
  try clear p2
  obtain ⟨x1_1, rfl, HA, HK1, ⟨m1, rfl⟩⟩ := hrel
  cases gk with
  | zero => exact absurd HA.o (by simp [Qa4.l0])
  | succ k1 =>
   have H := HA.o
   clear HA
   simp only [Qa4.l0] at H
   by_cases c3 : x1_1 < (a0.size : Int)
   ·rw [if_pos c3] at H
    have c3b0 : decide (x1_1 < (a0.size : Int)) = true := decide_eq_true c3
    clear c3
    by_cases c4 : 0 ≤ x1_1
    ·rw [if_pos c4] at H
     have c4b0 : decide (0 ≤ x1_1) = true := decide_eq_true c4
     clear c4
     have HC6 := J0.m H
     clear H
     have p5 : 0 ≤ (x1_1 : Int) := dQ
     have q5 : x1_1 < (a0.size : Int) := dQ
     have hx5 := Qbx a0 x1_1
     replace p5 := eq_true p5
     replace q5 := eq_true q5
     go_upto_if 14 with (fail)
     go_cut [14] (fun v14 wc => ∃ (kq : Nat) (x14_5 : Bool), v14 = .bool x14_5 ∧ J0 (Qa4.j1 kq a0 x1_1 (bt a0 x1_1) x14_5 = some r) ∧ J0 (kq ≤ k1) ∧ Qa9 w wc)
     case first =>
      have H := HC6.o
      clear HC6
      by_cases c7 : (bt a0 x1_1) = 32
      ·rw [if_pos c7] at H
       have c7b0 : ((bt a0 x1_1) == 32) = true := beq_iff_eq.mpr c7
       have c7b1 : ((bt a0 x1_1) != 32) = false := bne_eq_false_iff_eq.mpr c7
       clear c7
       (first | rw [c7b0] | (simp only [Qbg, Qbs]; rw [c7b0]) | skip)
       have H' := J0.m H
       clear H
       go_wp2
       go_meet
       case rel => exact ⟨_, (((bt a0 x1_1) == 32)), (by first | rfl | (simp; done) | (simp [*]; done)), H', ⟨by have := HK1.o; first | omega | exact Nat.le_refl _⟩, dR⟩
      ·rw [if_neg c7] at H
       have c7b0 : ((bt a0 x1_1) == 32) = false := beq_eq_false_iff_ne.mpr c7
       have c7b1 : ((bt a0 x1_1) != 32) = true := bne_iff_ne.mpr c7
       (first | rw [c7b0] | (simp only [Qbg, Qbs]; rw [c7b0]) | skip)
       by_cases c8 : (bt a0 x1_1) = 9
       ·rw [if_pos c8] at H
        have c8b0 : ((bt a0 x1_1) == 9) = true := beq_iff_eq.mpr c8
        have c8b1 : ((bt a0 x1_1) != 9) = false := bne_eq_false_iff_eq.mpr c8
        clear c8
        have H' := J0.m H
        clear H
        go_wp2
        go_meet
        case rel => exact ⟨_, (((bt a0 x1_1) == 9)), (by first | rfl | (simp; done) | (simp [*]; done)), H', ⟨by have := HK1.o; first | omega | exact Nat.le_refl _⟩, dR⟩
       ·rw [if_neg c8] at H
        have c8b0 : ((bt a0 x1_1) == 9) = false := beq_eq_false_iff_ne.mpr c8
        have c8b1 : ((bt a0 x1_1) != 9) = true := bne_iff_ne.mpr c8
        by_cases c9 : (bt a0 x1_1) = 10
        ·rw [if_pos c9] at H
         have c9b0 : ((bt a0 x1_1) == 10) = true := beq_iff_eq.mpr c9
         have c9b1 : ((bt a0 x1_1) != 10) = false := bne_eq_false_iff_eq.mpr c9
         clear c9
         have H' := J0.m H
         clear H
         go_wp2
         go_meet
         case rel => exact ⟨_, (((bt a0 x1_1) == 10)), (by first | rfl | (simp; done) | (simp [*]; done)), H', ⟨by have := HK1.o; first | omega | exact Nat.le_refl _⟩, dR⟩
        ·rw [if_neg c9] at H
         have c9b0 : ((bt a0 x1_1) == 10) = false := beq_eq_false_iff_ne.mpr c9
         have c9b1 : ((bt a0 x1_1) != 10) = true := bne_iff_ne.mpr c9
         have H' := J0.m H
         clear H
         go_wp2
         go_meet
         case rel => exact ⟨_, (((bt a0 x1_1) == 13)), (by first | rfl | (simp; done) | (simp [*]; done)), H', ⟨by have := HK1.o; first | omega | exact Nat.le_refl _⟩, dR⟩
     case rest =>
      clear HC6
      try clear p2
      try clear c3
      try clear c3b0
      try clear c4
      try clear c4b0
      try clear p5
      try clear q5
      try clear hx5
      try clear c7
      try clear c7b0
      try clear c7b1
      try clear c8
      try clear c8b0
      try clear c8b1
      try clear c9
      try clear c9b0
      try clear c9b1
      try clear p2
      try clear p5
      try clear q5
      obtain ⟨kq, x14_5, rfl, HA, HJ5, ⟨mc5, rfl⟩⟩ := hcut
      cases kq with
      | zero => exact absurd HA.o (by simp [Qa4.j1])
      | succ kj5 =>
       have H := HA.o
       clear HA
       simp only [Qa4.j1] at H
       by_cases c10 : x14_5 = true
       ·subst c10
        have H1 : (Qa4.l0 kj5 a0 (wrap64 (x1_1 + 1))) = some r := by rw [if_pos rfl] at H; exact H
        clear H
        have H := H1
        clear H1
        have H' := J0.m H
        clear H
        go_wp2
        go_roundg kj5
        case measure => have := HK1.o; have := HJ5.o; omega
        case rel => exact ⟨(wrap64 (x1_1 + 1)), (by first | rfl | (simp; done) | (simp [*]; done)), H', ⟨by have := HK1.o; have := HJ5.o; omega⟩, dR⟩
       ·replace c10 := Bool.eq_false_iff.mpr c10
        subst c10
        have H1 : (if (bt a0 x1_1) = 35 then (if 0 ≤ x1_1 then (if x1_1 ≤ (a0.size : Int) then ((strings_IndexByte.f (a0.extract (x1_1 : Int).toNat a0.size) 10).bind fun t101 => (if t101 < 0 then (some (a0.size : Int)) else (Qa4.l0 kj5 a0 (wrap64 (x1_1 + t101))))) else (none)) else (none)) else (some x1_1)) = some r := by rw [if_neg (show ¬ (false = true) by decide)] at H; exact H
        clear H
        have H := H1
        clear H1
        by_cases c11 : (bt a0 x1_1) = 35
        ·rw [if_pos c11] at H
         have c11b0 : ((bt a0 x1_1) == 35) = true := beq_iff_eq.mpr c11
         have c11b1 : ((bt a0 x1_1) != 35) = false := bne_eq_false_iff_eq.mpr c11
         clear c11
         by_cases c12 : 0 ≤ x1_1
         ·rw [if_pos c12] at H
          have c12b0 := eq_true c12
          have c12b1 : decide (0 ≤ x1_1) = true := decide_eq_true c12
          clear c12
          by_cases c13 : x1_1 ≤ (a0.size : Int)
          ·rw [if_pos c13] at H
           have c13b0 := eq_true c13
           have c13b1 : decide (x1_1 ≤ (a0.size : Int)) = true := decide_eq_true c13
           clear c13
           replace H := Option.bind_eq_some_iff.mp H
           obtain ⟨t101, A140, H⟩ := H
           replace H : (if t101 < 0 then (some (a0.size : Int)) else (Qa4.l0 kj5 a0 (wrap64 (x1_1 + t101)))) = some r := H
           have A14 := J0.m A140
           clear A140
           by_cases c15 : t101 < 0
           ·rw [if_pos c15] at H
            have c15b0 : decide (t101 < 0) = true := decide_eq_true c15
            clear c15
            obtain rfl := Option.some.inj H
            go_wp2_with (first | ((with_reducible refine Qas (f := 52) rfl ?_); refine Qbm (some 26) rfl rfl Try.func52 (by kernel_rfl) rfl #[.string (a0.extract (x1_1 : Int).toNat a0.size), .int .u8 10] rfl mQ ?_; (with_reducible refine (strings_IndexByte.calls (a0.extract (x1_1 : Int).toNat a0.size) 10 t101 _ A14.o).mono ?_); rintro e w' ⟨rfl, ⟨nd, rfl⟩⟩; refine ⟨_, rfl, ?_⟩))
            go_ret
            exact eQ
           ·rw [if_neg c15] at H
            have c15b0 : decide (t101 < 0) = false := decide_eq_false c15
            clear c15
            have H' := J0.m H
            clear H
            go_wp2_with (first | ((with_reducible refine Qas (f := 52) rfl ?_); refine Qbm (some 26) rfl rfl Try.func52 (by kernel_rfl) rfl #[.string (a0.extract (x1_1 : Int).toNat a0.size), .int .u8 10] rfl mQ ?_; (with_reducible refine (strings_IndexByte.calls (a0.extract (x1_1 : Int).toNat a0.size) 10 t101 _ A14.o).mono ?_); rintro e w' ⟨rfl, ⟨nd, rfl⟩⟩; refine ⟨_, rfl, ?_⟩))
            go_roundg kj5
            case measure => have := HK1.o; have := HJ5.o; omega
            case rel => exact ⟨(wrap64 (x1_1 + t101)), (by first | rfl | (simp; done) | (simp [*]; done)), H', ⟨by have := HK1.o; have := HJ5.o; omega⟩, dR⟩
          ·rw [if_neg c13] at H
           exact absurd H (by simp)
         ·rw [if_neg c12] at H
          exact absurd H (by simp)
        ·rw [if_neg c11] at H
         have c11b0 : ((bt a0 x1_1) == 35) = false := beq_eq_false_iff_ne.mpr c11
         have c11b1 : ((bt a0 x1_1) != 35) = true := bne_iff_ne.mpr c11
         obtain rfl := Option.some.inj H
         go_wp2
         go_ret
         exact eQ
    ·rw [if_neg c4] at H
     exact absurd H (by simp)
   ·rw [if_neg c3] at H
    have c3b0 : decide (x1_1 < (a0.size : Int)) = false := decide_eq_false c3
    clear c3
    obtain rfl := Option.some.inj H
    go_wp2
    go_ret
    exact eQ
def Qbk.f (a0 : Int) : Option (Bool) := if a0 ≥ 97 then (if a0 ≤ 122 then (some true) else (if a0 ≥ 65 then (if a0 ≤ 90 then (some true) else (some (a0 == 95))) else (some (a0 == 95)))) else (if a0 ≥ 65 then (if a0 ≤ 90 then (some true) else (some (a0 == 95))) else (some (a0 == 95)))
theorem Qbk.calls (a0 : Int) (r : Bool) (w : World) (h : Qbk.f a0 = some r) :
  Calls Try.prog 53 #[.int .u8 a0] w fun e w' => e = .returned (.bool r) ∧ Qa9 w w' := by
 have H : (if a0 ≥ 97 then (if a0 ≤ 122 then (some true) else (if a0 ≥ 65 then (if a0 ≤ 90 then (some true) else (some (a0 == 95))) else (some (a0 == 95)))) else (if a0 ≥ 65 then (if a0 ≤ 90 then (some true) else (some (a0 == 95))) else (some (a0 == 95)))) = some r := h
 clear h
 by_cases c2 : a0 ≥ 97
 ·rw [if_pos c2] at H
  have c2b0 : decide (97 ≤ a0) = true := decide_eq_true c2
  clear c2
  by_cases c3 : a0 ≤ 122
  ·rw [if_pos c3] at H
   have c3b0 : decide (a0 ≤ 122) = true := decide_eq_true c3
   clear c3
   obtain rfl := Option.some.inj H
   go_enter Try.func53, Try.ntmps53
   go_wp2
   go_ret
   exact eQ
  ·rw [if_neg c3] at H
   have c3b0 : decide (a0 ≤ 122) = false := decide_eq_false c3
   clear c3
   by_cases c4 : a0 ≥ 65
   ·rw [if_pos c4] at H
    have c4b0 : decide (65 ≤ a0) = true := decide_eq_true c4
    clear c4
    by_cases c5 : a0 ≤ 90
    ·rw [if_pos c5] at H
     have c5b0 : decide (a0 ≤ 90) = true := decide_eq_true c5
     clear c5
     obtain rfl := Option.some.inj H
     go_enter Try.func53, Try.ntmps53
     go_wp2
     go_ret
     exact eQ
    ·rw [if_neg c5] at H
     have c5b0 : decide (a0 ≤ 90) = false := decide_eq_false c5
     clear c5
     obtain rfl := Option.some.inj H
     go_enter Try.func53, Try.ntmps53
     go_wp2
     go_ret
     exact eQ
   ·rw [if_neg c4] at H
    have c4b0 : decide (65 ≤ a0) = false := decide_eq_false c4
    clear c4
    obtain rfl := Option.some.inj H
    go_enter Try.func53, Try.ntmps53
    go_wp2
    go_ret
    exact eQ
 ·rw [if_neg c2] at H
  have c2b0 : decide (97 ≤ a0) = false := decide_eq_false c2
  clear c2
  by_cases c6 : a0 ≥ 65
  ·rw [if_pos c6] at H
   have c6b0 : decide (65 ≤ a0) = true := decide_eq_true c6
   clear c6
   by_cases c7 : a0 ≤ 90
   ·rw [if_pos c7] at H
    have c7b0 : decide (a0 ≤ 90) = true := decide_eq_true c7
    clear c7
    obtain rfl := Option.some.inj H
    go_enter Try.func53, Try.ntmps53
    go_wp2
    go_ret
    exact eQ
   ·rw [if_neg c7] at H
    have c7b0 : decide (a0 ≤ 90) = false := decide_eq_false c7
    clear c7
    obtain rfl := Option.some.inj H
    go_enter Try.func53, Try.ntmps53
    go_wp2
    go_ret
    exact eQ
  ·rw [if_neg c6] at H
   have c6b0 : decide (65 ≤ a0) = false := decide_eq_false c6
   clear c6
   obtain rfl := Option.some.inj H
   go_enter Try.func53, Try.ntmps53
   go_wp2
   go_ret
   exact eQ
def Qc2.f (a0 : ByteArray) (a1 : Int) (a2 : Nat) : Option Int := if 0 ≤ a1 ∧ a1 ≤ (a0.size : Int) ∧ a0.size ≤ 2305843009213693952 ∧ (a2 = 56 ∨ a2 = 55) then some ((a1.toNat + G.tw a2 (a0.data.toList.drop a1.toNat) : Nat) : Int) else none
theorem Qc2.calls (a0 : ByteArray) (a1 : Int) (a2 : Nat) (r : Int) (w : World) (h : Qc2.f a0 a1 a2 = some r) :
  Calls Try.prog 54 #[.string a0, .int .i64 a1, .func (.func a2) #[] #[]] w fun e w' => e = .returned (.int .i64 r) ∧ Qa9 w w' := by
 unfold Qc2.f at h
 split at h
 ·rename_i hs
  obtain ⟨h0, h1, h2, h3⟩ := hs
  obtain rfl := Option.some.inj h
  obtain ⟨n, rfl⟩ := Int.eq_ofNat_of_zero_le h0
  rw [Int.toNat_natCast]
  rcases h3 with rfl | rfl
  ·exact G.runDig a0 n w (by omega) h2
  ·exact G.Qns a0 n w (by omega) h2
 ·cases h
def Qbj.f (a0 : Int) : Option (Bool) := if a0 ≥ 48 then (some (decide (a0 ≤ 57))) else (some false)
theorem Qbj.calls (a0 : Int) (r : Bool) (w : World) (h : Qbj.f a0 = some r) :
  Calls Try.prog 56 #[.int .u8 a0] w fun e w' => e = .returned (.bool r) ∧ Qa9 w w' := by
 have H : (if a0 ≥ 48 then (some (decide (a0 ≤ 57))) else (some false)) = some r := h
 clear h
 by_cases c2 : a0 ≥ 48
 ·rw [if_pos c2] at H
  have c2b0 : decide (48 ≤ a0) = true := decide_eq_true c2
  clear c2
  obtain rfl := Option.some.inj H
  go_enter Try.func56, Try.ntmps56
  go_wp2
  go_ret
  exact eQ
 ·rw [if_neg c2] at H
  have c2b0 : decide (48 ≤ a0) = false := decide_eq_false c2
  clear c2
  obtain rfl := Option.some.inj H
  go_enter Try.func56, Try.ntmps56
  go_wp2
  go_ret
  exact eQ
def Qce.f (a0 : ByteArray) : Option (Int × Bool) := if a0.size ≤ 2305843009213693952 then some (match G.numv 0 a0.data.toList with | some x => ((x : Int), true) | none => (0, false)) else none
theorem Qce.calls (a0 : ByteArray) (r1 : Int) (r2 : Bool) (w : World) (h : Qce.f a0 = some (r1, r2)) :
  Calls Try.prog 57 #[.string a0] w fun e w' => e = .returned (.tuple #[.int .u64 r1, .bool r2]) ∧ Qa9 w w' := by
 unfold Qce.f at h
 split at h
 ·rename_i hs
  refine (G.Qjc a0 w hs).mono ?_
  rintro e w' ⟨rfl, rfl⟩
  refine ⟨?_, Qa9.refl _⟩
  have h2 := Option.some.inj h
  revert h2
  cases G.numv 0 a0.data.toList with
  | none => intro h2; rw [Prod.mk.injEq] at h2; obtain ⟨rfl, rfl⟩ := h2; rfl
  | some x => intro h2; rw [Prod.mk.injEq] at h2; obtain ⟨rfl, rfl⟩ := h2; rfl
 ·cases h
def Qa6.j0 : Nat → Int → Bool → Option (Int)
 | 0, _, _ => none
 | k + 1, x0, x9 => if x9 = true then (some (((x0 - 97) % 256) + 10)) else (if x0 ≥ 65 then (if x0 ≤ 70 then (some (((x0 - 65) % 256) + 10)) else (some (-1))) else (some (-1)))
def Qa6.f (k : Nat) (a0 : Int) : Option (Int) := (Qbj.f a0).bind fun t102 => (if t102 = true then (some ((a0 - 48) % 256)) else (if a0 ≥ 97 then (Qa6.j0 k a0 (decide (a0 ≤ 102))) else (Qa6.j0 k a0 false)))
theorem Qa6.Qel : ∀ k, (∀ y0 y1, LeO (Qa6.j0 k y0 y1) (Qa6.j0 (k + 1) y0 y1))
 | 0 => fun _ _ r h => by simp [Qa6.j0] at h
 | k + 1 => by
  have ih0 := Qa6.Qel k
  ·intro y0 y1
   unfold Qa6.j0
   repeat' first
   | (with_reducible exact ih0 _ _)
   | (with_reducible exact LeO.refl _)
   | (with_reducible exact LeO.none _)
   | (with_reducible refine LeO.ite ?_ ?_)
   | (with_reducible refine LeO.bind ?_ (fun _ => ?_))
   | exact ih0 _ _
   | exact LeO.none _
   | refine LeO.ite ?_ ?_
   | refine LeO.bind ?_ (fun _ => ?_)
theorem Qa6.mono : ∀ a0 k, LeO (Qa6.f k a0) (Qa6.f (k + 1) a0) := by
 intro a0 k
 have ih0 := Qa6.Qel k
 unfold Qa6.f
 repeat' first
   | (with_reducible exact ih0 _ _)
   | (with_reducible exact LeO.refl _)
   | (with_reducible exact LeO.none _)
   | (with_reducible refine LeO.ite ?_ ?_)
   | (with_reducible refine LeO.bind ?_ (fun _ => ?_))
   | exact ih0 _ _
   | exact LeO.none _
   | refine LeO.ite ?_ ?_
   | refine LeO.bind ?_ (fun _ => ?_)
theorem Qa6.calls (k : Nat) (a0 : Int) (r : Int) (w : World) (h : Qa6.f k a0 = some r) :
  Calls Try.prog 89 #[.int .u8 a0] w fun e w' => e = .returned (.int .i64 r) ∧ Qa9 w w' := by
 have H : ((Qbj.f a0).bind fun t102 => (if t102 = true then (some ((a0 - 48) % 256)) else (if a0 ≥ 97 then (Qa6.j0 k a0 (decide (a0 ≤ 102))) else (Qa6.j0 k a0 false)))) = some r := h
 clear h
 replace H := Option.bind_eq_some_iff.mp H
 obtain ⟨t102, A20, H⟩ := H
 replace H : (if t102 = true then (some ((a0 - 48) % 256)) else (if a0 ≥ 97 then (Qa6.j0 k a0 (decide (a0 ≤ 102))) else (Qa6.j0 k a0 false))) = some r := H
 have A2 := J0.m A20
 clear A20
 by_cases c3 : t102 = true
 ·subst c3
  have H1 : (some ((a0 - 48) % 256)) = some r := by rw [if_pos rfl] at H; exact H
  clear H
  have H := H1
  clear H1
  obtain rfl := Option.some.inj H
  go_enter Try.func89, Try.ntmps89
  go_wp2_with (first | ((with_reducible refine Qas (f := 56) rfl ?_); refine Qbm (some 5) rfl rfl Try.func56 (by kernel_rfl) rfl #[.int .u8 a0] rfl mQ ?_; (with_reducible refine (Qbj.calls a0 true _ A2.o).mono ?_); rintro e w' ⟨rfl, ⟨nd, rfl⟩⟩; refine ⟨_, rfl, ?_⟩))
  go_ret
  exact eQ
 ·replace c3 := Bool.eq_false_iff.mpr c3
  subst c3
  have H1 : (if a0 ≥ 97 then (Qa6.j0 k a0 (decide (a0 ≤ 102))) else (Qa6.j0 k a0 false)) = some r := by rw [if_neg (show ¬ (false = true) by decide)] at H; exact H
  clear H
  have H := H1
  clear H1
  have HC4 := J0.m H
  clear H
  go_enter Try.func89, Try.ntmps89
  go_upto_region 3 with (first | ((with_reducible refine Qas (f := 56) rfl ?_); refine Qbm (some 5) rfl rfl Try.func56 (by kernel_rfl) rfl #[.int .u8 a0] rfl mQ ?_; (with_reducible refine (Qbj.calls a0 false _ A2.o).mono ?_); rintro e w' ⟨rfl, ⟨nd, rfl⟩⟩; refine ⟨_, rfl, ?_⟩))
  (try simp only [Act.put, List.setIfInBounds_toArray, List.set_cons_zero, List.set_cons_succ])
  go_cut [9] (fun v9 wc => ∃ (kq : Nat) (x9_3 : Bool), v9 = .bool x9_3 ∧ J0 (Qa6.j0 kq a0 x9_3 = some r) ∧ J0 (kq ≤ k) ∧ Qa9 w wc)
  case first =>
   have H := HC4.o
   clear HC4
   by_cases c5 : a0 ≥ 97
   ·rw [if_pos c5] at H
    have c5b0 : decide (97 ≤ a0) = true := decide_eq_true c5
    clear c5
    (first | rw [c5b0] | (simp only [Qbg, Qbs]; rw [c5b0]) | skip)
    have H' := J0.m H
    clear H
    go_wp2
    go_meet
    case rel => exact ⟨_, (decide (a0 ≤ 102)), (by first | rfl | (simp; done) | (simp [*]; done)), H', ⟨by first | omega | exact Nat.le_refl _⟩, dR⟩
   ·rw [if_neg c5] at H
    have c5b0 : decide (97 ≤ a0) = false := decide_eq_false c5
    clear c5
    (first | rw [c5b0] | (simp only [Qbg, Qbs]; rw [c5b0]) | skip)
    have H' := J0.m H
    clear H
    go_wp2
    go_meet
    case rel => exact ⟨_, (false), (by first | rfl | (simp; done) | (simp [*]; done)), H', ⟨by first | omega | exact Nat.le_refl _⟩, dR⟩
  case rest =>
   clear HC4
   try clear p2
   try clear c3
   try clear c5
   try clear c5b0
   obtain ⟨kq, x9_3, rfl, HA, HJ3, ⟨mc3, rfl⟩⟩ := hcut
   cases kq with
   | zero => exact absurd HA.o (by simp [Qa6.j0])
   | succ kj3 =>
    have H := HA.o
    clear HA
    simp only [Qa6.j0] at H
    by_cases c6 : x9_3 = true
    ·subst c6
     have H1 : (some (((a0 - 97) % 256) + 10)) = some r := by rw [if_pos rfl] at H; exact H
     clear H
     have H := H1
     clear H1
     obtain rfl := Option.some.inj H
     go_wp2
     go_ret
     exact eQ
    ·replace c6 := Bool.eq_false_iff.mpr c6
     subst c6
     have H1 : (if a0 ≥ 65 then (if a0 ≤ 70 then (some (((a0 - 65) % 256) + 10)) else (some (-1))) else (some (-1))) = some r := by rw [if_neg (show ¬ (false = true) by decide)] at H; exact H
     clear H
     have H := H1
     clear H1
     by_cases c7 : a0 ≥ 65
     ·rw [if_pos c7] at H
      have c7b0 : decide (65 ≤ a0) = true := decide_eq_true c7
      clear c7
      by_cases c8 : a0 ≤ 70
      ·rw [if_pos c8] at H
       have c8b0 : decide (a0 ≤ 70) = true := decide_eq_true c8
       clear c8
       obtain rfl := Option.some.inj H
       go_wp2
       go_ret
       exact eQ
      ·rw [if_neg c8] at H
       have c8b0 : decide (a0 ≤ 70) = false := decide_eq_false c8
       clear c8
       obtain rfl := Option.some.inj H
       go_wp2
       go_ret
       exact eQ
     ·rw [if_neg c7] at H
      have c7b0 : decide (65 ≤ a0) = false := decide_eq_false c7
      clear c7
      obtain rfl := Option.some.inj H
      go_wp2
      go_ret
      exact eQ
end Go.Proofs.Ytbdcndkafaajpaa.X
end
section
namespace Go.Proofs.Ytbdcndkafaajpaa.X
open Go.RowKit YtbdcndkafaajpaaW.PrintWords YtbdcndkafaajpaaW.PrintLast YtbdcndkafaajpaaW.PrintMore
theorem bx5 {W : World} {b : Nat} {a0 a1 a2 a3 a4 : Value} {t : TypeId} (h : W.heap[b]? = some (.cells #[a0, a1, a2, a3, a4] t (0, 0))) : W.cell? ⟨b, 0, none⟩ = some a0 ∧ W.cell? ⟨b, 1, none⟩ = some a1 ∧ W.cell? ⟨b, 2, none⟩ = some a2 ∧ W.cell? ⟨b, 3, none⟩ = some a3 ∧ W.cell? ⟨b, 4, none⟩ = some a4 :=
 ⟨(Qaf h 0).trans rfl, (Qaf h 1).trans rfl, (Qaf h 2).trans rfl, (Qaf h 3).trans rfl, (Qaf h 4).trans rfl⟩
theorem sv5 {W : World} {b : Nat} {a0 a1 a2 a3 a4 v0 v1 v2 v3 v4 : Value} {t : TypeId} (h : W.heap[b]? = some (.cells #[a0, a1, a2, a3, a4] t (0, 0))) :
 (((((W.setCell ⟨b, 0, none⟩ v0).setCell ⟨b, 1, none⟩ v1).setCell ⟨b, 2, none⟩ v2).setCell ⟨b, 3, none⟩ v3).setCell ⟨b, 4, none⟩ v4).heap[b]? = some (.cells #[v0, v1, v2, v3, v4] t (0, 0)) :=
 Qb4 (Qb4 (Qb4 (Qb4 (Qb4 h 0 v0 rfl) 1 v1 rfl) 2 v2 rfl) 3 v3 rfl) 4 v4 rfl
attribute [local go_sem] Qdl Qdj Qef Qee Qc9 Qc8 Qdk Qdi
mutual
def Qat.j0 : Nat → ByteArray → Int → Int → Bool → Option (Int × Int)
 | 0, _, _, _, _ => none
 | k + 1, x0, x1, x14, x15 => if x15 = true then (if 0 ≤ (wrap64 (x1 + 1)) then (if (wrap64 (x1 + 1)) < (x0.size : Int) then (some (bt x0 (wrap64 (x1 + 1)), wrap64 (x1 + 2))) else (none)) else (none)) else (if x14 = 110 then (some (10, wrap64 (x1 + 2))) else (if x14 = 116 then (some (9, wrap64 (x1 + 2))) else (if x14 = 120 then (if (wrap64 (x1 + 3)) < (x0.size : Int) then (if 0 ≤ (wrap64 (x1 + 2)) then (if (wrap64 (x1 + 2)) < (x0.size : Int) then ((Qa6.f k (bt x0 (wrap64 (x1 + 2)))).bind fun t103 => (if t103 ≥ 0 then (if 0 ≤ (wrap64 (x1 + 3)) then ((Qa6.f k (bt x0 (wrap64 (x1 + 3)))).bind fun t104 => (Qat.j1 k x0 x1 (decide (t104 ≥ 0)))) else (none)) else (Qat.j1 k x0 x1 false))) else (none)) else (none)) else (Qat.j1 k x0 x1 false)) else (some (0, 0)))))
def Qat.j1 : Nat → ByteArray → Int → Bool → Option (Int × Int)
 | 0, _, _, _ => none
 | k + 1, x0, x1, x54 => if x54 = true then (if 0 ≤ (wrap64 (x1 + 2)) then (if (wrap64 (x1 + 2)) < (x0.size : Int) then ((Qa6.f k (bt x0 (wrap64 (x1 + 2)))).bind fun t105 => (if 0 ≤ (wrap64 (x1 + 3)) then (if (wrap64 (x1 + 3)) < (x0.size : Int) then ((Qa6.f k (bt x0 (wrap64 (x1 + 3)))).bind fun t106 => (some ((wrap64 ((wrap64 (16 * t105)) + t106)) % 256, wrap64 (x1 + 4)))) else (none)) else (none))) else (none)) else (none)) else (some (0, 0))
end
def Qat.f (k : Nat) (a0 : ByteArray) (a1 : Int) : Option (Int × Int) := if (wrap64 (a1 + 1)) ≥ (a0.size : Int) then (some (0, 0)) else (if 0 ≤ (wrap64 (a1 + 1)) then (if (wrap64 (a1 + 1)) < (a0.size : Int) then (if (bt a0 (wrap64 (a1 + 1))) = 92 then (Qat.j0 k a0 a1 (bt a0 (wrap64 (a1 + 1))) ((bt a0 (wrap64 (a1 + 1))) == 92)) else (Qat.j0 k a0 a1 (bt a0 (wrap64 (a1 + 1))) ((bt a0 (wrap64 (a1 + 1))) == 34))) else (none)) else (none))
theorem Qat.Qel : ∀ k, (∀ y0 y1 y2 y3, LeO (Qat.j0 k y0 y1 y2 y3) (Qat.j0 (k + 1) y0 y1 y2 y3)) ∧ (∀ y0 y1 y2, LeO (Qat.j1 k y0 y1 y2) (Qat.j1 (k + 1) y0 y1 y2))
 | 0 => ⟨fun _ _ _ _ r h => by simp [Qat.j0] at h, fun _ _ _ r h => by simp [Qat.j1] at h⟩
 | k + 1 => by
  obtain ⟨ih0, ih1⟩ := Qat.Qel k
  refine ⟨?_, ?_⟩
  ·intro y0 y1 y2 y3
   unfold Qat.j0
   repeat' first
   | (with_reducible exact ih0 _ _ _ _)
   | (with_reducible exact ih1 _ _ _)
   | (with_reducible exact Qa6.mono _ _)
   | (with_reducible exact LeO.refl _)
   | (with_reducible exact LeO.none _)
   | (with_reducible refine LeO.ite ?_ ?_)
   | (with_reducible refine LeO.bind ?_ (fun _ => ?_))
   | exact ih0 _ _ _ _
   | exact ih1 _ _ _
   | exact Qa6.mono _ _
   | exact LeO.none _
   | refine LeO.ite ?_ ?_
   | refine LeO.bind ?_ (fun _ => ?_)
  ·intro y0 y1 y2
   unfold Qat.j1
   repeat' first
   | (with_reducible exact ih0 _ _ _ _)
   | (with_reducible exact ih1 _ _ _)
   | (with_reducible exact Qa6.mono _ _)
   | (with_reducible exact LeO.refl _)
   | (with_reducible exact LeO.none _)
   | (with_reducible refine LeO.ite ?_ ?_)
   | (with_reducible refine LeO.bind ?_ (fun _ => ?_))
   | exact ih0 _ _ _ _
   | exact ih1 _ _ _
   | exact Qa6.mono _ _
   | exact LeO.none _
   | refine LeO.ite ?_ ?_
   | refine LeO.bind ?_ (fun _ => ?_)
theorem Qat.mono : ∀ a0 a1 k, LeO (Qat.f k a0 a1) (Qat.f (k + 1) a0 a1) := by
 intro a0 a1 k
 obtain ⟨ih0, ih1⟩ := Qat.Qel k
 unfold Qat.f
 repeat' first
   | (with_reducible exact ih0 _ _ _ _)
   | (with_reducible exact ih1 _ _ _)
   | (with_reducible exact Qa6.mono _ _)
   | (with_reducible exact LeO.refl _)
   | (with_reducible exact LeO.none _)
   | (with_reducible refine LeO.ite ?_ ?_)
   | (with_reducible refine LeO.bind ?_ (fun _ => ?_))
   | exact ih0 _ _ _ _
   | exact ih1 _ _ _
   | exact Qa6.mono _ _
   | exact LeO.none _
   | refine LeO.ite ?_ ?_
   | refine LeO.bind ?_ (fun _ => ?_)
theorem Qat.calls (k : Nat) (a0 : ByteArray) (a1 : Int) (r1 : Int) (r2 : Int) (w : World) (h : Qat.f k a0 a1 = some (r1, r2)) :
  Calls Try.prog 80 #[.string a0, .int .i64 a1] w fun e w' => e = .returned (.tuple #[.int .u8 r1, .int .i64 r2]) ∧ Qa9 w w' := by
 have H : (if (wrap64 (a1 + 1)) ≥ (a0.size : Int) then (some (0, 0)) else (if 0 ≤ (wrap64 (a1 + 1)) then (if (wrap64 (a1 + 1)) < (a0.size : Int) then (if (bt a0 (wrap64 (a1 + 1))) = 92 then (Qat.j0 k a0 a1 (bt a0 (wrap64 (a1 + 1))) ((bt a0 (wrap64 (a1 + 1))) == 92)) else (Qat.j0 k a0 a1 (bt a0 (wrap64 (a1 + 1))) ((bt a0 (wrap64 (a1 + 1))) == 34))) else (none)) else (none))) = some (r1, r2) := h
 clear h
 by_cases c3 : (wrap64 (a1 + 1)) ≥ (a0.size : Int)
 ·rw [if_pos c3] at H
  have c3b0 : decide ((a0.size : Int) ≤ (wrap64 (a1 + 1))) = true := decide_eq_true c3
  clear c3
  simp only [Option.some.injEq, Prod.mk.injEq] at H
  obtain ⟨rfl, rfl⟩ := H
  go_enter Try.func80, Try.ntmps80
  go_wp2
  repeat (go_quiet (fail); try go_wp2)
  go_ret2
  exact eQ
 ·rw [if_neg c3] at H
  have c3b0 : decide ((a0.size : Int) ≤ (wrap64 (a1 + 1))) = false := decide_eq_false c3
  clear c3
  obtain ⟨ji4, hji4⟩ : ∃ j_ : Int, (wrap64 (a1 + 1)) = j_ := ⟨_, rfl⟩
  replace H : (if 0 ≤ (ji4) then (if (ji4) < (a0.size : Int) then (if (bt a0 (ji4)) = 92 then (Qat.j0 k a0 a1 (bt a0 (ji4)) ((bt a0 (ji4)) == 92)) else (Qat.j0 k a0 a1 (bt a0 (ji4)) ((bt a0 (ji4)) == 34))) else (none)) else (none)) = some (r1, r2) := by first | (rw [hji4] at H; exact H) | (simp only [hji4] at H ⊢; exact H)
  (try rw [hji4] at c3b0)
  have hji4w : (IntKind.i64.wrap (a1 + 1)) = ji4 := (Qbg _).trans hji4
  by_cases c5 : 0 ≤ (ji4)
  ·rw [if_pos c5] at H
   have c5b0 : decide (0 ≤ (ji4)) = true := decide_eq_true c5
   clear c5
   by_cases c6 : (ji4) < (a0.size : Int)
   ·rw [if_pos c6] at H
    have c6b0 : decide ((ji4) < (a0.size : Int)) = true := decide_eq_true c6
    clear c6
    have HC8 := J0.m H
    clear H
    have p7 : 0 ≤ ((ji4) : Int) := dQ
    have q7 : (ji4) < (a0.size : Int) := dQ
    have hx7 := Qbx a0 (ji4)
    replace p7 := eq_true p7
    replace q7 := eq_true q7
    go_enter Try.func80, Try.ntmps80
    go_upto_if 15 with (fail)
    repeat (go_quiet (fail); go_upto_if 15 with (fail))
    go_cut [15] (fun v15 wc => ∃ (kq : Nat) (x15_7 : Bool), v15 = .bool x15_7 ∧ J0 (Qat.j0 kq a0 a1 (bt a0 (ji4)) x15_7 = some (r1, r2)) ∧ J0 (kq ≤ k) ∧ Qa9 w wc)
    case first =>
     have H := HC8.o
     clear HC8
     by_cases c9 : (bt a0 (ji4)) = 92
     ·rw [if_pos c9] at H
      have c9b0 : ((bt a0 (ji4)) == 92) = true := beq_iff_eq.mpr c9
      have c9b1 : ((bt a0 (ji4)) != 92) = false := bne_eq_false_iff_eq.mpr c9
      clear c9
      (first | rw [c9b0] | (simp only [Qbg, Qbs]; rw [c9b0]) | skip)
      have H' := J0.m H
      clear H
      go_wp2
      repeat (go_quiet (fail); try go_wp2)
      go_meet
      case rel => exact ⟨_, (((bt a0 (ji4)) == 92)), (by first | rfl | (simp; done) | (simp [*]; done) | (simp [Qbg, IntKind.wrap_u8]; done) | ((try simp only [← hji4]); (first | rfl | (simp; done))) | (simp [*]; done)), H', ⟨by first | omega | exact Nat.le_refl _⟩, dR⟩
     ·rw [if_neg c9] at H
      have c9b0 : ((bt a0 (ji4)) == 92) = false := beq_eq_false_iff_ne.mpr c9
      have c9b1 : ((bt a0 (ji4)) != 92) = true := bne_iff_ne.mpr c9
      (first | rw [c9b0] | (simp only [Qbg, Qbs]; rw [c9b0]) | skip)
      have H' := J0.m H
      clear H
      go_wp2
      repeat (go_quiet (fail); try go_wp2)
      go_meet
      case rel => exact ⟨_, (((bt a0 (ji4)) == 34)), (by first | rfl | (simp; done) | (simp [*]; done) | (simp [Qbg, IntKind.wrap_u8]; done) | ((try simp only [← hji4]); (first | rfl | (simp; done))) | (simp [*]; done)), H', ⟨by first | omega | exact Nat.le_refl _⟩, dR⟩
    case rest =>
     clear HC8
     try clear p2
     try clear c3
     try clear c3b0
     try clear c5
     try clear c5b0
     try clear c6
     try clear c6b0
     try clear p6
     try clear p7
     try clear q7
     try clear hx7
     try clear c8
     try clear c9
     try clear c9b0
     try clear c9b1
     try clear p7
     try clear q7
     obtain ⟨kq, x15_7, rfl, HA, HJ7, ⟨mc7, rfl⟩⟩ := hcut
     cases kq with
     | zero => exact absurd HA.o (by simp [Qat.j0])
     | succ kj7 =>
      have H := HA.o
      clear HA
      simp only [Qat.j0] at H
      by_cases c10 : x15_7 = true
      ·subst c10
       have H1 : (if 0 ≤ (wrap64 (a1 + 1)) then (if (wrap64 (a1 + 1)) < (a0.size : Int) then (some (bt a0 (wrap64 (a1 + 1)), wrap64 (a1 + 2))) else (none)) else (none)) = some (r1, r2) := by rw [if_pos rfl] at H; exact H
       clear H
       have H := H1
       clear H1
       try clear hji4
       try clear hji4w
       obtain ⟨ji11, hji11⟩ : ∃ j_ : Int, (wrap64 (a1 + 1)) = j_ := ⟨_, rfl⟩
       replace H : (if 0 ≤ (ji11) then (if (ji11) < (a0.size : Int) then (some (bt a0 (ji11), wrap64 (a1 + 2))) else (none)) else (none)) = some (r1, r2) := by first | (rw [hji11] at H; exact H) | (simp only [hji11] at H ⊢; exact H)
       (try rw [hji11] at c3b0)
       have hji11w : (IntKind.i64.wrap (a1 + 1)) = ji11 := (Qbg _).trans hji11
       by_cases c12 : 0 ≤ (ji11)
       ·rw [if_pos c12] at H
        have c12b0 : decide (0 ≤ (ji11)) = true := decide_eq_true c12
        clear c12
        by_cases c13 : (ji11) < (a0.size : Int)
        ·rw [if_pos c13] at H
         have c13b0 : decide ((ji11) < (a0.size : Int)) = true := decide_eq_true c13
         clear c13
         simp only [Option.some.injEq, Prod.mk.injEq] at H
         obtain ⟨rfl, rfl⟩ := H
         have p14 : 0 ≤ ((ji11) : Int) := dQ
         have q14 : (ji11) < (a0.size : Int) := dQ
         have hx14 := Qbx a0 (ji11)
         replace p14 := eq_true p14
         replace q14 := eq_true q14
         go_wp2
         repeat (go_quiet (fail); try go_wp2)
         go_ret2
         exact ⟨by first | rfl | (simp; done) | (simp [*]; done) | (simp [Qbg, IntKind.wrap_u8]; done) | ((try simp only [← hji4]); (try simp only [← hji11]); (first | rfl | (simp; done))) | (simp [*]; done), dR⟩
        ·rw [if_neg c13] at H
         exact absurd H (by simp)
       ·rw [if_neg c12] at H
        exact absurd H (by simp)
      ·replace c10 := Bool.eq_false_iff.mpr c10
       subst c10
       have H1 : (if (bt a0 (ji4)) = 110 then (some (10, wrap64 (a1 + 2))) else (if (bt a0 (ji4)) = 116 then (some (9, wrap64 (a1 + 2))) else (if (bt a0 (ji4)) = 120 then (if (wrap64 (a1 + 3)) < (a0.size : Int) then (if 0 ≤ (wrap64 (a1 + 2)) then (if (wrap64 (a1 + 2)) < (a0.size : Int) then ((Qa6.f kj7 (bt a0 (wrap64 (a1 + 2)))).bind fun t103 => (if t103 ≥ 0 then (if 0 ≤ (wrap64 (a1 + 3)) then ((Qa6.f kj7 (bt a0 (wrap64 (a1 + 3)))).bind fun t104 => (Qat.j1 kj7 a0 a1 (decide (t104 ≥ 0)))) else (none)) else (Qat.j1 kj7 a0 a1 false))) else (none)) else (none)) else (Qat.j1 kj7 a0 a1 false)) else (some (0, 0))))) = some (r1, r2) := by rw [if_neg (show ¬ (false = true) by decide)] at H; exact H
       clear H
       have H := H1
       clear H1
       by_cases c15 : (bt a0 (ji4)) = 110
       ·rw [if_pos c15] at H
        have c15b0 : ((bt a0 (ji4)) == 110) = true := beq_iff_eq.mpr c15
        have c15b1 : ((bt a0 (ji4)) != 110) = false := bne_eq_false_iff_eq.mpr c15
        clear c15
        simp only [Option.some.injEq, Prod.mk.injEq] at H
        obtain ⟨rfl, rfl⟩ := H
        go_wp2
        repeat (go_quiet (fail); try go_wp2)
        go_ret2
        exact ⟨by first | rfl | (simp; done) | (simp [*]; done) | (simp [Qbg, IntKind.wrap_u8]; done) | ((try simp only [← hji4]); (first | rfl | (simp; done))) | (simp [*]; done), dR⟩
       ·rw [if_neg c15] at H
        have c15b0 : ((bt a0 (ji4)) == 110) = false := beq_eq_false_iff_ne.mpr c15
        have c15b1 : ((bt a0 (ji4)) != 110) = true := bne_iff_ne.mpr c15
        by_cases c16 : (bt a0 (ji4)) = 116
        ·rw [if_pos c16] at H
         have c16b0 : ((bt a0 (ji4)) == 116) = true := beq_iff_eq.mpr c16
         have c16b1 : ((bt a0 (ji4)) != 116) = false := bne_eq_false_iff_eq.mpr c16
         clear c16
         simp only [Option.some.injEq, Prod.mk.injEq] at H
         obtain ⟨rfl, rfl⟩ := H
         go_wp2
         repeat (go_quiet (fail); try go_wp2)
         go_ret2
         exact ⟨by first | rfl | (simp; done) | (simp [*]; done) | (simp [Qbg, IntKind.wrap_u8]; done) | ((try simp only [← hji4]); (first | rfl | (simp; done))) | (simp [*]; done), dR⟩
        ·rw [if_neg c16] at H
         have c16b0 : ((bt a0 (ji4)) == 116) = false := beq_eq_false_iff_ne.mpr c16
         have c16b1 : ((bt a0 (ji4)) != 116) = true := bne_iff_ne.mpr c16
         by_cases c17 : (bt a0 (ji4)) = 120
         ·rw [if_pos c17] at H
          have c17b0 : ((bt a0 (ji4)) == 120) = true := beq_iff_eq.mpr c17
          have c17b1 : ((bt a0 (ji4)) != 120) = false := bne_eq_false_iff_eq.mpr c17
          clear c17
          have HC18 := J0.m H
          clear H
          go_upto_region 12 with (fail)
          repeat (go_quiet (fail); go_upto_region 12 with (fail))
          go_cut [54] (fun v54 wc => ∃ (kq : Nat) (x54_17 : Bool), v54 = .bool x54_17 ∧ J0 (Qat.j1 kq a0 a1 x54_17 = some (r1, r2)) ∧ J0 (kq ≤ kj7) ∧ Qa9 w wc)
          case first =>
           have H := HC18.o
           clear HC18
           by_cases c19 : (wrap64 (a1 + 3)) < (a0.size : Int)
           ·rw [if_pos c19] at H
            have c19b0 : decide ((wrap64 (a1 + 3)) < (a0.size : Int)) = true := decide_eq_true c19
            clear c19
            (first | rw [c19b0] | (simp only [Qbg, Qbs]; rw [c19b0]) | skip)
            obtain ⟨ji20, hji20⟩ : ∃ j_ : Int, (wrap64 (a1 + 2)) = j_ := ⟨_, rfl⟩
            replace H : (if 0 ≤ (ji20) then (if (ji20) < (a0.size : Int) then ((Qa6.f kj7 (bt a0 (ji20))).bind fun t103 => (if t103 ≥ 0 then (if 0 ≤ (wrap64 (a1 + 3)) then ((Qa6.f kj7 (bt a0 (wrap64 (a1 + 3)))).bind fun t104 => (Qat.j1 kj7 a0 a1 (decide (t104 ≥ 0)))) else (none)) else (Qat.j1 kj7 a0 a1 false))) else (none)) else (none)) = some (r1, r2) := by first | (rw [hji20] at H; exact H) | (simp only [hji20] at H ⊢; exact H)
            have hji20w : (IntKind.i64.wrap (a1 + 2)) = ji20 := (Qbg _).trans hji20
            by_cases c21 : 0 ≤ (ji20)
            ·rw [if_pos c21] at H
             have c21b0 : decide (0 ≤ (ji20)) = true := decide_eq_true c21
             clear c21
             by_cases c22 : (ji20) < (a0.size : Int)
             ·rw [if_pos c22] at H
              have c22b0 : decide ((ji20) < (a0.size : Int)) = true := decide_eq_true c22
              clear c22
              replace H := Option.bind_eq_some_iff.mp H
              obtain ⟨t103, A240, H⟩ := H
              replace H : (if t103 ≥ 0 then (if 0 ≤ (wrap64 (a1 + 3)) then ((Qa6.f kj7 (bt a0 (wrap64 (a1 + 3)))).bind fun t104 => (Qat.j1 kj7 a0 a1 (decide (t104 ≥ 0)))) else (none)) else (Qat.j1 kj7 a0 a1 false)) = some (r1, r2) := H
              have A24 := J0.m A240
              clear A240
              by_cases c25 : t103 ≥ 0
              ·rw [if_pos c25] at H
               have c25b0 : decide (0 ≤ t103) = true := decide_eq_true c25
               clear c25
               obtain ⟨ji26, hji26⟩ : ∃ j_ : Int, (wrap64 (a1 + 3)) = j_ := ⟨_, rfl⟩
               replace H : (if 0 ≤ (ji26) then ((Qa6.f kj7 (bt a0 (ji26))).bind fun t104 => (Qat.j1 kj7 a0 a1 (decide (t104 ≥ 0)))) else (none)) = some (r1, r2) := by first | (rw [hji26] at H; exact H) | (simp only [hji26] at H ⊢; exact H)
               (try rw [hji26] at c19b0)
               (try rw [hji26] at A24)
               have hji26w : (IntKind.i64.wrap (a1 + 3)) = ji26 := (Qbg _).trans hji26
               by_cases c27 : 0 ≤ (ji26)
               ·rw [if_pos c27] at H
                have c27b0 : decide (0 ≤ (ji26)) = true := decide_eq_true c27
                clear c27
                replace H := Option.bind_eq_some_iff.mp H
                obtain ⟨t104, A290, H⟩ := H
                replace H : (Qat.j1 kj7 a0 a1 (decide (t104 ≥ 0))) = some (r1, r2) := H
                have A29 := J0.m A290
                clear A290
                have H' := J0.m H
                clear H
                have p23 : 0 ≤ ((ji20) : Int) := dQ
                have q23 : (ji20) < (a0.size : Int) := dQ
                have hx23 := Qbx a0 (ji20)
                replace p23 := eq_true p23
                replace q23 := eq_true q23
                go_wp2_with (first | (go_at_call 89; (with_reducible refine (Qa6.calls kj7 (bt a0 (ji20)) t103 _ A24.o).mono ?_); rintro e w' ⟨rfl, ⟨nd, rfl⟩⟩; (try first | exact ⟨rfl, _, World.drewN_drewN _ _ _⟩ | exact ⟨rfl, _, Eq.trans (World.drewN_drewN _ _ _) (congrArg (World.drewN _) (Nat.add_assoc _ _ _))⟩); have p28 : 0 ≤ ((ji26) : Int) := dQ; have q28 : (ji26) < (a0.size : Int) := dQ; have hx28 := Qbx a0 (ji26); replace p28 := eq_true p28; replace q28 := eq_true q28) | (go_at_call 89; (with_reducible refine (Qa6.calls kj7 (bt a0 (ji26)) t104 _ A29.o).mono ?_); rintro e w' ⟨rfl, ⟨nd, rfl⟩⟩; (try first | exact ⟨rfl, _, World.drewN_drewN _ _ _⟩ | exact ⟨rfl, _, Eq.trans (World.drewN_drewN _ _ _) (congrArg (World.drewN _) (Nat.add_assoc _ _ _))⟩)))
                repeat (go_quiet (first | (go_at_call 89; (with_reducible refine (Qa6.calls kj7 (bt a0 (ji20)) t103 _ A24.o).mono ?_); rintro e w' ⟨rfl, ⟨nd, rfl⟩⟩; (try first | exact ⟨rfl, _, World.drewN_drewN _ _ _⟩ | exact ⟨rfl, _, Eq.trans (World.drewN_drewN _ _ _) (congrArg (World.drewN _) (Nat.add_assoc _ _ _))⟩); have p28 : 0 ≤ ((ji26) : Int) := dQ; have q28 : (ji26) < (a0.size : Int) := dQ; have hx28 := Qbx a0 (ji26); replace p28 := eq_true p28; replace q28 := eq_true q28) | (go_at_call 89; (with_reducible refine (Qa6.calls kj7 (bt a0 (ji26)) t104 _ A29.o).mono ?_); rintro e w' ⟨rfl, ⟨nd, rfl⟩⟩; (try first | exact ⟨rfl, _, World.drewN_drewN _ _ _⟩ | exact ⟨rfl, _, Eq.trans (World.drewN_drewN _ _ _) (congrArg (World.drewN _) (Nat.add_assoc _ _ _))⟩))); try go_wp2_with (first | (go_at_call 89; (with_reducible refine (Qa6.calls kj7 (bt a0 (ji20)) t103 _ A24.o).mono ?_); rintro e w' ⟨rfl, ⟨nd, rfl⟩⟩; (try first | exact ⟨rfl, _, World.drewN_drewN _ _ _⟩ | exact ⟨rfl, _, Eq.trans (World.drewN_drewN _ _ _) (congrArg (World.drewN _) (Nat.add_assoc _ _ _))⟩); have p28 : 0 ≤ ((ji26) : Int) := dQ; have q28 : (ji26) < (a0.size : Int) := dQ; have hx28 := Qbx a0 (ji26); replace p28 := eq_true p28; replace q28 := eq_true q28) | (go_at_call 89; (with_reducible refine (Qa6.calls kj7 (bt a0 (ji26)) t104 _ A29.o).mono ?_); rintro e w' ⟨rfl, ⟨nd, rfl⟩⟩; (try first | exact ⟨rfl, _, World.drewN_drewN _ _ _⟩ | exact ⟨rfl, _, Eq.trans (World.drewN_drewN _ _ _) (congrArg (World.drewN _) (Nat.add_assoc _ _ _))⟩))))
                go_meet
                case rel => exact ⟨_, (decide (t104 ≥ 0)), (by first | rfl | (simp; done) | (simp [*]; done)), H', ⟨by have := HJ7.o; first | omega | exact Nat.le_refl _⟩, dR⟩
               ·rw [if_neg c27] at H
                exact absurd H (by simp)
              ·rw [if_neg c25] at H
               have c25b0 : decide (0 ≤ t103) = false := decide_eq_false c25
               clear c25
               have H' := J0.m H
               clear H
               have p23 : 0 ≤ ((ji20) : Int) := dQ
               have q23 : (ji20) < (a0.size : Int) := dQ
               have hx23 := Qbx a0 (ji20)
               replace p23 := eq_true p23
               replace q23 := eq_true q23
               go_wp2_with (first | (go_at_call 89; (with_reducible refine (Qa6.calls kj7 (bt a0 (ji20)) t103 _ A24.o).mono ?_); rintro e w' ⟨rfl, ⟨nd, rfl⟩⟩; (try first | exact ⟨rfl, _, World.drewN_drewN _ _ _⟩ | exact ⟨rfl, _, Eq.trans (World.drewN_drewN _ _ _) (congrArg (World.drewN _) (Nat.add_assoc _ _ _))⟩)))
               repeat (go_quiet (first | (go_at_call 89; (with_reducible refine (Qa6.calls kj7 (bt a0 (ji20)) t103 _ A24.o).mono ?_); rintro e w' ⟨rfl, ⟨nd, rfl⟩⟩; (try first | exact ⟨rfl, _, World.drewN_drewN _ _ _⟩ | exact ⟨rfl, _, Eq.trans (World.drewN_drewN _ _ _) (congrArg (World.drewN _) (Nat.add_assoc _ _ _))⟩))); try go_wp2_with (first | (go_at_call 89; (with_reducible refine (Qa6.calls kj7 (bt a0 (ji20)) t103 _ A24.o).mono ?_); rintro e w' ⟨rfl, ⟨nd, rfl⟩⟩; (try first | exact ⟨rfl, _, World.drewN_drewN _ _ _⟩ | exact ⟨rfl, _, Eq.trans (World.drewN_drewN _ _ _) (congrArg (World.drewN _) (Nat.add_assoc _ _ _))⟩))))
               go_meet
               case rel => exact ⟨_, (false), (by first | rfl | (simp; done) | (simp [*]; done)), H', ⟨by have := HJ7.o; first | omega | exact Nat.le_refl _⟩, dR⟩
             ·rw [if_neg c22] at H
              exact absurd H (by simp)
            ·rw [if_neg c21] at H
             exact absurd H (by simp)
           ·rw [if_neg c19] at H
            have c19b0 : decide ((wrap64 (a1 + 3)) < (a0.size : Int)) = false := decide_eq_false c19
            clear c19
            (first | rw [c19b0] | (simp only [Qbg, Qbs]; rw [c19b0]) | skip)
            have H' := J0.m H
            clear H
            go_wp2
            repeat (go_quiet (fail); try go_wp2)
            go_meet
            case rel => exact ⟨_, (false), (by first | rfl | (simp; done) | (simp [*]; done)), H', ⟨by have := HJ7.o; first | omega | exact Nat.le_refl _⟩, dR⟩
          case rest =>
           clear HC18
           try clear c1
           try clear p1
           try clear q1
           try clear hx1
           try clear c2
           try clear p2
           try clear q2
           try clear hx2
           try clear c3
           try clear c3b0
           try clear c5
           try clear c5b0
           try clear c6
           try clear c6b0
           try clear p6
           try clear c7
           try clear p7
           try clear q7
           try clear hx7
           try clear c8
           try clear c9
           try clear c9b0
           try clear c9b1
           try clear c10
           try clear c12
           try clear c12b0
           try clear c13
           try clear c13b0
           try clear p14
           try clear q14
           try clear hx14
           try clear c15
           try clear c15b0
           try clear c15b1
           try clear c16
           try clear c16b0
           try clear c16b1
           try clear c17
           try clear c17b0
           try clear c17b1
           try clear c19
           try clear c19b0
           try clear c21
           try clear c21b0
           try clear c22
           try clear c22b0
           try clear p23
           try clear q23
           try clear hx23
           try clear c25
           try clear c25b0
           try clear c27
           try clear c27b0
           try clear p28
           try clear q28
           try clear hx28
           try clear p14
           try clear p2
           try clear p23
           try clear p28
           try clear p6
           try clear p7
           try clear q14
           try clear q23
           try clear q28
           try clear q7
           obtain ⟨kq, x54_17, rfl, HA, HJ17, ⟨mc17, rfl⟩⟩ := hcut
           cases kq with
           | zero => exact absurd HA.o (by simp [Qat.j1])
           | succ kj17 =>
            have H := HA.o
            clear HA
            simp only [Qat.j1] at H
            by_cases c30 : x54_17 = true
            ·subst c30
             have H1 : (if 0 ≤ (wrap64 (a1 + 2)) then (if (wrap64 (a1 + 2)) < (a0.size : Int) then ((Qa6.f kj17 (bt a0 (wrap64 (a1 + 2)))).bind fun t105 => (if 0 ≤ (wrap64 (a1 + 3)) then (if (wrap64 (a1 + 3)) < (a0.size : Int) then ((Qa6.f kj17 (bt a0 (wrap64 (a1 + 3)))).bind fun t106 => (some ((wrap64 ((wrap64 (16 * t105)) + t106)) % 256, wrap64 (a1 + 4)))) else (none)) else (none))) else (none)) else (none)) = some (r1, r2) := by rw [if_pos rfl] at H; exact H
             clear H
             have H := H1
             clear H1
             try clear hji20
             try clear hji20w
             obtain ⟨ji31, hji31⟩ : ∃ j_ : Int, (wrap64 (a1 + 2)) = j_ := ⟨_, rfl⟩
             replace H : (if 0 ≤ (ji31) then (if (ji31) < (a0.size : Int) then ((Qa6.f kj17 (bt a0 (ji31))).bind fun t105 => (if 0 ≤ (wrap64 (a1 + 3)) then (if (wrap64 (a1 + 3)) < (a0.size : Int) then ((Qa6.f kj17 (bt a0 (wrap64 (a1 + 3)))).bind fun t106 => (some ((wrap64 ((wrap64 (16 * t105)) + t106)) % 256, wrap64 (a1 + 4)))) else (none)) else (none))) else (none)) else (none)) = some (r1, r2) := by first | (rw [hji31] at H; exact H) | (simp only [hji31] at H ⊢; exact H)
             have hji31w : (IntKind.i64.wrap (a1 + 2)) = ji31 := (Qbg _).trans hji31
             by_cases c32 : 0 ≤ (ji31)
             ·rw [if_pos c32] at H
              have c32b0 : decide (0 ≤ (ji31)) = true := decide_eq_true c32
              clear c32
              by_cases c33 : (ji31) < (a0.size : Int)
              ·rw [if_pos c33] at H
               have c33b0 : decide ((ji31) < (a0.size : Int)) = true := decide_eq_true c33
               clear c33
               replace H := Option.bind_eq_some_iff.mp H
               obtain ⟨t105, A350, H⟩ := H
               replace H : (if 0 ≤ (wrap64 (a1 + 3)) then (if (wrap64 (a1 + 3)) < (a0.size : Int) then ((Qa6.f kj17 (bt a0 (wrap64 (a1 + 3)))).bind fun t106 => (some ((wrap64 ((wrap64 (16 * t105)) + t106)) % 256, wrap64 (a1 + 4)))) else (none)) else (none)) = some (r1, r2) := H
               have A35 := J0.m A350
               clear A350
               try clear hji26
               try clear hji26w
               obtain ⟨ji36, hji36⟩ : ∃ j_ : Int, (wrap64 (a1 + 3)) = j_ := ⟨_, rfl⟩
               replace H : (if 0 ≤ (ji36) then (if (ji36) < (a0.size : Int) then ((Qa6.f kj17 (bt a0 (ji36))).bind fun t106 => (some ((wrap64 ((wrap64 (16 * t105)) + t106)) % 256, wrap64 (a1 + 4)))) else (none)) else (none)) = some (r1, r2) := by first | (rw [hji36] at H; exact H) | (simp only [hji36] at H ⊢; exact H)
               (try rw [hji36] at A35)
               have hji36w : (IntKind.i64.wrap (a1 + 3)) = ji36 := (Qbg _).trans hji36
               by_cases c37 : 0 ≤ (ji36)
               ·rw [if_pos c37] at H
                have c37b0 : decide (0 ≤ (ji36)) = true := decide_eq_true c37
                clear c37
                by_cases c38 : (ji36) < (a0.size : Int)
                ·rw [if_pos c38] at H
                 have c38b0 : decide ((ji36) < (a0.size : Int)) = true := decide_eq_true c38
                 clear c38
                 replace H := Option.bind_eq_some_iff.mp H
                 obtain ⟨t106, A400, H⟩ := H
                 replace H : (some ((wrap64 ((wrap64 (16 * t105)) + t106)) % 256, wrap64 (a1 + 4))) = some (r1, r2) := H
                 have A40 := J0.m A400
                 clear A400
                 simp only [Option.some.injEq, Prod.mk.injEq] at H
                 obtain ⟨rfl, rfl⟩ := H
                 have p34 : 0 ≤ ((ji31) : Int) := dQ
                 have q34 : (ji31) < (a0.size : Int) := dQ
                 have hx34 := Qbx a0 (ji31)
                 replace p34 := eq_true p34
                 replace q34 := eq_true q34
                 go_wp2_with (first | (go_at_call 89; (with_reducible refine (Qa6.calls kj17 (bt a0 (ji31)) t105 _ A35.o).mono ?_); rintro e w' ⟨rfl, ⟨nd, rfl⟩⟩; (try first | exact ⟨rfl, _, World.drewN_drewN _ _ _⟩ | exact ⟨rfl, _, Eq.trans (World.drewN_drewN _ _ _) (congrArg (World.drewN _) (Nat.add_assoc _ _ _))⟩); have p39 : 0 ≤ ((ji36) : Int) := dQ; have q39 : (ji36) < (a0.size : Int) := dQ; have hx39 := Qbx a0 (ji36); replace p39 := eq_true p39; replace q39 := eq_true q39) | (go_at_call 89; (with_reducible refine (Qa6.calls kj17 (bt a0 (ji36)) t106 _ A40.o).mono ?_); rintro e w' ⟨rfl, ⟨nd, rfl⟩⟩; (try first | exact ⟨rfl, _, World.drewN_drewN _ _ _⟩ | exact ⟨rfl, _, Eq.trans (World.drewN_drewN _ _ _) (congrArg (World.drewN _) (Nat.add_assoc _ _ _))⟩)))
                 repeat (go_quiet (first | (go_at_call 89; (with_reducible refine (Qa6.calls kj17 (bt a0 (ji31)) t105 _ A35.o).mono ?_); rintro e w' ⟨rfl, ⟨nd, rfl⟩⟩; (try first | exact ⟨rfl, _, World.drewN_drewN _ _ _⟩ | exact ⟨rfl, _, Eq.trans (World.drewN_drewN _ _ _) (congrArg (World.drewN _) (Nat.add_assoc _ _ _))⟩); have p39 : 0 ≤ ((ji36) : Int) := dQ; have q39 : (ji36) < (a0.size : Int) := dQ; have hx39 := Qbx a0 (ji36); replace p39 := eq_true p39; replace q39 := eq_true q39) | (go_at_call 89; (with_reducible refine (Qa6.calls kj17 (bt a0 (ji36)) t106 _ A40.o).mono ?_); rintro e w' ⟨rfl, ⟨nd, rfl⟩⟩; (try first | exact ⟨rfl, _, World.drewN_drewN _ _ _⟩ | exact ⟨rfl, _, Eq.trans (World.drewN_drewN _ _ _) (congrArg (World.drewN _) (Nat.add_assoc _ _ _))⟩))); try go_wp2_with (first | (go_at_call 89; (with_reducible refine (Qa6.calls kj17 (bt a0 (ji31)) t105 _ A35.o).mono ?_); rintro e w' ⟨rfl, ⟨nd, rfl⟩⟩; (try first | exact ⟨rfl, _, World.drewN_drewN _ _ _⟩ | exact ⟨rfl, _, Eq.trans (World.drewN_drewN _ _ _) (congrArg (World.drewN _) (Nat.add_assoc _ _ _))⟩); have p39 : 0 ≤ ((ji36) : Int) := dQ; have q39 : (ji36) < (a0.size : Int) := dQ; have hx39 := Qbx a0 (ji36); replace p39 := eq_true p39; replace q39 := eq_true q39) | (go_at_call 89; (with_reducible refine (Qa6.calls kj17 (bt a0 (ji36)) t106 _ A40.o).mono ?_); rintro e w' ⟨rfl, ⟨nd, rfl⟩⟩; (try first | exact ⟨rfl, _, World.drewN_drewN _ _ _⟩ | exact ⟨rfl, _, Eq.trans (World.drewN_drewN _ _ _) (congrArg (World.drewN _) (Nat.add_assoc _ _ _))⟩))))
                 go_ret2
                 exact ⟨by first | rfl | (simp; done) | (simp [*]; done) | (simp [Qbg, IntKind.wrap_u8]; done) | ((try simp only [← hji4]); (try simp only [← hji31]); (try simp only [← hji36]); (first | rfl | (simp; done))) | (simp [*]; done), dR⟩
                ·rw [if_neg c38] at H
                 exact absurd H (by simp)
               ·rw [if_neg c37] at H
                exact absurd H (by simp)
              ·rw [if_neg c33] at H
               exact absurd H (by simp)
             ·rw [if_neg c32] at H
              exact absurd H (by simp)
            ·replace c30 := Bool.eq_false_iff.mpr c30
             subst c30
             have H1 : (some (0, 0)) = some (r1, r2) := by rw [if_neg (show ¬ (false = true) by decide)] at H; exact H
             clear H
             have H := H1
             clear H1
             simp only [Option.some.injEq, Prod.mk.injEq] at H
             obtain ⟨rfl, rfl⟩ := H
             go_wp2
             repeat (go_quiet (fail); try go_wp2)
             go_ret2
             exact ⟨by first | rfl | (simp; done) | (simp [*]; done) | (simp [Qbg, IntKind.wrap_u8]; done) | ((try simp only [← hji4]); (first | rfl | (simp; done))) | (simp [*]; done), dR⟩
         ·rw [if_neg c17] at H
          have c17b0 : ((bt a0 (ji4)) == 120) = false := beq_eq_false_iff_ne.mpr c17
          have c17b1 : ((bt a0 (ji4)) != 120) = true := bne_iff_ne.mpr c17
          simp only [Option.some.injEq, Prod.mk.injEq] at H
          obtain ⟨rfl, rfl⟩ := H
          go_wp2
          repeat (go_quiet (fail); try go_wp2)
          go_ret2
          exact ⟨by first | rfl | (simp; done) | (simp [*]; done) | (simp [Qbg, IntKind.wrap_u8]; done) | ((try simp only [← hji4]); (first | rfl | (simp; done))) | (simp [*]; done), dR⟩
   ·rw [if_neg c6] at H
    exact absurd H (by simp)
  ·rw [if_neg c5] at H
   exact absurd H (by simp)
mutual
def Qa3.l0 : Nat → ByteArray → Int → List Int → Int → Option (Int × ByteArray × Int × Int × Int × Int × Int)
 | 0, _, _, _, _ => none
 | k + 1, x0, x1, x7, x8 => if x8 < (x0.size : Int) then (if 0 ≤ x8 then (Qa3.j1 k x0 x1 x7 x8 ((bt x0 x8) != 10)) else (none)) else (Qa3.j1 k x0 x1 x7 x8 false)
def Qa3.j1 : Nat → ByteArray → Int → List Int → Int → Bool → Option (Int × ByteArray × Int × Int × Int × Int × Int)
 | 0, _, _, _, _, _ => none
 | k + 1, x0, x1, x7, x8, x22 => if x22 = true then (if 0 ≤ x8 then (if x8 < (x0.size : Int) then (if (bt x0 x8) = 34 then (some (3, strOfNums x7, 0, x1, wrap64 (x8 + 1), 0, 0)) else (if (bt x0 x8) = 92 then ((Qat.f k x0 x8).bind fun bt108 => (if bt108.2 = 0 then (some (0, (⟨#[]⟩ : ByteArray), 0, 0, 0, x8, 82)) else (if x7.length < 140737488355328 then (Qa3.l0 k x0 x1 (x7 ++ [bt108.1]) bt108.2) else (none)))) else (if x7.length < 140737488355328 then (Qa3.l0 k x0 x1 (x7 ++ [bt x0 x8]) (wrap64 (x8 + 1))) else (none)))) else (none)) else (none)) else (some (0, (⟨#[]⟩ : ByteArray), 0, 0, 0, x1, 81))
end
def Qa3.f (k : Nat) (a0 : ByteArray) (a1 : Int) : Option (Int × ByteArray × Int × Int × Int × Int × Int) := Qa3.l0 k a0 a1 ([] : List Int) (wrap64 (a1 + 1))
theorem Qa3.Qel : ∀ k, (∀ y0 y1 y2 y3, LeO (Qa3.l0 k y0 y1 y2 y3) (Qa3.l0 (k + 1) y0 y1 y2 y3)) ∧ (∀ y0 y1 y2 y3 y4, LeO (Qa3.j1 k y0 y1 y2 y3 y4) (Qa3.j1 (k + 1) y0 y1 y2 y3 y4))
 | 0 => ⟨fun _ _ _ _ r h => by simp [Qa3.l0] at h, fun _ _ _ _ _ r h => by simp [Qa3.j1] at h⟩
 | k + 1 => by
  obtain ⟨ih0, ih1⟩ := Qa3.Qel k
  refine ⟨?_, ?_⟩
  ·intro y0 y1 y2 y3
   unfold Qa3.l0
   repeat' first
   | (with_reducible exact ih0 _ _ _ _)
   | (with_reducible exact ih1 _ _ _ _ _)
   | (with_reducible exact Qat.mono _ _ _)
   | (with_reducible exact LeO.refl _)
   | (with_reducible exact LeO.none _)
   | (with_reducible refine LeO.ite ?_ ?_)
   | (with_reducible refine LeO.bind ?_ (fun _ => ?_))
   | exact ih0 _ _ _ _
   | exact ih1 _ _ _ _ _
   | exact Qat.mono _ _ _
   | exact LeO.none _
   | refine LeO.ite ?_ ?_
   | refine LeO.bind ?_ (fun _ => ?_)
  ·intro y0 y1 y2 y3 y4
   unfold Qa3.j1
   repeat' first
   | (with_reducible exact ih0 _ _ _ _)
   | (with_reducible exact ih1 _ _ _ _ _)
   | (with_reducible exact Qat.mono _ _ _)
   | (with_reducible exact LeO.refl _)
   | (with_reducible exact LeO.none _)
   | (with_reducible refine LeO.ite ?_ ?_)
   | (with_reducible refine LeO.bind ?_ (fun _ => ?_))
   | exact ih0 _ _ _ _
   | exact ih1 _ _ _ _ _
   | exact Qat.mono _ _ _
   | exact LeO.none _
   | refine LeO.ite ?_ ?_
   | refine LeO.bind ?_ (fun _ => ?_)
theorem Qa3.mono : ∀ a0 a1 k, LeO (Qa3.f k a0 a1) (Qa3.f (k + 1) a0 a1) := by
 intro a0 a1 k
 obtain ⟨ih0, ih1⟩ := Qa3.Qel k
 unfold Qa3.f
 repeat' first
   | (with_reducible exact ih0 _ _ _ _)
   | (with_reducible exact ih1 _ _ _ _ _)
   | (with_reducible exact Qat.mono _ _ _)
   | (with_reducible exact LeO.refl _)
   | (with_reducible exact LeO.none _)
   | (with_reducible refine LeO.ite ?_ ?_)
   | (with_reducible refine LeO.bind ?_ (fun _ => ?_))
   | exact ih0 _ _ _ _
   | exact ih1 _ _ _ _ _
   | exact Qat.mono _ _ _
   | exact LeO.none _
   | refine LeO.ite ?_ ?_
   | refine LeO.bind ?_ (fun _ => ?_)
theorem Qa3.calls (k : Nat) (a0 : ByteArray) (a1 : Int) (r1 : Int) (r2 : ByteArray) (r3 : Int) (r4 : Int) (r5 : Int) (r6 : Int) (r7 : Int) (w : World) (h : Qa3.f k a0 a1 = some (r1, r2, r3, r4, r5, r6, r7)) :
  Calls Try.prog 58 #[.string a0, .int .i64 a1] w fun e w' => e = .returned (.tuple #[.agg #[.int .i64 r1, .string r2, .int .u64 r3, .int .i64 r4, .int .i64 r5], .int .i64 r6, .int .i64 r7]) ∧ Below w.heap.size w w' := by
 have hu47 := Try.underlying47
 have HB := J0.m (Below.refl w.heap.size w)
 have H : (Qa3.l0 k a0 a1 ([] : List Int) (wrap64 (a1 + 1))) = some (r1, r2, r3, r4, r5, r6, r7) := h
 clear h
 have H' := J0.m H
 clear H
 go_enter Try.func58, Try.ntmps58
 go_wp2_with (first | ((with_reducible refine Qbv (N := 4) rfl ?_); refine Qbn ?hg (N := 4) ?hd (cs := zT0) (t := 47) ?hr ?_; (case hd => rfl); (case hg => rfl); (case hr => first | (go_simp; done) | (go_simp; rfl)); intro gb107 hg w3 hbox hb; have n0_ := J0.m (Qap bR hb); have n1_ := J0.m (hbox); have n2_ := J0.m ((by rw [hg]; exact (Qa8 bR) : w.heap.size ≤ gb107)); have n3_ := n2_; clear HB; have HB := n0_; have BK107 := n1_; have GW107 := n2_; have GE107 := n3_; clear n0_ n1_ n2_ n3_; clear hb hbox hg))
 go_loopg [7, 8] k (fun kq v7 v8 w' => ∃ (x7_1 : List Int) (x8_1 : Int) (x108000_1 : Int) (x108001_1 : ByteArray) (x108002_1 : Int) (x108003_1 : Int) (x108004_1 : Int), v8 = .int .i64 x8_1 ∧ J0 (Qa3.l0 kq a0 a1 x7_1 x8_1 = some (r1, r2, r3, r4, r5, r6, r7)) ∧ J0 (kq ≤ k) ∧ J0 (Kd.R (Kd.int .u8) 5 w' w.heap.size (fun _ => True) v7 x7_1) ∧ J0 (w'.heap[gb107]? = some (.cells #[.int .i64 x108000_1, .string x108001_1, .int .u64 x108002_1, .int .i64 x108003_1, .int .i64 x108004_1] 47 (0, 0))) ∧ J0 (Below w.heap.size w w'))
 case atStart => exact ⟨(([] : List Int)), (wrap64 (a1 + 1)), (0), ((⟨#[]⟩ : ByteArray)), (0), (0), (0), (by first | rfl | (simp; done) | (simp [*]; done)), H', ⟨Nat.le_refl _⟩, ⟨by first | exact Kd.Qdq _ _ _ _ _ | exact Kd.Qju _ _ _ _ _ | exact Kd.Qjo _ _ _ _ _ | exact Kd.Qjt _ _ _ _ _ | exact Kd.Qjq _ _ _ _ _⟩, ⟨by (with_reducible repeat (first | apply Qae | apply Qah | apply Qag)); exact BK107.o⟩, ⟨by repeat (first | (with_reducible first | exact HB.o | apply Qab | apply Qac | apply Qad | refine Qal ?_ GE107.o) | exact HB.o)⟩⟩
 case round =>
  clear H'
  try clear p2
  obtain ⟨x7_1, x8_1, x108000_1, x108001_1, x108002_1, x108003_1, x108004_1, rfl, HA, HK1, HO_7, BK107, HB⟩ := hrel
  cases gk with
  | zero => exact absurd HA.o (by simp [Qa3.l0])
  | succ k1 =>
   have H := HA.o
   clear HA
   simp only [Qa3.l0] at H
   have HC4 := J0.m H
   clear H
   go_upto_region 3 with (fail)
   go_cut [22] (fun v22 wc => ∃ (kq : Nat) (x22_3 : Bool), v22 = .bool x22_3 ∧ J0 (Qa3.j1 kq a0 a1 x7_1 x8_1 x22_3 = some (r1, r2, r3, r4, r5, r6, r7)) ∧ J0 (kq ≤ k1) ∧ J0 (Kd.R (Kd.int .u8) 5 wc w.heap.size (fun _ => True) u7 x7_1) ∧ J0 (wc.heap[gb107]? = some (.cells #[.int .i64 x108000_1, .string x108001_1, .int .u64 x108002_1, .int .i64 x108003_1, .int .i64 x108004_1] 47 (0, 0))) ∧ J0 (Below w.heap.size w wc))
   case first =>
    have H := HC4.o
    clear HC4
    by_cases c5 : x8_1 < (a0.size : Int)
    ·rw [if_pos c5] at H
     have c5b0 : decide (x8_1 < (a0.size : Int)) = true := decide_eq_true c5
     clear c5
     (first | rw [c5b0] | (simp only [Qbg, Qbs]; rw [c5b0]) | skip)
     by_cases c6 : 0 ≤ x8_1
     ·rw [if_pos c6] at H
      have c6b0 : decide (0 ≤ x8_1) = true := decide_eq_true c6
      clear c6
      have H' := J0.m H
      clear H
      have p7 : 0 ≤ (x8_1 : Int) := dQ
      have q7 : x8_1 < (a0.size : Int) := dQ
      have hx7 := Qbx a0 x8_1
      replace p7 := eq_true p7
      replace q7 := eq_true q7
      go_wp2
      go_meet
      case rel => exact ⟨_, (((bt a0 x8_1) != 10)), (by first | rfl | (simp; done) | (simp [*]; done)), H', ⟨by have := HK1.o; first | omega | exact Nat.le_refl _⟩, ⟨by (with_reducible repeat (first | apply Kd.Qb2 | apply Kd.Qb1 | apply Kd.Qcg)); exact HO_7.o⟩, ⟨by (with_reducible repeat (first | apply Qae | apply Qah | apply Qag)); exact BK107.o⟩, ⟨by repeat (first | (with_reducible first | exact HB.o | apply Qab | apply Qac | apply Qad | refine Qal ?_ GE107.o) | exact HB.o)⟩⟩
     ·rw [if_neg c6] at H
      exact absurd H (by simp)
    ·rw [if_neg c5] at H
     have c5b0 : decide (x8_1 < (a0.size : Int)) = false := decide_eq_false c5
     clear c5
     (first | rw [c5b0] | (simp only [Qbg, Qbs]; rw [c5b0]) | skip)
     have H' := J0.m H
     clear H
     go_wp2
     go_meet
     case rel => exact ⟨_, (false), (by first | rfl | (simp; done) | (simp [*]; done)), H', ⟨by have := HK1.o; first | omega | exact Nat.le_refl _⟩, ⟨by (with_reducible repeat (first | apply Kd.Qb2 | apply Kd.Qb1 | apply Kd.Qcg)); exact HO_7.o⟩, ⟨by (with_reducible repeat (first | apply Qae | apply Qah | apply Qag)); exact BK107.o⟩, ⟨by repeat (first | (with_reducible first | exact HB.o | apply Qab | apply Qac | apply Qad | refine Qal ?_ GE107.o) | exact HB.o)⟩⟩
   case rest =>
    clear HC4
    try clear p2
    try clear c5
    try clear c5b0
    try clear c6
    try clear c6b0
    try clear p6
    try clear p7
    try clear q7
    try clear hx7
    try clear p2
    try clear p7
    try clear q7
    obtain ⟨kq, x22_3, rfl, HA, HJ3, HO_7, BK107, HB⟩ := hcut
    cases kq with
    | zero => exact absurd HA.o (by simp [Qa3.j1])
    | succ kj3 =>
     have H := HA.o
     clear HA
     simp only [Qa3.j1] at H
     by_cases c8 : x22_3 = true
     ·subst c8
      have H1 : (if 0 ≤ x8_1 then (if x8_1 < (a0.size : Int) then (if (bt a0 x8_1) = 34 then (some (3, strOfNums x7_1, 0, a1, wrap64 (x8_1 + 1), 0, 0)) else (if (bt a0 x8_1) = 92 then ((Qat.f kj3 a0 x8_1).bind fun bt108 => (if bt108.2 = 0 then (some (0, (⟨#[]⟩ : ByteArray), 0, 0, 0, x8_1, 82)) else (if x7_1.length < 140737488355328 then (Qa3.l0 kj3 a0 a1 (x7_1 ++ [bt108.1]) bt108.2) else (none)))) else (if x7_1.length < 140737488355328 then (Qa3.l0 kj3 a0 a1 (x7_1 ++ [bt a0 x8_1]) (wrap64 (x8_1 + 1))) else (none)))) else (none)) else (none)) = some (r1, r2, r3, r4, r5, r6, r7) := by rw [if_pos rfl] at H; exact H
      clear H
      have H := H1
      clear H1
      by_cases c9 : 0 ≤ x8_1
      ·rw [if_pos c9] at H
       have c9b0 : decide (0 ≤ x8_1) = true := decide_eq_true c9
       clear c9
       by_cases c10 : x8_1 < (a0.size : Int)
       ·rw [if_pos c10] at H
        have c10b0 : decide (x8_1 < (a0.size : Int)) = true := decide_eq_true c10
        clear c10
        by_cases c12 : (bt a0 x8_1) = 34
        ·rw [if_pos c12] at H
         have c12b0 : ((bt a0 x8_1) == 34) = true := beq_iff_eq.mpr c12
         have c12b1 : ((bt a0 x8_1) != 34) = false := bne_eq_false_iff_eq.mpr c12
         clear c12
         simp only [Option.some.injEq, Prod.mk.injEq] at H
         obtain ⟨rfl, rfl, rfl, rfl, rfl, rfl, rfl⟩ := H
         have p11 : 0 ≤ (x8_1 : Int) := dQ
         have q11 : x8_1 < (a0.size : Int) := dQ
         have hx11 := Qbx a0 x8_1
         replace p11 := eq_true p11
         replace q11 := eq_true q11
         have hcv13 := Qh5 (P := Try.prog) Try.underlying36 Try.underlying5 Try.underlying9 (Kd.Qk2 HO_7.o)
         have hcz14_0 : wc.cell? ⟨gb107, 0, none⟩ = some (.int .i64 x108000_1) := (Qaf BK107.o 0).trans rfl
         have hcz14_1 : wc.cell? ⟨gb107, 1, none⟩ = some (.string x108001_1) := (Qaf BK107.o 1).trans rfl
         have hcz14_2 : wc.cell? ⟨gb107, 2, none⟩ = some (.int .u64 x108002_1) := (Qaf BK107.o 2).trans rfl
         have hcz14_3 : wc.cell? ⟨gb107, 3, none⟩ = some (.int .i64 x108003_1) := (Qaf BK107.o 3).trans rfl
         have hcz14_4 : wc.cell? ⟨gb107, 4, none⟩ = some (.int .i64 x108004_1) := (Qaf BK107.o 4).trans rfl
         have hfz14_0 := Qaa BK107.o 0
         have hfz14_1 := Qaa BK107.o 1
         have hfz14_2 := Qaa BK107.o 2
         have hfz14_3 := Qaa BK107.o 3
         have hfz14_4 := Qaa BK107.o 4
         go_wp2
         refine bodyPost_ret (Qbf rfl _ _ gb107 47 #[.int .i64 3, .string (strOfNums x7_1), .int .u64 0, .int .i64 a1, .int .i64 (wrap64 (x8_1 + 1))] (0, 0) _ rfl (by (with_reducible repeat (first | apply Qae | apply Qah | apply Qag)); apply sv5; (with_reducible repeat (first | apply Qae | apply Qah | apply Qag)); exact BK107.o) Try.underlying47 rfl (by kernel_rfl)) rfl ?_
         exact ⟨by first | rfl | (simp [Qav, Qau] <;> rfl) | (simp [*, Qav, Qau] <;> rfl), by repeat (first | (with_reducible first | exact HB.o | apply Qab | apply Qac | apply Qad | refine Qal ?_ GE107.o) | exact HB.o)⟩
        ·rw [if_neg c12] at H
         have c12b0 : ((bt a0 x8_1) == 34) = false := beq_eq_false_iff_ne.mpr c12
         have c12b1 : ((bt a0 x8_1) != 34) = true := bne_iff_ne.mpr c12
         by_cases c15 : (bt a0 x8_1) = 92
         ·rw [if_pos c15] at H
          have c15b0 : ((bt a0 x8_1) == 92) = true := beq_iff_eq.mpr c15
          have c15b1 : ((bt a0 x8_1) != 92) = false := bne_eq_false_iff_eq.mpr c15
          clear c15
          replace H := Option.bind_eq_some_iff.mp H
          obtain ⟨⟨t108, t109⟩, A160, H⟩ := H
          replace H : (if t109 = 0 then (some (0, (⟨#[]⟩ : ByteArray), 0, 0, 0, x8_1, 82)) else (if x7_1.length < 140737488355328 then (Qa3.l0 kj3 a0 a1 (x7_1 ++ [t108]) t109) else (none))) = some (r1, r2, r3, r4, r5, r6, r7) := H
          have A16 := J0.m A160
          clear A160
          by_cases c17 : t109 = 0
          ·rw [if_pos c17] at H
           have c17b0 : (t109 == 0) = true := beq_iff_eq.mpr c17
           have c17b1 : (t109 != 0) = false := bne_eq_false_iff_eq.mpr c17
           clear c17
           simp only [Option.some.injEq, Prod.mk.injEq] at H
           obtain ⟨rfl, rfl, rfl, rfl, rfl, rfl, rfl⟩ := H
           have p11 : 0 ≤ (x8_1 : Int) := dQ
           have q11 : x8_1 < (a0.size : Int) := dQ
           have hx11 := Qbx a0 x8_1
           replace p11 := eq_true p11
           replace q11 := eq_true q11
           go_wp2_with (first | ((with_reducible refine Qas (f := 80) rfl ?_); refine Qbm (some 47) rfl rfl Try.func80 (by kernel_rfl) rfl #[.string a0, .int .i64 x8_1] rfl mQ ?_; (with_reducible refine (Qat.calls kj3 a0 x8_1 t108 t109 _ A16.o).mono ?_); rintro e w' ⟨rfl, ⟨nd, rfl⟩⟩; refine ⟨_, rfl, ?_⟩; (try (rw [Qbz wc]; generalize hq_ : World.drewN wc _ = wc; have n0_ : J0 (Kd.R (Kd.int .u8) 5 wc w.heap.size (fun _ => True) u7 x7_1) := ⟨by rw [← hq_]; exact (by (with_reducible repeat (first | apply Kd.Qb2 | apply Kd.Qb1 | apply Kd.Qcg)); exact HO_7.o)⟩; have n1_ : J0 (wc.heap[gb107]? = some (.cells #[.int .i64 x108000_1, .string x108001_1, .int .u64 x108002_1, .int .i64 x108003_1, .int .i64 x108004_1] 47 (0, 0))) := ⟨by rw [← hq_]; exact (by (with_reducible repeat (first | apply Qae | apply Qah | apply Qag)); exact BK107.o)⟩; have n2_ : J0 (Below w.heap.size w wc) := ⟨by rw [← hq_]; exact (by repeat (first | (with_reducible first | exact HB.o | apply Qab | apply Qac | apply Qad | refine Qal ?_ GE107.o) | exact HB.o))⟩; clear HO_7 BK107 HB hq_; have HO_7 := n0_; have BK107 := n1_; have HB := n2_; clear n0_ n1_ n2_)); obtain ⟨hcz18_0, hcz18_1, hcz18_2, hcz18_3, hcz18_4⟩ := (bx5 BK107.o); have hfz18_0 := Qaa BK107.o 0; have hfz18_1 := Qaa BK107.o 1; have hfz18_2 := Qaa BK107.o 2; have hfz18_3 := Qaa BK107.o 3; have hfz18_4 := Qaa BK107.o 4))
           refine bodyPost_ret (Qbf rfl _ _ gb107 47 #[.int .i64 0, .string ⟨#[]⟩, .int .u64 0, .int .i64 0, .int .i64 0] (0, 0) _ rfl (by (with_reducible repeat (first | apply Qae | apply Qah | apply Qag)); apply sv5; (with_reducible repeat (first | apply Qae | apply Qah | apply Qag)); exact BK107.o) Try.underlying47 rfl (by kernel_rfl)) rfl ?_
           exact ⟨by first | rfl | (simp [Qav, Qau] <;> rfl) | (simp [*, Qav, Qau] <;> rfl), by repeat (first | (with_reducible first | exact HB.o | apply Qab | apply Qac | apply Qad | refine Qal ?_ GE107.o) | exact HB.o)⟩
          ·rw [if_neg c17] at H
           have c17b0 : (t109 == 0) = false := beq_eq_false_iff_ne.mpr c17
           have c17b1 : (t109 != 0) = true := bne_iff_ne.mpr c17
           by_cases c19 : x7_1.length < 140737488355328
           ·rw [if_pos c19] at H
            have LMc19 := J0.m c19
            clear c19
            obtain ⟨y110, hy110⟩ : ∃ y_ : List Int, y_ = (x7_1 ++ [t108]) := ⟨_, rfl⟩
            replace H : (Qa3.l0 kj3 a0 a1 y110 t109) = some (r1, r2, r3, r4, r5, r6, r7) := by first | (rw [hy110]; with_reducible exact H) | (have H2_ := (Option.bind_some _ _).symm.trans H; rw [hy110]; with_reducible exact H2_) | (have H2_ := (Option.bind_some _ _).symm.trans H; with_reducible exact H2_) | with_reducible exact H | (rw [hy110]; exact H) | exact H
            have Ny110 := J0.m hy110
            clear hy110
            have H' := J0.m H
            clear H
            have p11 : 0 ≤ (x8_1 : Int) := dQ
            have q11 : x8_1 < (a0.size : Int) := dQ
            have hx11 := Qbx a0 x8_1
            replace p11 := eq_true p11
            replace q11 := eq_true q11
            go_wp2_with (first | ((with_reducible refine Qas (f := 80) rfl ?_); refine Qbm (some 47) rfl rfl Try.func80 (by kernel_rfl) rfl #[.string a0, .int .i64 x8_1] rfl mQ ?_; (with_reducible refine (Qat.calls kj3 a0 x8_1 t108 t109 _ A16.o).mono ?_); rintro e w' ⟨rfl, ⟨nd, rfl⟩⟩; refine ⟨_, rfl, ?_⟩) | ((with_reducible refine Qcm (b := .append) (xs := #[.tmp 54, .tmp 56]) rfl ?_); at_builtin; refine Kd.Qd9 (Kd.int .u8) (w0 := w) w.heap.size rfl (.tmp 54) (.tmp 56) 36 5 (.int .u8 0) 1 rfl Try.underlying36 info5 rfl (by decide) (by omega) u7 x7_1 t108 [.int .u8 t108] (fun _ => True) (fun _ => False) rfl rfl ?aP (fun _ hk => hk.elim) ?aF ?aO ?aB ?aS ?aL ?_; (case aP => exact rfl); (case aB => exact (by repeat (first | (with_reducible first | exact HB.o | apply Qab | apply Qac | apply Qad | refine Qal ?_ GE107.o) | exact HB.o))); (case aF => exact (fun _ _ => trivial)); (case aO => exact (by (with_reducible repeat (first | apply Kd.Qb2 | apply Kd.Qb1 | apply Kd.Qcg)); exact HO_7.o)); (case aS => exact (Qa8 (by repeat (first | (with_reducible first | exact HB.o | apply Qab | apply Qac | apply Qad | refine Qal ?_ GE107.o) | exact HB.o)))); (case aL => have := LMc19.o; omega); intro v111 w20 ho hb hg hat; rw [← Ny110.o] at ho; have n0_ := J0.m (Qbh (g := gb107) (o := .cells #[.int .i64 x108000_1, .string x108001_1, .int .u64 x108002_1, .int .i64 x108003_1, .int .i64 x108004_1] 47 (0, 0)) (by (with_reducible repeat (first | apply Qae | apply Qah | apply Qag)); exact BK107.o) hg (Kd.R_ne HO_7.o BK107.o (by decide))); have n1_ := J0.m (hb); have n2_ := J0.m (ho); clear BK107; clear HB; clear HO_7; have BK107 := n0_; have HB := n1_; have HO112 := n2_; clear n0_ n1_ n2_; clear ho hb hg hat))
            go_roundg kj3
            case measure => have := HK1.o; have := HJ3.o; omega
            case rel => exact ⟨(y110), (t109), (x108000_1), (x108001_1), (x108002_1), (x108003_1), (x108004_1), (by first | rfl | (simp; done) | (simp [*]; done)), H', ⟨by have := HK1.o; have := HJ3.o; omega⟩, ⟨by (with_reducible repeat (first | apply Kd.Qb2 | apply Kd.Qb1 | apply Kd.Qcg)); exact HO112.o⟩, ⟨by (with_reducible repeat (first | apply Qae | apply Qah | apply Qag)); exact BK107.o⟩, ⟨by repeat (first | (with_reducible first | exact HB.o | apply Qab | apply Qac | apply Qad | refine Qal ?_ GE107.o) | exact HB.o)⟩⟩
           ·rw [if_neg c19] at H
            exact absurd H (by simp)
         ·rw [if_neg c15] at H
          have c15b0 : ((bt a0 x8_1) == 92) = false := beq_eq_false_iff_ne.mpr c15
          have c15b1 : ((bt a0 x8_1) != 92) = true := bne_iff_ne.mpr c15
          by_cases c22 : x7_1.length < 140737488355328
          ·rw [if_pos c22] at H
           have LMc22 := J0.m c22
           clear c22
           obtain ⟨y113, hy113⟩ : ∃ y_ : List Int, y_ = (x7_1 ++ [bt a0 x8_1]) := ⟨_, rfl⟩
           replace H : (Qa3.l0 kj3 a0 a1 y113 (wrap64 (x8_1 + 1))) = some (r1, r2, r3, r4, r5, r6, r7) := by first | (rw [hy113]; with_reducible exact H) | (have H2_ := (Option.bind_some _ _).symm.trans H; rw [hy113]; with_reducible exact H2_) | (have H2_ := (Option.bind_some _ _).symm.trans H; with_reducible exact H2_) | with_reducible exact H | (rw [hy113]; exact H) | exact H
           have Ny113 := J0.m hy113
           clear hy113
           have H' := J0.m H
           clear H
           have p11 : 0 ≤ (x8_1 : Int) := dQ
           have q11 : x8_1 < (a0.size : Int) := dQ
           have hx11 := Qbx a0 x8_1
           replace p11 := eq_true p11
           replace q11 := eq_true q11
           have p21 : 0 ≤ (x8_1 : Int) := dQ
           have q21 : x8_1 < (a0.size : Int) := dQ
           have hx21 := Qbx a0 x8_1
           replace p21 := eq_true p21
           replace q21 := eq_true q21
           go_wp2_with (first | ((with_reducible refine Qcm (b := .append) (xs := #[.tmp 26, .tmp 30]) rfl ?_); at_builtin; refine Kd.Qd9 (Kd.int .u8) (w0 := w) w.heap.size rfl (.tmp 26) (.tmp 30) 36 5 (.int .u8 0) 1 rfl Try.underlying36 info5 rfl (by decide) (by omega) u7 x7_1 (bt a0 x8_1) [.int .u8 (bt a0 x8_1)] (fun _ => True) (fun _ => False) rfl rfl ?aP (fun _ hk => hk.elim) ?aF ?aO ?aB ?aS ?aL ?_; (case aP => exact rfl); (case aB => exact (by repeat (first | (with_reducible first | exact HB.o | apply Qab | apply Qac | apply Qad | refine Qal ?_ GE107.o) | exact HB.o))); (case aF => exact (fun _ _ => trivial)); (case aO => exact (by (with_reducible repeat (first | apply Kd.Qb2 | apply Kd.Qb1 | apply Kd.Qcg)); exact HO_7.o)); (case aS => exact (Qa8 (by repeat (first | (with_reducible first | exact HB.o | apply Qab | apply Qac | apply Qad | refine Qal ?_ GE107.o) | exact HB.o)))); (case aL => have := LMc22.o; omega); intro v114 w23 ho hb hg hat; rw [← Ny113.o] at ho; have n0_ := J0.m (Qbh (g := gb107) (o := .cells #[.int .i64 x108000_1, .string x108001_1, .int .u64 x108002_1, .int .i64 x108003_1, .int .i64 x108004_1] 47 (0, 0)) (by (with_reducible repeat (first | apply Qae | apply Qah | apply Qag)); exact BK107.o) hg (Kd.R_ne HO_7.o BK107.o (by decide))); have n1_ := J0.m (hb); have n2_ := J0.m (ho); clear BK107; clear HB; clear HO_7; have BK107 := n0_; have HB := n1_; have HO115 := n2_; clear n0_ n1_ n2_; clear ho hb hg hat))
           go_roundg kj3
           case measure => have := HK1.o; have := HJ3.o; omega
           case rel => exact ⟨(y113), (wrap64 (x8_1 + 1)), (x108000_1), (x108001_1), (x108002_1), (x108003_1), (x108004_1), (by first | rfl | (simp; done) | (simp [*]; done)), H', ⟨by have := HK1.o; have := HJ3.o; omega⟩, ⟨by (with_reducible repeat (first | apply Kd.Qb2 | apply Kd.Qb1 | apply Kd.Qcg)); exact HO115.o⟩, ⟨by (with_reducible repeat (first | apply Qae | apply Qah | apply Qag)); exact BK107.o⟩, ⟨by repeat (first | (with_reducible first | exact HB.o | apply Qab | apply Qac | apply Qad | refine Qal ?_ GE107.o) | exact HB.o)⟩⟩
          ·rw [if_neg c22] at H
           exact absurd H (by simp)
       ·rw [if_neg c10] at H
        exact absurd H (by simp)
      ·rw [if_neg c9] at H
       exact absurd H (by simp)
     ·replace c8 := Bool.eq_false_iff.mpr c8
      subst c8
      have H1 : (some (0, (⟨#[]⟩ : ByteArray), 0, 0, 0, a1, 81)) = some (r1, r2, r3, r4, r5, r6, r7) := by rw [if_neg (show ¬ (false = true) by decide)] at H; exact H
      clear H
      have H := H1
      clear H1
      simp only [Option.some.injEq, Prod.mk.injEq] at H
      obtain ⟨rfl, rfl, rfl, rfl, rfl, rfl, rfl⟩ := H
      have hcz24_0 : wc.cell? ⟨gb107, 0, none⟩ = some (.int .i64 x108000_1) := (Qaf BK107.o 0).trans rfl
      have hcz24_1 : wc.cell? ⟨gb107, 1, none⟩ = some (.string x108001_1) := (Qaf BK107.o 1).trans rfl
      have hcz24_2 : wc.cell? ⟨gb107, 2, none⟩ = some (.int .u64 x108002_1) := (Qaf BK107.o 2).trans rfl
      have hcz24_3 : wc.cell? ⟨gb107, 3, none⟩ = some (.int .i64 x108003_1) := (Qaf BK107.o 3).trans rfl
      have hcz24_4 : wc.cell? ⟨gb107, 4, none⟩ = some (.int .i64 x108004_1) := (Qaf BK107.o 4).trans rfl
      have hfz24_0 := Qaa BK107.o 0
      have hfz24_1 := Qaa BK107.o 1
      have hfz24_2 := Qaa BK107.o 2
      have hfz24_3 := Qaa BK107.o 3
      have hfz24_4 := Qaa BK107.o 4
      go_wp2
      refine bodyPost_ret (Qbf rfl _ _ gb107 47 #[.int .i64 0, .string ⟨#[]⟩, .int .u64 0, .int .i64 0, .int .i64 0] (0, 0) _ rfl (by (with_reducible repeat (first | apply Qae | apply Qah | apply Qag)); apply sv5; (with_reducible repeat (first | apply Qae | apply Qah | apply Qag)); exact BK107.o) Try.underlying47 rfl (by kernel_rfl)) rfl ?_
      exact ⟨by first | rfl | (simp [Qav, Qau] <;> rfl) | (simp [*, Qav, Qau] <;> rfl), by repeat (first | (with_reducible first | exact HB.o | apply Qab | apply Qac | apply Qad | refine Qal ?_ GE107.o) | exact HB.o)⟩
end Go.Proofs.Ytbdcndkafaajpaa.X
end
