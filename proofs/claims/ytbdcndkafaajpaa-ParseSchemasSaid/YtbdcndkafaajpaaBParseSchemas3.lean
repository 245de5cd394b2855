/- Walks and plain laws behind ParseSchemas. Conditions: those in the theorems. -/
import Derived.Test.YtbdcndkafaajpaaBParseSchemas0
import Derived.Test.YtbdcndkafaajpaaBParseSchemas1
import Derived.Test.YtbdcndkafaajpaaBParseSchemas2
set_option linter.unusedVariables false
set_option linter.unusedSimpArgs false
set_option maxHeartbeats 16000000
set_option maxRecDepth 100000
section
namespace Go.Proofs.Ytbdcndkafaajpaa.A
open Go.RowKit Ytbdcndkafaajpaa.X YtbdcndkafaajpaaW.PrintWords YtbdcndkafaajpaaW.PrintLast YtbdcndkafaajpaaW.PrintMore
open Ytbdcndkafaajpaa.P (Nd EO Res hd isT isM Qar mxl comb mk1 StD VeD EvD)
theorem Qas {w w' : World} {g b : Nat} {o : Obj} (hg : w.grownBy w' (some g)) (hx : w.heap[b]? = some o) (hb : b ≠ g) : w'.heap[b]? = some o := (hg.block b (Qb3 hx) (fun e => by injection e with e; exact hb e)).trans hx
theorem Up.far {w : World} {A : Option Addr} {c : Nat} {L : List Tk} {g b : Nat} {s : US} (h : Up w A c L g s) (hb : g < b) (i : Nat) (v : Value) : Up (w.setCell ⟨b, i, none⟩ v) A c L g s := by
 obtain ⟨q, lv, v5, v6, hq, hp⟩ := h
 exact ⟨q, lv, v5, v6, hq, hp.far (a := i) hb v⟩
theorem Qg3 {α β γ : Type} (x : Res α) (f : α → List Tk → Res β) (g : β → List Tk → Res γ) : (x.bind f).bind g = x.bind fun a r => (f a r).bind g := by cases x <;> rfl
theorem Qp8 (s : ByteArray) : ∀ (l : List ByteArray) (i : Nat), P.idxB s l i = Lib.idxFromS l s i
 | [], _ => rfl
 | x :: l, i => by
  unfold P.idxB Lib.idxFromS
  rw [Qp8 s l (i + 1)]
theorem Qrc (s : ByteArray) : P.kindOf s = Lib.idxOfS ((Qcz.drop 2).take 6) s + 1 := by
 unfold P.kindOf Lib.idxOfS
 rw [Qp8]
 rfl
theorem Qp7 (s : ByteArray) : ∀ (l : List ByteArray) (i : Nat), P.idxB s l i = -1 ∨ ∃ j : Nat, P.idxB s l i = ((i + j : Nat) : Int) ∧ j < l.length
 | [], _ => .inl rfl
 | x :: l, i => by
  unfold P.idxB
  by_cases h : x = s
  ·rw [if_pos h]; exact .inr ⟨0, rfl, by simp⟩
  ·rw [if_neg h]
   rcases Qp7 s l (i + 1) with h | ⟨j, h, hj⟩
   ·exact .inl h
   ·exact .inr ⟨j + 1, by rw [h]; congr 1; omega, by simp only [List.length_cons]; omega⟩
theorem Qnq (s : ByteArray) : ∃ k : Nat, P.kindOf s = (k : Int) ∧ k ≤ 6 := by
 unfold P.kindOf
 rcases Qp7 s P.kinds 0 with h | ⟨j, h, hj⟩
 ·exact ⟨0, by rw [h]; rfl, by omega⟩
 ·have h6 : P.kinds.length = 6 := by kernel_rfl
  exact ⟨j + 1, by rw [h]; omega, by omega⟩
theorem Qk2 {w : World} {B : Nat} (h : w.heap[B]? = some (.cells (Qcz.map Value.string).toArray 9 (0, 0))) : ∀ j, j < (Qcz.drop 2).length → w.cell? ⟨B, 2 + j, none⟩ = some (.string ((Qcz.drop 2).getD j ByteArray.empty)) := fun j hj => by
 have hl : Qcz.length = 18 := by kernel_rfl
 have := Qhl h (2 + j) (by rw [List.length_drop] at hj; omega)
 rw [Nat.zero_add] at this
 rw [this]
 congr 2
 rw [List.getD_eq_getElem?_getD, List.getD_eq_getElem?_getD, List.getElem?_drop]
def tailW (k p : Int) (a : ByteArray) (r : List Tk) : Res StD := (P.Qf6 (P.stepOf k p a) r).bind fun d r => (Qar 59 r).bind fun _ r => .ok d r
def Qqb (k p : Int) (r : List Tk) : Res StD := (P.want (decide (0 < P.stK r)) r).bind fun t r => (P.Qdg r).bind fun a r => tailW k p a.f1 r
theorem Qde {ts : List Tk} {k p : Int} (hk : P.stK ts = k) (hp : (hd ts).f3 = p) : P.stepW ts = Qqb k p ts := by
 subst hk hp
 unfold P.stepW Qqb P.want
 by_cases h : decide (0 < P.stK ts) = true
 ·rw [if_pos h]; rfl
 ·rw [if_neg h]; rfl
theorem tail0 (p : Int) (a : ByteArray) (r : List Tk) : tailW 0 p a r = (Qar 59 r).bind fun _ r => .ok (P.stepOf 0 p a) r := by
 unfold tailW P.Qf6
 simp only [P.stepOf, show ((0 : Int) = 1) = False from by decide, show ((0 : Int) = 2) = False from by decide, show ((0 : Int) = 3) = False from by decide, show ((0 : Int) = 4) = False from by decide, show ((0 : Int) = 5) = False from by decide, if_false]
 rfl
theorem tail1 (p : Int) (a : ByteArray) (r : List Tk) : tailW 1 p a r = (Qar 58 r).bind fun _ r => (P.Qdg r).bind fun t r => if isM 61 r then (P.Qdh r.tail).bind fun v r => (Qar 59 r).bind fun _ r => .ok { P.stepOf 1 p a with ty := t.f1, val := v.ns } r else (Qar 59 r).bind fun _ r => .ok { P.stepOf 1 p a with ty := t.f1 } r := by
 unfold tailW P.Qf6
 simp only [P.stepOf, if_true]
 rw [Qg3]
 congr 1; funext _ r
 rw [Qg3]
 congr 1; funext t r
 by_cases h : isM 61 r = true
 ·rw [if_pos h, if_pos h, Qg3]; rfl
 ·rw [if_neg h, if_neg h]; rfl
theorem tail2 (p : Int) (a : ByteArray) (r : List Tk) : tailW 2 p a r = (P.Qdi P.sTo r).bind fun _ r => (P.Qdg r).bind fun t r => (Qar 59 r).bind fun _ r => .ok { P.stepOf 2 p a with b := t.f1 } r := by
 unfold tailW P.Qf6
 simp only [P.stepOf, show ((2 : Int) = 1) = False from by decide, show ((2 : Int) = 3) = False from by decide, show ((2 : Int) = 4) = False from by decide, show ((2 : Int) = 5) = False from by decide, if_true, if_false, Qg3]
 rfl
theorem tail3 (p : Int) (a : ByteArray) (r : List Tk) : tailW 3 p a r = (P.Qdi P.sAt r).bind fun _ r => (P.Qgi r).bind fun x r => (P.Qdi P.Qjp r).bind fun _ r => (P.Qdg r).bind fun t r => (Qar 44 r).bind fun _ r => (P.Qdg r).bind fun u r => (Qar 59 r).bind fun _ r => .ok { P.stepOf 3 p a with sep := x.f1, b := t.f1, c := u.f1 } r := by
 unfold tailW P.Qf6
 simp only [P.stepOf, show ((3 : Int) = 1) = False from by decide, show ((3 : Int) = 2) = False from by decide, show ((3 : Int) = 4) = False from by decide, show ((3 : Int) = 5) = False from by decide, if_true, if_false, Qg3]
 rfl
theorem tail4 (p : Int) (a : ByteArray) (r : List Tk) : tailW 4 p a r = (Qar 44 r).bind fun _ r => (P.Qdg r).bind fun t r => (P.Qdi P.Qov r).bind fun _ r => (P.Qgi r).bind fun x r => (P.Qdi P.Qjp r).bind fun _ r => (P.Qdg r).bind fun u r => (Qar 59 r).bind fun _ r => .ok { P.stepOf 4 p a with b := t.f1, sep := x.f1, c := u.f1 } r := by
 unfold tailW P.Qf6
 simp only [P.stepOf, show ((4 : Int) = 1) = False from by decide, show ((4 : Int) = 2) = False from by decide, show ((4 : Int) = 3) = False from by decide, show ((4 : Int) = 5) = False from by decide, if_true, if_false, Qg3]
 rfl
theorem tail5 (p : Int) (a : ByteArray) (r : List Tk) : tailW 5 p a r = (P.Qdi P.sTo r).bind fun _ r => (P.Qdg r).bind fun t r => (Qar 59 r).bind fun _ r => .ok { P.stepOf 5 p a with ty := t.f1 } r := by
 unfold tailW P.Qf6
 simp only [P.stepOf, show ((5 : Int) = 1) = False from by decide, show ((5 : Int) = 2) = False from by decide, show ((5 : Int) = 3) = False from by decide, show ((5 : Int) = 4) = False from by decide, if_true, if_false, Qg3]
 rfl
theorem tail6 (p : Int) (a : ByteArray) (r : List Tk) : tailW 6 p a r = (Qar 59 r).bind fun _ r => .ok (P.stepOf 6 p a) r := by
 unfold tailW P.Qf6
 simp only [P.stepOf, show ((6 : Int) = 1) = False from by decide, show ((6 : Int) = 2) = False from by decide, show ((6 : Int) = 3) = False from by decide, show ((6 : Int) = 4) = False from by decide, show ((6 : Int) = 5) = False from by decide, if_false]
 rfl
theorem rn_own {W : World} {g : Nat} {v : Value} {ns : List Nd} (h : Kd.R kn 49 W g (fun _ => True) v ns) : Kd.R kn 49 W g (fun k => v.ownBlock = some k) v ns := by
 obtain ⟨_, inner, ho, hr⟩ := h
 exact ⟨fun k hk => hk, inner, ho, hr.imp_ (fun _ _ hp => hp)⟩
theorem Qks {W W' : World} {g : Nat} {v : Value} {ns : List Nd} (h : Kd.R kn 49 W g (fun _ => True) v ns) (hm : ∀ k, v.ownBlock = some k → W'.heap[k]? = W.heap[k]?) : Kd.R kn 49 W' g (fun _ => True) v ns :=
 Kd.Qe4 (Kd.Qke (rn_own h) (fun k hk _ => hm k hk)) (fun _ _ => trivial)
theorem set8 {W : World} {b : Nat} {a0 a1 a2 a3 a4 a5 a6 a7 v0 v1 v2 v3 v4 v5 v6 v7 : Value} {t : TypeId} (h : W.heap[b]? = some (.cells #[a0, a1, a2, a3, a4, a5, a6, a7] t (0, 0))) : ((((((((W.setCell ⟨b, 0, none⟩ v0).setCell ⟨b, 1, none⟩ v1).setCell ⟨b, 2, none⟩ v2).setCell ⟨b, 3, none⟩ v3).setCell ⟨b, 4, none⟩ v4).setCell ⟨b, 5, none⟩ v5).setCell ⟨b, 6, none⟩ v6).setCell ⟨b, 7, none⟩ v7).heap[b]? = some (.cells #[v0, v1, v2, v3, v4, v5, v6, v7] t (0, 0)) := by
 have h0 : (W.setCell ⟨b, 0, none⟩ v0).heap[b]? = some (.cells #[v0, a1, a2, a3, a4, a5, a6, a7] t (0, 0)) := Qby h 0 v0 rfl
 have h1 : ((W.setCell ⟨b, 0, none⟩ v0).setCell ⟨b, 1, none⟩ v1).heap[b]? = some (.cells #[v0, v1, a2, a3, a4, a5, a6, a7] t (0, 0)) := Qby h0 1 v1 rfl
 have h2 : (((W.setCell ⟨b, 0, none⟩ v0).setCell ⟨b, 1, none⟩ v1).setCell ⟨b, 2, none⟩ v2).heap[b]? = some (.cells #[v0, v1, v2, a3, a4, a5, a6, a7] t (0, 0)) := Qby h1 2 v2 rfl
 have h3 : ((((W.setCell ⟨b, 0, none⟩ v0).setCell ⟨b, 1, none⟩ v1).setCell ⟨b, 2, none⟩ v2).setCell ⟨b, 3, none⟩ v3).heap[b]? = some (.cells #[v0, v1, v2, v3, a4, a5, a6, a7] t (0, 0)) := Qby h2 3 v3 rfl
 have h4 : (((((W.setCell ⟨b, 0, none⟩ v0).setCell ⟨b, 1, none⟩ v1).setCell ⟨b, 2, none⟩ v2).setCell ⟨b, 3, none⟩ v3).setCell ⟨b, 4, none⟩ v4).heap[b]? = some (.cells #[v0, v1, v2, v3, v4, a5, a6, a7] t (0, 0)) := Qby h3 4 v4 rfl
 have h5 : ((((((W.setCell ⟨b, 0, none⟩ v0).setCell ⟨b, 1, none⟩ v1).setCell ⟨b, 2, none⟩ v2).setCell ⟨b, 3, none⟩ v3).setCell ⟨b, 4, none⟩ v4).setCell ⟨b, 5, none⟩ v5).heap[b]? = some (.cells #[v0, v1, v2, v3, v4, v5, a6, a7] t (0, 0)) := Qby h4 5 v5 rfl
 have h6 : (((((((W.setCell ⟨b, 0, none⟩ v0).setCell ⟨b, 1, none⟩ v1).setCell ⟨b, 2, none⟩ v2).setCell ⟨b, 3, none⟩ v3).setCell ⟨b, 4, none⟩ v4).setCell ⟨b, 5, none⟩ v5).setCell ⟨b, 6, none⟩ v6).heap[b]? = some (.cells #[v0, v1, v2, v3, v4, v5, v6, a7] t (0, 0)) := Qby h5 6 v6 rfl
 have h7 : ((((((((W.setCell ⟨b, 0, none⟩ v0).setCell ⟨b, 1, none⟩ v1).setCell ⟨b, 2, none⟩ v2).setCell ⟨b, 3, none⟩ v3).setCell ⟨b, 4, none⟩ v4).setCell ⟨b, 5, none⟩ v5).setCell ⟨b, 6, none⟩ v6).setCell ⟨b, 7, none⟩ v7).heap[b]? = some (.cells #[v0, v1, v2, v3, v4, v5, v6, v7] t (0, 0)) := Qby h6 7 v7 rfl
 exact h7
theorem up8 {W : World} {A : Option Addr} {c : Nat} {L : List Tk} {g b : Nat} {s : US} {v0 v1 v2 v3 v4 v5 v6 v7 : Value} (h : Up W A c L g s) (hb : g < b) : Up ((((((((W.setCell ⟨b, 0, none⟩ v0).setCell ⟨b, 1, none⟩ v1).setCell ⟨b, 2, none⟩ v2).setCell ⟨b, 3, none⟩ v3).setCell ⟨b, 4, none⟩ v4).setCell ⟨b, 5, none⟩ v5).setCell ⟨b, 6, none⟩ v6).setCell ⟨b, 7, none⟩ v7) A c L g s := (Up.far (b := b) (Up.far (b := b) (Up.far (b := b) (Up.far (b := b) (Up.far (b := b) (Up.far (b := b) (Up.far (b := b) (Up.far (b := b) h hb 0 v0) hb 1 v1) hb 2 v2) hb 3 v3) hb 4 v4) hb 5 v5) hb 6 v6) hb 7 v7)
theorem Qeh {w W : World} {g b : Nat} {v0 v1 v2 v3 v4 v5 v6 v7 : Value} (h : w.grownBy W (some g)) (hb : w.heap.size ≤ b) : w.grownBy ((((((((W.setCell ⟨b, 0, none⟩ v0).setCell ⟨b, 1, none⟩ v1).setCell ⟨b, 2, none⟩ v2).setCell ⟨b, 3, none⟩ v3).setCell ⟨b, 4, none⟩ v4).setCell ⟨b, 5, none⟩ v5).setCell ⟨b, 6, none⟩ v6).setCell ⟨b, 7, none⟩ v7) (some g) := (Qau (g := g) (Qau (g := g) (Qau (g := g) (Qau (g := g) (Qau (g := g) (Qau (g := g) (Qau (g := g) (Qau (g := g) h hb 0 v0) hb 1 v1) hb 2 v2) hb 3 v3) hb 4 v4) hb 5 v5) hb 6 v6) hb 7 v7)
theorem rn8 {W : World} {g b : Nat} {a0 a1 a2 a3 a4 a5 a6 a7 v0 v1 v2 v3 v4 v5 v6 v7 v : Value} {ns : List Nd} (h : Kd.R kn 49 W g (fun _ => True) v ns) (hb : W.heap[b]? = some (.cells #[a0, a1, a2, a3, a4, a5, a6, a7] 62 (0, 0))) : Kd.R kn 49 ((((((((W.setCell ⟨b, 0, none⟩ v0).setCell ⟨b, 1, none⟩ v1).setCell ⟨b, 2, none⟩ v2).setCell ⟨b, 3, none⟩ v3).setCell ⟨b, 4, none⟩ v4).setCell ⟨b, 5, none⟩ v5).setCell ⟨b, 6, none⟩ v6).setCell ⟨b, 7, none⟩ v7) g (fun _ => True) v ns := by
 have ne : ∀ k, v.ownBlock = some k → k ≠ b := fun k hk e => by subst e; exact Kd.R_ne h hb (by decide) hk.symm
 refine Qks h (fun k hk => ?_)
 have hne := ne k hk
 rw [Below.heap_setCell _ ⟨b, 7, none⟩ v7 k hne, Below.heap_setCell _ ⟨b, 6, none⟩ v6 k hne, Below.heap_setCell _ ⟨b, 5, none⟩ v5 k hne, Below.heap_setCell _ ⟨b, 4, none⟩ v4 k hne, Below.heap_setCell _ ⟨b, 3, none⟩ v3 k hne, Below.heap_setCell _ ⟨b, 2, none⟩ v2 k hne, Below.heap_setCell _ ⟨b, 1, none⟩ v1 k hne, Below.heap_setCell _ ⟨b, 0, none⟩ v0 k hne]
theorem Co.Qej {β : Type} {F : Res β} {fin : US} {d : β} (h : Co F (fun r => .ok d r) fin) : (∃ d r, fin = US.ok r ∧ F = .ok d r) ∨ ∃ e p, fin = US.bad e p ∧ F = .bad e p := by
 rcases Co.end_ h with ⟨r, h1, h2⟩ | h
 ·exact .inl ⟨d, r, h1, h2⟩
 ·exact .inr h
theorem Qqd {α : Type} {r : List Tk} {y : Res α} {f : List Tk → Res α} (h : true = isM 61 r) : (if isM 61 r then f r.tail else y) = (Qar 61 r).bind fun _ r => f r := by
 rw [if_pos h.symm]; unfold Qar P.want; rw [← h]; rfl
theorem box8 {W : World} {b : Nat} {a0 a1 a2 a3 a4 a5 a6 a7 : Value} {t : TypeId} (h : W.heap[b]? = some (.cells #[a0, a1, a2, a3, a4, a5, a6, a7] t (0, 0))) : W.cell? ⟨b, 0, none⟩ = some a0 ∧ W.cell? ⟨b, 1, none⟩ = some a1 ∧ W.cell? ⟨b, 2, none⟩ = some a2 ∧ W.cell? ⟨b, 3, none⟩ = some a3 ∧ W.cell? ⟨b, 4, none⟩ = some a4 ∧ W.cell? ⟨b, 5, none⟩ = some a5 ∧ W.cell? ⟨b, 6, none⟩ = some a6 ∧ W.cell? ⟨b, 7, none⟩ = some a7 :=
 ⟨(Qac h 0).trans rfl, (Qac h 1).trans rfl, (Qac h 2).trans rfl, (Qac h 3).trans rfl, (Qac h 4).trans rfl, (Qac h 5).trans rfl, (Qac h 6).trans rfl, (Qac h 7).trans rfl⟩
theorem Qf5 {W : World} {b : Nat} {cs : Array Value} {t : TypeId} (h : W.heap[b]? = some (.cells cs t (0, 0))) : W.frozen? ⟨b, 0, none⟩ = false ∧ W.frozen? ⟨b, 1, none⟩ = false ∧ W.frozen? ⟨b, 2, none⟩ = false ∧ W.frozen? ⟨b, 3, none⟩ = false ∧ W.frozen? ⟨b, 4, none⟩ = false ∧ W.frozen? ⟨b, 5, none⟩ = false ∧ W.frozen? ⟨b, 6, none⟩ = false ∧ W.frozen? ⟨b, 7, none⟩ = false :=
 ⟨Qaa h 0, Qaa h 1, Qaa h 2, Qaa h 3, Qaa h 4, Qaa h 5, Qaa h 6, Qaa h 7⟩
theorem Qn4 {α : Type} {r : List Tk} {x y : Res α} (h : false = isM 61 r) : (if isM 61 r then x else y) = y := if_neg (by rw [← h]; decide)
theorem Qmd (w : World) (A : Option Addr) (c : Nat) (L : List Tk) (g : Nat) (s : US) (hG : Good L) (hL : L.length ≤ 33554432) (h : Up w A c L g s) :
  Calls Try.prog 83 #[.pointer (some ⟨g, 0, none⟩)] w fun e w' => ∃ x ns, e = .returned (.agg #[.int .i64 x.k, .string x.a, .string x.b, .string x.c, .string x.sep, .string x.ty, .slice x.val.A x.val.n x.val.c, .int .i64 x.pl]) ∧ Kd.R kn 49 w' g (fun _ => True) x.val.v ns ∧ (∀ k, x.val.v.ownBlock = some k → w.heap.size ≤ k) ∧ Up w' A c L g (s.step P.stepW) ∧ w.grownBy w' (some g) ∧ ∀ ts d r, s = .ok ts → P.stepW ts = .ok d r → StM x ns d := by
 obtain ⟨w0, hw0⟩ : ∃ w0, w0 = w.alloc (.cells #[.int .i64 0, .string ⟨#[]⟩, .string ⟨#[]⟩, .string ⟨#[]⟩, .string ⟨#[]⟩, .string ⟨#[]⟩, .slice none 0 0, .int .i64 0] 62) := ⟨_, rfl⟩
 obtain ⟨b2, hb2⟩ : ∃ b2, b2 = w.heap.size := ⟨_, rfl⟩
 have hB0 : Below w.heap.size w w0 := by rw [hw0]; exact Qab (Below.refl _ _) _
 have HU0 := J0.m (h.below hB0)
 have HR0 := J0.m (Qaj hB0 (some g))
 have HY0 := J0.m (show w0.heap[b2]? = some zO8 from by rw [hw0, hb2]; exact Qay _ _)
 have GB2 : J0 (g < b2) := ⟨by rw [hb2]; exact h.glt⟩
 have NB2 : J0 (b2 ≠ g) := ⟨by have := GB2.o; omega⟩
 have LB2 : J0 (w.heap.size ≤ b2) := ⟨by rw [hb2]; exact Nat.le_refl _⟩
 have HB2 := J0.m hb2
 have HW0 := J0.m hw0
 have HG := J0.m hG
 have HL := J0.m hL
 obtain ⟨F, hF0, hFe⟩ := Co.start s P.stepW
 have HF0 := J0.m hF0
 have HFE := J0.m hFe
 clear h hw0 hb2 hB0 hG hL hF0 hFe
 go_enter Try.func83, Try.ntmps83
 go_wp2_with fail
 rw [← HW0.o, ← HB2.o]
 refine (Qen HU0.o).mono ?_
 rintro e w1 ⟨⟨k1, s1, n1, p1, e1⟩, hf1, rfl, hb⟩
 have HT1 := J0.m hf1
 have HU1 := J0.m (HU0.o.below hb)
 have HR1 := J0.m (HR0.o.trans (Qaj hb _))
 have HY1 := J0.m (Qae HY0.o hb)
 clear hb hf1
 obtain ⟨fd0, fd1, fd2, fd3⟩ := fld ⟨k1, s1, n1, p1, e1⟩
 obtain ⟨b3, hb3⟩ : ∃ b3, b3 = w1.heap.size := ⟨_, rfl⟩
 obtain ⟨w2, hw2⟩ : ∃ w2, w2 = w1.alloc (.cells #[.int .i64 0, .string ⟨#[]⟩, .string ⟨#[]⟩, .string ⟨#[]⟩, .string ⟨#[]⟩, .string ⟨#[]⟩, .slice none 0 0, .int .i64 p1] 62) := ⟨_, rfl⟩
 have hb : Below w1.heap.size w1 w2 := by rw [hw2]; exact Qab (Below.refl _ _) _
 have HU2 := J0.m (HU1.o.below hb)
 have HR2 := J0.m (HR1.o.trans (Qaj hb _))
 have HY2 := J0.m (Qae HY1.o hb)
 have HX2 := J0.m (show w2.heap[b3]? = some (.cells #[.int .i64 0, .string ⟨#[]⟩, .string ⟨#[]⟩, .string ⟨#[]⟩, .string ⟨#[]⟩, .string ⟨#[]⟩, .slice none 0 0, .int .i64 p1] 62 (0, 0)) from by rw [hw2, hb3]; exact Qay _ _)
 have GB3 : J0 (g < b3) := ⟨by rw [hb3]; exact HU1.o.glt⟩
 have NB3 : J0 (b3 ≠ g) := ⟨by have := GB3.o; omega⟩
 have LB3 : J0 (w.heap.size ≤ b3) := ⟨by rw [hb3]; exact HR1.o.size⟩
 have NB23 : J0 (b2 ≠ b3) := ⟨by have := Qb3 HY1.o; rw [hb3]; omega⟩
 have HB3 := J0.m hb3
 have HW2 := J0.m hw2
 clear hb hw2 hb3
 go_wp2_with fail
 rw [← HW2.o, ← HB3.o]
 refine (Qhm w2).mono ?_
 rintro e w3 ⟨B, rfl, hbw, hb, _⟩
 have HBW3 := J0.m hbw
 have HU3 := J0.m (HU2.o.below hb)
 have HR3 := J0.m (HR2.o.trans (Qaj hb _))
 have HY3 := J0.m (Qae HY2.o hb)
 have HX3 := J0.m (Qae HX2.o hb)
 clear hb hbw
 go_wp2_with fail
 refine (Qen HU3.o).mono ?_
 rintro e w4 ⟨⟨k2, s2, n2, p2, e2⟩, hf2, rfl, hb⟩
 have HT2 := J0.m hf2
 have HBW4 := J0.m (Qae HBW3.o hb)
 have HU4 := J0.m (HU3.o.below hb)
 have HR4 := J0.m (HR3.o.trans (Qaj hb _))
 have HY4 := J0.m (Qae HY3.o hb)
 have HX4 := J0.m (Qae HX3.o hb)
 clear hb hf2
 obtain ⟨gd0, gd1, gd2, gd3⟩ := fld ⟨k2, s2, n2, p2, e2⟩
 by_cases hk2 : k2 = 1
 ·subst hk2
  go_wp2_with fail
  refine (Qen HU4.o).mono ?_
  rintro e w5 ⟨⟨k3, s3, n3, p3, e3⟩, hf3, rfl, hb⟩
  have HT3 := J0.m hf3
  have HBW5 := J0.m (Qae HBW4.o hb)
  have HU5 := J0.m (HU4.o.below hb)
  have HR5 := J0.m (HR4.o.trans (Qaj hb _))
  have HY5 := J0.m (Qae HY4.o hb)
  have HX5 := J0.m (Qae HX4.o hb)
  clear hb hf3
  obtain ⟨id0, id1, id2, id3⟩ := fld ⟨k3, s3, n3, p3, e3⟩
  obtain ⟨k, hk, hk6⟩ := Qnq s3
  have hkk : ∀ ts, s = .ok ts → P.stK ts = (k : Int) := fun ts hs => by
   unfold P.stK
   rw [← HT2.o ts hs, if_pos rfl, HT2.o ts hs, ← HT3.o ts hs]; exact hk
  have hix : Lib.idxOfS ((Qcz.drop 2).take 6) s3 = (k : Int) - 1 := by have := Qrc s3; omega
  have HIX : J0 (Calls Try.prog 90 #[.slice (some ⟨B, 2, none⟩) 6 16, .string s3] w5 fun e w' => e = .returned (.int .i64 ((k : Int) - 1)) ∧ w' = w5) := ⟨by rw [← hix]; exact Try.slices_Index_string B 2 6 16 (Qcz.drop 2) s3 w5 (by decide) (by decide) (Qk2 HBW5.o)⟩
  have c0_5 := (Qac HX5.o 0).trans rfl
  have f0_5 := Qaa HX5.o 0
  clear hix hk
  obtain rfl | rfl | rfl | rfl | rfl | rfl | rfl : k = 0 ∨ k = 1 ∨ k = 2 ∨ k = 3 ∨ k = 4 ∨ k = 5 ∨ k = 6 := by omega
  ·have HKK : J0 (∀ ts, s = .ok ts → P.stK ts = 0) := ⟨hkk⟩
   have HC5 := J0.m (HF0.o.to (fun r hr => Qde (k := 0) (p := p1) (HKK.o r hr) (by rw [← HT1.o r hr])))
   clear hkk
   go_wp2_with fail
   refine HIX.o.mono ?_
   rintro e w6 ⟨rfl, hw6⟩
   rw [hw6]
   clear HIX hw6
   have HU6' := HU5
   obtain ⟨w6, hw⟩ : ∃ w6, w6 = w5.setCell ⟨b3, 0, none⟩ (.int .i64 0) := ⟨_, rfl⟩
   have HU6 := J0.m (show Up w6 A c L g _ from by rw [hw]; exact HU5.o.far GB3.o 0 _)
   have HR6 := J0.m (show w.grownBy w6 (some g) from by rw [hw]; exact Qau (g := g) HR5.o LB3.o 0 _)
   have HX6 := J0.m (show w6.heap[b3]? = some (.cells #[.int .i64 0, .string ⟨#[]⟩, .string ⟨#[]⟩, .string ⟨#[]⟩, .string ⟨#[]⟩, .string ⟨#[]⟩, .slice none 0 0, .int .i64 p1] 62 (0, 0)) from by rw [hw]; exact (Qa8 HX5.o _).trans (by rfl))
   have HY6 := J0.m (show w6.heap[b2]? = some zO8 from by rw [hw]; exact Qa2 NB23.o HY5.o _)
   have HC6 := HC5
   have HW6 := J0.m hw
   clear hw
   have c0_6 := (Qac HX6.o 0).trans rfl
   have f0_6 := Qaa HX6.o 0
   have HCL := J0.m (Qc8 HG.o false (fun ts => decide (0 < P.stK ts)) HU6.o (fun ts hs => ⟨by rw [HKK.o ts hs]; rfl, fun h => P.Qc0 (by rw [HKK.o ts hs]; exact absurd h (by decide))⟩))
   go_wp2_with fail
   rw [← HW6.o]
   refine HCL.o.mono ?_
   rintro e w7 ⟨⟨tk0, hfr, rfl⟩, hu, hg⟩
   clear HCL
   have HC7 := J0.m (Co.step HC6.o hfr)
   have HU7 := J0.m hu
   have HR7 := J0.m (HR6.o.trans hg)
   have HX7 := J0.m (Qas hg HX6.o NB3.o)
   have HY7 := J0.m (Qas hg HY6.o NB2.o)
   clear hu hg hfr
   have HCL := J0.m (Qbf HG.o HU7.o)
   go_wp2_with fail
   refine HCL.o.mono ?_
   rintro e w8 ⟨⟨ta, hfr, rfl⟩, hu, hg⟩
   clear HCL
   have HC8 := J0.m ((HC7.o).name hfr)
   have HU8 := J0.m hu
   have HR8 := J0.m (HR7.o.trans hg)
   have HX8 := J0.m (Qas hg HX7.o NB3.o)
   have HY8 := J0.m (Qas hg HY7.o NB2.o)
   clear hu hg hfr
   have c0_8 := (Qac HX8.o 0).trans rfl
   have f0_8 := Qaa HX8.o 0
   have c1_8 := (Qac HX8.o 1).trans rfl
   have f1_8 := Qaa HX8.o 1
   obtain ⟨w9, hw⟩ : ∃ w9, w9 = w8.setCell ⟨b3, 1, none⟩ (.string ta.f1) := ⟨_, rfl⟩
   have HU9 := J0.m (show Up w9 A c L g _ from by rw [hw]; exact HU8.o.far GB3.o 1 _)
   have HR9 := J0.m (show w.grownBy w9 (some g) from by rw [hw]; exact Qau (g := g) HR8.o LB3.o 1 _)
   have HX9 := J0.m (show w9.heap[b3]? = some (.cells #[.int .i64 0, .string ta.f1, .string ⟨#[]⟩, .string ⟨#[]⟩, .string ⟨#[]⟩, .string ⟨#[]⟩, .slice none 0 0, .int .i64 p1] 62 (0, 0)) from by rw [hw]; exact (Qa8 HX8.o _).trans (by rfl))
   have HY9 := J0.m (show w9.heap[b2]? = some zO8 from by rw [hw]; exact Qa2 NB23.o HY8.o _)
   have HC9 := HC8
   have HW9 := J0.m hw
   clear hw
   have HC9 := J0.m (HC9.o.to (fun r _ => tail0 _ _ r))
   have HCL := J0.m (Qa4 HG.o 59 HU9.o)
   go_wp2_with fail
   rw [← HW9.o]
   refine HCL.o.mono ?_
   rintro e w10 ⟨⟨tz, hfr, rfl⟩, hu, hg⟩
   clear HCL
   have HC10 := J0.m ((HC9.o).mark hfr)
   have HU10 := J0.m hu
   have HR10 := J0.m (HR9.o.trans hg)
   have HX10 := J0.m (Qas hg HX9.o NB3.o)
   have HY10 := J0.m (Qas hg HY9.o NB2.o)
   have hgz := hg
   clear hu hg hfr
   obtain ⟨c0_10, c1_10, c2_10, c3_10, c4_10, c5_10, c6_10, c7_10⟩ := box8 HX10.o
   obtain ⟨y0, y1, y2, y3, y4, y5, y6, y7⟩ := box8 HY10.o
   obtain ⟨g0, g1, g2, g3, g4, g5, g6, g7⟩ := Qf5 HY10.o
   go_wp2
   refine bodyPost_ret (Qbm rfl _ _ b2 62 #[.int .i64 0, .string ta.f1, .string ⟨#[]⟩, .string ⟨#[]⟩, .string ⟨#[]⟩, .string ⟨#[]⟩, .slice none 0 0, .int .i64 p1] (0, 0) _ rfl (set8 HY10.o) Try.underlying62 rfl (by kernel_rfl)) rfl ?_
   refine ⟨⟨0, ta.f1, ⟨#[]⟩, ⟨#[]⟩, ⟨#[]⟩, ⟨#[]⟩, ⟨none, 0, 0⟩, p1⟩, [], rfl, Kd.Qdd _ _ _ _ _, (fun k hk => by simp [Sl.v, Value.ownBlock] at hk), ?_, Qeh HR10.o LB2.o, fun ts d r h1 h2 => ?_⟩
   ·rw [← HFE.o _ (Co.Qej HC10.o)]
    exact up8 HU10.o GB2.o
   ·have := Co.val HC10.o HF0.o ts d r h1 h2
    subst this
    exact ⟨rfl, rfl, rfl, rfl, rfl, rfl, rfl, rfl⟩
  ·have HKK : J0 (∀ ts, s = .ok ts → P.stK ts = 1) := ⟨hkk⟩
   have HC5 := J0.m (HF0.o.to (fun r hr => Qde (k := 1) (p := p1) (HKK.o r hr) (by rw [← HT1.o r hr])))
   clear hkk
   go_wp2_with fail
   refine HIX.o.mono ?_
   rintro e w6 ⟨rfl, hw6⟩
   rw [hw6]
   clear HIX hw6
   have HU6' := HU5
   obtain ⟨w6, hw⟩ : ∃ w6, w6 = w5.setCell ⟨b3, 0, none⟩ (.int .i64 1) := ⟨_, rfl⟩
   have HU6 := J0.m (show Up w6 A c L g _ from by rw [hw]; exact HU5.o.far GB3.o 0 _)
   have HR6 := J0.m (show w.grownBy w6 (some g) from by rw [hw]; exact Qau (g := g) HR5.o LB3.o 0 _)
   have HX6 := J0.m (show w6.heap[b3]? = some (.cells #[.int .i64 1, .string ⟨#[]⟩, .string ⟨#[]⟩, .string ⟨#[]⟩, .string ⟨#[]⟩, .string ⟨#[]⟩, .slice none 0 0, .int .i64 p1] 62 (0, 0)) from by rw [hw]; exact (Qa8 HX5.o _).trans (by rfl))
   have HY6 := J0.m (show w6.heap[b2]? = some zO8 from by rw [hw]; exact Qa2 NB23.o HY5.o _)
   have HC6 := HC5
   have HW6 := J0.m hw
   clear hw
   have c0_6 := (Qac HX6.o 0).trans rfl
   have f0_6 := Qaa HX6.o 0
   have HCL := J0.m (Qc8 HG.o true (fun ts => decide (0 < P.stK ts)) HU6.o (fun ts hs => ⟨by rw [HKK.o ts hs]; rfl, fun h => P.Qc0 (by rw [HKK.o ts hs]; exact (by decide))⟩))
   go_wp2_with fail
   rw [← HW6.o]
   refine HCL.o.mono ?_
   rintro e w7 ⟨⟨tk0, hfr, rfl⟩, hu, hg⟩
   clear HCL
   have HC7 := J0.m (Co.step HC6.o hfr)
   have HU7 := J0.m hu
   have HR7 := J0.m (HR6.o.trans hg)
   have HX7 := J0.m (Qas hg HX6.o NB3.o)
   have HY7 := J0.m (Qas hg HY6.o NB2.o)
   clear hu hg hfr
   have HCL := J0.m (Qbf HG.o HU7.o)
   go_wp2_with fail
   refine HCL.o.mono ?_
   rintro e w8 ⟨⟨ta, hfr, rfl⟩, hu, hg⟩
   clear HCL
   have HC8 := J0.m ((HC7.o).name hfr)
   have HU8 := J0.m hu
   have HR8 := J0.m (HR7.o.trans hg)
   have HX8 := J0.m (Qas hg HX7.o NB3.o)
   have HY8 := J0.m (Qas hg HY7.o NB2.o)
   clear hu hg hfr
   have c0_8 := (Qac HX8.o 0).trans rfl
   have f0_8 := Qaa HX8.o 0
   have c1_8 := (Qac HX8.o 1).trans rfl
   have f1_8 := Qaa HX8.o 1
   obtain ⟨w9, hw⟩ : ∃ w9, w9 = w8.setCell ⟨b3, 1, none⟩ (.string ta.f1) := ⟨_, rfl⟩
   have HU9 := J0.m (show Up w9 A c L g _ from by rw [hw]; exact HU8.o.far GB3.o 1 _)
   have HR9 := J0.m (show w.grownBy w9 (some g) from by rw [hw]; exact Qau (g := g) HR8.o LB3.o 1 _)
   have HX9 := J0.m (show w9.heap[b3]? = some (.cells #[.int .i64 1, .string ta.f1, .string ⟨#[]⟩, .string ⟨#[]⟩, .string ⟨#[]⟩, .string ⟨#[]⟩, .slice none 0 0, .int .i64 p1] 62 (0, 0)) from by rw [hw]; exact (Qa8 HX8.o _).trans (by rfl))
   have HY9 := J0.m (show w9.heap[b2]? = some zO8 from by rw [hw]; exact Qa2 NB23.o HY8.o _)
   have HC9 := HC8
   have HW9 := J0.m hw
   clear hw
   have HC9 := J0.m (HC9.o.to (fun r _ => tail1 _ _ r))
   have HCL := J0.m (Qa4 HG.o 58 HU9.o)
   go_wp2_with fail
   rw [← HW9.o]
   refine HCL.o.mono ?_
   rintro e w10 ⟨⟨tq1, hfr, rfl⟩, hu, hg⟩
   clear HCL
   have HC10 := J0.m ((HC9.o).mark hfr)
   have HU10 := J0.m hu
   have HR10 := J0.m (HR9.o.trans hg)
   have HX10 := J0.m (Qas hg HX9.o NB3.o)
   have HY10 := J0.m (Qas hg HY9.o NB2.o)
   clear hu hg hfr
   have HCL := J0.m (Qbf HG.o HU10.o)
   go_wp2_with fail
   refine HCL.o.mono ?_
   rintro e w11 ⟨⟨tb, hfr, rfl⟩, hu, hg⟩
   clear HCL
   have HC11 := J0.m ((HC10.o).name hfr)
   have HU11 := J0.m hu
   have HR11 := J0.m (HR10.o.trans hg)
   have HX11 := J0.m (Qas hg HX10.o NB3.o)
   have HY11 := J0.m (Qas hg HY10.o NB2.o)
   clear hu hg hfr
   have c5_11 := (Qac HX11.o 5).trans rfl
   have f5_11 := Qaa HX11.o 5
   obtain ⟨w12, hw⟩ : ∃ w12, w12 = w11.setCell ⟨b3, 5, none⟩ (.string tb.f1) := ⟨_, rfl⟩
   have HU12 := J0.m (show Up w12 A c L g _ from by rw [hw]; exact HU11.o.far GB3.o 5 _)
   have HR12 := J0.m (show w.grownBy w12 (some g) from by rw [hw]; exact Qau (g := g) HR11.o LB3.o 5 _)
   have HX12 := J0.m (show w12.heap[b3]? = some (.cells #[.int .i64 1, .string ta.f1, .string ⟨#[]⟩, .string ⟨#[]⟩, .string ⟨#[]⟩, .string tb.f1, .slice none 0 0, .int .i64 p1] 62 (0, 0)) from by rw [hw]; exact (Qa8 HX11.o _).trans (by rfl))
   have HY12 := J0.m (show w12.heap[b2]? = some zO8 from by rw [hw]; exact Qa2 NB23.o HY11.o _)
   have HC12 := HC11
   have HW12 := J0.m hw
   clear hw
   have HIS := J0.m (Qcn 4 ⟨#[61]⟩ HU12.o)
   obtain ⟨bq, hbq⟩ : ∃ bq, bq = US.is 4 ⟨#[61]⟩ ((((s.step fun ts => P.want (decide (0 < P.stK ts)) ts).step P.Qdg).step (Qar 58)).step P.Qdg) := ⟨_, rfl⟩
   rw [← hbq] at HIS
   have HBQ := J0.m hbq
   clear hbq
   go_wp2_with fail
   rw [← HW12.o]
   refine HIS.o.mono ?_
   rintro e w13 ⟨rfl, hb⟩
   clear HIS
   have HC13 := HC12
   have HU13 := J0.m (HU12.o.below hb)
   have HR13 := J0.m (HR12.o.trans (Qaj hb _))
   have HX13 := J0.m (Qae HX12.o hb)
   have HY13 := J0.m (Qae HY12.o hb)
   clear hb
   cases bq with
   | true =>
    have HC13 := J0.m (HC13.o.to (k' := fun r => (Qar 61 r).bind fun _ r => (P.Qdh r).bind fun v r => (Qar 59 r).bind fun _ r => .ok { P.stepOf 1 p1 ta.f1 with ty := tb.f1, val := v.ns } r) (fun r hr => Qqd (f := fun r => (P.Qdh r).bind fun v r => (Qar 59 r).bind fun _ r => .ok { P.stepOf 1 p1 ta.f1 with ty := tb.f1, val := v.ns } r) (HBQ.o.trans (by rw [hr]; rfl))))
    have HCL := J0.m (Qa4 HG.o 61 HU13.o)
    go_wp2_with fail
    refine HCL.o.mono ?_
    rintro e w14 ⟨⟨tq2, hfr, rfl⟩, hu, hg⟩
    clear HCL
    have HC14 := J0.m ((HC13.o).mark hfr)
    have HU14 := J0.m hu
    have HR14 := J0.m (HR13.o.trans hg)
    have HX14 := J0.m (Qas hg HX13.o NB3.o)
    have HY14 := J0.m (Qas hg HY13.o NB2.o)
    clear hu hg hfr
    have c6_14 := (Qac HX14.o 6).trans rfl
    have f6_14 := Qaa HX14.o 6
    have HCL := J0.m (Qhn w14 A c L g _ HG.o HL.o HU14.o)
    go_wp2_with fail
    refine HCL.o.mono ?_
    rintro e w15 ⟨v, nsv, rfl, hrv, hnew, hu, hg, hval⟩
    clear HCL
    obtain ⟨Av, cv, hvv⟩ := Kd.Qcp hrv
    subst hvv
    have HC15 := J0.m (Co.call (P := fun _ => True) (g' := fun r => (Qar 59 r).bind fun _ r => .ok { P.stepOf 1 p1 ta.f1 with ty := tb.f1, val := nsv } r) HC14.o (fun ts a r h1 h2 => by rw [hval ts a r h1 h2]))
    have HU15 := J0.m hu
    have HR15 := J0.m (HR14.o.trans hg)
    have HX15 := J0.m (Qas hg HX14.o NB3.o)
    have HY15 := J0.m (Qas hg HY14.o NB2.o)
    have HNEW : J0 (∀ k, (Value.slice Av nsv.length cv).ownBlock = some k → w.heap.size ≤ k) := ⟨fun k hk => Nat.le_trans HR14.o.size (hnew k hk)⟩
    have HNG : J0 ((Value.slice Av nsv.length cv).ownBlock = some g → False) := ⟨fun hk => by have := HNEW.o g hk; have := GB2.o; have := HB2.o; omega⟩
    have HN15 := J0.m hrv
    clear hu hg hval hnew hrv c6_14 f6_14
    have c6_15 := (Qac HX15.o 6).trans rfl
    have f6_15 := Qaa HX15.o 6
    obtain ⟨w16, hw⟩ : ∃ w16, w16 = w15.setCell ⟨b3, 6, none⟩ (.slice Av nsv.length cv) := ⟨_, rfl⟩
    have HU16 := J0.m (show Up w16 A c L g _ from by rw [hw]; exact HU15.o.far GB3.o 6 _)
    have HR16 := J0.m (show w.grownBy w16 (some g) from by rw [hw]; exact Qau (g := g) HR15.o LB3.o 6 _)
    have HX16 := J0.m (show w16.heap[b3]? = some (.cells #[.int .i64 1, .string ta.f1, .string ⟨#[]⟩, .string ⟨#[]⟩, .string ⟨#[]⟩, .string tb.f1, .slice Av nsv.length cv, .int .i64 p1] 62 (0, 0)) from by rw [hw]; exact (Qa8 HX15.o _).trans (by rfl))
    have HY16 := J0.m (show w16.heap[b2]? = some zO8 from by rw [hw]; exact Qa2 NB23.o HY15.o _)
    have HC16 := HC15
    have HW16 := J0.m hw
    clear hw
    have HN16 := J0.m (show Kd.R kn 49 w16 g (fun _ => True) (.slice Av nsv.length cv) nsv from by rw [HW16.o]; exact Kd.R_set HN15.o HX15.o (by intro q hq; simp only [kn, Kd.iso, Kd.pair, Kd.int, Kd.string, Kd.scalar, List.append_nil, List.mem_singleton] at hq; rw [hq]; decide) 6 _)
    have HCL := J0.m (Qa4 HG.o 59 HU16.o)
    go_wp2_with fail
    rw [← HW16.o]
    refine HCL.o.mono ?_
    rintro e w17 ⟨⟨tz, hfr, rfl⟩, hu, hg⟩
    clear HCL
    have HC17 := J0.m ((HC16.o).mark hfr)
    have HU17 := J0.m hu
    have HR17 := J0.m (HR16.o.trans hg)
    have HX17 := J0.m (Qas hg HX16.o NB3.o)
    have HY17 := J0.m (Qas hg HY16.o NB2.o)
    have hgz := hg
    clear hu hg hfr
    have HN17 := J0.m (Qks HN16.o (fun k hk => hgz.block k (Kd.R_lt HN16.o k hk) (fun e => by injection e with e; subst e; exact HNG.o hk)))
    obtain ⟨c0_17, c1_17, c2_17, c3_17, c4_17, c5_17, c6_17, c7_17⟩ := box8 HX17.o
    obtain ⟨y0, y1, y2, y3, y4, y5, y6, y7⟩ := box8 HY17.o
    obtain ⟨g0, g1, g2, g3, g4, g5, g6, g7⟩ := Qf5 HY17.o
    go_wp2
    refine bodyPost_ret (Qbm rfl _ _ b2 62 #[.int .i64 1, .string ta.f1, .string ⟨#[]⟩, .string ⟨#[]⟩, .string ⟨#[]⟩, .string tb.f1, .slice Av nsv.length cv, .int .i64 p1] (0, 0) _ rfl (set8 HY17.o) Try.underlying62 rfl (by kernel_rfl)) rfl ?_
    refine ⟨⟨1, ta.f1, ⟨#[]⟩, ⟨#[]⟩, ⟨#[]⟩, tb.f1, ⟨Av, nsv.length, cv⟩, p1⟩, nsv, rfl, rn8 HN17.o HY17.o, HNEW.o, ?_, Qeh HR17.o LB2.o, fun ts d r h1 h2 => ?_⟩
    ·rw [← HFE.o _ (Co.Qej HC17.o)]
     exact up8 HU17.o GB2.o
    ·have := Co.val HC17.o HF0.o ts d r h1 h2
     subst this
     exact ⟨rfl, rfl, rfl, rfl, rfl, rfl, rfl, rfl⟩
   | false =>
    have HC13 := J0.m (HC13.o.to (k' := fun r => (Qar 59 r).bind fun _ r => .ok { P.stepOf 1 p1 ta.f1 with ty := tb.f1 } r) (fun r hr => Qn4 (HBQ.o.trans (by rw [hr]; rfl))))
    have HCL := J0.m (Qa4 HG.o 59 HU13.o)
    go_wp2_with fail
    refine HCL.o.mono ?_
    rintro e w14 ⟨⟨tz, hfr, rfl⟩, hu, hg⟩
    clear HCL
    have HC14 := J0.m ((HC13.o).mark hfr)
    have HU14 := J0.m hu
    have HR14 := J0.m (HR13.o.trans hg)
    have HX14 := J0.m (Qas hg HX13.o NB3.o)
    have HY14 := J0.m (Qas hg HY13.o NB2.o)
    have hgz := hg
    clear hu hg hfr
    obtain ⟨c0_14, c1_14, c2_14, c3_14, c4_14, c5_14, c6_14, c7_14⟩ := box8 HX14.o
    obtain ⟨y0, y1, y2, y3, y4, y5, y6, y7⟩ := box8 HY14.o
    obtain ⟨g0, g1, g2, g3, g4, g5, g6, g7⟩ := Qf5 HY14.o
    go_wp2
    refine bodyPost_ret (Qbm rfl _ _ b2 62 #[.int .i64 1, .string ta.f1, .string ⟨#[]⟩, .string ⟨#[]⟩, .string ⟨#[]⟩, .string tb.f1, .slice none 0 0, .int .i64 p1] (0, 0) _ rfl (set8 HY14.o) Try.underlying62 rfl (by kernel_rfl)) rfl ?_
    refine ⟨⟨1, ta.f1, ⟨#[]⟩, ⟨#[]⟩, ⟨#[]⟩, tb.f1, ⟨none, 0, 0⟩, p1⟩, [], rfl, Kd.Qdd _ _ _ _ _, (fun k hk => by simp [Sl.v, Value.ownBlock] at hk), ?_, Qeh HR14.o LB2.o, fun ts d r h1 h2 => ?_⟩
    ·rw [← HFE.o _ (Co.Qej HC14.o)]
     exact up8 HU14.o GB2.o
    ·have := Co.val HC14.o HF0.o ts d r h1 h2
     subst this
     exact ⟨rfl, rfl, rfl, rfl, rfl, rfl, rfl, rfl⟩
  ·have HKK : J0 (∀ ts, s = .ok ts → P.stK ts = 2) := ⟨hkk⟩
   have HC5 := J0.m (HF0.o.to (fun r hr => Qde (k := 2) (p := p1) (HKK.o r hr) (by rw [← HT1.o r hr])))
   clear hkk
   go_wp2_with fail
   refine HIX.o.mono ?_
   rintro e w6 ⟨rfl, hw6⟩
   rw [hw6]
   clear HIX hw6
   have HU6' := HU5
   obtain ⟨w6, hw⟩ : ∃ w6, w6 = w5.setCell ⟨b3, 0, none⟩ (.int .i64 2) := ⟨_, rfl⟩
   have HU6 := J0.m (show Up w6 A c L g _ from by rw [hw]; exact HU5.o.far GB3.o 0 _)
   have HR6 := J0.m (show w.grownBy w6 (some g) from by rw [hw]; exact Qau (g := g) HR5.o LB3.o 0 _)
   have HX6 := J0.m (show w6.heap[b3]? = some (.cells #[.int .i64 2, .string ⟨#[]⟩, .string ⟨#[]⟩, .string ⟨#[]⟩, .string ⟨#[]⟩, .string ⟨#[]⟩, .slice none 0 0, .int .i64 p1] 62 (0, 0)) from by rw [hw]; exact (Qa8 HX5.o _).trans (by rfl))
   have HY6 := J0.m (show w6.heap[b2]? = some zO8 from by rw [hw]; exact Qa2 NB23.o HY5.o _)
   have HC6 := HC5
   have HW6 := J0.m hw
   clear hw
   have c0_6 := (Qac HX6.o 0).trans rfl
   have f0_6 := Qaa HX6.o 0
   have HCL := J0.m (Qc8 HG.o true (fun ts => decide (0 < P.stK ts)) HU6.o (fun ts hs => ⟨by rw [HKK.o ts hs]; rfl, fun h => P.Qc0 (by rw [HKK.o ts hs]; exact (by decide))⟩))
   go_wp2_with fail
   rw [← HW6.o]
   refine HCL.o.mono ?_
   rintro e w7 ⟨⟨tk0, hfr, rfl⟩, hu, hg⟩
   clear HCL
   have HC7 := J0.m (Co.step HC6.o hfr)
   have HU7 := J0.m hu
   have HR7 := J0.m (HR6.o.trans hg)
   have HX7 := J0.m (Qas hg HX6.o NB3.o)
   have HY7 := J0.m (Qas hg HY6.o NB2.o)
   clear hu hg hfr
   have HCL := J0.m (Qbf HG.o HU7.o)
   go_wp2_with fail
   refine HCL.o.mono ?_
   rintro e w8 ⟨⟨ta, hfr, rfl⟩, hu, hg⟩
   clear HCL
   have HC8 := J0.m ((HC7.o).name hfr)
   have HU8 := J0.m hu
   have HR8 := J0.m (HR7.o.trans hg)
   have HX8 := J0.m (Qas hg HX7.o NB3.o)
   have HY8 := J0.m (Qas hg HY7.o NB2.o)
   clear hu hg hfr
   have c0_8 := (Qac HX8.o 0).trans rfl
   have f0_8 := Qaa HX8.o 0
   have c1_8 := (Qac HX8.o 1).trans rfl
   have f1_8 := Qaa HX8.o 1
   obtain ⟨w9, hw⟩ : ∃ w9, w9 = w8.setCell ⟨b3, 1, none⟩ (.string ta.f1) := ⟨_, rfl⟩
   have HU9 := J0.m (show Up w9 A c L g _ from by rw [hw]; exact HU8.o.far GB3.o 1 _)
   have HR9 := J0.m (show w.grownBy w9 (some g) from by rw [hw]; exact Qau (g := g) HR8.o LB3.o 1 _)
   have HX9 := J0.m (show w9.heap[b3]? = some (.cells #[.int .i64 2, .string ta.f1, .string ⟨#[]⟩, .string ⟨#[]⟩, .string ⟨#[]⟩, .string ⟨#[]⟩, .slice none 0 0, .int .i64 p1] 62 (0, 0)) from by rw [hw]; exact (Qa8 HX8.o _).trans (by rfl))
   have HY9 := J0.m (show w9.heap[b2]? = some zO8 from by rw [hw]; exact Qa2 NB23.o HY8.o _)
   have HC9 := HC8
   have HW9 := J0.m hw
   clear hw
   have HC9 := J0.m (HC9.o.to (fun r _ => tail2 _ _ r))
   have HCL := J0.m (Qb1 HG.o P.sTo HU9.o)
   go_wp2_with fail
   rw [← HW9.o]
   refine HCL.o.mono ?_
   rintro e w10 ⟨⟨tq1, hfr, rfl⟩, hu, hg⟩
   clear HCL
   have HC10 := J0.m ((HC9.o).word hfr)
   have HU10 := J0.m hu
   have HR10 := J0.m (HR9.o.trans hg)
   have HX10 := J0.m (Qas hg HX9.o NB3.o)
   have HY10 := J0.m (Qas hg HY9.o NB2.o)
   clear hu hg hfr
   have HCL := J0.m (Qbf HG.o HU10.o)
   go_wp2_with fail
   refine HCL.o.mono ?_
   rintro e w11 ⟨⟨tb, hfr, rfl⟩, hu, hg⟩
   clear HCL
   have HC11 := J0.m ((HC10.o).name hfr)
   have HU11 := J0.m hu
   have HR11 := J0.m (HR10.o.trans hg)
   have HX11 := J0.m (Qas hg HX10.o NB3.o)
   have HY11 := J0.m (Qas hg HY10.o NB2.o)
   clear hu hg hfr
   have c2_11 := (Qac HX11.o 2).trans rfl
   have f2_11 := Qaa HX11.o 2
   obtain ⟨w12, hw⟩ : ∃ w12, w12 = w11.setCell ⟨b3, 2, none⟩ (.string tb.f1) := ⟨_, rfl⟩
   have HU12 := J0.m (show Up w12 A c L g _ from by rw [hw]; exact HU11.o.far GB3.o 2 _)
   have HR12 := J0.m (show w.grownBy w12 (some g) from by rw [hw]; exact Qau (g := g) HR11.o LB3.o 2 _)
   have HX12 := J0.m (show w12.heap[b3]? = some (.cells #[.int .i64 2, .string ta.f1, .string tb.f1, .string ⟨#[]⟩, .string ⟨#[]⟩, .string ⟨#[]⟩, .slice none 0 0, .int .i64 p1] 62 (0, 0)) from by rw [hw]; exact (Qa8 HX11.o _).trans (by rfl))
   have HY12 := J0.m (show w12.heap[b2]? = some zO8 from by rw [hw]; exact Qa2 NB23.o HY11.o _)
   have HC12 := HC11
   have HW12 := J0.m hw
   clear hw
   have HCL := J0.m (Qa4 HG.o 59 HU12.o)
   go_wp2_with fail
   rw [← HW12.o]
   refine HCL.o.mono ?_
   rintro e w13 ⟨⟨tz, hfr, rfl⟩, hu, hg⟩
   clear HCL
   have HC13 := J0.m ((HC12.o).mark hfr)
   have HU13 := J0.m hu
   have HR13 := J0.m (HR12.o.trans hg)
   have HX13 := J0.m (Qas hg HX12.o NB3.o)
   have HY13 := J0.m (Qas hg HY12.o NB2.o)
   have hgz := hg
   clear hu hg hfr
   obtain ⟨c0_13, c1_13, c2_13, c3_13, c4_13, c5_13, c6_13, c7_13⟩ := box8 HX13.o
   obtain ⟨y0, y1, y2, y3, y4, y5, y6, y7⟩ := box8 HY13.o
   obtain ⟨g0, g1, g2, g3, g4, g5, g6, g7⟩ := Qf5 HY13.o
   go_wp2
   refine bodyPost_ret (Qbm rfl _ _ b2 62 #[.int .i64 2, .string ta.f1, .string tb.f1, .string ⟨#[]⟩, .string ⟨#[]⟩, .string ⟨#[]⟩, .slice none 0 0, .int .i64 p1] (0, 0) _ rfl (set8 HY13.o) Try.underlying62 rfl (by kernel_rfl)) rfl ?_
   refine ⟨⟨2, ta.f1, tb.f1, ⟨#[]⟩, ⟨#[]⟩, ⟨#[]⟩, ⟨none, 0, 0⟩, p1⟩, [], rfl, Kd.Qdd _ _ _ _ _, (fun k hk => by simp [Sl.v, Value.ownBlock] at hk), ?_, Qeh HR13.o LB2.o, fun ts d r h1 h2 => ?_⟩
   ·rw [← HFE.o _ (Co.Qej HC13.o)]
    exact up8 HU13.o GB2.o
   ·have := Co.val HC13.o HF0.o ts d r h1 h2
    subst this
    exact ⟨rfl, rfl, rfl, rfl, rfl, rfl, rfl, rfl⟩
  ·have HKK : J0 (∀ ts, s = .ok ts → P.stK ts = 3) := ⟨hkk⟩
   have HC5 := J0.m (HF0.o.to (fun r hr => Qde (k := 3) (p := p1) (HKK.o r hr) (by rw [← HT1.o r hr])))
   clear hkk
   go_wp2_with fail
   refine HIX.o.mono ?_
   rintro e w6 ⟨rfl, hw6⟩
   rw [hw6]
   clear HIX hw6
   have HU6' := HU5
   obtain ⟨w6, hw⟩ : ∃ w6, w6 = w5.setCell ⟨b3, 0, none⟩ (.int .i64 3) := ⟨_, rfl⟩
   have HU6 := J0.m (show Up w6 A c L g _ from by rw [hw]; exact HU5.o.far GB3.o 0 _)
   have HR6 := J0.m (show w.grownBy w6 (some g) from by rw [hw]; exact Qau (g := g) HR5.o LB3.o 0 _)
   have HX6 := J0.m (show w6.heap[b3]? = some (.cells #[.int .i64 3, .string ⟨#[]⟩, .string ⟨#[]⟩, .string ⟨#[]⟩, .string ⟨#[]⟩, .string ⟨#[]⟩, .slice none 0 0, .int .i64 p1] 62 (0, 0)) from by rw [hw]; exact (Qa8 HX5.o _).trans (by rfl))
   have HY6 := J0.m (show w6.heap[b2]? = some zO8 from by rw [hw]; exact Qa2 NB23.o HY5.o _)
   have HC6 := HC5
   have HW6 := J0.m hw
   clear hw
   have c0_6 := (Qac HX6.o 0).trans rfl
   have f0_6 := Qaa HX6.o 0
   have HCL := J0.m (Qc8 HG.o true (fun ts => decide (0 < P.stK ts)) HU6.o (fun ts hs => ⟨by rw [HKK.o ts hs]; rfl, fun h => P.Qc0 (by rw [HKK.o ts hs]; exact (by decide))⟩))
   go_wp2_with fail
   rw [← HW6.o]
   refine HCL.o.mono ?_
   rintro e w7 ⟨⟨tk0, hfr, rfl⟩, hu, hg⟩
   clear HCL
   have HC7 := J0.m (Co.step HC6.o hfr)
   have HU7 := J0.m hu
   have HR7 := J0.m (HR6.o.trans hg)
   have HX7 := J0.m (Qas hg HX6.o NB3.o)
   have HY7 := J0.m (Qas hg HY6.o NB2.o)
   clear hu hg hfr
   have HCL := J0.m (Qbf HG.o HU7.o)
   go_wp2_with fail
   refine HCL.o.mono ?_
   rintro e w8 ⟨⟨ta, hfr, rfl⟩, hu, hg⟩
   clear HCL
   have HC8 := J0.m ((HC7.o).name hfr)
   have HU8 := J0.m hu
   have HR8 := J0.m (HR7.o.trans hg)
   have HX8 := J0.m (Qas hg HX7.o NB3.o)
   have HY8 := J0.m (Qas hg HY7.o NB2.o)
   clear hu hg hfr
   have c0_8 := (Qac HX8.o 0).trans rfl
   have f0_8 := Qaa HX8.o 0
   have c1_8 := (Qac HX8.o 1).trans rfl
   have f1_8 := Qaa HX8.o 1
   obtain ⟨w9, hw⟩ : ∃ w9, w9 = w8.setCell ⟨b3, 1, none⟩ (.string ta.f1) := ⟨_, rfl⟩
   have HU9 := J0.m (show Up w9 A c L g _ from by rw [hw]; exact HU8.o.far GB3.o 1 _)
   have HR9 := J0.m (show w.grownBy w9 (some g) from by rw [hw]; exact Qau (g := g) HR8.o LB3.o 1 _)
   have HX9 := J0.m (show w9.heap[b3]? = some (.cells #[.int .i64 3, .string ta.f1, .string ⟨#[]⟩, .string ⟨#[]⟩, .string ⟨#[]⟩, .string ⟨#[]⟩, .slice none 0 0, .int .i64 p1] 62 (0, 0)) from by rw [hw]; exact (Qa8 HX8.o _).trans (by rfl))
   have HY9 := J0.m (show w9.heap[b2]? = some zO8 from by rw [hw]; exact Qa2 NB23.o HY8.o _)
   have HC9 := HC8
   have HW9 := J0.m hw
   clear hw
   have HC9 := J0.m (HC9.o.to (fun r _ => tail3 _ _ r))
   have HCL := J0.m (Qb1 HG.o P.sAt HU9.o)
   go_wp2_with fail
   rw [← HW9.o]
   refine HCL.o.mono ?_
   rintro e w10 ⟨⟨tq1, hfr, rfl⟩, hu, hg⟩
   clear HCL
   have HC10 := J0.m ((HC9.o).word hfr)
   have HU10 := J0.m hu
   have HR10 := J0.m (HR9.o.trans hg)
   have HX10 := J0.m (Qas hg HX9.o NB3.o)
   have HY10 := J0.m (Qas hg HY9.o NB2.o)
   clear hu hg hfr
   have HCL := J0.m (Qeo HG.o HU10.o)
   go_wp2_with fail
   refine HCL.o.mono ?_
   rintro e w11 ⟨⟨tx, hfr, rfl⟩, hu, hg⟩
   clear HCL
   have HC11 := J0.m ((HC10.o).text hfr)
   have HU11 := J0.m hu
   have HR11 := J0.m (HR10.o.trans hg)
   have HX11 := J0.m (Qas hg HX10.o NB3.o)
   have HY11 := J0.m (Qas hg HY10.o NB2.o)
   clear hu hg hfr
   have c4_11 := (Qac HX11.o 4).trans rfl
   have f4_11 := Qaa HX11.o 4
   obtain ⟨w12, hw⟩ : ∃ w12, w12 = w11.setCell ⟨b3, 4, none⟩ (.string tx.f1) := ⟨_, rfl⟩
   have HU12 := J0.m (show Up w12 A c L g _ from by rw [hw]; exact HU11.o.far GB3.o 4 _)
   have HR12 := J0.m (show w.grownBy w12 (some g) from by rw [hw]; exact Qau (g := g) HR11.o LB3.o 4 _)
   have HX12 := J0.m (show w12.heap[b3]? = some (.cells #[.int .i64 3, .string ta.f1, .string ⟨#[]⟩, .string ⟨#[]⟩, .string tx.f1, .string ⟨#[]⟩, .slice none 0 0, .int .i64 p1] 62 (0, 0)) from by rw [hw]; exact (Qa8 HX11.o _).trans (by rfl))
   have HY12 := J0.m (show w12.heap[b2]? = some zO8 from by rw [hw]; exact Qa2 NB23.o HY11.o _)
   have HC12 := HC11
   have HW12 := J0.m hw
   clear hw
   have HCL := J0.m (Qb1 HG.o P.Qjp HU12.o)
   go_wp2_with fail
   rw [← HW12.o]
   refine HCL.o.mono ?_
   rintro e w13 ⟨⟨tq2, hfr, rfl⟩, hu, hg⟩
   clear HCL
   have HC13 := J0.m ((HC12.o).word hfr)
   have HU13 := J0.m hu
   have HR13 := J0.m (HR12.o.trans hg)
   have HX13 := J0.m (Qas hg HX12.o NB3.o)
   have HY13 := J0.m (Qas hg HY12.o NB2.o)
   clear hu hg hfr
   have HCL := J0.m (Qbf HG.o HU13.o)
   go_wp2_with fail
   refine HCL.o.mono ?_
   rintro e w14 ⟨⟨tb, hfr, rfl⟩, hu, hg⟩
   clear HCL
   have HC14 := J0.m ((HC13.o).name hfr)
   have HU14 := J0.m hu
   have HR14 := J0.m (HR13.o.trans hg)
   have HX14 := J0.m (Qas hg HX13.o NB3.o)
   have HY14 := J0.m (Qas hg HY13.o NB2.o)
   clear hu hg hfr
   have c2_14 := (Qac HX14.o 2).trans rfl
   have f2_14 := Qaa HX14.o 2
   obtain ⟨w15, hw⟩ : ∃ w15, w15 = w14.setCell ⟨b3, 2, none⟩ (.string tb.f1) := ⟨_, rfl⟩
   have HU15 := J0.m (show Up w15 A c L g _ from by rw [hw]; exact HU14.o.far GB3.o 2 _)
   have HR15 := J0.m (show w.grownBy w15 (some g) from by rw [hw]; exact Qau (g := g) HR14.o LB3.o 2 _)
   have HX15 := J0.m (show w15.heap[b3]? = some (.cells #[.int .i64 3, .string ta.f1, .string tb.f1, .string ⟨#[]⟩, .string tx.f1, .string ⟨#[]⟩, .slice none 0 0, .int .i64 p1] 62 (0, 0)) from by rw [hw]; exact (Qa8 HX14.o _).trans (by rfl))
   have HY15 := J0.m (show w15.heap[b2]? = some zO8 from by rw [hw]; exact Qa2 NB23.o HY14.o _)
   have HC15 := HC14
   have HW15 := J0.m hw
   clear hw
   have HCL := J0.m (Qa4 HG.o 44 HU15.o)
   go_wp2_with fail
   rw [← HW15.o]
   refine HCL.o.mono ?_
   rintro e w16 ⟨⟨tq3, hfr, rfl⟩, hu, hg⟩
   clear HCL
   have HC16 := J0.m ((HC15.o).mark hfr)
   have HU16 := J0.m hu
   have HR16 := J0.m (HR15.o.trans hg)
   have HX16 := J0.m (Qas hg HX15.o NB3.o)
   have HY16 := J0.m (Qas hg HY15.o NB2.o)
   clear hu hg hfr
   have HCL := J0.m (Qbf HG.o HU16.o)
   go_wp2_with fail
   refine HCL.o.mono ?_
   rintro e w17 ⟨⟨tc, hfr, rfl⟩, hu, hg⟩
   clear HCL
   have HC17 := J0.m ((HC16.o).name hfr)
   have HU17 := J0.m hu
   have HR17 := J0.m (HR16.o.trans hg)
   have HX17 := J0.m (Qas hg HX16.o NB3.o)
   have HY17 := J0.m (Qas hg HY16.o NB2.o)
   clear hu hg hfr
   have c3_17 := (Qac HX17.o 3).trans rfl
   have f3_17 := Qaa HX17.o 3
   obtain ⟨w18, hw⟩ : ∃ w18, w18 = w17.setCell ⟨b3, 3, none⟩ (.string tc.f1) := ⟨_, rfl⟩
   have HU18 := J0.m (show Up w18 A c L g _ from by rw [hw]; exact HU17.o.far GB3.o 3 _)
   have HR18 := J0.m (show w.grownBy w18 (some g) from by rw [hw]; exact Qau (g := g) HR17.o LB3.o 3 _)
   have HX18 := J0.m (show w18.heap[b3]? = some (.cells #[.int .i64 3, .string ta.f1, .string tb.f1, .string tc.f1, .string tx.f1, .string ⟨#[]⟩, .slice none 0 0, .int .i64 p1] 62 (0, 0)) from by rw [hw]; exact (Qa8 HX17.o _).trans (by rfl))
   have HY18 := J0.m (show w18.heap[b2]? = some zO8 from by rw [hw]; exact Qa2 NB23.o HY17.o _)
   have HC18 := HC17
   have HW18 := J0.m hw
   clear hw
   have HCL := J0.m (Qa4 HG.o 59 HU18.o)
   go_wp2_with fail
   rw [← HW18.o]
   refine HCL.o.mono ?_
   rintro e w19 ⟨⟨tz, hfr, rfl⟩, hu, hg⟩
   clear HCL
   have HC19 := J0.m ((HC18.o).mark hfr)
   have HU19 := J0.m hu
   have HR19 := J0.m (HR18.o.trans hg)
   have HX19 := J0.m (Qas hg HX18.o NB3.o)
   have HY19 := J0.m (Qas hg HY18.o NB2.o)
   have hgz := hg
   clear hu hg hfr
   obtain ⟨c0_19, c1_19, c2_19, c3_19, c4_19, c5_19, c6_19, c7_19⟩ := box8 HX19.o
   obtain ⟨y0, y1, y2, y3, y4, y5, y6, y7⟩ := box8 HY19.o
   obtain ⟨g0, g1, g2, g3, g4, g5, g6, g7⟩ := Qf5 HY19.o
   go_wp2
   refine bodyPost_ret (Qbm rfl _ _ b2 62 #[.int .i64 3, .string ta.f1, .string tb.f1, .string tc.f1, .string tx.f1, .string ⟨#[]⟩, .slice none 0 0, .int .i64 p1] (0, 0) _ rfl (set8 HY19.o) Try.underlying62 rfl (by kernel_rfl)) rfl ?_
   refine ⟨⟨3, ta.f1, tb.f1, tc.f1, tx.f1, ⟨#[]⟩, ⟨none, 0, 0⟩, p1⟩, [], rfl, Kd.Qdd _ _ _ _ _, (fun k hk => by simp [Sl.v, Value.ownBlock] at hk), ?_, Qeh HR19.o LB2.o, fun ts d r h1 h2 => ?_⟩
   ·rw [← HFE.o _ (Co.Qej HC19.o)]
    exact up8 HU19.o GB2.o
   ·have := Co.val HC19.o HF0.o ts d r h1 h2
    subst this
    exact ⟨rfl, rfl, rfl, rfl, rfl, rfl, rfl, rfl⟩
  ·have HKK : J0 (∀ ts, s = .ok ts → P.stK ts = 4) := ⟨hkk⟩
   have HC5 := J0.m (HF0.o.to (fun r hr => Qde (k := 4) (p := p1) (HKK.o r hr) (by rw [← HT1.o r hr])))
   clear hkk
   go_wp2_with fail
   refine HIX.o.mono ?_
   rintro e w6 ⟨rfl, hw6⟩
   rw [hw6]
   clear HIX hw6
   have HU6' := HU5
   obtain ⟨w6, hw⟩ : ∃ w6, w6 = w5.setCell ⟨b3, 0, none⟩ (.int .i64 4) := ⟨_, rfl⟩
   have HU6 := J0.m (show Up w6 A c L g _ from by rw [hw]; exact HU5.o.far GB3.o 0 _)
   have HR6 := J0.m (show w.grownBy w6 (some g) from by rw [hw]; exact Qau (g := g) HR5.o LB3.o 0 _)
   have HX6 := J0.m (show w6.heap[b3]? = some (.cells #[.int .i64 4, .string ⟨#[]⟩, .string ⟨#[]⟩, .string ⟨#[]⟩, .string ⟨#[]⟩, .string ⟨#[]⟩, .slice none 0 0, .int .i64 p1] 62 (0, 0)) from by rw [hw]; exact (Qa8 HX5.o _).trans (by rfl))
   have HY6 := J0.m (show w6.heap[b2]? = some zO8 from by rw [hw]; exact Qa2 NB23.o HY5.o _)
   have HC6 := HC5
   have HW6 := J0.m hw
   clear hw
   have c0_6 := (Qac HX6.o 0).trans rfl
   have f0_6 := Qaa HX6.o 0
   have HCL := J0.m (Qc8 HG.o true (fun ts => decide (0 < P.stK ts)) HU6.o (fun ts hs => ⟨by rw [HKK.o ts hs]; rfl, fun h => P.Qc0 (by rw [HKK.o ts hs]; exact (by decide))⟩))
   go_wp2_with fail
   rw [← HW6.o]
   refine HCL.o.mono ?_
   rintro e w7 ⟨⟨tk0, hfr, rfl⟩, hu, hg⟩
   clear HCL
   have HC7 := J0.m (Co.step HC6.o hfr)
   have HU7 := J0.m hu
   have HR7 := J0.m (HR6.o.trans hg)
   have HX7 := J0.m (Qas hg HX6.o NB3.o)
   have HY7 := J0.m (Qas hg HY6.o NB2.o)
   clear hu hg hfr
   have HCL := J0.m (Qbf HG.o HU7.o)
   go_wp2_with fail
   refine HCL.o.mono ?_
   rintro e w8 ⟨⟨ta, hfr, rfl⟩, hu, hg⟩
   clear HCL
   have HC8 := J0.m ((HC7.o).name hfr)
   have HU8 := J0.m hu
   have HR8 := J0.m (HR7.o.trans hg)
   have HX8 := J0.m (Qas hg HX7.o NB3.o)
   have HY8 := J0.m (Qas hg HY7.o NB2.o)
   clear hu hg hfr
   have c0_8 := (Qac HX8.o 0).trans rfl
   have f0_8 := Qaa HX8.o 0
   have c1_8 := (Qac HX8.o 1).trans rfl
   have f1_8 := Qaa HX8.o 1
   obtain ⟨w9, hw⟩ : ∃ w9, w9 = w8.setCell ⟨b3, 1, none⟩ (.string ta.f1) := ⟨_, rfl⟩
   have HU9 := J0.m (show Up w9 A c L g _ from by rw [hw]; exact HU8.o.far GB3.o 1 _)
   have HR9 := J0.m (show w.grownBy w9 (some g) from by rw [hw]; exact Qau (g := g) HR8.o LB3.o 1 _)
   have HX9 := J0.m (show w9.heap[b3]? = some (.cells #[.int .i64 4, .string ta.f1, .string ⟨#[]⟩, .string ⟨#[]⟩, .string ⟨#[]⟩, .string ⟨#[]⟩, .slice none 0 0, .int .i64 p1] 62 (0, 0)) from by rw [hw]; exact (Qa8 HX8.o _).trans (by rfl))
   have HY9 := J0.m (show w9.heap[b2]? = some zO8 from by rw [hw]; exact Qa2 NB23.o HY8.o _)
   have HC9 := HC8
   have HW9 := J0.m hw
   clear hw
   have HC9 := J0.m (HC9.o.to (fun r _ => tail4 _ _ r))
   have HCL := J0.m (Qa4 HG.o 44 HU9.o)
   go_wp2_with fail
   rw [← HW9.o]
   refine HCL.o.mono ?_
   rintro e w10 ⟨⟨tq1, hfr, rfl⟩, hu, hg⟩
   clear HCL
   have HC10 := J0.m ((HC9.o).mark hfr)
   have HU10 := J0.m hu
   have HR10 := J0.m (HR9.o.trans hg)
   have HX10 := J0.m (Qas hg HX9.o NB3.o)
   have HY10 := J0.m (Qas hg HY9.o NB2.o)
   clear hu hg hfr
   have HCL := J0.m (Qbf HG.o HU10.o)
   go_wp2_with fail
   refine HCL.o.mono ?_
   rintro e w11 ⟨⟨tb, hfr, rfl⟩, hu, hg⟩
   clear HCL
   have HC11 := J0.m ((HC10.o).name hfr)
   have HU11 := J0.m hu
   have HR11 := J0.m (HR10.o.trans hg)
   have HX11 := J0.m (Qas hg HX10.o NB3.o)
   have HY11 := J0.m (Qas hg HY10.o NB2.o)
   clear hu hg hfr
   have c2_11 := (Qac HX11.o 2).trans rfl
   have f2_11 := Qaa HX11.o 2
   obtain ⟨w12, hw⟩ : ∃ w12, w12 = w11.setCell ⟨b3, 2, none⟩ (.string tb.f1) := ⟨_, rfl⟩
   have HU12 := J0.m (show Up w12 A c L g _ from by rw [hw]; exact HU11.o.far GB3.o 2 _)
   have HR12 := J0.m (show w.grownBy w12 (some g) from by rw [hw]; exact Qau (g := g) HR11.o LB3.o 2 _)
   have HX12 := J0.m (show w12.heap[b3]? = some (.cells #[.int .i64 4, .string ta.f1, .string tb.f1, .string ⟨#[]⟩, .string ⟨#[]⟩, .string ⟨#[]⟩, .slice none 0 0, .int .i64 p1] 62 (0, 0)) from by rw [hw]; exact (Qa8 HX11.o _).trans (by rfl))
   have HY12 := J0.m (show w12.heap[b2]? = some zO8 from by rw [hw]; exact Qa2 NB23.o HY11.o _)
   have HC12 := HC11
   have HW12 := J0.m hw
   clear hw
   have HCL := J0.m (Qb1 HG.o P.Qov HU12.o)
   go_wp2_with fail
   rw [← HW12.o]
   refine HCL.o.mono ?_
   rintro e w13 ⟨⟨tq2, hfr, rfl⟩, hu, hg⟩
   clear HCL
   have HC13 := J0.m ((HC12.o).word hfr)
   have HU13 := J0.m hu
   have HR13 := J0.m (HR12.o.trans hg)
   have HX13 := J0.m (Qas hg HX12.o NB3.o)
   have HY13 := J0.m (Qas hg HY12.o NB2.o)
   clear hu hg hfr
   have HCL := J0.m (Qeo HG.o HU13.o)
   go_wp2_with fail
   refine HCL.o.mono ?_
   rintro e w14 ⟨⟨tx, hfr, rfl⟩, hu, hg⟩
   clear HCL
   have HC14 := J0.m ((HC13.o).text hfr)
   have HU14 := J0.m hu
   have HR14 := J0.m (HR13.o.trans hg)
   have HX14 := J0.m (Qas hg HX13.o NB3.o)
   have HY14 := J0.m (Qas hg HY13.o NB2.o)
   clear hu hg hfr
   have c4_14 := (Qac HX14.o 4).trans rfl
   have f4_14 := Qaa HX14.o 4
   obtain ⟨w15, hw⟩ : ∃ w15, w15 = w14.setCell ⟨b3, 4, none⟩ (.string tx.f1) := ⟨_, rfl⟩
   have HU15 := J0.m (show Up w15 A c L g _ from by rw [hw]; exact HU14.o.far GB3.o 4 _)
   have HR15 := J0.m (show w.grownBy w15 (some g) from by rw [hw]; exact Qau (g := g) HR14.o LB3.o 4 _)
   have HX15 := J0.m (show w15.heap[b3]? = some (.cells #[.int .i64 4, .string ta.f1, .string tb.f1, .string ⟨#[]⟩, .string tx.f1, .string ⟨#[]⟩, .slice none 0 0, .int .i64 p1] 62 (0, 0)) from by rw [hw]; exact (Qa8 HX14.o _).trans (by rfl))
   have HY15 := J0.m (show w15.heap[b2]? = some zO8 from by rw [hw]; exact Qa2 NB23.o HY14.o _)
   have HC15 := HC14
   have HW15 := J0.m hw
   clear hw
   have HCL := J0.m (Qb1 HG.o P.Qjp HU15.o)
   go_wp2_with fail
   rw [← HW15.o]
   refine HCL.o.mono ?_
   rintro e w16 ⟨⟨tq3, hfr, rfl⟩, hu, hg⟩
   clear HCL
   have HC16 := J0.m ((HC15.o).word hfr)
   have HU16 := J0.m hu
   have HR16 := J0.m (HR15.o.trans hg)
   have HX16 := J0.m (Qas hg HX15.o NB3.o)
   have HY16 := J0.m (Qas hg HY15.o NB2.o)
   clear hu hg hfr
   have HCL := J0.m (Qbf HG.o HU16.o)
   go_wp2_with fail
   refine HCL.o.mono ?_
   rintro e w17 ⟨⟨tc, hfr, rfl⟩, hu, hg⟩
   clear HCL
   have HC17 := J0.m ((HC16.o).name hfr)
   have HU17 := J0.m hu
   have HR17 := J0.m (HR16.o.trans hg)
   have HX17 := J0.m (Qas hg HX16.o NB3.o)
   have HY17 := J0.m (Qas hg HY16.o NB2.o)
   clear hu hg hfr
   have c3_17 := (Qac HX17.o 3).trans rfl
   have f3_17 := Qaa HX17.o 3
   obtain ⟨w18, hw⟩ : ∃ w18, w18 = w17.setCell ⟨b3, 3, none⟩ (.string tc.f1) := ⟨_, rfl⟩
   have HU18 := J0.m (show Up w18 A c L g _ from by rw [hw]; exact HU17.o.far GB3.o 3 _)
   have HR18 := J0.m (show w.grownBy w18 (some g) from by rw [hw]; exact Qau (g := g) HR17.o LB3.o 3 _)
   have HX18 := J0.m (show w18.heap[b3]? = some (.cells #[.int .i64 4, .string ta.f1, .string tb.f1, .string tc.f1, .string tx.f1, .string ⟨#[]⟩, .slice none 0 0, .int .i64 p1] 62 (0, 0)) from by rw [hw]; exact (Qa8 HX17.o _).trans (by rfl))
   have HY18 := J0.m (show w18.heap[b2]? = some zO8 from by rw [hw]; exact Qa2 NB23.o HY17.o _)
   have HC18 := HC17
   have HW18 := J0.m hw
   clear hw
   have HCL := J0.m (Qa4 HG.o 59 HU18.o)
   go_wp2_with fail
   rw [← HW18.o]
   refine HCL.o.mono ?_
   rintro e w19 ⟨⟨tz, hfr, rfl⟩, hu, hg⟩
   clear HCL
   have HC19 := J0.m ((HC18.o).mark hfr)
   have HU19 := J0.m hu
   have HR19 := J0.m (HR18.o.trans hg)
   have HX19 := J0.m (Qas hg HX18.o NB3.o)
   have HY19 := J0.m (Qas hg HY18.o NB2.o)
   have hgz := hg
   clear hu hg hfr
   obtain ⟨c0_19, c1_19, c2_19, c3_19, c4_19, c5_19, c6_19, c7_19⟩ := box8 HX19.o
   obtain ⟨y0, y1, y2, y3, y4, y5, y6, y7⟩ := box8 HY19.o
   obtain ⟨g0, g1, g2, g3, g4, g5, g6, g7⟩ := Qf5 HY19.o
   go_wp2
   refine bodyPost_ret (Qbm rfl _ _ b2 62 #[.int .i64 4, .string ta.f1, .string tb.f1, .string tc.f1, .string tx.f1, .string ⟨#[]⟩, .slice none 0 0, .int .i64 p1] (0, 0) _ rfl (set8 HY19.o) Try.underlying62 rfl (by kernel_rfl)) rfl ?_
   refine ⟨⟨4, ta.f1, tb.f1, tc.f1, tx.f1, ⟨#[]⟩, ⟨none, 0, 0⟩, p1⟩, [], rfl, Kd.Qdd _ _ _ _ _, (fun k hk => by simp [Sl.v, Value.ownBlock] at hk), ?_, Qeh HR19.o LB2.o, fun ts d r h1 h2 => ?_⟩
   ·rw [← HFE.o _ (Co.Qej HC19.o)]
    exact up8 HU19.o GB2.o
   ·have := Co.val HC19.o HF0.o ts d r h1 h2
    subst this
    exact ⟨rfl, rfl, rfl, rfl, rfl, rfl, rfl, rfl⟩
  ·have HKK : J0 (∀ ts, s = .ok ts → P.stK ts = 5) := ⟨hkk⟩
   have HC5 := J0.m (HF0.o.to (fun r hr => Qde (k := 5) (p := p1) (HKK.o r hr) (by rw [← HT1.o r hr])))
   clear hkk
   go_wp2_with fail
   refine HIX.o.mono ?_
   rintro e w6 ⟨rfl, hw6⟩
   rw [hw6]
   clear HIX hw6
   have HU6' := HU5
   obtain ⟨w6, hw⟩ : ∃ w6, w6 = w5.setCell ⟨b3, 0, none⟩ (.int .i64 5) := ⟨_, rfl⟩
   have HU6 := J0.m (show Up w6 A c L g _ from by rw [hw]; exact HU5.o.far GB3.o 0 _)
   have HR6 := J0.m (show w.grownBy w6 (some g) from by rw [hw]; exact Qau (g := g) HR5.o LB3.o 0 _)
   have HX6 := J0.m (show w6.heap[b3]? = some (.cells #[.int .i64 5, .string ⟨#[]⟩, .string ⟨#[]⟩, .string ⟨#[]⟩, .string ⟨#[]⟩, .string ⟨#[]⟩, .slice none 0 0, .int .i64 p1] 62 (0, 0)) from by rw [hw]; exact (Qa8 HX5.o _).trans (by rfl))
   have HY6 := J0.m (show w6.heap[b2]? = some zO8 from by rw [hw]; exact Qa2 NB23.o HY5.o _)
   have HC6 := HC5
   have HW6 := J0.m hw
   clear hw
   have c0_6 := (Qac HX6.o 0).trans rfl
   have f0_6 := Qaa HX6.o 0
   have HCL := J0.m (Qc8 HG.o true (fun ts => decide (0 < P.stK ts)) HU6.o (fun ts hs => ⟨by rw [HKK.o ts hs]; rfl, fun h => P.Qc0 (by rw [HKK.o ts hs]; exact (by decide))⟩))
   go_wp2_with fail
   rw [← HW6.o]
   refine HCL.o.mono ?_
   rintro e w7 ⟨⟨tk0, hfr, rfl⟩, hu, hg⟩
   clear HCL
   have HC7 := J0.m (Co.step HC6.o hfr)
   have HU7 := J0.m hu
   have HR7 := J0.m (HR6.o.trans hg)
   have HX7 := J0.m (Qas hg HX6.o NB3.o)
   have HY7 := J0.m (Qas hg HY6.o NB2.o)
   clear hu hg hfr
   have HCL := J0.m (Qbf HG.o HU7.o)
   go_wp2_with fail
   refine HCL.o.mono ?_
   rintro e w8 ⟨⟨ta, hfr, rfl⟩, hu, hg⟩
   clear HCL
   have HC8 := J0.m ((HC7.o).name hfr)
   have HU8 := J0.m hu
   have HR8 := J0.m (HR7.o.trans hg)
   have HX8 := J0.m (Qas hg HX7.o NB3.o)
   have HY8 := J0.m (Qas hg HY7.o NB2.o)
   clear hu hg hfr
   have c0_8 := (Qac HX8.o 0).trans rfl
   have f0_8 := Qaa HX8.o 0
   have c1_8 := (Qac HX8.o 1).trans rfl
   have f1_8 := Qaa HX8.o 1
   obtain ⟨w9, hw⟩ : ∃ w9, w9 = w8.setCell ⟨b3, 1, none⟩ (.string ta.f1) := ⟨_, rfl⟩
   have HU9 := J0.m (show Up w9 A c L g _ from by rw [hw]; exact HU8.o.far GB3.o 1 _)
   have HR9 := J0.m (show w.grownBy w9 (some g) from by rw [hw]; exact Qau (g := g) HR8.o LB3.o 1 _)
   have HX9 := J0.m (show w9.heap[b3]? = some (.cells #[.int .i64 5, .string ta.f1, .string ⟨#[]⟩, .string ⟨#[]⟩, .string ⟨#[]⟩, .string ⟨#[]⟩, .slice none 0 0, .int .i64 p1] 62 (0, 0)) from by rw [hw]; exact (Qa8 HX8.o _).trans (by rfl))
   have HY9 := J0.m (show w9.heap[b2]? = some zO8 from by rw [hw]; exact Qa2 NB23.o HY8.o _)
   have HC9 := HC8
   have HW9 := J0.m hw
   clear hw
   have HC9 := J0.m (HC9.o.to (fun r _ => tail5 _ _ r))
   have HCL := J0.m (Qb1 HG.o P.sTo HU9.o)
   go_wp2_with fail
   rw [← HW9.o]
   refine HCL.o.mono ?_
   rintro e w10 ⟨⟨tq1, hfr, rfl⟩, hu, hg⟩
   clear HCL
   have HC10 := J0.m ((HC9.o).word hfr)
   have HU10 := J0.m hu
   have HR10 := J0.m (HR9.o.trans hg)
   have HX10 := J0.m (Qas hg HX9.o NB3.o)
   have HY10 := J0.m (Qas hg HY9.o NB2.o)
   clear hu hg hfr
   have HCL := J0.m (Qbf HG.o HU10.o)
   go_wp2_with fail
   refine HCL.o.mono ?_
   rintro e w11 ⟨⟨tb, hfr, rfl⟩, hu, hg⟩
   clear HCL
   have HC11 := J0.m ((HC10.o).name hfr)
   have HU11 := J0.m hu
   have HR11 := J0.m (HR10.o.trans hg)
   have HX11 := J0.m (Qas hg HX10.o NB3.o)
   have HY11 := J0.m (Qas hg HY10.o NB2.o)
   clear hu hg hfr
   have c5_11 := (Qac HX11.o 5).trans rfl
   have f5_11 := Qaa HX11.o 5
   obtain ⟨w12, hw⟩ : ∃ w12, w12 = w11.setCell ⟨b3, 5, none⟩ (.string tb.f1) := ⟨_, rfl⟩
   have HU12 := J0.m (show Up w12 A c L g _ from by rw [hw]; exact HU11.o.far GB3.o 5 _)
   have HR12 := J0.m (show w.grownBy w12 (some g) from by rw [hw]; exact Qau (g := g) HR11.o LB3.o 5 _)
   have HX12 := J0.m (show w12.heap[b3]? = some (.cells #[.int .i64 5, .string ta.f1, .string ⟨#[]⟩, .string ⟨#[]⟩, .string ⟨#[]⟩, .string tb.f1, .slice none 0 0, .int .i64 p1] 62 (0, 0)) from by rw [hw]; exact (Qa8 HX11.o _).trans (by rfl))
   have HY12 := J0.m (show w12.heap[b2]? = some zO8 from by rw [hw]; exact Qa2 NB23.o HY11.o _)
   have HC12 := HC11
   have HW12 := J0.m hw
   clear hw
   have HCL := J0.m (Qa4 HG.o 59 HU12.o)
   go_wp2_with fail
   rw [← HW12.o]
   refine HCL.o.mono ?_
   rintro e w13 ⟨⟨tz, hfr, rfl⟩, hu, hg⟩
   clear HCL
   have HC13 := J0.m ((HC12.o).mark hfr)
   have HU13 := J0.m hu
   have HR13 := J0.m (HR12.o.trans hg)
   have HX13 := J0.m (Qas hg HX12.o NB3.o)
   have HY13 := J0.m (Qas hg HY12.o NB2.o)
   have hgz := hg
   clear hu hg hfr
   obtain ⟨c0_13, c1_13, c2_13, c3_13, c4_13, c5_13, c6_13, c7_13⟩ := box8 HX13.o
   obtain ⟨y0, y1, y2, y3, y4, y5, y6, y7⟩ := box8 HY13.o
   obtain ⟨g0, g1, g2, g3, g4, g5, g6, g7⟩ := Qf5 HY13.o
   go_wp2
   refine bodyPost_ret (Qbm rfl _ _ b2 62 #[.int .i64 5, .string ta.f1, .string ⟨#[]⟩, .string ⟨#[]⟩, .string ⟨#[]⟩, .string tb.f1, .slice none 0 0, .int .i64 p1] (0, 0) _ rfl (set8 HY13.o) Try.underlying62 rfl (by kernel_rfl)) rfl ?_
   refine ⟨⟨5, ta.f1, ⟨#[]⟩, ⟨#[]⟩, ⟨#[]⟩, tb.f1, ⟨none, 0, 0⟩, p1⟩, [], rfl, Kd.Qdd _ _ _ _ _, (fun k hk => by simp [Sl.v, Value.ownBlock] at hk), ?_, Qeh HR13.o LB2.o, fun ts d r h1 h2 => ?_⟩
   ·rw [← HFE.o _ (Co.Qej HC13.o)]
    exact up8 HU13.o GB2.o
   ·have := Co.val HC13.o HF0.o ts d r h1 h2
    subst this
    exact ⟨rfl, rfl, rfl, rfl, rfl, rfl, rfl, rfl⟩
  ·have HKK : J0 (∀ ts, s = .ok ts → P.stK ts = 6) := ⟨hkk⟩
   have HC5 := J0.m (HF0.o.to (fun r hr => Qde (k := 6) (p := p1) (HKK.o r hr) (by rw [← HT1.o r hr])))
   clear hkk
   go_wp2_with fail
   refine HIX.o.mono ?_
   rintro e w6 ⟨rfl, hw6⟩
   rw [hw6]
   clear HIX hw6
   have HU6' := HU5
   obtain ⟨w6, hw⟩ : ∃ w6, w6 = w5.setCell ⟨b3, 0, none⟩ (.int .i64 6) := ⟨_, rfl⟩
   have HU6 := J0.m (show Up w6 A c L g _ from by rw [hw]; exact HU5.o.far GB3.o 0 _)
   have HR6 := J0.m (show w.grownBy w6 (some g) from by rw [hw]; exact Qau (g := g) HR5.o LB3.o 0 _)
   have HX6 := J0.m (show w6.heap[b3]? = some (.cells #[.int .i64 6, .string ⟨#[]⟩, .string ⟨#[]⟩, .string ⟨#[]⟩, .string ⟨#[]⟩, .string ⟨#[]⟩, .slice none 0 0, .int .i64 p1] 62 (0, 0)) from by rw [hw]; exact (Qa8 HX5.o _).trans (by rfl))
   have HY6 := J0.m (show w6.heap[b2]? = some zO8 from by rw [hw]; exact Qa2 NB23.o HY5.o _)
   have HC6 := HC5
   have HW6 := J0.m hw
   clear hw
   have c0_6 := (Qac HX6.o 0).trans rfl
   have f0_6 := Qaa HX6.o 0
   have HCL := J0.m (Qc8 HG.o true (fun ts => decide (0 < P.stK ts)) HU6.o (fun ts hs => ⟨by rw [HKK.o ts hs]; rfl, fun h => P.Qc0 (by rw [HKK.o ts hs]; exact (by decide))⟩))
   go_wp2_with fail
   rw [← HW6.o]
   refine HCL.o.mono ?_
   rintro e w7 ⟨⟨tk0, hfr, rfl⟩, hu, hg⟩
   clear HCL
   have HC7 := J0.m (Co.step HC6.o hfr)
   have HU7 := J0.m hu
   have HR7 := J0.m (HR6.o.trans hg)
   have HX7 := J0.m (Qas hg HX6.o NB3.o)
   have HY7 := J0.m (Qas hg HY6.o NB2.o)
   clear hu hg hfr
   have HCL := J0.m (Qbf HG.o HU7.o)
   go_wp2_with fail
   refine HCL.o.mono ?_
   rintro e w8 ⟨⟨ta, hfr, rfl⟩, hu, hg⟩
   clear HCL
   have HC8 := J0.m ((HC7.o).name hfr)
   have HU8 := J0.m hu
   have HR8 := J0.m (HR7.o.trans hg)
   have HX8 := J0.m (Qas hg HX7.o NB3.o)
   have HY8 := J0.m (Qas hg HY7.o NB2.o)
   clear hu hg hfr
   have c0_8 := (Qac HX8.o 0).trans rfl
   have f0_8 := Qaa HX8.o 0
   have c1_8 := (Qac HX8.o 1).trans rfl
   have f1_8 := Qaa HX8.o 1
   obtain ⟨w9, hw⟩ : ∃ w9, w9 = w8.setCell ⟨b3, 1, none⟩ (.string ta.f1) := ⟨_, rfl⟩
   have HU9 := J0.m (show Up w9 A c L g _ from by rw [hw]; exact HU8.o.far GB3.o 1 _)
   have HR9 := J0.m (show w.grownBy w9 (some g) from by rw [hw]; exact Qau (g := g) HR8.o LB3.o 1 _)
   have HX9 := J0.m (show w9.heap[b3]? = some (.cells #[.int .i64 6, .string ta.f1, .string ⟨#[]⟩, .string ⟨#[]⟩, .string ⟨#[]⟩, .string ⟨#[]⟩, .slice none 0 0, .int .i64 p1] 62 (0, 0)) from by rw [hw]; exact (Qa8 HX8.o _).trans (by rfl))
   have HY9 := J0.m (show w9.heap[b2]? = some zO8 from by rw [hw]; exact Qa2 NB23.o HY8.o _)
   have HC9 := HC8
   have HW9 := J0.m hw
   clear hw
   have HC9 := J0.m (HC9.o.to (fun r _ => tail6 _ _ r))
   have HCL := J0.m (Qa4 HG.o 59 HU9.o)
   go_wp2_with fail
   rw [← HW9.o]
   refine HCL.o.mono ?_
   rintro e w10 ⟨⟨tz, hfr, rfl⟩, hu, hg⟩
   clear HCL
   have HC10 := J0.m ((HC9.o).mark hfr)
   have HU10 := J0.m hu
   have HR10 := J0.m (HR9.o.trans hg)
   have HX10 := J0.m (Qas hg HX9.o NB3.o)
   have HY10 := J0.m (Qas hg HY9.o NB2.o)
   have hgz := hg
   clear hu hg hfr
   obtain ⟨c0_10, c1_10, c2_10, c3_10, c4_10, c5_10, c6_10, c7_10⟩ := box8 HX10.o
   obtain ⟨y0, y1, y2, y3, y4, y5, y6, y7⟩ := box8 HY10.o
   obtain ⟨g0, g1, g2, g3, g4, g5, g6, g7⟩ := Qf5 HY10.o
   go_wp2
   refine bodyPost_ret (Qbm rfl _ _ b2 62 #[.int .i64 6, .string ta.f1, .string ⟨#[]⟩, .string ⟨#[]⟩, .string ⟨#[]⟩, .string ⟨#[]⟩, .slice none 0 0, .int .i64 p1] (0, 0) _ rfl (set8 HY10.o) Try.underlying62 rfl (by kernel_rfl)) rfl ?_
   refine ⟨⟨6, ta.f1, ⟨#[]⟩, ⟨#[]⟩, ⟨#[]⟩, ⟨#[]⟩, ⟨none, 0, 0⟩, p1⟩, [], rfl, Kd.Qdd _ _ _ _ _, (fun k hk => by simp [Sl.v, Value.ownBlock] at hk), ?_, Qeh HR10.o LB2.o, fun ts d r h1 h2 => ?_⟩
   ·rw [← HFE.o _ (Co.Qej HC10.o)]
    exact up8 HU10.o GB2.o
   ·have := Co.val HC10.o HF0.o ts d r h1 h2
    subst this
    exact ⟨rfl, rfl, rfl, rfl, rfl, rfl, rfl, rfl⟩
 ·have e1 : (k2 == 1) = false := beq_eq_false_iff_ne.2 hk2
  have HKK : J0 (∀ ts, s = .ok ts → P.stK ts = 0) := ⟨fun ts hs => by
   unfold P.stK
   rw [← HT2.o ts hs, if_neg hk2]⟩
  have HC4 := J0.m (HF0.o.to (fun r hr => Qde (k := 0) (p := p1) (HKK.o r hr) (by rw [← HT1.o r hr])))
  clear hk2
  have c0_4 := (Qac HX4.o 0).trans rfl
  have f0_4 := Qaa HX4.o 0
  have HCL := J0.m (Qc8 HG.o false (fun ts => decide (0 < P.stK ts)) HU4.o (fun ts hs => ⟨by rw [HKK.o ts hs]; rfl, fun h => P.Qc0 (by rw [HKK.o ts hs]; exact absurd h (by decide))⟩))
  go_wp2_with fail
  refine HCL.o.mono ?_
  rintro e w5 ⟨⟨tk0, hfr, rfl⟩, hu, hg⟩
  clear HCL
  have HC5 := J0.m (Co.step HC4.o hfr)
  have HU5 := J0.m hu
  have HR5 := J0.m (HR4.o.trans hg)
  have HX5 := J0.m (Qas hg HX4.o NB3.o)
  have HY5 := J0.m (Qas hg HY4.o NB2.o)
  clear hu hg hfr
  have HCL := J0.m (Qbf HG.o HU5.o)
  go_wp2_with fail
  refine HCL.o.mono ?_
  rintro e w6 ⟨⟨ta, hfr, rfl⟩, hu, hg⟩
  clear HCL
  have HC6 := J0.m ((HC5.o).name hfr)
  have HU6 := J0.m hu
  have HR6 := J0.m (HR5.o.trans hg)
  have HX6 := J0.m (Qas hg HX5.o NB3.o)
  have HY6 := J0.m (Qas hg HY5.o NB2.o)
  clear hu hg hfr
  have c0_6 := (Qac HX6.o 0).trans rfl
  have f0_6 := Qaa HX6.o 0
  have c1_6 := (Qac HX6.o 1).trans rfl
  have f1_6 := Qaa HX6.o 1
  obtain ⟨w7, hw⟩ : ∃ w7, w7 = w6.setCell ⟨b3, 1, none⟩ (.string ta.f1) := ⟨_, rfl⟩
  have HU7 := J0.m (show Up w7 A c L g _ from by rw [hw]; exact HU6.o.far GB3.o 1 _)
  have HR7 := J0.m (show w.grownBy w7 (some g) from by rw [hw]; exact Qau (g := g) HR6.o LB3.o 1 _)
  have HX7 := J0.m (show w7.heap[b3]? = some (.cells #[.int .i64 0, .string ta.f1, .string ⟨#[]⟩, .string ⟨#[]⟩, .string ⟨#[]⟩, .string ⟨#[]⟩, .slice none 0 0, .int .i64 p1] 62 (0, 0)) from by rw [hw]; exact (Qa8 HX6.o _).trans (by rfl))
  have HY7 := J0.m (show w7.heap[b2]? = some zO8 from by rw [hw]; exact Qa2 NB23.o HY6.o _)
  have HC7 := HC6
  have HW7 := J0.m hw
  clear hw
  have HC7 := J0.m (HC7.o.to (fun r _ => tail0 _ _ r))
  have HCL := J0.m (Qa4 HG.o 59 HU7.o)
  go_wp2_with fail
  rw [← HW7.o]
  refine HCL.o.mono ?_
  rintro e w8 ⟨⟨tz, hfr, rfl⟩, hu, hg⟩
  clear HCL
  have HC8 := J0.m ((HC7.o).mark hfr)
  have HU8 := J0.m hu
  have HR8 := J0.m (HR7.o.trans hg)
  have HX8 := J0.m (Qas hg HX7.o NB3.o)
  have HY8 := J0.m (Qas hg HY7.o NB2.o)
  have hgz := hg
  clear hu hg hfr
  obtain ⟨c0_8, c1_8, c2_8, c3_8, c4_8, c5_8, c6_8, c7_8⟩ := box8 HX8.o
  obtain ⟨y0, y1, y2, y3, y4, y5, y6, y7⟩ := box8 HY8.o
  obtain ⟨g0, g1, g2, g3, g4, g5, g6, g7⟩ := Qf5 HY8.o
  go_wp2
  refine bodyPost_ret (Qbm rfl _ _ b2 62 #[.int .i64 0, .string ta.f1, .string ⟨#[]⟩, .string ⟨#[]⟩, .string ⟨#[]⟩, .string ⟨#[]⟩, .slice none 0 0, .int .i64 p1] (0, 0) _ rfl (set8 HY8.o) Try.underlying62 rfl (by kernel_rfl)) rfl ?_
  refine ⟨⟨0, ta.f1, ⟨#[]⟩, ⟨#[]⟩, ⟨#[]⟩, ⟨#[]⟩, ⟨none, 0, 0⟩, p1⟩, [], rfl, Kd.Qdd _ _ _ _ _, (fun k hk => by simp [Sl.v, Value.ownBlock] at hk), ?_, Qeh HR8.o LB2.o, fun ts d r h1 h2 => ?_⟩
  ·rw [← HFE.o _ (Co.Qej HC8.o)]
   exact up8 HU8.o GB2.o
  ·have := Co.val HC8.o HF0.o ts d r h1 h2
   subst this
   exact ⟨rfl, rfl, rfl, rfl, rfl, rfl, rfl, rfl⟩
end Go.Proofs.Ytbdcndkafaajpaa.A
end
section
namespace Go.Proofs.Ytbdcndkafaajpaa.R
open Go.RowKit Ytbdcndkafaajpaa.X Ytbdcndkafaajpaa.A YtbdcndkafaajpaaW.PrintWords YtbdcndkafaajpaaW.PrintLast YtbdcndkafaajpaaW.PrintMore
open Ytbdcndkafaajpaa.P (Nd EO Res hd isT isM Qar mxl comb mk1 StD VeD EvD)
theorem Up.far {w : World} {A : Option Addr} {c : Nat} {L : List Tk} {g b : Nat} {s : US} (h : Up w A c L g s) (hb : g < b) (i : Nat) (v : Value) : Up (w.setCell ⟨b, i, none⟩ v) A c L g s := by
 obtain ⟨q, lv, v5, v6, hq, hp⟩ := h
 exact ⟨q, lv, v5, v6, hq, hp.far (a := i) hb v⟩
theorem up8 {W : World} {A : Option Addr} {c : Nat} {L : List Tk} {g b : Nat} {s : US} {v0 v1 v2 v3 v4 v5 v6 v7 : Value} (h : Up W A c L g s) (hb : g < b) : Up ((((((((W.setCell ⟨b, 0, none⟩ v0).setCell ⟨b, 1, none⟩ v1).setCell ⟨b, 2, none⟩ v2).setCell ⟨b, 3, none⟩ v3).setCell ⟨b, 4, none⟩ v4).setCell ⟨b, 5, none⟩ v5).setCell ⟨b, 6, none⟩ v6).setCell ⟨b, 7, none⟩ v7) A c L g s := (Up.far (b := b) (Up.far (b := b) (Up.far (b := b) (Up.far (b := b) (Up.far (b := b) (Up.far (b := b) (Up.far (b := b) (Up.far (b := b) h hb 0 v0) hb 1 v1) hb 2 v2) hb 3 v3) hb 4 v4) hb 5 v5) hb 6 v6) hb 7 v7)
section
variable {β : Type} {F : Res β} {s : US} {t : Tk}
theorem Co.stepw {b : List Tk → Bool} {g : Tk → List Tk → Res β} (h : Co F (fun r => (P.want (b r) r).bind g) s) (hf : Fw b s t) : Co F (g t) (s.step fun r => P.want (b r) r) := by
 cases s with
 | ok r =>
  have hf := hf r rfl
  unfold US.step P.want
  simp only
  by_cases hb : b r = true
  ·rw [if_pos hb, hf hb]
   refine Eq.trans h ?_
   simp only [P.want, if_pos hb]; rfl
  ·rw [if_neg hb]
   refine Eq.trans h ?_
   simp only [P.want, if_neg hb]; rfl
 | bad e p => exact h
theorem Co.Qgm {g : Tk → List Tk → Res β} (h : Co F (fun r => (P.Qdg r).bind g) s) (hf : Fw P.Qe0 s t) : Co F (g t) (s.step P.Qdg) := Co.stepw (b := P.Qe0) h hf
theorem Co.textw {g : Tk → List Tk → Res β} (h : Co F (fun r => (P.Qgi r).bind g) s) (hf : Fw (fun ts => (hd ts).f0 == 3) s t) : Co F (g t) (s.step P.Qgi) := Co.stepw (b := fun r => (hd r).f0 == 3) h hf
def frT (s : US) : Tk := match s with | .ok ts => hd ts | .bad _ _ => hd []
theorem Qnv (s : US) : Fr s (frT s) := by rintro ts rfl; rfl
theorem Co.Qmb {x : ByteArray} {g : List Tk → Res β} (h : Co F (fun r => (P.Qdi x r).bind fun _ r => g r) s) : Co F g (s.step (P.Qdi x)) := Co.word (g := fun _ r => g r) h (Qnv s)
theorem Co.Qfv {x : UInt8} {g : List Tk → Res β} (h : Co F (fun r => (Qar x r).bind fun _ r => g r) s) : Co F g (s.step (Qar x)) := Co.mark (g := fun _ r => g r) h (Qnv s)
theorem Co.step0 {b : List Tk → Bool} {g : List Tk → Res β} (h : Co F (fun r => (P.want (b r) r).bind fun _ r => g r) s) : Co F g (s.step fun r => P.want (b r) r) := Co.step (g := fun _ r => g r) h (Qnv s)
end
theorem Up.mark {w : World} {A : Option Addr} {c : Nat} {L : List Tk} {g : Nat} {s : US} (m : UInt8) (hG : Qdo L) (h : Up w A c L g s) (hi : s.is 4 (mk1 m) = true) : ∃ at_ : Int, w.cell? ⟨g, 1, none⟩ = some (.int .i64 at_) ∧ w.frozen? ⟨g, 1, none⟩ = false ∧ Up (w.setCell ⟨g, 1, none⟩ (.int .i64 (wrap64 (at_ + 1)))) A c L g (s.step (Qar m)) ∧ w.grownBy (w.setCell ⟨g, 1, none⟩ (.int .i64 (wrap64 (at_ + 1)))) (some g) := by
 cases s with
 | bad e p => cases hi
 | ok ts =>
  have hm : isM m ts = true := hi
  have hs : (US.ok ts).step (Qar m) = .ok ts.tail := by unfold US.step Qar P.want; simp only [hm]; rfl
  rw [hs]
  exact h.adv hG (by rw [Qbz hm]; decide)
theorem Qmn (s : US) : ∃ K : Nat, K ≤ 6 ∧ (∀ ts, s = .ok ts → P.stK ts = (K : Int)) ∧ (∀ e p, s = .bad e p → K = 0) ∧ s.is 1 ⟨#[97, 100, 100]⟩ = decide (K = 1) ∧ s.is 1 ⟨#[114, 101, 110, 97, 109, 101]⟩ = decide (K = 2) ∧ s.is 1 ⟨#[115, 112, 108, 105, 116]⟩ = decide (K = 3) ∧ s.is 1 ⟨#[106, 111, 105, 110]⟩ = decide (K = 4) ∧ s.is 1 ⟨#[114, 101, 116, 121, 112, 101]⟩ = decide (K = 5) ∧ s.is 1 ⟨#[100, 114, 111, 112]⟩ = decide (K = 6) := by
 cases s with
 | bad e p => exact ⟨0, by omega, (fun ts h => by cases h), (fun _ _ _ => rfl), rfl, rfl, rfl, rfl, rfl, rfl⟩
 | ok ts =>
  by_cases h1 : (hd ts).f0 = 1
  ·obtain ⟨K, hK, hK6⟩ := Qnq (hd ts).f1
   have hk : P.stK ts = (K : Int) := by unfold P.stK; rw [if_pos h1, hK]
   have hiff : ∀ (i : Nat) (x : ByteArray), (∀ y, P.kindOf y = (i : Int) ↔ y = x) → isT 1 x ts = decide (K = i) := fun i x hx => by
    by_cases e : (hd ts).f1 = x
    ·rw [Qh1 h1 e]
     have := (hx _).2 e
     exact (decide_eq_true (by omega)).symm
    ·rw [Qk3 e]
     exact (decide_eq_false (fun h => e ((hx _).1 (by rw [hK, h])))).symm
   have hall : ∀ y, (P.kindOf y = 1 ↔ y = ⟨#[97, 100, 100]⟩) ∧ (P.kindOf y = 2 ↔ y = ⟨#[114, 101, 110, 97, 109, 101]⟩) ∧ (P.kindOf y = 3 ↔ y = ⟨#[115, 112, 108, 105, 116]⟩) ∧ (P.kindOf y = 4 ↔ y = ⟨#[106, 111, 105, 110]⟩) ∧ (P.kindOf y = 5 ↔ y = ⟨#[114, 101, 116, 121, 112, 101]⟩) ∧ (P.kindOf y = 6 ↔ y = ⟨#[100, 114, 111, 112]⟩) := fun y => by
    have hl : P.kinds = [⟨#[97, 100, 100]⟩, ⟨#[114, 101, 110, 97, 109, 101]⟩, ⟨#[115, 112, 108, 105, 116]⟩, ⟨#[106, 111, 105, 110]⟩, ⟨#[114, 101, 116, 121, 112, 101]⟩, ⟨#[100, 114, 111, 112]⟩] := by kernel_rfl
    unfold P.kindOf
    rw [hl]
    simp only [P.idxB]
    by_cases c1 : ⟨#[97, 100, 100]⟩ = y
    ·subst c1; decide
    by_cases c2 : ⟨#[114, 101, 110, 97, 109, 101]⟩ = y
    ·subst c2; decide
    by_cases c3 : ⟨#[115, 112, 108, 105, 116]⟩ = y
    ·subst c3; decide
    by_cases c4 : ⟨#[106, 111, 105, 110]⟩ = y
    ·subst c4; decide
    by_cases c5 : ⟨#[114, 101, 116, 121, 112, 101]⟩ = y
    ·subst c5; decide
    by_cases c6 : ⟨#[100, 114, 111, 112]⟩ = y
    ·subst c6; decide
    simp only [if_neg c1, if_neg c2, if_neg c3, if_neg c4, if_neg c5, if_neg c6]
    refine ⟨?_, ?_, ?_, ?_, ?_, ?_⟩ <;> constructor <;> intro h <;> first | omega | exact absurd h.symm (by assumption)
   refine ⟨K, hK6, (fun ts' h => by cases h; exact hk), (fun _ _ h => by cases h), ?_, ?_, ?_, ?_, ?_, ?_⟩
   ·exact hiff 1 _ (fun y => (hall y).1)
   ·exact hiff 2 _ (fun y => (hall y).2.1)
   ·exact hiff 3 _ (fun y => (hall y).2.2.1)
   ·exact hiff 4 _ (fun y => (hall y).2.2.2.1)
   ·exact hiff 5 _ (fun y => (hall y).2.2.2.2.1)
   ·exact hiff 6 _ (fun y => (hall y).2.2.2.2.2)
  ·have hk : P.stK ts = ((0 : Nat) : Int) := by unfold P.stK; rw [if_neg h1]; rfl
   have f : ∀ x, isT 1 x ts = false := fun x => Qns h1
   exact ⟨0, by omega, (fun ts' h => by cases h; exact hk), (fun _ _ h => by cases h), f _, f _, f _, f _, f _, f _⟩
theorem Qkr (w : World) (A : Option Addr) (c : Nat) (L : List Tk) (g : Nat) (s : US) (hG : Qdo L) (hL : L.length ≤ 33554432) (h : Up w A c L g s) :
  Calls Try.prog 72 #[.pointer (some ⟨g, 0, none⟩)] w fun e w' => ∃ x ns, e = .returned (.agg #[.int .i64 x.k, .string x.a, .string x.b, .string x.c, .string x.sep, .string x.ty, .slice x.val.A x.val.n x.val.c, .int .i64 x.pl]) ∧ Kd.R kn 49 w' g (fun _ => True) x.val.v ns ∧ (∀ k, x.val.v.ownBlock = some k → w.heap.size ≤ k) ∧ Up w' A c L g (s.step P.stepW) ∧ w.grownBy w' (some g) ∧ ∀ ts d r, s = .ok ts → P.stepW ts = .ok d r → StM x ns d := by
 obtain ⟨w0, hw0⟩ : ∃ w0, w0 = w.alloc (.cells #[.int .i64 0, .string ⟨#[]⟩, .string ⟨#[]⟩, .string ⟨#[]⟩, .string ⟨#[]⟩, .string ⟨#[]⟩, .slice none 0 0, .int .i64 0] 62) := ⟨_, rfl⟩
 obtain ⟨b2, hb2⟩ : ∃ b2, b2 = w.heap.size := ⟨_, rfl⟩
 have hB0 : Below w.heap.size w w0 := by rw [hw0]; exact Qab (Below.refl _ _) _
 have HU0 := J0.m (h.below hB0)
 have HR0 := J0.m (Qaj hB0 (some g))
 have HY0 := J0.m (show w0.heap[b2]? = some zO8 from by rw [hw0, hb2]; exact Qay _ _)
 have GB2 : J0 (g < b2) := ⟨by rw [hb2]; exact h.glt⟩
 have GW : J0 (g < w.heap.size) := ⟨h.glt⟩
 have NB2 : J0 (b2 ≠ g) := ⟨by have := GB2.o; omega⟩
 have LB2 : J0 (w.heap.size ≤ b2) := ⟨by rw [hb2]; exact Nat.le_refl _⟩
 have HB2 := J0.m hb2
 have HW0 := J0.m hw0
 have HG := J0.m hG
 have HL := J0.m hL
 obtain ⟨F, hF0, hFe⟩ := Co.start s P.stepW
 obtain ⟨K, hK6, hKK, hKb, hI1, hI2, hI3, hI4, hI5, hI6⟩ := Qmn s
 have HKK := J0.m hKK
 have HKB := J0.m hKb
 have HI1 := J0.m hI1
 have HI2 := J0.m hI2
 have HI3 := J0.m hI3
 have HI4 := J0.m hI4
 have HI5 := J0.m hI5
 have HI6 := J0.m hI6
 have HK6 := J0.m hK6
 have HF0 := J0.m hF0
 have HFE := J0.m hFe
 clear h hw0 hb2 hB0 hG hL hF0 hFe hK6 hKK hKb hI1 hI2 hI3 hI4 hI5 hI6
 go_enter Try.func72, Try.ntmps72
 go_wp2_with fail
 rw [← HW0.o, ← HB2.o]
 refine (Qdp HU0.o).mono ?_
 rintro e w1 ⟨⟨k1, s1, n1, p1, e1⟩, hf1, rfl, hb⟩
 have HT1 := J0.m hf1
 have HU1 := J0.m (HU0.o.below hb)
 have HR1 := J0.m (HR0.o.trans (Qaj hb _))
 have HY1 := J0.m (Qae HY0.o hb)
 clear hb hf1
 obtain ⟨fd0, fd1, fd2, fd3⟩ := fld ⟨k1, s1, n1, p1, e1⟩
 obtain ⟨b1, hb1⟩ : ∃ b1, b1 = w1.heap.size := ⟨_, rfl⟩
 obtain ⟨b3, hb3⟩ : ∃ b3, b3 = w1.heap.size + 1 := ⟨_, rfl⟩
 obtain ⟨bw, hbw⟩ : ∃ bw, bw = w1.heap.size + 2 := ⟨_, rfl⟩
 obtain ⟨wa, hwa⟩ : ∃ wa, wa = w1.alloc (.cells #[.int .i64 k1, .string s1, .int .u64 n1, .int .i64 p1, .int .i64 e1] 47) := ⟨_, rfl⟩
 obtain ⟨wb, hwb⟩ : ∃ wb, wb = wa.alloc (.cells #[.int .i64 0, .string ⟨#[]⟩, .string ⟨#[]⟩, .string ⟨#[]⟩, .string ⟨#[]⟩, .string ⟨#[]⟩, .slice none 0 0, .int .i64 p1] 62) := ⟨_, rfl⟩
 obtain ⟨w2, hw2⟩ : ∃ w2, w2 = wb.alloc (.cells #[.string ⟨#[]⟩, .string ⟨#[97, 100, 100]⟩, .string ⟨#[114, 101, 110, 97, 109, 101]⟩, .string ⟨#[115, 112, 108, 105, 116]⟩, .string ⟨#[106, 111, 105, 110]⟩, .string ⟨#[114, 101, 116, 121, 112, 101]⟩, .string ⟨#[100, 114, 111, 112]⟩] 9) := ⟨_, rfl⟩
 have sa : wa.heap.size = w1.heap.size + 1 := by rw [hwa]; exact Array.size_push _
 have sb : wb.heap.size = w1.heap.size + 2 := by rw [hwb]; exact (Array.size_push _).trans (by rw [sa])
 have ba : Below w1.heap.size w1 wa := by rw [hwa]; exact Qab (Below.refl _ _) _
 have bb : Below wa.heap.size wa wb := by rw [hwb]; exact Qab (Below.refl _ _) _
 have bc : Below wb.heap.size wb w2 := by rw [hw2]; exact Qab (Below.refl _ _) _
 have hb : Below w1.heap.size w1 w2 := Qak (Qak ba bb) bc
 have xa : wa.heap[b1]? = some (.cells #[.int .i64 k1, .string s1, .int .u64 n1, .int .i64 p1, .int .i64 e1] 47 (0, 0)) := by rw [hwa, hb1]; exact Qay _ _
 have xb : wb.heap[b3]? = some (.cells #[.int .i64 0, .string ⟨#[]⟩, .string ⟨#[]⟩, .string ⟨#[]⟩, .string ⟨#[]⟩, .string ⟨#[]⟩, .slice none 0 0, .int .i64 p1] 62 (0, 0)) := by rw [hwb, hb3, ← sa]; exact Qay _ _
 have xc : w2.heap[bw]? = some (.cells #[.string ⟨#[]⟩, .string ⟨#[97, 100, 100]⟩, .string ⟨#[114, 101, 110, 97, 109, 101]⟩, .string ⟨#[115, 112, 108, 105, 116]⟩, .string ⟨#[106, 111, 105, 110]⟩, .string ⟨#[114, 101, 116, 121, 112, 101]⟩, .string ⟨#[100, 114, 111, 112]⟩] 9 (0, 0)) := by rw [hw2, hbw, ← sb]; exact Qay _ _
 have HU2 := J0.m (HU1.o.below hb)
 have HR2 := J0.m (HR1.o.trans (Qaj hb _))
 have HY2 := J0.m (Qae HY1.o hb)
 have HX2 := J0.m (Qae xb bc)
 have HT2 := J0.m (Qae (Qae xa bb) bc)
 have HV2 := J0.m xc
 have GB3 : J0 (g < b3) := ⟨by rw [hb3]; have := HU1.o.glt; omega⟩
 have NB3 : J0 (b3 ≠ g) := ⟨by have := GB3.o; omega⟩
 have LB3 : J0 (w.heap.size ≤ b3) := ⟨by rw [hb3]; have := HR1.o.size; omega⟩
 have NB23 : J0 (b2 ≠ b3) := ⟨by have := Qb3 HY1.o; rw [hb3]; omega⟩
 have NB13 : J0 (b1 ≠ b3 ∧ bw ≠ b3) := ⟨by rw [hb3, hb1, hbw]; omega⟩
 obtain ⟨z0, z1, z2, z3, z4⟩ := Qbi (t := ⟨k1, s1, n1, p1, e1⟩) xa
 rw [hwa, hb1] at z0 z1 z2 z3 z4
 have HB1 := J0.m hb1
 have HB3 := J0.m hb3
 have HBW := J0.m hbw
 have HWA := J0.m hwa
 have HWB := J0.m hwb
 have HW2 := J0.m hw2
 have hsa : (w1.alloc (.cells #[.int .i64 k1, .string s1, .int .u64 n1, .int .i64 p1, .int .i64 e1] 47)).heap.size = w1.heap.size + 1 := Array.size_push _
 have hsb : ((w1.alloc (.cells #[.int .i64 k1, .string s1, .int .u64 n1, .int .i64 p1, .int .i64 e1] 47)).alloc (.cells #[.int .i64 0, .string ⟨#[]⟩, .string ⟨#[]⟩, .string ⟨#[]⟩, .string ⟨#[]⟩, .string ⟨#[]⟩, .slice none 0 0, .int .i64 p1] 62)).heap.size = w1.heap.size + 2 := by rw [← hwa, ← hwb]; exact sb
 clear hb hw2 hwa hwb hb1 hb3 hbw sa sb ba bb bc xa xb xc
 go_wp2_with fail
 rw [← HWA.o, ← HWB.o, ← HW2.o]
 try rw [← HBW.o]
 try rw [← HB3.o]
 try rw [← HB1.o]
 clear z0 z1 z2 z3 z4 hsa hsb
 go_loopg [6] 6 (fun kk s6 wr => ∃ i : Nat, s6 = .int .i64 (i : Int) ∧ J0 (1 ≤ i ∧ i + kk = 7) ∧ J0 (Up wr A c L g s) ∧ J0 (w.grownBy wr (some g)) ∧ J0 (wr.heap[b2]? = some zO8) ∧ J0 (wr.heap[b3]? = some (.cells #[.int .i64 ((if K < i then K else 0 : Nat) : Int), .string ⟨#[]⟩, .string ⟨#[]⟩, .string ⟨#[]⟩, .string ⟨#[]⟩, .string ⟨#[]⟩, .slice none 0 0, .int .i64 p1] 62 (0, 0))) ∧ J0 (wr.heap[b1]? = some (.cells #[.int .i64 k1, .string s1, .int .u64 n1, .int .i64 p1, .int .i64 e1] 47 (0, 0))) ∧ J0 (wr.heap[bw]? = some (.cells #[.string ⟨#[]⟩, .string ⟨#[97, 100, 100]⟩, .string ⟨#[114, 101, 110, 97, 109, 101]⟩, .string ⟨#[115, 112, 108, 105, 116]⟩, .string ⟨#[106, 111, 105, 110]⟩, .string ⟨#[114, 101, 116, 121, 112, 101]⟩, .string ⟨#[100, 114, 111, 112]⟩] 9 (0, 0))))
 case atStart =>
  refine ⟨1, rfl, ⟨by omega, rfl⟩, HU2, HR2, HY2, ⟨?_⟩, HT2, HV2⟩
  have : ((if K < 1 then K else 0 : Nat) : Int) = 0 := by by_cases h : K < 1 <;> simp [h] <;> omega
  rw [this]; exact HX2.o
 case round =>
  obtain ⟨i, rfl, hi, HU3, HR3, HY3, HX3, HT3, HV3⟩ := hrel
  obtain ⟨hi1, hi7⟩ := hi.o
  obtain rfl | rfl | rfl | rfl | rfl | rfl | rfl : i = 1 ∨ i = 2 ∨ i = 3 ∨ i = 4 ∨ i = 5 ∨ i = 6 ∨ i = 7 := by omega
  ·obtain rfl : gk = 6 := by omega
   clear hi1 hi7 hi
   have HIS := J0.m (Qcn 1 ⟨#[97, 100, 100]⟩ HU3.o)
   rw [HI1.o] at HIS
   have x1 : wr.cell? ⟨bw, 1, none⟩ = some (.string ⟨#[97, 100, 100]⟩) := (Qac HV3.o 1).trans rfl
   by_cases hKi : K = 1
   ·rw [decide_eq_true hKi] at HIS
    have HKI := J0.m hKi
    clear hKi
    go_wp2_with fail
    refine HIS.o.mono ?_
    rintro e w4 ⟨rfl, hb⟩
    have HU4 := J0.m (HU3.o.below hb)
    have HR4 := J0.m (HR3.o.trans (Qaj hb _))
    have HY4 := J0.m (Qae HY3.o hb)
    have HX4 := J0.m (Qae HX3.o hb)
    have HT4 := J0.m (Qae HT3.o hb)
    have HV4 := J0.m (Qae HV3.o hb)
    clear hb
    have c0 := (Qac HX4.o 0).trans rfl
    have f0 := Qaa HX4.o 0
    go_wp2
    go_roundg 5
    case measure => omega
    case rel =>
     refine ⟨2, by first | rfl | simp, ⟨by omega, by omega⟩, ⟨HU4.o.far GB3.o 0 _⟩, ⟨Qau (g := g) HR4.o LB3.o 0 _⟩, ⟨Qa2 NB23.o HY4.o _⟩, ⟨(Qa8 HX4.o _).trans ?_⟩, ⟨Qa2 NB13.o.1 HT4.o _⟩, ⟨Qa2 NB13.o.2 HV4.o _⟩⟩
     have : ((if K < 2 then K else 0 : Nat) : Int) = 1 := by rw [HKI.o]; rfl
     rw [this]; rfl
   ·rw [decide_eq_false hKi] at HIS
    have HKI := J0.m hKi
    clear hKi
    go_wp2_with fail
    refine HIS.o.mono ?_
    rintro e w4 ⟨rfl, hb⟩
    have HU4 := J0.m (HU3.o.below hb)
    have HR4 := J0.m (HR3.o.trans (Qaj hb _))
    have HY4 := J0.m (Qae HY3.o hb)
    have HX4 := J0.m (Qae HX3.o hb)
    have HT4 := J0.m (Qae HT3.o hb)
    have HV4 := J0.m (Qae HV3.o hb)
    clear hb
    go_wp2
    go_roundg 5
    case measure => omega
    case rel =>
     refine ⟨2, by first | rfl | simp, ⟨by omega, by omega⟩, HU4, HR4, HY4, ⟨?_⟩, HT4, HV4⟩
     have : ((if K < 2 then K else 0 : Nat) : Int) = ((if K < 1 then K else 0 : Nat) : Int) := by
      have := HKI.o
      by_cases h : K < 1
      ·rw [if_pos h, if_pos (by omega)]
      ·rw [if_neg h, if_neg (by omega)]
     rw [this]; exact HX4.o
  ·obtain rfl : gk = 5 := by omega
   clear hi1 hi7 hi
   have HIS := J0.m (Qcn 1 ⟨#[114, 101, 110, 97, 109, 101]⟩ HU3.o)
   rw [HI2.o] at HIS
   have x2 : wr.cell? ⟨bw, 2, none⟩ = some (.string ⟨#[114, 101, 110, 97, 109, 101]⟩) := (Qac HV3.o 2).trans rfl
   by_cases hKi : K = 2
   ·rw [decide_eq_true hKi] at HIS
    have HKI := J0.m hKi
    clear hKi
    go_wp2_with fail
    refine HIS.o.mono ?_
    rintro e w4 ⟨rfl, hb⟩
    have HU4 := J0.m (HU3.o.below hb)
    have HR4 := J0.m (HR3.o.trans (Qaj hb _))
    have HY4 := J0.m (Qae HY3.o hb)
    have HX4 := J0.m (Qae HX3.o hb)
    have HT4 := J0.m (Qae HT3.o hb)
    have HV4 := J0.m (Qae HV3.o hb)
    clear hb
    have c0 := (Qac HX4.o 0).trans rfl
    have f0 := Qaa HX4.o 0
    go_wp2
    go_roundg 4
    case measure => omega
    case rel =>
     refine ⟨3, by first | rfl | simp, ⟨by omega, by omega⟩, ⟨HU4.o.far GB3.o 0 _⟩, ⟨Qau (g := g) HR4.o LB3.o 0 _⟩, ⟨Qa2 NB23.o HY4.o _⟩, ⟨(Qa8 HX4.o _).trans ?_⟩, ⟨Qa2 NB13.o.1 HT4.o _⟩, ⟨Qa2 NB13.o.2 HV4.o _⟩⟩
     have : ((if K < 3 then K else 0 : Nat) : Int) = 2 := by rw [HKI.o]; rfl
     rw [this]; rfl
   ·rw [decide_eq_false hKi] at HIS
    have HKI := J0.m hKi
    clear hKi
    go_wp2_with fail
    refine HIS.o.mono ?_
    rintro e w4 ⟨rfl, hb⟩
    have HU4 := J0.m (HU3.o.below hb)
    have HR4 := J0.m (HR3.o.trans (Qaj hb _))
    have HY4 := J0.m (Qae HY3.o hb)
    have HX4 := J0.m (Qae HX3.o hb)
    have HT4 := J0.m (Qae HT3.o hb)
    have HV4 := J0.m (Qae HV3.o hb)
    clear hb
    go_wp2
    go_roundg 4
    case measure => omega
    case rel =>
     refine ⟨3, by first | rfl | simp, ⟨by omega, by omega⟩, HU4, HR4, HY4, ⟨?_⟩, HT4, HV4⟩
     have : ((if K < 3 then K else 0 : Nat) : Int) = ((if K < 2 then K else 0 : Nat) : Int) := by
      have := HKI.o
      by_cases h : K < 2
      ·rw [if_pos h, if_pos (by omega)]
      ·rw [if_neg h, if_neg (by omega)]
     rw [this]; exact HX4.o
  ·obtain rfl : gk = 4 := by omega
   clear hi1 hi7 hi
   have HIS := J0.m (Qcn 1 ⟨#[115, 112, 108, 105, 116]⟩ HU3.o)
   rw [HI3.o] at HIS
   have x3 : wr.cell? ⟨bw, 3, none⟩ = some (.string ⟨#[115, 112, 108, 105, 116]⟩) := (Qac HV3.o 3).trans rfl
   by_cases hKi : K = 3
   ·rw [decide_eq_true hKi] at HIS
    have HKI := J0.m hKi
    clear hKi
    go_wp2_with fail
    refine HIS.o.mono ?_
    rintro e w4 ⟨rfl, hb⟩
    have HU4 := J0.m (HU3.o.below hb)
    have HR4 := J0.m (HR3.o.trans (Qaj hb _))
    have HY4 := J0.m (Qae HY3.o hb)
    have HX4 := J0.m (Qae HX3.o hb)
    have HT4 := J0.m (Qae HT3.o hb)
    have HV4 := J0.m (Qae HV3.o hb)
    clear hb
    have c0 := (Qac HX4.o 0).trans rfl
    have f0 := Qaa HX4.o 0
    go_wp2
    go_roundg 3
    case measure => omega
    case rel =>
     refine ⟨4, by first | rfl | simp, ⟨by omega, by omega⟩, ⟨HU4.o.far GB3.o 0 _⟩, ⟨Qau (g := g) HR4.o LB3.o 0 _⟩, ⟨Qa2 NB23.o HY4.o _⟩, ⟨(Qa8 HX4.o _).trans ?_⟩, ⟨Qa2 NB13.o.1 HT4.o _⟩, ⟨Qa2 NB13.o.2 HV4.o _⟩⟩
     have : ((if K < 4 then K else 0 : Nat) : Int) = 3 := by rw [HKI.o]; rfl
     rw [this]; rfl
   ·rw [decide_eq_false hKi] at HIS
    have HKI := J0.m hKi
    clear hKi
    go_wp2_with fail
    refine HIS.o.mono ?_
    rintro e w4 ⟨rfl, hb⟩
    have HU4 := J0.m (HU3.o.below hb)
    have HR4 := J0.m (HR3.o.trans (Qaj hb _))
    have HY4 := J0.m (Qae HY3.o hb)
    have HX4 := J0.m (Qae HX3.o hb)
    have HT4 := J0.m (Qae HT3.o hb)
    have HV4 := J0.m (Qae HV3.o hb)
    clear hb
    go_wp2
    go_roundg 3
    case measure => omega
    case rel =>
     refine ⟨4, by first | rfl | simp, ⟨by omega, by omega⟩, HU4, HR4, HY4, ⟨?_⟩, HT4, HV4⟩
     have : ((if K < 4 then K else 0 : Nat) : Int) = ((if K < 3 then K else 0 : Nat) : Int) := by
      have := HKI.o
      by_cases h : K < 3
      ·rw [if_pos h, if_pos (by omega)]
      ·rw [if_neg h, if_neg (by omega)]
     rw [this]; exact HX4.o
  ·obtain rfl : gk = 3 := by omega
   clear hi1 hi7 hi
   have HIS := J0.m (Qcn 1 ⟨#[106, 111, 105, 110]⟩ HU3.o)
   rw [HI4.o] at HIS
   have x4 : wr.cell? ⟨bw, 4, none⟩ = some (.string ⟨#[106, 111, 105, 110]⟩) := (Qac HV3.o 4).trans rfl
   by_cases hKi : K = 4
   ·rw [decide_eq_true hKi] at HIS
    have HKI := J0.m hKi
    clear hKi
    go_wp2_with fail
    refine HIS.o.mono ?_
    rintro e w4 ⟨rfl, hb⟩
    have HU4 := J0.m (HU3.o.below hb)
    have HR4 := J0.m (HR3.o.trans (Qaj hb _))
    have HY4 := J0.m (Qae HY3.o hb)
    have HX4 := J0.m (Qae HX3.o hb)
    have HT4 := J0.m (Qae HT3.o hb)
    have HV4 := J0.m (Qae HV3.o hb)
    clear hb
    have c0 := (Qac HX4.o 0).trans rfl
    have f0 := Qaa HX4.o 0
    go_wp2
    go_roundg 2
    case measure => omega
    case rel =>
     refine ⟨5, by first | rfl | simp, ⟨by omega, by omega⟩, ⟨HU4.o.far GB3.o 0 _⟩, ⟨Qau (g := g) HR4.o LB3.o 0 _⟩, ⟨Qa2 NB23.o HY4.o _⟩, ⟨(Qa8 HX4.o _).trans ?_⟩, ⟨Qa2 NB13.o.1 HT4.o _⟩, ⟨Qa2 NB13.o.2 HV4.o _⟩⟩
     have : ((if K < 5 then K else 0 : Nat) : Int) = 4 := by rw [HKI.o]; rfl
     rw [this]; rfl
   ·rw [decide_eq_false hKi] at HIS
    have HKI := J0.m hKi
    clear hKi
    go_wp2_with fail
    refine HIS.o.mono ?_
    rintro e w4 ⟨rfl, hb⟩
    have HU4 := J0.m (HU3.o.below hb)
    have HR4 := J0.m (HR3.o.trans (Qaj hb _))
    have HY4 := J0.m (Qae HY3.o hb)
    have HX4 := J0.m (Qae HX3.o hb)
    have HT4 := J0.m (Qae HT3.o hb)
    have HV4 := J0.m (Qae HV3.o hb)
    clear hb
    go_wp2
    go_roundg 2
    case measure => omega
    case rel =>
     refine ⟨5, by first | rfl | simp, ⟨by omega, by omega⟩, HU4, HR4, HY4, ⟨?_⟩, HT4, HV4⟩
     have : ((if K < 5 then K else 0 : Nat) : Int) = ((if K < 4 then K else 0 : Nat) : Int) := by
      have := HKI.o
      by_cases h : K < 4
      ·rw [if_pos h, if_pos (by omega)]
      ·rw [if_neg h, if_neg (by omega)]
     rw [this]; exact HX4.o
  ·obtain rfl : gk = 2 := by omega
   clear hi1 hi7 hi
   have HIS := J0.m (Qcn 1 ⟨#[114, 101, 116, 121, 112, 101]⟩ HU3.o)
   rw [HI5.o] at HIS
   have x5 : wr.cell? ⟨bw, 5, none⟩ = some (.string ⟨#[114, 101, 116, 121, 112, 101]⟩) := (Qac HV3.o 5).trans rfl
   by_cases hKi : K = 5
   ·rw [decide_eq_true hKi] at HIS
    have HKI := J0.m hKi
    clear hKi
    go_wp2_with fail
    refine HIS.o.mono ?_
    rintro e w4 ⟨rfl, hb⟩
    have HU4 := J0.m (HU3.o.below hb)
    have HR4 := J0.m (HR3.o.trans (Qaj hb _))
    have HY4 := J0.m (Qae HY3.o hb)
    have HX4 := J0.m (Qae HX3.o hb)
    have HT4 := J0.m (Qae HT3.o hb)
    have HV4 := J0.m (Qae HV3.o hb)
    clear hb
    have c0 := (Qac HX4.o 0).trans rfl
    have f0 := Qaa HX4.o 0
    go_wp2
    go_roundg 1
    case measure => omega
    case rel =>
     refine ⟨6, by first | rfl | simp, ⟨by omega, by omega⟩, ⟨HU4.o.far GB3.o 0 _⟩, ⟨Qau (g := g) HR4.o LB3.o 0 _⟩, ⟨Qa2 NB23.o HY4.o _⟩, ⟨(Qa8 HX4.o _).trans ?_⟩, ⟨Qa2 NB13.o.1 HT4.o _⟩, ⟨Qa2 NB13.o.2 HV4.o _⟩⟩
     have : ((if K < 6 then K else 0 : Nat) : Int) = 5 := by rw [HKI.o]; rfl
     rw [this]; rfl
   ·rw [decide_eq_false hKi] at HIS
    have HKI := J0.m hKi
    clear hKi
    go_wp2_with fail
    refine HIS.o.mono ?_
    rintro e w4 ⟨rfl, hb⟩
    have HU4 := J0.m (HU3.o.below hb)
    have HR4 := J0.m (HR3.o.trans (Qaj hb _))
    have HY4 := J0.m (Qae HY3.o hb)
    have HX4 := J0.m (Qae HX3.o hb)
    have HT4 := J0.m (Qae HT3.o hb)
    have HV4 := J0.m (Qae HV3.o hb)
    clear hb
    go_wp2
    go_roundg 1
    case measure => omega
    case rel =>
     refine ⟨6, by first | rfl | simp, ⟨by omega, by omega⟩, HU4, HR4, HY4, ⟨?_⟩, HT4, HV4⟩
     have : ((if K < 6 then K else 0 : Nat) : Int) = ((if K < 5 then K else 0 : Nat) : Int) := by
      have := HKI.o
      by_cases h : K < 5
      ·rw [if_pos h, if_pos (by omega)]
      ·rw [if_neg h, if_neg (by omega)]
     rw [this]; exact HX4.o
  ·obtain rfl : gk = 1 := by omega
   clear hi1 hi7 hi
   have HIS := J0.m (Qcn 1 ⟨#[100, 114, 111, 112]⟩ HU3.o)
   rw [HI6.o] at HIS
   have x6 : wr.cell? ⟨bw, 6, none⟩ = some (.string ⟨#[100, 114, 111, 112]⟩) := (Qac HV3.o 6).trans rfl
   by_cases hKi : K = 6
   ·rw [decide_eq_true hKi] at HIS
    have HKI := J0.m hKi
    clear hKi
    go_wp2_with fail
    refine HIS.o.mono ?_
    rintro e w4 ⟨rfl, hb⟩
    have HU4 := J0.m (HU3.o.below hb)
    have HR4 := J0.m (HR3.o.trans (Qaj hb _))
    have HY4 := J0.m (Qae HY3.o hb)
    have HX4 := J0.m (Qae HX3.o hb)
    have HT4 := J0.m (Qae HT3.o hb)
    have HV4 := J0.m (Qae HV3.o hb)
    clear hb
    have c0 := (Qac HX4.o 0).trans rfl
    have f0 := Qaa HX4.o 0
    go_wp2
    go_roundg 0
    case measure => omega
    case rel =>
     refine ⟨7, by first | rfl | simp, ⟨by omega, by omega⟩, ⟨HU4.o.far GB3.o 0 _⟩, ⟨Qau (g := g) HR4.o LB3.o 0 _⟩, ⟨Qa2 NB23.o HY4.o _⟩, ⟨(Qa8 HX4.o _).trans ?_⟩, ⟨Qa2 NB13.o.1 HT4.o _⟩, ⟨Qa2 NB13.o.2 HV4.o _⟩⟩
     have : ((if K < 7 then K else 0 : Nat) : Int) = 6 := by rw [HKI.o]; rfl
     rw [this]; rfl
   ·rw [decide_eq_false hKi] at HIS
    have HKI := J0.m hKi
    clear hKi
    go_wp2_with fail
    refine HIS.o.mono ?_
    rintro e w4 ⟨rfl, hb⟩
    have HU4 := J0.m (HU3.o.below hb)
    have HR4 := J0.m (HR3.o.trans (Qaj hb _))
    have HY4 := J0.m (Qae HY3.o hb)
    have HX4 := J0.m (Qae HX3.o hb)
    have HT4 := J0.m (Qae HT3.o hb)
    have HV4 := J0.m (Qae HV3.o hb)
    clear hb
    go_wp2
    go_roundg 0
    case measure => omega
    case rel =>
     refine ⟨7, by first | rfl | simp, ⟨by omega, by omega⟩, HU4, HR4, HY4, ⟨?_⟩, HT4, HV4⟩
     have : ((if K < 7 then K else 0 : Nat) : Int) = ((if K < 6 then K else 0 : Nat) : Int) := by
      have := HKI.o
      by_cases h : K < 6
      ·rw [if_pos h, if_pos (by omega)]
      ·rw [if_neg h, if_neg (by omega)]
     rw [this]; exact HX4.o
  ·obtain rfl : gk = 0 := by omega
   clear hi1 hi7 hi
   have hkc : ((if K < 7 then K else 0 : Nat) : Int) = (K : Int) := by have := HK6.o; rw [if_pos (by omega)]
   rw [hkc] at HX3
   clear hkc HI1 HI2 HI3 HI4 HI5 HI6
   have hK6 := HK6.o
   clear HK6
   obtain rfl | rfl | rfl | rfl | rfl | rfl | rfl : K = 0 ∨ K = 1 ∨ K = 2 ∨ K = 3 ∨ K = 4 ∨ K = 5 ∨ K = 6 := by omega
   ·have HX3 : J0 (wr.heap[b3]? = some (.cells #[.int .i64 0, .string ⟨#[]⟩, .string ⟨#[]⟩, .string ⟨#[]⟩, .string ⟨#[]⟩, .string ⟨#[]⟩, .slice none 0 0, .int .i64 p1] 62 (0, 0))) := HX3
    obtain ⟨z0, z1, z2, z3, z4⟩ := Qbi (t := ⟨k1, s1, n1, p1, e1⟩) HT3.o
    have c0 := (Qac HX3.o 0).trans rfl
    have HFL := J0.m (Qff 90 p1 (by decide) HU3.o)
    go_wp2_with fail
    refine HFL.o.mono ?_
    rintro e w4 ⟨rfl, hu, hg⟩
    have HU4 := J0.m hu
    have HR4 := J0.m (HR3.o.trans hg)
    have HX4 := J0.m (Qas hg HX3.o NB3.o)
    have HY4 := J0.m (Qas hg HY3.o NB2.o)
    clear hu hg c0 z0 z1 z2 z3 z4
    have c0_4 := (Qac HX4.o 0).trans rfl
    have f0_4 := Qaa HX4.o 0
    have c1_4 := (Qac HX4.o 1).trans rfl
    have f1_4 := Qaa HX4.o 1
    have c2_4 := (Qac HX4.o 2).trans rfl
    have f2_4 := Qaa HX4.o 2
    have c3_4 := (Qac HX4.o 3).trans rfl
    have f3_4 := Qaa HX4.o 3
    have c4_4 := (Qac HX4.o 4).trans rfl
    have f4_4 := Qaa HX4.o 4
    have c5_4 := (Qac HX4.o 5).trans rfl
    have f5_4 := Qaa HX4.o 5
    have c6_4 := (Qac HX4.o 6).trans rfl
    have f6_4 := Qaa HX4.o 6
    have c7_4 := (Qac HX4.o 7).trans rfl
    have f7_4 := Qaa HX4.o 7
    have y0 := (Qac HY4.o 0).trans rfl
    have g0 := Qaa HY4.o 0
    have y1 := (Qac HY4.o 1).trans rfl
    have g1 := Qaa HY4.o 1
    have y2 := (Qac HY4.o 2).trans rfl
    have g2 := Qaa HY4.o 2
    have y3 := (Qac HY4.o 3).trans rfl
    have g3 := Qaa HY4.o 3
    have y4 := (Qac HY4.o 4).trans rfl
    have g4 := Qaa HY4.o 4
    have y5 := (Qac HY4.o 5).trans rfl
    have g5 := Qaa HY4.o 5
    have y6 := (Qac HY4.o 6).trans rfl
    have g6 := Qaa HY4.o 6
    have y7 := (Qac HY4.o 7).trans rfl
    have g7 := Qaa HY4.o 7
    go_wp2
    refine bodyPost_ret (Qbm rfl _ _ b2 62 #[.int .i64 0, .string ⟨#[]⟩, .string ⟨#[]⟩, .string ⟨#[]⟩, .string ⟨#[]⟩, .string ⟨#[]⟩, .slice none 0 0, .int .i64 p1] (0, 0) _ rfl (set8 HY4.o) Try.underlying62 rfl (by kernel_rfl)) rfl ?_
    have HST : Qrk 90 p1 s = s.step P.stepW ∧ ∀ ts d r, s = .ok ts → P.stepW ts ≠ .ok d r := by
     cases s with
     | bad e p => exact ⟨rfl, fun ts d r h => by cases h⟩
     | ok ts =>
      have h0 := HKK.o ts rfl
      have hp := HT1.o ts rfl
      have hs : P.stepW ts = .bad 90 p1 := by
       unfold P.stepW P.want
       rw [h0, ← hp]; rfl
      refine ⟨?_, fun ts' d r h1 h2 => ?_⟩
      ·unfold Qrk US.step; simp only [hs]
      ·cases h1; rw [hs] at h2; cases h2
    refine ⟨⟨0, ⟨#[]⟩, ⟨#[]⟩, ⟨#[]⟩, ⟨#[]⟩, ⟨#[]⟩, ⟨none, 0, 0⟩, p1⟩, [], rfl, Kd.Qdd _ _ _ _ _, (fun k hk => by simp [Sl.v, Value.ownBlock] at hk), ?_, Qeh HR4.o LB2.o, fun ts d r h1 h2 => absurd h2 (HST.2 ts d r h1)⟩
    rw [← HST.1]
    exact up8 HU4.o GB2.o
   ·obtain ⟨ts, rfl⟩ : ∃ ts, s = .ok ts := by
     cases s with
     | ok ts => exact ⟨ts, rfl⟩
     | bad e p => exact absurd (HKB.o e p rfl) (by decide)
    have HX3 : J0 (wr.heap[b3]? = some (.cells #[.int .i64 1, .string ⟨#[]⟩, .string ⟨#[]⟩, .string ⟨#[]⟩, .string ⟨#[]⟩, .string ⟨#[]⟩, .slice none 0 0, .int .i64 p1] 62 (0, 0))) := HX3
    have HKS : J0 (P.stK ts = 1) := ⟨HKK.o ts rfl⟩
    have hst : ((US.ok ts).step fun ts => P.want (decide (0 < P.stK ts)) ts) = .ok ts.tail := by
     unfold US.step P.want; simp only [HKS.o]; rfl
    have c0 := (Qac HX3.o 0).trans rfl
    have HC3 := J0.m (Co.step0 (HF0.o.to (fun r hr => Qde (k := 1) (p := p1) (by cases hr; exact HKS.o) (by rw [← HT1.o r hr]))))
    obtain ⟨at_, y1, f1, hu, hg⟩ := HU3.o.adv HG.o (P.Qc0 (by rw [HKS.o]; decide))
    obtain ⟨w4, hw⟩ : ∃ w4, w4 = wr.setCell ⟨g, 1, none⟩ (.int .i64 (wrap64 (at_ + 1))) := ⟨_, rfl⟩
    rw [← hw, ← hst] at hu
    rw [← hw] at hg
    have HU4 := J0.m hu
    have HC4 := HC3
    have HR4 := J0.m (HR3.o.trans hg)
    have HX4 := J0.m (Qas hg HX3.o NB3.o)
    have HY4 := J0.m (Qas hg HY3.o NB2.o)
    have HW4 := J0.m hw
    clear hu hg hw hst
    have HCL := J0.m (Qbf HG.o HU4.o)
    go_wp2_with fail
    rw [← HW4.o]
    refine HCL.o.mono ?_
    rintro e w5 ⟨⟨ta, hfr, rfl⟩, hu, hg⟩
    clear HCL c0 y1 f1
    have HC5 := J0.m (Co.Qgm HC4.o hfr)
    have HU5 := J0.m hu
    have HR5 := J0.m (HR4.o.trans hg)
    have HX5 := J0.m (Qas hg HX4.o NB3.o)
    have HY5 := J0.m (Qas hg HY4.o NB2.o)
    clear hu hg hfr
    have c0_5 := (Qac HX5.o 0).trans rfl
    have f0_5 := Qaa HX5.o 0
    have c1_5 := (Qac HX5.o 1).trans rfl
    have f1_5 := Qaa HX5.o 1
    obtain ⟨w6, hw⟩ : ∃ w6, w6 = w5.setCell ⟨b3, 1, none⟩ (.string ta.f1) := ⟨_, rfl⟩
    have HU6 := J0.m (show Up w6 A c L g _ from by rw [hw]; exact HU5.o.far GB3.o 1 _)
    have HR6 := J0.m (show w.grownBy w6 (some g) from by rw [hw]; exact Qau (g := g) HR5.o LB3.o 1 _)
    have HX6 := J0.m (show w6.heap[b3]? = some (.cells #[.int .i64 1, .string ta.f1, .string ⟨#[]⟩, .string ⟨#[]⟩, .string ⟨#[]⟩, .string ⟨#[]⟩, .slice none 0 0, .int .i64 p1] 62 (0, 0)) from by rw [hw]; exact (Qa8 HX5.o _).trans (by rfl))
    have HY6 := J0.m (show w6.heap[b2]? = some zO8 from by rw [hw]; exact Qa2 NB23.o HY5.o _)
    have HC6 := HC5
    have HW6 := J0.m hw
    clear hw
    have HC6 := J0.m (HC6.o.to (fun r _ => tail1 _ _ r))
    have HCL := J0.m (Qa4 HG.o 58 HU6.o)
    go_wp2_with fail
    rw [← HW6.o]
    refine HCL.o.mono ?_
    rintro e w7 ⟨rfl, hu, hg⟩
    clear HCL
    have HC7 := J0.m (Co.Qfv HC6.o)
    have HU7 := J0.m hu
    have HR7 := J0.m (HR6.o.trans hg)
    have HX7 := J0.m (Qas hg HX6.o NB3.o)
    have HY7 := J0.m (Qas hg HY6.o NB2.o)
    clear hu hg
    have HCL := J0.m (Qbf HG.o HU7.o)
    go_wp2_with fail
    refine HCL.o.mono ?_
    rintro e w8 ⟨⟨tb, hfr, rfl⟩, hu, hg⟩
    clear HCL
    have HC8 := J0.m (Co.Qgm HC7.o hfr)
    have HU8 := J0.m hu
    have HR8 := J0.m (HR7.o.trans hg)
    have HX8 := J0.m (Qas hg HX7.o NB3.o)
    have HY8 := J0.m (Qas hg HY7.o NB2.o)
    clear hu hg hfr
    have c5_8 := (Qac HX8.o 5).trans rfl
    have f5_8 := Qaa HX8.o 5
    obtain ⟨w9, hw⟩ : ∃ w9, w9 = w8.setCell ⟨b3, 5, none⟩ (.string tb.f1) := ⟨_, rfl⟩
    have HU9 := J0.m (show Up w9 A c L g _ from by rw [hw]; exact HU8.o.far GB3.o 5 _)
    have HR9 := J0.m (show w.grownBy w9 (some g) from by rw [hw]; exact Qau (g := g) HR8.o LB3.o 5 _)
    have HX9 := J0.m (show w9.heap[b3]? = some (.cells #[.int .i64 1, .string ta.f1, .string ⟨#[]⟩, .string ⟨#[]⟩, .string ⟨#[]⟩, .string tb.f1, .slice none 0 0, .int .i64 p1] 62 (0, 0)) from by rw [hw]; exact (Qa8 HX8.o _).trans (by rfl))
    have HY9 := J0.m (show w9.heap[b2]? = some zO8 from by rw [hw]; exact Qa2 NB23.o HY8.o _)
    have HC9 := HC8
    have HW9 := J0.m hw
    clear hw
    have HIS := J0.m (Qcn 4 ⟨#[61]⟩ HU9.o)
    obtain ⟨bq, hbq⟩ : ∃ bq, bq = US.is 4 ⟨#[61]⟩ (((((US.ok ts).step fun ts => P.want (decide (0 < P.stK ts)) ts).step P.Qdg).step (Qar 58)).step P.Qdg) := ⟨_, rfl⟩
    rw [← hbq] at HIS
    have HBQ := J0.m hbq
    clear hbq
    go_wp2_with fail
    rw [← HW9.o]
    refine HIS.o.mono ?_
    rintro e w10 ⟨rfl, hb⟩
    clear HIS
    have HC10 := HC9
    have HU10 := J0.m (HU9.o.below hb)
    have HR10 := J0.m (HR9.o.trans (Qaj hb _))
    have HX10 := J0.m (Qae HX9.o hb)
    have HY10 := J0.m (Qae HY9.o hb)
    clear hb
    cases bq with
    | true =>
     have HC10 := J0.m (HC10.o.to (k' := fun r => (Qar 61 r).bind fun _ r => (P.Qdh r).bind fun v r => (Qar 59 r).bind fun _ r => .ok { P.stepOf 1 p1 ta.f1 with ty := tb.f1, val := v.ns } r) (fun r hr => Qqd (f := fun r => (P.Qdh r).bind fun v r => (Qar 59 r).bind fun _ r => .ok { P.stepOf 1 p1 ta.f1 with ty := tb.f1, val := v.ns } r) (HBQ.o.trans (by rw [hr]; rfl))))
     obtain ⟨at2, y1, f1, hu, hg⟩ := HU10.o.mark 61 HG.o HBQ.o.symm
     obtain ⟨w11, hw⟩ : ∃ w11, w11 = w10.setCell ⟨g, 1, none⟩ (.int .i64 (wrap64 (at2 + 1))) := ⟨_, rfl⟩
     rw [← hw] at hu hg
     have HC11 := J0.m (Co.Qfv HC10.o)
     have HU11 := J0.m hu
     have HR11 := J0.m (HR10.o.trans hg)
     have HX11 := J0.m (Qas hg HX10.o NB3.o)
     have HY11 := J0.m (Qas hg HY10.o NB2.o)
     have HW11 := J0.m hw
     clear hu hg hw
     have HCL := J0.m (Qkm w11 A c L g _ HG.o HL.o HU11.o)
     go_wp2_with fail
     rw [← HW11.o]
     refine HCL.o.mono ?_
     rintro e w12 ⟨v, nsv, rfl, hrv, hnew, hu, hg, hval⟩
     clear HCL y1 f1
     obtain ⟨Av, cv, hvv⟩ := Kd.Qcp hrv
     subst hvv
     have HC12 := J0.m (Co.call (P := fun _ => True) (g' := fun r => (Qar 59 r).bind fun _ r => .ok { P.stepOf 1 p1 ta.f1 with ty := tb.f1, val := nsv } r) HC11.o (fun ts a r h1 h2 => by rw [hval ts a r h1 h2]))
     have HU12 := J0.m hu
     have HR12 := J0.m (HR11.o.trans hg)
     have HX12 := J0.m (Qas hg HX11.o NB3.o)
     have HY12 := J0.m (Qas hg HY11.o NB2.o)
     have HNEW : J0 (∀ k, (Value.slice Av nsv.length cv).ownBlock = some k → w.heap.size ≤ k) := ⟨fun k hk => Nat.le_trans HR11.o.size (hnew k hk)⟩
     have HNG : J0 ((Value.slice Av nsv.length cv).ownBlock = some g → False) := ⟨fun hk => by have := HNEW.o g hk; have := GB2.o; have := HB2.o; have := GW.o; omega⟩
     have HN12 := J0.m hrv
     clear hu hg hval hnew hrv
     have c6_12 := (Qac HX12.o 6).trans rfl
     have f6_12 := Qaa HX12.o 6
     obtain ⟨w13, hw⟩ : ∃ w13, w13 = w12.setCell ⟨b3, 6, none⟩ (.slice Av nsv.length cv) := ⟨_, rfl⟩
     have HU13 := J0.m (show Up w13 A c L g _ from by rw [hw]; exact HU12.o.far GB3.o 6 _)
     have HR13 := J0.m (show w.grownBy w13 (some g) from by rw [hw]; exact Qau (g := g) HR12.o LB3.o 6 _)
     have HX13 := J0.m (show w13.heap[b3]? = some (.cells #[.int .i64 1, .string ta.f1, .string ⟨#[]⟩, .string ⟨#[]⟩, .string ⟨#[]⟩, .string tb.f1, .slice Av nsv.length cv, .int .i64 p1] 62 (0, 0)) from by rw [hw]; exact (Qa8 HX12.o _).trans (by rfl))
     have HY13 := J0.m (show w13.heap[b2]? = some zO8 from by rw [hw]; exact Qa2 NB23.o HY12.o _)
     have HC13 := HC12
     have HW13 := J0.m hw
     clear hw
     have HN13 := J0.m (show Kd.R kn 49 w13 g (fun _ => True) (.slice Av nsv.length cv) nsv from by rw [HW13.o]; exact Kd.R_set HN12.o HX12.o (by intro q hq; simp only [kn, Kd.iso, Kd.pair, Kd.int, Kd.string, Kd.scalar, List.append_nil, List.mem_singleton] at hq; rw [hq]; decide) 6 _)
     have HCL := J0.m (Qa4 HG.o 59 HU13.o)
     go_wp2_with fail
     rw [← HW13.o]
     refine HCL.o.mono ?_
     rintro e w14 ⟨rfl, hu, hg⟩
     clear HCL
     have HC14 := J0.m (Co.Qfv HC13.o)
     have HU14 := J0.m hu
     have HR14 := J0.m (HR13.o.trans hg)
     have HX14 := J0.m (Qas hg HX13.o NB3.o)
     have HY14 := J0.m (Qas hg HY13.o NB2.o)
     have hgz := hg
     clear hu hg
     have HN14 := J0.m (Qks HN13.o (fun k hk => hgz.block k (Kd.R_lt HN13.o k hk) (fun e => by injection e with e; subst e; exact HNG.o hk)))
     obtain ⟨c0_14, c1_14, c2_14, c3_14, c4_14, c5_14, c6_14, c7_14⟩ := box8 HX14.o
     obtain ⟨y0, y1, y2, y3, y4, y5, y6, y7⟩ := box8 HY14.o
     obtain ⟨g0, g1, g2, g3, g4, g5, g6, g7⟩ := Qf5 HY14.o
     go_wp2
     refine bodyPost_ret (Qbm rfl _ _ b2 62 #[.int .i64 1, .string ta.f1, .string ⟨#[]⟩, .string ⟨#[]⟩, .string ⟨#[]⟩, .string tb.f1, .slice Av nsv.length cv, .int .i64 p1] (0, 0) _ rfl (set8 HY14.o) Try.underlying62 rfl (by kernel_rfl)) rfl ?_
     refine ⟨⟨1, ta.f1, ⟨#[]⟩, ⟨#[]⟩, ⟨#[]⟩, tb.f1, ⟨Av, nsv.length, cv⟩, p1⟩, nsv, rfl, rn8 HN14.o HY14.o, HNEW.o, ?_, Qeh HR14.o LB2.o, fun ts d r h1 h2 => ?_⟩
     ·rw [← HFE.o _ (Co.Qej HC14.o)]
      exact up8 HU14.o GB2.o
     ·have := Co.val HC14.o HF0.o ts d r h1 h2
      subst this
      exact ⟨rfl, rfl, rfl, rfl, rfl, rfl, rfl, rfl⟩
    | false =>
     have HC10 := J0.m (HC10.o.to (k' := fun r => (Qar 59 r).bind fun _ r => .ok { P.stepOf 1 p1 ta.f1 with ty := tb.f1 } r) (fun r hr => Qn4 (HBQ.o.trans (by rw [hr]; rfl))))
     have HCL := J0.m (Qa4 HG.o 59 HU10.o)
     go_wp2_with fail
     refine HCL.o.mono ?_
     rintro e w11 ⟨rfl, hu, hg⟩
     clear HCL
     have HC11 := J0.m (Co.Qfv HC10.o)
     have HU11 := J0.m hu
     have HR11 := J0.m (HR10.o.trans hg)
     have HX11 := J0.m (Qas hg HX10.o NB3.o)
     have HY11 := J0.m (Qas hg HY10.o NB2.o)
     have hgz := hg
     clear hu hg
     obtain ⟨c0_11, c1_11, c2_11, c3_11, c4_11, c5_11, c6_11, c7_11⟩ := box8 HX11.o
     obtain ⟨y0, y1, y2, y3, y4, y5, y6, y7⟩ := box8 HY11.o
     obtain ⟨g0, g1, g2, g3, g4, g5, g6, g7⟩ := Qf5 HY11.o
     go_wp2
     refine bodyPost_ret (Qbm rfl _ _ b2 62 #[.int .i64 1, .string ta.f1, .string ⟨#[]⟩, .string ⟨#[]⟩, .string ⟨#[]⟩, .string tb.f1, .slice none 0 0, .int .i64 p1] (0, 0) _ rfl (set8 HY11.o) Try.underlying62 rfl (by kernel_rfl)) rfl ?_
     refine ⟨⟨1, ta.f1, ⟨#[]⟩, ⟨#[]⟩, ⟨#[]⟩, tb.f1, ⟨none, 0, 0⟩, p1⟩, [], rfl, Kd.Qdd _ _ _ _ _, (fun k hk => by simp [Sl.v, Value.ownBlock] at hk), ?_, Qeh HR11.o LB2.o, fun ts d r h1 h2 => ?_⟩
     ·rw [← HFE.o _ (Co.Qej HC11.o)]
      exact up8 HU11.o GB2.o
     ·have := Co.val HC11.o HF0.o ts d r h1 h2
      subst this
      exact ⟨rfl, rfl, rfl, rfl, rfl, rfl, rfl, rfl⟩
   ·obtain ⟨ts, rfl⟩ : ∃ ts, s = .ok ts := by
     cases s with
     | ok ts => exact ⟨ts, rfl⟩
     | bad e p => exact absurd (HKB.o e p rfl) (by decide)
    have HX3 : J0 (wr.heap[b3]? = some (.cells #[.int .i64 2, .string ⟨#[]⟩, .string ⟨#[]⟩, .string ⟨#[]⟩, .string ⟨#[]⟩, .string ⟨#[]⟩, .slice none 0 0, .int .i64 p1] 62 (0, 0))) := HX3
    have HKS : J0 (P.stK ts = 2) := ⟨HKK.o ts rfl⟩
    have hst : ((US.ok ts).step fun ts => P.want (decide (0 < P.stK ts)) ts) = .ok ts.tail := by
     unfold US.step P.want; simp only [HKS.o]; rfl
    have c0 := (Qac HX3.o 0).trans rfl
    have HC3 := J0.m (Co.step0 (HF0.o.to (fun r hr => Qde (k := 2) (p := p1) (by cases hr; exact HKS.o) (by rw [← HT1.o r hr]))))
    obtain ⟨at_, y1, f1, hu, hg⟩ := HU3.o.adv HG.o (P.Qc0 (by rw [HKS.o]; decide))
    obtain ⟨w4, hw⟩ : ∃ w4, w4 = wr.setCell ⟨g, 1, none⟩ (.int .i64 (wrap64 (at_ + 1))) := ⟨_, rfl⟩
    rw [← hw, ← hst] at hu
    rw [← hw] at hg
    have HU4 := J0.m hu
    have HC4 := HC3
    have HR4 := J0.m (HR3.o.trans hg)
    have HX4 := J0.m (Qas hg HX3.o NB3.o)
    have HY4 := J0.m (Qas hg HY3.o NB2.o)
    have HW4 := J0.m hw
    clear hu hg hw hst
    have HCL := J0.m (Qbf HG.o HU4.o)
    go_wp2_with fail
    rw [← HW4.o]
    refine HCL.o.mono ?_
    rintro e w5 ⟨⟨ta, hfr, rfl⟩, hu, hg⟩
    clear HCL c0 y1 f1
    have HC5 := J0.m (Co.Qgm HC4.o hfr)
    have HU5 := J0.m hu
    have HR5 := J0.m (HR4.o.trans hg)
    have HX5 := J0.m (Qas hg HX4.o NB3.o)
    have HY5 := J0.m (Qas hg HY4.o NB2.o)
    clear hu hg hfr
    have c0_5 := (Qac HX5.o 0).trans rfl
    have f0_5 := Qaa HX5.o 0
    have c1_5 := (Qac HX5.o 1).trans rfl
    have f1_5 := Qaa HX5.o 1
    obtain ⟨w6, hw⟩ : ∃ w6, w6 = w5.setCell ⟨b3, 1, none⟩ (.string ta.f1) := ⟨_, rfl⟩
    have HU6 := J0.m (show Up w6 A c L g _ from by rw [hw]; exact HU5.o.far GB3.o 1 _)
    have HR6 := J0.m (show w.grownBy w6 (some g) from by rw [hw]; exact Qau (g := g) HR5.o LB3.o 1 _)
    have HX6 := J0.m (show w6.heap[b3]? = some (.cells #[.int .i64 2, .string ta.f1, .string ⟨#[]⟩, .string ⟨#[]⟩, .string ⟨#[]⟩, .string ⟨#[]⟩, .slice none 0 0, .int .i64 p1] 62 (0, 0)) from by rw [hw]; exact (Qa8 HX5.o _).trans (by rfl))
    have HY6 := J0.m (show w6.heap[b2]? = some zO8 from by rw [hw]; exact Qa2 NB23.o HY5.o _)
    have HC6 := HC5
    have HW6 := J0.m hw
    clear hw
    have HC6 := J0.m (HC6.o.to (fun r _ => tail2 _ _ r))
    have HCL := J0.m (Qb1 HG.o P.sTo HU6.o)
    go_wp2_with fail
    rw [← HW6.o]
    refine HCL.o.mono ?_
    rintro e w7 ⟨rfl, hu, hg⟩
    clear HCL
    have HC7 := J0.m (Co.Qmb HC6.o)
    have HU7 := J0.m hu
    have HR7 := J0.m (HR6.o.trans hg)
    have HX7 := J0.m (Qas hg HX6.o NB3.o)
    have HY7 := J0.m (Qas hg HY6.o NB2.o)
    clear hu hg
    have HCL := J0.m (Qbf HG.o HU7.o)
    go_wp2_with fail
    refine HCL.o.mono ?_
    rintro e w8 ⟨⟨tb, hfr, rfl⟩, hu, hg⟩
    clear HCL
    have HC8 := J0.m (Co.Qgm HC7.o hfr)
    have HU8 := J0.m hu
    have HR8 := J0.m (HR7.o.trans hg)
    have HX8 := J0.m (Qas hg HX7.o NB3.o)
    have HY8 := J0.m (Qas hg HY7.o NB2.o)
    clear hu hg hfr
    have c2_8 := (Qac HX8.o 2).trans rfl
    have f2_8 := Qaa HX8.o 2
    obtain ⟨w9, hw⟩ : ∃ w9, w9 = w8.setCell ⟨b3, 2, none⟩ (.string tb.f1) := ⟨_, rfl⟩
    have HU9 := J0.m (show Up w9 A c L g _ from by rw [hw]; exact HU8.o.far GB3.o 2 _)
    have HR9 := J0.m (show w.grownBy w9 (some g) from by rw [hw]; exact Qau (g := g) HR8.o LB3.o 2 _)
    have HX9 := J0.m (show w9.heap[b3]? = some (.cells #[.int .i64 2, .string ta.f1, .string tb.f1, .string ⟨#[]⟩, .string ⟨#[]⟩, .string ⟨#[]⟩, .slice none 0 0, .int .i64 p1] 62 (0, 0)) from by rw [hw]; exact (Qa8 HX8.o _).trans (by rfl))
    have HY9 := J0.m (show w9.heap[b2]? = some zO8 from by rw [hw]; exact Qa2 NB23.o HY8.o _)
    have HC9 := HC8
    have HW9 := J0.m hw
    clear hw
    have HCL := J0.m (Qa4 HG.o 59 HU9.o)
    go_wp2_with fail
    rw [← HW9.o]
    refine HCL.o.mono ?_
    rintro e w10 ⟨rfl, hu, hg⟩
    clear HCL
    have HC10 := J0.m (Co.Qfv HC9.o)
    have HU10 := J0.m hu
    have HR10 := J0.m (HR9.o.trans hg)
    have HX10 := J0.m (Qas hg HX9.o NB3.o)
    have HY10 := J0.m (Qas hg HY9.o NB2.o)
    have hgz := hg
    clear hu hg
    obtain ⟨c0_10, c1_10, c2_10, c3_10, c4_10, c5_10, c6_10, c7_10⟩ := box8 HX10.o
    obtain ⟨y0, y1, y2, y3, y4, y5, y6, y7⟩ := box8 HY10.o
    obtain ⟨g0, g1, g2, g3, g4, g5, g6, g7⟩ := Qf5 HY10.o
    go_wp2
    refine bodyPost_ret (Qbm rfl _ _ b2 62 #[.int .i64 2, .string ta.f1, .string tb.f1, .string ⟨#[]⟩, .string ⟨#[]⟩, .string ⟨#[]⟩, .slice none 0 0, .int .i64 p1] (0, 0) _ rfl (set8 HY10.o) Try.underlying62 rfl (by kernel_rfl)) rfl ?_
    refine ⟨⟨2, ta.f1, tb.f1, ⟨#[]⟩, ⟨#[]⟩, ⟨#[]⟩, ⟨none, 0, 0⟩, p1⟩, [], rfl, Kd.Qdd _ _ _ _ _, (fun k hk => by simp [Sl.v, Value.ownBlock] at hk), ?_, Qeh HR10.o LB2.o, fun ts d r h1 h2 => ?_⟩
    ·rw [← HFE.o _ (Co.Qej HC10.o)]
     exact up8 HU10.o GB2.o
    ·have := Co.val HC10.o HF0.o ts d r h1 h2
     subst this
     exact ⟨rfl, rfl, rfl, rfl, rfl, rfl, rfl, rfl⟩
   ·obtain ⟨ts, rfl⟩ : ∃ ts, s = .ok ts := by
     cases s with
     | ok ts => exact ⟨ts, rfl⟩
     | bad e p => exact absurd (HKB.o e p rfl) (by decide)
    have HX3 : J0 (wr.heap[b3]? = some (.cells #[.int .i64 3, .string ⟨#[]⟩, .string ⟨#[]⟩, .string ⟨#[]⟩, .string ⟨#[]⟩, .string ⟨#[]⟩, .slice none 0 0, .int .i64 p1] 62 (0, 0))) := HX3
    have HKS : J0 (P.stK ts = 3) := ⟨HKK.o ts rfl⟩
    have hst : ((US.ok ts).step fun ts => P.want (decide (0 < P.stK ts)) ts) = .ok ts.tail := by
     unfold US.step P.want; simp only [HKS.o]; rfl
    have c0 := (Qac HX3.o 0).trans rfl
    have HC3 := J0.m (Co.step0 (HF0.o.to (fun r hr => Qde (k := 3) (p := p1) (by cases hr; exact HKS.o) (by rw [← HT1.o r hr]))))
    obtain ⟨at_, y1, f1, hu, hg⟩ := HU3.o.adv HG.o (P.Qc0 (by rw [HKS.o]; decide))
    obtain ⟨w4, hw⟩ : ∃ w4, w4 = wr.setCell ⟨g, 1, none⟩ (.int .i64 (wrap64 (at_ + 1))) := ⟨_, rfl⟩
    rw [← hw, ← hst] at hu
    rw [← hw] at hg
    have HU4 := J0.m hu
    have HC4 := HC3
    have HR4 := J0.m (HR3.o.trans hg)
    have HX4 := J0.m (Qas hg HX3.o NB3.o)
    have HY4 := J0.m (Qas hg HY3.o NB2.o)
    have HW4 := J0.m hw
    clear hu hg hw hst
    have HCL := J0.m (Qbf HG.o HU4.o)
    go_wp2_with fail
    rw [← HW4.o]
    refine HCL.o.mono ?_
    rintro e w5 ⟨⟨ta, hfr, rfl⟩, hu, hg⟩
    clear HCL c0 y1 f1
    have HC5 := J0.m (Co.Qgm HC4.o hfr)
    have HU5 := J0.m hu
    have HR5 := J0.m (HR4.o.trans hg)
    have HX5 := J0.m (Qas hg HX4.o NB3.o)
    have HY5 := J0.m (Qas hg HY4.o NB2.o)
    clear hu hg hfr
    have c0_5 := (Qac HX5.o 0).trans rfl
    have f0_5 := Qaa HX5.o 0
    have c1_5 := (Qac HX5.o 1).trans rfl
    have f1_5 := Qaa HX5.o 1
    obtain ⟨w6, hw⟩ : ∃ w6, w6 = w5.setCell ⟨b3, 1, none⟩ (.string ta.f1) := ⟨_, rfl⟩
    have HU6 := J0.m (show Up w6 A c L g _ from by rw [hw]; exact HU5.o.far GB3.o 1 _)
    have HR6 := J0.m (show w.grownBy w6 (some g) from by rw [hw]; exact Qau (g := g) HR5.o LB3.o 1 _)
    have HX6 := J0.m (show w6.heap[b3]? = some (.cells #[.int .i64 3, .string ta.f1, .string ⟨#[]⟩, .string ⟨#[]⟩, .string ⟨#[]⟩, .string ⟨#[]⟩, .slice none 0 0, .int .i64 p1] 62 (0, 0)) from by rw [hw]; exact (Qa8 HX5.o _).trans (by rfl))
    have HY6 := J0.m (show w6.heap[b2]? = some zO8 from by rw [hw]; exact Qa2 NB23.o HY5.o _)
    have HC6 := HC5
    have HW6 := J0.m hw
    clear hw
    have HC6 := J0.m (HC6.o.to (fun r _ => tail3 _ _ r))
    have HCL := J0.m (Qb1 HG.o P.sAt HU6.o)
    go_wp2_with fail
    rw [← HW6.o]
    refine HCL.o.mono ?_
    rintro e w7 ⟨rfl, hu, hg⟩
    clear HCL
    have HC7 := J0.m (Co.Qmb HC6.o)
    have HU7 := J0.m hu
    have HR7 := J0.m (HR6.o.trans hg)
    have HX7 := J0.m (Qas hg HX6.o NB3.o)
    have HY7 := J0.m (Qas hg HY6.o NB2.o)
    clear hu hg
    have HCL := J0.m (Qeo HG.o HU7.o)
    go_wp2_with fail
    refine HCL.o.mono ?_
    rintro e w8 ⟨⟨tx, hfr, rfl⟩, hu, hg⟩
    clear HCL
    have HC8 := J0.m (Co.textw HC7.o hfr)
    have HU8 := J0.m hu
    have HR8 := J0.m (HR7.o.trans hg)
    have HX8 := J0.m (Qas hg HX7.o NB3.o)
    have HY8 := J0.m (Qas hg HY7.o NB2.o)
    clear hu hg hfr
    have c4_8 := (Qac HX8.o 4).trans rfl
    have f4_8 := Qaa HX8.o 4
    obtain ⟨w9, hw⟩ : ∃ w9, w9 = w8.setCell ⟨b3, 4, none⟩ (.string tx.f1) := ⟨_, rfl⟩
    have HU9 := J0.m (show Up w9 A c L g _ from by rw [hw]; exact HU8.o.far GB3.o 4 _)
    have HR9 := J0.m (show w.grownBy w9 (some g) from by rw [hw]; exact Qau (g := g) HR8.o LB3.o 4 _)
    have HX9 := J0.m (show w9.heap[b3]? = some (.cells #[.int .i64 3, .string ta.f1, .string ⟨#[]⟩, .string ⟨#[]⟩, .string tx.f1, .string ⟨#[]⟩, .slice none 0 0, .int .i64 p1] 62 (0, 0)) from by rw [hw]; exact (Qa8 HX8.o _).trans (by rfl))
    have HY9 := J0.m (show w9.heap[b2]? = some zO8 from by rw [hw]; exact Qa2 NB23.o HY8.o _)
    have HC9 := HC8
    have HW9 := J0.m hw
    clear hw
    have HCL := J0.m (Qb1 HG.o P.Qjp HU9.o)
    go_wp2_with fail
    rw [← HW9.o]
    refine HCL.o.mono ?_
    rintro e w10 ⟨rfl, hu, hg⟩
    clear HCL
    have HC10 := J0.m (Co.Qmb HC9.o)
    have HU10 := J0.m hu
    have HR10 := J0.m (HR9.o.trans hg)
    have HX10 := J0.m (Qas hg HX9.o NB3.o)
    have HY10 := J0.m (Qas hg HY9.o NB2.o)
    clear hu hg
    have HCL := J0.m (Qbf HG.o HU10.o)
    go_wp2_with fail
    refine HCL.o.mono ?_
    rintro e w11 ⟨⟨tb, hfr, rfl⟩, hu, hg⟩
    clear HCL
    have HC11 := J0.m (Co.Qgm HC10.o hfr)
    have HU11 := J0.m hu
    have HR11 := J0.m (HR10.o.trans hg)
    have HX11 := J0.m (Qas hg HX10.o NB3.o)
    have HY11 := J0.m (Qas hg HY10.o NB2.o)
    clear hu hg hfr
    have c2_11 := (Qac HX11.o 2).trans rfl
    have f2_11 := Qaa HX11.o 2
    obtain ⟨w12, hw⟩ : ∃ w12, w12 = w11.setCell ⟨b3, 2, none⟩ (.string tb.f1) := ⟨_, rfl⟩
    have HU12 := J0.m (show Up w12 A c L g _ from by rw [hw]; exact HU11.o.far GB3.o 2 _)
    have HR12 := J0.m (show w.grownBy w12 (some g) from by rw [hw]; exact Qau (g := g) HR11.o LB3.o 2 _)
    have HX12 := J0.m (show w12.heap[b3]? = some (.cells #[.int .i64 3, .string ta.f1, .string tb.f1, .string ⟨#[]⟩, .string tx.f1, .string ⟨#[]⟩, .slice none 0 0, .int .i64 p1] 62 (0, 0)) from by rw [hw]; exact (Qa8 HX11.o _).trans (by rfl))
    have HY12 := J0.m (show w12.heap[b2]? = some zO8 from by rw [hw]; exact Qa2 NB23.o HY11.o _)
    have HC12 := HC11
    have HW12 := J0.m hw
    clear hw
    have HCL := J0.m (Qa4 HG.o 44 HU12.o)
    go_wp2_with fail
    rw [← HW12.o]
    refine HCL.o.mono ?_
    rintro e w13 ⟨rfl, hu, hg⟩
    clear HCL
    have HC13 := J0.m (Co.Qfv HC12.o)
    have HU13 := J0.m hu
    have HR13 := J0.m (HR12.o.trans hg)
    have HX13 := J0.m (Qas hg HX12.o NB3.o)
    have HY13 := J0.m (Qas hg HY12.o NB2.o)
    clear hu hg
    have HCL := J0.m (Qbf HG.o HU13.o)
    go_wp2_with fail
    refine HCL.o.mono ?_
    rintro e w14 ⟨⟨tc, hfr, rfl⟩, hu, hg⟩
    clear HCL
    have HC14 := J0.m (Co.Qgm HC13.o hfr)
    have HU14 := J0.m hu
    have HR14 := J0.m (HR13.o.trans hg)
    have HX14 := J0.m (Qas hg HX13.o NB3.o)
    have HY14 := J0.m (Qas hg HY13.o NB2.o)
    clear hu hg hfr
    have c3_14 := (Qac HX14.o 3).trans rfl
    have f3_14 := Qaa HX14.o 3
    obtain ⟨w15, hw⟩ : ∃ w15, w15 = w14.setCell ⟨b3, 3, none⟩ (.string tc.f1) := ⟨_, rfl⟩
    have HU15 := J0.m (show Up w15 A c L g _ from by rw [hw]; exact HU14.o.far GB3.o 3 _)
    have HR15 := J0.m (show w.grownBy w15 (some g) from by rw [hw]; exact Qau (g := g) HR14.o LB3.o 3 _)
    have HX15 := J0.m (show w15.heap[b3]? = some (.cells #[.int .i64 3, .string ta.f1, .string tb.f1, .string tc.f1, .string tx.f1, .string ⟨#[]⟩, .slice none 0 0, .int .i64 p1] 62 (0, 0)) from by rw [hw]; exact (Qa8 HX14.o _).trans (by rfl))
    have HY15 := J0.m (show w15.heap[b2]? = some zO8 from by rw [hw]; exact Qa2 NB23.o HY14.o _)
    have HC15 := HC14
    have HW15 := J0.m hw
    clear hw
    have HCL := J0.m (Qa4 HG.o 59 HU15.o)
    go_wp2_with fail
    rw [← HW15.o]
    refine HCL.o.mono ?_
    rintro e w16 ⟨rfl, hu, hg⟩
    clear HCL
    have HC16 := J0.m (Co.Qfv HC15.o)
    have HU16 := J0.m hu
    have HR16 := J0.m (HR15.o.trans hg)
    have HX16 := J0.m (Qas hg HX15.o NB3.o)
    have HY16 := J0.m (Qas hg HY15.o NB2.o)
    have hgz := hg
    clear hu hg
    obtain ⟨c0_16, c1_16, c2_16, c3_16, c4_16, c5_16, c6_16, c7_16⟩ := box8 HX16.o
    obtain ⟨y0, y1, y2, y3, y4, y5, y6, y7⟩ := box8 HY16.o
    obtain ⟨g0, g1, g2, g3, g4, g5, g6, g7⟩ := Qf5 HY16.o
    go_wp2
    refine bodyPost_ret (Qbm rfl _ _ b2 62 #[.int .i64 3, .string ta.f1, .string tb.f1, .string tc.f1, .string tx.f1, .string ⟨#[]⟩, .slice none 0 0, .int .i64 p1] (0, 0) _ rfl (set8 HY16.o) Try.underlying62 rfl (by kernel_rfl)) rfl ?_
    refine ⟨⟨3, ta.f1, tb.f1, tc.f1, tx.f1, ⟨#[]⟩, ⟨none, 0, 0⟩, p1⟩, [], rfl, Kd.Qdd _ _ _ _ _, (fun k hk => by simp [Sl.v, Value.ownBlock] at hk), ?_, Qeh HR16.o LB2.o, fun ts d r h1 h2 => ?_⟩
    ·rw [← HFE.o _ (Co.Qej HC16.o)]
     exact up8 HU16.o GB2.o
    ·have := Co.val HC16.o HF0.o ts d r h1 h2
     subst this
     exact ⟨rfl, rfl, rfl, rfl, rfl, rfl, rfl, rfl⟩
   ·obtain ⟨ts, rfl⟩ : ∃ ts, s = .ok ts := by
     cases s with
     | ok ts => exact ⟨ts, rfl⟩
     | bad e p => exact absurd (HKB.o e p rfl) (by decide)
    have HX3 : J0 (wr.heap[b3]? = some (.cells #[.int .i64 4, .string ⟨#[]⟩, .string ⟨#[]⟩, .string ⟨#[]⟩, .string ⟨#[]⟩, .string ⟨#[]⟩, .slice none 0 0, .int .i64 p1] 62 (0, 0))) := HX3
    have HKS : J0 (P.stK ts = 4) := ⟨HKK.o ts rfl⟩
    have hst : ((US.ok ts).step fun ts => P.want (decide (0 < P.stK ts)) ts) = .ok ts.tail := by
     unfold US.step P.want; simp only [HKS.o]; rfl
    have c0 := (Qac HX3.o 0).trans rfl
    have HC3 := J0.m (Co.step0 (HF0.o.to (fun r hr => Qde (k := 4) (p := p1) (by cases hr; exact HKS.o) (by rw [← HT1.o r hr]))))
    obtain ⟨at_, y1, f1, hu, hg⟩ := HU3.o.adv HG.o (P.Qc0 (by rw [HKS.o]; decide))
    obtain ⟨w4, hw⟩ : ∃ w4, w4 = wr.setCell ⟨g, 1, none⟩ (.int .i64 (wrap64 (at_ + 1))) := ⟨_, rfl⟩
    rw [← hw, ← hst] at hu
    rw [← hw] at hg
    have HU4 := J0.m hu
    have HC4 := HC3
    have HR4 := J0.m (HR3.o.trans hg)
    have HX4 := J0.m (Qas hg HX3.o NB3.o)
    have HY4 := J0.m (Qas hg HY3.o NB2.o)
    have HW4 := J0.m hw
    clear hu hg hw hst
    have HCL := J0.m (Qbf HG.o HU4.o)
    go_wp2_with fail
    rw [← HW4.o]
    refine HCL.o.mono ?_
    rintro e w5 ⟨⟨ta, hfr, rfl⟩, hu, hg⟩
    clear HCL c0 y1 f1
    have HC5 := J0.m (Co.Qgm HC4.o hfr)
    have HU5 := J0.m hu
    have HR5 := J0.m (HR4.o.trans hg)
    have HX5 := J0.m (Qas hg HX4.o NB3.o)
    have HY5 := J0.m (Qas hg HY4.o NB2.o)
    clear hu hg hfr
    have c0_5 := (Qac HX5.o 0).trans rfl
    have f0_5 := Qaa HX5.o 0
    have c1_5 := (Qac HX5.o 1).trans rfl
    have f1_5 := Qaa HX5.o 1
    obtain ⟨w6, hw⟩ : ∃ w6, w6 = w5.setCell ⟨b3, 1, none⟩ (.string ta.f1) := ⟨_, rfl⟩
    have HU6 := J0.m (show Up w6 A c L g _ from by rw [hw]; exact HU5.o.far GB3.o 1 _)
    have HR6 := J0.m (show w.grownBy w6 (some g) from by rw [hw]; exact Qau (g := g) HR5.o LB3.o 1 _)
    have HX6 := J0.m (show w6.heap[b3]? = some (.cells #[.int .i64 4, .string ta.f1, .string ⟨#[]⟩, .string ⟨#[]⟩, .string ⟨#[]⟩, .string ⟨#[]⟩, .slice none 0 0, .int .i64 p1] 62 (0, 0)) from by rw [hw]; exact (Qa8 HX5.o _).trans (by rfl))
    have HY6 := J0.m (show w6.heap[b2]? = some zO8 from by rw [hw]; exact Qa2 NB23.o HY5.o _)
    have HC6 := HC5
    have HW6 := J0.m hw
    clear hw
    have HC6 := J0.m (HC6.o.to (fun r _ => tail4 _ _ r))
    have HCL := J0.m (Qa4 HG.o 44 HU6.o)
    go_wp2_with fail
    rw [← HW6.o]
    refine HCL.o.mono ?_
    rintro e w7 ⟨rfl, hu, hg⟩
    clear HCL
    have HC7 := J0.m (Co.Qfv HC6.o)
    have HU7 := J0.m hu
    have HR7 := J0.m (HR6.o.trans hg)
    have HX7 := J0.m (Qas hg HX6.o NB3.o)
    have HY7 := J0.m (Qas hg HY6.o NB2.o)
    clear hu hg
    have HCL := J0.m (Qbf HG.o HU7.o)
    go_wp2_with fail
    refine HCL.o.mono ?_
    rintro e w8 ⟨⟨tb, hfr, rfl⟩, hu, hg⟩
    clear HCL
    have HC8 := J0.m (Co.Qgm HC7.o hfr)
    have HU8 := J0.m hu
    have HR8 := J0.m (HR7.o.trans hg)
    have HX8 := J0.m (Qas hg HX7.o NB3.o)
    have HY8 := J0.m (Qas hg HY7.o NB2.o)
    clear hu hg hfr
    have c2_8 := (Qac HX8.o 2).trans rfl
    have f2_8 := Qaa HX8.o 2
    obtain ⟨w9, hw⟩ : ∃ w9, w9 = w8.setCell ⟨b3, 2, none⟩ (.string tb.f1) := ⟨_, rfl⟩
    have HU9 := J0.m (show Up w9 A c L g _ from by rw [hw]; exact HU8.o.far GB3.o 2 _)
    have HR9 := J0.m (show w.grownBy w9 (some g) from by rw [hw]; exact Qau (g := g) HR8.o LB3.o 2 _)
    have HX9 := J0.m (show w9.heap[b3]? = some (.cells #[.int .i64 4, .string ta.f1, .string tb.f1, .string ⟨#[]⟩, .string ⟨#[]⟩, .string ⟨#[]⟩, .slice none 0 0, .int .i64 p1] 62 (0, 0)) from by rw [hw]; exact (Qa8 HX8.o _).trans (by rfl))
    have HY9 := J0.m (show w9.heap[b2]? = some zO8 from by rw [hw]; exact Qa2 NB23.o HY8.o _)
    have HC9 := HC8
    have HW9 := J0.m hw
    clear hw
    have HCL := J0.m (Qb1 HG.o P.Qov HU9.o)
    go_wp2_with fail
    rw [← HW9.o]
    refine HCL.o.mono ?_
    rintro e w10 ⟨rfl, hu, hg⟩
    clear HCL
    have HC10 := J0.m (Co.Qmb HC9.o)
    have HU10 := J0.m hu
    have HR10 := J0.m (HR9.o.trans hg)
    have HX10 := J0.m (Qas hg HX9.o NB3.o)
    have HY10 := J0.m (Qas hg HY9.o NB2.o)
    clear hu hg
    have HCL := J0.m (Qeo HG.o HU10.o)
    go_wp2_with fail
    refine HCL.o.mono ?_
    rintro e w11 ⟨⟨tx, hfr, rfl⟩, hu, hg⟩
    clear HCL
    have HC11 := J0.m (Co.textw HC10.o hfr)
    have HU11 := J0.m hu
    have HR11 := J0.m (HR10.o.trans hg)
    have HX11 := J0.m (Qas hg HX10.o NB3.o)
    have HY11 := J0.m (Qas hg HY10.o NB2.o)
    clear hu hg hfr
    have c4_11 := (Qac HX11.o 4).trans rfl
    have f4_11 := Qaa HX11.o 4
    obtain ⟨w12, hw⟩ : ∃ w12, w12 = w11.setCell ⟨b3, 4, none⟩ (.string tx.f1) := ⟨_, rfl⟩
    have HU12 := J0.m (show Up w12 A c L g _ from by rw [hw]; exact HU11.o.far GB3.o 4 _)
    have HR12 := J0.m (show w.grownBy w12 (some g) from by rw [hw]; exact Qau (g := g) HR11.o LB3.o 4 _)
    have HX12 := J0.m (show w12.heap[b3]? = some (.cells #[.int .i64 4, .string ta.f1, .string tb.f1, .string ⟨#[]⟩, .string tx.f1, .string ⟨#[]⟩, .slice none 0 0, .int .i64 p1] 62 (0, 0)) from by rw [hw]; exact (Qa8 HX11.o _).trans (by rfl))
    have HY12 := J0.m (show w12.heap[b2]? = some zO8 from by rw [hw]; exact Qa2 NB23.o HY11.o _)
    have HC12 := HC11
    have HW12 := J0.m hw
    clear hw
    have HCL := J0.m (Qb1 HG.o P.Qjp HU12.o)
    go_wp2_with fail
    rw [← HW12.o]
    refine HCL.o.mono ?_
    rintro e w13 ⟨rfl, hu, hg⟩
    clear HCL
    have HC13 := J0.m (Co.Qmb HC12.o)
    have HU13 := J0.m hu
    have HR13 := J0.m (HR12.o.trans hg)
    have HX13 := J0.m (Qas hg HX12.o NB3.o)
    have HY13 := J0.m (Qas hg HY12.o NB2.o)
    clear hu hg
    have HCL := J0.m (Qbf HG.o HU13.o)
    go_wp2_with fail
    refine HCL.o.mono ?_
    rintro e w14 ⟨⟨tc, hfr, rfl⟩, hu, hg⟩
    clear HCL
    have HC14 := J0.m (Co.Qgm HC13.o hfr)
    have HU14 := J0.m hu
    have HR14 := J0.m (HR13.o.trans hg)
    have HX14 := J0.m (Qas hg HX13.o NB3.o)
    have HY14 := J0.m (Qas hg HY13.o NB2.o)
    clear hu hg hfr
    have c3_14 := (Qac HX14.o 3).trans rfl
    have f3_14 := Qaa HX14.o 3
    obtain ⟨w15, hw⟩ : ∃ w15, w15 = w14.setCell ⟨b3, 3, none⟩ (.string tc.f1) := ⟨_, rfl⟩
    have HU15 := J0.m (show Up w15 A c L g _ from by rw [hw]; exact HU14.o.far GB3.o 3 _)
    have HR15 := J0.m (show w.grownBy w15 (some g) from by rw [hw]; exact Qau (g := g) HR14.o LB3.o 3 _)
    have HX15 := J0.m (show w15.heap[b3]? = some (.cells #[.int .i64 4, .string ta.f1, .string tb.f1, .string tc.f1, .string tx.f1, .string ⟨#[]⟩, .slice none 0 0, .int .i64 p1] 62 (0, 0)) from by rw [hw]; exact (Qa8 HX14.o _).trans (by rfl))
    have HY15 := J0.m (show w15.heap[b2]? = some zO8 from by rw [hw]; exact Qa2 NB23.o HY14.o _)
    have HC15 := HC14
    have HW15 := J0.m hw
    clear hw
    have HCL := J0.m (Qa4 HG.o 59 HU15.o)
    go_wp2_with fail
    rw [← HW15.o]
    refine HCL.o.mono ?_
    rintro e w16 ⟨rfl, hu, hg⟩
    clear HCL
    have HC16 := J0.m (Co.Qfv HC15.o)
    have HU16 := J0.m hu
    have HR16 := J0.m (HR15.o.trans hg)
    have HX16 := J0.m (Qas hg HX15.o NB3.o)
    have HY16 := J0.m (Qas hg HY15.o NB2.o)
    have hgz := hg
    clear hu hg
    obtain ⟨c0_16, c1_16, c2_16, c3_16, c4_16, c5_16, c6_16, c7_16⟩ := box8 HX16.o
    obtain ⟨y0, y1, y2, y3, y4, y5, y6, y7⟩ := box8 HY16.o
    obtain ⟨g0, g1, g2, g3, g4, g5, g6, g7⟩ := Qf5 HY16.o
    go_wp2
    refine bodyPost_ret (Qbm rfl _ _ b2 62 #[.int .i64 4, .string ta.f1, .string tb.f1, .string tc.f1, .string tx.f1, .string ⟨#[]⟩, .slice none 0 0, .int .i64 p1] (0, 0) _ rfl (set8 HY16.o) Try.underlying62 rfl (by kernel_rfl)) rfl ?_
    refine ⟨⟨4, ta.f1, tb.f1, tc.f1, tx.f1, ⟨#[]⟩, ⟨none, 0, 0⟩, p1⟩, [], rfl, Kd.Qdd _ _ _ _ _, (fun k hk => by simp [Sl.v, Value.ownBlock] at hk), ?_, Qeh HR16.o LB2.o, fun ts d r h1 h2 => ?_⟩
    ·rw [← HFE.o _ (Co.Qej HC16.o)]
     exact up8 HU16.o GB2.o
    ·have := Co.val HC16.o HF0.o ts d r h1 h2
     subst this
     exact ⟨rfl, rfl, rfl, rfl, rfl, rfl, rfl, rfl⟩
   ·obtain ⟨ts, rfl⟩ : ∃ ts, s = .ok ts := by
     cases s with
     | ok ts => exact ⟨ts, rfl⟩
     | bad e p => exact absurd (HKB.o e p rfl) (by decide)
    have HX3 : J0 (wr.heap[b3]? = some (.cells #[.int .i64 5, .string ⟨#[]⟩, .string ⟨#[]⟩, .string ⟨#[]⟩, .string ⟨#[]⟩, .string ⟨#[]⟩, .slice none 0 0, .int .i64 p1] 62 (0, 0))) := HX3
    have HKS : J0 (P.stK ts = 5) := ⟨HKK.o ts rfl⟩
    have hst : ((US.ok ts).step fun ts => P.want (decide (0 < P.stK ts)) ts) = .ok ts.tail := by
     unfold US.step P.want; simp only [HKS.o]; rfl
    have c0 := (Qac HX3.o 0).trans rfl
    have HC3 := J0.m (Co.step0 (HF0.o.to (fun r hr => Qde (k := 5) (p := p1) (by cases hr; exact HKS.o) (by rw [← HT1.o r hr]))))
    obtain ⟨at_, y1, f1, hu, hg⟩ := HU3.o.adv HG.o (P.Qc0 (by rw [HKS.o]; decide))
    obtain ⟨w4, hw⟩ : ∃ w4, w4 = wr.setCell ⟨g, 1, none⟩ (.int .i64 (wrap64 (at_ + 1))) := ⟨_, rfl⟩
    rw [← hw, ← hst] at hu
    rw [← hw] at hg
    have HU4 := J0.m hu
    have HC4 := HC3
    have HR4 := J0.m (HR3.o.trans hg)
    have HX4 := J0.m (Qas hg HX3.o NB3.o)
    have HY4 := J0.m (Qas hg HY3.o NB2.o)
    have HW4 := J0.m hw
    clear hu hg hw hst
    have HCL := J0.m (Qbf HG.o HU4.o)
    go_wp2_with fail
    rw [← HW4.o]
    refine HCL.o.mono ?_
    rintro e w5 ⟨⟨ta, hfr, rfl⟩, hu, hg⟩
    clear HCL c0 y1 f1
    have HC5 := J0.m (Co.Qgm HC4.o hfr)
    have HU5 := J0.m hu
    have HR5 := J0.m (HR4.o.trans hg)
    have HX5 := J0.m (Qas hg HX4.o NB3.o)
    have HY5 := J0.m (Qas hg HY4.o NB2.o)
    clear hu hg hfr
    have c0_5 := (Qac HX5.o 0).trans rfl
    have f0_5 := Qaa HX5.o 0
    have c1_5 := (Qac HX5.o 1).trans rfl
    have f1_5 := Qaa HX5.o 1
    obtain ⟨w6, hw⟩ : ∃ w6, w6 = w5.setCell ⟨b3, 1, none⟩ (.string ta.f1) := ⟨_, rfl⟩
    have HU6 := J0.m (show Up w6 A c L g _ from by rw [hw]; exact HU5.o.far GB3.o 1 _)
    have HR6 := J0.m (show w.grownBy w6 (some g) from by rw [hw]; exact Qau (g := g) HR5.o LB3.o 1 _)
    have HX6 := J0.m (show w6.heap[b3]? = some (.cells #[.int .i64 5, .string ta.f1, .string ⟨#[]⟩, .string ⟨#[]⟩, .string ⟨#[]⟩, .string ⟨#[]⟩, .slice none 0 0, .int .i64 p1] 62 (0, 0)) from by rw [hw]; exact (Qa8 HX5.o _).trans (by rfl))
    have HY6 := J0.m (show w6.heap[b2]? = some zO8 from by rw [hw]; exact Qa2 NB23.o HY5.o _)
    have HC6 := HC5
    have HW6 := J0.m hw
    clear hw
    have HC6 := J0.m (HC6.o.to (fun r _ => tail5 _ _ r))
    have HCL := J0.m (Qb1 HG.o P.sTo HU6.o)
    go_wp2_with fail
    rw [← HW6.o]
    refine HCL.o.mono ?_
    rintro e w7 ⟨rfl, hu, hg⟩
    clear HCL
    have HC7 := J0.m (Co.Qmb HC6.o)
    have HU7 := J0.m hu
    have HR7 := J0.m (HR6.o.trans hg)
    have HX7 := J0.m (Qas hg HX6.o NB3.o)
    have HY7 := J0.m (Qas hg HY6.o NB2.o)
    clear hu hg
    have HCL := J0.m (Qbf HG.o HU7.o)
    go_wp2_with fail
    refine HCL.o.mono ?_
    rintro e w8 ⟨⟨tb, hfr, rfl⟩, hu, hg⟩
    clear HCL
    have HC8 := J0.m (Co.Qgm HC7.o hfr)
    have HU8 := J0.m hu
    have HR8 := J0.m (HR7.o.trans hg)
    have HX8 := J0.m (Qas hg HX7.o NB3.o)
    have HY8 := J0.m (Qas hg HY7.o NB2.o)
    clear hu hg hfr
    have c5_8 := (Qac HX8.o 5).trans rfl
    have f5_8 := Qaa HX8.o 5
    obtain ⟨w9, hw⟩ : ∃ w9, w9 = w8.setCell ⟨b3, 5, none⟩ (.string tb.f1) := ⟨_, rfl⟩
    have HU9 := J0.m (show Up w9 A c L g _ from by rw [hw]; exact HU8.o.far GB3.o 5 _)
    have HR9 := J0.m (show w.grownBy w9 (some g) from by rw [hw]; exact Qau (g := g) HR8.o LB3.o 5 _)
    have HX9 := J0.m (show w9.heap[b3]? = some (.cells #[.int .i64 5, .string ta.f1, .string ⟨#[]⟩, .string ⟨#[]⟩, .string ⟨#[]⟩, .string tb.f1, .slice none 0 0, .int .i64 p1] 62 (0, 0)) from by rw [hw]; exact (Qa8 HX8.o _).trans (by rfl))
    have HY9 := J0.m (show w9.heap[b2]? = some zO8 from by rw [hw]; exact Qa2 NB23.o HY8.o _)
    have HC9 := HC8
    have HW9 := J0.m hw
    clear hw
    have HCL := J0.m (Qa4 HG.o 59 HU9.o)
    go_wp2_with fail
    rw [← HW9.o]
    refine HCL.o.mono ?_
    rintro e w10 ⟨rfl, hu, hg⟩
    clear HCL
    have HC10 := J0.m (Co.Qfv HC9.o)
    have HU10 := J0.m hu
    have HR10 := J0.m (HR9.o.trans hg)
    have HX10 := J0.m (Qas hg HX9.o NB3.o)
    have HY10 := J0.m (Qas hg HY9.o NB2.o)
    have hgz := hg
    clear hu hg
    obtain ⟨c0_10, c1_10, c2_10, c3_10, c4_10, c5_10, c6_10, c7_10⟩ := box8 HX10.o
    obtain ⟨y0, y1, y2, y3, y4, y5, y6, y7⟩ := box8 HY10.o
    obtain ⟨g0, g1, g2, g3, g4, g5, g6, g7⟩ := Qf5 HY10.o
    go_wp2
    refine bodyPost_ret (Qbm rfl _ _ b2 62 #[.int .i64 5, .string ta.f1, .string ⟨#[]⟩, .string ⟨#[]⟩, .string ⟨#[]⟩, .string tb.f1, .slice none 0 0, .int .i64 p1] (0, 0) _ rfl (set8 HY10.o) Try.underlying62 rfl (by kernel_rfl)) rfl ?_
    refine ⟨⟨5, ta.f1, ⟨#[]⟩, ⟨#[]⟩, ⟨#[]⟩, tb.f1, ⟨none, 0, 0⟩, p1⟩, [], rfl, Kd.Qdd _ _ _ _ _, (fun k hk => by simp [Sl.v, Value.ownBlock] at hk), ?_, Qeh HR10.o LB2.o, fun ts d r h1 h2 => ?_⟩
    ·rw [← HFE.o _ (Co.Qej HC10.o)]
     exact up8 HU10.o GB2.o
    ·have := Co.val HC10.o HF0.o ts d r h1 h2
     subst this
     exact ⟨rfl, rfl, rfl, rfl, rfl, rfl, rfl, rfl⟩
   ·obtain ⟨ts, rfl⟩ : ∃ ts, s = .ok ts := by
     cases s with
     | ok ts => exact ⟨ts, rfl⟩
     | bad e p => exact absurd (HKB.o e p rfl) (by decide)
    have HX3 : J0 (wr.heap[b3]? = some (.cells #[.int .i64 6, .string ⟨#[]⟩, .string ⟨#[]⟩, .string ⟨#[]⟩, .string ⟨#[]⟩, .string ⟨#[]⟩, .slice none 0 0, .int .i64 p1] 62 (0, 0))) := HX3
    have HKS : J0 (P.stK ts = 6) := ⟨HKK.o ts rfl⟩
    have hst : ((US.ok ts).step fun ts => P.want (decide (0 < P.stK ts)) ts) = .ok ts.tail := by
     unfold US.step P.want; simp only [HKS.o]; rfl
    have c0 := (Qac HX3.o 0).trans rfl
    have HC3 := J0.m (Co.step0 (HF0.o.to (fun r hr => Qde (k := 6) (p := p1) (by cases hr; exact HKS.o) (by rw [← HT1.o r hr]))))
    obtain ⟨at_, y1, f1, hu, hg⟩ := HU3.o.adv HG.o (P.Qc0 (by rw [HKS.o]; decide))
    obtain ⟨w4, hw⟩ : ∃ w4, w4 = wr.setCell ⟨g, 1, none⟩ (.int .i64 (wrap64 (at_ + 1))) := ⟨_, rfl⟩
    rw [← hw, ← hst] at hu
    rw [← hw] at hg
    have HU4 := J0.m hu
    have HC4 := HC3
    have HR4 := J0.m (HR3.o.trans hg)
    have HX4 := J0.m (Qas hg HX3.o NB3.o)
    have HY4 := J0.m (Qas hg HY3.o NB2.o)
    have HW4 := J0.m hw
    clear hu hg hw hst
    have HCL := J0.m (Qbf HG.o HU4.o)
    go_wp2_with fail
    rw [← HW4.o]
    refine HCL.o.mono ?_
    rintro e w5 ⟨⟨ta, hfr, rfl⟩, hu, hg⟩
    clear HCL c0 y1 f1
    have HC5 := J0.m (Co.Qgm HC4.o hfr)
    have HU5 := J0.m hu
    have HR5 := J0.m (HR4.o.trans hg)
    have HX5 := J0.m (Qas hg HX4.o NB3.o)
    have HY5 := J0.m (Qas hg HY4.o NB2.o)
    clear hu hg hfr
    have c0_5 := (Qac HX5.o 0).trans rfl
    have f0_5 := Qaa HX5.o 0
    have c1_5 := (Qac HX5.o 1).trans rfl
    have f1_5 := Qaa HX5.o 1
    obtain ⟨w6, hw⟩ : ∃ w6, w6 = w5.setCell ⟨b3, 1, none⟩ (.string ta.f1) := ⟨_, rfl⟩
    have HU6 := J0.m (show Up w6 A c L g _ from by rw [hw]; exact HU5.o.far GB3.o 1 _)
    have HR6 := J0.m (show w.grownBy w6 (some g) from by rw [hw]; exact Qau (g := g) HR5.o LB3.o 1 _)
    have HX6 := J0.m (show w6.heap[b3]? = some (.cells #[.int .i64 6, .string ta.f1, .string ⟨#[]⟩, .string ⟨#[]⟩, .string ⟨#[]⟩, .string ⟨#[]⟩, .slice none 0 0, .int .i64 p1] 62 (0, 0)) from by rw [hw]; exact (Qa8 HX5.o _).trans (by rfl))
    have HY6 := J0.m (show w6.heap[b2]? = some zO8 from by rw [hw]; exact Qa2 NB23.o HY5.o _)
    have HC6 := HC5
    have HW6 := J0.m hw
    clear hw
    have HC6 := J0.m (HC6.o.to (fun r _ => tail6 _ _ r))
    have HCL := J0.m (Qa4 HG.o 59 HU6.o)
    go_wp2_with fail
    rw [← HW6.o]
    refine HCL.o.mono ?_
    rintro e w7 ⟨rfl, hu, hg⟩
    clear HCL
    have HC7 := J0.m (Co.Qfv HC6.o)
    have HU7 := J0.m hu
    have HR7 := J0.m (HR6.o.trans hg)
    have HX7 := J0.m (Qas hg HX6.o NB3.o)
    have HY7 := J0.m (Qas hg HY6.o NB2.o)
    have hgz := hg
    clear hu hg
    obtain ⟨c0_7, c1_7, c2_7, c3_7, c4_7, c5_7, c6_7, c7_7⟩ := box8 HX7.o
    obtain ⟨y0, y1, y2, y3, y4, y5, y6, y7⟩ := box8 HY7.o
    obtain ⟨g0, g1, g2, g3, g4, g5, g6, g7⟩ := Qf5 HY7.o
    go_wp2
    refine bodyPost_ret (Qbm rfl _ _ b2 62 #[.int .i64 6, .string ta.f1, .string ⟨#[]⟩, .string ⟨#[]⟩, .string ⟨#[]⟩, .string ⟨#[]⟩, .slice none 0 0, .int .i64 p1] (0, 0) _ rfl (set8 HY7.o) Try.underlying62 rfl (by kernel_rfl)) rfl ?_
    refine ⟨⟨6, ta.f1, ⟨#[]⟩, ⟨#[]⟩, ⟨#[]⟩, ⟨#[]⟩, ⟨none, 0, 0⟩, p1⟩, [], rfl, Kd.Qdd _ _ _ _ _, (fun k hk => by simp [Sl.v, Value.ownBlock] at hk), ?_, Qeh HR7.o LB2.o, fun ts d r h1 h2 => ?_⟩
    ·rw [← HFE.o _ (Co.Qej HC7.o)]
     exact up8 HU7.o GB2.o
    ·have := Co.val HC7.o HF0.o ts d r h1 h2
     subst this
     exact ⟨rfl, rfl, rfl, rfl, rfl, rfl, rfl, rfl⟩
end Go.Proofs.Ytbdcndkafaajpaa.R
end
section
namespace Go.Proofs.Ytbdcndkafaajpaa.A
open Go.RowKit Ytbdcndkafaajpaa.X YtbdcndkafaajpaaW.PrintWords YtbdcndkafaajpaaW.PrintLast YtbdcndkafaajpaaW.PrintMore
open Ytbdcndkafaajpaa.P (Nd EO Res hd isT isM Qar mxl comb mk1 StD VeD EvD)
structure VeV where
 num : Int
 steps : Sl
 pl : Int
structure EvV where
 name : ByteArray
 vers : Sl
 pl : Int
def ksl : Kd Sl := Kd.scalar Sl.v (fun _ => rfl)
def kst : Kd StV := Kd.iso (Kd.pair (Kd.int .i64) (Kd.pair Kd.string (Kd.pair Kd.string (Kd.pair Kd.string (Kd.pair Kd.string (Kd.pair Kd.string (Kd.pair ksl (Kd.int .i64)))))))) (fun x : StV => (x.k, x.a, x.b, x.c, x.sep, x.ty, x.val, x.pl))
def kve : Kd VeV := Kd.iso (Kd.pair (Kd.int .u64) (Kd.pair ksl (Kd.int .i64))) (fun x : VeV => (x.num, x.steps, x.pl))
def kev : Kd EvV := Kd.iso (Kd.pair Kd.string (Kd.pair ksl (Kd.int .i64))) (fun x : EvV => (x.name, x.vers, x.pl))
def veCs (x : VeV) : List Value := [.int .u64 x.num, .slice x.steps.A x.steps.n x.steps.c, .int .i64 x.pl]
def evCs (x : EvV) : List Value := [.string x.name, .slice x.vers.A x.vers.n x.vers.c, .int .i64 x.pl]
theorem Qnp (w : World) (base : Nat) (ok : Nat → Prop) (x : StV) : kst.M w base ok x (stCs x) := ⟨[_], [_, _, _, _, _, _, _], rfl, rfl, ⟨[_], [_, _, _, _, _, _], rfl, rfl, ⟨[_], [_, _, _, _, _], rfl, rfl, ⟨[_], [_, _, _, _], rfl, rfl, ⟨[_], [_, _, _], rfl, rfl, ⟨[_], [_, _], rfl, rfl, ⟨[_], [_], rfl, rfl, rfl⟩⟩⟩⟩⟩⟩⟩
theorem Qk1 (w : World) (base : Nat) (ok : Nat → Prop) (x : VeV) : kve.M w base ok x (veCs x) := ⟨[_], [_, _], rfl, rfl, ⟨[_], [_], rfl, rfl, rfl⟩⟩
theorem Qnr (w : World) (base : Nat) (ok : Nat → Prop) (x : EvV) : kev.M w base ok x (evCs x) := ⟨[_], [_, _], rfl, rfl, ⟨[_], [_], rfl, rfl, rfl⟩⟩
def Flat {α : Type} (d : Kd α) : Prop := ∀ {w w' : World} {base base' : Nat} {ok ok' : Nat → Prop} {x : α} {cs : List Value}, d.M w base ok x cs → d.M w' base' ok' x cs
theorem Qj4 : Flat kn := fun h => h
theorem flat_s : Flat kst := fun h => h
theorem flat_v : Flat kve := fun h => h
theorem flat_e : Flat kev := fun h => h
theorem Qgs {α : Type} {d : Kd α} (hf : Flat d) {e : Nat} {w w' : World} {base base' : Nat} {ok : Nat → Prop} {v : Value} {xs : List α} (h : d.R e w base ok v xs) (hm : ∀ k, v.ownBlock = some k → w'.heap[k]? = w.heap[k]?) (hb : ∀ k, v.ownBlock = some k → base' ≤ k) : d.R e w' base' (fun _ => True) v xs := by
 obtain ⟨_, inner, ho, hr⟩ := h
 have ho' := Qlw ho hm
 refine ⟨fun _ _ => trivial, inner, ⟨ho'.1, ?_⟩, hr.imp_ (fun _ _ hp => hf hp)⟩
 rcases ho'.2 with h2 | ⟨g, cap, cur, rfl, hg, rest⟩
 ·exact .inl h2
 ·exact .inr ⟨g, cap, cur, rfl, hb g (by simp [Value.ownBlock]), rest⟩
inductive Row where
 | n (v : Sl) (xs : List Nd)
 | s (v : Sl) (xs : List StV)
 | v (v : Sl) (xs : List VeV)
 | e (v : Sl) (xs : List EvV)
def Row.sl : Row → Sl
 | .n a _ => a
 | .s a _ => a
 | .v a _ => a
 | .e a _ => a
def Row.own (r : Row) : Option Nat := r.sl.v.ownBlock
def Row.holds (w : World) (base : Nat) : Row → Prop
 | .n a xs => Kd.R kn 49 w base (fun _ => True) a.v xs
 | .s a xs => Kd.R kst 62 w base (fun _ => True) a.v xs
 | .v a xs => Kd.R kve 60 w base (fun _ => True) a.v xs
 | .e a xs => Kd.R kev 57 w base (fun _ => True) a.v xs
theorem Row.in_ {w : World} {base : Nat} {r : Row} (h : r.holds w base) : ∀ k, r.own = some k → base ≤ k ∧ k < w.heap.size := by
 intro k hk
 cases r with
 | n a xs => exact ⟨Kd.Qfe (d := kn) h k hk, Kd.R_lt (d := kn) h k hk⟩
 | s a xs => exact ⟨Kd.Qfe (d := kst) h k hk, Kd.R_lt (d := kst) h k hk⟩
 | v a xs => exact ⟨Kd.Qfe (d := kve) h k hk, Kd.R_lt (d := kve) h k hk⟩
 | e a xs => exact ⟨Kd.Qfe (d := kev) h k hk, Kd.R_lt (d := kev) h k hk⟩
theorem Row.move {w w' : World} {base base' : Nat} {r : Row} (h : r.holds w base) (hm : ∀ k, r.own = some k → w'.heap[k]? = w.heap[k]?) (hb : ∀ k, r.own = some k → base' ≤ k) : r.holds w' base' := by
 cases r with
 | n a xs => exact Qgs Qj4 h hm hb
 | s a xs => exact Qgs flat_s h hm hb
 | v a xs => exact Qgs flat_v h hm hb
 | e a xs => exact Qgs flat_e h hm hb
def Lone : List (Option Nat) → Prop
 | [] => True
 | o :: l => (∀ k, o = some k → some k ∉ l) ∧ Lone l
structure Rows (w : World) (base : Nat) (l : List Row) : Prop where
 holds : ∀ r, r ∈ l → r.holds w base
 lone : Lone (l.map Row.own)
theorem Lone.append {l m : List (Option Nat)} (hl : Lone l) (hm : Lone m) (hx : ∀ k, some k ∈ l → some k ∉ m) : Lone (l ++ m) := by
 induction l with
 | nil => exact hm
 | cons o l ih =>
  obtain ⟨h1, h2⟩ := hl
  refine ⟨fun k hk hmem => ?_, ih h2 (fun k hk => hx k (List.mem_cons_of_mem _ hk))⟩
  rcases List.mem_append.1 hmem with h | h
  ·exact h1 k hk h
  ·exact hx k (by rw [← hk]; exact List.mem_cons_self) h
section
variable {w w' : World} {base base' : Nat} {l m : List Row}
theorem Rows.nil (w : World) (base : Nat) : Rows w base [] := ⟨fun r hr => (by cases hr), trivial⟩
theorem Rows.in_ (h : Rows w base l) : ∀ k, some k ∈ l.map Row.own → base ≤ k ∧ k < w.heap.size := by
 intro k hk
 obtain ⟨r, hr, he⟩ := List.mem_map.1 hk
 exact Row.in_ (h.holds r hr) k he
theorem Rows.keep (h : Rows w base l) (hm : ∀ k, base ≤ k → k < w.heap.size → w'.heap[k]? = w.heap[k]?) : Rows w' base l :=
 ⟨fun r hr => Row.move (h.holds r hr) (fun k hk => hm k (Row.in_ (h.holds r hr) k hk).1 (Row.in_ (h.holds r hr) k hk).2) (fun k hk => (Row.in_ (h.holds r hr) k hk).1), h.lone⟩
theorem Rows.lower (h : Rows w base l) (hb : base' ≤ base) : Rows w base' l :=
 ⟨fun r hr => Row.move (h.holds r hr) (fun _ _ => rfl) (fun k hk => Nat.le_trans hb (Row.in_ (h.holds r hr) k hk).1), h.lone⟩
theorem Rows.join (h : Rows w' base' l) (k : Rows w' base m) (hb : base ≤ base') (hm : ∀ i, some i ∈ m.map Row.own → i < base') : Rows w' base (l ++ m) := by
 have h' := h.lower hb
 refine ⟨fun r hr => ?_, ?_⟩
 ·rcases List.mem_append.1 hr with hr | hr
  ·exact h'.holds r hr
  ·exact k.holds r hr
 ·rw [List.map_append]
  exact h.lone.append k.lone (fun i hi hj => by have := (h.in_ i hi).1; have := hm i hj; omega)
theorem Rows.tail {r : Row} (h : Rows w base (r :: l)) : Rows w base l := ⟨fun r' hr => h.holds r' (List.mem_cons_of_mem _ hr), h.lone.2⟩
theorem Rows.head {r : Row} (h : Rows w base (r :: l)) : r.holds w base := h.holds r List.mem_cons_self
theorem Rows.grow {r r' : Row} (h : Rows w base (r :: l)) (hg : w.grownBy w' r.own) (hr : r'.holds w' base) (hat : r'.own = r.own ∨ ∃ b, r'.own = some b ∧ w.heap.size ≤ b) : Rows w' base (r' :: l) := by
 have hl : Rows w' base l := ⟨fun q hq => Row.move (h.tail.holds q hq) (fun k hk => hg.block k (Row.in_ (h.tail.holds q hq) k hk).2 (fun e => h.lone.1 k e.symm (List.mem_map.2 ⟨q, hq, hk⟩))) (fun k hk => (Row.in_ (h.tail.holds q hq) k hk).1), h.tail.lone⟩
 refine ⟨fun q hq => ?_, ?_⟩
 ·rcases List.mem_cons.1 hq with rfl | hq
  ·exact hr
  ·exact hl.holds q hq
 ·refine ⟨fun k hk hmem => ?_, hl.lone⟩
  rcases hat with e | ⟨b, e, hb⟩
  ·rw [hk] at e
   exact h.lone.1 k e.symm hmem
  ·rw [hk] at e
   injection e with e
   have := (h.tail.in_ k hmem).2
   omega
theorem Rows.swap {r q : Row} (h : Rows w base (r :: q :: l)) : Rows w base (q :: r :: l) := by
 refine ⟨fun x hx => h.holds x ?_, ?_⟩
 ·simp only [List.mem_cons] at hx ⊢
  rcases hx with hx | hx | hx
  ·exact .inr (.inl hx)
  ·exact .inl hx
  ·exact .inr (.inr hx)
 ·obtain ⟨h1, h2, h3⟩ := h.lone
  refine ⟨fun k hk hmem => ?_, fun k hk hmem => h1 k hk (List.mem_cons_of_mem _ hmem), h3⟩
  rcases List.mem_cons.1 hmem with e | hmem
  ·exact h1 k e.symm (by rw [List.map_cons] at *; rw [hk]; exact List.mem_cons_self)
  ·exact h2 k hk hmem
end
def All2 {α β : Type} (R : α → β → Prop) : List α → List β → Prop
 | [], [] => True
 | a :: l, b :: m => R a b ∧ All2 R l m
 | _, _ => False
theorem All2.imp {α β : Type} {R S : α → β → Prop} (h : ∀ a b, R a b → S a b) : ∀ {l : List α} {m : List β}, All2 R l m → All2 S l m
 | [], [], _ => trivial
 | _ :: _, _ :: _, ⟨h1, h2⟩ => ⟨h _ _ h1, All2.imp h h2⟩
theorem All2.snoc {α β : Type} {R : α → β → Prop} {a : α} {b : β} (hab : R a b) : ∀ {l : List α} {m : List β}, All2 R l m → All2 R (l ++ [a]) (m ++ [b])
 | [], [], _ => ⟨hab, trivial⟩
 | _ :: _, _ :: _, ⟨h1, h2⟩ => ⟨h1, All2.snoc hab h2⟩
theorem All2.len {α β : Type} {R : α → β → Prop} : ∀ {l : List α} {m : List β}, All2 R l m → l.length = m.length
 | [], [], _ => rfl
 | _ :: _, _ :: _, ⟨_, h2⟩ => by simp only [List.length_cons, All2.len h2]
def StT (l : List Row) (d : StD) (x : StV) : Prop := x.k = d.k ∧ x.a = d.a ∧ x.b = d.b ∧ x.c = d.c ∧ x.sep = d.sep ∧ x.ty = d.ty ∧ Row.n x.val d.val ∈ l ∧ x.pl = d.pl
def VeT (l : List Row) (d : VeD) (x : VeV) : Prop := x.num = d.num ∧ (∃ xs, Row.s x.steps xs ∈ l ∧ All2 (StT l) d.steps xs) ∧ x.pl = d.pl
def EvT (l : List Row) (d : EvD) (x : EvV) : Prop := x.name = d.name ∧ (∃ xs, Row.v x.vers xs ∈ l ∧ All2 (VeT l) d.vers xs) ∧ x.pl = d.pl
theorem StT.mono {l m : List Row} {d : StD} {x : StV} (h : StT l d x) (hs : ∀ r, r ∈ l → r ∈ m) : StT m d x := ⟨h.1, h.2.1, h.2.2.1, h.2.2.2.1, h.2.2.2.2.1, h.2.2.2.2.2.1, hs _ h.2.2.2.2.2.2.1, h.2.2.2.2.2.2.2⟩
theorem VeT.mono {l m : List Row} {d : VeD} {x : VeV} (h : VeT l d x) (hs : ∀ r, r ∈ l → r ∈ m) : VeT m d x := by
 obtain ⟨h1, ⟨xs, h2, h3⟩, h4⟩ := h
 exact ⟨h1, ⟨xs, hs _ h2, h3.imp (fun _ _ h => h.mono hs)⟩, h4⟩
theorem EvT.mono {l m : List Row} {d : EvD} {x : EvV} (h : EvT l d x) (hs : ∀ r, r ∈ l → r ∈ m) : EvT m d x := by
 obtain ⟨h1, ⟨xs, h2, h3⟩, h4⟩ := h
 exact ⟨h1, ⟨xs, hs _ h2, h3.imp (fun _ _ h => h.mono hs)⟩, h4⟩
theorem Up.flt {w : World} {A : Option Addr} {c : Nat} {L : List Tk} {g : Nat} {s : US} (h : Up w A c L g s) : ∃ e : Int, w.cell? ⟨g, 2, none⟩ = some (.int .i64 e) ∧ (∀ ts, s = .ok ts → e = 0) ∧ ∀ e' p, s = .bad e' p → e ≠ 0 := by
 obtain ⟨q, lv, v5, v6, hq, hp⟩ := h
 refine ⟨_, hp.c2, ?_, ?_⟩
 ·rintro ts rfl; exact hq.1
 ·rintro e' p rfl; rw [hq.1]; exact hq.2.2
theorem infoS : (Try.prog.info? 62).map (fun i => (i.zero, i.size, i.bytes)) = some (some (.agg #[.int .i64 0, .string ⟨#[]⟩, .string ⟨#[]⟩, .string ⟨#[]⟩, .string ⟨#[]⟩, .string ⟨#[]⟩, .slice none 0 0, .int .i64 0]), 8, 120) := by kernel_rfl
theorem Qre : (Try.prog.info? 60).map (fun i => (i.zero, i.size, i.bytes)) = some (some (.agg #[.int .u64 0, .slice none 0 0, .int .i64 0]), 3, 40) := by kernel_rfl
theorem infoE : (Try.prog.info? 57).map (fun i => (i.zero, i.size, i.bytes)) = some (some (.agg #[.string ⟨#[]⟩, .slice none 0 0, .int .i64 0]), 3, 48) := by kernel_rfl
structure VeL (F : Res VeD) (num p : Int) (w : World) (A : Option Addr) (c : Nat) (L : List Tk) (g b2 b3 B N : Nat) (k : Nat) (wr : World) (S : US) (v : Sl) (sv : List StV) (l : List Row) (ds : List StD) : Prop where
 up : Up wr A c L g S
 gr : w.grownBy wr (some g)
 bx : wr.heap[b3]? = some (.cells #[.int .u64 num, .slice v.A v.n v.c, .int .i64 p] 60 (0, 0))
 by_ : wr.heap[b2]? = some (.cells #[.int .u64 0, .slice none 0 0, .int .i64 0] 60 (0, 0))
 rows : Rows wr B (Row.s v sv :: l)
 bl : B ≤ wr.heap.size
 nn : sv.length + k ≤ N
 tr : ∀ r, S = .ok r → All2 (StT l) ds sv
 co : Co F (fun r => (P.Qdr k ds r).bind fun l r => (Qar 125 r).bind fun _ r => .ok ⟨num, l, p⟩ r) S
theorem set3 {W : World} {b : Nat} {a0 a1 a2 v0 v1 v2 : Value} {t : TypeId} (h : W.heap[b]? = some (.cells #[a0, a1, a2] t (0, 0))) : (((W.setCell ⟨b, 0, none⟩ v0).setCell ⟨b, 1, none⟩ v1).setCell ⟨b, 2, none⟩ v2).heap[b]? = some (.cells #[v0, v1, v2] t (0, 0)) :=
 Qby (Qby (Qby h 0 v0 rfl) 1 v1 rfl) 2 v2 rfl
theorem up3 {W : World} {A : Option Addr} {c : Nat} {L : List Tk} {g b : Nat} {s : US} {v0 v1 v2 : Value} (h : Up W A c L g s) (hb : g < b) : Up (((W.setCell ⟨b, 0, none⟩ v0).setCell ⟨b, 1, none⟩ v1).setCell ⟨b, 2, none⟩ v2) A c L g s := ((h.far hb 0 v0).far hb 1 v1).far hb 2 v2
theorem Qgq {w W : World} {g b : Nat} {v0 v1 v2 : Value} (h : w.grownBy W (some g)) (hb : w.heap.size ≤ b) : w.grownBy (((W.setCell ⟨b, 0, none⟩ v0).setCell ⟨b, 1, none⟩ v1).setCell ⟨b, 2, none⟩ v2) (some g) := Qau (g := g) (Qau (g := g) (Qau (g := g) h hb 0 v0) hb 1 v1) hb 2 v2
theorem Rows.far {W : World} {base b i : Nat} {l : List Row} {v : Value} (h : Rows W base l) (hb : b < base) : Rows (W.setCell ⟨b, i, none⟩ v) base l := h.keep (fun k hk _ => Below.heap_setCell W ⟨b, i, none⟩ v k (by show k ≠ b; omega))
theorem Rows.grown {W W' : World} {base g : Nat} {l : List Row} (h : Rows W base l) (hg : W.grownBy W' (some g)) (hb : g < base) : Rows W' base l := h.keep (fun k hk hlt => hg.block k hlt (fun e => by injection e with e; omega))
theorem len3 {s : US} {L : List Tk} {r : List Tk} (h : ∀ ts, s = .ok ts → ts.length ≤ L.length) (hr : (((s.step (P.Qdi P.Qcq)).step fun ts => P.want ((hd ts).f0 == 2) ts).step (Qar 123)) = .ok r) : r.length ≤ L.length := by
 obtain ⟨t2, a2, h2, k2⟩ := Qct hr
 obtain ⟨t1, a1, h1, k1⟩ := Qct h2
 obtain ⟨t0, a0, h0, k0⟩ := Qct h1
 have e0 := h _ h0
 have e1 := P.Qea k0
 have e2 := P.Qne k1
 have e3 := (P.Qcf k2).2.2.2
 omega
theorem Qlt {w' w0 : World} {B : Nat} {q r : Row} {l : List Row} (h : Rows w' B (q :: l)) (hr : r.holds w' B) (hn : ∀ k, r.own = some k → w0.heap.size ≤ k) (h0 : Rows w0 B (q :: l)) : Rows w' B (q :: r :: l) := by
 refine Rows.swap ⟨fun x hx => ?_, ⟨fun k hk hm => ?_, h.lone⟩⟩
 ·rcases List.mem_cons.1 hx with rfl | hx
  ·exact hr
  ·exact h.holds x hx
 ·have := hn k hk
  have := (h0.in_ k hm).2
  omega
theorem Qey {w w' : World} {A : Option Addr} {c : Nat} {L : List Tk} {g : Nat} {s : US} {row : Option Nat} (h : Up w A c L g s) (hg : w.grownBy w' row) (hne : ∀ k, row = some k → g < k) : Up w' A c L g s := by
 obtain ⟨q, lv, v5, v6, hq, hp⟩ := h
 exact ⟨q, lv, v5, v6, hq, ⟨Qbh hp.blk hg (fun e => by have := hne g e.symm; omega), Kd.Qfz hp.row hg (fun k hk e => by have := hne k e.symm; omega), hp.lt, hp.cap⟩⟩
theorem Qd8 {w W W' : World} {g : Nat} {row : Option Nat} (h : w.grownBy W (some g)) (hg : W.grownBy W' row) (hr : ∀ k, row = some k → w.heap.size ≤ k) : w.grownBy W' (some g) :=
 ⟨hg.os.trans h.os, hg.tape.trans h.tape, hg.output.trans h.output, Nat.le_trans h.size hg.size, fun k hk hne => (hg.block k (Nat.lt_of_lt_of_le hk h.size) (fun e => by have := hr k e.symm; omega)).trans (h.block k hk hne)⟩
theorem okOf {β : Type} {F : Res β} {k : List Tk → Res β} {s : US} {x : US} {d e : β} {ts r : List Tk} {f : List Tk → Res Tk} (h : Co F (fun r => .ok d r) (x.step f)) (hs : Co F k s) (h1 : s = .ok ts) (h2 : k ts = .ok e r) (hn : ∀ p, F ≠ .bad 0 p) : ∃ r1, x = .ok r1 := by
 subst h1
 have hF : F = .ok e r := Eq.trans hs h2
 cases x with
 | ok r1 => exact ⟨r1, rfl⟩
 | bad e' p => rw [show F = .bad e' p from h] at hF; cases hF
theorem Qi3 (w : World) (A : Option Addr) (c : Nat) (L : List Tk) (g : Nat) (s : US) (hG : Good L) (hL : L.length ≤ 33554432) (h : Up w A c L g s) (hsz : ∀ ts, s = .ok ts → ts.length ≤ L.length) :
  Calls Try.prog 62 #[.pointer (some ⟨g, 0, none⟩)] w fun e w' => ∃ x l, e = .returned (.agg #[.int .u64 x.num, .slice x.steps.A x.steps.n x.steps.c, .int .i64 x.pl]) ∧ Rows w' w.heap.size l ∧ Up w' A c L g (s.step P.Qbq) ∧ w.grownBy w' (some g) ∧ ∀ ts d r, s = .ok ts → P.Qbq ts = .ok d r → VeT l d x := by
 obtain ⟨w0, hw0⟩ : ∃ w0, w0 = w.alloc (.cells #[.int .u64 0, .slice none 0 0, .int .i64 0] 60) := ⟨_, rfl⟩
 obtain ⟨b2, hb2⟩ : ∃ b2, b2 = w.heap.size := ⟨_, rfl⟩
 have hB0 : Below w.heap.size w w0 := by rw [hw0]; exact Qab (Below.refl _ _) _
 have HU0 := J0.m (h.below hB0)
 have HR0 := J0.m (Qaj hB0 (some g))
 have HY0 := J0.m (show w0.heap[b2]? = some (.cells #[.int .u64 0, .slice none 0 0, .int .i64 0] 60 (0, 0)) from by rw [hw0, hb2]; exact Qay _ _)
 have GB2 : J0 (g < b2) := ⟨by rw [hb2]; exact h.glt⟩
 have NB2 : J0 (b2 ≠ g) := ⟨by have := GB2.o; omega⟩
 have LB2 : J0 (w.heap.size ≤ b2) := ⟨by rw [hb2]; exact Nat.le_refl _⟩
 have HB2 := J0.m hb2
 have HW0 := J0.m hw0
 have HG := J0.m hG
 have HL := J0.m hL
 have HSZ := J0.m hsz
 obtain ⟨F, hF0, hFe⟩ := Co.start s P.Qbq
 have HNE : J0 (∀ p, F ≠ .bad 0 p) := ⟨by
  intro p hp
  cases s with
  | ok ts => exact P.Qgd ts p (Eq.trans (Eq.symm hF0) hp)
  | bad e q =>
   obtain ⟨_, _, _, _, hq, _⟩ := h
   have : F = .bad e q := hF0
   rw [this] at hp
   cases hp
   exact hq.2.2 rfl⟩
 have HF0 := J0.m hF0
 have HFE := J0.m hFe
 have HC0 := J0.m (show Co F (fun ts => (P.Qdi P.Qcq ts).bind fun t r => (P.numW r).bind fun m r => (Qar 123 r).bind fun _ r => (P.Qdr (r.length + 1) [] r).bind fun l r => (Qar 125 r).bind fun _ r => .ok ⟨m.f2, l, t.f3⟩ r) s from hF0)
 have HCL := J0.m (Qb1 HG.o P.Qcq HU0.o)
 clear h hw0 hb2 hB0 hG hL hF0 hFe hsz
 go_enter Try.func62, Try.ntmps62
 go_wp2_with fail
 rw [← HW0.o, ← HB2.o]
 refine HCL.o.mono ?_
 rintro e w1 ⟨⟨⟨k1, s1, n1, p1, e1⟩, hfr, rfl⟩, hu, hg⟩
 clear HCL
 have HC1 := J0.m ((HC0.o).word hfr)
 have HU1 := J0.m hu
 have HR1 := J0.m (HR0.o.trans hg)
 have HY1 := J0.m (Qas hg HY0.o NB2.o)
 clear hu hg hfr
 obtain ⟨fd0, fd1, fd2, fd3⟩ := fld ⟨k1, s1, n1, p1, e1⟩
 obtain ⟨b3, hb3⟩ : ∃ b3, b3 = w1.heap.size := ⟨_, rfl⟩
 obtain ⟨w2, hw2⟩ : ∃ w2, w2 = w1.alloc (.cells #[.int .u64 0, .slice none 0 0, .int .i64 p1] 60) := ⟨_, rfl⟩
 have hb : Below w1.heap.size w1 w2 := by rw [hw2]; exact Qab (Below.refl _ _) _
 have HU2 := J0.m (HU1.o.below hb)
 have HR2 := J0.m (HR1.o.trans (Qaj hb _))
 have HY2 := J0.m (Qae HY1.o hb)
 have HX2 := J0.m (show w2.heap[b3]? = some (.cells #[.int .u64 0, .slice none 0 0, .int .i64 p1] 60 (0, 0)) from by rw [hw2, hb3]; exact Qay _ _)
 have GB3 : J0 (g < b3) := ⟨by rw [hb3]; exact HU1.o.glt⟩
 have NB3 : J0 (b3 ≠ g) := ⟨by have := GB3.o; omega⟩
 have LB3 : J0 (w.heap.size ≤ b3) := ⟨by rw [hb3]; exact HR1.o.size⟩
 have NB23 : J0 (b2 ≠ b3) := ⟨by have := Qb3 HY1.o; rw [hb3]; omega⟩
 have HB3 := J0.m hb3
 have HW2 := J0.m hw2
 clear hb hw2 hb3
 go_wp2_with fail
 rw [← HW2.o, ← HB3.o]
 refine (Qen HU2.o).mono ?_
 rintro e w3 ⟨⟨k2, s2, n2, p2, e2⟩, hf2, rfl, hb⟩
 have HT2 := J0.m hf2
 have HU3 := J0.m (HU2.o.below hb)
 have HR3 := J0.m (HR2.o.trans (Qaj hb _))
 have HY3 := J0.m (Qae HY2.o hb)
 have HX3 := J0.m (Qae HX2.o hb)
 clear hb hf2
 obtain ⟨gd0, gd1, gd2, gd3⟩ := fld ⟨k2, s2, n2, p2, e2⟩
 have HCL := J0.m (Qc8 HG.o (k2 == 2) (fun ts => (hd ts).f0 == 2) HU3.o (fun ts hs => ⟨by rw [← HT2.o ts hs], fun hb => by rw [← HT2.o ts hs, eq_of_beq hb]; exact (by decide : (2 : Int) ≠ 0)⟩))
 go_wp2_with fail
 refine HCL.o.mono ?_
 rintro e w4 ⟨⟨⟨k3, s3, n3, p3, e3⟩, hfr, rfl⟩, hu, hg⟩
 clear HCL
 have HC4 := J0.m (Co.num HC1.o hfr)
 have HU4 := J0.m hu
 have HR4 := J0.m (HR3.o.trans hg)
 have HX4 := J0.m (Qas hg HX3.o NB3.o)
 have HY4 := J0.m (Qas hg HY3.o NB2.o)
 clear hu hg hfr
 obtain ⟨id0, id1, id2, id3⟩ := fld ⟨k3, s3, n3, p3, e3⟩
 have c0_4 := (Qac HX4.o 0).trans rfl
 have f0_4 := Qaa HX4.o 0
 obtain ⟨w5, hw5⟩ : ∃ w5, w5 = w4.setCell ⟨b3, 0, none⟩ (.int .u64 n3) := ⟨_, rfl⟩
 have HU5 := J0.m (show Up w5 A c L g _ from by rw [hw5]; exact HU4.o.far GB3.o 0 _)
 have HR5 := J0.m (show w.grownBy w5 (some g) from by rw [hw5]; exact Qau (g := g) HR4.o LB3.o 0 _)
 have HX5 := J0.m (show w5.heap[b3]? = some (.cells #[.int .u64 n3, .slice none 0 0, .int .i64 p1] 60 (0, 0)) from by rw [hw5]; exact (Qa8 HX4.o _).trans (by rfl))
 have HY5 := J0.m (show w5.heap[b2]? = some (.cells #[.int .u64 0, .slice none 0 0, .int .i64 0] 60 (0, 0)) from by rw [hw5]; exact Qa2 NB23.o HY4.o _)
 have HW5 := J0.m hw5
 clear hw5
 have HCL := J0.m (Qa4 HG.o 123 HU5.o)
 go_wp2_with fail
 rw [← HW5.o]
 refine HCL.o.mono ?_
 rintro e w6 ⟨⟨tq, hfr, rfl⟩, hu, hg⟩
 clear HCL
 have HC6 := J0.m ((HC4.o).mark hfr)
 obtain ⟨S6, hS6⟩ : ∃ S6, S6 = (((s.step (P.Qdi P.Qcq)).step fun ts => P.want ((hd ts).f0 == 2) ts).step (Qar 123)) := ⟨_, rfl⟩
 have HSL : J0 (∀ r, S6 = .ok r → r.length ≤ L.length) := ⟨fun r hr => by rw [hS6] at hr; exact len3 HSZ.o hr⟩
 obtain ⟨N, hN, hN2⟩ : ∃ N, N ≤ 33554433 ∧ ∀ r, S6 = .ok r → N = r.length + 1 := by
  cases hx : S6 with
  | ok r => exact ⟨r.length + 1, by have := HSL.o r hx; have := HL.o; omega, fun r' h => by cases h; rfl⟩
  | bad e p => exact ⟨0, by omega, fun r' h => by cases h⟩
 have HLP : J0 (VeL F n3 p1 w A c L g b2 b3 w6.heap.size N N w6 S6 ⟨none, 0, 0⟩ [] [] []) := ⟨{
  up := by rw [hS6]; exact hu
  gr := HR5.o.trans hg
  bx := Qas hg HX5.o NB3.o
  by_ := Qas hg HY5.o NB2.o
  rows := ⟨fun r hr => by rw [List.mem_singleton.1 hr]; exact Kd.Qdd _ _ _ _ _, ⟨fun k hk => by simp [Row.own, Row.sl, Sl.v, Value.ownBlock] at hk, trivial⟩⟩
  bl := Nat.le_refl _
  nn := by simp
  tr := fun _ _ => trivial
  co := by
   rw [hS6]
   exact HC6.o.to (fun r hr => by rw [hN2 r (by rw [hS6]; exact hr)]) }⟩
 have HB6 : J0 (b3 < w6.heap.size ∧ b2 < w6.heap.size ∧ g < w6.heap.size ∧ w.heap.size ≤ w6.heap.size) := ⟨Qb3 (Qas hg HX5.o NB3.o), Qb3 (Qas hg HY5.o NB2.o), hu.glt, (HR5.o.trans hg).size⟩
 obtain ⟨B6, hB6⟩ : ∃ B6, B6 = w6.heap.size := ⟨_, rfl⟩
 rw [← hB6] at HLP HB6
 have HN := J0.m hN
 clear hu hg hfr hN2 hS6 hB6
 go_wp2_with fail
 go_loopg [] N (fun k wr => ∃ S v sv l ds, J0 (VeL F n3 p1 w A c L g b2 b3 B6 N k wr S v sv l ds))
 case atStart => exact ⟨_, _, _, _, _, HLP⟩
 case round =>
  obtain ⟨S, ⟨Av, nv, cv⟩, sv, l, ds, HV⟩ := hrel
  obtain ⟨ef, c2, he1, he2⟩ := HV.o.up.flt
  cases hS : S with
  | bad e q =>
   have d1 : (ef == 0) = false := beq_eq_false_iff_ne.2 (he2 e q hS)
   subst hS
   have HCE := J0.m (show Co F (fun r => (Qar 125 r).bind fun _ r => .ok (⟨n3, ds, p1⟩ : VeD) r) (US.bad e q) from HV.o.co)
   clear he1 he2
   go_wp2_with fail
   have HCL := J0.m (Qa4 HG.o 125 HV.o.up)
   go_wp2_with fail
   refine HCL.o.mono ?_
   rintro e wz ⟨⟨tz, hfr, rfl⟩, hu, hg⟩
   clear HCL
   have HCZ := J0.m ((HCE.o).mark hfr)
   have HXZ := J0.m (Qas hg HV.o.bx NB3.o)
   have HYZ := J0.m (Qas hg HV.o.by_ NB2.o)
   have HRZ := J0.m (HV.o.gr.trans hg)
   have HQZ := J0.m (HV.o.rows.grown hg (by have := HB6.o; omega))
   have HUZ := J0.m hu
   clear hu hg hfr
   have d0 := (Qac HXZ.o 0).trans rfl
   have d1 := (Qac HXZ.o 1).trans rfl
   have d2 := (Qac HXZ.o 2).trans rfl
   have y0 := (Qac HYZ.o 0).trans rfl
   have y1 := (Qac HYZ.o 1).trans rfl
   have y2 := (Qac HYZ.o 2).trans rfl
   have g0 := Qaa HYZ.o 0
   have g1 := Qaa HYZ.o 1
   have g2 := Qaa HYZ.o 2
   go_wp2
   refine bodyPost_ret (Qbm rfl _ _ b2 60 #[.int .u64 n3, .slice Av nv cv, .int .i64 p1] (0, 0) _ rfl (set3 HYZ.o) Try.underlying60 rfl (by kernel_rfl)) rfl ?_
   refine ⟨⟨n3, ⟨Av, nv, cv⟩, p1⟩, Row.s ⟨Av, nv, cv⟩ sv :: l, rfl, (((HQZ.o.far (by have := HB6.o; omega)).far (by have := HB6.o; omega)).far (by have := HB6.o; omega)).lower (by have := HB6.o; omega), ?_, Qgq HRZ.o LB2.o, fun ts d r h1 h2 => ?_⟩
   ·rw [← HFE.o _ (Co.Qej HCZ.o)]
    exact up3 HUZ.o GB2.o
   ·have := Co.val HCZ.o HF0.o ts d r h1 h2
    subst this
    refine ⟨rfl, ⟨sv, List.mem_cons_self, ?_⟩, rfl⟩
    obtain ⟨r1, hr1⟩ := okOf HCZ.o HF0.o h1 h2 HNE.o
    exact (HV.o.tr r1 hr1).imp (fun _ _ h => h.mono (fun _ hm => List.mem_cons_of_mem _ hm))
  | ok r =>
   have he := he1 r hS
   subst he hS
   have hnb : gk ≠ 0 := fun e => by subst e; exact HNE.o 0 HV.o.co
   obtain ⟨m, rfl⟩ : ∃ m, gk = m + 1 := ⟨gk - 1, by omega⟩
   have HIS := J0.m (Qcn 4 ⟨#[125]⟩ HV.o.up)
   have hco : F = (P.Qdr (m + 1) ds r).bind fun l r => (Qar 125 r).bind fun _ r => .ok ⟨n3, l, p1⟩ r := HV.o.co
   rw [P.Qdr] at hco
   clear he1 he2
   by_cases hm : isM 125 r = true
   ·have hv : US.is 4 ⟨#[125]⟩ (.ok r) = true := hm
    rw [hv] at HIS
    rw [if_pos hm] at hco
    have HCE := J0.m (show Co F (fun r => (Qar 125 r).bind fun _ r => .ok (⟨n3, ds, p1⟩ : VeD) r) (US.ok r) from hco)
    clear hm hv hco
    go_wp2_with fail
    refine HIS.o.mono ?_
    rintro e w7 ⟨rfl, hb7⟩
    have HU7 := J0.m (HV.o.up.below hb7)
    have HX7 := J0.m (Qae HV.o.bx hb7)
    have HY7 := J0.m (Qae HV.o.by_ hb7)
    have HR7 := J0.m (HV.o.gr.trans (Qaj hb7 _))
    have HQ7 := J0.m (HV.o.rows.keep (fun k _ hk => hb7.block k hk))
    clear hb7
    have HCL := J0.m (Qa4 HG.o 125 HU7.o)
    go_wp2_with fail
    refine HCL.o.mono ?_
    rintro e wz ⟨⟨tz, hfr, rfl⟩, hu, hg⟩
    clear HCL
    have HCZ := J0.m ((HCE.o).mark hfr)
    have HXZ := J0.m (Qas hg HX7.o NB3.o)
    have HYZ := J0.m (Qas hg HY7.o NB2.o)
    have HRZ := J0.m (HR7.o.trans hg)
    have HQZ := J0.m (HQ7.o.grown hg (by have := HB6.o; omega))
    have HUZ := J0.m hu
    clear hu hg hfr
    have d0 := (Qac HXZ.o 0).trans rfl
    have d1 := (Qac HXZ.o 1).trans rfl
    have d2 := (Qac HXZ.o 2).trans rfl
    have y0 := (Qac HYZ.o 0).trans rfl
    have y1 := (Qac HYZ.o 1).trans rfl
    have y2 := (Qac HYZ.o 2).trans rfl
    have g0 := Qaa HYZ.o 0
    have g1 := Qaa HYZ.o 1
    have g2 := Qaa HYZ.o 2
    go_wp2
    refine bodyPost_ret (Qbm rfl _ _ b2 60 #[.int .u64 n3, .slice Av nv cv, .int .i64 p1] (0, 0) _ rfl (set3 HYZ.o) Try.underlying60 rfl (by kernel_rfl)) rfl ?_
    refine ⟨⟨n3, ⟨Av, nv, cv⟩, p1⟩, Row.s ⟨Av, nv, cv⟩ sv :: l, rfl, (((HQZ.o.far (by have := HB6.o; omega)).far (by have := HB6.o; omega)).far (by have := HB6.o; omega)).lower (by have := HB6.o; omega), ?_, Qgq HRZ.o LB2.o, fun ts d r h1 h2 => ?_⟩
    ·rw [← HFE.o _ (Co.Qej HCZ.o)]
     exact up3 HUZ.o GB2.o
    ·have := Co.val HCZ.o HF0.o ts d r h1 h2
     subst this
     refine ⟨rfl, ⟨sv, List.mem_cons_self, ?_⟩, rfl⟩
     obtain ⟨r1, hr1⟩ := okOf HCZ.o HF0.o h1 h2 HNE.o
     exact (HV.o.tr r1 hr1).imp (fun _ _ h => h.mono (fun _ hm => List.mem_cons_of_mem _ hm))
   ·have hv : US.is 4 ⟨#[125]⟩ (.ok r) = false := (by simpa using hm : isM 125 r = false)
    rw [hv] at HIS
    rw [if_neg hm] at hco
    have HCO := J0.m hco
    clear hm hv hco
    go_wp2_with fail
    refine HIS.o.mono ?_
    rintro e w7 ⟨rfl, hb7⟩
    have HU7 := J0.m (HV.o.up.below hb7)
    have HX7 := J0.m (Qae HV.o.bx hb7)
    have HY7 := J0.m (Qae HV.o.by_ hb7)
    have HR7 := J0.m (HV.o.gr.trans (Qaj hb7 _))
    have HQ7 := J0.m (HV.o.rows.keep (fun k _ hk => hb7.block k hk))
    have HZ7 : J0 (B6 ≤ w7.heap.size) := ⟨Nat.le_trans HV.o.bl hb7.size⟩
    clear hb7
    have S0 : (fun w' : World => w'.cell? ⟨b3, 1, none⟩ = some (.slice Av nv cv)) w7.drew := (Qac HX7.o 1).trans rfl
    go_wp2
    refine Qfr (n := 8) (S := fun w' => w'.cell? ⟨b3, 1, none⟩ = some (.slice Av nv cv)) (ds := [7]) #[false, false, false, false, false, false, false, false] (by kernel_rfl) rfl rfl (S0) (fun hHeld => ?_)
    refine Qcd (i := 0) (N := some 28) (v := ?_) (a' := ?_) #[true, false, false, false, false, false, false, false] rfl rfl (by kernel_rfl) (fun _ _ _ h => h) (Or.inl ⟨by rfl, ?_⟩) ?_ ?_
    rotate_left
    ·intro w'
     go_simp
     with_reducible rfl
    rotate_left
    ·simp only [Act.put, List.setIfInBounds_toArray, List.set_cons_zero, List.set_cons_succ, Qbj, Qbp]
     rfl
    refine Qge (i := 1) (N := some 29) (v := ?_) (a' := ?_) #[true, true, false, false, false, false, false, false] rfl rfl (by kernel_rfl) (fun _ _ _ h => h) (Or.inl ⟨by rfl, ?_⟩) hHeld ?_ ?_
    rotate_left
    ·intro w' hS'
     have hS2 : w'.cell? ⟨b3, 1, none⟩ = some (.slice Av nv cv) := hS'
     clear hS'
     go_simp
     with_reducible rfl
    rotate_left
    ·simp only [Act.put, List.setIfInBounds_toArray, List.set_cons_zero, List.set_cons_succ, Qbj, Qbp]
     rfl
    refine Qcd (i := 2) (N := some 30) (v := ?_) (a' := ?_) #[true, true, true, false, false, false, false, false] rfl rfl (by kernel_rfl) (fun _ _ _ h => h) (Or.inl ⟨by rfl, ?_⟩) ?_ ?_
    rotate_left
    ·intro w'
     go_simp
     with_reducible rfl
    rotate_left
    ·simp only [Act.put, List.setIfInBounds_toArray, List.set_cons_zero, List.set_cons_succ, Qbj, Qbp]
     rfl
    refine one_ (i := 3) (N := some 31) #[true, true, true, true, false, false, false, false] rfl rfl (by kernel_rfl) (by decide) (fun K hK => ?_)
    refine Qk4 Try.func83 (by kernel_rfl) rfl #[.pointer (some ⟨g, 0, none⟩)] (by rfl) rfl rfl (by (try simp only [List.map_toArray, List.map_cons, List.map_nil]); first | done | rfl) ?_
    refine (Qmd w7.drew A c L g (.ok r) HG.o HL.o (HU7.o.below (Qaf (Below.refl _ _)))).mono ?_
    rintro e w8 ⟨x, nsx, rfl, hrn, hnew, hu, hg, hval⟩
    have hgd : w7.grownBy w8 (some g) := (Qaj (Qaf (Below.refl _ _)) _).trans hg
    have HX8 := J0.m (Qas hgd HX7.o NB3.o)
    have HY8 := J0.m (Qas hgd HY7.o NB2.o)
    have HR8 := J0.m (HR7.o.trans hgd)
    have HQ8 := J0.m (Qlt (w0 := w7) (HQ7.o.grown hgd (by have := HB6.o; omega)) (r := Row.n x.val nsx) (show Row.holds w8 B6 (Row.n x.val nsx) from Qgs (d := kn) Qj4 hrn (fun _ _ => rfl) (fun k hk => Nat.le_trans HZ7.o (hnew k hk))) (fun k hk => hnew k hk) HQ7.o)
    have HU8 := J0.m hu
    have HVAL := J0.m hval
    have HZ8 : J0 (B6 ≤ w8.heap.size) := ⟨Nat.le_trans HZ7.o hgd.size⟩
    have SC : (fun w' : World => w'.cell? ⟨b3, 1, none⟩ = some (.slice Av nv cv)) w8 := (Qac HX8.o 1).trans rfl
    clear hrn hnew hu hg hval hgd
    refine ⟨_, rfl, ?_⟩
    refine hK.out _ _ (SC) (fun hHeld => ?_)
    clear hK K
    have HBZ := J0.m (show Below w8.heap.size w8 (w8.alloc (.cells #[.int .i64 x.k, .string x.a, .string x.b, .string x.c, .string x.sep, .string x.ty, .slice x.val.A x.val.n x.val.c, .int .i64 x.pl] 62)) from Qab (Below.refl _ _) _)
    have SB : (fun w' : World => w'.cell? ⟨b3, 1, none⟩ = some (.slice Av nv cv)) (w8.alloc (.cells #[.int .i64 x.k, .string x.a, .string x.b, .string x.c, .string x.sep, .string x.ty, .slice x.val.A x.val.n x.val.c, .int .i64 x.pl] 62)) := (Qac (Qae HX8.o HBZ.o) 1).trans rfl
    refine one_ (i := 4) (N := some 32) #[true, true, true, true, true, false, false, false] rfl rfl (by kernel_rfl) (by decide) (fun K hK => ?_)
    refine Qf7 (w1 := ?_) (v := ?_) (by rfl) rfl ?_ ?_
    rotate_left 2
    ·go_simp
     first | rfl | (constructor <;> rfl)
    refine hK.out _ _ (SB) (fun hHeld => ?_)
    clear hK K
    refine one_ (i := 5) (N := some 33) #[true, true, true, true, true, true, false, false] rfl rfl (by kernel_rfl) (by decide) (fun K hK => ?_)
    refine Kd.Qds (N := some 33) rfl kst (w0 := w8) B6 (by rfl) (.tmp 29) (.tmp 32) 58 62 (.agg #[.int .i64 0, .string ⟨#[]⟩, .string ⟨#[]⟩, .string ⟨#[]⟩, .string ⟨#[]⟩, .string ⟨#[]⟩, .slice none 0 0, .int .i64 0]) 120 rfl Try.underlying58 infoS rfl (by decide) (by omega) (.slice Av nv cv) sv x (stCs x) (fun _ => True) (fun _ => False) (by rfl) ⟨w8.heap.size, 0, none⟩ 1 (by rfl) (World.news_of_block (cs := (stCs x).toArray) (t := 62) (fr := (0, 0)) (heap_alloc_new _ _)) (Qnp _ _ _ x) (fun _ hk => hk.elim) (fun _ _ => trivial) (Kd.Qb4 (d := kst) HQ8.o.head HBZ.o) (HBZ.o.mono HZ8.o) (by have := HZ8.o; have := HBZ.o.size; omega) (by have := HV.o.nn; have := HN.o; omega) ?_
    intro v2 w9 ho hb hw
    obtain ⟨A2, c2_, hv2⟩ := Kd.Qcp ho
    rw [List.length_append, List.length_singleton] at hv2
    subst hv2
    have hq9 : Rows w9 B6 (Row.s ⟨A2, sv.length + 1, c2_⟩ (sv ++ [x]) :: Row.n x.val nsx :: l) := (HQ8.o.keep (fun k _ hk => HBZ.o.block k hk)).grow hw.grown ho hw.at
    have hne3 : some b3 ≠ (Value.slice Av nv cv).ownBlock := fun e => by have := (HQ8.o.in_ b3 (by rw [e]; exact List.mem_cons_self)).1; have := HB6.o; omega
    have hne2 : some b2 ≠ (Value.slice Av nv cv).ownBlock := fun e => by have := (HQ8.o.in_ b2 (by rw [e]; exact List.mem_cons_self)).1; have := HB6.o; omega
    have HX9 := J0.m (Qbh (Qae HX8.o HBZ.o) hw.grown hne3)
    have HY9 := J0.m (Qbh (Qae HY8.o HBZ.o) hw.grown hne2)
    have HU9 := J0.m (Qey (HU8.o.below HBZ.o) hw.grown (fun k hk => by have := (HQ8.o.in_ k (by rw [← hk]; exact List.mem_cons_self)).1; have := HB6.o; omega))
    have HR9 := J0.m (Qd8 (HR8.o.trans (Qaj HBZ.o _)) hw.grown (fun k hk => by have := (HQ8.o.in_ k (by rw [← hk]; exact List.mem_cons_self)).1; have := HB6.o; omega))
    have HZ9 : J0 (B6 ≤ w9.heap.size) := ⟨by have := HZ8.o; have := HBZ.o.size; have := hw.grown.size; omega⟩
    have HQ9 := J0.m hq9
    have SA : (fun w' : World => w'.cell? ⟨b3, 1, none⟩ = some (.slice Av nv cv)) w9 := (Qac HX9.o 1).trans rfl
    have c1_9 : w9.cell? ⟨b3, 1, none⟩ = some (.slice Av nv cv) := SA
    have f1_9 := Qaa HX9.o 1
    clear ho hb hw hq9 hne3 hne2
    refine hK.out _ _ (SA) (fun hHeld => ?_)
    clear hK K
    refine Qcd (i := 6) (N := some 34) (v := ?_) (a' := ?_) #[true, true, true, true, true, true, true, false] rfl rfl (by kernel_rfl) (fun _ _ _ h => h) (Or.inl ⟨by rfl, ?_⟩) ?_ ?_
    rotate_left
    ·intro w'
     go_simp
     with_reducible rfl
    rotate_left
    ·simp only [Act.put, List.setIfInBounds_toArray, List.set_cons_zero, List.set_cons_succ, Qbj, Qbp]
     rfl
    refine Qil (i := 7) (N := none) #[true, true, true, true, true, true, true, true] rfl rfl (by kernel_rfl) (by decide) (fun K hK => ?_)
    refine Qgz (w1 := ?_) (by rfl) rfl ?_ ?_
    rotate_left
    ·go_simp
     first | rfl | (constructor <;> rfl)
    refine hK.out _ _ ?_
    clear hK K
    refine Qh4 (by kernel_rfl) ?_
    obtain ⟨dd, hdd⟩ : ∃ dd, ∀ d r', P.stepW r = .ok d r' → d = dd := by
     cases hx : P.stepW r with
     | ok d r' => exact ⟨d, fun d' r'' h => by cases h; rfl⟩
     | bad e q => exact ⟨⟨0, ⟨#[]⟩, ⟨#[]⟩, ⟨#[]⟩, ⟨#[]⟩, ⟨#[]⟩, [], 0⟩, fun d' r'' h => by cases h⟩
    go_wp2
    go_roundg m
    case measure => omega
    case rel =>
     refine ⟨(US.ok r).step P.stepW, ⟨A2, sv.length + 1, c2_⟩, sv ++ [x], Row.n x.val nsx :: l, ds ++ [dd], ⟨{ up := ?_, gr := ?_, bx := ?_, by_ := ?_, rows := ?_, bl := ?_, nn := ?_, tr := ?_, co := ?_ }⟩⟩
     ·exact HU9.o.far GB3.o 1 _
     ·exact Qau (g := g) HR9.o LB3.o 1 _
     ·exact (Qa8 HX9.o _).trans (by rfl)
     ·exact Qa2 NB23.o HY9.o _
     ·exact HQ9.o.far (by have := HB6.o; omega)
     ·simpa using HZ9.o
     ·have := HV.o.nn; rw [List.length_append, List.length_singleton]; omega
     ·intro r1 hr1
      obtain ⟨ts, a, h1, h2⟩ := Qct hr1
      cases h1
      have := hdd a r1 h2
      subst this
      obtain ⟨m1, m2, m3, m4, m5, m6, m7, m8⟩ := HVAL.o r a r1 rfl h2
      subst m7
      exact ((HV.o.tr r rfl).imp (fun _ _ h => h.mono (fun _ hm => List.mem_cons_of_mem _ hm))).snoc ⟨m1, m2, m3, m4, m5, m6, List.mem_cons_self, m8⟩
     ·have hc : Co F (fun r => (P.stepW r).bind fun d r => (P.Qdr m (ds ++ [d]) r).bind fun l r => (Qar 125 r).bind fun _ r => .ok (⟨n3, l, p1⟩ : VeD) r) (US.ok r) := by
       show F = _
       rw [HCO.o, Qg3]
      exact Co.call (P := fun _ => True) hc (fun ts a r1 h1 h2 => by cases h1; rw [hdd a r1 h2])
theorem Up.len {w : World} {A : Option Addr} {c : Nat} {L : List Tk} {g : Nat} {s : US} (h : Up w A c L g s) : ∀ ts, s = .ok ts → ts.length ≤ L.length := by
 rintro ts rfl
 obtain ⟨q, lv, v5, v6, hq, hp⟩ := h
 rw [← hq.2, List.length_drop]; omega
theorem Qft {w' w0 : World} {B : Nat} {q : Row} {l m : List Row} (h : Rows w' B (q :: l)) (hm : Rows w' w0.heap.size m) (hB : B ≤ w0.heap.size) (h0 : Rows w0 B (q :: l)) : Rows w' B (q :: (m ++ l)) := by
 have hj := hm.join (base := B) h.tail hB (fun i hi => (h0.tail.in_ i hi).2)
 refine ⟨fun r hr => ?_, ⟨fun k hk hmem => ?_, hj.lone⟩⟩
 ·rcases List.mem_cons.1 hr with rfl | hr
  ·exact h.head
  ·exact hj.holds r hr
 ·rw [List.map_append] at hmem
  rcases List.mem_append.1 hmem with hmem | hmem
  ·have h1 := (hm.in_ k hmem).1
   have h2 := (h0.in_ k (by rw [← hk]; exact List.mem_cons_self)).2
   omega
  ·exact h.lone.1 k hk hmem
structure EvL (F : Res EvD) (nm : ByteArray) (p : Int) (w : World) (A : Option Addr) (c : Nat) (L : List Tk) (g b2 b3 B N : Nat) (k : Nat) (wr : World) (S : US) (v : Sl) (sv : List VeV) (l : List Row) (ds : List VeD) : Prop where
 up : Up wr A c L g S
 gr : w.grownBy wr (some g)
 bx : wr.heap[b3]? = some (.cells #[.string nm, .slice v.A v.n v.c, .int .i64 p] 57 (0, 0))
 by_ : wr.heap[b2]? = some (.cells #[.string ⟨#[]⟩, .slice none 0 0, .int .i64 0] 57 (0, 0))
 rows : Rows wr B (Row.v v sv :: l)
 bl : B ≤ wr.heap.size
 nn : sv.length + k ≤ N
 tr : ∀ r, S = .ok r → All2 (VeT l) ds sv
 co : Co F (fun r => (P.Qca k ds r).bind fun l r => (Qar 125 r).bind fun _ r => .ok ⟨nm, l, p⟩ r) S
theorem len4 {s : US} {L : List Tk} {r : List Tk} (h : ∀ ts, s = .ok ts → ts.length ≤ L.length) (hr : (((s.step (P.Qdi P.Qeg)).step P.Qdg).step (Qar 123)) = .ok r) : r.length ≤ L.length := by
 obtain ⟨t2, a2, h2, k2⟩ := Qct hr
 obtain ⟨t1, a1, h1, k1⟩ := Qct h2
 obtain ⟨t0, a0, h0, k0⟩ := Qct h1
 have e0 := h _ h0
 have e1 := P.Qea k0
 have e2 := P.Qeb k1
 have e3 := (P.Qcf k2).2.2.2
 omega
theorem Co.is {β : Type} {F : Res β} {f g : List Tk → Res β} {S : US} {k : Int} {x : ByteArray} {b : Bool} (h : Co F (fun r => if isT k x r then f r else g r) S) (hb : S.is k x = b) : Co F (if b then f else g) S := by
 refine h.to (fun r hr => ?_)
 subst hr
 have hb : isT k x r = b := hb
 rw [hb]
 cases b <;> rfl
theorem Qlb (w : World) (A : Option Addr) (c : Nat) (L : List Tk) (g : Nat) (s : US) (hG : Good L) (hL : L.length ≤ 33554432) (h : Up w A c L g s) :
  Calls Try.prog 40 #[.pointer (some ⟨g, 0, none⟩)] w fun e w' => ∃ x l, e = .returned (.agg #[.string x.name, .slice x.vers.A x.vers.n x.vers.c, .int .i64 x.pl]) ∧ Rows w' w.heap.size l ∧ Up w' A c L g (s.step P.Qdf) ∧ w.grownBy w' (some g) ∧ ∀ ts d r, s = .ok ts → P.Qdf ts = .ok d r → EvT l d x := by
 obtain ⟨w0, hw0⟩ : ∃ w0, w0 = w.alloc (.cells #[.string ⟨#[]⟩, .slice none 0 0, .int .i64 0] 57) := ⟨_, rfl⟩
 obtain ⟨b2, hb2⟩ : ∃ b2, b2 = w.heap.size := ⟨_, rfl⟩
 have hB0 : Below w.heap.size w w0 := by rw [hw0]; exact Qab (Below.refl _ _) _
 have HU0 := J0.m (h.below hB0)
 have HR0 := J0.m (Qaj hB0 (some g))
 have HY0 := J0.m (show w0.heap[b2]? = some (.cells #[.string ⟨#[]⟩, .slice none 0 0, .int .i64 0] 57 (0, 0)) from by rw [hw0, hb2]; exact Qay _ _)
 have GB2 : J0 (g < b2) := ⟨by rw [hb2]; exact h.glt⟩
 have NB2 : J0 (b2 ≠ g) := ⟨by have := GB2.o; omega⟩
 have LB2 : J0 (w.heap.size ≤ b2) := ⟨by rw [hb2]; exact Nat.le_refl _⟩
 have HB2 := J0.m hb2
 have HW0 := J0.m hw0
 have HG := J0.m hG
 have HL := J0.m hL
 have HSZ := J0.m h.len
 obtain ⟨F, hF0, hFe⟩ := Co.start s P.Qdf
 have HNE : J0 (∀ p, F ≠ .bad 0 p) := ⟨by
  intro p hp
  cases s with
  | ok ts => exact P.Qh3 ts p (Eq.trans (Eq.symm hF0) hp)
  | bad e q =>
   obtain ⟨_, _, _, _, hq, _⟩ := h
   have : F = .bad e q := hF0
   rw [this] at hp
   cases hp
   exact hq.2.2 rfl⟩
 have HF0 := J0.m hF0
 have HFE := J0.m hFe
 have HC0 := J0.m (show Co F (fun ts => (P.Qdi P.Qeg ts).bind fun t r => (P.Qdg r).bind fun m r => (Qar 123 r).bind fun _ r => (P.Qca (r.length + 1) [] r).bind fun l r => (Qar 125 r).bind fun _ r => .ok ⟨m.f1, l, t.f3⟩ r) s from hF0)
 have HCL := J0.m (Qb1 HG.o P.Qeg HU0.o)
 clear h hw0 hb2 hB0 hG hL hF0 hFe
 go_enter Try.func40, Try.ntmps40
 go_wp2_with fail
 rw [← HW0.o, ← HB2.o]
 refine HCL.o.mono ?_
 rintro e w1 ⟨⟨⟨k1, s1, n1, p1, e1⟩, hfr, rfl⟩, hu, hg⟩
 clear HCL
 have HC1 := J0.m ((HC0.o).word hfr)
 have HU1 := J0.m hu
 have HR1 := J0.m (HR0.o.trans hg)
 have HY1 := J0.m (Qas hg HY0.o NB2.o)
 clear hu hg hfr
 obtain ⟨fd0, fd1, fd2, fd3⟩ := fld ⟨k1, s1, n1, p1, e1⟩
 have HCL := J0.m (Qbf HG.o HU1.o)
 go_wp2_with fail
 refine HCL.o.mono ?_
 rintro e w4 ⟨⟨⟨k3, nm, n3, p3, e3⟩, hfr, rfl⟩, hu, hg⟩
 clear HCL
 have HC4 := J0.m (Co.name HC1.o hfr)
 have HU4 := J0.m hu
 have HR4 := J0.m (HR1.o.trans hg)
 have HY4 := J0.m (Qas hg HY1.o NB2.o)
 clear hu hg hfr
 obtain ⟨b3, hb3⟩ : ∃ b3, b3 = w4.heap.size := ⟨_, rfl⟩
 obtain ⟨w5, hw5⟩ : ∃ w5, w5 = w4.alloc (.cells #[.string nm, .slice none 0 0, .int .i64 p1] 57) := ⟨_, rfl⟩
 have hb : Below w4.heap.size w4 w5 := by rw [hw5]; exact Qab (Below.refl _ _) _
 have HU5 := J0.m (HU4.o.below hb)
 have HR5 := J0.m (HR4.o.trans (Qaj hb _))
 have HY5 := J0.m (Qae HY4.o hb)
 have HX5 := J0.m (show w5.heap[b3]? = some (.cells #[.string nm, .slice none 0 0, .int .i64 p1] 57 (0, 0)) from by rw [hw5, hb3]; exact Qay _ _)
 have GB3 : J0 (g < b3) := ⟨by rw [hb3]; exact HU4.o.glt⟩
 have NB3 : J0 (b3 ≠ g) := ⟨by have := GB3.o; omega⟩
 have LB3 : J0 (w.heap.size ≤ b3) := ⟨by rw [hb3]; exact HR4.o.size⟩
 have NB23 : J0 (b2 ≠ b3) := ⟨by have := Qb3 HY4.o; rw [hb3]; omega⟩
 have HB3 := J0.m hb3
 have HW5 := J0.m hw5
 clear hb hw5 hb3
 have HCL := J0.m (Qa4 HG.o 123 HU5.o)
 go_wp2_with fail
 rw [← HW5.o, ← HB3.o]
 refine HCL.o.mono ?_
 rintro e w6 ⟨⟨tq, hfr, rfl⟩, hu, hg⟩
 clear HCL
 have HC6 := J0.m ((HC4.o).mark hfr)
 obtain ⟨S6, hS6⟩ : ∃ S6, S6 = (((s.step (P.Qdi P.Qeg)).step P.Qdg).step (Qar 123)) := ⟨_, rfl⟩
 have HSL : J0 (∀ r, S6 = .ok r → r.length ≤ L.length) := ⟨fun r hr => by rw [hS6] at hr; exact len4 HSZ.o hr⟩
 obtain ⟨N, hN, hN2⟩ : ∃ N, N ≤ 33554433 ∧ ∀ r, S6 = .ok r → N = r.length + 1 := by
  cases hx : S6 with
  | ok r => exact ⟨r.length + 1, by have := HSL.o r hx; have := HL.o; omega, fun r' h => by cases h; rfl⟩
  | bad e p => exact ⟨0, by omega, fun r' h => by cases h⟩
 have HLP : J0 (EvL F nm p1 w A c L g b2 b3 w6.heap.size N N w6 S6 ⟨none, 0, 0⟩ [] [] []) := ⟨{
  up := by rw [hS6]; exact hu
  gr := HR5.o.trans hg
  bx := Qas hg HX5.o NB3.o
  by_ := Qas hg HY5.o NB2.o
  rows := ⟨fun r hr => by rw [List.mem_singleton.1 hr]; exact Kd.Qdd _ _ _ _ _, ⟨fun k hk => by simp [Row.own, Row.sl, Sl.v, Value.ownBlock] at hk, trivial⟩⟩
  bl := Nat.le_refl _
  nn := by simp
  tr := fun _ _ => trivial
  co := by
   rw [hS6]
   exact HC6.o.to (fun r hr => by rw [hN2 r (by rw [hS6]; exact hr)]) }⟩
 have HB6 : J0 (b3 < w6.heap.size ∧ b2 < w6.heap.size ∧ g < w6.heap.size ∧ w.heap.size ≤ w6.heap.size) := ⟨Qb3 (Qas hg HX5.o NB3.o), Qb3 (Qas hg HY5.o NB2.o), hu.glt, (HR5.o.trans hg).size⟩
 obtain ⟨B6, hB6⟩ : ∃ B6, B6 = w6.heap.size := ⟨_, rfl⟩
 rw [← hB6] at HLP HB6
 have HN := J0.m hN
 clear hu hg hfr hN2 hS6 hB6
 go_wp2_with fail
 go_loopg [] N (fun k wr => ∃ S v sv l ds, J0 (EvL F nm p1 w A c L g b2 b3 B6 N k wr S v sv l ds))
 case atStart => exact ⟨_, _, _, _, _, HLP⟩
 case round =>
  obtain ⟨S, ⟨Av, nv, cv⟩, sv, l, ds, HV⟩ := hrel
  have HPOS : J0 (∀ r, S = .ok r → 0 < gk) := ⟨fun r hr => by
   have := HV.o.co
   subst hr
   rcases Nat.eq_zero_or_pos gk with h | h
   ·subst h; exact absurd this (HNE.o 0)
   ·exact h⟩
  have HCO : J0 (Co F (fun r => (P.Qbq r).bind fun d r => if isT 1 P.Qcq r then (P.Qca (gk - 1) (ds ++ [d]) r).bind fun l r => (Qar 125 r).bind fun _ r => .ok (⟨nm, l, p1⟩ : EvD) r else (Qar 125 r).bind fun _ r => .ok (⟨nm, ds ++ [d], p1⟩ : EvD) r) S) := ⟨HV.o.co.to (fun r hr => by
   obtain ⟨m, hm⟩ : ∃ m, gk = m + 1 := ⟨gk - 1, by have := HPOS.o r hr; omega⟩
   subst hm
   show (P.Qca (m + 1) ds r).bind _ = _
   rw [P.Qca, Qg3]
   congr 1
   funext d r
   by_cases ht : isT 1 P.Qcq r = true
   ·rw [if_pos ht, if_pos ht]; rfl
   ·rw [if_neg ht, if_neg ht]; rfl)⟩
  obtain ⟨dd, hdd⟩ : ∃ dd, ∀ ts d r', S = .ok ts → P.Qbq ts = .ok d r' → d = dd := by
   cases hS : S with
   | ok r =>
    cases hx : P.Qbq r with
    | ok d r' => exact ⟨d, fun ts d' r'' h1 h2 => by cases h1; rw [hx] at h2; cases h2; rfl⟩
    | bad e q => exact ⟨⟨0, [], 0⟩, fun ts d' r'' h1 h2 => by cases h1; rw [hx] at h2; cases h2⟩
   | bad e q => exact ⟨⟨0, [], 0⟩, fun ts d' r'' h1 h2 => by cases h1⟩
  have HDD := J0.m hdd
  have HC7 := J0.m (Co.call (P := fun _ => True) (g' := fun r => if isT 1 P.Qcq r then (P.Qca (gk - 1) (ds ++ [dd]) r).bind fun l r => (Qar 125 r).bind fun _ r => .ok (⟨nm, l, p1⟩ : EvD) r else (Qar 125 r).bind fun _ r => .ok (⟨nm, ds ++ [dd], p1⟩ : EvD) r) HCO.o (fun ts a r h1 h2 => by rw [hdd ts a r h1 h2]))
  clear hdd
  have S0 : (fun w' : World => w'.cell? ⟨b3, 1, none⟩ = some (.slice Av nv cv)) wr.drew := (Qac HV.o.bx 1).trans rfl
  go_wp2
  refine Qfr (n := 8) (S := fun w' => w'.cell? ⟨b3, 1, none⟩ = some (.slice Av nv cv)) (ds := [7]) #[false, false, false, false, false, false, false, false] (by kernel_rfl) rfl rfl (S0) (fun hHeld => ?_)
  refine Qcd (i := 0) (N := some 12) (v := ?_) (a' := ?_) #[true, false, false, false, false, false, false, false] rfl rfl (by kernel_rfl) (fun _ _ _ h => h) (Or.inl ⟨by rfl, ?_⟩) ?_ ?_
  rotate_left
  ·intro w'
   go_simp
   with_reducible rfl
  rotate_left
  ·simp only [Act.put, List.setIfInBounds_toArray, List.set_cons_zero, List.set_cons_succ, Qbj, Qbp]
   rfl
  refine Qge (i := 1) (N := some 13) (v := ?_) (a' := ?_) #[true, true, false, false, false, false, false, false] rfl rfl (by kernel_rfl) (fun _ _ _ h => h) (Or.inl ⟨by rfl, ?_⟩) hHeld ?_ ?_
  rotate_left
  ·intro w' hS'
   have hS2 : w'.cell? ⟨b3, 1, none⟩ = some (.slice Av nv cv) := hS'
   clear hS'
   go_simp
   with_reducible rfl
  rotate_left
  ·simp only [Act.put, List.setIfInBounds_toArray, List.set_cons_zero, List.set_cons_succ, Qbj, Qbp]
   rfl
  refine Qcd (i := 2) (N := some 14) (v := ?_) (a' := ?_) #[true, true, true, false, false, false, false, false] rfl rfl (by kernel_rfl) (fun _ _ _ h => h) (Or.inl ⟨by rfl, ?_⟩) ?_ ?_
  rotate_left
  ·intro w'
   go_simp
   with_reducible rfl
  rotate_left
  ·simp only [Act.put, List.setIfInBounds_toArray, List.set_cons_zero, List.set_cons_succ, Qbj, Qbp]
   rfl
  refine one_ (i := 3) (N := some 15) #[true, true, true, true, false, false, false, false] rfl rfl (by kernel_rfl) (by decide) (fun K hK => ?_)
  refine Qk4 Try.func62 (by kernel_rfl) rfl #[.pointer (some ⟨g, 0, none⟩)] (by rfl) rfl rfl (by (try simp only [List.map_toArray, List.map_cons, List.map_nil]); first | done | rfl) ?_
  refine (Qi3 wr.drew A c L g S HG.o HL.o (HV.o.up.below (Qaf (Below.refl _ _))) HV.o.up.len).mono ?_
  rintro e w8 ⟨x, lx, rfl, hrn, hu, hg, hval⟩
  have hgd : wr.grownBy w8 (some g) := (Qaj (Qaf (Below.refl _ _)) _).trans hg
  have HX8 := J0.m (Qas hgd HV.o.bx NB3.o)
  have HY8 := J0.m (Qas hgd HV.o.by_ NB2.o)
  have HR8 := J0.m (HV.o.gr.trans hgd)
  have HQ8 := J0.m (Qft (w0 := wr) (HV.o.rows.grown hgd (by have := HB6.o; omega)) hrn HV.o.bl HV.o.rows)
  have HU8 := J0.m hu
  have HVAL := J0.m hval
  have HZ8 : J0 (B6 ≤ w8.heap.size) := ⟨Nat.le_trans HV.o.bl hgd.size⟩
  have SC : (fun w' : World => w'.cell? ⟨b3, 1, none⟩ = some (.slice Av nv cv)) w8 := (Qac HX8.o 1).trans rfl
  clear hrn hu hg hval hgd
  refine ⟨_, rfl, ?_⟩
  refine hK.out _ _ (SC) (fun hHeld => ?_)
  clear hK K
  have HBZ := J0.m (show Below w8.heap.size w8 (w8.alloc (.cells #[.int .u64 x.num, .slice x.steps.A x.steps.n x.steps.c, .int .i64 x.pl] 60)) from Qab (Below.refl _ _) _)
  have SB : (fun w' : World => w'.cell? ⟨b3, 1, none⟩ = some (.slice Av nv cv)) (w8.alloc (.cells #[.int .u64 x.num, .slice x.steps.A x.steps.n x.steps.c, .int .i64 x.pl] 60)) := (Qac (Qae HX8.o HBZ.o) 1).trans rfl
  refine one_ (i := 4) (N := some 16) #[true, true, true, true, true, false, false, false] rfl rfl (by kernel_rfl) (by decide) (fun K hK => ?_)
  refine Qf7 (w1 := ?_) (v := ?_) (by rfl) rfl ?_ ?_
  rotate_left 2
  ·go_simp
   first | rfl | (constructor <;> rfl)
  refine hK.out _ _ (SB) (fun hHeld => ?_)
  clear hK K
  refine one_ (i := 5) (N := some 17) #[true, true, true, true, true, true, false, false] rfl rfl (by kernel_rfl) (by decide) (fun K hK => ?_)
  refine Kd.Qds (N := some 17) rfl kve (w0 := w8) B6 (by rfl) (.tmp 13) (.tmp 16) 55 60 (.agg #[.int .u64 0, .slice none 0 0, .int .i64 0]) 40 rfl Try.underlying55 Qre rfl (by decide) (by omega) (.slice Av nv cv) sv x (veCs x) (fun _ => True) (fun _ => False) (by rfl) ⟨w8.heap.size, 0, none⟩ 1 (by rfl) (World.news_of_block (cs := (veCs x).toArray) (t := 60) (fr := (0, 0)) (heap_alloc_new _ _)) (Qk1 _ _ _ x) (fun _ hk => hk.elim) (fun _ _ => trivial) (Kd.Qb4 (d := kve) HQ8.o.head HBZ.o) (HBZ.o.mono HZ8.o) (by have := HZ8.o; have := HBZ.o.size; omega) (by have := HV.o.nn; have := HN.o; omega) ?_
  intro v2 w9 ho hb hw
  obtain ⟨A2, c2_, hv2⟩ := Kd.Qcp ho
  rw [List.length_append, List.length_singleton] at hv2
  subst hv2
  have hq9 : Rows w9 B6 (Row.v ⟨A2, sv.length + 1, c2_⟩ (sv ++ [x]) :: (lx ++ l)) := (HQ8.o.keep (fun k _ hk => HBZ.o.block k hk)).grow hw.grown ho hw.at
  have hne3 : some b3 ≠ (Value.slice Av nv cv).ownBlock := fun e => by have := (HQ8.o.in_ b3 (by rw [e]; exact List.mem_cons_self)).1; have := HB6.o; omega
  have hne2 : some b2 ≠ (Value.slice Av nv cv).ownBlock := fun e => by have := (HQ8.o.in_ b2 (by rw [e]; exact List.mem_cons_self)).1; have := HB6.o; omega
  have HX9 := J0.m (Qbh (Qae HX8.o HBZ.o) hw.grown hne3)
  have HY9 := J0.m (Qbh (Qae HY8.o HBZ.o) hw.grown hne2)
  have HU9 := J0.m (Qey (HU8.o.below HBZ.o) hw.grown (fun k hk => by have := (HQ8.o.in_ k (by rw [← hk]; exact List.mem_cons_self)).1; have := HB6.o; omega))
  have HR9 := J0.m (Qd8 (HR8.o.trans (Qaj HBZ.o _)) hw.grown (fun k hk => by have := (HQ8.o.in_ k (by rw [← hk]; exact List.mem_cons_self)).1; have := HB6.o; omega))
  have HZ9 : J0 (B6 ≤ w9.heap.size) := ⟨by have := HZ8.o; have := HBZ.o.size; have := hw.grown.size; omega⟩
  have HQ9 := J0.m hq9
  have SA : (fun w' : World => w'.cell? ⟨b3, 1, none⟩ = some (.slice Av nv cv)) w9 := (Qac HX9.o 1).trans rfl
  have c1_9 : w9.cell? ⟨b3, 1, none⟩ = some (.slice Av nv cv) := SA
  have f1_9 := Qaa HX9.o 1
  clear ho hb hw hq9 hne3 hne2
  refine hK.out _ _ (SA) (fun hHeld => ?_)
  clear hK K
  refine Qcd (i := 6) (N := some 18) (v := ?_) (a' := ?_) #[true, true, true, true, true, true, true, false] rfl rfl (by kernel_rfl) (fun _ _ _ h => h) (Or.inl ⟨by rfl, ?_⟩) ?_ ?_
  rotate_left
  ·intro w'
   go_simp
   with_reducible rfl
  rotate_left
  ·simp only [Act.put, List.setIfInBounds_toArray, List.set_cons_zero, List.set_cons_succ, Qbj, Qbp]
   rfl
  refine Qil (i := 7) (N := none) #[true, true, true, true, true, true, true, true] rfl rfl (by kernel_rfl) (by decide) (fun K hK => ?_)
  refine Qgz (w1 := ?_) (by rfl) rfl ?_ ?_
  rotate_left
  ·go_simp
   first | rfl | (constructor <;> rfl)
  refine hK.out _ _ ?_
  clear hK K
  refine Qh4 (by kernel_rfl) ?_
  obtain ⟨wa, hwa⟩ : ∃ wa, wa = w9.setCell ⟨b3, 1, none⟩ (.slice A2 (sv.length + 1) c2_) := ⟨_, rfl⟩
  have HUA := J0.m (show Up wa A c L g _ from by rw [hwa]; exact HU9.o.far GB3.o 1 _)
  have HRA := J0.m (show w.grownBy wa (some g) from by rw [hwa]; exact Qau (g := g) HR9.o LB3.o 1 _)
  have HXA := J0.m (show wa.heap[b3]? = some (.cells #[.string nm, .slice A2 (sv.length + 1) c2_, .int .i64 p1] 57 (0, 0)) from by rw [hwa]; exact (Qa8 HX9.o _).trans (by rfl))
  have HYA := J0.m (show wa.heap[b2]? = some (.cells #[.string ⟨#[]⟩, .slice none 0 0, .int .i64 0] 57 (0, 0)) from by rw [hwa]; exact Qa2 NB23.o HY9.o _)
  have HQA := J0.m (show Rows wa B6 _ from by rw [hwa]; exact HQ9.o.far (by have := HB6.o; omega))
  have HZA : J0 (B6 ≤ wa.heap.size) := ⟨by rw [hwa]; simpa using HZ9.o⟩
  have HTA : J0 (∀ r1, S.step P.Qbq = .ok r1 → All2 (VeT (lx ++ l)) (ds ++ [dd]) (sv ++ [x])) := ⟨fun r1 hr1 => by
   obtain ⟨ts, a, h1, h2⟩ := Qct hr1
   have hd := HDD.o ts a r1 h1 h2
   subst hd
   exact ((HV.o.tr ts h1).imp (fun _ _ h => h.mono (fun _ hm => List.mem_append_right _ hm))).snoc ((HVAL.o ts a r1 h1 h2).mono (fun _ hm => List.mem_append_left _ hm))⟩
  have HWA := J0.m hwa
  clear hwa
  have HIS := J0.m (Qcn 1 P.Qcq HUA.o)
  go_wp2_with fail
  rw [← HWA.o]
  cases hb : (S.step P.Qbq).is 1 P.Qcq with
  | true =>
   have HCN := J0.m (HC7.o.is hb)
   have HGK : J0 (0 < gk) := ⟨by
    cases hS : S with
    | ok r => exact HPOS.o r hS
    | bad e q => rw [hS] at hb; cases hb⟩
   rw [hb] at HIS
   clear hb
   refine HIS.o.mono ?_
   rintro e w7 ⟨rfl, hb7⟩
   have HU7 := J0.m (HUA.o.below hb7)
   have HX7 := J0.m (Qae HXA.o hb7)
   have HY7 := J0.m (Qae HYA.o hb7)
   have HR7 := J0.m (HRA.o.trans (Qaj hb7 _))
   have HQ7 := J0.m (HQA.o.keep (fun k _ hk => hb7.block k hk))
   have HZ7 : J0 (B6 ≤ w7.heap.size) := ⟨Nat.le_trans HZA.o hb7.size⟩
   clear hb7
   go_wp2
   go_roundg (gk - 1)
   case measure => have := HGK.o; omega
   case rel =>
    refine ⟨S.step P.Qbq, ⟨A2, sv.length + 1, c2_⟩, sv ++ [x], lx ++ l, ds ++ [dd], ⟨{ up := HU7.o, gr := HR7.o, bx := HX7.o, by_ := HY7.o, rows := HQ7.o, bl := HZ7.o, nn := ?_, tr := HTA.o, co := HCN.o }⟩⟩
    have := HV.o.nn; have := HGK.o; rw [List.length_append, List.length_singleton]; omega
  | false =>
   have HCE := J0.m (show Co F (fun r => (Qar 125 r).bind fun _ r => .ok (⟨nm, ds ++ [dd], p1⟩ : EvD) r) (S.step P.Qbq) from HC7.o.is hb)
   rw [hb] at HIS
   clear hb
   refine HIS.o.mono ?_
   rintro e w7 ⟨rfl, hb7⟩
   have HU7 := J0.m (HUA.o.below hb7)
   have HX7 := J0.m (Qae HXA.o hb7)
   have HY7 := J0.m (Qae HYA.o hb7)
   have HR7 := J0.m (HRA.o.trans (Qaj hb7 _))
   have HQ7 := J0.m (HQA.o.keep (fun k _ hk => hb7.block k hk))
   clear hb7
   have HCL := J0.m (Qa4 HG.o 125 HU7.o)
   go_wp2_with fail
   refine HCL.o.mono ?_
   rintro e wz ⟨⟨tz, hfr, rfl⟩, hu, hg⟩
   clear HCL
   have HCZ := J0.m ((HCE.o).mark hfr)
   have HXZ := J0.m (Qas hg HX7.o NB3.o)
   have HYZ := J0.m (Qas hg HY7.o NB2.o)
   have HRZ := J0.m (HR7.o.trans hg)
   have HQZ := J0.m (HQ7.o.grown hg (by have := HB6.o; omega))
   have HUZ := J0.m hu
   clear hu hg hfr
   have d0 := (Qac HXZ.o 0).trans rfl
   have d1 := (Qac HXZ.o 1).trans rfl
   have d2 := (Qac HXZ.o 2).trans rfl
   have y0 := (Qac HYZ.o 0).trans rfl
   have y1 := (Qac HYZ.o 1).trans rfl
   have y2 := (Qac HYZ.o 2).trans rfl
   have g0 := Qaa HYZ.o 0
   have g1 := Qaa HYZ.o 1
   have g2 := Qaa HYZ.o 2
   go_wp2
   refine bodyPost_ret (Qbm rfl _ _ b2 57 #[.string nm, .slice A2 (sv.length + 1) c2_, .int .i64 p1] (0, 0) _ rfl (set3 HYZ.o) Try.underlying57 rfl (by kernel_rfl)) rfl ?_
   refine ⟨⟨nm, ⟨A2, sv.length + 1, c2_⟩, p1⟩, Row.v ⟨A2, sv.length + 1, c2_⟩ (sv ++ [x]) :: (lx ++ l), rfl, (((HQZ.o.far (by have := HB6.o; omega)).far (by have := HB6.o; omega)).far (by have := HB6.o; omega)).lower (by have := HB6.o; omega), ?_, Qgq HRZ.o LB2.o, fun ts d r h1 h2 => ?_⟩
   ·rw [← HFE.o _ (Co.Qej HCZ.o)]
    exact up3 HUZ.o GB2.o
   ·have := Co.val HCZ.o HF0.o ts d r h1 h2
    subst this
    refine ⟨rfl, ⟨sv ++ [x], List.mem_cons_self, ?_⟩, rfl⟩
    obtain ⟨r1, hr1⟩ := okOf HCZ.o HF0.o h1 h2 HNE.o
    exact (HTA.o r1 hr1).imp (fun _ _ h => h.mono (fun _ hm => List.mem_cons_of_mem _ hm))
end Go.Proofs.Ytbdcndkafaajpaa.A
end
section
namespace Go.Proofs.Ytbdcndkafaajpaa.R
open Go.RowKit Ytbdcndkafaajpaa.X Ytbdcndkafaajpaa.A YtbdcndkafaajpaaW.PrintWords YtbdcndkafaajpaaW.PrintLast YtbdcndkafaajpaaW.PrintMore
open Ytbdcndkafaajpaa.P (Nd EO Res hd isT isM Qar mxl comb mk1 StD VeD EvD)
theorem Up.len {w : World} {A : Option Addr} {c : Nat} {L : List Tk} {g : Nat} {s : US} (h : Up w A c L g s) : ∀ ts, s = .ok ts → ts.length ≤ L.length := by
 rintro ts rfl
 obtain ⟨q, lv, v5, v6, hq, hp⟩ := h
 rw [← hq.2, List.length_drop]; omega
structure rVeL (F : Res VeD) (num p : Int) (w : World) (A : Option Addr) (c : Nat) (L : List Tk) (g b2 b3 B N : Nat) (k : Nat) (wr : World) (S : US) (v : Sl) (sv : List StV) (l : List Row) (ds : List StD) : Prop where
 up : Up wr A c L g S
 gr : w.grownBy wr (some g)
 bx : wr.heap[b3]? = some (.cells #[.int .u64 num, .slice v.A v.n v.c, .int .i64 p] 60 (0, 0))
 by_ : wr.heap[b2]? = some (.cells #[.int .u64 0, .slice none 0 0, .int .i64 0] 60 (0, 0))
 rows : Ytbdcndkafaajpaa.A.Rows wr B (Row.s v sv :: l)
 bl : B ≤ wr.heap.size
 nn : sv.length + k ≤ N
 tr : ∀ r, S = .ok r → All2 (StT l) ds sv
 co : Co F (fun r => (P.Qdr k ds r).bind fun l r => (Qar 125 r).bind fun _ r => .ok ⟨num, l, p⟩ r) S
theorem up3 {W : World} {A : Option Addr} {c : Nat} {L : List Tk} {g b : Nat} {s : US} {v0 v1 v2 : Value} (h : Up W A c L g s) (hb : g < b) : Up (((W.setCell ⟨b, 0, none⟩ v0).setCell ⟨b, 1, none⟩ v1).setCell ⟨b, 2, none⟩ v2) A c L g s := ((h.far hb 0 v0).far hb 1 v1).far hb 2 v2
theorem Qey {w w' : World} {A : Option Addr} {c : Nat} {L : List Tk} {g : Nat} {s : US} {row : Option Nat} (h : Up w A c L g s) (hg : w.grownBy w' row) (hne : ∀ k, row = some k → g < k) : Up w' A c L g s := by
 obtain ⟨q, lv, v5, v6, hq, hp⟩ := h
 exact ⟨q, lv, v5, v6, hq, ⟨Qbh hp.blk hg (fun e => by have := hne g e.symm; omega), Kd.Qfz hp.row hg (fun k hk e => by have := hne k e.symm; omega), hp.lt, hp.cap⟩⟩
theorem Qfs (w : World) (B : Nat) : Ytbdcndkafaajpaa.A.Rows w B [] := ⟨fun r hr => (by cases hr), trivial⟩
theorem Qp2 {β : Type} {F : Res β} {k : List Tk → Res β} {s : US} {e q : Int} (hs : Co F k s) (hF : F = .bad e q) {ts r : List Tk} {d : β} (h1 : s = .ok ts) (h2 : k ts = .ok d r) : False := by
 subst h1
 have : F = k ts := hs
 rw [hF, h2] at this
 cases this
theorem Qf8 (w : World) (A : Option Addr) (c : Nat) (L : List Tk) (g : Nat) (s : US) (hG : Qdo L) (hL : L.length ≤ 33554432) (h : Up w A c L g s) :
  Calls Try.prog 47 #[.pointer (some ⟨g, 0, none⟩)] w fun e w' => ∃ x l, e = .returned (.agg #[.int .u64 x.num, .slice x.steps.A x.steps.n x.steps.c, .int .i64 x.pl]) ∧ Ytbdcndkafaajpaa.A.Rows w' w.heap.size l ∧ Up w' A c L g (s.step P.Qbq) ∧ w.grownBy w' (some g) ∧ ∀ ts d r, s = .ok ts → P.Qbq ts = .ok d r → VeT l d x := by
 obtain ⟨w0, hw0⟩ : ∃ w0, w0 = w.alloc (.cells #[.int .u64 0, .slice none 0 0, .int .i64 0] 60) := ⟨_, rfl⟩
 obtain ⟨b2, hb2⟩ : ∃ b2, b2 = w.heap.size := ⟨_, rfl⟩
 have hB0 : Below w.heap.size w w0 := by rw [hw0]; exact Qab (Below.refl _ _) _
 have HU0 := J0.m (h.below hB0)
 have HR0 := J0.m (Qaj hB0 (some g))
 have HY0 := J0.m (show w0.heap[b2]? = some (.cells #[.int .u64 0, .slice none 0 0, .int .i64 0] 60 (0, 0)) from by rw [hw0, hb2]; exact Qay _ _)
 have GB2 : J0 (g < b2) := ⟨by rw [hb2]; exact h.glt⟩
 have NB2 : J0 (b2 ≠ g) := ⟨by have := GB2.o; omega⟩
 have LB2 : J0 (w.heap.size ≤ b2) := ⟨by rw [hb2]; exact Nat.le_refl _⟩
 have HB2 := J0.m hb2
 have HW0 := J0.m hw0
 have HG := J0.m hG
 have HL := J0.m hL
 have HSZ := J0.m h.len
 obtain ⟨F, hF0, hFe⟩ := Co.start s P.Qbq
 have HNE : J0 (∀ p, F ≠ .bad 0 p) := ⟨by
  intro p hp
  cases s with
  | ok ts => exact P.Qgd ts p (Eq.trans (Eq.symm hF0) hp)
  | bad e q =>
   obtain ⟨_, _, _, _, hq, _⟩ := h
   have : F = .bad e q := hF0
   rw [this] at hp
   cases hp
   exact hq.2.2 rfl⟩
 have HF0 := J0.m hF0
 have HFE := J0.m hFe
 have HC0 := J0.m (show Co F (fun ts => (P.Qdi P.Qcq ts).bind fun t r => (P.numW r).bind fun m r => (Qar 123 r).bind fun _ r => (P.Qdr (r.length + 1) [] r).bind fun l r => (Qar 125 r).bind fun _ r => .ok ⟨m.f2, l, t.f3⟩ r) s from hF0)
 have HCL := J0.m (Qdp HU0.o)
 clear h hw0 hb2 hB0 hG hL hF0 hFe
 go_enter Try.func47, Try.ntmps47
 go_wp2_with fail
 rw [← HW0.o, ← HB2.o]
 refine HCL.o.mono ?_
 rintro e w1 ⟨⟨k1, s1, n1, p1, e1⟩, hfr, rfl, hb⟩
 clear HCL
 have HFR1 := J0.m hfr
 have HU1 := J0.m (HU0.o.below hb)
 have HR1 := J0.m (HR0.o.trans (Qaj hb _))
 have HY1 := J0.m (Qae HY0.o hb)
 clear hb hfr
 obtain ⟨fd0, fd1, fd2, fd3⟩ := fld ⟨k1, s1, n1, p1, e1⟩
 obtain ⟨b3, hb3⟩ : ∃ b3, b3 = w1.heap.size := ⟨_, rfl⟩
 obtain ⟨w2, hw2⟩ : ∃ w2, w2 = w1.alloc (.cells #[.int .u64 0, .slice none 0 0, .int .i64 p1] 60) := ⟨_, rfl⟩
 have hb : Below w1.heap.size w1 w2 := by rw [hw2]; exact Qab (Below.refl _ _) _
 have HU2 := J0.m (HU1.o.below hb)
 have HR2 := J0.m (HR1.o.trans (Qaj hb _))
 have HY2 := J0.m (Qae HY1.o hb)
 have HX2 := J0.m (show w2.heap[b3]? = some (.cells #[.int .u64 0, .slice none 0 0, .int .i64 p1] 60 (0, 0)) from by rw [hw2, hb3]; exact Qay _ _)
 have GB3 : J0 (g < b3) := ⟨by rw [hb3]; exact HU1.o.glt⟩
 have NB3 : J0 (b3 ≠ g) := ⟨by have := GB3.o; omega⟩
 have LB3 : J0 (w.heap.size ≤ b3) := ⟨by rw [hb3]; exact HR1.o.size⟩
 have NB23 : J0 (b2 ≠ b3) := ⟨by have := Qb3 HY1.o; rw [hb3]; omega⟩
 have HB3 := J0.m hb3
 have HW2 := J0.m hw2
 clear hb hw2 hb3
 have HCL := J0.m (Qb1 HG.o P.Qcq HU2.o)
 go_wp2_with fail
 rw [← HW2.o, ← HB3.o]
 refine HCL.o.mono ?_
 rintro e w3 ⟨rfl, hu, hg⟩
 clear HCL
 have HC3 := J0.m ((HC0.o).word HFR1.o)
 have HU3 := J0.m hu
 have HR3 := J0.m (HR2.o.trans hg)
 have HX3 := J0.m (Qas hg HX2.o NB3.o)
 have HY3 := J0.m (Qas hg HY2.o NB2.o)
 clear hu hg
 obtain ⟨S3, hS3⟩ : ∃ S3, S3 = s.step (P.Qdi P.Qcq) := ⟨_, rfl⟩
 rw [← hS3] at HU3 HC3
 clear hS3
 obtain ⟨ef, y3, he⟩ := HU3.o.fault
 cases S3 with
 | bad e q =>
  have HF := J0.m (show F = .bad e q from HC3.o)
  have he : (ef == 0) = false := he
  go_wp2_with fail
  refine (Qdp HU3.o).mono ?_
  rintro e' w4 ⟨⟨ka, sa, na, pa, ea⟩, hfa, rfl, hb⟩
  have HFA := J0.m hfa
  have HU4 := J0.m (HU3.o.below hb)
  have HR4 := J0.m (HR3.o.trans (Qaj hb _))
  have HX4 := J0.m (Qae HX3.o hb)
  have HY4 := J0.m (Qae HY3.o hb)
  clear hb hfa
  obtain ⟨ga0, ga1, ga2, ga3⟩ := fld ⟨ka, sa, na, pa, ea⟩
  have HCL := J0.m (Qff 90 pa (by decide) HU4.o)
  go_wp2_with fail
  refine HCL.o.mono ?_
  rintro e' w5 ⟨rfl, hu, hg⟩
  clear HCL
  have HU5 := J0.m (show Up w5 A c L g (.bad e q) from hu)
  have HR5 := J0.m (HR4.o.trans hg)
  have HX5 := J0.m (Qas hg HX4.o NB3.o)
  have HY5 := J0.m (Qas hg HY4.o NB2.o)
  clear hu hg
  have HCL := J0.m (Qa4 HG.o 123 HU5.o)
  go_wp2_with fail
  refine HCL.o.mono ?_
  rintro e' wm ⟨rfl, hu, hg⟩
  clear HCL
  have HUM := J0.m (show Up wm A c L g (.bad e q) from hu)
  have HRM := J0.m (HR5.o.trans hg)
  have HXM := J0.m (Qas hg HX5.o NB3.o)
  have HYM := J0.m (Qas hg HY5.o NB2.o)
  clear hu hg
  obtain ⟨em, c3, hem⟩ := HUM.o.fault
  have hem : (em == 0) = false := hem
  go_wp2_with fail
  go_loopg [] 0 (fun k wr => J0 (wr = wm))
  case atStart => exact ⟨rfl⟩
  case round =>
   have hw := hrel.o
   subst hw
   have HCL := J0.m (Qa4 HG.o 125 HUM.o)
   go_wp2_with fail
   refine HCL.o.mono ?_
   rintro e' wz ⟨rfl, hu, hg⟩
   clear HCL
   have HXZ := J0.m (Qas hg HXM.o NB3.o)
   have HYZ := J0.m (Qas hg HYM.o NB2.o)
   have HRZ := J0.m (HRM.o.trans hg)
   have HUZ := J0.m (show Up wz A c L g (.bad e q) from hu)
   clear hu hg
   have d0 := (Qac HXZ.o 0).trans rfl
   have d1 := (Qac HXZ.o 1).trans rfl
   have d2 := (Qac HXZ.o 2).trans rfl
   have y0 := (Qac HYZ.o 0).trans rfl
   have y1 := (Qac HYZ.o 1).trans rfl
   have y2 := (Qac HYZ.o 2).trans rfl
   have g0 := Qaa HYZ.o 0
   have g1 := Qaa HYZ.o 1
   have g2 := Qaa HYZ.o 2
   go_wp2
   refine bodyPost_ret (Qbm rfl _ _ b2 60 #[.int .u64 0, .slice none 0 0, .int .i64 p1] (0, 0) _ rfl (set3 HYZ.o) Try.underlying60 rfl (by kernel_rfl)) rfl ?_
   refine ⟨⟨0, ⟨none, 0, 0⟩, p1⟩, [], rfl, Qfs _ _, ?_, Qgq HRZ.o LB2.o, fun ts d r h1 h2 => (Qp2 HF0.o HF.o h1 h2).elim⟩
   rw [← HFE.o _ (.inr ⟨e, q, rfl, HF.o⟩)]
   exact up3 HUZ.o GB2.o
 | ok r =>
  have he : (ef == 0) = true := he
  go_wp2_with fail
  refine (Qdp HU3.o).mono ?_
  rintro e w4 ⟨⟨k2, s2, n2, p2, e2⟩, hf2, rfl, hb⟩
  have HT2 := J0.m (hf2 r rfl)
  have HU4 := J0.m (HU3.o.below hb)
  have HR4 := J0.m (HR3.o.trans (Qaj hb _))
  have HX4 := J0.m (Qae HX3.o hb)
  have HY4 := J0.m (Qae HY3.o hb)
  clear hb hf2
  obtain ⟨gd0, gd1, gd2, gd3⟩ := fld ⟨k2, s2, n2, p2, e2⟩
  by_cases hk2 : k2 = 2
  ·subst hk2
   go_wp2_with fail
   refine (Qdp HU4.o).mono ?_
   rintro e w5 ⟨⟨k3, s3, n3, p3, e3⟩, hf3, rfl, hb⟩
   have HT3 := J0.m (hf3 r rfl)
   have HU5 := J0.m (HU4.o.below hb)
   have HR5 := J0.m (HR4.o.trans (Qaj hb _))
   have HX5 := J0.m (Qae HX4.o hb)
   have HY5 := J0.m (Qae HY4.o hb)
   clear hb hf3
   obtain ⟨id0, id1, id2, id3⟩ := fld ⟨k3, s3, n3, p3, e3⟩
   have c0_5 := (Qac HX5.o 0).trans rfl
   have f0_5 := Qaa HX5.o 0
   obtain ⟨w6, hw6⟩ : ∃ w6, w6 = w5.setCell ⟨b3, 0, none⟩ (.int .u64 n3) := ⟨_, rfl⟩
   have HU6 := J0.m (show Up w6 A c L g _ from by rw [hw6]; exact HU5.o.far GB3.o 0 _)
   have HR6 := J0.m (show w.grownBy w6 (some g) from by rw [hw6]; exact Qau (g := g) HR5.o LB3.o 0 _)
   have HX6 := J0.m (show w6.heap[b3]? = some (.cells #[.int .u64 n3, .slice none 0 0, .int .i64 p1] 60 (0, 0)) from by rw [hw6]; exact (Qa8 HX5.o _).trans (by rfl))
   have HY6 := J0.m (show w6.heap[b2]? = some (.cells #[.int .u64 0, .slice none 0 0, .int .i64 0] 60 (0, 0)) from by rw [hw6]; exact Qa2 NB23.o HY5.o _)
   have HK0 : J0 ((hd r).f0 = 2) := ⟨by rw [← HT2.o]⟩
   have HCL := J0.m (HU6.o.adv HG.o (by rw [HK0.o]; decide))
   obtain ⟨at_, y1, f1, hu, hg⟩ := HCL.o
   clear HCL
   obtain ⟨w7, hw7⟩ : ∃ w7, w7 = w6.setCell ⟨g, 1, none⟩ (.int .i64 (wrap64 (at_ + 1))) := ⟨_, rfl⟩
   rw [← hw7] at hu hg
   have hst : ((US.ok r).step fun ts => P.want ((hd ts).f0 == 2) ts) = .ok r.tail := by
    unfold US.step P.want; simp only [HK0.o]; rfl
   have HC7 := J0.m (show Co F _ (US.ok r.tail) from hst ▸ Co.num HC3.o (fun ts h => by cases h; exact HT3.o))
   have HU7 := J0.m hu
   have HR7 := J0.m (HR6.o.trans hg)
   have HX7 := J0.m (Qas hg HX6.o NB3.o)
   have HY7 := J0.m (Qas hg HY6.o NB2.o)
   have HW6 := J0.m hw6
   have HW7 := J0.m hw7
   rw [hw6] at y1 f1
   clear hu hg hw6 hw7 hst
   have HCL := J0.m (Qa4 HG.o 123 HU7.o)
   go_wp2_with fail
   rw [← HW6.o, ← HW7.o]
   refine HCL.o.mono ?_
   rintro e w8 ⟨rfl, hu, hg⟩
   clear HCL y1 f1
   have HC8 := J0.m (Co.Qfv HC7.o)
   obtain ⟨S8, hS8⟩ : ∃ S8, S8 = (US.ok r.tail).step (Qar 123) := ⟨_, rfl⟩
   have HSL : J0 (∀ r, S8 = .ok r → r.length ≤ L.length) := ⟨fun r' hr => by
    rw [hS8] at hr
    obtain ⟨t2, a2, h2, k2⟩ := Qct hr
    cases h2
    have := (P.Qcf k2).2.2.2
    have := HU7.o.len _ rfl
    omega⟩
   obtain ⟨N, hN, hN2⟩ : ∃ N, N ≤ 33554433 ∧ ∀ r, S8 = .ok r → N = r.length + 1 := by
    cases hx : S8 with
    | ok r => exact ⟨r.length + 1, by have := HSL.o r hx; have := HL.o; omega, fun r' h => by cases h; rfl⟩
    | bad e p => exact ⟨0, by omega, fun r' h => by cases h⟩
   have HLP : J0 (rVeL F n3 p1 w A c L g b2 b3 w8.heap.size N N w8 S8 ⟨none, 0, 0⟩ [] [] []) := ⟨{
    up := by rw [hS8]; exact hu
    gr := HR7.o.trans hg
    bx := Qas hg HX7.o NB3.o
    by_ := Qas hg HY7.o NB2.o
    rows := ⟨fun r hr => by rw [List.mem_singleton.1 hr]; exact Kd.Qdd _ _ _ _ _, ⟨fun k hk => by simp [Row.own, Row.sl, Sl.v, Value.ownBlock] at hk, trivial⟩⟩
    bl := Nat.le_refl _
    nn := by simp
    tr := fun _ _ => trivial
    co := by
     rw [hS8]
     exact HC8.o.to (fun r hr => by rw [hN2 r (by rw [hS8]; exact hr)]) }⟩
   have HB6 : J0 (b3 < w8.heap.size ∧ b2 < w8.heap.size ∧ g < w8.heap.size ∧ w.heap.size ≤ w8.heap.size) := ⟨Qb3 (Qas hg HX7.o NB3.o), Qb3 (Qas hg HY7.o NB2.o), hu.glt, (HR7.o.trans hg).size⟩
   obtain ⟨B6, hB6⟩ : ∃ B6, B6 = w8.heap.size := ⟨_, rfl⟩
   rw [← hB6] at HLP HB6
   have HN := J0.m hN
   clear hu hg hN2 hS8 hB6 y3
   go_wp2_with fail
   go_loopg [] N (fun k wr => ∃ S v sv l ds, J0 (rVeL F n3 p1 w A c L g b2 b3 B6 N k wr S v sv l ds))
   case atStart => exact ⟨_, _, _, _, _, HLP⟩
   case round =>
    obtain ⟨S, ⟨Av, nv, cv⟩, sv, l, ds, HV⟩ := hrel
    obtain ⟨ef, c3, he⟩ := HV.o.up.fault
    cases hS : S with
    | bad e q =>
     subst hS
     have he : (ef == 0) = false := he
     have HCE := J0.m (show Co F (fun r => (Qar 125 r).bind fun _ r => .ok (⟨n3, ds, p1⟩ : VeD) r) (US.bad e q) from HV.o.co)
     go_wp2_with fail
     have HCL := J0.m (Qa4 HG.o 125 HV.o.up)
     go_wp2_with fail
     refine HCL.o.mono ?_
     rintro e wz ⟨rfl, hu, hg⟩
     clear HCL
     have HCZ := J0.m (Co.Qfv HCE.o)
     have HXZ := J0.m (Qas hg HV.o.bx NB3.o)
     have HYZ := J0.m (Qas hg HV.o.by_ NB2.o)
     have HRZ := J0.m (HV.o.gr.trans hg)
     have HQZ := J0.m (HV.o.rows.grown hg (by have := HB6.o; omega))
     have HUZ := J0.m hu
     clear hu hg
     have d0 := (Qac HXZ.o 0).trans rfl
     have d1 := (Qac HXZ.o 1).trans rfl
     have d2 := (Qac HXZ.o 2).trans rfl
     have y0 := (Qac HYZ.o 0).trans rfl
     have y1 := (Qac HYZ.o 1).trans rfl
     have y2 := (Qac HYZ.o 2).trans rfl
     have g0 := Qaa HYZ.o 0
     have g1 := Qaa HYZ.o 1
     have g2 := Qaa HYZ.o 2
     go_wp2
     refine bodyPost_ret (Qbm rfl _ _ b2 60 #[.int .u64 n3, .slice Av nv cv, .int .i64 p1] (0, 0) _ rfl (set3 HYZ.o) Try.underlying60 rfl (by kernel_rfl)) rfl ?_
     refine ⟨⟨n3, ⟨Av, nv, cv⟩, p1⟩, Row.s ⟨Av, nv, cv⟩ sv :: l, rfl, (((HQZ.o.far (by have := HB6.o; omega)).far (by have := HB6.o; omega)).far (by have := HB6.o; omega)).lower (by have := HB6.o; omega), ?_, Qgq HRZ.o LB2.o, fun ts d r h1 h2 => ?_⟩
     ·rw [← HFE.o _ (Co.Qej HCZ.o)]
      exact up3 HUZ.o GB2.o
     ·have := Co.val HCZ.o HF0.o ts d r h1 h2
      subst this
      refine ⟨rfl, ⟨sv, List.mem_cons_self, ?_⟩, rfl⟩
      obtain ⟨r1, hr1⟩ := okOf HCZ.o HF0.o h1 h2 HNE.o
      exact (HV.o.tr r1 hr1).imp (fun _ _ h => h.mono (fun _ hm => List.mem_cons_of_mem _ hm))
    | ok r =>
     subst hS
     have he : (ef == 0) = true := he
     have hnb : gk ≠ 0 := fun e => by subst e; exact HNE.o 0 HV.o.co
     obtain ⟨m, rfl⟩ : ∃ m, gk = m + 1 := ⟨gk - 1, by omega⟩
     have HIS := J0.m (Qcn 4 ⟨#[125]⟩ HV.o.up)
     have hco : F = (P.Qdr (m + 1) ds r).bind fun l r => (Qar 125 r).bind fun _ r => .ok ⟨n3, l, p1⟩ r := HV.o.co
     rw [P.Qdr] at hco
     by_cases hm : isM 125 r = true
     ·have hv : US.is 4 ⟨#[125]⟩ (.ok r) = true := hm
      rw [hv] at HIS
      rw [if_pos hm] at hco
      have HCE := J0.m (show Co F (fun r => (Qar 125 r).bind fun _ r => .ok (⟨n3, ds, p1⟩ : VeD) r) (US.ok r) from hco)
      clear hm hv hco
      go_wp2_with fail
      refine HIS.o.mono ?_
      rintro e w7 ⟨rfl, hb7⟩
      have HU7 := J0.m (HV.o.up.below hb7)
      have HX7 := J0.m (Qae HV.o.bx hb7)
      have HY7 := J0.m (Qae HV.o.by_ hb7)
      have HR7 := J0.m (HV.o.gr.trans (Qaj hb7 _))
      have HQ7 := J0.m (HV.o.rows.keep (fun k _ hk => hb7.block k hk))
      clear hb7
      have HCL := J0.m (Qa4 HG.o 125 HU7.o)
      go_wp2_with fail
      refine HCL.o.mono ?_
      rintro e wz ⟨rfl, hu, hg⟩
      clear HCL
      have HCZ := J0.m (Co.Qfv HCE.o)
      have HXZ := J0.m (Qas hg HX7.o NB3.o)
      have HYZ := J0.m (Qas hg HY7.o NB2.o)
      have HRZ := J0.m (HR7.o.trans hg)
      have HQZ := J0.m (HQ7.o.grown hg (by have := HB6.o; omega))
      have HUZ := J0.m hu
      clear hu hg
      have d0 := (Qac HXZ.o 0).trans rfl
      have d1 := (Qac HXZ.o 1).trans rfl
      have d2 := (Qac HXZ.o 2).trans rfl
      have y0 := (Qac HYZ.o 0).trans rfl
      have y1 := (Qac HYZ.o 1).trans rfl
      have y2 := (Qac HYZ.o 2).trans rfl
      have g0 := Qaa HYZ.o 0
      have g1 := Qaa HYZ.o 1
      have g2 := Qaa HYZ.o 2
      go_wp2
      refine bodyPost_ret (Qbm rfl _ _ b2 60 #[.int .u64 n3, .slice Av nv cv, .int .i64 p1] (0, 0) _ rfl (set3 HYZ.o) Try.underlying60 rfl (by kernel_rfl)) rfl ?_
      refine ⟨⟨n3, ⟨Av, nv, cv⟩, p1⟩, Row.s ⟨Av, nv, cv⟩ sv :: l, rfl, (((HQZ.o.far (by have := HB6.o; omega)).far (by have := HB6.o; omega)).far (by have := HB6.o; omega)).lower (by have := HB6.o; omega), ?_, Qgq HRZ.o LB2.o, fun ts d r h1 h2 => ?_⟩
      ·rw [← HFE.o _ (Co.Qej HCZ.o)]
       exact up3 HUZ.o GB2.o
      ·have := Co.val HCZ.o HF0.o ts d r h1 h2
       subst this
       refine ⟨rfl, ⟨sv, List.mem_cons_self, ?_⟩, rfl⟩
       obtain ⟨r1, hr1⟩ := okOf HCZ.o HF0.o h1 h2 HNE.o
       exact (HV.o.tr r1 hr1).imp (fun _ _ h => h.mono (fun _ hm => List.mem_cons_of_mem _ hm))
     ·have hv : US.is 4 ⟨#[125]⟩ (.ok r) = false := (by simpa using hm : isM 125 r = false)
      rw [hv] at HIS
      rw [if_neg hm] at hco
      have HCO := J0.m hco
      clear hm hv hco
      go_wp2_with fail
      refine HIS.o.mono ?_
      rintro e w7 ⟨rfl, hb7⟩
      have HU7 := J0.m (HV.o.up.below hb7)
      have HX7 := J0.m (Qae HV.o.bx hb7)
      have HY7 := J0.m (Qae HV.o.by_ hb7)
      have HR7 := J0.m (HV.o.gr.trans (Qaj hb7 _))
      have HQ7 := J0.m (HV.o.rows.keep (fun k _ hk => hb7.block k hk))
      have HZ7 : J0 (B6 ≤ w7.heap.size) := ⟨Nat.le_trans HV.o.bl hb7.size⟩
      clear hb7
      have S0 : (fun w' : World => w'.cell? ⟨b3, 1, none⟩ = some (.slice Av nv cv)) w7.drew := (Qac HX7.o 1).trans rfl
      go_wp2
      refine Qfr (n := 8) (S := fun w' => w'.cell? ⟨b3, 1, none⟩ = some (.slice Av nv cv)) (ds := [7]) #[false, false, false, false, false, false, false, false] (by kernel_rfl) rfl rfl (S0) (fun hHeld => ?_)
      refine Qcd (i := 0) (N := some 49) (v := ?_) (a' := ?_) #[true, false, false, false, false, false, false, false] rfl rfl (by kernel_rfl) (fun _ _ _ h => h) (Or.inl ⟨by rfl, ?_⟩) ?_ ?_
      rotate_left
      ·intro w'
       go_simp
       with_reducible rfl
      rotate_left
      ·simp only [Act.put, List.setIfInBounds_toArray, List.set_cons_zero, List.set_cons_succ, Qbj, Qbp]
       rfl
      refine Qge (i := 1) (N := some 50) (v := ?_) (a' := ?_) #[true, true, false, false, false, false, false, false] rfl rfl (by kernel_rfl) (fun _ _ _ h => h) (Or.inl ⟨by rfl, ?_⟩) hHeld ?_ ?_
      rotate_left
      ·intro w' hS'
       have hS2 : w'.cell? ⟨b3, 1, none⟩ = some (.slice Av nv cv) := hS'
       clear hS'
       go_simp
       with_reducible rfl
      rotate_left
      ·simp only [Act.put, List.setIfInBounds_toArray, List.set_cons_zero, List.set_cons_succ, Qbj, Qbp]
       rfl
      refine Qcd (i := 2) (N := some 51) (v := ?_) (a' := ?_) #[true, true, true, false, false, false, false, false] rfl rfl (by kernel_rfl) (fun _ _ _ h => h) (Or.inl ⟨by rfl, ?_⟩) ?_ ?_
      rotate_left
      ·intro w'
       go_simp
       with_reducible rfl
      rotate_left
      ·simp only [Act.put, List.setIfInBounds_toArray, List.set_cons_zero, List.set_cons_succ, Qbj, Qbp]
       rfl
      refine one_ (i := 3) (N := some 52) #[true, true, true, true, false, false, false, false] rfl rfl (by kernel_rfl) (by decide) (fun K hK => ?_)
      refine Qk4 Try.func72 (by kernel_rfl) rfl #[.pointer (some ⟨g, 0, none⟩)] (by rfl) rfl rfl (by (try simp only [List.map_toArray, List.map_cons, List.map_nil]); first | done | rfl) ?_
      refine (Qkr w7.drew A c L g (.ok r) HG.o HL.o (HU7.o.below (Qaf (Below.refl _ _)))).mono ?_
      rintro e w8 ⟨x, nsx, rfl, hrn, hnew, hu, hg, hval⟩
      have hgd : w7.grownBy w8 (some g) := (Qaj (Qaf (Below.refl _ _)) _).trans hg
      have HX8 := J0.m (Qas hgd HX7.o NB3.o)
      have HY8 := J0.m (Qas hgd HY7.o NB2.o)
      have HR8 := J0.m (HR7.o.trans hgd)
      have HQ8 := J0.m (Qlt (w0 := w7) (HQ7.o.grown hgd (by have := HB6.o; omega)) (r := Row.n x.val nsx) (show Row.holds w8 B6 (Row.n x.val nsx) from Qgs (d := kn) Qj4 hrn (fun _ _ => rfl) (fun k hk => Nat.le_trans HZ7.o (hnew k hk))) (fun k hk => hnew k hk) HQ7.o)
      have HU8 := J0.m hu
      have HVAL := J0.m hval
      have HZ8 : J0 (B6 ≤ w8.heap.size) := ⟨Nat.le_trans HZ7.o hgd.size⟩
      have SC : (fun w' : World => w'.cell? ⟨b3, 1, none⟩ = some (.slice Av nv cv)) w8 := (Qac HX8.o 1).trans rfl
      clear hrn hnew hu hg hval hgd
      refine ⟨_, rfl, ?_⟩
      refine hK.out _ _ (SC) (fun hHeld => ?_)
      clear hK K
      have HBZ := J0.m (show Below w8.heap.size w8 (w8.alloc (.cells #[.int .i64 x.k, .string x.a, .string x.b, .string x.c, .string x.sep, .string x.ty, .slice x.val.A x.val.n x.val.c, .int .i64 x.pl] 62)) from Qab (Below.refl _ _) _)
      have SB : (fun w' : World => w'.cell? ⟨b3, 1, none⟩ = some (.slice Av nv cv)) (w8.alloc (.cells #[.int .i64 x.k, .string x.a, .string x.b, .string x.c, .string x.sep, .string x.ty, .slice x.val.A x.val.n x.val.c, .int .i64 x.pl] 62)) := (Qac (Qae HX8.o HBZ.o) 1).trans rfl
      refine one_ (i := 4) (N := some 53) #[true, true, true, true, true, false, false, false] rfl rfl (by kernel_rfl) (by decide) (fun K hK => ?_)
      refine Qf7 (w1 := ?_) (v := ?_) (by rfl) rfl ?_ ?_
      rotate_left 2
      ·go_simp
       first | rfl | (constructor <;> rfl)
      refine hK.out _ _ (SB) (fun hHeld => ?_)
      clear hK K
      refine one_ (i := 5) (N := some 54) #[true, true, true, true, true, true, false, false] rfl rfl (by kernel_rfl) (by decide) (fun K hK => ?_)
      refine Kd.Qds (N := some 54) rfl kst (w0 := w8) B6 (by rfl) (.tmp 50) (.tmp 53) 58 62 (.agg #[.int .i64 0, .string ⟨#[]⟩, .string ⟨#[]⟩, .string ⟨#[]⟩, .string ⟨#[]⟩, .string ⟨#[]⟩, .slice none 0 0, .int .i64 0]) 120 rfl Try.underlying58 infoS rfl (by decide) (by omega) (.slice Av nv cv) sv x (stCs x) (fun _ => True) (fun _ => False) (by rfl) ⟨w8.heap.size, 0, none⟩ 1 (by rfl) (World.news_of_block (cs := (stCs x).toArray) (t := 62) (fr := (0, 0)) (heap_alloc_new _ _)) (Qnp _ _ _ x) (fun _ hk => hk.elim) (fun _ _ => trivial) (Kd.Qb4 (d := kst) HQ8.o.head HBZ.o) (HBZ.o.mono HZ8.o) (by have := HZ8.o; have := HBZ.o.size; omega) (by have := HV.o.nn; have := HN.o; omega) ?_
      intro v2 w9 ho hb hw
      obtain ⟨A2, c2_, hv2⟩ := Kd.Qcp ho
      rw [List.length_append, List.length_singleton] at hv2
      subst hv2
      have hq9 : Ytbdcndkafaajpaa.A.Rows w9 B6 (Row.s ⟨A2, sv.length + 1, c2_⟩ (sv ++ [x]) :: Row.n x.val nsx :: l) := (HQ8.o.keep (fun k _ hk => HBZ.o.block k hk)).grow hw.grown ho hw.at
      have hne3 : some b3 ≠ (Value.slice Av nv cv).ownBlock := fun e => by have := (HQ8.o.in_ b3 (by rw [e]; exact List.mem_cons_self)).1; have := HB6.o; omega
      have hne2 : some b2 ≠ (Value.slice Av nv cv).ownBlock := fun e => by have := (HQ8.o.in_ b2 (by rw [e]; exact List.mem_cons_self)).1; have := HB6.o; omega
      have HX9 := J0.m (Qbh (Qae HX8.o HBZ.o) hw.grown hne3)
      have HY9 := J0.m (Qbh (Qae HY8.o HBZ.o) hw.grown hne2)
      have HU9 := J0.m (Qey (HU8.o.below HBZ.o) hw.grown (fun k hk => by have := (HQ8.o.in_ k (by rw [← hk]; exact List.mem_cons_self)).1; have := HB6.o; omega))
      have HR9 := J0.m (Qd8 (HR8.o.trans (Qaj HBZ.o _)) hw.grown (fun k hk => by have := (HQ8.o.in_ k (by rw [← hk]; exact List.mem_cons_self)).1; have := HB6.o; omega))
      have HZ9 : J0 (B6 ≤ w9.heap.size) := ⟨by have := HZ8.o; have := HBZ.o.size; have := hw.grown.size; omega⟩
      have HQ9 := J0.m hq9
      have SA : (fun w' : World => w'.cell? ⟨b3, 1, none⟩ = some (.slice Av nv cv)) w9 := (Qac HX9.o 1).trans rfl
      have c1_9 : w9.cell? ⟨b3, 1, none⟩ = some (.slice Av nv cv) := SA
      have f1_9 := Qaa HX9.o 1
      clear ho hb hw hq9 hne3 hne2
      refine hK.out _ _ (SA) (fun hHeld => ?_)
      clear hK K
      refine Qcd (i := 6) (N := some 55) (v := ?_) (a' := ?_) #[true, true, true, true, true, true, true, false] rfl rfl (by kernel_rfl) (fun _ _ _ h => h) (Or.inl ⟨by rfl, ?_⟩) ?_ ?_
      rotate_left
      ·intro w'
       go_simp
       with_reducible rfl
      rotate_left
      ·simp only [Act.put, List.setIfInBounds_toArray, List.set_cons_zero, List.set_cons_succ, Qbj, Qbp]
       rfl
      refine Qil (i := 7) (N := none) #[true, true, true, true, true, true, true, true] rfl rfl (by kernel_rfl) (by decide) (fun K hK => ?_)
      refine Qgz (w1 := ?_) (by rfl) rfl ?_ ?_
      rotate_left
      ·go_simp
       first | rfl | (constructor <;> rfl)
      refine hK.out _ _ ?_
      clear hK K
      refine Qh4 (by kernel_rfl) ?_
      obtain ⟨dd, hdd⟩ : ∃ dd, ∀ d r', P.stepW r = .ok d r' → d = dd := by
       cases hx : P.stepW r with
       | ok d r' => exact ⟨d, fun d' r'' h => by cases h; rfl⟩
       | bad e q => exact ⟨⟨0, ⟨#[]⟩, ⟨#[]⟩, ⟨#[]⟩, ⟨#[]⟩, ⟨#[]⟩, [], 0⟩, fun d' r'' h => by cases h⟩
      go_wp2
      go_roundg m
      case measure => omega
      case rel =>
       refine ⟨(US.ok r).step P.stepW, ⟨A2, sv.length + 1, c2_⟩, sv ++ [x], Row.n x.val nsx :: l, ds ++ [dd], ⟨{ up := ?_, gr := ?_, bx := ?_, by_ := ?_, rows := ?_, bl := ?_, nn := ?_, tr := ?_, co := ?_ }⟩⟩
       ·exact HU9.o.far GB3.o 1 _
       ·exact Qau (g := g) HR9.o LB3.o 1 _
       ·exact (Qa8 HX9.o _).trans (by rfl)
       ·exact Qa2 NB23.o HY9.o _
       ·exact HQ9.o.far (by have := HB6.o; omega)
       ·simpa using HZ9.o
       ·have := HV.o.nn; rw [List.length_append, List.length_singleton]; omega
       ·intro r1 hr1
        obtain ⟨ts, a, h1, h2⟩ := Qct hr1
        cases h1
        have := hdd a r1 h2
        subst this
        obtain ⟨m1, m2, m3, m4, m5, m6, m7, m8⟩ := HVAL.o r a r1 rfl h2
        subst m7
        exact ((HV.o.tr r rfl).imp (fun _ _ h => h.mono (fun _ hm => List.mem_cons_of_mem _ hm))).snoc ⟨m1, m2, m3, m4, m5, m6, List.mem_cons_self, m8⟩
       ·have hc : Co F (fun r => (P.stepW r).bind fun d r => (P.Qdr m (ds ++ [d]) r).bind fun l r => (Qar 125 r).bind fun _ r => .ok (⟨n3, l, p1⟩ : VeD) r) (US.ok r) := by
         show F = _
         rw [HCO.o, Qg3]
        exact Co.call (P := fun _ => True) hc (fun ts a r1 h1 h2 => by cases h1; rw [hdd a r1 h2])
  ·have hk2' : (k2 == 2) = false := beq_eq_false_iff_ne.2 hk2
   go_wp2_with fail
   refine (Qdp HU4.o).mono ?_
   rintro e' w5 ⟨⟨ka, sa, na, pa, ea⟩, hfa, rfl, hb⟩
   have HFA := J0.m hfa
   have HU5 := J0.m (HU4.o.below hb)
   have HR5 := J0.m (HR4.o.trans (Qaj hb _))
   have HX5 := J0.m (Qae HX4.o hb)
   have HY5 := J0.m (Qae HY4.o hb)
   clear hb hfa
   obtain ⟨ga0, ga1, ga2, ga3⟩ := fld ⟨ka, sa, na, pa, ea⟩
   have HCL := J0.m (Qff 90 pa (by decide) HU5.o)
   go_wp2_with fail
   refine HCL.o.mono ?_
   rintro e' w6 ⟨rfl, hu, hg⟩
   clear HCL
   have HU6 := J0.m (show Up w6 A c L g (.bad 90 pa) from hu)
   have HR6 := J0.m (HR5.o.trans hg)
   have HX6 := J0.m (Qas hg HX5.o NB3.o)
   have HY6 := J0.m (Qas hg HY5.o NB2.o)
   clear hu hg
   have HF : J0 (F = .bad 90 pa) := ⟨by
    have h1 : F = (P.numW r).bind fun m r => (Qar 123 r).bind fun _ r => (P.Qdr (r.length + 1) [] r).bind fun l r => (Qar 125 r).bind fun _ r => .ok ⟨m.f2, l, p1⟩ r := HC3.o
    have hp := HFA.o r rfl
    have h2 : P.numW r = .bad 90 pa := by
     have e1 : (hd r).f3 = pa := by rw [← hp]
     have e2 : ((hd r).f0 == 2) = false := by rw [← HT2.o]; exact hk2'
     unfold P.numW P.want
     rw [e2, e1]; rfl
    rw [h1, h2]; rfl⟩
   have HCL := J0.m (Qa4 HG.o 123 HU6.o)
   go_wp2_with fail
   refine HCL.o.mono ?_
   rintro e' wm ⟨rfl, hu, hg⟩
   clear HCL
   have HUM := J0.m (show Up wm A c L g (.bad 90 pa) from hu)
   have HRM := J0.m (HR6.o.trans hg)
   have HXM := J0.m (Qas hg HX6.o NB3.o)
   have HYM := J0.m (Qas hg HY6.o NB2.o)
   clear hu hg
   obtain ⟨em, c3, hem⟩ := HUM.o.fault
   have hem : (em == 0) = false := hem
   go_wp2_with fail
   go_loopg [] 0 (fun k wr => J0 (wr = wm))
   case atStart => exact ⟨rfl⟩
   case round =>
    have hw := hrel.o
    subst hw
    have HCL := J0.m (Qa4 HG.o 125 HUM.o)
    go_wp2_with fail
    refine HCL.o.mono ?_
    rintro e' wz ⟨rfl, hu, hg⟩
    clear HCL
    have HXZ := J0.m (Qas hg HXM.o NB3.o)
    have HYZ := J0.m (Qas hg HYM.o NB2.o)
    have HRZ := J0.m (HRM.o.trans hg)
    have HUZ := J0.m (show Up wz A c L g (.bad 90 pa) from hu)
    clear hu hg
    have d0 := (Qac HXZ.o 0).trans rfl
    have d1 := (Qac HXZ.o 1).trans rfl
    have d2 := (Qac HXZ.o 2).trans rfl
    have y0 := (Qac HYZ.o 0).trans rfl
    have y1 := (Qac HYZ.o 1).trans rfl
    have y2 := (Qac HYZ.o 2).trans rfl
    have g0 := Qaa HYZ.o 0
    have g1 := Qaa HYZ.o 1
    have g2 := Qaa HYZ.o 2
    go_wp2
    refine bodyPost_ret (Qbm rfl _ _ b2 60 #[.int .u64 0, .slice none 0 0, .int .i64 p1] (0, 0) _ rfl (set3 HYZ.o) Try.underlying60 rfl (by kernel_rfl)) rfl ?_
    refine ⟨⟨0, ⟨none, 0, 0⟩, p1⟩, [], rfl, Qfs _ _, ?_, Qgq HRZ.o LB2.o, fun ts d r h1 h2 => (Qp2 HF0.o HF.o h1 h2).elim⟩
    rw [← HFE.o _ (.inr ⟨90, pa, rfl, HF.o⟩)]
    exact up3 HUZ.o GB2.o
def tailV (nm : ByteArray) (p : Int) (k : Nat) (ds : List VeD) (r : List Tk) : Res EvD :=
 if isT 1 P.Qcq r then (P.Qca k ds r).bind fun l r => (Qar 125 r).bind fun _ r => .ok ⟨nm, l, p⟩ r else (Qar 125 r).bind fun _ r => .ok ⟨nm, ds, p⟩ r
theorem Qmx (nm : ByteArray) (p : Int) (k : Nat) (ds : List VeD) (r : List Tk) : ((P.Qca (k + 1) ds r).bind fun l r => (Qar 125 r).bind fun _ r => .ok (⟨nm, l, p⟩ : EvD) r) = (P.Qbq r).bind fun d r => tailV nm p k (ds ++ [d]) r := by
 rw [P.Qca, Qg3]
 congr 1
 funext d r
 unfold tailV
 by_cases ht : isT 1 P.Qcq r = true
 ·rw [if_pos ht, if_pos ht]
 ·rw [if_neg ht, if_neg ht]; rfl
theorem Qkx {r : List Tk} (h : ¬ isT 1 P.Qcq r = true) : P.Qbq r = .bad 90 (hd r).f3 := by
 unfold P.Qbq P.Qdi P.want
 rw [if_neg h]; rfl
theorem Qop {nm : ByteArray} {p : Int} {k : Nat} {ds : List VeD} {r : List Tk} {F : Res EvD} (hco : F = tailV nm p k ds r) (hb : isM 125 r = false) (hne : ∀ p, F ≠ .bad 0 p) :
  ∃ k', (∀ r', (US.ok r).step P.Qbq = .ok r' → k' < k) ∧ Co F (fun r => (P.Qbq r).bind fun d r => tailV nm p k' (ds ++ [d]) r) (.ok r) := by
 by_cases ht : isT 1 P.Qcq r = true
 ·cases k with
  | zero =>
   refine absurd ?_ (hne 0)
   rw [hco]; unfold tailV; rw [if_pos ht]; rfl
  | succ k =>
   refine ⟨k, fun _ _ => Nat.lt_succ_self k, ?_⟩
   show F = _
   rw [hco]
   unfold tailV
   rw [if_pos ht]
   exact Qmx nm p k ds r
 ·have hv := Qkx ht
  refine ⟨0, fun r' h => ?_, ?_⟩
  ·unfold US.step at h; simp only [hv] at h; cases h
  ·show F = (P.Qbq r).bind fun d r => tailV nm p 0 (ds ++ [d]) r
   rw [hv]
   show F = .bad 90 (hd r).f3
   rw [hco]
   unfold tailV
   rw [if_neg ht]
   unfold Qar P.want
   rw [hb]; rfl
theorem tv_end {nm : ByteArray} {p : Int} {k : Nat} {ds : List VeD} {r : List Tk} (hb : isM 125 r = true) : tailV nm p k ds r = (Qar 125 r).bind fun _ r => .ok (⟨nm, ds, p⟩ : EvD) r := by
 unfold tailV
 rw [if_neg]
 intro h
 have h1 := Qbz hb
 have h2 := Qbz h
 rw [h1] at h2
 exact absurd h2 (by decide)
structure rEvL (nm : ByteArray) (p : Int) (w : World) (A : Option Addr) (c : Nat) (L : List Tk) (g b2 b3 B : Nat) (wr : World) (S : US) (v : Sl) (sv : List VeV) (l : List Row) (ds : List VeD) : Prop where
 up : Up wr A c L g S
 gr : w.grownBy wr (some g)
 bx : wr.heap[b3]? = some (.cells #[.string nm, .slice v.A v.n v.c, .int .i64 p] 57 (0, 0))
 by_ : wr.heap[b2]? = some (.cells #[.string ⟨#[]⟩, .slice none 0 0, .int .i64 0] 57 (0, 0))
 rows : Ytbdcndkafaajpaa.A.Rows wr B (Row.v v sv :: l)
 bl : B ≤ wr.heap.size
 tr : ∀ r, S = .ok r → All2 (VeT l) ds sv
theorem Qjt (w : World) (A : Option Addr) (c : Nat) (L : List Tk) (g : Nat) (s : US) (hG : Qdo L) (hL : L.length ≤ 33554432) (h : Up w A c L g s) :
  Calls Try.prog 27 #[.pointer (some ⟨g, 0, none⟩)] w fun e w' => ∃ x l, e = .returned (.agg #[.string x.name, .slice x.vers.A x.vers.n x.vers.c, .int .i64 x.pl]) ∧ Ytbdcndkafaajpaa.A.Rows w' w.heap.size l ∧ Up w' A c L g (s.step P.Qdf) ∧ w.grownBy w' (some g) ∧ ∀ ts d r, s = .ok ts → P.Qdf ts = .ok d r → EvT l d x := by
 obtain ⟨w0, hw0⟩ : ∃ w0, w0 = w.alloc (.cells #[.string ⟨#[]⟩, .slice none 0 0, .int .i64 0] 57) := ⟨_, rfl⟩
 obtain ⟨b2, hb2⟩ : ∃ b2, b2 = w.heap.size := ⟨_, rfl⟩
 have hB0 : Below w.heap.size w w0 := by rw [hw0]; exact Qab (Below.refl _ _) _
 have HU0 := J0.m (h.below hB0)
 have HR0 := J0.m (Qaj hB0 (some g))
 have HY0 := J0.m (show w0.heap[b2]? = some (.cells #[.string ⟨#[]⟩, .slice none 0 0, .int .i64 0] 57 (0, 0)) from by rw [hw0, hb2]; exact Qay _ _)
 have GB2 : J0 (g < b2) := ⟨by rw [hb2]; exact h.glt⟩
 have NB2 : J0 (b2 ≠ g) := ⟨by have := GB2.o; omega⟩
 have LB2 : J0 (w.heap.size ≤ b2) := ⟨by rw [hb2]; exact Nat.le_refl _⟩
 have HB2 := J0.m hb2
 have HW0 := J0.m hw0
 have HG := J0.m hG
 have HL := J0.m hL
 have HSZ := J0.m h.len
 obtain ⟨F, hF0, hFe⟩ := Co.start s P.Qdf
 have HNE : J0 (∀ p, F ≠ .bad 0 p) := ⟨by
  intro p hp
  cases s with
  | ok ts => exact P.Qh3 ts p (Eq.trans (Eq.symm hF0) hp)
  | bad e q =>
   obtain ⟨_, _, _, _, hq, _⟩ := h
   have : F = .bad e q := hF0
   rw [this] at hp
   cases hp
   exact hq.2.2 rfl⟩
 have HF0 := J0.m hF0
 have HFE := J0.m hFe
 have HC0 := J0.m (show Co F (fun ts => (P.Qdi P.Qeg ts).bind fun t r => (P.Qdg r).bind fun m r => (Qar 123 r).bind fun _ r => (P.Qca (r.length + 1) [] r).bind fun l r => (Qar 125 r).bind fun _ r => .ok ⟨m.f1, l, t.f3⟩ r) s from hF0)
 have HCL := J0.m (Qdp HU0.o)
 clear h hw0 hb2 hB0 hG hL hF0 hFe
 go_enter Try.func27, Try.ntmps27
 go_wp2_with fail
 rw [← HW0.o, ← HB2.o]
 refine HCL.o.mono ?_
 rintro e w1 ⟨⟨k1, s1, n1, p1, e1⟩, hfr, rfl, hb⟩
 clear HCL
 have HFR1 := J0.m hfr
 have HU1 := J0.m (HU0.o.below hb)
 have HR1 := J0.m (HR0.o.trans (Qaj hb _))
 have HY1 := J0.m (Qae HY0.o hb)
 clear hb hfr
 obtain ⟨fd0, fd1, fd2, fd3⟩ := fld ⟨k1, s1, n1, p1, e1⟩
 obtain ⟨b3, hb3⟩ : ∃ b3, b3 = w1.heap.size := ⟨_, rfl⟩
 obtain ⟨w2, hw2⟩ : ∃ w2, w2 = w1.alloc (.cells #[.string ⟨#[]⟩, .slice none 0 0, .int .i64 p1] 57) := ⟨_, rfl⟩
 have hb : Below w1.heap.size w1 w2 := by rw [hw2]; exact Qab (Below.refl _ _) _
 have HU2 := J0.m (HU1.o.below hb)
 have HR2 := J0.m (HR1.o.trans (Qaj hb _))
 have HY2 := J0.m (Qae HY1.o hb)
 have HX2 := J0.m (show w2.heap[b3]? = some (.cells #[.string ⟨#[]⟩, .slice none 0 0, .int .i64 p1] 57 (0, 0)) from by rw [hw2, hb3]; exact Qay _ _)
 have GB3 : J0 (g < b3) := ⟨by rw [hb3]; exact HU1.o.glt⟩
 have NB3 : J0 (b3 ≠ g) := ⟨by have := GB3.o; omega⟩
 have LB3 : J0 (w.heap.size ≤ b3) := ⟨by rw [hb3]; exact HR1.o.size⟩
 have NB23 : J0 (b2 ≠ b3) := ⟨by have := Qb3 HY1.o; rw [hb3]; omega⟩
 have HB3 := J0.m hb3
 have HW2 := J0.m hw2
 clear hb hw2 hb3
 have HCL := J0.m (Qb1 HG.o P.Qeg HU2.o)
 go_wp2_with fail
 rw [← HW2.o, ← HB3.o]
 refine HCL.o.mono ?_
 rintro e w3 ⟨rfl, hu, hg⟩
 clear HCL
 have HC3 := J0.m ((HC0.o).word HFR1.o)
 have HU3 := J0.m hu
 have HR3 := J0.m (HR2.o.trans hg)
 have HX3 := J0.m (Qas hg HX2.o NB3.o)
 have HY3 := J0.m (Qas hg HY2.o NB2.o)
 clear hu hg
 have HCL := J0.m (Qbf HG.o HU3.o)
 go_wp2_with fail
 refine HCL.o.mono ?_
 rintro e w4 ⟨⟨⟨k3, nm, n3, p3, e3⟩, hfr, rfl⟩, hu, hg⟩
 clear HCL
 have HC4 := J0.m (Co.Qgm HC3.o hfr)
 have HU4 := J0.m hu
 have HR4 := J0.m (HR3.o.trans hg)
 have HX4 := J0.m (Qas hg HX3.o NB3.o)
 have HY4 := J0.m (Qas hg HY3.o NB2.o)
 clear hu hg hfr
 have c0_4 := (Qac HX4.o 0).trans rfl
 have f0_4 := Qaa HX4.o 0
 obtain ⟨w5, hw5⟩ : ∃ w5, w5 = w4.setCell ⟨b3, 0, none⟩ (.string nm) := ⟨_, rfl⟩
 have HU5 := J0.m (show Up w5 A c L g _ from by rw [hw5]; exact HU4.o.far GB3.o 0 _)
 have HR5 := J0.m (show w.grownBy w5 (some g) from by rw [hw5]; exact Qau (g := g) HR4.o LB3.o 0 _)
 have HX5 := J0.m (show w5.heap[b3]? = some (.cells #[.string nm, .slice none 0 0, .int .i64 p1] 57 (0, 0)) from by rw [hw5]; exact (Qa8 HX4.o _).trans (by rfl))
 have HY5 := J0.m (show w5.heap[b2]? = some (.cells #[.string ⟨#[]⟩, .slice none 0 0, .int .i64 0] 57 (0, 0)) from by rw [hw5]; exact Qa2 NB23.o HY4.o _)
 have HW5 := J0.m hw5
 clear hw5
 have HCL := J0.m (Qa4 HG.o 123 HU5.o)
 go_wp2_with fail
 rw [← HW5.o]
 refine HCL.o.mono ?_
 rintro e wr ⟨rfl, hu, hg⟩
 clear HCL
 have HC6 := J0.m (Co.Qfv HC4.o)
 obtain ⟨S, hS⟩ : ∃ S, S = (((s.step (P.Qdi P.Qeg)).step P.Qdg).step (Qar 123)) := ⟨_, rfl⟩
 have HSL : J0 (∀ r, S = .ok r → r.length ≤ L.length) := ⟨fun r hr => by rw [hS] at hr; exact len4 HSZ.o hr⟩
 obtain ⟨N, hN, hN2⟩ : ∃ N, N ≤ 33554433 ∧ ∀ r, S = .ok r → N = r.length + 1 := by
  cases hx : S with
  | ok r => exact ⟨r.length + 1, by have := HSL.o r hx; have := HL.o; omega, fun r' h => by cases h; rfl⟩
  | bad e p => exact ⟨0, by omega, fun r' h => by cases h⟩
 have HB6 : J0 (b3 < wr.heap.size ∧ b2 < wr.heap.size ∧ g < wr.heap.size ∧ w.heap.size ≤ wr.heap.size) := ⟨Qb3 (Qas hg HX5.o NB3.o), Qb3 (Qas hg HY5.o NB2.o), hu.glt, (HR5.o.trans hg).size⟩
 obtain ⟨Av, nv, cv, sv, l, ds, HV, HCO, HSV⟩ : ∃ Av nv cv sv l ds, J0 (rEvL nm p1 w A c L g b2 b3 wr.heap.size wr S ⟨Av, nv, cv⟩ sv l ds) ∧ J0 (Co F (fun r => (P.Qbq r).bind fun d r => tailV nm p1 (N - 1) (ds ++ [d]) r) S) ∧ J0 (sv.length = 0) := by
  refine ⟨none, 0, 0, [], [], [], ⟨{
   up := by rw [hS]; exact hu
   gr := HR5.o.trans hg
   bx := Qas hg HX5.o NB3.o
   by_ := Qas hg HY5.o NB2.o
   rows := ⟨fun r hr => by rw [List.mem_singleton.1 hr]; exact Kd.Qdd _ _ _ _ _, ⟨fun k hk => by simp [Row.own, Row.sl, Sl.v, Value.ownBlock] at hk, trivial⟩⟩
   bl := Nat.le_refl _
   tr := fun _ _ => trivial }⟩, ⟨?_⟩, ⟨rfl⟩⟩
  rw [hS]
  refine HC6.o.to (fun r hr => ?_)
  rw [← Qmx]
  have := hN2 r (by rw [hS]; exact hr)
  rw [show N - 1 + 1 = r.length + 1 by omega]
 obtain ⟨kv, hkv, hkv2⟩ : ∃ kv, kv = N - 1 ∧ (∀ r, S.step P.Qbq = .ok r → kv < N) := ⟨_, rfl, fun r hr => by
  obtain ⟨ts, a, h1, h2⟩ := Qct hr
  have := hN2 ts h1
  omega⟩
 rw [← hkv] at HCO
 have HKV := J0.m hkv2
 obtain ⟨B6, hB6⟩ : ∃ B6, B6 = wr.heap.size := ⟨_, rfl⟩
 rw [← hB6] at HV HB6
 have HN := J0.m hN
 have HSV0 := HSV
 have HSV : J0 (sv.length ≤ 33554435) := ⟨by have := HSV0.o; omega⟩
 clear hu hg hN2 hS hB6 hkv hkv2 hN
 obtain ⟨dd, hdd⟩ : ∃ dd, ∀ ts d r', S = .ok ts → P.Qbq ts = .ok d r' → d = dd := by
  cases hS : S with
  | ok r =>
   cases hx : P.Qbq r with
   | ok d r' => exact ⟨d, fun ts d' r'' h1 h2 => by cases h1; rw [hx] at h2; cases h2; rfl⟩
   | bad e q => exact ⟨⟨0, [], 0⟩, fun ts d' r'' h1 h2 => by cases h1; rw [hx] at h2; cases h2⟩
  | bad e q => exact ⟨⟨0, [], 0⟩, fun ts d' r'' h1 h2 => by cases h1⟩
 have HDD := J0.m hdd
 have HC7 := J0.m (Co.call (P := fun _ => True) (g' := fun r => tailV nm p1 kv (ds ++ [dd]) r) HCO.o (fun ts a r h1 h2 => by rw [hdd ts a r h1 h2]))
 clear hdd
 have S0 : (fun w' : World => w'.cell? ⟨b3, 1, none⟩ = some (.slice Av nv cv)) wr.drew := (Qac HV.o.bx 1).trans rfl
 go_wp2
 refine Qfr (n := 8) (S := fun w' => w'.cell? ⟨b3, 1, none⟩ = some (.slice Av nv cv)) (ds := [7]) #[false, false, false, false, false, false, false, false] (by kernel_rfl) rfl rfl (S0) (fun hHeld => ?_)
 refine Qcd (i := 0) (N := some 15) (v := ?_) (a' := ?_) #[true, false, false, false, false, false, false, false] rfl rfl (by kernel_rfl) (fun _ _ _ h => h) (Or.inl ⟨by rfl, ?_⟩) ?_ ?_
 rotate_left
 ·intro w'
  go_simp
  with_reducible rfl
 rotate_left
 ·simp only [Act.put, List.setIfInBounds_toArray, List.set_cons_zero, List.set_cons_succ, Qbj, Qbp]
  rfl
 refine Qge (i := 1) (N := some 16) (v := ?_) (a' := ?_) #[true, true, false, false, false, false, false, false] rfl rfl (by kernel_rfl) (fun _ _ _ h => h) (Or.inl ⟨by rfl, ?_⟩) hHeld ?_ ?_
 rotate_left
 ·intro w' hS'
  have hS2 : w'.cell? ⟨b3, 1, none⟩ = some (.slice Av nv cv) := hS'
  clear hS'
  go_simp
  with_reducible rfl
 rotate_left
 ·simp only [Act.put, List.setIfInBounds_toArray, List.set_cons_zero, List.set_cons_succ, Qbj, Qbp]
  rfl
 refine Qcd (i := 2) (N := some 17) (v := ?_) (a' := ?_) #[true, true, true, false, false, false, false, false] rfl rfl (by kernel_rfl) (fun _ _ _ h => h) (Or.inl ⟨by rfl, ?_⟩) ?_ ?_
 rotate_left
 ·intro w'
  go_simp
  with_reducible rfl
 rotate_left
 ·simp only [Act.put, List.setIfInBounds_toArray, List.set_cons_zero, List.set_cons_succ, Qbj, Qbp]
  rfl
 refine one_ (i := 3) (N := some 18) #[true, true, true, true, false, false, false, false] rfl rfl (by kernel_rfl) (by decide) (fun K hK => ?_)
 refine Qk4 Try.func47 (by kernel_rfl) rfl #[.pointer (some ⟨g, 0, none⟩)] (by rfl) rfl rfl (by (try simp only [List.map_toArray, List.map_cons, List.map_nil]); first | done | rfl) ?_
 refine (Qf8 wr.drew A c L g S HG.o HL.o (HV.o.up.below (Qaf (Below.refl _ _)))).mono ?_
 rintro e w8 ⟨x, lx, rfl, hrn, hu, hg, hval⟩
 have hgd : wr.grownBy w8 (some g) := (Qaj (Qaf (Below.refl _ _)) _).trans hg
 have HX8 := J0.m (Qas hgd HV.o.bx NB3.o)
 have HY8 := J0.m (Qas hgd HV.o.by_ NB2.o)
 have HR8 := J0.m (HV.o.gr.trans hgd)
 have HQ8 := J0.m (Qft (w0 := wr) (HV.o.rows.grown hgd (by have := HB6.o; omega)) hrn HV.o.bl HV.o.rows)
 have HU8 := J0.m hu
 have HVAL := J0.m hval
 have HZ8 : J0 (B6 ≤ w8.heap.size) := ⟨Nat.le_trans HV.o.bl hgd.size⟩
 have SC : (fun w' : World => w'.cell? ⟨b3, 1, none⟩ = some (.slice Av nv cv)) w8 := (Qac HX8.o 1).trans rfl
 clear hrn hu hg hval hgd
 refine ⟨_, rfl, ?_⟩
 refine hK.out _ _ (SC) (fun hHeld => ?_)
 clear hK K
 have HBZ := J0.m (show Below w8.heap.size w8 (w8.alloc (.cells #[.int .u64 x.num, .slice x.steps.A x.steps.n x.steps.c, .int .i64 x.pl] 60)) from Qab (Below.refl _ _) _)
 have SB : (fun w' : World => w'.cell? ⟨b3, 1, none⟩ = some (.slice Av nv cv)) (w8.alloc (.cells #[.int .u64 x.num, .slice x.steps.A x.steps.n x.steps.c, .int .i64 x.pl] 60)) := (Qac (Qae HX8.o HBZ.o) 1).trans rfl
 refine one_ (i := 4) (N := some 19) #[true, true, true, true, true, false, false, false] rfl rfl (by kernel_rfl) (by decide) (fun K hK => ?_)
 refine Qf7 (w1 := ?_) (v := ?_) (by rfl) rfl ?_ ?_
 rotate_left 2
 ·go_simp
  first | rfl | (constructor <;> rfl)
 refine hK.out _ _ (SB) (fun hHeld => ?_)
 clear hK K
 refine one_ (i := 5) (N := some 20) #[true, true, true, true, true, true, false, false] rfl rfl (by kernel_rfl) (by decide) (fun K hK => ?_)
 refine Kd.Qds (N := some 20) rfl kve (w0 := w8) B6 (by rfl) (.tmp 16) (.tmp 19) 55 60 (.agg #[.int .u64 0, .slice none 0 0, .int .i64 0]) 40 rfl Try.underlying55 Qre rfl (by decide) (by omega) (.slice Av nv cv) sv x (veCs x) (fun _ => True) (fun _ => False) (by rfl) ⟨w8.heap.size, 0, none⟩ 1 (by rfl) (World.news_of_block (cs := (veCs x).toArray) (t := 60) (fr := (0, 0)) (heap_alloc_new _ _)) (Qk1 _ _ _ x) (fun _ hk => hk.elim) (fun _ _ => trivial) (Kd.Qb4 (d := kve) HQ8.o.head HBZ.o) (HBZ.o.mono HZ8.o) (by have := HZ8.o; have := HBZ.o.size; omega) (by have := HSV.o; omega) ?_
 intro v2 w9 ho hb hw
 obtain ⟨A2, c2_, hv2⟩ := Kd.Qcp ho
 rw [List.length_append, List.length_singleton] at hv2
 subst hv2
 have hq9 : Ytbdcndkafaajpaa.A.Rows w9 B6 (Row.v ⟨A2, sv.length + 1, c2_⟩ (sv ++ [x]) :: (lx ++ l)) := (HQ8.o.keep (fun k _ hk => HBZ.o.block k hk)).grow hw.grown ho hw.at
 have hne3 : some b3 ≠ (Value.slice Av nv cv).ownBlock := fun e => by have := (HQ8.o.in_ b3 (by rw [e]; exact List.mem_cons_self)).1; have := HB6.o; omega
 have hne2 : some b2 ≠ (Value.slice Av nv cv).ownBlock := fun e => by have := (HQ8.o.in_ b2 (by rw [e]; exact List.mem_cons_self)).1; have := HB6.o; omega
 have HX9 := J0.m (Qbh (Qae HX8.o HBZ.o) hw.grown hne3)
 have HY9 := J0.m (Qbh (Qae HY8.o HBZ.o) hw.grown hne2)
 have HU9 := J0.m (Qey (HU8.o.below HBZ.o) hw.grown (fun k hk => by have := (HQ8.o.in_ k (by rw [← hk]; exact List.mem_cons_self)).1; have := HB6.o; omega))
 have HR9 := J0.m (Qd8 (HR8.o.trans (Qaj HBZ.o _)) hw.grown (fun k hk => by have := (HQ8.o.in_ k (by rw [← hk]; exact List.mem_cons_self)).1; have := HB6.o; omega))
 have HZ9 : J0 (B6 ≤ w9.heap.size) := ⟨by have := HZ8.o; have := HBZ.o.size; have := hw.grown.size; omega⟩
 have HQ9 := J0.m hq9
 have SA : (fun w' : World => w'.cell? ⟨b3, 1, none⟩ = some (.slice Av nv cv)) w9 := (Qac HX9.o 1).trans rfl
 have c1_9 : w9.cell? ⟨b3, 1, none⟩ = some (.slice Av nv cv) := SA
 have f1_9 := Qaa HX9.o 1
 clear ho hb hw hq9 hne3 hne2
 refine hK.out _ _ (SA) (fun hHeld => ?_)
 clear hK K
 refine Qcd (i := 6) (N := some 21) (v := ?_) (a' := ?_) #[true, true, true, true, true, true, true, false] rfl rfl (by kernel_rfl) (fun _ _ _ h => h) (Or.inl ⟨by rfl, ?_⟩) ?_ ?_
 rotate_left
 ·intro w'
  go_simp
  with_reducible rfl
 rotate_left
 ·simp only [Act.put, List.setIfInBounds_toArray, List.set_cons_zero, List.set_cons_succ, Qbj, Qbp]
  rfl
 refine Qil (i := 7) (N := none) #[true, true, true, true, true, true, true, true] rfl rfl (by kernel_rfl) (by decide) (fun K hK => ?_)
 refine Qgz (w1 := ?_) (by rfl) rfl ?_ ?_
 rotate_left
 ·go_simp
  first | rfl | (constructor <;> rfl)
 refine hK.out _ _ ?_
 clear hK K
 refine Qh4 (by kernel_rfl) ?_
 obtain ⟨wa, hwa⟩ : ∃ wa, wa = w9.setCell ⟨b3, 1, none⟩ (.slice A2 (sv.length + 1) c2_) := ⟨_, rfl⟩
 have HVA : J0 (rEvL nm p1 w A c L g b2 b3 B6 wa (S.step P.Qbq) ⟨A2, sv.length + 1, c2_⟩ (sv ++ [x]) (lx ++ l) (ds ++ [dd])) := ⟨{
  up := by rw [hwa]; exact HU9.o.far GB3.o 1 _
  gr := by rw [hwa]; exact Qau (g := g) HR9.o LB3.o 1 _
  bx := by rw [hwa]; exact (Qa8 HX9.o _).trans (by rfl)
  by_ := by rw [hwa]; exact Qa2 NB23.o HY9.o _
  rows := by rw [hwa]; exact HQ9.o.far (by have := HB6.o; omega)
  bl := by rw [hwa]; simpa using HZ9.o
  tr := fun r1 hr1 => by
   obtain ⟨ts, a, h1, h2⟩ := Qct hr1
   have hd := HDD.o ts a r1 h1 h2
   subst hd
   exact ((HV.o.tr ts h1).imp (fun _ _ h => h.mono (fun _ hm => List.mem_append_right _ hm))).snoc ((HVAL.o ts a r1 h1 h2).mono (fun _ hm => List.mem_append_left _ hm)) }⟩
 have HWA := J0.m hwa
 clear hwa
 have HSA : J0 ((sv ++ [x]).length = 1) := ⟨by have := HSV0.o; rw [List.length_append, List.length_singleton]; omega⟩
 go_wp2_with fail
 rw [← HWA.o]
 clear HV HCO HSV HSV0
 go_loopg [] N (fun k wr => ∃ S Av nv cv sv l ds kv, J0 (rEvL nm p1 w A c L g b2 b3 B6 wr S ⟨Av, nv, cv⟩ sv l ds) ∧ J0 (Co F (fun r => tailV nm p1 kv ds r) S) ∧ J0 ((∀ r, S = .ok r → kv < k) ∧ sv.length + k ≤ N + 1))
 case atStart => exact ⟨_, _, _, _, _, _, _, _, HVA, HC7, ⟨HKV.o, by have := HSA.o; omega⟩⟩
 case round =>
  clear HSA HC7 HVA HWA HVAL HDD HKV
  obtain ⟨S, Av, nv, cv, sv, l, ds, kv, HV, HCO, HKV⟩ := hrel
  obtain ⟨ef, c3, he⟩ := HV.o.up.fault
  cases hS : S with
  | bad e q =>
   subst hS
   have he : (ef == 0) = false := he
   have HCE := J0.m (show Co F (fun r => (Qar 125 r).bind fun _ r => .ok (⟨nm, ds, p1⟩ : EvD) r) (US.bad e q) from HCO.o)
   go_wp2_with fail
   have HCL := J0.m (Qa4 HG.o 125 HV.o.up)
   go_wp2_with fail
   refine HCL.o.mono ?_
   rintro e wz ⟨rfl, hu, hg⟩
   clear HCL
   have HCZ := J0.m (Co.Qfv HCE.o)
   have HXZ := J0.m (Qas hg HV.o.bx NB3.o)
   have HYZ := J0.m (Qas hg HV.o.by_ NB2.o)
   have HRZ := J0.m (HV.o.gr.trans hg)
   have HQZ := J0.m (HV.o.rows.grown hg (by have := HB6.o; omega))
   have HUZ := J0.m hu
   clear hu hg
   have d0 := (Qac HXZ.o 0).trans rfl
   have d1 := (Qac HXZ.o 1).trans rfl
   have d2 := (Qac HXZ.o 2).trans rfl
   have y0 := (Qac HYZ.o 0).trans rfl
   have y1 := (Qac HYZ.o 1).trans rfl
   have y2 := (Qac HYZ.o 2).trans rfl
   have g0 := Qaa HYZ.o 0
   have g1 := Qaa HYZ.o 1
   have g2 := Qaa HYZ.o 2
   go_wp2
   refine bodyPost_ret (Qbm rfl _ _ b2 57 #[.string nm, .slice Av nv cv, .int .i64 p1] (0, 0) _ rfl (set3 HYZ.o) Try.underlying57 rfl (by kernel_rfl)) rfl ?_
   refine ⟨⟨nm, ⟨Av, nv, cv⟩, p1⟩, Row.v ⟨Av, nv, cv⟩ sv :: l, rfl, (((HQZ.o.far (by have := HB6.o; omega)).far (by have := HB6.o; omega)).far (by have := HB6.o; omega)).lower (by have := HB6.o; omega), ?_, Qgq HRZ.o LB2.o, fun ts d r h1 h2 => ?_⟩
   ·rw [← HFE.o _ (Co.Qej HCZ.o)]
    exact up3 HUZ.o GB2.o
   ·have := Co.val HCZ.o HF0.o ts d r h1 h2
    subst this
    refine ⟨rfl, ⟨sv, List.mem_cons_self, ?_⟩, rfl⟩
    obtain ⟨r1, hr1⟩ := okOf HCZ.o HF0.o h1 h2 HNE.o
    exact (HV.o.tr r1 hr1).imp (fun _ _ h => h.mono (fun _ hm => List.mem_cons_of_mem _ hm))
  | ok r =>
   subst hS
   have he : (ef == 0) = true := he
   have HIS := J0.m (Qcn 4 ⟨#[125]⟩ HV.o.up)
   have hco : F = tailV nm p1 kv ds r := HCO.o
   by_cases hm : isM 125 r = true
   ·have hv : US.is 4 ⟨#[125]⟩ (.ok r) = true := hm
    rw [hv] at HIS
    rw [tv_end hm] at hco
    have HCE := J0.m (show Co F (fun r => (Qar 125 r).bind fun _ r => .ok (⟨nm, ds, p1⟩ : EvD) r) (US.ok r) from hco)
    clear hm hv hco
    go_wp2_with fail
    refine HIS.o.mono ?_
    rintro e w7 ⟨rfl, hb7⟩
    have HU7 := J0.m (HV.o.up.below hb7)
    have HX7 := J0.m (Qae HV.o.bx hb7)
    have HY7 := J0.m (Qae HV.o.by_ hb7)
    have HR7 := J0.m (HV.o.gr.trans (Qaj hb7 _))
    have HQ7 := J0.m (HV.o.rows.keep (fun k _ hk => hb7.block k hk))
    clear hb7
    have HCL := J0.m (Qa4 HG.o 125 HU7.o)
    go_wp2_with fail
    refine HCL.o.mono ?_
    rintro e wz ⟨rfl, hu, hg⟩
    clear HCL
    have HCZ := J0.m (Co.Qfv HCE.o)
    have HXZ := J0.m (Qas hg HX7.o NB3.o)
    have HYZ := J0.m (Qas hg HY7.o NB2.o)
    have HRZ := J0.m (HR7.o.trans hg)
    have HQZ := J0.m (HQ7.o.grown hg (by have := HB6.o; omega))
    have HUZ := J0.m hu
    clear hu hg
    have d0 := (Qac HXZ.o 0).trans rfl
    have d1 := (Qac HXZ.o 1).trans rfl
    have d2 := (Qac HXZ.o 2).trans rfl
    have y0 := (Qac HYZ.o 0).trans rfl
    have y1 := (Qac HYZ.o 1).trans rfl
    have y2 := (Qac HYZ.o 2).trans rfl
    have g0 := Qaa HYZ.o 0
    have g1 := Qaa HYZ.o 1
    have g2 := Qaa HYZ.o 2
    go_wp2
    refine bodyPost_ret (Qbm rfl _ _ b2 57 #[.string nm, .slice Av nv cv, .int .i64 p1] (0, 0) _ rfl (set3 HYZ.o) Try.underlying57 rfl (by kernel_rfl)) rfl ?_
    refine ⟨⟨nm, ⟨Av, nv, cv⟩, p1⟩, Row.v ⟨Av, nv, cv⟩ sv :: l, rfl, (((HQZ.o.far (by have := HB6.o; omega)).far (by have := HB6.o; omega)).far (by have := HB6.o; omega)).lower (by have := HB6.o; omega), ?_, Qgq HRZ.o LB2.o, fun ts d r h1 h2 => ?_⟩
    ·rw [← HFE.o _ (Co.Qej HCZ.o)]
     exact up3 HUZ.o GB2.o
    ·have := Co.val HCZ.o HF0.o ts d r h1 h2
     subst this
     refine ⟨rfl, ⟨sv, List.mem_cons_self, ?_⟩, rfl⟩
     obtain ⟨r1, hr1⟩ := okOf HCZ.o HF0.o h1 h2 HNE.o
     exact (HV.o.tr r1 hr1).imp (fun _ _ h => h.mono (fun _ hm => List.mem_cons_of_mem _ hm))
   ·have hmf : isM 125 r = false := by simpa using hm
    have hv : US.is 4 ⟨#[125]⟩ (.ok r) = false := hmf
    rw [hv] at HIS
    obtain ⟨kq, hkq, hcq⟩ := Qop hco hmf HNE.o
    have hkr := HKV.o.1 r rfl
    have hsv := HKV.o.2
    have HKQ := J0.m (fun r' hr' => Nat.lt_of_lt_of_le (hkq r' hr') (show kv ≤ gk - 1 by omega))
    have HGK : J0 (0 < gk ∧ sv.length + gk ≤ N + 1) := ⟨by omega⟩
    have HSV : J0 (sv.length ≤ 33554435) := ⟨by have := HN.o; omega⟩
    clear HKV HCO
    obtain ⟨kv, hkv⟩ : ∃ kv', kv' = kq := ⟨_, rfl⟩
    rw [← hkv] at hcq HKQ
    have HCO := J0.m hcq
    clear hm hmf hv hco hkq hcq hkr hsv hkv
    go_wp2_with fail
    refine HIS.o.mono ?_
    rintro e w7 ⟨rfl, hb7⟩
    have HVB : J0 (rEvL nm p1 w A c L g b2 b3 B6 w7 (.ok r) ⟨Av, nv, cv⟩ sv l ds) := ⟨{
     up := HV.o.up.below hb7
     gr := HV.o.gr.trans (Qaj hb7 _)
     bx := Qae HV.o.bx hb7
     by_ := Qae HV.o.by_ hb7
     rows := HV.o.rows.keep (fun k _ hk => hb7.block k hk)
     bl := Nat.le_trans HV.o.bl hb7.size
     tr := HV.o.tr }⟩
    clear hb7 HV HIS
    have HV := HVB
    clear HVB
    obtain ⟨S, hS⟩ : ∃ S, S = US.ok r := ⟨_, rfl⟩
    rw [← hS] at HV HCO HKQ
    clear hS
    obtain ⟨dd, hdd⟩ : ∃ dd, ∀ ts d r', S = .ok ts → P.Qbq ts = .ok d r' → d = dd := by
     cases hS : S with
     | ok r =>
      cases hx : P.Qbq r with
      | ok d r' => exact ⟨d, fun ts d' r'' h1 h2 => by cases h1; rw [hx] at h2; cases h2; rfl⟩
      | bad e q => exact ⟨⟨0, [], 0⟩, fun ts d' r'' h1 h2 => by cases h1; rw [hx] at h2; cases h2⟩
     | bad e q => exact ⟨⟨0, [], 0⟩, fun ts d' r'' h1 h2 => by cases h1⟩
    have HDD := J0.m hdd
    have HC7 := J0.m (Co.call (P := fun _ => True) (g' := fun r => tailV nm p1 kv (ds ++ [dd]) r) HCO.o (fun ts a r h1 h2 => by rw [hdd ts a r h1 h2]))
    clear hdd
    have S0 : (fun w' : World => w'.cell? ⟨b3, 1, none⟩ = some (.slice Av nv cv)) w7.drew := (Qac HV.o.bx 1).trans rfl
    go_wp2
    refine Qfr (n := 8) (S := fun w' => w'.cell? ⟨b3, 1, none⟩ = some (.slice Av nv cv)) (ds := [7]) #[false, false, false, false, false, false, false, false] (by kernel_rfl) rfl rfl (S0) (fun hHeld => ?_)
    refine Qcd (i := 0) (N := some 32) (v := ?_) (a' := ?_) #[true, false, false, false, false, false, false, false] rfl rfl (by kernel_rfl) (fun _ _ _ h => h) (Or.inl ⟨by rfl, ?_⟩) ?_ ?_
    rotate_left
    ·intro w'
     go_simp
     with_reducible rfl
    rotate_left
    ·simp only [Act.put, List.setIfInBounds_toArray, List.set_cons_zero, List.set_cons_succ, Qbj, Qbp]
     rfl
    refine Qge (i := 1) (N := some 33) (v := ?_) (a' := ?_) #[true, true, false, false, false, false, false, false] rfl rfl (by kernel_rfl) (fun _ _ _ h => h) (Or.inl ⟨by rfl, ?_⟩) hHeld ?_ ?_
    rotate_left
    ·intro w' hS'
     have hS2 : w'.cell? ⟨b3, 1, none⟩ = some (.slice Av nv cv) := hS'
     clear hS'
     go_simp
     with_reducible rfl
    rotate_left
    ·simp only [Act.put, List.setIfInBounds_toArray, List.set_cons_zero, List.set_cons_succ, Qbj, Qbp]
     rfl
    refine Qcd (i := 2) (N := some 34) (v := ?_) (a' := ?_) #[true, true, true, false, false, false, false, false] rfl rfl (by kernel_rfl) (fun _ _ _ h => h) (Or.inl ⟨by rfl, ?_⟩) ?_ ?_
    rotate_left
    ·intro w'
     go_simp
     with_reducible rfl
    rotate_left
    ·simp only [Act.put, List.setIfInBounds_toArray, List.set_cons_zero, List.set_cons_succ, Qbj, Qbp]
     rfl
    refine one_ (i := 3) (N := some 35) #[true, true, true, true, false, false, false, false] rfl rfl (by kernel_rfl) (by decide) (fun K hK => ?_)
    refine Qk4 Try.func47 (by kernel_rfl) rfl #[.pointer (some ⟨g, 0, none⟩)] (by rfl) rfl rfl (by (try simp only [List.map_toArray, List.map_cons, List.map_nil]); first | done | rfl) ?_
    refine (Qf8 w7.drew A c L g S HG.o HL.o (HV.o.up.below (Qaf (Below.refl _ _)))).mono ?_
    rintro e w8 ⟨x, lx, rfl, hrn, hu, hg, hval⟩
    have hgd : w7.grownBy w8 (some g) := (Qaj (Qaf (Below.refl _ _)) _).trans hg
    have HX8 := J0.m (Qas hgd HV.o.bx NB3.o)
    have HY8 := J0.m (Qas hgd HV.o.by_ NB2.o)
    have HR8 := J0.m (HV.o.gr.trans hgd)
    have HQ8 := J0.m (Qft (w0 := w7) (HV.o.rows.grown hgd (by have := HB6.o; omega)) hrn HV.o.bl HV.o.rows)
    have HU8 := J0.m hu
    have HVAL := J0.m hval
    have HZ8 : J0 (B6 ≤ w8.heap.size) := ⟨Nat.le_trans HV.o.bl hgd.size⟩
    have SC : (fun w' : World => w'.cell? ⟨b3, 1, none⟩ = some (.slice Av nv cv)) w8 := (Qac HX8.o 1).trans rfl
    clear hrn hu hg hval hgd
    refine ⟨_, rfl, ?_⟩
    refine hK.out _ _ (SC) (fun hHeld => ?_)
    clear hK K
    have HBZ := J0.m (show Below w8.heap.size w8 (w8.alloc (.cells #[.int .u64 x.num, .slice x.steps.A x.steps.n x.steps.c, .int .i64 x.pl] 60)) from Qab (Below.refl _ _) _)
    have SB : (fun w' : World => w'.cell? ⟨b3, 1, none⟩ = some (.slice Av nv cv)) (w8.alloc (.cells #[.int .u64 x.num, .slice x.steps.A x.steps.n x.steps.c, .int .i64 x.pl] 60)) := (Qac (Qae HX8.o HBZ.o) 1).trans rfl
    refine one_ (i := 4) (N := some 36) #[true, true, true, true, true, false, false, false] rfl rfl (by kernel_rfl) (by decide) (fun K hK => ?_)
    refine Qf7 (w1 := ?_) (v := ?_) (by rfl) rfl ?_ ?_
    rotate_left 2
    ·go_simp
     first | rfl | (constructor <;> rfl)
    refine hK.out _ _ (SB) (fun hHeld => ?_)
    clear hK K
    refine one_ (i := 5) (N := some 37) #[true, true, true, true, true, true, false, false] rfl rfl (by kernel_rfl) (by decide) (fun K hK => ?_)
    refine Kd.Qds (N := some 37) rfl kve (w0 := w8) B6 (by rfl) (.tmp 33) (.tmp 36) 55 60 (.agg #[.int .u64 0, .slice none 0 0, .int .i64 0]) 40 rfl Try.underlying55 Qre rfl (by decide) (by omega) (.slice Av nv cv) sv x (veCs x) (fun _ => True) (fun _ => False) (by rfl) ⟨w8.heap.size, 0, none⟩ 1 (by rfl) (World.news_of_block (cs := (veCs x).toArray) (t := 60) (fr := (0, 0)) (heap_alloc_new _ _)) (Qk1 _ _ _ x) (fun _ hk => hk.elim) (fun _ _ => trivial) (Kd.Qb4 (d := kve) HQ8.o.head HBZ.o) (HBZ.o.mono HZ8.o) (by have := HZ8.o; have := HBZ.o.size; omega) (by have := HSV.o; omega) ?_
    intro v2 w9 ho hb hw
    obtain ⟨A2, c2_, hv2⟩ := Kd.Qcp ho
    rw [List.length_append, List.length_singleton] at hv2
    subst hv2
    have hq9 : Ytbdcndkafaajpaa.A.Rows w9 B6 (Row.v ⟨A2, sv.length + 1, c2_⟩ (sv ++ [x]) :: (lx ++ l)) := (HQ8.o.keep (fun k _ hk => HBZ.o.block k hk)).grow hw.grown ho hw.at
    have hne3 : some b3 ≠ (Value.slice Av nv cv).ownBlock := fun e => by have := (HQ8.o.in_ b3 (by rw [e]; exact List.mem_cons_self)).1; have := HB6.o; omega
    have hne2 : some b2 ≠ (Value.slice Av nv cv).ownBlock := fun e => by have := (HQ8.o.in_ b2 (by rw [e]; exact List.mem_cons_self)).1; have := HB6.o; omega
    have HX9 := J0.m (Qbh (Qae HX8.o HBZ.o) hw.grown hne3)
    have HY9 := J0.m (Qbh (Qae HY8.o HBZ.o) hw.grown hne2)
    have HU9 := J0.m (Qey (HU8.o.below HBZ.o) hw.grown (fun k hk => by have := (HQ8.o.in_ k (by rw [← hk]; exact List.mem_cons_self)).1; have := HB6.o; omega))
    have HR9 := J0.m (Qd8 (HR8.o.trans (Qaj HBZ.o _)) hw.grown (fun k hk => by have := (HQ8.o.in_ k (by rw [← hk]; exact List.mem_cons_self)).1; have := HB6.o; omega))
    have HZ9 : J0 (B6 ≤ w9.heap.size) := ⟨by have := HZ8.o; have := HBZ.o.size; have := hw.grown.size; omega⟩
    have HQ9 := J0.m hq9
    have SA : (fun w' : World => w'.cell? ⟨b3, 1, none⟩ = some (.slice Av nv cv)) w9 := (Qac HX9.o 1).trans rfl
    have c1_9 : w9.cell? ⟨b3, 1, none⟩ = some (.slice Av nv cv) := SA
    have f1_9 := Qaa HX9.o 1
    clear ho hb hw hq9 hne3 hne2
    refine hK.out _ _ (SA) (fun hHeld => ?_)
    clear hK K
    refine Qcd (i := 6) (N := some 38) (v := ?_) (a' := ?_) #[true, true, true, true, true, true, true, false] rfl rfl (by kernel_rfl) (fun _ _ _ h => h) (Or.inl ⟨by rfl, ?_⟩) ?_ ?_
    rotate_left
    ·intro w'
     go_simp
     with_reducible rfl
    rotate_left
    ·simp only [Act.put, List.setIfInBounds_toArray, List.set_cons_zero, List.set_cons_succ, Qbj, Qbp]
     rfl
    refine Qil (i := 7) (N := none) #[true, true, true, true, true, true, true, true] rfl rfl (by kernel_rfl) (by decide) (fun K hK => ?_)
    refine Qgz (w1 := ?_) (by rfl) rfl ?_ ?_
    rotate_left
    ·go_simp
     first | rfl | (constructor <;> rfl)
    refine hK.out _ _ ?_
    clear hK K
    refine Qh4 (by kernel_rfl) ?_
    obtain ⟨wa, hwa⟩ : ∃ wa, wa = w9.setCell ⟨b3, 1, none⟩ (.slice A2 (sv.length + 1) c2_) := ⟨_, rfl⟩
    have HVA : J0 (rEvL nm p1 w A c L g b2 b3 B6 wa (S.step P.Qbq) ⟨A2, sv.length + 1, c2_⟩ (sv ++ [x]) (lx ++ l) (ds ++ [dd])) := ⟨{
     up := by rw [hwa]; exact HU9.o.far GB3.o 1 _
     gr := by rw [hwa]; exact Qau (g := g) HR9.o LB3.o 1 _
     bx := by rw [hwa]; exact (Qa8 HX9.o _).trans (by rfl)
     by_ := by rw [hwa]; exact Qa2 NB23.o HY9.o _
     rows := by rw [hwa]; exact HQ9.o.far (by have := HB6.o; omega)
     bl := by rw [hwa]; simpa using HZ9.o
     tr := fun r1 hr1 => by
      obtain ⟨ts, a, h1, h2⟩ := Qct hr1
      have hd := HDD.o ts a r1 h1 h2
      subst hd
      exact ((HV.o.tr ts h1).imp (fun _ _ h => h.mono (fun _ hm => List.mem_append_right _ hm))).snoc ((HVAL.o ts a r1 h1 h2).mono (fun _ hm => List.mem_append_left _ hm)) }⟩
    have HWA := J0.m hwa
    clear hwa
    go_wp2
    go_roundg (gk - 1)
    case measure => have := HGK.o; omega
    case rel =>
     rw [← HWA.o]
     exact ⟨_, _, _, _, _, _, _, _, HVA, HC7, ⟨HKQ.o, by have := HGK.o; rw [List.length_append, List.length_singleton]; omega⟩⟩
end Go.Proofs.Ytbdcndkafaajpaa.R
end
