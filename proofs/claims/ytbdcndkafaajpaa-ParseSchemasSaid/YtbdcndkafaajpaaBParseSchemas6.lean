/- Walks and plain laws behind ParseSchemas. Conditions: those in the theorems. -/
import Derived.KernelRfl
import Derived.Test.YtbdcndkafaajpaaBParseSchemas0
import Derived.Test.YtbdcndkafaajpaaBParseSchemas1
import Derived.Test.YtbdcndkafaajpaaBParseSchemas2
import Derived.Test.YtbdcndkafaajpaaBParseSchemas3
import Derived.Test.YtbdcndkafaajpaaBParseSchemas4
import Derived.Test.YtbdcndkafaajpaaBParseSchemas5
set_option linter.unusedVariables false
set_option linter.unusedSimpArgs false
set_option maxHeartbeats 16000000
set_option maxRecDepth 100000
section
attribute [local go_sem high] Go.Proofs.Ytbdcndkafaajpaa.A.eqN
namespace Go.Proofs.Ytbdcndkafaajpaa.A
open Go.RowKit Ytbdcndkafaajpaa.X YtbdcndkafaajpaaW.PrintWords YtbdcndkafaajpaaW.PrintLast YtbdcndkafaajpaaW.PrintMore
open Ytbdcndkafaajpaa.P (Nd EO Res hd isT isM Qar mxl comb mk1 StD VeD EvD Out Qdc Qdk Qex)
theorem Qhx (w : World) (A1 A2 : Option Addr) (c1 c2 : Nat) (xs ys : List Nd) (more : Int) (pl : Bool) (h1 : Kd.C kn w A1 xs.length xs) (h2 : Kd.C kn w A2 ys.length ys) (hx : xs.length ≤ 9223372036854775807) :
  Calls Try.prog 17 #[.slice A1 xs.length c1, .slice A2 ys.length c2, .int .i64 more, .bool pl] w fun e w' => e = .returned (.bool (Qg7 more pl xs ys)) ∧ Below w.heap.size w w' := by
 have H1 := J0.m h1
 have H2 := J0.m h2
 have HX := J0.m hx
 clear h1 h2 hx
 by_cases hl : xs.length = ys.length
 ·have d0 : ((xs.length : Int) != (ys.length : Int)) = false := by rw [hl]; simp
  have HLE := J0.m hl
  clear hl
  go_enter Try.func17, Try.ntmps17
  go_wp2_with fail
  go_loopw [9] (fun ti wr => ∃ i : Nat, ti = .int .i64 (i : Int) ∧ J0 (i ≤ xs.length) ∧ J0 (allB (Qgl more pl) (xs.drop i) (ys.drop i) = Qg7 more pl xs ys) ∧ J0 (Below w.heap.size w wr)) (fun ti _ => xs.length - left ti)
  case atStart => exact ⟨0, rfl, ⟨Nat.zero_le _⟩, ⟨rfl⟩, ⟨Below.refl _ _⟩⟩
  case round =>
   obtain ⟨i, rfl, hi, he, hb⟩ := hrel
   by_cases hlt : i < xs.length
   ·have dl : ((i : Int) < (xs.length : Int)) := by omega
    have dl2 : decide ((i : Int) < (xs.length : Int)) = true := decide_eq_true dl
    have hi2 : (i : Int) < (ys.length : Int) := by rw [← HLE.o]; exact dl
    obtain ⟨ad1, hA1, x0, x1, x2, x3, x4⟩ := at_N (Kd.Qck H1.o hb.o) i hlt
    obtain ⟨ad2, hA2, _⟩ := at_N (Kd.Qck H2.o hb.o) i (by rw [← HLE.o]; exact hlt)
    have hst := he.o
    rw [Qfd (Qgl more pl) zN i xs ys hlt (by rw [← HLE.o]; exact hlt)] at hst
    obtain ⟨X, hX⟩ : ∃ X, X = xs.getD i zN := ⟨_, rfl⟩
    rw [← hX] at x0 x1 x2 x3 x4 hst
    obtain ⟨a0, a1, a2, a3, a4⟩ := X
    obtain ⟨Y, hY⟩ : ∃ Y, Y = ys.getD i zN := ⟨_, rfl⟩
    obtain ⟨V, hV⟩ : ∃ V, V = (if pl then wrap64 (a4 + more) else Y.f4) := ⟨_, rfl⟩
    obtain ⟨W1, hW1⟩ : ∃ W1, W1 = wr.alloc (.cells #[.int .i64 a0, .int .i64 a1, .int .u64 a2, .string a3, .int .i64 (wrap64 (a4 + more))] 49) := ⟨_, rfl⟩
    obtain ⟨W, hW⟩ : ∃ W, W = wr.alloc (.cells #[.int .i64 a0, .int .i64 a1, .int .u64 a2, .string a3, .int .i64 V] 49) := ⟨_, rfl⟩
    have hBW1 : Below wr.heap.size wr W1 := by rw [hW1]; exact Qab (Below.refl _ _) _
    have hBW : Below wr.heap.size wr W := by rw [hW]; exact Qab (Below.refl _ _) _
    have hbn : W.heap[wr.heap.size]? = some (.cells #[.int .i64 a0, .int .i64 a1, .int .u64 a2, .string a3, .int .i64 V] 49 (0, 0)) := by rw [hW]; exact Qay _ _
    obtain ⟨z0, z1, z2, z3, z4⟩ := Qdt (n := ⟨a0, a1, a2, a3, V⟩) hbn
    obtain ⟨_, e1, _, _, _, _, v4⟩ := at_N (Kd.Qck H2.o (Qak hb.o hBW1)) i (by rw [← HLE.o]; exact hlt)
    obtain ⟨_, e2, y0, y1, y2, y3, y4⟩ := at_N (Kd.Qck H2.o (Qak hb.o hBW)) i (by rw [← HLE.o]; exact hlt)
    rw [hA2] at e1 e2
    injection e1 with e1
    injection e2 with e2
    subst e1 e2 hA1 hA2
    rw [← hY] at v4 y0 y1 y2 y3 y4 hst
    obtain ⟨b0, b1, b2, b3, b4⟩ := Y
    have hnx := Qj0 i xs.length HX.o hlt
    have hls := Qkz i xs.length HX.o hlt
    have HST := J0.m hst
    have HLT := J0.m hlt
    have HNX := J0.m hnx
    have HLS := J0.m hls
    have HBW := J0.m (Qak hb.o hBW)
    have HW := J0.m hW
    have HV := J0.m hV
    rw [hW1] at v4
    clear hst hlt hnx hls hBW hBW1 hW1 hbn hX hY
    clear HV
    cases pl with
    | false =>
     simp only [if_true, Bool.false_eq_true, if_false] at hV
     subst hV
     rw [hW] at z0 z1 z2 z3 z4 y0 y1 y2 y3 y4
     clear hW
     go_wp2_with fail
     go_quiet (fail)
     obtain ⟨q, hq⟩ : ∃ q, q = (!(a0 == b0) || (!(a1 == b1) || (!(a2 == b2) || !(a3.toList == b3.toList)))) := ⟨_, rfl⟩
     rw [← hq]
     have HQ := J0.m hq
     clear hq
     cases q with
     | true =>
      go_wp2
      go_ret
      refine ⟨?_, Qad (by rw [← HW.o]; exact HBW.o) _⟩
      rw [← HST.o]
      have : Qgl more false ⟨a0, a1, a2, a3, a4⟩ ⟨b0, b1, b2, b3, V⟩ = false := by
       have h := HQ.o
       unfold Qgl
       revert h
       simp only [if_true, Bool.false_eq_true, if_false, beq_self_eq_true, Bool.and_true]
       cases (a0 == b0) <;> cases (a1 == b1) <;> cases (a2 == b2) <;> cases (a3.toList == b3.toList) <;> simp
      rw [this, Bool.false_and]
      rfl
     | false =>
      go_wp2
      rw [HNX.o]
      go_roundw
      case measure => have := HLS.o; have := HLT.o; simp only [left, Int.toNat_natCast]; omega
      case rel =>
       refine ⟨i + 1, rfl, ⟨HLT.o⟩, ⟨?_⟩, ⟨Qad (by rw [← HW.o]; exact HBW.o) _⟩⟩
       rw [← HST.o]
       have : Qgl more false ⟨a0, a1, a2, a3, a4⟩ ⟨b0, b1, b2, b3, V⟩ = true := by
        have h := HQ.o
        unfold Qgl
        revert h
        simp only [if_true, Bool.false_eq_true, if_false, beq_self_eq_true, Bool.and_true]
        cases (a0 == b0) <;> cases (a1 == b1) <;> cases (a2 == b2) <;> cases (a3.toList == b3.toList) <;> simp
       rw [this, Bool.true_and]
    | true =>
     simp only [if_true, Bool.false_eq_true, if_false] at hV
     subst hV
     rw [hW] at z0 z1 z2 z3 z4 y0 y1 y2 y3 y4
     clear hW
     go_wp2_with fail
     go_quiet (fail)
     obtain ⟨q, hq⟩ : ∃ q, q = (!(a0 == b0) || (!(a1 == b1) || (!(a2 == b2) || (!(a3.toList == b3.toList) || !(wrap64 (a4 + more) == b4))))) := ⟨_, rfl⟩
     rw [← hq]
     have HQ := J0.m hq
     clear hq
     cases q with
     | true =>
      go_wp2
      go_ret
      refine ⟨?_, Qad (by rw [← HW.o]; exact HBW.o) _⟩
      rw [← HST.o]
      have : Qgl more true ⟨a0, a1, a2, a3, a4⟩ ⟨b0, b1, b2, b3, b4⟩ = false := by
       have h := HQ.o
       unfold Qgl
       revert h
       simp only [if_true, Bool.false_eq_true, if_false, beq_self_eq_true, Bool.and_true]
       cases (a0 == b0) <;> cases (a1 == b1) <;> cases (a2 == b2) <;> cases (a3.toList == b3.toList) <;> cases (wrap64 (a4 + more) == b4) <;> simp
      rw [this, Bool.false_and]
      rfl
     | false =>
      go_wp2
      rw [HNX.o]
      go_roundw
      case measure => have := HLS.o; have := HLT.o; simp only [left, Int.toNat_natCast]; omega
      case rel =>
       refine ⟨i + 1, rfl, ⟨HLT.o⟩, ⟨?_⟩, ⟨Qad (by rw [← HW.o]; exact HBW.o) _⟩⟩
       rw [← HST.o]
       have : Qgl more true ⟨a0, a1, a2, a3, a4⟩ ⟨b0, b1, b2, b3, b4⟩ = true := by
        have h := HQ.o
        unfold Qgl
        revert h
        simp only [if_true, Bool.false_eq_true, if_false, beq_self_eq_true, Bool.and_true]
        cases (a0 == b0) <;> cases (a1 == b1) <;> cases (a2 == b2) <;> cases (a3.toList == b3.toList) <;> cases (wrap64 (a4 + more) == b4) <;> simp
       rw [this, Bool.true_and]
   ·have dl2 : decide ((i : Int) < (xs.length : Int)) = false := decide_eq_false (by omega)
    have hie : i = xs.length := by have := hi.o; omega
    have he' := he.o
    rw [hie, List.drop_length, HLE.o, List.drop_length] at he'
    have HE := J0.m he'
    clear he' hie
    go_wp2
    go_ret
    exact ⟨by rw [← HE.o]; rfl, hb.o⟩
 ·have d0 : ((xs.length : Int) != (ys.length : Int)) = true := bne_iff_ne.2 (by omega)
  have HF := J0.m (Qhh (Qgl more pl) xs ys hl)
  clear hl
  go_enter Try.func17, Try.ntmps17
  go_wp2
  go_ret
  exact ⟨by unfold Qg7; rw [HF.o]; rfl, Below.refl _ _⟩
end Go.Proofs.Ytbdcndkafaajpaa.A
end
section
namespace Go.Proofs.Ytbdcndkafaajpaa.A
open Go.RowKit Ytbdcndkafaajpaa.X YtbdcndkafaajpaaW.PrintWords YtbdcndkafaajpaaW.PrintLast YtbdcndkafaajpaaW.PrintMore
open Ytbdcndkafaajpaa.P (Nd EO Res hd isT isM Qar mxl comb mk1 StD VeD EvD Out Qdc Qdk Qex)
def Qe8 (more : Int) (pl : Bool) (x y : StD) : Bool := x.k == y.k && (x.a.toList == y.a.toList && (x.b.toList == y.b.toList && (x.c.toList == y.c.toList && (x.sep.toList == y.sep.toList && (x.ty.toList == y.ty.toList && ((!pl || wrap64 (x.pl + more) == y.pl) && Qg7 more pl x.val y.val))))))
def Qg5 (more : Int) (pl : Bool) (xs ys : List StD) : Bool := allB (Qe8 more pl) xs ys
structure RdN (w : World) (d : StD) (x : StV) : Prop where
 k : x.k = d.k
 a : x.a = d.a
 b : x.b = d.b
 c : x.c = d.c
 sep : x.sep = d.sep
 ty : x.ty = d.ty
 n : x.val.n = d.val.length
 pl : x.pl = d.pl
 v : Kd.C kn w x.val.A d.val.length d.val
 mx : d.val.length ≤ 9223372036854775807
theorem RdN.below {w w' : World} {d : StD} {x : StV} (h : RdN w d x) (hb : Below w.heap.size w w') : RdN w' d x := ⟨h.k, h.a, h.b, h.c, h.sep, h.ty, h.n, h.pl, Kd.Qck h.v hb, h.mx⟩
theorem Qpg {w : World} {x : StV} {cs : List Value} (h : kst.K w x cs) : cs = stCs x := by
 obtain ⟨_, _, rfl, rfl, ⟨_, _, rfl, rfl, ⟨_, _, rfl, rfl, ⟨_, _, rfl, rfl, ⟨_, _, rfl, rfl, ⟨_, _, rfl, rfl, ⟨_, _, rfl, rfl, rfl⟩⟩⟩⟩⟩⟩⟩ := h
 exact rfl
def zS : StV := ⟨0, ⟨#[]⟩, ⟨#[]⟩, ⟨#[]⟩, ⟨#[]⟩, ⟨#[]⟩, ⟨none, 0, 0⟩, 0⟩
def zD : StD := ⟨0, ⟨#[]⟩, ⟨#[]⟩, ⟨#[]⟩, ⟨#[]⟩, ⟨#[]⟩, [], 0⟩
theorem All2.get {α β : Type} {R : α → β → Prop} (za : α) (zb : β) : ∀ {l : List α} {m : List β} (i : Nat), All2 R l m → i < l.length → R (l.getD i za) (m.getD i zb)
 | a :: l, b :: m, 0, h, _ => h.1
 | a :: l, b :: m, i + 1, h, hi => by
  have := All2.get za zb (l := l) (m := m) i h.2 (by simpa using hi)
  simpa using this
theorem at_S {w : World} {A : Option Addr} {n : Nat} {xs : List StV} {ds : List StD} (h : Kd.C kst w A n xs) (hr : All2 (RdN w) ds xs) (i : Nat) (h1 : i < n) (h2 : i < ds.length) : ∃ ad va vc, A = some ad ∧ (∀ w' : World, Below w.heap.size w w' → w'.cell? (ad.add (i * 8)) = some (.int .i64 (ds.getD i zD).k) ∧ w'.cell? ⟨(ad.add (i * 8)).block, (ad.add (i * 8)).off + 1, none⟩ = some (.string (ds.getD i zD).a) ∧ w'.cell? ⟨(ad.add (i * 8)).block, (ad.add (i * 8)).off + 2, none⟩ = some (.string (ds.getD i zD).b) ∧ w'.cell? ⟨(ad.add (i * 8)).block, (ad.add (i * 8)).off + 3, none⟩ = some (.string (ds.getD i zD).c) ∧ w'.cell? ⟨(ad.add (i * 8)).block, (ad.add (i * 8)).off + 4, none⟩ = some (.string (ds.getD i zD).sep) ∧ w'.cell? ⟨(ad.add (i * 8)).block, (ad.add (i * 8)).off + 5, none⟩ = some (.string (ds.getD i zD).ty) ∧ w'.cell? ⟨(ad.add (i * 8)).block, (ad.add (i * 8)).off + 6, none⟩ = some (.slice va (ds.getD i zD).val.length vc) ∧ w'.cell? ⟨(ad.add (i * 8)).block, (ad.add (i * 8)).off + 7, none⟩ = some (.int .i64 (ds.getD i zD).pl)) ∧ Kd.C kn w va (ds.getD i zD).val.length (ds.getD i zD).val ∧ (ds.getD i zD).val.length ≤ 9223372036854775807 := by
 have hR := All2.get zD zS i hr h2
 have hA : ∃ ad, A = some ad := by
  obtain ⟨ad, c, e, _⟩ := Kd.Qkh h zS (i : Int) (by omega) (by omega)
  exact ⟨ad, e⟩
 obtain ⟨ad, e⟩ := hA
 refine ⟨ad, (xs.getD i zS).val.A, (xs.getD i zS).val.c, e, fun w' hb => ?_, hR.v, hR.mx⟩
 obtain ⟨ad', c, e', _, hK, hc0⟩ := Kd.Qkh (Kd.Qck h hb) zS (i : Int) (by omega) (by omega)
 rw [e] at e'
 injection e' with e'
 subst e'
 rw [Int.toNat_natCast] at hK hc0
 have hc : ∀ j u, c[j]? = some u → w'.cell? (ad.add (i * 8 + j)) = some u := hc0
 obtain rfl := Qpg hK
 obtain ⟨q0, q1, q2, q3, q4, q5, q6, q7, _, _⟩ := hR
 rw [← q0, ← q1, ← q2, ← q3, ← q4, ← q5, ← q6, ← q7]
 exact ⟨hc 0 _ rfl, by rw [← Qcc _ _ 1 (by omega)]; exact hc 1 _ rfl, by rw [← Qcc _ _ 2 (by omega)]; exact hc 2 _ rfl, by rw [← Qcc _ _ 3 (by omega)]; exact hc 3 _ rfl, by rw [← Qcc _ _ 4 (by omega)]; exact hc 4 _ rfl, by rw [← Qcc _ _ 5 (by omega)]; exact hc 5 _ rfl, by rw [← Qcc _ _ 6 (by omega)]; exact hc 6 _ rfl, by rw [← Qcc _ _ 7 (by omega)]; exact hc 7 _ rfl⟩
theorem Qqv {W : World} {b : Nat} {v0 v1 v2 v3 v4 v5 v6 v7 : Value} (h : W.heap[b]? = some (.cells #[v0, v1, v2, v3, v4, v5, v6, v7] 62 (0, 0))) : W.cell? ⟨b, 0, none⟩ = some v0 ∧ W.cell? ⟨b, 1, none⟩ = some v1 ∧ W.cell? ⟨b, 2, none⟩ = some v2 ∧ W.cell? ⟨b, 3, none⟩ = some v3 ∧ W.cell? ⟨b, 4, none⟩ = some v4 ∧ W.cell? ⟨b, 5, none⟩ = some v5 ∧ W.cell? ⟨b, 6, none⟩ = some v6 ∧ W.cell? ⟨b, 7, none⟩ = some v7 :=
 ⟨(Qac h 0).trans rfl, (Qac h 1).trans rfl, (Qac h 2).trans rfl, (Qac h 3).trans rfl, (Qac h 4).trans rfl, (Qac h 5).trans rfl, (Qac h 6).trans rfl, (Qac h 7).trans rfl⟩
theorem Qht (w : World) (A1 A2 : Option Addr) (c1 c2 : Nat) (xs ys : List StV) (ds es : List StD) (more : Int) (pl : Bool) (h1 : Kd.C kst w A1 xs.length xs) (h2 : Kd.C kst w A2 ys.length ys) (r1 : All2 (RdN w) ds xs) (r2 : All2 (RdN w) es ys) (hx : xs.length ≤ 9223372036854775807) :
  Calls Try.prog 29 #[.slice A1 xs.length c1, .slice A2 ys.length c2, .int .i64 more, .bool pl] w fun e w' => e = .returned (.bool (Qg5 more pl ds es)) ∧ Below w.heap.size w w' := by
 have H1 := J0.m h1
 have H2 := J0.m h2
 have R1 := J0.m r1
 have R2 := J0.m r2
 have L1 := J0.m r1.len
 have L2 := J0.m r2.len
 have HX := J0.m hx
 clear h1 h2 r1 r2 hx
 by_cases hl : xs.length = ys.length
 ·have d0 : ((xs.length : Int) != (ys.length : Int)) = false := by rw [hl]; simp
  have HLE := J0.m hl
  clear hl
  go_enter Try.func29, Try.ntmps29
  go_wp2_with fail
  go_loopw [9] (fun ti wr => ∃ i : Nat, ti = .int .i64 (i : Int) ∧ J0 (i ≤ xs.length) ∧ J0 (allB (Qe8 more pl) (ds.drop i) (es.drop i) = Qg5 more pl ds es) ∧ J0 (Below w.heap.size w wr)) (fun ti _ => xs.length - left ti)
  case atStart => exact ⟨0, rfl, ⟨Nat.zero_le _⟩, ⟨rfl⟩, ⟨Below.refl _ _⟩⟩
  case round =>
   obtain ⟨i, rfl, hi, he, hb⟩ := hrel
   by_cases hlt : i < xs.length
   ·have dl : ((i : Int) < (xs.length : Int)) := by omega
    have dl2 : decide ((i : Int) < (xs.length : Int)) = true := decide_eq_true dl
    have hi2 : (i : Int) < (ys.length : Int) := by rw [← HLE.o]; exact dl
    have i1 : i < ds.length := by rw [L1.o]; exact hlt
    have i2 : i < es.length := by rw [L2.o, ← HLE.o]; exact hlt
    obtain ⟨ad1, va1, vc1, hA1, K1, N1, M1⟩ := at_S H1.o R1.o i hlt i1
    obtain ⟨ad2, va2, vc2, hA2, K2, N2, M2⟩ := at_S H2.o R2.o i (by rw [← HLE.o]; exact hlt) i2
    subst hA1 hA2
    have hst := he.o
    rw [Qfd (Qe8 more pl) zD i ds es i1 i2] at hst
    obtain ⟨D, hD⟩ : ∃ D, D = ds.getD i zD := ⟨_, rfl⟩
    obtain ⟨E, hE⟩ : ∃ E, E = es.getD i zD := ⟨_, rfl⟩
    rw [← hD] at K1 N1 M1 hst
    rw [← hE] at K2 N2 M2 hst
    obtain ⟨W1, hW1⟩ : ∃ W1, W1 = wr.alloc (.cells #[.int .i64 D.k, .string D.a, .string D.b, .string D.c, .string D.sep, .string D.ty, .slice va1 D.val.length vc1, .int .i64 D.pl] 62) := ⟨_, rfl⟩
    obtain ⟨W2, hW2⟩ : ∃ W2, W2 = W1.alloc (.cells #[.int .i64 E.k, .string E.a, .string E.b, .string E.c, .string E.sep, .string E.ty, .slice va2 E.val.length vc2, .int .i64 E.pl] 62) := ⟨_, rfl⟩
    obtain ⟨bx, hbx⟩ : ∃ bx, bx = wr.heap.size := ⟨_, rfl⟩
    obtain ⟨bx2, hbx2⟩ : ∃ bx2, bx2 = W1.heap.size := ⟨_, rfl⟩
    have hB1 : Below wr.heap.size wr W1 := by rw [hW1]; exact Qab (Below.refl _ _) _
    have hB2 : Below W1.heap.size W1 W2 := by rw [hW2]; exact Qab (Below.refl _ _) _
    have hX1 : W1.heap[bx]? = some (.cells #[.int .i64 D.k, .string D.a, .string D.b, .string D.c, .string D.sep, .string D.ty, .slice va1 D.val.length vc1, .int .i64 D.pl] 62 (0, 0)) := by rw [hW1, hbx]; exact Qay _ _
    have hX2 : W2.heap[bx2]? = some (.cells #[.int .i64 E.k, .string E.a, .string E.b, .string E.c, .string E.sep, .string E.ty, .slice va2 E.val.length vc2, .int .i64 E.pl] 62 (0, 0)) := by rw [hW2, hbx2]; exact Qay _ _
    obtain ⟨x0, x1, x2, x3, x4, x5, x6, x7⟩ := K1 wr hb.o
    obtain ⟨y0, y1, y2, y3, y4, y5, y6, y7⟩ := K2 W1 (Qak hb.o hB1)
    obtain ⟨p0, p1, p2, p3, p4, p5, p6, p7⟩ := Qqv (Qae hX1 hB2)
    obtain ⟨q0, q1, q2, q3, q4, q5, q6, q7⟩ := Qqv hX2
    have hs1 : W1.heap.size = wr.heap.size + 1 := by rw [hW1]; exact Array.size_push _
    have HNC := J0.m (Qhx W2 va1 va2 vc1 vc2 D.val E.val more pl (Kd.Qck N1 (Qak (Qak hb.o hB1) hB2)) (Kd.Qck N2 (Qak (Qak hb.o hB1) hB2)) M1)
    have hnx := Qj0 i xs.length HX.o hlt
    have hls := Qkz i xs.length HX.o hlt
    have HST := J0.m hst
    have HLT := J0.m hlt
    have HNX := J0.m hnx
    have HLS := J0.m hls
    have HBW := J0.m (Qak (Qak hb.o hB1) hB2)
    have HW2 := J0.m (show W2 = (wr.alloc (.cells #[.int .i64 D.k, .string D.a, .string D.b, .string D.c, .string D.sep, .string D.ty, .slice va1 D.val.length vc1, .int .i64 D.pl] 62)).alloc (.cells #[.int .i64 E.k, .string E.a, .string E.b, .string E.c, .string E.sep, .string E.ty, .slice va2 E.val.length vc2, .int .i64 E.pl] 62) from by rw [hW2, hW1])
    rw [hbx2, hs1] at q0 q1 q2 q3 q4 q5 q6 q7
    rw [hbx] at p0 p1 p2 p3 p4 p5 p6 p7
    rw [hW2] at p0 p1 p2 p3 p4 p5 p6 p7 q0 q1 q2 q3 q4 q5 q6 q7
    rw [hW1] at p0 p1 p2 p3 p4 p5 p6 p7 q0 q1 q2 q3 q4 q5 q6 q7 y0 y1 y2 y3 y4 y5 y6 y7
    clear hst hlt hnx hls hW1 hW2 hB1 hB2 hX1 hX2 hs1 hbx hbx2 K1 K2 N1 N2 M1 M2 i1 i2 hD hE
    have FIN0 : J0 (∀ w' : World, Below W2.heap.size W2 w' → Qe8 more pl D E = false → (Ending.returned (.bool false) : Ending) = .returned (.bool (Qg5 more pl ds es)) ∧ Below w.heap.size w w') := ⟨fun w' hb' hq => ⟨by rw [← HST.o, hq, Bool.false_and], Qak HBW.o hb'⟩⟩
    obtain ⟨t0, e0⟩ : ∃ t0, t0 = (D.k == E.k) := ⟨_, rfl⟩
    cases t0 with
    | false =>
     have d1 : (D.k != E.k) = true := by unfold bne; rw [← e0]; rfl
     have HE0 := J0.m e0.symm
     clear e0
     go_wp2_with fail
     go_ret
     exact FIN0.o _ (by rw [← HW2.o]; exact Below.refl _ _) (by unfold Qe8; simp only [HE0.o, Bool.false_and, Bool.true_and, Bool.and_false])
    | true =>
     have d1 : (D.k != E.k) = false := by unfold bne; rw [← e0]; rfl
     have HE0 := J0.m e0.symm
     clear e0
     obtain ⟨t1, e1⟩ : ∃ t1, t1 = (D.a.toList == E.a.toList) := ⟨_, rfl⟩
     cases t1 with
     | false =>
      have HE1 := J0.m e1.symm
      have g1 := e1.symm
      clear e1
      go_wp2_with fail
      go_ret
      exact FIN0.o _ (by rw [← HW2.o]; exact Below.refl _ _) (by unfold Qe8; simp only [HE0.o, HE1.o, Bool.false_and, Bool.true_and, Bool.and_false])
     | true =>
      have HE1 := J0.m e1.symm
      have g1 := e1.symm
      clear e1
      obtain ⟨t2, e2⟩ : ∃ t2, t2 = (D.b.toList == E.b.toList) := ⟨_, rfl⟩
      cases t2 with
      | false =>
       have HE2 := J0.m e2.symm
       have g2 := e2.symm
       clear e2
       go_wp2_with fail
       go_ret
       exact FIN0.o _ (by rw [← HW2.o]; exact Below.refl _ _) (by unfold Qe8; simp only [HE0.o, HE1.o, HE2.o, Bool.false_and, Bool.true_and, Bool.and_false])
      | true =>
       have HE2 := J0.m e2.symm
       have g2 := e2.symm
       clear e2
       obtain ⟨t3, e3⟩ : ∃ t3, t3 = (D.c.toList == E.c.toList) := ⟨_, rfl⟩
       cases t3 with
       | false =>
        have HE3 := J0.m e3.symm
        have g3 := e3.symm
        clear e3
        go_wp2_with fail
        go_ret
        exact FIN0.o _ (by rw [← HW2.o]; exact Below.refl _ _) (by unfold Qe8; simp only [HE0.o, HE1.o, HE2.o, HE3.o, Bool.false_and, Bool.true_and, Bool.and_false])
       | true =>
        have HE3 := J0.m e3.symm
        have g3 := e3.symm
        clear e3
        obtain ⟨t4, e4⟩ : ∃ t4, t4 = (D.sep.toList == E.sep.toList) := ⟨_, rfl⟩
        cases t4 with
        | false =>
         have HE4 := J0.m e4.symm
         have g4 := e4.symm
         clear e4
         go_wp2_with fail
         go_ret
         exact FIN0.o _ (by rw [← HW2.o]; exact Below.refl _ _) (by unfold Qe8; simp only [HE0.o, HE1.o, HE2.o, HE3.o, HE4.o, Bool.false_and, Bool.true_and, Bool.and_false])
        | true =>
         have HE4 := J0.m e4.symm
         have g4 := e4.symm
         clear e4
         obtain ⟨t5, e5⟩ : ∃ t5, t5 = (D.ty.toList == E.ty.toList) := ⟨_, rfl⟩
         cases t5 with
         | false =>
          have HE5 := J0.m e5.symm
          have g5 := e5.symm
          clear e5
          go_wp2_with fail
          go_ret
          exact FIN0.o _ (by rw [← HW2.o]; exact Below.refl _ _) (by unfold Qe8; simp only [HE0.o, HE1.o, HE2.o, HE3.o, HE4.o, HE5.o, Bool.false_and, Bool.true_and, Bool.and_false])
         | true =>
          have HE5 := J0.m e5.symm
          have g5 := e5.symm
          clear e5
          cases pl with
          | true =>
           obtain ⟨t6, e6⟩ : ∃ t6, t6 = (wrap64 (D.pl + more) == E.pl) := ⟨_, rfl⟩
           cases t6 with
           | false =>
            have d6 : (wrap64 (D.pl + more) != E.pl) = true := by unfold bne; rw [← e6]; rfl
            have HE6 := J0.m e6.symm
            clear e6
            go_wp2_with fail
            go_ret
            exact FIN0.o _ (by rw [← HW2.o]; exact Below.refl _ _) (by unfold Qe8; simp only [HE0.o, HE1.o, HE2.o, HE3.o, HE4.o, HE5.o, HE6.o, Bool.not_true, Bool.or_false, Bool.false_or, Bool.false_and, Bool.true_and, Bool.and_false])
           | true =>
            have d6 : (wrap64 (D.pl + more) != E.pl) = false := by unfold bne; rw [← e6]; rfl
            have HE6 := J0.m e6.symm
            clear e6
            go_wp2_with fail
            rw [← HW2.o]
            refine HNC.o.mono ?_
            rintro e w7 ⟨rfl, hb7⟩
            have HB7 := J0.m hb7
            clear hb7
            obtain ⟨tn, en⟩ : ∃ tn, tn = Qg7 more true D.val E.val := ⟨_, rfl⟩
            rw [← en]
            have HEN := J0.m en.symm
            clear en
            cases tn with
            | false =>
             go_wp2
             go_ret
             exact FIN0.o _ HB7.o (by unfold Qe8; simp only [HE0.o, HE1.o, HE2.o, HE3.o, HE4.o, HE5.o, HE6.o, HEN.o, Bool.and_false])
            | true =>
             go_wp2
             rw [HNX.o]
             go_roundw
             case measure => have := HLS.o; have := HLT.o; simp only [left, Int.toNat_natCast]; omega
             case rel =>
              refine ⟨i + 1, rfl, ⟨HLT.o⟩, ⟨?_⟩, ⟨Qak HBW.o HB7.o⟩⟩
              rw [← HST.o]
              have : Qe8 more true D E = true := by unfold Qe8; simp only [HE0.o, HE1.o, HE2.o, HE3.o, HE4.o, HE5.o, HE6.o, HEN.o, Bool.and_true, Bool.true_and, Bool.not_true, Bool.not_false, Bool.or_true, Bool.true_or, Bool.false_or]
              rw [this, Bool.true_and]
          | false =>
           go_wp2_with fail
           rw [← HW2.o]
           refine HNC.o.mono ?_
           rintro e w7 ⟨rfl, hb7⟩
           have HB7 := J0.m hb7
           clear hb7
           obtain ⟨tn, en⟩ : ∃ tn, tn = Qg7 more false D.val E.val := ⟨_, rfl⟩
           rw [← en]
           have HEN := J0.m en.symm
           clear en
           cases tn with
           | false =>
            go_wp2
            go_ret
            exact FIN0.o _ HB7.o (by unfold Qe8; simp only [HE0.o, HE1.o, HE2.o, HE3.o, HE4.o, HE5.o, HEN.o, Bool.and_false])
           | true =>
            go_wp2
            rw [HNX.o]
            go_roundw
            case measure => have := HLS.o; have := HLT.o; simp only [left, Int.toNat_natCast]; omega
            case rel =>
             refine ⟨i + 1, rfl, ⟨HLT.o⟩, ⟨?_⟩, ⟨Qak HBW.o HB7.o⟩⟩
             rw [← HST.o]
             have : Qe8 more false D E = true := by unfold Qe8; simp only [HE0.o, HE1.o, HE2.o, HE3.o, HE4.o, HE5.o, HEN.o, Bool.and_true, Bool.true_and, Bool.not_true, Bool.not_false, Bool.or_true, Bool.true_or, Bool.false_or]
             rw [this, Bool.true_and]
   ·have dl2 : decide ((i : Int) < (xs.length : Int)) = false := decide_eq_false (by omega)
    have hie : i = xs.length := by have := hi.o; omega
    have he' := he.o
    have l3 : xs.length = es.length := by rw [L2.o]; exact HLE.o
    rw [hie, ← L1.o, List.drop_length, L1.o, l3, List.drop_length] at he'
    have HE := J0.m he'
    clear he' hie l3
    go_wp2
    go_ret
    exact ⟨by rw [← HE.o]; rfl, hb.o⟩
 ·have d0 : ((xs.length : Int) != (ys.length : Int)) = true := bne_iff_ne.2 (by omega)
  have HF := J0.m (Qhh (Qe8 more pl) ds es (by rw [L1.o, L2.o]; exact hl))
  clear hl
  go_enter Try.func29, Try.ntmps29
  go_wp2
  go_ret
  exact ⟨by unfold Qg5; rw [HF.o]; rfl, Below.refl _ _⟩
def verB (more : Int) (pl : Bool) (x y : VeD) : Bool := x.num == y.num && ((!pl || wrap64 (x.pl + more) == y.pl) && Qg5 more pl x.steps y.steps)
def evB (more : Int) (pl : Bool) (x y : EvD) : Bool := x.name.toList == y.name.toList && (x.vers.length == y.vers.length && ((!pl || wrap64 (x.pl + more) == y.pl) && allB (verB more pl) x.vers y.vers))
def Qfx (more : Int) (pl : Bool) (xs ys : List EvD) : Bool := allB (evB more pl) xs ys
structure RdV (w : World) (d : VeD) (x : VeV) : Prop where
 num : x.num = d.num
 n : x.steps.n = d.steps.length
 pl : x.pl = d.pl
 v : ∃ xs, Kd.C kst w x.steps.A xs.length xs ∧ All2 (RdN w) d.steps xs
 mx : d.steps.length ≤ 9223372036854775807
structure RdE (w : World) (d : EvD) (x : EvV) : Prop where
 name : x.name = d.name
 n : x.vers.n = d.vers.length
 pl : x.pl = d.pl
 v : ∃ xs, Kd.C kve w x.vers.A xs.length xs ∧ All2 (RdV w) d.vers xs
 mx : d.vers.length ≤ 9223372036854775807
theorem RdV.below {w w' : World} {d : VeD} {x : VeV} (h : RdV w d x) (hb : Below w.heap.size w w') : RdV w' d x := by
 obtain ⟨xs, h1, h2⟩ := h.v
 exact ⟨h.num, h.n, h.pl, ⟨xs, Kd.Qck h1 hb, h2.imp (fun _ _ h => h.below hb)⟩, h.mx⟩
theorem RdE.below {w w' : World} {d : EvD} {x : EvV} (h : RdE w d x) (hb : Below w.heap.size w w') : RdE w' d x := by
 obtain ⟨xs, h1, h2⟩ := h.v
 exact ⟨h.name, h.n, h.pl, ⟨xs, Kd.Qck h1 hb, h2.imp (fun _ _ h => h.below hb)⟩, h.mx⟩
section
variable {w : World} {base : Nat} {l : List Row}
theorem Ql9 {α : Type} {d : Kd α} {e : Nat} {ok : Nat → Prop} {v : Value} {xs : List α} (h : d.R e w base ok v xs) : xs.length ≤ 9223372036854775807 := by
 obtain ⟨A, c, he, hl, hr⟩ := Kd.Qg4 h
 exact Kd.C_max hr
theorem rdN_of (hl : Rows w base l) {d : StD} {x : StV} (h : StT l d x) : RdN w d x := by
 obtain ⟨h1, h2, h3, h4, h5, h6, h7, h8⟩ := h
 have hr : Kd.R kn 49 w base (fun _ => True) x.val.v d.val := hl.holds _ h7
 obtain ⟨e1, e2, e3⟩ := Kd.Qd3 hr
 exact ⟨h1, h2, h3, h4, h5, h6, e1, h8, e3, Ql9 hr⟩
theorem rdV_of (hl : Rows w base l) {d : VeD} {x : VeV} (h : VeT l d x) : RdV w d x := by
 obtain ⟨h1, ⟨xs, h2, h3⟩, h4⟩ := h
 have hr : Kd.R kst 62 w base (fun _ => True) x.steps.v xs := hl.holds _ h2
 obtain ⟨e1, e2, e3⟩ := Kd.Qd3 hr
 exact ⟨h1, by rw [h3.len]; exact e1, h4, ⟨xs, e3, h3.imp (fun _ _ h => rdN_of hl h)⟩, by rw [h3.len]; exact Ql9 hr⟩
theorem rdE_of (hl : Rows w base l) {d : EvD} {x : EvV} (h : EvT l d x) : RdE w d x := by
 obtain ⟨h1, ⟨xs, h2, h3⟩, h4⟩ := h
 have hr : Kd.R kve 60 w base (fun _ => True) x.vers.v xs := hl.holds _ h2
 obtain ⟨e1, e2, e3⟩ := Kd.Qd3 hr
 exact ⟨h1, by rw [h3.len]; exact e1, h4, ⟨xs, e3, h3.imp (fun _ _ h => rdV_of hl h)⟩, by rw [h3.len]; exact Ql9 hr⟩
def RdS (w : World) (v : Sl) (ds : List EvD) : Prop := v.n = ds.length ∧ (∃ xs, Kd.C kev w v.A xs.length xs ∧ All2 (RdE w) ds xs) ∧ ds.length ≤ 9223372036854775807
theorem Qp3 (hl : Rows w base l) {v : Sl} {ds : List EvD} {xs : List EvV} (h : Row.e v xs ∈ l) (ha : All2 (EvT l) ds xs) : RdS w v ds := by
 have hr : Kd.R kev 57 w base (fun _ => True) v.v xs := hl.holds _ h
 obtain ⟨e1, e2, e3⟩ := Kd.Qd3 hr
 exact ⟨by rw [ha.len]; exact e1, ⟨xs, e3, ha.imp (fun _ _ h => rdE_of hl h)⟩, by rw [ha.len]; exact Ql9 hr⟩
theorem RdS.below {w' : World} {v : Sl} {ds : List EvD} (h : RdS w v ds) (hb : Below w.heap.size w w') : RdS w' v ds := by
 obtain ⟨h1, ⟨xs, h2, h3⟩, h4⟩ := h
 exact ⟨h1, ⟨xs, Kd.Qck h2 hb, h3.imp (fun _ _ h => h.below hb)⟩, h4⟩
theorem RdS.nil (w : World) : RdS w ⟨none, 0, 0⟩ [] := ⟨rfl, ⟨[], (Kd.Qd3 (Kd.Qdd kev 0 w 0 (fun _ => True))).2.2, trivial⟩, Nat.zero_le _⟩
end
end Go.Proofs.Ytbdcndkafaajpaa.A
end
section
namespace Go.Proofs.Ytbdcndkafaajpaa.P
open Ytbdcndkafaajpaa.X Ytbdcndkafaajpaa.L Ytbdcndkafaajpaa.T
theorem Qq9 {off : Nat} {s : List UInt8} {ts : List L.Tok} (h : lx off s = .toks ts) : ∃ i, ts = i ++ [⟨0, [], 0, off + s.length, off + s.length⟩] ∧ ∀ t ∈ i.map toS, t.f0 ≠ 0 := by
 obtain ⟨i, e, hk, _⟩ := Qq7 [] _ off s ts (Nat.le_refl _) h
 refine ⟨i, e, fun t ht => ?_⟩
 obtain ⟨u, hu, rfl⟩ := List.mem_map.1 ht
 have := hk u hu
 show (u.kind : Int) ≠ 0
 omega
theorem Qrl {off : Nat} {s : List UInt8} {ts : List L.Tok} (h : lx off s = .toks ts) : Ends (ts.map toS) := by
 obtain ⟨i, rfl, hk⟩ := Qq9 h
 exact ⟨i.map toS, _, by rw [List.map_append]; rfl, rfl, hk⟩
def Sm (n : Int) (p q : Int) : Prop := q = p ∧ 0 ≤ p ∧ p ≤ n
theorem Qru {s : List UInt8} {ts : List L.Tok} (h : lx 0 s = .toks ts) : TL (Sm s.length) (ts.map toS) (ts.map toS) := by
 refine ⟨Qrl h, Pw.refl fun t ht => ?_⟩
 obtain ⟨u, hu, rfl⟩ := List.mem_map.1 ht
 have := lx_at _ _ _ _ (Nat.le_refl _) h u hu
 refine ⟨rfl, rfl, rfl, rfl, ?_, ?_⟩
 ·show (0 : Int) ≤ (u.at' : Int); omega
 ·show (u.at' : Int) ≤ (s.length : Int); omega
theorem Qg0 (ts : List Tk) : ∀ p, Qdj ts ≠ .bad 0 p := by
 unfold Qdj
 refine Qbk (Qiv _ _ _ (Nat.lt_succ_self _)) fun l r _ => Qbk (fun p h => ?_) fun t r _ => Qfo _ _
 unfold endW at h
 split at h
 ·cases h
 ·cases h
end Go.Proofs.Ytbdcndkafaajpaa.P
namespace Go.Proofs.Ytbdcndkafaajpaa.A
open Go Go.RowKit Ytbdcndkafaajpaa.X Ytbdcndkafaajpaa.L Ytbdcndkafaajpaa.T
open Ytbdcndkafaajpaa.P (Nd EO Res hd isT isM Qar mxl comb mk1 StD VeD EvD Out Qdc Qdk Qex)
theorem Qh7 {α : Type} {R : α → α → Prop} {f : α → α → Bool} (h : ∀ a b, R a b → f a b = true) : ∀ {l m : List α}, P.Pw R l m → allB f l m = true
 | [], [], _ => rfl
 | a :: l, b :: m, k => by unfold allB; rw [h a b k.1, Qh7 h k.2]; rfl
section
variable {ρ : Int → Int → Prop} {more : Int} {pl : Bool} (hρ : pl = true → ∀ p q, ρ p q → wrap64 (p + more) = q)
include hρ
theorem Qo8 (x y : Nd) (h : P.NR ρ x y) : Qgl more pl x y = true := by
 unfold Qgl
 rw [h.f0, h.f1, h.f2, h.f3]
 simp only [beq_self_eq_true, Bool.true_and]
 cases pl with
 | false => simp
 | true => simp only [if_true]; rw [hρ rfl _ _ h.p]; exact beq_self_eq_true _
theorem Qnf {xs ys : List Nd} (h : P.Pw (P.NR ρ) xs ys) : Qg7 more pl xs ys = true := Qh7 (Qo8 hρ) h
theorem Qna {p q : Int} (h : ρ p q) : (!pl || wrap64 (p + more) == q) = true := by
 cases pl with
 | false => rfl
 | true => rw [hρ rfl _ _ h]; simp
theorem Qot (x y : StD) (h : P.SR ρ x y) : Qe8 more pl x y = true := by
 unfold Qe8
 rw [h.k, h.a, h.b, h.c, h.sep, h.ty, Qna hρ h.p, Qnf hρ h.val]
 simp only [beq_self_eq_true, Bool.true_and]
theorem Qqo (x y : VeD) (h : P.VR ρ x y) : verB more pl x y = true := by
 unfold verB
 have : Qg5 more pl x.steps y.steps = true := Qh7 (Qot hρ) h.steps
 rw [h.num, Qna hρ h.p, this]
 simp only [beq_self_eq_true, Bool.true_and]
theorem evB_of (x y : EvD) (h : P.WR ρ x y) : evB more pl x y = true := by
 unfold evB
 rw [h.name, h.vers.len, Qna hρ h.p, Qh7 (Qqo hρ) h.vers]
 simp only [beq_self_eq_true, Bool.true_and]
theorem Qmp {xs ys : List EvD} (h : P.Pw (P.WR ρ) xs ys) : Qfx more pl xs ys = true := Qh7 (evB_of hρ) h
end
end Go.Proofs.Ytbdcndkafaajpaa.A
end
section
namespace Go.Proofs.Ytbdcndkafaajpaa.P
open Ytbdcndkafaajpaa.X Ytbdcndkafaajpaa.L Ytbdcndkafaajpaa.T
def isOp (t : Tk) : Bool := (t.f0 == 1) || (isMt 40 t || isMt 45 t)
def opn (ts : List Tk) : Nat := (ts.filter isOp).length
section
variable {α β : Type} {b b' : Prop}
def LV (b : Prop) (x y : Res α) : Prop := ∀ a r, x = .ok a r → y = .ok a r ∨ (¬ b ∧ ∃ p, y = .bad 91 p)
theorem LV.same (x : Res α) : LV b x x := fun a r h => .inl h
theorem LV.bind {x y : Res α} {g g' : α → List Tk → Res β} (h : LV b x y) (hg : ∀ a r, x = .ok a r → LV b (g a r) (g' a r)) : LV b (x.bind g) (y.bind g') := by
 intro c s hx
 obtain ⟨a, r, h1, h2⟩ := bind_ok hx
 rcases h a r h1 with e | ⟨hn, p, e⟩
 ·rw [e]; exact hg a r h1 c s h2
 ·rw [e]; exact .inr ⟨hn, p, rfl⟩
theorem LV.ite {c : Prop} [Decidable c] {x y x' y' : Res α} (h1 : c → LV b x y) (h2 : ¬ c → LV b x' y') : LV b (if c then x else x') (if c then y else y') := by
 by_cases hc : c
 ·rw [if_pos hc, if_pos hc]; exact h1 hc
 ·rw [if_neg hc, if_neg hc]; exact h2 hc
theorem LV.lev {lev : Nat} {p : Int} {x y : Res α} (hb : b → lev + 1 < 100) (h : LV b x y) : LV b (if 100 ≤ lev then .bad 91 p else x) (if 100 ≤ lev + 1 then .bad 91 p else y) := by
 intro a r hx
 by_cases hl : 100 ≤ lev
 ·rw [if_pos hl] at hx; cases hx
 ·rw [if_neg hl] at hx
  by_cases hl2 : 100 ≤ lev + 1
  ·rw [if_pos hl2]; exact .inr ⟨fun k => by have := hb k; omega, p, rfl⟩
  ·rw [if_neg hl2]; exact h a r hx
theorem LV.bad (e p : Int) (y : Res α) : LV b (.bad e p) y := fun a r h => by cases h
end
end Go.Proofs.Ytbdcndkafaajpaa.P
end
section
namespace Go.Proofs.Ytbdcndkafaajpaa.A
open Go.RowKit Ytbdcndkafaajpaa.X YtbdcndkafaajpaaW.PrintWords YtbdcndkafaajpaaW.PrintLast YtbdcndkafaajpaaW.PrintMore
open Ytbdcndkafaajpaa.P (Nd EO Res hd isT isM Qar mxl comb mk1 StD VeD EvD Out Qdc Qdk Qex)
theorem Qpf {w : World} {x : VeV} {cs : List Value} (h : kve.K w x cs) : cs = veCs x := by
 obtain ⟨_, _, rfl, rfl, ⟨_, _, rfl, rfl, rfl⟩⟩ := h
 exact rfl
theorem Qph {w : World} {x : EvV} {cs : List Value} (h : kev.K w x cs) : cs = evCs x := by
 obtain ⟨_, _, rfl, rfl, ⟨_, _, rfl, rfl, rfl⟩⟩ := h
 exact rfl
def zV : VeV := ⟨0, ⟨none, 0, 0⟩, 0⟩
def zVD : VeD := ⟨0, [], 0⟩
def zE : EvV := ⟨⟨#[]⟩, ⟨none, 0, 0⟩, 0⟩
def zED : EvD := ⟨⟨#[]⟩, [], 0⟩
theorem at_V {w : World} {A : Option Addr} {n : Nat} {xs : List VeV} {ds : List VeD} (h : Kd.C kve w A n xs) (hr : All2 (RdV w) ds xs) (i : Nat) (h1 : i < n) (h2 : i < ds.length) : ∃ ad va vc, A = some ad ∧ (∀ w' : World, Below w.heap.size w w' → w'.cell? (ad.add (i * 3)) = some (.int .u64 (ds.getD i zVD).num) ∧ w'.cell? ⟨(ad.add (i * 3)).block, (ad.add (i * 3)).off + 1, none⟩ = some (.slice va (ds.getD i zVD).steps.length vc) ∧ w'.cell? ⟨(ad.add (i * 3)).block, (ad.add (i * 3)).off + 2, none⟩ = some (.int .i64 (ds.getD i zVD).pl)) ∧ (∃ xs, Kd.C kst w va xs.length xs ∧ All2 (RdN w) (ds.getD i zVD).steps xs) ∧ (ds.getD i zVD).steps.length ≤ 9223372036854775807 := by
 have hR := All2.get zVD zV i hr h2
 have hA : ∃ ad, A = some ad := by
  obtain ⟨ad, c, e, _⟩ := Kd.Qkh h zV (i : Int) (by omega) (by omega)
  exact ⟨ad, e⟩
 obtain ⟨ad, e⟩ := hA
 refine ⟨ad, (xs.getD i zV).steps.A, (xs.getD i zV).steps.c, e, fun w' hb => ?_, hR.v, hR.mx⟩
 obtain ⟨ad', c, e', _, hK, hc0⟩ := Kd.Qkh (Kd.Qck h hb) zV (i : Int) (by omega) (by omega)
 rw [e] at e'
 injection e' with e'
 subst e'
 rw [Int.toNat_natCast] at hK hc0
 have hc : ∀ j u, c[j]? = some u → w'.cell? (ad.add (i * 3 + j)) = some u := hc0
 obtain rfl := Qpf hK
 obtain ⟨q0, q1, q2, _, _⟩ := hR
 rw [← q0, ← q1, ← q2]
 exact ⟨hc 0 _ rfl, by rw [← Qcc _ _ 1 (by omega)]; exact hc 1 _ rfl, by rw [← Qcc _ _ 2 (by omega)]; exact hc 2 _ rfl⟩
theorem at_E {w : World} {A : Option Addr} {n : Nat} {xs : List EvV} {ds : List EvD} (h : Kd.C kev w A n xs) (hr : All2 (RdE w) ds xs) (i : Nat) (h1 : i < n) (h2 : i < ds.length) : ∃ ad va vc, A = some ad ∧ (∀ w' : World, Below w.heap.size w w' → w'.cell? (ad.add (i * 3)) = some (.string (ds.getD i zED).name) ∧ w'.cell? ⟨(ad.add (i * 3)).block, (ad.add (i * 3)).off + 1, none⟩ = some (.slice va (ds.getD i zED).vers.length vc) ∧ w'.cell? ⟨(ad.add (i * 3)).block, (ad.add (i * 3)).off + 2, none⟩ = some (.int .i64 (ds.getD i zED).pl)) ∧ (∃ xs, Kd.C kve w va xs.length xs ∧ All2 (RdV w) (ds.getD i zED).vers xs) ∧ (ds.getD i zED).vers.length ≤ 9223372036854775807 := by
 have hR := All2.get zED zE i hr h2
 have hA : ∃ ad, A = some ad := by
  obtain ⟨ad, c, e, _⟩ := Kd.Qkh h zE (i : Int) (by omega) (by omega)
  exact ⟨ad, e⟩
 obtain ⟨ad, e⟩ := hA
 refine ⟨ad, (xs.getD i zE).vers.A, (xs.getD i zE).vers.c, e, fun w' hb => ?_, hR.v, hR.mx⟩
 obtain ⟨ad', c, e', _, hK, hc0⟩ := Kd.Qkh (Kd.Qck h hb) zE (i : Int) (by omega) (by omega)
 rw [e] at e'
 injection e' with e'
 subst e'
 rw [Int.toNat_natCast] at hK hc0
 have hc : ∀ j u, c[j]? = some u → w'.cell? (ad.add (i * 3 + j)) = some u := hc0
 obtain rfl := Qph hK
 obtain ⟨q0, q1, q2, _, _⟩ := hR
 rw [← q0, ← q1, ← q2]
 exact ⟨hc 0 _ rfl, by rw [← Qcc _ _ 1 (by omega)]; exact hc 1 _ rfl, by rw [← Qcc _ _ 2 (by omega)]; exact hc 2 _ rfl⟩
theorem Qoo {W : World} {b : Nat} {v0 v1 v2 : Value} (h : W.heap[b]? = some (.cells #[v0, v1, v2] 60 (0, 0))) : W.cell? ⟨b, 0, none⟩ = some v0 ∧ W.cell? ⟨b, 1, none⟩ = some v1 ∧ W.cell? ⟨b, 2, none⟩ = some v2 := ⟨(Qac h 0).trans rfl, (Qac h 1).trans rfl, (Qac h 2).trans rfl⟩
theorem Qj7 (w : World) (A1 A2 : Option Addr) (c1 c2 : Nat) (xs ys : List EvV) (ds es : List EvD) (more : Int) (pl : Bool) (h1 : Kd.C kev w A1 xs.length xs) (h2 : Kd.C kev w A2 ys.length ys) (r1 : All2 (RdE w) ds xs) (r2 : All2 (RdE w) es ys) (hx : xs.length ≤ 9223372036854775807) :
  Calls Try.prog 14 #[.slice A1 xs.length c1, .slice A2 ys.length c2, .int .i64 more, .bool pl] w fun e w' => e = .returned (.bool (Qfx more pl ds es)) ∧ Below w.heap.size w w' := by
 have H1 := J0.m h1
 have H2 := J0.m h2
 have R1 := J0.m r1
 have R2 := J0.m r2
 have L1 := J0.m r1.len
 have L2 := J0.m r2.len
 have HX := J0.m hx
 clear h1 h2 r1 r2 hx
 by_cases hl : xs.length = ys.length
 ·have d0 : ((xs.length : Int) != (ys.length : Int)) = false := by rw [hl]; simp
  have HLE := J0.m hl
  clear hl
  go_enter Try.func14, Try.ntmps14
  go_wp2_with fail
  go_loopw [9] (fun ti wr => ∃ i : Nat, ti = .int .i64 (i : Int) ∧ J0 (i ≤ xs.length) ∧ J0 (allB (evB more pl) (ds.drop i) (es.drop i) = Qfx more pl ds es) ∧ J0 (Below w.heap.size w wr)) (fun ti _ => xs.length - left ti)
  case atStart => exact ⟨0, rfl, ⟨Nat.zero_le _⟩, ⟨rfl⟩, ⟨Below.refl _ _⟩⟩
  case round =>
   obtain ⟨i, rfl, hi, he, hb⟩ := hrel
   obtain ⟨wo, hwo⟩ : ∃ wo, wo = wr := ⟨_, rfl⟩
   subst hwo
   by_cases hlt : i < xs.length
   ·have dl : ((i : Int) < (xs.length : Int)) := by omega
    have dl2 : decide ((i : Int) < (xs.length : Int)) = true := decide_eq_true dl
    have hi2 : (i : Int) < (ys.length : Int) := by rw [← HLE.o]; exact dl
    have i1 : i < ds.length := by rw [L1.o]; exact hlt
    have i2 : i < es.length := by rw [L2.o, ← HLE.o]; exact hlt
    obtain ⟨ad1, va1, vc1, hA1, K1, ⟨vs1, N1, M1⟩, X1⟩ := at_E H1.o R1.o i hlt i1
    obtain ⟨ad2, va2, vc2, hA2, K2, ⟨vs2, N2, M2⟩, X2⟩ := at_E H2.o R2.o i (by rw [← HLE.o]; exact hlt) i2
    subst hA1 hA2
    have hst := he.o
    rw [Qfd (evB more pl) zED i ds es i1 i2] at hst
    obtain ⟨D, hD⟩ : ∃ D, D = ds.getD i zED := ⟨_, rfl⟩
    obtain ⟨E, hE⟩ : ∃ E, E = es.getD i zED := ⟨_, rfl⟩
    rw [← hD] at K1 M1 X1 hst
    rw [← hE] at K2 M2 X2 hst
    obtain ⟨x0, x1, x2⟩ := K1 wo hb.o
    obtain ⟨y0, y1, y2⟩ := K2 wo hb.o
    have hnx := Qj0 i xs.length HX.o hlt
    have hls := Qkz i xs.length HX.o hlt
    have HST := J0.m hst
    have HLT := J0.m hlt
    have HNX := J0.m hnx
    have HLS := J0.m hls
    have HK1 := J0.m K1
    have HK2 := J0.m K2
    have HN1 := J0.m N1
    have HN2 := J0.m N2
    have HM1 := J0.m M1
    have HM2 := J0.m M2
    have HX1 := J0.m X1
    clear hst hlt hnx hls K1 K2 N1 N2 M1 M2 X1 X2 i1 i2 hD hE
    have FIN0 : J0 (∀ w' : World, Below w.heap.size w w' → evB more pl D E = false → (Ending.returned (.bool false) : Ending) = .returned (.bool (Qfx more pl ds es)) ∧ Below w.heap.size w w') := ⟨fun w' hb' hq => ⟨by rw [← HST.o, hq, Bool.false_and], hb'⟩⟩
    obtain ⟨t0, e0⟩ : ∃ t0, t0 = (D.name.toList == E.name.toList) := ⟨_, rfl⟩
    have HE0 := J0.m e0.symm
    have g0 := e0.symm
    clear e0
    cases t0 with
    | false =>
     go_wp2_with fail
     go_quiet (fail)
     go_wp2
     go_ret
     exact FIN0.o _ (Qad hb.o _) (by unfold evB; simp only [HE0.o, Bool.false_and])
    | true =>
     by_cases hle : D.vers.length = E.vers.length
     ·have dle : ((D.vers.length : Int) != (E.vers.length : Int)) = false := by rw [hle]; simp
      have HLV := J0.m hle
      clear hle
      cases pl with
      | true =>
       obtain ⟨t6, e6⟩ : ∃ t6, t6 = (wrap64 (D.pl + more) == E.pl) := ⟨_, rfl⟩
       have HE6 := J0.m e6.symm
       cases t6 with
       | false =>
        have d6 : (wrap64 (D.pl + more) != E.pl) = true := by unfold bne; rw [← e6]; rfl
        clear e6
        go_wp2_with fail
        go_quiet (fail)
        go_wp2
        go_ret
        exact FIN0.o _ (Qad hb.o _) (by unfold evB; simp only [HE6.o, Bool.not_true, Bool.or_false, Bool.false_and, Bool.and_false])
       | true =>
        have d6 : (wrap64 (D.pl + more) != E.pl) = false := by unfold bne; rw [← e6]; rfl
        clear e6
        go_wp2_with fail
        go_quiet (fail)
        go_wp2_with fail
        go_loopw [10] (fun tj wr => ∃ j : Nat, tj = .int .i64 (j : Int) ∧ J0 (j ≤ D.vers.length) ∧ J0 (allB (verB more true) (D.vers.drop j) (E.vers.drop j) = allB (verB more true) D.vers E.vers) ∧ J0 (Below w.heap.size w wr)) (fun tj _ => D.vers.length - left tj)
        case atStart => exact ⟨0, rfl, ⟨Nat.zero_le _⟩, ⟨rfl⟩, ⟨Qad hb.o _⟩⟩
        case round =>
         obtain ⟨j, rfl, hj, hve, hbj⟩ := hrel
         obtain ⟨x0, x1, x2⟩ := HK1.o wr hbj.o
         obtain ⟨y0, y1, y2⟩ := HK2.o wr hbj.o
         by_cases hjl : j < D.vers.length
         ·have dj : ((j : Int) < (D.vers.length : Int)) := by omega
          have dj2 : decide ((j : Int) < (D.vers.length : Int)) = true := decide_eq_true dj
          have hj2 : (j : Int) < (E.vers.length : Int) := by rw [← HLV.o]; exact dj
          obtain ⟨bd1, ua1, uc1, hB1, Q1, ⟨ss1, P1, S1⟩, Y1⟩ := at_V HN1.o HM1.o j (by rw [← HM1.o.len]; exact hjl) hjl
          obtain ⟨bd2, ua2, uc2, hB2, Q2, ⟨ss2, P2, S2⟩, Y2⟩ := at_V HN2.o HM2.o j (by rw [← HM2.o.len, ← HLV.o]; exact hjl) (by rw [← HLV.o]; exact hjl)
          subst hB1 hB2
          have hvs := hve.o
          rw [Qfd (verB more true) zVD j D.vers E.vers hjl (by rw [← HLV.o]; exact hjl)] at hvs
          obtain ⟨G, hG⟩ : ∃ G, G = D.vers.getD j zVD := ⟨_, rfl⟩
          obtain ⟨H, hH⟩ : ∃ H, H = E.vers.getD j zVD := ⟨_, rfl⟩
          rw [← hG] at Q1 S1 Y1 hvs
          rw [← hH] at Q2 S2 Y2 hvs
          obtain ⟨W1, hW1⟩ : ∃ W1, W1 = wr.alloc (.cells #[.int .u64 G.num, .slice ua1 G.steps.length uc1, .int .i64 G.pl] 60) := ⟨_, rfl⟩
          obtain ⟨W2, hW2⟩ : ∃ W2, W2 = W1.alloc (.cells #[.int .u64 H.num, .slice ua2 H.steps.length uc2, .int .i64 H.pl] 60) := ⟨_, rfl⟩
          have hb1 : Below wr.heap.size wr W1 := by rw [hW1]; exact Qab (Below.refl _ _) _
          have hb2 : Below W1.heap.size W1 W2 := by rw [hW2]; exact Qab (Below.refl _ _) _
          have hX1 : W1.heap[wr.heap.size]? = some (.cells #[.int .u64 G.num, .slice ua1 G.steps.length uc1, .int .i64 G.pl] 60 (0, 0)) := by rw [hW1]; exact Qay _ _
          have hX2 : W2.heap[W1.heap.size]? = some (.cells #[.int .u64 H.num, .slice ua2 H.steps.length uc2, .int .i64 H.pl] 60 (0, 0)) := by rw [hW2]; exact Qay _ _
          have hs1 : W1.heap.size = wr.heap.size + 1 := by rw [hW1]; exact Array.size_push _
          obtain ⟨u0, u1, u2⟩ := Q1 wr hbj.o
          obtain ⟨v0, v1, v2⟩ := Q2 W1 (Qak hbj.o hb1)
          obtain ⟨yy0, yy1, yy2⟩ := HK2.o W1 (Qak hbj.o hb1)
          obtain ⟨p0, p1, p2⟩ := Qoo (Qae hX1 hb2)
          obtain ⟨q0, q1, q2⟩ := Qoo hX2
          have hB := Qak (Qak hbj.o hb1) hb2
          have hsc := Qht W2 ua1 ua2 uc1 uc2 ss1 ss2 G.steps H.steps more true (Kd.Qck P1 hB) (Kd.Qck P2 hB) (S1.imp (fun _ _ h => h.below hB)) (S2.imp (fun _ _ h => h.below hB)) (by rw [← S1.len]; exact Y1)
          rw [← S1.len, ← S2.len] at hsc
          have HSC := J0.m hsc
          have hnj := Qj0 j D.vers.length HX1.o hjl
          have hlj := Qkz j D.vers.length HX1.o hjl
          have HVS := J0.m hvs
          have HJL := J0.m hjl
          have HNJ := J0.m hnj
          have HLJ := J0.m hlj
          have HBW := J0.m hB
          have HW2 := J0.m (show W2 = (wr.alloc (.cells #[.int .u64 G.num, .slice ua1 G.steps.length uc1, .int .i64 G.pl] 60)).alloc (.cells #[.int .u64 H.num, .slice ua2 H.steps.length uc2, .int .i64 H.pl] 60) from by rw [hW2, hW1])
          rw [hs1] at q0 q1 q2
          rw [hW2] at p0 p1 p2 q0 q1 q2
          rw [hW1] at p0 p1 p2 q0 q1 q2 v0 v1 v2 yy0 yy1 yy2
          clear hvs hjl hnj hlj hW1 hW2 hb1 hb2 hX1 hX2 hs1 Q1 Q2 P1 P2 S1 S2 Y1 Y2 hB hsc hG hH
          have FINV : J0 (verB more true G H = false → evB more true D E = false) := ⟨fun hq => by
           unfold evB
           rw [← HVS.o, hq, Bool.false_and, Bool.and_false, Bool.and_false, Bool.and_false]⟩
          obtain ⟨s0, f0⟩ : ∃ s0, s0 = (G.num == H.num) := ⟨_, rfl⟩
          have HF0 := J0.m f0.symm
          cases s0 with
          | false =>
           have d7 : (G.num != H.num) = true := by unfold bne; rw [← f0]; rfl
           clear f0
           go_wp2_with fail
           go_ret
           exact FIN0.o _ (by rw [← HW2.o]; exact HBW.o) (FINV.o (by unfold verB; simp only [HF0.o, Bool.false_and]))
          | true =>
           have d7 : (G.num != H.num) = false := by unfold bne; rw [← f0]; rfl
           clear f0
           obtain ⟨s1, f1⟩ : ∃ s1, s1 = (wrap64 (G.pl + more) == H.pl) := ⟨_, rfl⟩
           have HF1 := J0.m f1.symm
           cases s1 with
           | false =>
            have d8 : (wrap64 (G.pl + more) != H.pl) = true := by unfold bne; rw [← f1]; rfl
            clear f1
            go_wp2_with fail
            go_ret
            exact FIN0.o _ (by rw [← HW2.o]; exact HBW.o) (FINV.o (by unfold verB; simp only [HF1.o, Bool.not_true, Bool.or_false, Bool.false_and, Bool.and_false]))
           | true =>
            have d8 : (wrap64 (G.pl + more) != H.pl) = false := by unfold bne; rw [← f1]; rfl
            clear f1
            go_wp2_with fail
            rw [← HW2.o]
            refine HSC.o.mono ?_
            rintro e w7 ⟨rfl, hb7⟩
            have HB7 := J0.m (Qak HBW.o hb7)
            clear hb7
            obtain ⟨tn, en⟩ : ∃ tn, tn = Qg5 more true G.steps H.steps := ⟨_, rfl⟩
            rw [← en]
            have HEN := J0.m en.symm
            clear en
            cases tn with
            | false =>
             go_wp2
             go_ret
             exact FIN0.o _ HB7.o (FINV.o (by unfold verB; simp only [HEN.o, Bool.and_false]))
            | true =>
             go_wp2
             rw [HNJ.o]
             go_roundw
             case measure => have := HLJ.o; have := HJL.o; simp only [left, Int.toNat_natCast]; omega
             case rel =>
              refine ⟨j + 1, rfl, ⟨HJL.o⟩, ⟨?_⟩, ⟨HB7.o⟩⟩
              rw [← HVS.o]
              have : verB more true G H = true := by unfold verB; simp only [HF0.o, HF1.o, HEN.o, Bool.and_true, Bool.true_and, Bool.not_true, Bool.not_false, Bool.or_true, Bool.true_or, Bool.false_or]
              rw [this, Bool.true_and]
         ·have dj2 : decide ((j : Int) < (D.vers.length : Int)) = false := decide_eq_false (by omega)
          have hje : j = D.vers.length := by have := hj.o; omega
          have hv' := hve.o
          rw [hje, List.drop_length, HLV.o, List.drop_length] at hv'
          have HVE : J0 (allB (verB more true) D.vers E.vers = true) := ⟨hv'.symm⟩
          clear hv' hje
          go_wp2
          rw [HNX.o]
          go_roundw
          case measure => have := HLS.o; have := HLT.o; simp only [left, Int.toNat_natCast]; omega
          case rel =>
           refine ⟨i + 1, rfl, ⟨HLT.o⟩, ⟨?_⟩, ⟨hbj.o⟩⟩
           rw [← HST.o]
           have : evB more true D E = true := by unfold evB; simp only [HE0.o, HE6.o, HLV.o, HVE.o, beq_self_eq_true, Bool.and_true, Bool.true_and, Bool.not_true, Bool.not_false, Bool.or_true, Bool.true_or, Bool.false_or]
           rw [this, Bool.true_and]
      | false =>
       go_wp2_with fail
       go_quiet (fail)
       go_wp2_with fail
       go_loopw [10] (fun tj wr => ∃ j : Nat, tj = .int .i64 (j : Int) ∧ J0 (j ≤ D.vers.length) ∧ J0 (allB (verB more false) (D.vers.drop j) (E.vers.drop j) = allB (verB more false) D.vers E.vers) ∧ J0 (Below w.heap.size w wr)) (fun tj _ => D.vers.length - left tj)
       case atStart => exact ⟨0, rfl, ⟨Nat.zero_le _⟩, ⟨rfl⟩, ⟨Qad hb.o _⟩⟩
       case round =>
        obtain ⟨j, rfl, hj, hve, hbj⟩ := hrel
        obtain ⟨x0, x1, x2⟩ := HK1.o wr hbj.o
        obtain ⟨y0, y1, y2⟩ := HK2.o wr hbj.o
        by_cases hjl : j < D.vers.length
        ·have dj : ((j : Int) < (D.vers.length : Int)) := by omega
         have dj2 : decide ((j : Int) < (D.vers.length : Int)) = true := decide_eq_true dj
         have hj2 : (j : Int) < (E.vers.length : Int) := by rw [← HLV.o]; exact dj
         obtain ⟨bd1, ua1, uc1, hB1, Q1, ⟨ss1, P1, S1⟩, Y1⟩ := at_V HN1.o HM1.o j (by rw [← HM1.o.len]; exact hjl) hjl
         obtain ⟨bd2, ua2, uc2, hB2, Q2, ⟨ss2, P2, S2⟩, Y2⟩ := at_V HN2.o HM2.o j (by rw [← HM2.o.len, ← HLV.o]; exact hjl) (by rw [← HLV.o]; exact hjl)
         subst hB1 hB2
         have hvs := hve.o
         rw [Qfd (verB more false) zVD j D.vers E.vers hjl (by rw [← HLV.o]; exact hjl)] at hvs
         obtain ⟨G, hG⟩ : ∃ G, G = D.vers.getD j zVD := ⟨_, rfl⟩
         obtain ⟨H, hH⟩ : ∃ H, H = E.vers.getD j zVD := ⟨_, rfl⟩
         rw [← hG] at Q1 S1 Y1 hvs
         rw [← hH] at Q2 S2 Y2 hvs
         obtain ⟨W1, hW1⟩ : ∃ W1, W1 = wr.alloc (.cells #[.int .u64 G.num, .slice ua1 G.steps.length uc1, .int .i64 G.pl] 60) := ⟨_, rfl⟩
         obtain ⟨W2, hW2⟩ : ∃ W2, W2 = W1.alloc (.cells #[.int .u64 H.num, .slice ua2 H.steps.length uc2, .int .i64 H.pl] 60) := ⟨_, rfl⟩
         have hb1 : Below wr.heap.size wr W1 := by rw [hW1]; exact Qab (Below.refl _ _) _
         have hb2 : Below W1.heap.size W1 W2 := by rw [hW2]; exact Qab (Below.refl _ _) _
         have hX1 : W1.heap[wr.heap.size]? = some (.cells #[.int .u64 G.num, .slice ua1 G.steps.length uc1, .int .i64 G.pl] 60 (0, 0)) := by rw [hW1]; exact Qay _ _
         have hX2 : W2.heap[W1.heap.size]? = some (.cells #[.int .u64 H.num, .slice ua2 H.steps.length uc2, .int .i64 H.pl] 60 (0, 0)) := by rw [hW2]; exact Qay _ _
         have hs1 : W1.heap.size = wr.heap.size + 1 := by rw [hW1]; exact Array.size_push _
         obtain ⟨u0, u1, u2⟩ := Q1 wr hbj.o
         obtain ⟨v0, v1, v2⟩ := Q2 W1 (Qak hbj.o hb1)
         obtain ⟨yy0, yy1, yy2⟩ := HK2.o W1 (Qak hbj.o hb1)
         obtain ⟨p0, p1, p2⟩ := Qoo (Qae hX1 hb2)
         obtain ⟨q0, q1, q2⟩ := Qoo hX2
         have hB := Qak (Qak hbj.o hb1) hb2
         have hsc := Qht W2 ua1 ua2 uc1 uc2 ss1 ss2 G.steps H.steps more false (Kd.Qck P1 hB) (Kd.Qck P2 hB) (S1.imp (fun _ _ h => h.below hB)) (S2.imp (fun _ _ h => h.below hB)) (by rw [← S1.len]; exact Y1)
         rw [← S1.len, ← S2.len] at hsc
         have HSC := J0.m hsc
         have hnj := Qj0 j D.vers.length HX1.o hjl
         have hlj := Qkz j D.vers.length HX1.o hjl
         have HVS := J0.m hvs
         have HJL := J0.m hjl
         have HNJ := J0.m hnj
         have HLJ := J0.m hlj
         have HBW := J0.m hB
         have HW2 := J0.m (show W2 = (wr.alloc (.cells #[.int .u64 G.num, .slice ua1 G.steps.length uc1, .int .i64 G.pl] 60)).alloc (.cells #[.int .u64 H.num, .slice ua2 H.steps.length uc2, .int .i64 H.pl] 60) from by rw [hW2, hW1])
         rw [hs1] at q0 q1 q2
         rw [hW2] at p0 p1 p2 q0 q1 q2
         rw [hW1] at p0 p1 p2 q0 q1 q2 v0 v1 v2 yy0 yy1 yy2
         clear hvs hjl hnj hlj hW1 hW2 hb1 hb2 hX1 hX2 hs1 Q1 Q2 P1 P2 S1 S2 Y1 Y2 hB hsc hG hH
         have FINV : J0 (verB more false G H = false → evB more false D E = false) := ⟨fun hq => by
          unfold evB
          rw [← HVS.o, hq, Bool.false_and, Bool.and_false, Bool.and_false, Bool.and_false]⟩
         obtain ⟨s0, f0⟩ : ∃ s0, s0 = (G.num == H.num) := ⟨_, rfl⟩
         have HF0 := J0.m f0.symm
         cases s0 with
         | false =>
          have d7 : (G.num != H.num) = true := by unfold bne; rw [← f0]; rfl
          clear f0
          go_wp2_with fail
          go_ret
          exact FIN0.o _ (by rw [← HW2.o]; exact HBW.o) (FINV.o (by unfold verB; simp only [HF0.o, Bool.false_and]))
         | true =>
          have d7 : (G.num != H.num) = false := by unfold bne; rw [← f0]; rfl
          clear f0
          go_wp2_with fail
          rw [← HW2.o]
          refine HSC.o.mono ?_
          rintro e w7 ⟨rfl, hb7⟩
          have HB7 := J0.m (Qak HBW.o hb7)
          clear hb7
          obtain ⟨tn, en⟩ : ∃ tn, tn = Qg5 more false G.steps H.steps := ⟨_, rfl⟩
          rw [← en]
          have HEN := J0.m en.symm
          clear en
          cases tn with
          | false =>
           go_wp2
           go_ret
           exact FIN0.o _ HB7.o (FINV.o (by unfold verB; simp only [HEN.o, Bool.and_false]))
          | true =>
           go_wp2
           rw [HNJ.o]
           go_roundw
           case measure => have := HLJ.o; have := HJL.o; simp only [left, Int.toNat_natCast]; omega
           case rel =>
            refine ⟨j + 1, rfl, ⟨HJL.o⟩, ⟨?_⟩, ⟨HB7.o⟩⟩
            rw [← HVS.o]
            have : verB more false G H = true := by unfold verB; simp only [HF0.o, HEN.o, Bool.and_true, Bool.true_and, Bool.not_true, Bool.not_false, Bool.or_true, Bool.true_or, Bool.false_or]
            rw [this, Bool.true_and]
        ·have dj2 : decide ((j : Int) < (D.vers.length : Int)) = false := decide_eq_false (by omega)
         have hje : j = D.vers.length := by have := hj.o; omega
         have hv' := hve.o
         rw [hje, List.drop_length, HLV.o, List.drop_length] at hv'
         have HVE : J0 (allB (verB more false) D.vers E.vers = true) := ⟨hv'.symm⟩
         clear hv' hje
         go_wp2
         rw [HNX.o]
         go_roundw
         case measure => have := HLS.o; have := HLT.o; simp only [left, Int.toNat_natCast]; omega
         case rel =>
          refine ⟨i + 1, rfl, ⟨HLT.o⟩, ⟨?_⟩, ⟨hbj.o⟩⟩
          rw [← HST.o]
          have : evB more false D E = true := by unfold evB; simp only [HE0.o, HLV.o, HVE.o, beq_self_eq_true, Bool.and_true, Bool.true_and, Bool.not_true, Bool.not_false, Bool.or_true, Bool.true_or, Bool.false_or]
          rw [this, Bool.true_and]
     ·have dle : ((D.vers.length : Int) != (E.vers.length : Int)) = true := bne_iff_ne.2 (by omega)
      have HLV : J0 ((D.vers.length == E.vers.length) = false) := ⟨beq_eq_false_iff_ne.2 hle⟩
      clear hle
      go_wp2_with fail
      go_quiet (fail)
      go_wp2
      go_ret
      exact FIN0.o _ (Qad hb.o _) (by unfold evB; simp only [HLV.o, Bool.false_and, Bool.and_false])
   ·have dl2 : decide ((i : Int) < (xs.length : Int)) = false := decide_eq_false (by omega)
    have hie : i = xs.length := by have := hi.o; omega
    have he' := he.o
    have l3 : xs.length = es.length := by rw [L2.o]; exact HLE.o
    rw [hie, ← L1.o, List.drop_length, L1.o, l3, List.drop_length] at he'
    have HE := J0.m he'
    clear he' hie l3
    go_wp2
    go_ret
    exact ⟨by rw [← HE.o]; rfl, hb.o⟩
 ·have d0 : ((xs.length : Int) != (ys.length : Int)) = true := bne_iff_ne.2 (by omega)
  have HF := J0.m (Qhh (evB more pl) ds es (by rw [L1.o, L2.o]; exact hl))
  clear hl
  go_enter Try.func14, Try.ntmps14
  go_wp2
  go_ret
  exact ⟨by unfold Qfx; rw [HF.o]; rfl, Below.refl _ _⟩
open Go.RowKit Ytbdcndkafaajpaa.X Ytbdcndkafaajpaa.L Ytbdcndkafaajpaa.T YtbdcndkafaajpaaW.PrintWords YtbdcndkafaajpaaW.PrintLast YtbdcndkafaajpaaW.PrintMore
theorem Qkw {α : Type} (f : List Tk → Res α) {s : ByteArray} {k : Nat} {ts : List Tk} (h : Qbw.f k s = some (ts, 0, 0)) : Qdc f s = P.outO (f ts) := by
 obtain ⟨K1, h1⟩ := Ev.of (g := fun k => Qbw.f k s) (fun k => Qbw.mono s k) h
 obtain ⟨K2, h2⟩ := Ql0 s
 have e := (h1 (max K1 K2) (by omega)).symm.trans (h2 (max K1 K2) (by omega))
 injection e with e
 unfold Qdc
 cases hx : L.Lex s.data.toList with
 | toks l =>
  rw [hx] at e
  have : ts = l.map toS := by
   have := congrArg Prod.fst e
   simpa [outL] using this
  rw [this]
 | bad a er =>
  rw [hx] at e
  have h0 : (0 : Int) = (er : Int) := by
   have := congrArg (fun x => x.2.2) e
   simpa [outL] using this
  exfalso
  rcases Qib hx with ⟨_, _, h⟩ | ⟨_, _, _, h⟩ <;> omega
def aw1 : ByteArray := ⟨#[101, 118, 101, 110, 116, 32, 97, 123, 118, 101, 114, 115, 105, 111, 110, 32, 49, 123, 97, 100, 100, 32, 120, 58, 117, 105, 110, 116, 59, 125, 125]⟩
def aw2 : ByteArray := ⟨#[49, 45, 50]⟩
def aw3 : ByteArray := ⟨#[40, 49]⟩
theorem Qrs : Qex aw2 = .ok [⟨1, 0, 1, ⟨#[]⟩, 0⟩, ⟨1, 0, 2, ⟨#[]⟩, 2⟩, ⟨7, 0, 0, ⟨#[]⟩, 1⟩] :=
 (Qkw P.Qhq (s := aw2) (k := 40) (ts := [⟨2, ⟨#[]⟩, 1, 0, 1⟩, ⟨4, ⟨#[45]⟩, 0, 1, 2⟩, ⟨2, ⟨#[]⟩, 2, 2, 3⟩, ⟨0, ⟨#[]⟩, 0, 3, 3⟩]) (by kernel_rfl)).trans (by kernel_rfl)
theorem Qrr : Qex aw3 = .bad 90 2 :=
 (Qkw P.Qhq (s := aw3) (k := 40) (ts := [⟨4, ⟨#[40]⟩, 0, 0, 1⟩, ⟨2, ⟨#[]⟩, 1, 1, 2⟩, ⟨0, ⟨#[]⟩, 0, 2, 2⟩]) (by kernel_rfl)).trans (by kernel_rfl)
def aw1S : StD := ⟨1, ⟨#[120]⟩, ⟨#[]⟩, ⟨#[]⟩, ⟨#[]⟩, ⟨#[117, 105, 110, 116]⟩, [], 18⟩
theorem Qrt : Qdk aw1 = .ok [⟨⟨#[97]⟩, [⟨1, [aw1S], 8⟩], 0⟩] :=
 (Qkw P.Qdj (s := aw1) (k := 60) (ts := [⟨1, ⟨#[101, 118, 101, 110, 116]⟩, 0, 0, 5⟩, ⟨1, ⟨#[97]⟩, 0, 6, 7⟩, ⟨4, ⟨#[123]⟩, 0, 7, 8⟩, ⟨1, ⟨#[118, 101, 114, 115, 105, 111, 110]⟩, 0, 8, 15⟩, ⟨2, ⟨#[]⟩, 1, 16, 17⟩, ⟨4, ⟨#[123]⟩, 0, 17, 18⟩, ⟨1, ⟨#[97, 100, 100]⟩, 0, 18, 21⟩, ⟨1, ⟨#[120]⟩, 0, 22, 23⟩, ⟨4, ⟨#[58]⟩, 0, 23, 24⟩, ⟨1, ⟨#[117, 105, 110, 116]⟩, 0, 24, 28⟩, ⟨4, ⟨#[59]⟩, 0, 28, 29⟩, ⟨4, ⟨#[125]⟩, 0, 29, 30⟩, ⟨4, ⟨#[125]⟩, 0, 30, 31⟩, ⟨0, ⟨#[]⟩, 0, 31, 31⟩]) (by kernel_rfl)).trans (by kernel_rfl)
theorem Qr1 {w : World} {b : Nat} {x y z : Nd} (h : w.heap[b]? = some (.cells (Qe9 x ++ Qe9 y ++ Qe9 z).toArray 49 (0, 0))) : Kd.C kn w (some ⟨b, 0, none⟩) 3 [x, y, z] := by
 refine ⟨rfl, by omega, fun _ => ⟨_, rfl, fun j p hj => ⟨Qe9 p, rfl, kn_mk w p, fun i u hu => ?_⟩⟩⟩
 have hi : i < 5 := by
  have := (List.getElem?_eq_some_iff.1 hu).1
  exact this
 have hc : w.cell? ((⟨b, 0, none⟩ : Addr).add (j * 5 + i)) = ((Qe9 x ++ Qe9 y ++ Qe9 z).toArray)[j * 5 + i]? := by
  have := Qac h (j * 5 + i)
  rw [← this]
  by_cases h0 : j * 5 + i = 0
  ·rw [h0]; rfl
  ·simp only [Addr.add]
   rw [if_neg h0]; simp
 show w.cell? ((⟨b, 0, none⟩ : Addr).add (j * 5 + i)) = some u
 rw [hc, List.getElem?_toArray]
 match j, hj with
 | 0, hj =>
  obtain rfl : x = p := by simpa using hj
  rw [List.append_assoc, List.getElem?_append_left (by show 0 * 5 + i < 5; omega), Nat.zero_mul, Nat.zero_add]; exact hu
 | 1, hj =>
  obtain rfl : y = p := by simpa using hj
  rw [List.append_assoc, List.getElem?_append_right (by show 5 ≤ 1 * 5 + i; omega), List.getElem?_append_left (by show 1 * 5 + i - 5 < 5; omega), show 1 * 5 + i - (Qe9 x).length = i by show 1 * 5 + i - 5 = i; omega]; exact hu
 | 2, hj =>
  obtain rfl : z = p := by simpa using hj
  rw [List.getElem?_append_right (by show 10 ≤ 2 * 5 + i; omega), show 2 * 5 + i - (Qe9 x ++ Qe9 y).length = i by show 2 * 5 + i - 10 = i; omega]; exact hu
 | j + 3, hj => simp at hj
theorem Qli (w : World) : Calls Try.prog 10 #[] w fun e w' => e = .returned (.bool true) ∧ Below w.heap.size w w' := by
 go_enter Try.func10, Try.ntmps10
 go_wp2_with fail
 refine (Qg9 w aw1).mono ?_
 rintro e w1 ⟨⟨Av, nv, cv⟩, l, at_, er, rfl, hrows, hb, hs⟩
 rw [Qrt] at hs
 obtain ⟨rfl, rfl, xs, hm, ha⟩ := hs
 obtain ⟨hn, ⟨ys, hC, hA⟩, _⟩ := Qp3 hrows hm ha
 obtain rfl : nv = 1 := hn
 have hl1 : ys.length = 1 := hA.len.symm
 obtain ⟨W1, hW1⟩ : ∃ W1, W1 = w1.alloc (.cells #[.slice Av 1 cv] 27) := ⟨_, rfl⟩
 have hB1 : Below w1.heap.size w1 W1 := by rw [hW1]; exact Qab (Below.refl _ _) _
 have hX1 : W1.heap[w1.heap.size]? = some (.cells #[.slice Av 1 cv] 27 (0, 0)) := by rw [hW1]; exact Qay _ _
 obtain ⟨ad, va, vc, rfl, K, ⟨vs, hCv, hAv⟩, _⟩ := at_E hC hA 0 (by omega) (by decide)
 obtain ⟨bd, ua, uc, rfl, Q, ⟨ss, hCs, hAs⟩, _⟩ := at_V hCv hAv 0 (by rw [← hAv.len]; decide) (by decide)
 obtain ⟨sd, na, nc, rfl, S, hCn, _⟩ := at_S hCs hAs 0 (by rw [← hAs.len]; decide) (by decide)
 obtain ⟨x0, x1, x2⟩ := K W1 hB1
 obtain ⟨y0, y1, y2⟩ := Q W1 hB1
 obtain ⟨z0, z1, z2, z3, z4, z5, z6, z7⟩ := S W1 hB1
 have p0 : W1.cell? ⟨w1.heap.size, 0, none⟩ = some (.slice (some ad) 1 cv) := (Qac hX1 0).trans rfl
 have ea : ad.add (0 * 3) = ad := rfl
 have eb : bd.add (0 * 3) = bd := rfl
 have es : sd.add (0 * 8) = sd := rfl
 rw [ea] at x0 x1 x2
 rw [eb] at y0 y1 y2
 rw [es] at z0 z1 z2 z3 z4 z5 z6 z7
 simp only [List.getD_cons_zero, aw1S, List.length_cons, List.length_nil, Nat.zero_add] at x0 x1 x2 y0 y1 y2 z0 z1 z2 z3 z4 z5 z6 z7
 have HB := J0.m hb
 have HW1 := J0.m hW1
 rw [hW1] at x0 x1 x2 y0 y1 y2 z0 z1 z2 z3 z4 z5 z6 z7 p0
 clear hrows hb hm ha hC hA hCv hAv hCs hAs hCn K Q S hX1 hB1 hl1 hW1 ea eb es
 go_wp2_with fail
 obtain ⟨W2, hW2⟩ : ∃ W2, W2 = W1.alloc (.cells #[.int .i64 1, .string ⟨#[120]⟩, .string ⟨#[]⟩, .string ⟨#[]⟩, .string ⟨#[]⟩, .string ⟨#[117, 105, 110, 116]⟩, .slice na 0 nc, .int .i64 18] 62) := ⟨_, rfl⟩
 have hBW2 : Below w.heap.size w W2 := by
  have h1 : Below w1.heap.size w1 W1 := by rw [HW1.o]; exact Qab (Below.refl _ _) _
  have h2 : Below W1.heap.size W1 W2 := by rw [hW2]; exact Qab (Below.refl _ _) _
  exact Qak (Qak HB.o h1) h2
 have hX2 : W2.heap[w1.heap.size + 1]? = some (.cells #[.int .i64 1, .string ⟨#[120]⟩, .string ⟨#[]⟩, .string ⟨#[]⟩, .string ⟨#[]⟩, .string ⟨#[117, 105, 110, 116]⟩, .slice na 0 nc, .int .i64 18] 62 (0, 0)) := by
  have hs : W1.heap.size = w1.heap.size + 1 := by rw [HW1.o]; exact Array.size_push _
  rw [hW2, ← hs]; exact Qay _ _
 have HB2 := J0.m hBW2
 have HX2 := J0.m hX2
 rw [← HW1.o, ← hW2]
 clear hBW2 hX2 hW2 x0 x1 x2 y0 y1 y2 z0 z1 z2 z3 z4 z5 z6 z7 p0
 refine (Qh8 W2 aw2).mono ?_
 rintro e w3 ⟨⟨A3, n3, c3⟩, l3, at3, er3, rfl, hr3, hb3, hs3⟩
 rw [Qrs] at hs3
 obtain ⟨rfl, rfl, hm3⟩ := hs3
 have hR3 : Kd.R kn 49 w3 W2.heap.size (fun _ => True) (.slice A3 n3 c3) [⟨1, 0, 1, ⟨#[]⟩, 0⟩, ⟨1, 0, 2, ⟨#[]⟩, 2⟩, ⟨7, 0, 0, ⟨#[]⟩, 1⟩] := hr3.holds _ hm3
 obtain ⟨e3, _, hC3⟩ := Kd.Qd3 hR3
 obtain rfl : n3 = 3 := e3
 have HB3 := J0.m (Qak HB2.o hb3)
 have HX3 := J0.m (Qae HX2.o hb3)
 have HC3 := J0.m hC3
 clear hr3 hb3 hm3 hR3 hC3
 go_wp2_with fail
 refine (Qh8 w3 aw3).mono ?_
 rintro e w4 ⟨⟨A4, n4, c4⟩, l4, at4, er4, rfl, hr4, hb4, hs4⟩
 rw [Qrr] at hs4
 obtain ⟨rfl, rfl, hv4, _⟩ := hs4
 have HB4 := J0.m (Qak HB3.o hb4)
 have HX4 := J0.m (Qae HX3.o hb4)
 have HC4 := J0.m (Kd.Qck HC3.o hb4)
 clear hr4 hb4 hv4
 obtain ⟨z0, z1, z2, z3, z4, z5, z6, z7⟩ := Qqv HX4.o
 go_wp2_with fail
 obtain ⟨W5, hW5⟩ : ∃ W5, W5 = w4.alloc (.cells #[.int .i64 1, .int .i64 0, .int .u64 1, .string ⟨#[]⟩, .int .i64 0, .int .i64 1, .int .i64 0, .int .u64 2, .string ⟨#[]⟩, .int .i64 2, .int .i64 7, .int .i64 0, .int .u64 0, .string ⟨#[]⟩, .int .i64 1] 49) := ⟨_, rfl⟩
 have hB5 : Below w4.heap.size w4 W5 := by rw [hW5]; exact Qab (Below.refl _ _) _
 have hX5 : W5.heap[w4.heap.size]? = some (.cells #[.int .i64 1, .int .i64 0, .int .u64 1, .string ⟨#[]⟩, .int .i64 0, .int .i64 1, .int .i64 0, .int .u64 2, .string ⟨#[]⟩, .int .i64 2, .int .i64 7, .int .i64 0, .int .u64 0, .string ⟨#[]⟩, .int .i64 1] 49 (0, 0)) := by rw [hW5]; exact Qay _ _
 have hT := Qr1 (x := ⟨1, 0, 1, ⟨#[]⟩, 0⟩) (y := ⟨1, 0, 2, ⟨#[]⟩, 2⟩) (z := ⟨7, 0, 0, ⟨#[]⟩, 1⟩) hX5
 have HNC := J0.m (Qhx W5 A3 (some ⟨w4.heap.size, 0, none⟩) c3 3 [⟨1, 0, 1, ⟨#[]⟩, 0⟩, ⟨1, 0, 2, ⟨#[]⟩, 2⟩, ⟨7, 0, 0, ⟨#[]⟩, 1⟩] [⟨1, 0, 1, ⟨#[]⟩, 0⟩, ⟨1, 0, 2, ⟨#[]⟩, 2⟩, ⟨7, 0, 0, ⟨#[]⟩, 1⟩] 0 true (Kd.Qck HC4.o hB5) hT (by decide))
 have HB5 := J0.m (Qak HB4.o hB5)
 rw [← hW5]
 clear hW5 hB5 hX5 hT z0 z1 z2 z3 z4 z5 z6 z7
 refine HNC.o.mono ?_
 rintro e w6 ⟨rfl, hb6⟩
 have hnb : Qg7 0 true [⟨1, 0, 1, ⟨#[]⟩, 0⟩, ⟨1, 0, 2, ⟨#[]⟩, 2⟩, ⟨7, 0, 0, ⟨#[]⟩, 1⟩] [⟨1, 0, 1, ⟨#[]⟩, 0⟩, ⟨1, 0, 2, ⟨#[]⟩, 2⟩, ⟨7, 0, 0, ⟨#[]⟩, 1⟩] = true := by kernel_rfl
 rw [hnb]
 have HB6 := J0.m (Qak HB5.o hb6)
 clear hb6 hnb
 go_wp2
 go_ret
 exact ⟨rfl, HB6.o⟩
open Ytbdcndkafaajpaa.P (Nd EO Res hd isT isM Qar mxl comb mk1 StD VeD EvD Out Qdc Qdk Qex Qdh Qhq opn isOp isMt Pw NR)
section
variable {P : Program} {ops : Array Oper} {rest : List Oper} {o : Oper} {a : Act} {Q : Exit → Act → World → Prop} {Kc : Act → World → Prop}
end
def RdL (w : World) (v : Sl) (ns : List Nd) : Prop := v.n = ns.length ∧ Kd.C kn w v.A ns.length ns ∧ ns.length ≤ 9223372036854775807
theorem RdL.below {w w' : World} {v : Sl} {ns : List Nd} (h : RdL w v ns) (hb : Below w.heap.size w w') : RdL w' v ns := ⟨h.1, Kd.Qck h.2.1 hb, h.2.2⟩
theorem Qp0 {w : World} {base : Nat} {l : List Row} {o : Out (List EvD)} {v : Sl} {at_ er : Int} (hl : Rows w base l) (h : Says o v at_ er (fun ds => ∃ xs, Row.e v xs ∈ l ∧ All2 (EvT l) ds xs)) :
  ∃ ds, RdS w v ds ∧ ((er = 0 ∧ at_ = 0 ∧ o = .ok ds) ∨ (er ≠ 0 ∧ ds = [] ∧ o = .bad er at_)) := by
 cases o with
 | ok ds =>
  obtain ⟨h1, h2, xs, hm, ha⟩ := h
  exact ⟨ds, Qp3 hl hm ha, .inl ⟨h2, h1, rfl⟩⟩
 | bad e p =>
  obtain ⟨h1, h2, h3, h4⟩ := h
  subst h1 h2 h3
  exact ⟨[], RdS.nil w, .inr ⟨h4, rfl, rfl⟩⟩
theorem Qnz {w : World} {v u : Sl} {ds es : List EvD} (h : RdS w v ds) (k : RdS w u es) (more : Int) (pl : Bool) :
  Calls Try.prog 14 #[.slice v.A v.n v.c, .slice u.A u.n u.c, .int .i64 more, .bool pl] w fun e w' => e = .returned (.bool (Qfx more pl ds es)) ∧ Below w.heap.size w w' := by
 obtain ⟨h1, ⟨xs, h2, h3⟩, h4⟩ := h
 obtain ⟨k1, ⟨ys, k2, k3⟩, k4⟩ := k
 have := Qj7 w v.A u.A v.c u.c xs ys ds es more pl h2 k2 h3 k3 (by rw [← h3.len]; exact h4)
 rwa [← h3.len, ← k3.len, ← h1, ← k1] at this
theorem Qle {w w' : World} (h : Qbe w w') : Below w.heap.size w w' := by
 obtain ⟨m, rfl⟩ := h
 exact Qad (Below.refl _ _) m
end Go.Proofs.Ytbdcndkafaajpaa.A
end
section
namespace Go.Proofs.Ytbdcndkafaajpaa.R
open Ytbdcndkafaajpaa.L hiding Tk
open Go.RowKit Ytbdcndkafaajpaa.T Ytbdcndkafaajpaa.X Ytbdcndkafaajpaa.A YtbdcndkafaajpaaW.PrintWords YtbdcndkafaajpaaW.PrintLast YtbdcndkafaajpaaW.PrintMore
open Ytbdcndkafaajpaa.P (Nd EO Res hd isT isM Qar mxl comb mk1 StD VeD EvD Out Qdc Qdk Qex)
theorem Qq5 (l : List ByteArray) (hl : l.length ≤ 4611686018427387904) : ∀ (d i : Nat) (n : Int), l.length - i ≤ d → i ≤ l.length → ∃ r, Qbn.l0 (d + 1) l n (i : Int) = some r := by
 intro d
 induction d with
 | zero =>
  intro i n hd hi
  unfold Qbn.l0
  rw [if_neg (by omega)]
  exact ⟨_, rfl⟩
 | succ d ih =>
  intro i n hd hi
  unfold Qbn.l0
  by_cases h : (i : Int) < (l.length : Int)
  ·rw [if_pos h]
   by_cases h2 : n ≤ 16777216
   ·rw [if_pos h2, if_pos (by omega), show wrap64 ((i : Int) + 1) = ((i + 1 : Nat) : Int) by unfold wrap64; omega]
    exact ih (i + 1) _ (by omega) (by omega)
   ·rw [if_neg h2]; exact ⟨_, rfl⟩
  ·rw [if_neg h]; exact ⟨_, rfl⟩
theorem Qmk (w : World) (A0 : Option Addr) (c0 : Nat) (l : List ByteArray) (hr : Kd.C Kd.string w A0 l.length l) (hc : l.length ≤ c0) (hl : l.length ≤ 4611686018427387904) : ∃ r, Calls Try.prog 11 #[.slice A0 l.length c0] w fun e w' => e = .returned (.bool r) ∧ Below w.heap.size w w' := by
 obtain ⟨r, h⟩ := Qq5 l hl l.length 0 0 (by omega) (by omega)
 exact ⟨r, (Qbn.calls _ A0 c0 l r w hr hc h).mono fun e w' ⟨h1, h2⟩ => ⟨h1, Qle h2⟩⟩
theorem sm_w {n : Nat} (hn : n ≤ 1048576) : ∀ p q, P.Sm n p q → wrap64 (p + 0) = q := by
 intro p q h
 obtain ⟨h1, h2, h3⟩ := h
 unfold wrap64; omega
theorem same_e {s : ByteArray} {ds : List EvD} (h : Qdk s = .ok ds) : Qfx 0 true ds ds = true := by
 unfold Qdk Qdc at h
 cases hx : L.Lex s.data.toList with
 | bad a e => rw [hx] at h; cases h
 | toks l =>
  rw [hx] at h
  obtain ⟨h1, h2, h3⟩ := Qma hx
  have hr := P.Qkq (P.Qru h2)
  simp only at h
  cases hy : P.Qdj (l.map toS) with
  | bad e' p' => rw [hy] at h; cases h
  | ok a r =>
   rw [hy] at h hr
   cases h
   exact Qmp (fun _ => sm_w (by omega)) hr.1
theorem agree {α : Type} {o : Out (List α)} {xs ys : List α} {B : List α → List α → Bool} {e1 a1 e2 a2 : Int} (h0 : B [] [] = true) (hB : ∀ ds, o = .ok ds → B ds ds = true) (s1 : (e1 = 0 ∧ a1 = 0 ∧ o = .ok xs) ∨ (e1 ≠ 0 ∧ xs = [] ∧ o = .bad e1 a1)) (s2 : (e2 = 0 ∧ a2 = 0 ∧ o = .ok ys) ∨ (e2 ≠ 0 ∧ ys = [] ∧ o = .bad e2 a2)) : a2 = a1 ∧ e2 = e1 ∧ B xs ys = true := by
 rcases s1 with ⟨k1, k2, k3⟩ | ⟨k1, k2, k3⟩
 ·rcases s2 with ⟨m1, m2, m3⟩ | ⟨m1, m2, m3⟩
  ·rw [k3] at m3; cases m3
   exact ⟨by rw [k2, m2], by rw [k1, m1], hB _ k3⟩
  ·rw [k3] at m3; cases m3
 ·rcases s2 with ⟨m1, m2, m3⟩ | ⟨m1, m2, m3⟩
  ·rw [k3] at m3; cases m3
  ·rw [k3] at m3; cases m3
   rw [k2, m2]
   exact ⟨rfl, rfl, h0⟩
theorem item {w : World} {A0 : Option Addr} {l : List ByteArray} (hr : Kd.C Kd.string w A0 l.length l) {i : Nat} (hi : i < l.length) : ∃ ad s, A0 = some ad ∧ ∀ W, Below w.heap.size w W → W.cell? (ad.add i) = some (.string s) := by
 obtain ⟨ad, had, hx⟩ := Kd.Qfy hr (i : Int) (by omega) (by omega)
 rw [Int.toNat_natCast] at hx
 refine ⟨ad, rdOf ByteArray.empty l (i : Int), had, fun W hW => ?_⟩
 obtain ⟨ad', had', hx'⟩ := Kd.Qfy (Kd.Qck hr hW) (i : Int) (by omega) (by omega)
 rw [Int.toNat_natCast] at hx'
 rw [had] at had'
 injection had' with had'
 subst had'
 exact hx'
theorem Qi6 (w : World) (A0 : Option Addr) (c0 : Nat) (l : List ByteArray) (hr : Kd.C Kd.string w A0 l.length l) (hc : l.length ≤ c0) (hl : l.length ≤ 4611686018427387904) :
  Calls Try.prog 3 #[.slice A0 l.length c0] w fun e w' => e = .returned (.bool true) ∧ Below w.heap.size w w' := by
 have HR := J0.m hr
 have HC := J0.m hc
 have HL := J0.m hl
 clear hr hc hl
 go_enter Try.func3, Try.ntmps3
 go_wp2_with fail
 refine (Qli w).mono ?_
 rintro e w1 ⟨rfl, hb1⟩
 have HB1 := J0.m hb1
 clear hb1
 obtain ⟨rb, hm⟩ := Qmk w1 A0 c0 l (Kd.Qck HR.o HB1.o) HC.o HL.o
 have HM := J0.m hm
 clear hm
 go_wp2_with fail
 refine HM.o.mono ?_
 rintro e w2 ⟨rfl, hb2⟩
 have HB2 := J0.m (Qak HB1.o hb2)
 clear hb2
 cases rb with
 | true =>
  go_wp2
  go_ret
  exact ⟨rfl, HB2.o⟩
 | false =>
  go_wp2_with fail
  go_loopg [3, 4, 5, 6, 7, 8, 9, 10] l.length (fun k s3 s4 s5 s6 s7 s8 s9 s10 wr => ∃ i : Nat, s3 = .bool true ∧ s4 = .int .i64 (i : Int) ∧ J0 (i + k = l.length) ∧ J0 (Below w.heap.size w wr))
  case atStart => exact ⟨0, rfl, rfl, ⟨by omega⟩, HB2⟩
  case round =>
   obtain ⟨i, rfl, rfl, hi, hb⟩ := hrel
   have HB := hb
   clear hb
   by_cases ci : i < l.length
   ·have d1 : decide ((i : Int) < (l.length : Int)) = true := decide_eq_true (by omega)
    have d2 : ((i : Int) < (l.length : Int)) := by omega
    have HNX : J0 (wrap64 ((i : Int) + 1) = ((i + 1 : Nat) : Int)) := ⟨by have := HL.o; unfold wrap64; omega⟩
    obtain ⟨ad, s, had, hx⟩ := item HR.o ci
    subst had
    have HX := J0.m hx
    clear hx
    have x1 := HX.o wr HB.o
    go_wp2_with fail
    refine (A.Qg9 wr s).mono ?_
    rintro e w3 ⟨⟨Av, nv, cv⟩, l3, at3, er3, rfl, hrows, hb, hsays⟩
    obtain ⟨xs, rd3, hs3⟩ := Qp0 hrows hsays
    have HB3 := J0.m (Qak HB.o hb)
    have HRD3 := J0.m rd3
    have HS3 := J0.m hs3
    clear hrows hb hsays rd3 hs3 x1
    obtain ⟨b3, hb3⟩ : ∃ b3, b3 = w3.heap.size := ⟨_, rfl⟩
    obtain ⟨W3, hW3⟩ : ∃ W3, W3 = w3.alloc (.cells #[.slice Av nv cv] 27) := ⟨_, rfl⟩
    have hbw : Below w3.heap.size w3 W3 := by rw [hW3]; exact Qab (Below.refl _ _) _
    have HY3 : J0 (W3.heap[b3]? = some (.cells #[.slice Av nv cv] 27 (0, 0))) := ⟨by rw [hW3, hb3]; exact Qay _ _⟩
    have HB3' := J0.m (Qak HB3.o hbw)
    have HRD3' := J0.m (HRD3.o.below hbw)
    have x2 := HX.o W3 HB3'.o
    rw [hW3] at x2
    have HW3 := J0.m hW3
    have HBB3 := J0.m hb3
    clear hb3 hW3 hbw
    go_wp2_with fail
    rw [← HW3.o, ← HBB3.o]
    clear x2
    refine (Qi9 W3 s).mono ?_
    rintro e w4 ⟨⟨Au, nu, cu⟩, l4, at4, er4, rfl, hrows, hb, hsays⟩
    obtain ⟨ys, rd4, hs4⟩ := Qp0 hrows hsays
    obtain ⟨rfl, rfl, hB⟩ := agree (B := Qfx 0 true) rfl (fun ds h => same_e h) HS3.o hs4
    have HRD4 := J0.m rd4
    have HBQ := J0.m hB
    have HY4 := J0.m (Qae HY3.o hb)
    have HB4a := J0.m (Qak HB3'.o hb)
    have HRD3'' := J0.m (HRD3'.o.below hb)
    obtain ⟨b4, hb4⟩ : ∃ b4, b4 = w4.heap.size := ⟨_, rfl⟩
    obtain ⟨W4, hW4⟩ : ∃ W4, W4 = w4.alloc (.cells #[.slice Au nu cu] 27) := ⟨_, rfl⟩
    have hbw : Below w4.heap.size w4 W4 := by rw [hW4]; exact Qab (Below.refl _ _) _
    have hy4 : W4.heap[b4]? = some (.cells #[.slice Au nu cu] 27 (0, 0)) := by rw [hW4, hb4]; exact Qay _ _
    have HB4 := J0.m (Qak HB4a.o hbw)
    have HRDA := J0.m (HRD3''.o.below hbw)
    have HRDB := J0.m (HRD4.o.below hbw)
    have y0 := (Qac (Qae HY4.o hbw) 0).trans rfl
    have z0 := (Qac hy4 0).trans rfl
    rw [hW4] at y0 z0
    rw [hb4] at z0
    have HW4 := J0.m hW4
    have HBB4 := J0.m hb4
    clear hb4 hW4 hbw hy4
    clear hrows hb hsays rd4 hs4 hB HS3
    go_wp2_with fail
    rw [← HW4.o]
    refine (Qnz (HRDA.o) (HRDB.o) 0 true).mono ?_
    rw [HBQ.o]
    rintro e w5 ⟨rfl, hb⟩
    have HB5 := J0.m (Qak HB4.o hb)
    clear hb
    go_wp2
    go_roundg (gk - 1)
    case measure => have := hi.o; omega
    case rel => exact ⟨i + 1, rfl, by rw [HNX.o], ⟨by have := hi.o; omega⟩, HB5⟩
   ·have d1 : decide ((i : Int) < (l.length : Int)) = false := decide_eq_false (by omega)
    have d2 : ¬ ((i : Int) < (l.length : Int)) := by omega
    go_wp2
    go_ret
    exact ⟨rfl, HB.o⟩
end Go.Proofs.Ytbdcndkafaajpaa.R
end
