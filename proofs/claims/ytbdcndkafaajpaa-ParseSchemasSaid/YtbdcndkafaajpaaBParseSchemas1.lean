/- Walks and plain laws behind ParseSchemas. Conditions: those in the theorems. -/
import Derived.Deep.Slices
import Derived.SizedLaws
import Derived.ChangeSlices
import Derived.OpenShut
import Derived.DataReads
import Derived.DataElems
import Derived.Test.YtbdcndkafaajpaaProg
import Derived.Below
import Derived.Deep.Draws
import Derived.Deep.AppendLies
import Derived.Maps.AppendAt
import Derived.OwnWalk
import Derived.Laws.BytesArg
import Derived.Laws.MakeOwn
import Derived.Laws.OwnMore
import Derived.Deep.OwnRows
import Derived.Tactics
import Derived.Lib.ConvBytes
import Derived.Laws.Slices
import Derived.WalkKit
import Derived.KernelRfl
import Derived.RowKit3
import Derived.Deep.LoopGhost
import Derived.Deep.QuietTactic
import Derived.BigQuiet
import Derived.WideLaws
import Derived.Deep.DeepCutAuto
import Derived.Deep.CutBlock
import Derived.Deep.RegionHeld3
import Derived.Laws.Rows
import Derived.Lib.AppendStr
import Derived.ArgAppend
import Derived.Laws.IdiomCopy
import Derived.OrdersHeld
import Derived.Laws.BitsLemmas
import Derived.RowKit
import Derived.Test.YtbdcndkafaajpaaShelf
import Derived.BigCall
import Derived.Laws.Externs
import Derived.RegionTactic
import Derived.ChangeAlike
import Derived.BigRegion
import Derived.StillTailTactics
import Derived.Deep.DeepMust
import Derived.Outline
import Derived.Lib.BufferWrite
import Derived.Maps.OwnOps
import Derived.Test.YtbdcndkafaajpaaBParseSchemas0
set_option linter.unusedVariables false
set_option linter.unusedSimpArgs false
set_option maxHeartbeats 16000000
set_option maxRecDepth 100000
section
namespace Go.Proofs.Ytbdcndkafaajpaa.Q
open Go.RowKit Go.ChangeShapes YtbdcndkafaajpaaW.PrintWords
theorem Qho {H : Type} {P : Program} {e : TypeId} : ∀ {l : List (DataW H)} {i : Nat} {d : DataW H}, l[i]? = some d → ∀ n ∈ d.weights P e, n ∈ DataW.weightsAll P e l
 | [], i, d, h, _, _ => by simp at h
 | x :: r, 0, d, h, n, hn => by
  simp only [List.getElem?_cons_zero, Option.some.injEq] at h
  subst h
  rw [DataW.weightsAll]; exact List.mem_append_left _ hn
 | x :: r, i + 1, d, h, n, hn => by
  rw [DataW.weightsAll]; exact List.mem_append_right _ (Qho (by simpa using h) n hn)
section
variable {H : Type} {enc : TypeId × Value → H} {P : Program} {W : World} {base : Nat} {spare : Nat → Bool} {held : Bool}
theorem Qqx {α : Type} (K : Kd α) (z0 : α) {t e : TypeId} {a : Option Addr} {len cap : Nat} {d : DataW H} {ps : List MemPlace} (ht : P.underlying t = some (.slice e)) (hsz : P.cellsOf e = K.sz) (Q : α → Prop)
  (helem : ∀ (n : Nat) (cs : List Value) (y : DataW H × List MemPlace), DataW.trod enc P W base spare held n e cs = some y → (∀ m ∈ y.1.weights P e, m ≤ reachBytes) → ∃ x : α, K.K W x cs ∧ Q x)
  (hw : ∀ m ∈ d.weights P t, m ≤ reachBytes) (h : DataW.Trod enc P W base spare held t (.slice a len cap) d ps) :
  ∃ xs : List α, K.C W a xs.length xs ∧ len = xs.length ∧ xs.length ≤ cap ∧ (∀ x ∈ xs, Q x) ∧ len * P.bytesOf e ≤ reachBytes := by
 obtain ⟨fuel, hf⟩ := h
 rcases Go.Deep.open_slice ht hf with ⟨hcs, hx⟩ | ⟨ad, l, c, m, n, D, Pl, hcs, _, hl, hm, hmm, hx, hel⟩
 ·simp [Value.cells] at hcs
  obtain ⟨rfl, rfl, rfl⟩ := hcs
  exact ⟨[], Kd.C_nil K W, rfl, Nat.le_refl _, by simp, by simp⟩
 ·simp [Value.cells] at hcs
  obtain ⟨rfl, rfl, rfl⟩ := hcs
  obtain ⟨hd, _⟩ := Prod.mk.inj hx
  subst hd
  have hle : len ≤ m := by rw [hmm]; split <;> omega
  simp only [DataW.weights, ht] at hw
  have hlen : len * P.bytesOf e ≤ reachBytes := by
   have := hw _ (List.mem_cons_self ..)
   rw [List.length_map, List.length_range] at this
   exact Nat.le_trans (Nat.mul_le_mul_right _ (Nat.le_add_right _ _)) this
  have each : ∀ i, ∃ x : α, i < len → (∃ cs', W.cells? base (ad.add (i * P.cellsOf e)) (P.cellsOf e) = some cs' ∧ K.K W x cs') ∧ Q x := by
   intro i
   by_cases hi : i < len
   ·obtain ⟨cs', hc, htr⟩ := hel i (by omega)
    have hwi : ∀ m ∈ (D i, Pl i).1.weights P e, m ≤ reachBytes := by
     intro q hq
     refine hw q (List.mem_cons_of_mem _ (List.mem_append_left _ (Qho (i := i) (d := D i) ?_ q hq)))
     rw [List.getElem?_map, List.getElem?_range hi]; rfl
    obtain ⟨x, hx, hq⟩ := helem n cs' (D i, Pl i) htr hwi
    exact ⟨x, fun _ => ⟨⟨cs', hc, hx⟩, hq⟩⟩
   ·exact ⟨z0, fun hi2 => absurd hi2 hi⟩
  obtain ⟨f, hf2⟩ := Classical.axiomOfChoice each
  have hml : (9223372036854775807 : Nat) = maxLen := rfl
  refine ⟨(List.range len).map f, ⟨rfl, ?_, fun _ => ⟨ad, rfl, fun j p hp => ?_⟩⟩, by simp, by simpa using hl, ?_, hlen⟩
  ·rw [List.length_map, List.length_range, hml]; omega
  ·have hj : j < len := by
    have := (List.getElem?_eq_some_iff.1 hp).1
    simpa using this
   rw [List.getElem?_map, List.getElem?_range hj] at hp
   obtain rfl : f j = p := Option.some.inj hp
   obtain ⟨⟨cs', hc, hk⟩, _⟩ := hf2 j hj
   refine ⟨cs', K.K_len hk, hk, fun i u hu => ?_⟩
   have hi : i < K.sz := by
    have := (List.getElem?_eq_some_iff.1 hu).1
    rw [K.K_len hk] at this; exact this
   obtain ⟨_, _, hcell⟩ := World.cells?_some hc
   have h3 := hcell i (by rw [hsz]; exact hi)
   rw [Addr.add_add, hsz] at h3
   rw [h3, hu]
  ·intro x hx
   obtain ⟨i, hi, rfl⟩ := List.mem_map.1 hx
   exact (hf2 i (List.mem_range.1 hi)).2
end
end Go.Proofs.Ytbdcndkafaajpaa.Q
end
section
namespace Go.Proofs.Ytbdcndkafaajpaa.Y
open Go.RowKit YtbdcndkafaajpaaW.PrintWords YtbdcndkafaajpaaW.PrintLast YtbdcndkafaajpaaW.PrintMore
attribute [local go_sem] Qdz Qdx Qes Qer Qdm Qdl Qdy Qdw
def errW : Option Int → Value
 | none => .nilIface
 | some c => .iface 0 (.int .i64 c)
theorem Qax : errW none = .nilIface := rfl
theorem Qaw (c : Int) : errW (some c) = .iface 0 (.int .i64 c) := rfl
end Go.Proofs.Ytbdcndkafaajpaa.Y
end
section
namespace Go.Proofs.Ytbdcndkafaajpaa.Y
open Go.RowKit YtbdcndkafaajpaaW.PrintWords YtbdcndkafaajpaaW.PrintLast YtbdcndkafaajpaaW.PrintMore
attribute [local go_sem] Qdz Qdx Qes Qer Qdm Qdl Qdy Qdw
def Qbo.f (a0 : Int) : Option (Bool) := if a0 ≥ 48 then (some (decide (a0 ≤ 57))) else (some false)
theorem Qbo.calls (a0 : Int) (r : Bool) (w : World) (h : Qbo.f a0 = some r) :
  Calls Try.prog 56 #[.int .u8 a0] w fun e w' => e = .returned (.bool r) ∧ Qbe w w' := by
 have H : (if a0 ≥ 48 then (some (decide (a0 ≤ 57))) else (some false)) = some r := h
 clear h
 by_cases c2 : a0 ≥ 48
 ·rw [if_pos c2] at H
  have c2b0 : decide (48 ≤ a0) = true := decide_eq_true c2
  clear c2
  obtain rfl := Option.some.inj H
  go_enter Try.func56, Try.ntmps56
  go_wp2
  go_ret
  exact ⟨by first | rfl | (simp; done) | (simp [*]; done), by repeat (first | exact Qbe.refl _ | apply Qbe.step)⟩
 ·rw [if_neg c2] at H
  have c2b0 : decide (48 ≤ a0) = false := decide_eq_false c2
  clear c2
  obtain rfl := Option.some.inj H
  go_enter Try.func56, Try.ntmps56
  go_wp2
  go_ret
  exact ⟨by first | rfl | (simp; done) | (simp [*]; done), by repeat (first | exact Qbe.refl _ | apply Qbe.step)⟩
def Qbr.f (a0 : Int) : Option (Bool) := if a0 ≥ 97 then (if a0 ≤ 122 then (some true) else (if a0 ≥ 65 then (if a0 ≤ 90 then (some true) else (some (a0 == 95))) else (some (a0 == 95)))) else (if a0 ≥ 65 then (if a0 ≤ 90 then (some true) else (some (a0 == 95))) else (some (a0 == 95)))
theorem Qbr.calls (a0 : Int) (r : Bool) (w : World) (h : Qbr.f a0 = some r) :
  Calls Try.prog 53 #[.int .u8 a0] w fun e w' => e = .returned (.bool r) ∧ Qbe w w' := by
 have H : (if a0 ≥ 97 then (if a0 ≤ 122 then (some true) else (if a0 ≥ 65 then (if a0 ≤ 90 then (some true) else (some (a0 == 95))) else (some (a0 == 95)))) else (if a0 ≥ 65 then (if a0 ≤ 90 then (some true) else (some (a0 == 95))) else (some (a0 == 95)))) = some r := h
 clear h
 by_cases c2 : a0 ≥ 97
 ·rw [if_pos c2] at H
  have c2b0 : decide (97 ≤ a0) = true := decide_eq_true c2
  clear c2
  by_cases c3 : a0 ≤ 122
  ·rw [if_pos c3] at H
   have c3b0 : decide (a0 ≤ 122) = true := decide_eq_true c3
   clear c3
   obtain rfl := Option.some.inj H
   go_enter Try.func53, Try.ntmps53
   go_wp2
   go_ret
   exact ⟨by first | rfl | (simp; done) | (simp [*]; done), by repeat (first | exact Qbe.refl _ | apply Qbe.step)⟩
  ·rw [if_neg c3] at H
   have c3b0 : decide (a0 ≤ 122) = false := decide_eq_false c3
   clear c3
   by_cases c4 : a0 ≥ 65
   ·rw [if_pos c4] at H
    have c4b0 : decide (65 ≤ a0) = true := decide_eq_true c4
    clear c4
    by_cases c5 : a0 ≤ 90
    ·rw [if_pos c5] at H
     have c5b0 : decide (a0 ≤ 90) = true := decide_eq_true c5
     clear c5
     obtain rfl := Option.some.inj H
     go_enter Try.func53, Try.ntmps53
     go_wp2
     go_ret
     exact ⟨by first | rfl | (simp; done) | (simp [*]; done), by repeat (first | exact Qbe.refl _ | apply Qbe.step)⟩
    ·rw [if_neg c5] at H
     have c5b0 : decide (a0 ≤ 90) = false := decide_eq_false c5
     clear c5
     obtain rfl := Option.some.inj H
     go_enter Try.func53, Try.ntmps53
     go_wp2
     go_ret
     exact ⟨by first | rfl | (simp; done) | (simp [*]; done), by repeat (first | exact Qbe.refl _ | apply Qbe.step)⟩
   ·rw [if_neg c4] at H
    have c4b0 : decide (65 ≤ a0) = false := decide_eq_false c4
    clear c4
    obtain rfl := Option.some.inj H
    go_enter Try.func53, Try.ntmps53
    go_wp2
    go_ret
    exact ⟨by first | rfl | (simp; done) | (simp [*]; done), by repeat (first | exact Qbe.refl _ | apply Qbe.step)⟩
 ·rw [if_neg c2] at H
  have c2b0 : decide (97 ≤ a0) = false := decide_eq_false c2
  clear c2
  by_cases c6 : a0 ≥ 65
  ·rw [if_pos c6] at H
   have c6b0 : decide (65 ≤ a0) = true := decide_eq_true c6
   clear c6
   by_cases c7 : a0 ≤ 90
   ·rw [if_pos c7] at H
    have c7b0 : decide (a0 ≤ 90) = true := decide_eq_true c7
    clear c7
    obtain rfl := Option.some.inj H
    go_enter Try.func53, Try.ntmps53
    go_wp2
    go_ret
    exact ⟨by first | rfl | (simp; done) | (simp [*]; done), by repeat (first | exact Qbe.refl _ | apply Qbe.step)⟩
   ·rw [if_neg c7] at H
    have c7b0 : decide (a0 ≤ 90) = false := decide_eq_false c7
    clear c7
    obtain rfl := Option.some.inj H
    go_enter Try.func53, Try.ntmps53
    go_wp2
    go_ret
    exact ⟨by first | rfl | (simp; done) | (simp [*]; done), by repeat (first | exact Qbe.refl _ | apply Qbe.step)⟩
  ·rw [if_neg c6] at H
   have c6b0 : decide (65 ≤ a0) = false := decide_eq_false c6
   clear c6
   obtain rfl := Option.some.inj H
   go_enter Try.func53, Try.ntmps53
   go_wp2
   go_ret
   exact ⟨by first | rfl | (simp; done) | (simp [*]; done), by repeat (first | exact Qbe.refl _ | apply Qbe.step)⟩
end Go.Proofs.Ytbdcndkafaajpaa.Y
end
section
namespace Go.Proofs.Ytbdcndkafaajpaa.G
open Go.RowKit YtbdcndkafaajpaaW.PrintWords YtbdcndkafaajpaaW.PrintLast YtbdcndkafaajpaaW.PrintMore
theorem w64 {x : Int} (h0 : 0 ≤ x) (h1 : x ≤ 4611686018427387904) : wrap64 x = x := by unfold wrap64; omega
def dig (c : Int) : Bool := decide (48 ≤ c ∧ c ≤ 57)
def letr (c : Int) : Bool := decide ((97 ≤ c ∧ c ≤ 122) ∨ (65 ≤ c ∧ c ≤ 90) ∨ c = 95)
def okb (n : Nat) (c : Int) : Bool := if n = 56 then dig c else letr c || dig c
theorem dig_eq (c : Int) : Y.Qbo.f c = some (dig c) := by
 unfold Y.Qbo.f dig
 by_cases h : c ≥ 48
 ·rw [if_pos h]; congr 2; simp; omega
 ·rw [if_neg h]; congr 1; symm; apply decide_eq_false; omega
theorem Qra (c : Int) : Y.Qbr.f c = some (letr c) := by
 unfold Y.Qbr.f letr
 have e : ∀ x : Bool, (x = true ↔ ((97 ≤ c ∧ c ≤ 122) ∨ (65 ≤ c ∧ c ≤ 90) ∨ c = 95)) → some x = some (decide ((97 ≤ c ∧ c ≤ 122) ∨ (65 ≤ c ∧ c ≤ 90) ∨ c = 95)) := fun x h => by rw [Option.some.injEq, Bool.eq_iff_iff, decide_eq_true_iff]; exact h
 repeat' split
 all_goals refine e _ ?_
 all_goals first | (simp only [true_iff]; omega) | (rw [beq_iff_eq]; omega)
theorem Qh5 (c : Int) (w : World) : Calls Try.prog 56 #[.int .u8 c] w fun e w' => e = .returned (.bool (dig c)) ∧ Qbe w w' := Y.Qbo.calls c _ w (dig_eq c)
theorem Qmm (c : Int) (w : World) : Calls Try.prog 53 #[.int .u8 c] w fun e w' => e = .returned (.bool (letr c)) ∧ Qbe w w' := Y.Qbr.calls c _ w (Qra c)
theorem Qei {a b c : World} (h : Qbe a b) (h2 : Qbe b c) : Qbe a c := by
 obtain ⟨⟨m, rfl⟩⟩ := h2
 exact h.step m
theorem Qno (c : Int) (w : World) : Calls Try.prog 55 #[.int .u8 c] w fun e w' => e = .returned (.bool (letr c || dig c)) ∧ Qbe w w' := by
 have HL := J0.m (Qmm c w)
 cases hl : letr c with
 | true =>
  rw [hl] at HL
  go_enter Try.func55, Try.ntmps55
  go_wp2_with (go_at_call 53; refine HL.o.mono ?_; rintro e w1 ⟨rfl, hd1⟩; have HD := J0.m hd1; clear hd1)
  go_ret
  exact ⟨rfl, HD.o⟩
 | false =>
  rw [hl] at HL
  go_enter Try.func55, Try.ntmps55
  go_wp2_with (first
   | (go_at_call 53; refine HL.o.mono ?_; rintro e w1 ⟨rfl, hd1⟩; have HD := J0.m hd1; have HG := J0.m (Qh5 c w1); clear hd1)
   | (go_at_call 56; refine HG.o.mono ?_; rintro e w2 ⟨rfl, hd2⟩; have HD2 := J0.m (Qei HD.o hd2); clear hd2))
  go_ret
  exact ⟨by simp, HD2.o⟩
def tw (n : Nat) (l : List UInt8) : Nat := (l.takeWhile fun b => okb n (b.toNat : Int)).length
theorem Qhr (n : Nat) (b : UInt8) (l : List UInt8) : tw n (b :: l) = if okb n (b.toNat : Int) = true then tw n l + 1 else 0 := by
 unfold tw; rw [List.takeWhile_cons]; split <;> simp
def left : Value → Nat
 | .int _ i => i.toNat
 | _ => 0
theorem runDig (s : ByteArray) (i0 : Nat) (w : World) (hi0 : i0 ≤ s.size) (hs : s.size ≤ 2305843009213693952) :
  Calls Try.prog 54 #[.string s, .int .i64 (i0 : Int), .func (.func 56) #[] #[]] w fun e w' => e = .returned (.int .i64 ((i0 + tw 56 (s.data.toList.drop i0) : Nat) : Int)) ∧ Qbe w w' := by
 have HS := J0.m hs
 have HI := J0.m hi0
 have hsz : s.size = s.data.toList.length := (Qfl s).symm
 have HZ := J0.m hsz
 clear hs hi0 hsz
 go_enter Try.func54, Try.ntmps54
 go_wp2
 go_loopw [1] (fun tv wr => ∃ i : Nat, tv = .int .i64 (i : Int) ∧ J0 (i ≤ s.size) ∧ J0 (i + tw 56 (s.data.toList.drop i) = i0 + tw 56 (s.data.toList.drop i0)) ∧ J0 (Qbe w wr)) (fun tv _ => s.size - left tv)
 case atStart => exact ⟨i0, rfl, HI, ⟨rfl⟩, ⟨Qbe.refl _⟩⟩
 case round =>
  obtain ⟨i, rfl, hi, HX, HD⟩ := hrel
  by_cases c : i < s.size
  ·have c1 : decide ((i : Int) < (s.size : Int)) = true := decide_eq_true (by omega)
   have c2 : decide (i < s.size) = true := decide_eq_true c
   have p1 : (0 ≤ (i : Int)) = True := eq_true (by omega)
   have p2 : ((i : Int) < (s.size : Int)) = True := eq_true (by omega)
   have hx := Qb2 s (i : Int)
   obtain ⟨b, hb⟩ : ∃ b : Int, b = (((s[i]'c).toNat : Nat) : Int) := ⟨_, rfl⟩
   have HBD : J0 (s.data.toList.drop i = (s.data.toList[i]'(by rw [← HZ.o]; exact c)) :: s.data.toList.drop (i + 1)) := ⟨List.drop_eq_getElem_cons _⟩
   have HBB : J0 (b = (((s.data.toList[i]'(by rw [← HZ.o]; exact c)).toNat : Nat) : Int)) := ⟨by rw [hb]; rfl⟩
   have hb2 : (((s[i]'c).toNat : Nat) : Int) = b := hb.symm
   clear hb hx
   cases ho : okb 56 b with
   | true =>
    have HC : J0 (∀ w1, Calls Try.prog 56 #[.int .u8 b] w1 fun e w' => e = .returned (.bool true) ∧ Qbe w1 w') := ⟨fun w1 => by have := Qh5 b w1; rw [show dig b = okb 56 b from rfl, ho] at this; exact this⟩
    have HX2 : J0 ((i + 1) + tw 56 (s.data.toList.drop (i + 1)) = i0 + tw 56 (s.data.toList.drop i0)) := ⟨by
     rw [← HX.o, HBD.o, Qhr, ← HBB.o, ho, if_pos rfl]; omega⟩
    have W1 : J0 (wrap64 ((i : Int) + 1) = ((i + 1 : Nat) : Int)) := ⟨by have := HS.o; rw [w64 (by omega) (by omega)]; rfl⟩
    have e1 : ∀ [Inhabited Unit], wrap64 ((i : Int) + 1) = ((i + 1 : Nat) : Int) := fun {_} => W1.o
    clear HBD HBB ho HX
    go_wp2_with (go_at_call 56; refine (HC.o _).mono ?_; rintro e w2 ⟨rfl, hd2⟩; have HD2 := J0.m (Qei HD.o hd2); clear hd2 HD)
    refine ⟨⟨i + 1, by rw [W1.o], ⟨by omega⟩, HX2, HD2⟩, ?_⟩
    show s.size - (wrap64 ((i : Int) + 1)).toNat < s.size - ((i : Nat) : Int).toNat
    rw [W1.o, Int.toNat_natCast, Int.toNat_natCast]
    omega
   | false =>
    have HC : J0 (∀ w1, Calls Try.prog 56 #[.int .u8 b] w1 fun e w' => e = .returned (.bool false) ∧ Qbe w1 w') := ⟨fun w1 => by have := Qh5 b w1; rw [show dig b = okb 56 b from rfl, ho] at this; exact this⟩
    have HX2 : J0 (i = i0 + tw 56 (s.data.toList.drop i0)) := ⟨by
     rw [← HX.o, HBD.o, Qhr, ← HBB.o, ho, if_neg (by decide)]; omega⟩
    clear HBD HBB ho HX
    go_wp2_with (go_at_call 56; refine (HC.o _).mono ?_; rintro e w2 ⟨rfl, hd2⟩; have HD2 := J0.m (Qei HD.o hd2); clear hd2 HD)
    go_ret
    exact ⟨by rw [← HX2.o]; rfl, HD2.o⟩
  ·have c1 : decide ((i : Int) < (s.size : Int)) = false := decide_eq_false (by omega)
   have c2 : decide (i < s.size) = false := decide_eq_false c
   have HX2 : J0 (i = i0 + tw 56 (s.data.toList.drop i0)) := ⟨by
    rw [← HX.o, List.drop_of_length_le (by rw [← HZ.o]; omega)]; rfl⟩
   clear HX
   go_wp2
   go_ret
   exact ⟨by rw [← HX2.o]; rfl, HD.o⟩
theorem Qoy (s : ByteArray) (i0 : Nat) (w : World) (hi0 : i0 ≤ s.size) (hs : s.size ≤ 2305843009213693952) :
  Calls Try.prog 54 #[.string s, .int .i64 (i0 : Int), .func (.func 55) #[] #[]] w fun e w' => e = .returned (.int .i64 ((i0 + tw 55 (s.data.toList.drop i0) : Nat) : Int)) ∧ Qbe w w' := by
 have HS := J0.m hs
 have HI := J0.m hi0
 have hsz : s.size = s.data.toList.length := (Qfl s).symm
 have HZ := J0.m hsz
 clear hs hi0 hsz
 go_enter Try.func54, Try.ntmps54
 go_wp2
 go_loopw [1] (fun tv wr => ∃ i : Nat, tv = .int .i64 (i : Int) ∧ J0 (i ≤ s.size) ∧ J0 (i + tw 55 (s.data.toList.drop i) = i0 + tw 55 (s.data.toList.drop i0)) ∧ J0 (Qbe w wr)) (fun tv _ => s.size - left tv)
 case atStart => exact ⟨i0, rfl, HI, ⟨rfl⟩, ⟨Qbe.refl _⟩⟩
 case round =>
  obtain ⟨i, rfl, hi, HX, HD⟩ := hrel
  by_cases c : i < s.size
  ·have c1 : decide ((i : Int) < (s.size : Int)) = true := decide_eq_true (by omega)
   have c2 : decide (i < s.size) = true := decide_eq_true c
   have p1 : (0 ≤ (i : Int)) = True := eq_true (by omega)
   have p2 : ((i : Int) < (s.size : Int)) = True := eq_true (by omega)
   have hx := Qb2 s (i : Int)
   obtain ⟨b, hb⟩ : ∃ b : Int, b = (((s[i]'c).toNat : Nat) : Int) := ⟨_, rfl⟩
   have HBD : J0 (s.data.toList.drop i = (s.data.toList[i]'(by rw [← HZ.o]; exact c)) :: s.data.toList.drop (i + 1)) := ⟨List.drop_eq_getElem_cons _⟩
   have HBB : J0 (b = (((s.data.toList[i]'(by rw [← HZ.o]; exact c)).toNat : Nat) : Int)) := ⟨by rw [hb]; rfl⟩
   have hb2 : (((s[i]'c).toNat : Nat) : Int) = b := hb.symm
   clear hb hx
   cases ho : okb 55 b with
   | true =>
    have HC : J0 (∀ w1, Calls Try.prog 55 #[.int .u8 b] w1 fun e w' => e = .returned (.bool true) ∧ Qbe w1 w') := ⟨fun w1 => by have := Qno b w1; rw [show (letr b || dig b) = okb 55 b from rfl, ho] at this; exact this⟩
    have HX2 : J0 ((i + 1) + tw 55 (s.data.toList.drop (i + 1)) = i0 + tw 55 (s.data.toList.drop i0)) := ⟨by
     rw [← HX.o, HBD.o, Qhr, ← HBB.o, ho, if_pos rfl]; omega⟩
    have W1 : J0 (wrap64 ((i : Int) + 1) = ((i + 1 : Nat) : Int)) := ⟨by have := HS.o; rw [w64 (by omega) (by omega)]; rfl⟩
    have e1 : ∀ [Inhabited Unit], wrap64 ((i : Int) + 1) = ((i + 1 : Nat) : Int) := fun {_} => W1.o
    clear HBD HBB ho HX
    go_wp2_with (go_at_call 55; refine (HC.o _).mono ?_; rintro e w2 ⟨rfl, hd2⟩; have HD2 := J0.m (Qei HD.o hd2); clear hd2 HD)
    refine ⟨⟨i + 1, by rw [W1.o], ⟨by omega⟩, HX2, HD2⟩, ?_⟩
    show s.size - (wrap64 ((i : Int) + 1)).toNat < s.size - ((i : Nat) : Int).toNat
    rw [W1.o, Int.toNat_natCast, Int.toNat_natCast]
    omega
   | false =>
    have HC : J0 (∀ w1, Calls Try.prog 55 #[.int .u8 b] w1 fun e w' => e = .returned (.bool false) ∧ Qbe w1 w') := ⟨fun w1 => by have := Qno b w1; rw [show (letr b || dig b) = okb 55 b from rfl, ho] at this; exact this⟩
    have HX2 : J0 (i = i0 + tw 55 (s.data.toList.drop i0)) := ⟨by
     rw [← HX.o, HBD.o, Qhr, ← HBB.o, ho, if_neg (by decide)]; omega⟩
    clear HBD HBB ho HX
    go_wp2_with (go_at_call 55; refine (HC.o _).mono ?_; rintro e w2 ⟨rfl, hd2⟩; have HD2 := J0.m (Qei HD.o hd2); clear hd2 HD)
    go_ret
    exact ⟨by rw [← HX2.o]; rfl, HD2.o⟩
  ·have c1 : decide ((i : Int) < (s.size : Int)) = false := decide_eq_false (by omega)
   have c2 : decide (i < s.size) = false := decide_eq_false c
   have HX2 : J0 (i = i0 + tw 55 (s.data.toList.drop i0)) := ⟨by
    rw [← HX.o, List.drop_of_length_le (by rw [← HZ.o]; omega)]; rfl⟩
   clear HX
   go_wp2
   go_ret
   exact ⟨by rw [← HX2.o]; rfl, HD.o⟩
theorem add64 (x y : Nat) (w : World) : (callFunc 79 #[.int .u64 (x : Int), .int .u64 (y : Int), .int .u64 0]).run Try.prog w = .ok (.value (.tuple #[.int .u64 (((x + y) % 18446744073709551616 : Nat) : Int), .int .u64 (((x + y) / 18446744073709551616 : Nat) : Int)])) w := by
 rw [run_callFunc_extern Try.func79 (by kernel_rfl) (by kernel_rfl) (by kernel_rfl) (e := add64Entry) (by kernel_rfl), run_add64 x y 0 (by omega) (by omega) (by omega) (by omega)]
 simp only [Result.andThen]
 congr 5 <;> omega
def dval (b : UInt8) : Nat := (b.toNat + 208) % 256
def numv : Nat → List UInt8 → Option Nat
 | x, [] => some x
 | x, b :: t => if x * 10 + dval b < 18446744073709551616 then numv (x * 10 + dval b) t else none
def numOut : Option Nat → Value
 | some x => .tuple #[.int .u64 (x : Int), .bool true]
 | none => .tuple #[.int .u64 0, .bool false]
theorem Qjz (s : ByteArray) (w : World) (hs : s.size ≤ 2305843009213693952) :
  Calls Try.prog 57 #[.string s] w fun e w' => e = .returned (numOut (numv 0 s.data.toList)) ∧ w' = w := by
 have HS := J0.m hs
 have hsz : s.size = s.data.toList.length := (Qfl s).symm
 have HZ := J0.m hsz
 clear hs hsz
 obtain ⟨o, ho⟩ : ∃ o, o = numv 0 s.data.toList := ⟨_, rfl⟩
 rw [← ho]
 have HO := J0.m ho
 clear ho
 go_enter Try.func57, Try.ntmps57
 go_wp2
 go_loopw [4, 12] (fun tx tv wr => ∃ i x : Nat, tv = .int .i64 (i : Int) ∧ tx = .int .u64 (x : Int) ∧ J0 (i ≤ s.size) ∧ J0 (x < 18446744073709551616) ∧ J0 (numv x (s.data.toList.drop i) = o) ∧ wr = w) (fun _ tv _ => s.size - left tv)
 case atStart => exact ⟨0, 0, rfl, rfl, ⟨Nat.zero_le _⟩, ⟨by omega⟩, ⟨HO.o.symm⟩, rfl⟩
 case round =>
  obtain ⟨i, x, rfl, rfl, hi, hx, HX, rfl⟩ := hrel
  by_cases c : i < s.size
  ·have c1 : decide ((i : Int) < (s.size : Int)) = true := decide_eq_true (by omega)
   have c2 : decide (i < s.size) = true := decide_eq_true c
   have p1 : (0 ≤ (i : Int)) = True := eq_true (by omega)
   have p2 : ((i : Int) < (s.size : Int)) = True := eq_true (by omega)
   have HBD : J0 (s.data.toList.drop i = (s.data.toList[i]'(by rw [← HZ.o]; exact c)) :: s.data.toList.drop (i + 1)) := ⟨List.drop_eq_getElem_cons _⟩
   obtain ⟨u, hu⟩ : ∃ u : UInt8, u = s[i]'c := ⟨_, rfl⟩
   have hu2 : (s[i]'c) = u := hu.symm
   have HU : J0 (u = s.data.toList[i]'(by rw [← HZ.o]; exact c)) := ⟨by rw [hu]; rfl⟩
   clear hu
   have d1 : ((u.toNat : Int) - 48) % 256 = ((dval u : Nat) : Int) := by unfold dval; omega
   have d2 : IntKind.u8.wrap ((u.toNat : Int) - 48) = ((dval u : Nat) : Int) := by rw [IntKind.wrap_u8]; exact d1
   have hd : dval u < 256 := Nat.mod_lt _ (by omega)
   have d3 : IntKind.u64.wrap ((dval u : Nat) : Int) = ((dval u : Nat) : Int) := by rw [IntKind.wrap_u64]; omega
   have HM := J0.m (Try.bits_Mul64 x 10 hx.o (by omega) wr)
   obtain ⟨q, hq⟩ : ∃ q, q = x * 10 / 18446744073709551616 := ⟨_, rfl⟩
   obtain ⟨r, hr⟩ : ∃ r, r = x * 10 % 18446744073709551616 := ⟨_, rfl⟩
   rw [← hq, ← hr] at HM
   have ha := add64 r (dval u) wr
   obtain ⟨g, hg⟩ : ∃ g, g = (r + dval u) / 18446744073709551616 := ⟨_, rfl⟩
   obtain ⟨z, hz⟩ : ∃ z, z = (r + dval u) % 18446744073709551616 := ⟨_, rfl⟩
   rw [← hg, ← hz] at ha
   have HA := J0.m ha
   have HX2 : J0 ((if x * 10 + dval u < 18446744073709551616 then numv (x * 10 + dval u) (s.data.toList.drop (i + 1)) else none) = o) := ⟨by
    have h := HX.o
    rw [HBD.o, ← HU.o] at h; exact h⟩
   have W1 : J0 (wrap64 ((i : Int) + 1) = ((i + 1 : Nat) : Int)) := ⟨by have := HS.o; rw [w64 (by omega) (by omega)]; rfl⟩
   have Q := J0.m (And.intro hq (And.intro hr (And.intro hg hz)))
   clear HX HBD HU hq hr hg hz ha
   by_cases k1 : q = 0
   ·subst k1
    by_cases k2 : g = 0
    ·subst k2
     have hlt : x * 10 + dval u < 18446744073709551616 := by obtain ⟨q1, q2, q3, q4⟩ := Q.o; omega
     have hze : z = x * 10 + dval u := by obtain ⟨q1, q2, q3, q4⟩ := Q.o; omega
     have h := HX2.o
     rw [if_pos hlt, ← hze] at h
     have HX3 := J0.m h
     have HZL : J0 (z < 18446744073709551616) := ⟨by omega⟩
     clear h HX2 Q hlt hze
     have e1 : ∀ [Inhabited Unit], wrap64 ((i : Int) + 1) = ((i + 1 : Nat) : Int) := fun {_} => W1.o
     have ha := HA.o
     go_wp2_with (go_at_call 78; refine HM.o.mono ?_; rintro e w1 ⟨rfl, rfl⟩)
     refine ⟨⟨i + 1, z, by rw [W1.o], rfl, ⟨by omega⟩, HZL, HX3, trivial⟩, ?_⟩
     show s.size - (wrap64 ((i : Int) + 1)).toNat < s.size - ((i : Nat) : Int).toNat
     rw [W1.o, Int.toNat_natCast, Int.toNat_natCast]
     omega
    ·have hge : ¬ x * 10 + dval u < 18446744073709551616 := by obtain ⟨q1, q2, q3, q4⟩ := Q.o; omega
     have h := HX2.o
     rw [if_neg hge] at h
     have HX3 := J0.m h
     have b1 : ((g : Int) == 0) = false := beq_eq_false_iff_ne.mpr (by omega)
     have b2 : ((g : Int) != 0) = true := bne_iff_ne.mpr (by omega)
     have b3 : ((g : Int) = 0) = False := eq_false (by omega)
     have b4 : (g = 0) = False := eq_false k2
     clear h HX2 Q hge
     have ha := HA.o
     go_wp2_with (go_at_call 78; refine HM.o.mono ?_; rintro e w1 ⟨rfl, rfl⟩)
     go_ret2
     rw [← HX3.o]
     exact ⟨rfl, rfl⟩
   ·have hge : ¬ x * 10 + dval u < 18446744073709551616 := by obtain ⟨q1, q2, q3, q4⟩ := Q.o; omega
    have h := HX2.o
    rw [if_neg hge] at h
    have HX3 := J0.m h
    have b1 : ((q : Int) == 0) = false := beq_eq_false_iff_ne.mpr (by omega)
    have b2 : ((q : Int) != 0) = true := bne_iff_ne.mpr (by omega)
    have b3 : ((q : Int) = 0) = False := eq_false (by omega)
    have b4 : (q = 0) = False := eq_false k1
    clear h HX2 Q hge
    have ha := HA.o
    go_wp2_with (go_at_call 78; refine HM.o.mono ?_; rintro e w1 ⟨rfl, rfl⟩)
    go_ret2
    rw [← HX3.o]
    exact ⟨rfl, rfl⟩
  ·have c1 : decide ((i : Int) < (s.size : Int)) = false := decide_eq_false (by omega)
   have c2 : decide (i < s.size) = false := decide_eq_false c
   have h := HX.o
   rw [List.drop_of_length_le (by rw [← HZ.o]; omega)] at h
   have HX3 : J0 (some x = o) := ⟨h⟩
   clear h HX
   go_wp2
   go_ret2
   rw [← HX3.o]
   exact ⟨rfl, rfl⟩
end Go.Proofs.Ytbdcndkafaajpaa.G
end
section
namespace Go.Proofs.Ytbdcndkafaajpaa.X
open Go.RowKit YtbdcndkafaajpaaW.PrintWords YtbdcndkafaajpaaW.PrintLast YtbdcndkafaajpaaW.PrintMore
attribute [local go_sem] Qdz Qdx Qes Qer Qdm Qdl Qdy Qdw
def errW : Option Int → Value
 | none => .nilIface
 | some c => .iface 0 (.int .i64 c)
theorem Qax : errW none = .nilIface := rfl
theorem Qaw (c : Int) : errW (some c) = .iface 0 (.int .i64 c) := rfl
theorem info5 : (Try.prog.info? 5).map (fun i => (i.zero, i.size, i.bytes)) = some (some (.int .u8 0), 1, 1) := by kernel_rfl
theorem Ql2 : (Try.prog.info? 47).map (fun i => (i.zero, i.size, i.bytes)) = some (some (.agg #[(.int .i64 0), (.string ⟨#[]⟩), (.int .u64 0), (.int .i64 0), (.int .i64 0)]), 5, 48) := by kernel_rfl
structure S47 where
 f0 : Int
 f1 : ByteArray
 f2 : Int
 f3 : Int
 f4 : Int
def z47 : S47 := ⟨(0 : Int), (⟨#[]⟩ : ByteArray), (0 : Int), (0 : Int), (0 : Int)⟩
def k47 : Kd S47 := Kd.iso (Kd.pair (Kd.int .i64) (Kd.pair Kd.string (Kd.pair (Kd.int .u64) (Kd.pair (Kd.int .i64) (Kd.int .i64))))) (fun x : S47 => (x.f0, x.f1, x.f2, x.f3, x.f4))
theorem Qpi {w : World} {x : S47} {cs : List Value} (h : k47.K w x cs) : cs = [.int .i64 x.f0, .string x.f1, .int .u64 x.f2, .int .i64 x.f3, .int .i64 x.f4] := by
 obtain ⟨_, _, rfl, rfl, ⟨_, _, rfl, rfl, ⟨_, _, rfl, rfl, ⟨_, _, rfl, rfl, rfl⟩⟩⟩⟩ := h
 exact rfl
theorem Qjd (w : World) (base : Nat) (ok : Nat → Prop) (x : S47)  : k47.M w base ok x [.int .i64 x.f0, .string x.f1, .int .u64 x.f2, .int .i64 x.f3, .int .i64 x.f4] := ⟨[.int .i64 x.f0], [.string x.f1, .int .u64 x.f2, .int .i64 x.f3, .int .i64 x.f4], rfl, rfl, ⟨[.string x.f1], [.int .u64 x.f2, .int .i64 x.f3, .int .i64 x.f4], rfl, rfl, ⟨[.int .u64 x.f2], [.int .i64 x.f3, .int .i64 x.f4], rfl, rfl, ⟨[.int .i64 x.f3], [.int .i64 x.f4], rfl, rfl, rfl⟩⟩⟩⟩
def Qga (xs : List S47) (i : Int) : S47 := xs.getD i.toNat z47
theorem Qqg {w : World} {A : Option Addr} {n : Nat} {xs : List S47} (h : Kd.C k47 w A n xs) (i : Int) (h0 : 0 ≤ i) (h1 : i < n) : ∃ ad , A = some ad ∧ w.cell? (ad.add (i.toNat * 5)) = some (.int .i64 (Qga xs i).f0) ∧ w.cell? ⟨(ad.add (i.toNat * 5)).block, (ad.add (i.toNat * 5)).off + 1, none⟩ = some (.string (Qga xs i).f1) ∧ w.cell? ⟨(ad.add (i.toNat * 5)).block, (ad.add (i.toNat * 5)).off + 2, none⟩ = some (.int .u64 (Qga xs i).f2) ∧ w.cell? ⟨(ad.add (i.toNat * 5)).block, (ad.add (i.toNat * 5)).off + 3, none⟩ = some (.int .i64 (Qga xs i).f3) ∧ w.cell? ⟨(ad.add (i.toNat * 5)).block, (ad.add (i.toNat * 5)).off + 4, none⟩ = some (.int .i64 (Qga xs i).f4) := by
 obtain ⟨ad, c, e, _, hK, hc0⟩ := Kd.Qkh h z47 i h0 h1
 have hc : ∀ j u, c[j]? = some u → w.cell? (ad.add (i.toNat * 5 + j)) = some u := hc0
 obtain rfl := Qpi hK
 exact ⟨ad, e, hc 0 _ rfl, by rw [← Qcc _ _ 1 (by omega)]; exact hc 1 _ rfl, by rw [← Qcc _ _ 2 (by omega)]; exact hc 2 _ rfl, by rw [← Qcc _ _ 3 (by omega)]; exact hc 3 _ rfl, by rw [← Qcc _ _ 4 (by omega)]; exact hc 4 _ rfl⟩
end Go.Proofs.Ytbdcndkafaajpaa.X
end
section
namespace Go.Proofs.Ytbdcndkafaajpaa.A
open Go.RowKit Ytbdcndkafaajpaa.X YtbdcndkafaajpaaW.PrintWords YtbdcndkafaajpaaW.PrintLast YtbdcndkafaajpaaW.PrintMore
abbrev Tk := S47
abbrev kt : Kd Tk := k47
abbrev tokV (t : Tk) : Value := .agg #[.int .i64 t.f0, .string t.f1, .int .u64 t.f2, .int .i64 t.f3, .int .i64 t.f4]
structure Q3 where
 at_ : Nat
 fl : Int
 pl : Int
def tk (L : List Tk) (i : Nat) : Tk := Qga L (i : Int)
def pv (A : Option Addr) (n c : Nat) (q : Q3) (v4 v5 v6 : Value) : Array Value := #[.slice A n c, .int .i64 (q.at_ : Int), .int .i64 q.fl, .int .i64 q.pl, v4, v5, v6]
structure IsP (w : World) (A : Option Addr) (c : Nat) (L : List Tk) (g : Nat) (q : Q3) (v4 v5 v6 : Value) : Prop where
 blk : w.heap[g]? = some (.cells (pv A L.length c q v4 v5 v6) 68 (0, 0))
 row : Kd.F kt w (fun k => k < g) A L.length L
 lt : q.at_ < L.length
 cap : L.length ≤ c
section
variable {w w' : World} {A : Option Addr} {c : Nat} {L : List Tk} {g : Nat} {q : Q3} {v4 v5 v6 : Value}
theorem IsP.below (h : IsP w A c L g q v4 v5 v6) (hb : Below w.heap.size w w') : IsP w' A c L g q v4 v5 v6 := ⟨Qae h.blk hb, Kd.Qon h.row hb, h.lt, h.cap⟩
theorem IsP.c0 (h : IsP w A c L g q v4 v5 v6) : w.cell? ⟨g, 0, none⟩ = some (.slice A L.length c) := (Qac h.blk 0).trans rfl
theorem IsP.c1 (h : IsP w A c L g q v4 v5 v6) : w.cell? ⟨g, 1, none⟩ = some (.int .i64 (q.at_ : Int)) := (Qac h.blk 1).trans rfl
theorem IsP.c2 (h : IsP w A c L g q v4 v5 v6) : w.cell? ⟨g, 2, none⟩ = some (.int .i64 q.fl) := (Qac h.blk 2).trans rfl
theorem IsP.c3 (h : IsP w A c L g q v4 v5 v6) : w.cell? ⟨g, 3, none⟩ = some (.int .i64 q.pl) := (Qac h.blk 3).trans rfl
theorem IsP.c4 (h : IsP w A c L g q v4 v5 v6) : w.cell? ⟨g, 4, none⟩ = some v4 := (Qac h.blk 4).trans rfl
theorem IsP.c5 (h : IsP w A c L g q v4 v5 v6) : w.cell? ⟨g, 5, none⟩ = some v5 := (Qac h.blk 5).trans rfl
theorem IsP.c6 (h : IsP w A c L g q v4 v5 v6) : w.cell? ⟨g, 6, none⟩ = some v6 := (Qac h.blk 6).trans rfl
theorem IsP.fz (h : IsP w A c L g q v4 v5 v6) (i : Nat) : w.frozen? ⟨g, i, none⟩ = false := Qaa h.blk i
theorem IsP.glt (h : IsP w A c L g q v4 v5 v6) : g < w.heap.size := Qb3 h.blk
theorem IsP.mx (h : IsP w A c L g q v4 v5 v6) : L.length ≤ 9223372036854775807 := Kd.F_max h.row
end
theorem Qbm {P : Program} {fn : Func} {p : Tmp} {ty : TypeId} (h : fn.results = #[.cell p ty]) (tmps : Array Value) (w : World) (g : Nat) (t : TypeId) (cs : Array Value) (fr : Nat × Nat) (d : TypeDesc)
  (hp : tmps.getD p undef = .pointer (some ⟨g, 0, none⟩)) (hg : w.heap[g]? = some (.cells cs t fr))
  (hu : P.underlying ty = some d) (hd : (match d with | .struct _ | .array _ _ => true | _ => false) = true) (hi : (P.info? ty).map (·.size) = some cs.size) :
  (results fn tmps).run P w = .ok (.agg cs) w := by
 have hp' : tmps[p]?.getD undef = .pointer (some ⟨g, 0, none⟩) := by simpa using hp
 simp [results, h, hp', asAddr, run_loadVar_row w g t ty cs fr d hg hu hd hi]
theorem set5 {W : World} {b : Nat} {a0 a1 a2 a3 a4 v0 v1 v2 v3 v4 : Value} {t : TypeId} (h : W.heap[b]? = some (.cells #[a0, a1, a2, a3, a4] t (0, 0))) :
  (((((W.setCell ⟨b, 0, none⟩ v0).setCell ⟨b, 1, none⟩ v1).setCell ⟨b, 2, none⟩ v2).setCell ⟨b, 3, none⟩ v3).setCell ⟨b, 4, none⟩ v4).heap[b]? = some (.cells #[v0, v1, v2, v3, v4] t (0, 0)) :=
 Qby (Qby (Qby (Qby (Qby h 0 v0 rfl) 1 v1 rfl) 2 v2 rfl) 3 v3 rfl) 4 v4 rfl
theorem Qqe {w W : World} {n b : Nat} {v0 v1 v2 v3 v4 : Value} (h : Below n w W) (hb : n ≤ b) :
  Below n w (((((W.setCell ⟨b, 0, none⟩ v0).setCell ⟨b, 1, none⟩ v1).setCell ⟨b, 2, none⟩ v2).setCell ⟨b, 3, none⟩ v3).setCell ⟨b, 4, none⟩ v4) :=
 ((((h.setCell (p := ⟨b, 0, none⟩) hb _).setCell (p := ⟨b, 1, none⟩) hb _).setCell (p := ⟨b, 2, none⟩) hb _).setCell (p := ⟨b, 3, none⟩) hb _).setCell (p := ⟨b, 4, none⟩) hb _
theorem Qeq (w : World) (A : Option Addr) (c : Nat) (L : List Tk) (g : Nat) (q : Q3) (v4 v5 v6 : Value) (h : IsP w A c L g q v4 v5 v6) :
  Calls Try.prog 32 #[.pointer (some ⟨g, 0, none⟩)] w fun e w' => e = .returned (tokV (tk L q.at_)) ∧ Below w.heap.size w w' := by
 have hlt := h.lt
 have hc := h.cap
 obtain ⟨W, hW⟩ : ∃ W, W = w.alloc (.cells #[.int .i64 0, .string ⟨#[]⟩, .int .u64 0, .int .i64 0, .int .i64 0] 47) := ⟨_, rfl⟩
 have hBW : Below w.heap.size w W := by rw [hW]; exact Qab (Below.refl _ _) _
 have h2 := h.below hBW
 obtain ⟨b, hb⟩ : ∃ b, b = w.heap.size := ⟨_, rfl⟩
 have hbn : W.heap[b]? = some (.cells #[.int .i64 0, .string ⟨#[]⟩, .int .u64 0, .int .i64 0, .int .i64 0] 47 (0, 0)) := by rw [hW, hb]; exact Qay _ _
 obtain ⟨ad, hA, x0, x1, x2, x3, x4⟩ := Qqg (Kd.Qrz h2.row) (q.at_ : Int) (by omega) (by omega)
 subst hA
 have y0 := h2.c0
 have y1 := h2.c1
 have z0 : W.cell? ⟨b, 0, none⟩ = some (.int .i64 0) := (Qac hbn 0).trans rfl
 have z1 : W.cell? ⟨b, 1, none⟩ = some (.string ⟨#[]⟩) := (Qac hbn 1).trans rfl
 have z2 : W.cell? ⟨b, 2, none⟩ = some (.int .u64 0) := (Qac hbn 2).trans rfl
 have z3 : W.cell? ⟨b, 3, none⟩ = some (.int .i64 0) := (Qac hbn 3).trans rfl
 have z4 : W.cell? ⟨b, 4, none⟩ = some (.int .i64 0) := (Qac hbn 4).trans rfl
 have f0 := Qaa hbn 0
 have f1 := Qaa hbn 1
 have f2 := Qaa hbn 2
 have f3 := Qaa hbn 3
 have f4 := Qaa hbn 4
 have hq : (q.at_ : Int) < (L.length : Int) := by omega
 rw [Int.toNat_natCast] at x0 x1 x2 x3 x4
 obtain ⟨t, ht⟩ : ∃ t, t = tk L q.at_ := ⟨_, rfl⟩
 have ht' : Qga L (q.at_ : Int) = t := ht.symm
 rw [ht'] at x0 x1 x2 x3 x4
 rw [← ht]
 have HMX := J0.m h.mx
 have HBW := J0.m hBW
 have HBN := J0.m hbn
 have HB := J0.m hb
 have HW := J0.m hW
 clear ht ht' h h2 hBW hbn
 go_enter Try.func32, Try.ntmps32
 go_wp2
 rw [← HW.o, ← HB.o]
 clear hW hb
 go_still_tail 10, (by kernel_rfl)
 go_wp2
 exact bodyPost_ret (Qbm rfl _ _ b 47 #[.int .i64 t.f0, .string t.f1, .int .u64 t.f2, .int .i64 t.f3, .int .i64 t.f4] (0, 0) _ rfl (Qai (set5 HBN.o)) Try.underlying47 rfl (by kernel_rfl)) rfl ⟨rfl, Qaf (Qqe HBW.o (by rw [HB.o]; exact Nat.le_refl _))⟩
def Qcy (e p : Int) (q : Q3) : Q3 := if q.fl = 0 then ⟨q.at_, e, p⟩ else q
def isQ (L : List Tk) (q : Q3) (k : Int) (s : ByteArray) : Bool := (q.fl == 0) && (((tk L q.at_).f0 == k) && ((tk L q.at_).f1.toList == s.toList))
def Qcv (L : List Tk) (ok : Bool) (q : Q3) : Q3 := if q.fl = 0 then (if ok then (if (tk L q.at_).f0 = 0 then q else ⟨q.at_ + 1, q.fl, q.pl⟩) else Qcy 90 (tk L q.at_).f3 q) else q
def Good (L : List Tk) : Prop := ∀ i, i < L.length → (tk L i).f0 ≠ 0 → i + 1 < L.length
theorem Qbg (W : World) (g i : Nat) (v : Value) : W.grownBy (W.setCell ⟨g, i, none⟩ v) (some g) := Go.Lib.grownBy_setCell W g i v
section
variable {w w' : World} {A : Option Addr} {c : Nat} {L : List Tk} {g : Nat} {q : Q3} {v4 v5 v6 : Value}
theorem Qaj (h : Below w.heap.size w w') (row : Option Nat) : w.grownBy w' row := ⟨h.os, h.tape, h.output, h.size, fun k hk _ => h.block k hk⟩
theorem IsP.far (h : IsP w A c L g q v4 v5 v6) {a b : Nat} (hb : g < b) (v : Value) : IsP (w.setCell ⟨b, a, none⟩ v) A c L g q v4 v5 v6 :=
 ⟨Qce h.blk (p := ⟨b, a, none⟩) (by show g ≠ b; omega) v, Kd.Qpx h.row (p := ⟨b, a, none⟩) (fun k hk => by show k ≠ b; omega) v, h.lt, h.cap⟩
theorem IsP.set (h : IsP w A c L g q v4 v5 v6) (i : Nat) (v : Value) {q' : Q3} {u4 u5 u6 : Value} (he : (pv A L.length c q v4 v5 v6).setIfInBounds i v = pv A L.length c q' u4 u5 u6) (hl : q'.at_ < L.length) : IsP (w.setCell ⟨g, i, none⟩ v) A c L g q' u4 u5 u6 :=
 ⟨Qby h.blk i v he, Kd.Qpx h.row (p := ⟨g, i, none⟩) (fun k hk => by show k ≠ g; omega) v, hl, h.cap⟩
end
theorem Qcs (w : World) (A : Option Addr) (c : Nat) (L : List Tk) (g : Nat) (q : Q3) (v4 v5 v6 : Value) (e p : Int) (h : IsP w A c L g q v4 v5 v6) :
  Calls Try.prog 50 #[.pointer (some ⟨g, 0, none⟩), .int .i64 e, .int .i64 p] w fun r w' => r = .returned (.tuple #[]) ∧ IsP w' A c L g (Qcy e p q) v4 v5 v6 ∧ w.grownBy w' (some g) := by
 have y2 := h.c2
 have y3 := h.c3
 have f2 := h.fz 2
 have f3 := h.fz 3
 have HP := J0.m h
 by_cases hf : q.fl = 0
 ·have HE : J0 (Qcy e p q = ⟨q.at_, e, p⟩) := ⟨by unfold Qcy; rw [if_pos hf]⟩
  have c1 : (q.fl == 0) = true := beq_iff_eq.2 hf
  clear h hf
  go_enter Try.func50, Try.ntmps50
  go_wp2
  go_end0
  rw [HE.o]
  exact ⟨rfl, (HP.o.set 2 _ (q' := ⟨q.at_, e, q.pl⟩) rfl HP.o.lt).set 3 _ rfl HP.o.lt, (Qbg _ _ _ _).trans (Qbg _ _ _ _)⟩
 ·have HE : J0 (Qcy e p q = q) := ⟨by unfold Qcy; rw [if_neg hf]⟩
  have c1 : (q.fl == 0) = false := beq_eq_false_iff_ne.2 hf
  clear h hf
  go_enter Try.func50, Try.ntmps50
  go_wp2
  go_end0
  rw [HE.o]
  exact ⟨rfl, HP.o, Qaj (Below.refl _ _) _⟩
theorem Qec (w : World) (A : Option Addr) (c : Nat) (L : List Tk) (g : Nat) (q : Q3) (v4 v5 v6 : Value) (k : Int) (s : ByteArray) (h : IsP w A c L g q v4 v5 v6) :
  Calls Try.prog 39 #[.pointer (some ⟨g, 0, none⟩), .int .i64 k, .string s] w fun e w' => e = .returned (.bool (isQ L q k s)) ∧ Below w.heap.size w w' := by
 have HN := J0.m (Qeq w A c L g q v4 v5 v6 h)
 have HP := J0.m h
 obtain ⟨t, ht⟩ : ∃ t, t = tk L q.at_ := ⟨_, rfl⟩
 unfold isQ
 rw [← ht] at HN ⊢
 obtain ⟨b1, h1⟩ : ∃ b1, b1 = (q.fl == 0) := ⟨_, rfl⟩
 obtain ⟨b2, h2⟩ : ∃ b2, b2 = (t.f0 == k) := ⟨_, rfl⟩
 obtain ⟨b3, h3⟩ : ∃ b3, b3 = (t.f1.toList == s.toList) := ⟨_, rfl⟩
 have H1 := J0.m h1
 have H2 := J0.m h2
 have H3 := J0.m h3
 rw [← h1, ← h2, ← h3]
 clear h ht h1 h2 h3
 cases b1 <;> cases b2 <;> cases b3
 all_goals
  have c1 := H1.o.symm
  have c2 := H2.o.symm
  have c3 := H3.o.symm
  go_enter Try.func39, Try.ntmps39
  go_wp2_with (go_at_call 32; go_must ((with_reducible refine HN.o.mono ?_); rintro e w1 ⟨rfl, hb⟩; have HB := J0.m hb; have y2 := (HP.o.below (Qab hb (.cells #[.int .i64 t.f0, .string t.f1, .int .u64 t.f2, .int .i64 t.f3, .int .i64 t.f4] 47))).c2; clear hb))
  go_ret
  exact ⟨rfl, Qab HB.o _⟩
theorem IsP.grown {w w' : World} {A : Option Addr} {c : Nat} {L : List Tk} {g : Nat} {q : Q3} {v4 v5 v6 : Value} (h : IsP w A c L g q v4 v5 v6) {b : Nat} (hg : w.grownBy w' (some b)) (hb : g < b) : IsP w' A c L g q v4 v5 v6 :=
 ⟨Qbh h.blk hg (fun e => by injection e with e; omega), Kd.Qfz h.row hg (fun k hk e => by injection e with e; omega), h.lt, h.cap⟩
def Post (w w' : World) (A : Option Addr) (c : Nat) (L : List Tk) (g : Nat) (q : Q3) (v4 v5 v6 : Value) : Prop := IsP w' A c L g q v4 v5 v6 ∧ w.grownBy w' (some g)
theorem Qbi {W : World} {b : Nat} {t : Tk} (h : W.heap[b]? = some (.cells #[.int .i64 t.f0, .string t.f1, .int .u64 t.f2, .int .i64 t.f3, .int .i64 t.f4] 47 (0, 0))) :
  W.cell? ⟨b, 0, none⟩ = some (.int .i64 t.f0) ∧ W.cell? ⟨b, 1, none⟩ = some (.string t.f1) ∧ W.cell? ⟨b, 2, none⟩ = some (.int .u64 t.f2) ∧ W.cell? ⟨b, 3, none⟩ = some (.int .i64 t.f3) ∧ W.cell? ⟨b, 4, none⟩ = some (.int .i64 t.f4) :=
 ⟨(Qac h 0).trans rfl, (Qac h 1).trans rfl, (Qac h 2).trans rfl, (Qac h 3).trans rfl, (Qac h 4).trans rfl⟩
theorem Qgc {W : World} {b : Nat} (h : W.heap[b]? = some (.cells #[.int .i64 0, .string ⟨#[]⟩, .int .u64 0, .int .i64 0, .int .i64 0] 47 (0, 0))) :
  W.cell? ⟨b, 0, none⟩ = some (.int .i64 0) ∧ W.cell? ⟨b, 1, none⟩ = some (.string ⟨#[]⟩) ∧ W.cell? ⟨b, 2, none⟩ = some (.int .u64 0) ∧ W.cell? ⟨b, 3, none⟩ = some (.int .i64 0) ∧ W.cell? ⟨b, 4, none⟩ = some (.int .i64 0) :=
 ⟨(Qac h 0).trans rfl, (Qac h 1).trans rfl, (Qac h 2).trans rfl, (Qac h 3).trans rfl, (Qac h 4).trans rfl⟩
theorem Qau {w W : World} {g b : Nat} {row : Option Nat} (h : w.grownBy W row) (hb : w.heap.size ≤ b) (i : Nat) (v : Value) : w.grownBy (W.setCell ⟨b, i, none⟩ v) row :=
 ⟨h.os, h.tape, h.output, Nat.le_trans h.size (Qbg W b i v).size, fun k hk hr => (Below.heap_setCell W ⟨b, i, none⟩ v k (by show k ≠ b; omega)).trans (h.block k hk hr)⟩
theorem Post.box {w W : World} {A : Option Addr} {c : Nat} {L : List Tk} {g : Nat} {q : Q3} {v4 v5 v6 : Value} {b : Nat} {u0 u1 u2 u3 u4 : Value} (h : Post w W A c L g q v4 v5 v6) (hb : g < b) (hw : w.heap.size ≤ b) :
  Post w (((((W.setCell ⟨b, 0, none⟩ u0).setCell ⟨b, 1, none⟩ u1).setCell ⟨b, 2, none⟩ u2).setCell ⟨b, 3, none⟩ u3).setCell ⟨b, 4, none⟩ u4) A c L g q v4 v5 v6 :=
 ⟨((((h.1.far hb _).far hb _).far hb _).far hb _).far hb _, Qau (g := g) (Qau (g := g) (Qau (g := g) (Qau (g := g) (Qau (g := g) h.2 hw 0 u0) hw 1 u1) hw 2 u2) hw 3 u3) hw 4 u4⟩
theorem Qd5 (w : World) (A : Option Addr) (c : Nat) (L : List Tk) (g : Nat) (q : Q3) (v4 v5 v6 : Value) (ok : Bool) (h : IsP w A c L g q v4 v5 v6) (hG : Good L) :
  Calls Try.prog 31 #[.pointer (some ⟨g, 0, none⟩), .bool ok] w fun e w' => e = .returned (tokV (tk L q.at_)) ∧ Post w w' A c L g (Qcv L ok q) v4 v5 v6 := by
 obtain ⟨t, ht⟩ : ∃ t, t = tk L q.at_ := ⟨_, rfl⟩
 have HG := J0.m (hG q.at_ h.lt)
 rw [← ht] at HG
 have HT : J0 (Qcv L ok q = if q.fl = 0 then (if ok then (if t.f0 = 0 then q else ⟨q.at_ + 1, q.fl, q.pl⟩) else Qcy 90 t.f3 q) else q) := ⟨by rw [ht]; rfl⟩
 rw [HT.o, ← ht]
 obtain ⟨W0, hW0⟩ : ∃ W0, W0 = w.alloc (.cells #[.int .i64 0, .string ⟨#[]⟩, .int .u64 0, .int .i64 0, .int .i64 0] 47) := ⟨_, rfl⟩
 have HB0 : J0 (Below w.heap.size w W0) := ⟨by rw [hW0]; exact Qab (Below.refl _ _) _⟩
 have HP0 := J0.m (h.below HB0.o)
 obtain ⟨b, hb⟩ : ∃ b, b = w.heap.size := ⟨_, rfl⟩
 have HBN : J0 (W0.heap[b]? = some (.cells #[.int .i64 0, .string ⟨#[]⟩, .int .u64 0, .int .i64 0, .int .i64 0] 47 (0, 0))) := ⟨by rw [hW0, hb]; exact Qay _ _⟩
 have HGB : J0 (g < b) := ⟨by rw [hb]; exact h.glt⟩
 have HN := J0.m (Qeq W0 A c L g q v4 v5 v6 HP0.o)
 rw [← ht] at HN
 have HMX := J0.m h.mx
 have HLT := J0.m h.lt
 have HW0 := J0.m hW0
 have HBB := J0.m hb
 clear h ht hG HT
 -- behind the token's box: what is known
 have HK : J0 (∀ w1, Below W0.heap.size W0 w1 → ∃ W1, W1 = w1.alloc (.cells #[.int .i64 t.f0, .string t.f1, .int .u64 t.f2, .int .i64 t.f3, .int .i64 t.f4] 47) ∧ IsP W1 A c L g q v4 v5 v6 ∧ Below W0.heap.size W0 W1 ∧ W1.heap[b]? = some (.cells #[.int .i64 0, .string ⟨#[]⟩, .int .u64 0, .int .i64 0, .int .i64 0] 47 (0, 0)) ∧ W1.heap[w1.heap.size]? = some (.cells #[.int .i64 t.f0, .string t.f1, .int .u64 t.f2, .int .i64 t.f3, .int .i64 t.f4] 47 (0, 0)) ∧ b < w1.heap.size) := ⟨fun w1 hb1 => ⟨_, rfl, (HP0.o.below hb1).below (Qab (Below.refl _ _) _), Qab hb1 _, Qah (Qae HBN.o hb1) _, Qay _ _, by have := Qb3 (Qae HBN.o hb1); exact this⟩⟩
 by_cases hf : q.fl = 0
 ·have c1 : (q.fl == 0) = true := beq_iff_eq.2 hf
  have c1' : (q.fl != 0) = false := by rw [bne, c1]; rfl
  rw [if_pos hf]
  cases ok with
  | false =>
   have HF : J0 (∀ W, IsP W A c L g q v4 v5 v6 → Calls Try.prog 50 #[.pointer (some ⟨g, 0, none⟩), .int .i64 90, .int .i64 t.f3] W fun r w' => r = .returned (.tuple #[]) ∧ IsP w' A c L g (Qcy 90 t.f3 q) v4 v5 v6 ∧ W.grownBy w' (some g)) := ⟨fun W hW => Qcs W A c L g q v4 v5 v6 90 t.f3 hW⟩
   clear hf c1
   go_enter Try.func31, Try.ntmps31
   go_wp2_with fail
   rw [← HW0.o, ← HBB.o]
   refine HN.o.mono ?_
   rintro e w1 ⟨rfl, hb1⟩
   obtain ⟨W1, hW1, hp1, hbe1, hbb, hbt, hlt⟩ := HK.o w1 hb1
   have y2 := hp1.c2
   obtain ⟨t0, t1, t2, t3, t4⟩ := Qbi hbt
   rw [hW1] at y2 t0 t1 t2 t3 t4
   have HW1 := J0.m hW1
   have HP1 := J0.m hp1
   have HBE := J0.m hbe1
   have HBX := J0.m hbb
   have HBT := J0.m hbt
   have HLB := J0.m hlt
   clear hb1 hW1 hp1 hbe1 hbb hbt hlt hb hW0
   go_wp2_with fail
   rw [← HW1.o]
   refine (HF.o W1 HP1.o).mono ?_
   rintro e w2 ⟨rfl, hp2, hg2⟩
   have hbt2 := Qbh HBT.o hg2 (fun e => by injection e with e; have h1 := HLB.o; have h2 := HGB.o; omega)
   have hbb2 := Qbh HBX.o hg2 (fun e => by injection e with e; have h2 := HGB.o; omega)
   obtain ⟨s0, s1, s2, s3, s4⟩ := Qbi hbt2
   obtain ⟨z0, z1, z2, z3, z4⟩ := Qgc hbb2
   have f0 := Qaa hbb2 0
   have f1 := Qaa hbb2 1
   have f2 := Qaa hbb2 2
   have f3 := Qaa hbb2 3
   have f4 := Qaa hbb2 4
   have HP2 := J0.m hp2
   have HG2 := J0.m hg2
   have HX2 := J0.m hbb2
   clear hp2 hg2 hbt2 hbb2 t0 t1 t2 t3 t4 y2
   go_wp2
   refine bodyPost_ret (Qbm rfl _ _ b 47 #[.int .i64 t.f0, .string t.f1, .int .u64 t.f2, .int .i64 t.f3, .int .i64 t.f4] (0, 0) _ rfl (set5 HX2.o) Try.underlying47 rfl (by kernel_rfl)) rfl ⟨rfl, ?_⟩
   exact Post.box ⟨HP2.o, (Qaj HB0.o _).trans ((Qaj HBE.o _).trans HG2.o)⟩ HGB.o (by rw [HBB.o]; exact Nat.le_refl _)
  | true =>
   by_cases h0 : t.f0 = 0
   ·have c2 : (t.f0 != 0) = false := by rw [bne, beq_iff_eq.2 h0]; rfl
    rw [if_pos rfl, if_pos h0]
    clear hf c1 h0
    go_enter Try.func31, Try.ntmps31
    go_wp2_with fail
    rw [← HW0.o, ← HBB.o]
    refine HN.o.mono ?_
    rintro e w1 ⟨rfl, hb1⟩
    obtain ⟨W1, hW1, hp1, hbe1, hbb, hbt, hlt⟩ := HK.o w1 hb1
    have y2 := hp1.c2
    obtain ⟨t0, t1, t2, t3, t4⟩ := Qbi hbt
    obtain ⟨z0, z1, z2, z3, z4⟩ := Qgc hbb
    have f0 := Qaa hbb 0
    have f1 := Qaa hbb 1
    have f2 := Qaa hbb 2
    have f3 := Qaa hbb 3
    have f4 := Qaa hbb 4
    rw [hW1] at y2 t0 t1 t2 t3 t4 z0 z1 z2 z3 z4 f0 f1 f2 f3 f4
    have HW1 := J0.m hW1
    have HP1 := J0.m hp1
    have HBE := J0.m hbe1
    have HBX := J0.m hbb
    clear hb1 hW1 hp1 hbe1 hbb hbt hlt hb hW0
    go_wp2
    rw [← HW1.o]
    refine bodyPost_ret (Qbm rfl _ _ b 47 #[.int .i64 t.f0, .string t.f1, .int .u64 t.f2, .int .i64 t.f3, .int .i64 t.f4] (0, 0) _ rfl (set5 HBX.o) Try.underlying47 rfl (by kernel_rfl)) rfl ⟨rfl, ?_⟩
    exact Post.box ⟨HP1.o, Qaj (Qak HB0.o HBE.o) _⟩ HGB.o (by rw [HBB.o]; exact Nat.le_refl _)
   ·have c2 : (t.f0 != 0) = true := bne_iff_ne.2 h0
    have HL1 : J0 (q.at_ + 1 < L.length) := ⟨HG.o h0⟩
    have HW9 : J0 (wrap64 ((q.at_ : Int) + 1) = ((q.at_ + 1 : Nat) : Int)) := ⟨by have := HMX.o; have := HL1.o; unfold wrap64; omega⟩
    rw [if_pos rfl, if_neg h0]
    clear hf c1 h0
    go_enter Try.func31, Try.ntmps31
    go_wp2_with fail
    rw [← HW0.o, ← HBB.o]
    refine HN.o.mono ?_
    rintro e w1 ⟨rfl, hb1⟩
    obtain ⟨W1, hW1, hp1, hbe1, hbb, hbt, hlt⟩ := HK.o w1 hb1
    have y1 := hp1.c1
    have y2 := hp1.c2
    have fg := hp1.fz 1
    obtain ⟨t0, t1, t2, t3, t4⟩ := Qbi hbt
    obtain ⟨z0, z1, z2, z3, z4⟩ := Qgc hbb
    have f0 := Qaa hbb 0
    have f1 := Qaa hbb 1
    have f2 := Qaa hbb 2
    have f3 := Qaa hbb 3
    have f4 := Qaa hbb 4
    have ne1 : b ≠ g := by have := HGB.o; omega
    have ne2 : g ≠ b := by have := HGB.o; omega
    have ne3 : w1.heap.size ≠ g := by have := HGB.o; omega
    have ne4 : g ≠ w1.heap.size := by have := HGB.o; omega
    rw [hW1] at y1 y2 fg t0 t1 t2 t3 t4 z0 z1 z2 z3 z4 f0 f1 f2 f3 f4
    have HW1 := J0.m hW1
    have HP1 := J0.m hp1
    have HBE := J0.m hbe1
    have HBX := J0.m hbb
    clear hb1 hW1 hp1 hbe1 hbb hbt hlt hb hW0
    go_wp2
    rw [← HW1.o, HW9.o]
    refine bodyPost_ret (Qbm rfl _ _ b 47 #[.int .i64 t.f0, .string t.f1, .int .u64 t.f2, .int .i64 t.f3, .int .i64 t.f4] (0, 0) _ rfl (set5 (Qa2 (fun e => by have := HGB.o; omega) HBX.o _)) Try.underlying47 rfl (by kernel_rfl)) rfl ⟨rfl, ?_⟩
    exact Post.box ⟨HP1.o.set 1 _ rfl HL1.o, (Qaj (Qak HB0.o HBE.o) _).trans (Qbg _ _ _ _)⟩ HGB.o (by rw [HBB.o]; exact Nat.le_refl _)
 ·have c1 : (q.fl == 0) = false := beq_eq_false_iff_ne.2 hf
  have c1' : (q.fl != 0) = true := bne_iff_ne.2 hf
  rw [if_neg hf]
  clear hf c1
  go_enter Try.func31, Try.ntmps31
  go_wp2_with fail
  rw [← HW0.o, ← HBB.o]
  refine HN.o.mono ?_
  rintro e w1 ⟨rfl, hb1⟩
  obtain ⟨W1, hW1, hp1, hbe1, hbb, hbt, hlt⟩ := HK.o w1 hb1
  have y2 := hp1.c2
  obtain ⟨t0, t1, t2, t3, t4⟩ := Qbi hbt
  obtain ⟨z0, z1, z2, z3, z4⟩ := Qgc hbb
  have f0 := Qaa hbb 0
  have f1 := Qaa hbb 1
  have f2 := Qaa hbb 2
  have f3 := Qaa hbb 3
  have f4 := Qaa hbb 4
  rw [hW1] at y2 t0 t1 t2 t3 t4 z0 z1 z2 z3 z4 f0 f1 f2 f3 f4
  have HW1 := J0.m hW1
  have HP1 := J0.m hp1
  have HBE := J0.m hbe1
  have HBX := J0.m hbb
  clear hb1 hW1 hp1 hbe1 hbb hbt hlt hb hW0
  go_wp2
  rw [← HW1.o]
  refine bodyPost_ret (Qbm rfl _ _ b 47 #[.int .i64 t.f0, .string t.f1, .int .u64 t.f2, .int .i64 t.f3, .int .i64 t.f4] (0, 0) _ rfl (set5 HBX.o) Try.underlying47 rfl (by kernel_rfl)) rfl ⟨rfl, ?_⟩
  exact Post.box ⟨HP1.o, Qaj (Qak HB0.o HBE.o) _⟩ HGB.o (by rw [HBB.o]; exact Nat.le_refl _)
theorem Post.p {w w2 : World} {A : Option Addr} {c : Nat} {L : List Tk} {g : Nat} {q : Q3} {v4 v5 v6 : Value} (h : Post w w2 A c L g q v4 v5 v6) : IsP w2 A c L g q v4 v5 v6 := h.1
theorem Post.g {w w2 : World} {A : Option Addr} {c : Nat} {L : List Tk} {g : Nat} {q : Q3} {v4 v5 v6 : Value} (h : Post w w2 A c L g q v4 v5 v6) : w.grownBy w2 (some g) := h.2
theorem Post.of_below {w w1 w2 : World} {A : Option Addr} {c : Nat} {L : List Tk} {g : Nat} {q : Q3} {v4 v5 v6 : Value} (hb : Below w.heap.size w w1) (h : Post w1 w2 A c L g q v4 v5 v6) : Post w w2 A c L g q v4 v5 v6 := ⟨h.1, (Qaj hb _).trans h.2⟩
theorem Post.trans {w w1 w2 : World} {A : Option Addr} {c : Nat} {L : List Tk} {g : Nat} {q q' : Q3} {v4 v5 v6 u4 u5 u6 : Value} (h1 : Post w w1 A c L g q v4 v5 v6) (h : Post w1 w2 A c L g q' u4 u5 u6) : Post w w2 A c L g q' u4 u5 u6 := ⟨h.1, h1.2.trans h.2⟩
theorem Post.below {w w1 w2 : World} {A : Option Addr} {c : Nat} {L : List Tk} {g : Nat} {q : Q3} {v4 v5 v6 : Value} (h : Post w w1 A c L g q v4 v5 v6) (hb : Below w1.heap.size w1 w2) : Post w w2 A c L g q v4 v5 v6 := ⟨h.1.below hb, h.2.trans (Qaj hb _)⟩
theorem Post.refl {w : World} {A : Option Addr} {c : Nat} {L : List Tk} {g : Nat} {q : Q3} {v4 v5 v6 : Value} (h : IsP w A c L g q v4 v5 v6) : Post w w A c L g q v4 v5 v6 := ⟨h, Qaj (Below.refl _ _) _⟩
section
variable (w : World) (A : Option Addr) (c : Nat) (L : List Tk) (g : Nat) (q : Q3) (v4 v5 v6 : Value)
structure Front (W0 : World) (b : Nat) : Prop where
 eq : W0 = w.alloc (.cells #[.int .i64 0, .string ⟨#[]⟩, .int .u64 0, .int .i64 0, .int .i64 0] 47)
 nb : b = w.heap.size
 be : Below w.heap.size w W0
 pp : IsP W0 A c L g q v4 v5 v6
 bx : W0.heap[b]? = some (.cells #[.int .i64 0, .string ⟨#[]⟩, .int .u64 0, .int .i64 0, .int .i64 0] 47 (0, 0))
 gb : g < b
theorem front (h : IsP w A c L g q v4 v5 v6) : ∃ W0 b, Front w A c L g q v4 v5 v6 W0 b :=
 ⟨_, _, rfl, rfl, Qab (Below.refl _ _) _, h.below (Qab (Below.refl _ _) _), Qay _ _, h.glt⟩
end
theorem Qgv (w : World) (A : Option Addr) (c : Nat) (L : List Tk) (g : Nat) (q : Q3) (v4 v5 v6 : Value) (s : ByteArray) (h : IsP w A c L g q v4 v5 v6) (hG : Good L) :
  Calls Try.prog 59 #[.pointer (some ⟨g, 0, none⟩), .string s] w fun e w' => e = .returned (tokV (tk L q.at_)) ∧ Post w w' A c L g (Qcv L (isQ L q 1 s) q) v4 v5 v6 := by
 obtain ⟨W0, b, HF⟩ := front w A c L g q v4 v5 v6 h
 have HIS := J0.m (Qec W0 A c L g q v4 v5 v6 1 s HF.pp)
 have HTK : J0 (∀ W, IsP W A c L g q v4 v5 v6 → Calls Try.prog 31 #[.pointer (some ⟨g, 0, none⟩), .bool (isQ L q 1 s)] W fun e w' => e = .returned (tokV (tk L q.at_)) ∧ Post W w' A c L g (Qcv L (isQ L q 1 s) q) v4 v5 v6) := ⟨fun W hW => Qd5 W A c L g q v4 v5 v6 _ hW hG⟩
 obtain ⟨q', hq'⟩ : ∃ q', q' = Qcv L (isQ L q 1 s) q := ⟨_, rfl⟩
 obtain ⟨bb, hbb⟩ : ∃ bb, bb = isQ L q 1 s := ⟨_, rfl⟩
 rw [← hq'] at HTK ⊢
 rw [← hbb] at HTK HIS
 obtain ⟨t, ht⟩ : ∃ t, t = tk L q.at_ := ⟨_, rfl⟩
 rw [← ht] at HTK ⊢
 clear h hq' hbb ht
 have HF := J0.m HF
 go_enter Try.func59, Try.ntmps59
 go_wp2_with fail
 rw [← HF.o.eq, ← HF.o.nb]
 refine HIS.o.mono ?_
 rintro e w1 ⟨rfl, hb1⟩
 have HB1 := J0.m hb1
 clear hb1
 go_wp2_with fail
 refine (HTK.o w1 (HF.o.pp.below HB1.o)).mono ?_
 rintro e w2 ⟨rfl, hp2⟩
 have hbb2 := Qbh (Qae HF.o.bx HB1.o) hp2.2 (fun e => by injection e with e; have := HF.o.gb; omega)
 obtain ⟨z0, z1, z2, z3, z4⟩ := Qgc hbb2
 have f0 := Qaa hbb2 0
 have f1 := Qaa hbb2 1
 have f2 := Qaa hbb2 2
 have f3 := Qaa hbb2 3
 have f4 := Qaa hbb2 4
 have HX2 := J0.m hbb2
 have HP2 := J0.m hp2
 clear hbb2 hp2
 go_wp2
 refine bodyPost_ret (Qbm rfl _ _ b 47 #[.int .i64 t.f0, .string t.f1, .int .u64 t.f2, .int .i64 t.f3, .int .i64 t.f4] (0, 0) _ rfl (set5 HX2.o) Try.underlying47 rfl (by kernel_rfl)) rfl ⟨rfl, ?_⟩
 exact Post.box (Post.of_below HF.o.be (Post.of_below HB1.o HP2.o)) HF.o.gb (by rw [HF.o.nb]; exact Nat.le_refl _)
theorem Qd6 (w : World) (A : Option Addr) (c : Nat) (L : List Tk) (g : Nat) (q : Q3) (v4 v5 v6 : Value) (s : ByteArray) (h : IsP w A c L g q v4 v5 v6) (hG : Good L) :
  Calls Try.prog 61 #[.pointer (some ⟨g, 0, none⟩), .string s] w fun e w' => e = .returned (tokV (tk L q.at_)) ∧ Post w w' A c L g (Qcv L (isQ L q 4 s) q) v4 v5 v6 := by
 obtain ⟨W0, b, HF⟩ := front w A c L g q v4 v5 v6 h
 have HIS := J0.m (Qec W0 A c L g q v4 v5 v6 4 s HF.pp)
 have HTK : J0 (∀ W, IsP W A c L g q v4 v5 v6 → Calls Try.prog 31 #[.pointer (some ⟨g, 0, none⟩), .bool (isQ L q 4 s)] W fun e w' => e = .returned (tokV (tk L q.at_)) ∧ Post W w' A c L g (Qcv L (isQ L q 4 s) q) v4 v5 v6) := ⟨fun W hW => Qd5 W A c L g q v4 v5 v6 _ hW hG⟩
 obtain ⟨q', hq'⟩ : ∃ q', q' = Qcv L (isQ L q 4 s) q := ⟨_, rfl⟩
 obtain ⟨bb, hbb⟩ : ∃ bb, bb = isQ L q 4 s := ⟨_, rfl⟩
 rw [← hq'] at HTK ⊢
 rw [← hbb] at HTK HIS
 obtain ⟨t, ht⟩ : ∃ t, t = tk L q.at_ := ⟨_, rfl⟩
 rw [← ht] at HTK ⊢
 clear h hq' hbb ht
 have HF := J0.m HF
 go_enter Try.func61, Try.ntmps61
 go_wp2_with fail
 rw [← HF.o.eq, ← HF.o.nb]
 refine HIS.o.mono ?_
 rintro e w1 ⟨rfl, hb1⟩
 have HB1 := J0.m hb1
 clear hb1
 go_wp2_with fail
 refine (HTK.o w1 (HF.o.pp.below HB1.o)).mono ?_
 rintro e w2 ⟨rfl, hp2⟩
 have hbb2 := Qbh (Qae HF.o.bx HB1.o) hp2.2 (fun e => by injection e with e; have := HF.o.gb; omega)
 obtain ⟨z0, z1, z2, z3, z4⟩ := Qgc hbb2
 have f0 := Qaa hbb2 0
 have f1 := Qaa hbb2 1
 have f2 := Qaa hbb2 2
 have f3 := Qaa hbb2 3
 have f4 := Qaa hbb2 4
 have HX2 := J0.m hbb2
 have HP2 := J0.m hp2
 clear hbb2 hp2
 go_wp2
 refine bodyPost_ret (Qbm rfl _ _ b 47 #[.int .i64 t.f0, .string t.f1, .int .u64 t.f2, .int .i64 t.f3, .int .i64 t.f4] (0, 0) _ rfl (set5 HX2.o) Try.underlying47 rfl (by kernel_rfl)) rfl ⟨rfl, ?_⟩
 exact Post.box (Post.of_below HF.o.be (Post.of_below HB1.o HP2.o)) HF.o.gb (by rw [HF.o.nb]; exact Nat.le_refl _)
theorem fld (t : Tk) : (∀ w, (Instr.field 47 (.agg #[.int .i64 t.f0, .string t.f1, .int .u64 t.f2, .int .i64 t.f3, .int .i64 t.f4]) 0).run Try.prog w = .ok (.int .i64 t.f0) w) ∧ (∀ w, (Instr.field 47 (.agg #[.int .i64 t.f0, .string t.f1, .int .u64 t.f2, .int .i64 t.f3, .int .i64 t.f4]) 1).run Try.prog w = .ok (.string t.f1) w) ∧ (∀ w, (Instr.field 47 (.agg #[.int .i64 t.f0, .string t.f1, .int .u64 t.f2, .int .i64 t.f3, .int .i64 t.f4]) 2).run Try.prog w = .ok (.int .u64 t.f2) w) ∧ (∀ w, (Instr.field 47 (.agg #[.int .i64 t.f0, .string t.f1, .int .u64 t.f2, .int .i64 t.f3, .int .i64 t.f4]) 3).run Try.prog w = .ok (.int .i64 t.f3) w) :=
 ⟨fun _ => by kernel_rfl, fun _ => by kernel_rfl, fun _ => by kernel_rfl, fun _ => by kernel_rfl⟩
def Qqt (L : List Tk) (q : Q3) : Q3 := Qcv L ((tk L q.at_).f0 == 3) q
theorem Qgy (w : World) (A : Option Addr) (c : Nat) (L : List Tk) (g : Nat) (q : Q3) (v4 v5 v6 : Value) (h : IsP w A c L g q v4 v5 v6) (hG : Good L) :
  Calls Try.prog 91 #[.pointer (some ⟨g, 0, none⟩)] w fun e w' => e = .returned (.string (tk L q.at_).f1) ∧ Post w w' A c L g (Qqt L q) v4 v5 v6 := by
 have HN := J0.m (Qeq w A c L g q v4 v5 v6 h)
 have HP := J0.m h
 have HTK : J0 (∀ W, IsP W A c L g q v4 v5 v6 → Calls Try.prog 31 #[.pointer (some ⟨g, 0, none⟩), .bool ((tk L q.at_).f0 == 3)] W fun e w' => e = .returned (tokV (tk L q.at_)) ∧ Post W w' A c L g (Qqt L q) v4 v5 v6) := ⟨fun W hW => Qd5 W A c L g q v4 v5 v6 _ hW hG⟩
 obtain ⟨t, ht⟩ : ∃ t, t = tk L q.at_ := ⟨_, rfl⟩
 obtain ⟨fd0, fd1, fd2, fd3⟩ := fld t
 rw [← ht] at HTK HN ⊢
 obtain ⟨q', hq'⟩ : ∃ q', q' = Qqt L q := ⟨_, rfl⟩
 rw [← hq'] at HTK ⊢
 clear h hq' ht
 go_enter Try.func91, Try.ntmps91
 go_wp2_with fail
 refine HN.o.mono ?_
 rintro e w1 ⟨rfl, hb1⟩
 unfold tokV
 have HB1 := J0.m hb1
 clear hb1
 go_wp2_with fail
 refine (HTK.o w1 (HP.o.below HB1.o)).mono ?_
 rintro e w2 ⟨rfl, hp2⟩
 unfold tokV
 have HP2 := J0.m hp2
 clear hp2
 go_wp2
 go_ret
 exact ⟨rfl, Post.of_below HB1.o HP2.o⟩
def Qcz : List ByteArray := [⟨#[101, 118, 101, 110, 116]⟩, ⟨#[118, 101, 114, 115, 105, 111, 110]⟩, ⟨#[97, 100, 100]⟩, ⟨#[114, 101, 110, 97, 109, 101]⟩, ⟨#[115, 112, 108, 105, 116]⟩, ⟨#[106, 111, 105, 110]⟩, ⟨#[114, 101, 116, 121, 112, 101]⟩, ⟨#[100, 114, 111, 112]⟩, ⟨#[116, 111]⟩, ⟨#[97, 116]⟩, ⟨#[105, 110, 116, 111]⟩, ⟨#[119, 105, 116, 104]⟩, ⟨#[116, 114, 117, 101]⟩, ⟨#[102, 97, 108, 115, 101]⟩, ⟨#[99, 97, 116]⟩, ⟨#[114, 101, 112]⟩, ⟨#[108, 101, 110]⟩, ⟨#[104, 101, 120]⟩]
theorem Qhm (w : World) : Calls Try.prog 82 #[] w fun e w' => ∃ B, e = .returned (.slice (some ⟨B, 0, none⟩) 18 18) ∧ w'.heap[B]? = some (.cells (Qcz.map Value.string).toArray 9 (0, 0)) ∧ Below w.heap.size w w' ∧ w.heap.size ≤ B := by
 go_enter Try.func82, Try.ntmps82
 go_wp2
 go_ret
 exact ⟨_, rfl, Qay _ _, Qab (Below.refl _ _) _, Nat.le_refl _⟩
theorem Qhl {w : World} {B : Nat} (h : w.heap[B]? = some (.cells (Qcz.map Value.string).toArray 9 (0, 0))) : ∀ j, j < Qcz.length → w.cell? ⟨B, 0 + j, none⟩ = some (.string (Qcz.getD j ByteArray.empty)) := fun j hj => by
 rw [Nat.zero_add, Qac h j]
 simp [List.getD_eq_getElem?_getD, hj]
def Qmj (L : List Tk) (q : Q3) : Bool := ((tk L q.at_).f0 == 1) && !(Lib.containsS (Qcz.take 18) (tk L q.at_).f1)
def Qq3 (L : List Tk) (q : Q3) : Q3 := Qcv L (Qmj L q) q
theorem Qg2 (w : World) (A : Option Addr) (c : Nat) (L : List Tk) (g : Nat) (q : Q3) (v4 v5 v6 : Value) (h : IsP w A c L g q v4 v5 v6) (hG : Good L) :
  Calls Try.prog 60 #[.pointer (some ⟨g, 0, none⟩)] w fun e w' => e = .returned (.string (tk L q.at_).f1) ∧ Post w w' A c L g (Qq3 L q) v4 v5 v6 := by
 have HN := J0.m (Qeq w A c L g q v4 v5 v6 h)
 have HP := J0.m h
 have HTK : J0 (∀ W, IsP W A c L g q v4 v5 v6 → Calls Try.prog 31 #[.pointer (some ⟨g, 0, none⟩), .bool (Qmj L q)] W fun e w' => e = .returned (tokV (tk L q.at_)) ∧ Post W w' A c L g (Qq3 L q) v4 v5 v6) := ⟨fun W hW => Qd5 W A c L g q v4 v5 v6 _ hW hG⟩
 obtain ⟨t, ht⟩ : ∃ t, t = tk L q.at_ := ⟨_, rfl⟩
 obtain ⟨fd0, fd1, fd2, fd3⟩ := fld t
 obtain ⟨nb, hnb⟩ : ∃ nb, nb = Qmj L q := ⟨_, rfl⟩
 have hnb' := hnb
 unfold Qmj at hnb'
 rw [← ht] at HTK HN hnb' ⊢
 rw [← hnb] at HTK
 obtain ⟨q', hq'⟩ : ∃ q', q' = Qq3 L q := ⟨_, rfl⟩
 rw [← hq'] at HTK ⊢
 obtain ⟨bc, hbc⟩ : ∃ bc, bc = Lib.containsS (Qcz.take 18) t.f1 := ⟨_, rfl⟩
 rw [← hbc] at hnb'
 have HCT : J0 (∀ (W : World) (B : Nat), W.heap[B]? = some (.cells (Qcz.map Value.string).toArray 9 (0, 0)) → Calls Try.prog 81 #[.slice (some ⟨B, 0, none⟩) 18 18, .string t.f1] W fun e w' => e = .returned (.bool bc) ∧ w' = W) := ⟨fun W B hW => by rw [hbc]; exact Try.slices_Contains_string _ 0 18 18 Qcz t.f1 _ (by decide) (by decide) (Qhl hW)⟩
 have HWD := J0.m Qhm
 clear h hq' ht hnb hbc
 obtain ⟨b1, hb1⟩ : ∃ b1, b1 = (t.f0 == 1) := ⟨_, rfl⟩
 rw [← hb1] at hnb'
 have H1 := J0.m hb1
 clear hb1
 cases b1 with
 | false =>
  have c1 := H1.o.symm
  rw [Bool.false_and] at hnb'
  subst hnb'
  go_enter Try.func60, Try.ntmps60
  go_wp2_with fail
  refine HN.o.mono ?_
  rintro e w1 ⟨rfl, hb1⟩
  unfold tokV
  have hbx := Qay w1 (.cells #[.int .i64 t.f0, .string t.f1, .int .u64 t.f2, .int .i64 t.f3, .int .i64 t.f4] 47)
  have hp1 := (HP.o.below hb1).below (Qab (Below.refl _ _) (.cells #[.int .i64 t.f0, .string t.f1, .int .u64 t.f2, .int .i64 t.f3, .int .i64 t.f4] 47))
  have hgr := Qaj (Qab hb1 (.cells #[.int .i64 t.f0, .string t.f1, .int .u64 t.f2, .int .i64 t.f3, .int .i64 t.f4] 47)) (some g)
  have hne : g < w1.heap.size := (HP.o.below hb1).glt
  go_wp2_with fail
  obtain ⟨W1, hW1⟩ : ∃ W1, W1 = w1.alloc (.cells #[.int .i64 t.f0, .string t.f1, .int .u64 t.f2, .int .i64 t.f3, .int .i64 t.f4] 47) := ⟨_, rfl⟩
  obtain ⟨b, hb⟩ : ∃ b, b = w1.heap.size := ⟨_, rfl⟩
  rw [← hW1, ← hb]
  rw [← hW1] at hbx hp1 hgr
  rw [← hb] at hbx hne
  have HNE := J0.m hne
  have hhX : W1.drew.heap[b]? = some (.cells #[.int .i64 t.f0, .string t.f1, .int .u64 t.f2, .int .i64 t.f3, .int .i64 t.f4] 47 (0, 0)) := hbx
  have hhP : Post w W1.drew A c L g q v4 v5 v6 := ⟨hp1.below (Qaf (Below.refl _ _)), hgr.trans (Qaj (Qaf (Below.refl _ _)) _)⟩
  have hz0 := (Qbi hhX).1
  have hz1 := (Qbi hhX).2.1
  have HXX := J0.m hhX
  have HPP := J0.m hhP
  clear hb1 hW1 hb hbx hp1 hgr hne hhX hhP
  go_still_tail 11, (by kernel_rfl)
  go_wp2_with fail
  refine (HTK.o W1.drew HPP.o.1).mono ?_
  rintro e w4 ⟨rfl, hp⟩
  unfold tokV
  have HQQ := J0.m (Post.trans HPP.o hp)
  clear hp
  go_wp2
  go_ret
  exact ⟨rfl, HQQ.o⟩
 | true =>
  have c1 := H1.o.symm
  rw [Bool.true_and] at hnb'
  subst hnb'
  obtain ⟨a0, a1, a2, a3, a4⟩ := t
  obtain rfl : a0 = 1 := eq_of_beq c1
  clear c1 H1
  dsimp only at *
  go_enter Try.func60, Try.ntmps60
  go_wp2_with fail
  refine HN.o.mono ?_
  rintro e w1 ⟨rfl, hb1⟩
  unfold tokV
  have hbx := Qay w1 (.cells #[.int .i64 1, .string a1, .int .u64 a2, .int .i64 a3, .int .i64 a4] 47)
  have hp1 := (HP.o.below hb1).below (Qab (Below.refl _ _) (.cells #[.int .i64 1, .string a1, .int .u64 a2, .int .i64 a3, .int .i64 a4] 47))
  have hgr := Qaj (Qab hb1 (.cells #[.int .i64 1, .string a1, .int .u64 a2, .int .i64 a3, .int .i64 a4] 47)) (some g)
  have hne : g < w1.heap.size := (HP.o.below hb1).glt
  go_wp2_with fail
  obtain ⟨W1, hW1⟩ : ∃ W1, W1 = w1.alloc (.cells #[.int .i64 1, .string a1, .int .u64 a2, .int .i64 a3, .int .i64 a4] 47) := ⟨_, rfl⟩
  obtain ⟨b, hb⟩ : ∃ b, b = w1.heap.size := ⟨_, rfl⟩
  rw [← hW1, ← hb]
  rw [← hW1] at hbx hp1 hgr
  rw [← hb] at hbx hne
  have HNE := J0.m hne
  have hhX : W1.drew.heap[b]? = some (.cells #[.int .i64 1, .string a1, .int .u64 a2, .int .i64 a3, .int .i64 a4] 47 (0, 0)) := hbx
  have hhP : Post w W1.drew A c L g q v4 v5 v6 := ⟨hp1.below (Qaf (Below.refl _ _)), hgr.trans (Qaj (Qaf (Below.refl _ _)) _)⟩
  have hz0 := (Qbi (t := ⟨1, a1, a2, a3, a4⟩) hhX).1
  have hz1 := (Qbi (t := ⟨1, a1, a2, a3, a4⟩) hhX).2.1
  have HXX := J0.m hhX
  have HPP := J0.m hhP
  clear hb1 hW1 hb hbx hp1 hgr hne hhX hhP
  go_region_held3 (fun w' => w'.cell? ⟨b, 0, none⟩ = some (.int .i64 1) ∧ w'.cell? ⟨b, 1, none⟩ = some (.string a1)) (exact ⟨hz0, hz1⟩) (first
   | (go_at_call 82; go_must ((with_reducible refine (HWD.o _).mono ?_); rintro e w2 ⟨B, rfl, hB, hbw, _⟩; have hhX := Qae HXX.o hbw; have hz0 := (Qbi (t := ⟨1, a1, a2, a3, a4⟩) hhX).1; have hz1 := (Qbi (t := ⟨1, a1, a2, a3, a4⟩) hhX).2.1; have HXX := J0.m hhX; have HPP := J0.m (HPP.o.below hbw); have HBB := J0.m hB; clear hhX hbw hB))
   | (go_at_call 81; go_must ((with_reducible refine (HCT.o _ _ HBB.o).mono ?_); rintro e w3 ⟨rfl, rfl⟩))
   | (go_at_call 31; go_must ((with_reducible refine (HTK.o _ HPP.o.p).mono ?_); rintro e w4 ⟨rfl, hp⟩; unfold tokV; have hhX := Qbh HXX.o hp.2 (fun e => by injection e with e; have := HNE.o; omega); have hz0 := (Qbi (t := ⟨1, a1, a2, a3, a4⟩) hhX).1; have hz1 := (Qbi (t := ⟨1, a1, a2, a3, a4⟩) hhX).2.1; have HPP := J0.m (Post.trans HPP.o hp); clear hhX hp)))
  all_goals
   go_wp2
   go_ret
   exact ⟨rfl, HPP.o⟩
end Go.Proofs.Ytbdcndkafaajpaa.A
end
section
namespace Go.Proofs.Ytbdcndkafaajpaa.P
open Ytbdcndkafaajpaa.X
abbrev Tk := S47
structure Nd where
 f0 : Int
 f1 : Int
 f2 : Int
 f3 : ByteArray
 f4 : Int
inductive Res (α : Type) where
 | ok (a : α) (rest : List Tk)
 | bad (e pl : Int)
def Res.bind {α β : Type} : Res α → (α → List Tk → Res β) → Res β
 | .ok a r, f => f a r
 | .bad e p, _ => .bad e p
def hd (ts : List Tk) : Tk := ts.headD z47
def isT (k : Int) (s : ByteArray) (ts : List Tk) : Bool := ((hd ts).f0 == k) && ((hd ts).f1.toList == s.toList)
def mk1 (c : UInt8) : ByteArray := ⟨#[c]⟩
def isM (c : UInt8) (ts : List Tk) : Bool := isT 4 (mk1 c) ts
def want (ok : Bool) (ts : List Tk) : Res Tk := if ok then .ok (hd ts) ts.tail else .bad 90 (hd ts).f3
def Qar (c : UInt8) (ts : List Tk) : Res Tk := want (isM c ts) ts
structure EO where
 ns : List Nd
 dep : Int
def mxl (ds : List Int) : Int := ds.foldl max 0
def node (op : Int) (pl : Int) : Nd := ⟨op, 0, 0, ⟨#[]⟩, pl⟩
def comb (n : Nd) (kids : List EO) (r : List Tk) : Res EO :=
 if mxl (kids.map EO.dep) + 1 > 100 then .bad 91 n.f4 else .ok ⟨(kids.map EO.ns).flatten ++ [n], mxl (kids.map EO.dep) + 1⟩ r
def Qif : ByteArray := ⟨#[116, 114, 117, 101]⟩
def Qgj : ByteArray := ⟨#[102, 97, 108, 115, 101]⟩
def sCat : ByteArray := ⟨#[99, 97, 116]⟩
def sRep : ByteArray := ⟨#[114, 101, 112]⟩
def sLen : ByteArray := ⟨#[108, 101, 110]⟩
def sHex : ByteArray := ⟨#[104, 101, 120]⟩
inductive Fn where
 | expr
 | addL (a : EO)
 | term
 | mulL (a : EO)
 | fac
 | args (t : Tk) (l : List EO)
def X : Nat → Fn → Nat → List Tk → Res EO
 | 0, _, _, _ => .bad 0 0
 | n + 1, .expr, lev, ts => (X n .term lev ts).bind fun a r => X n (.addL a) lev r
 | n + 1, .addL a, lev, ts =>
  if isM 43 ts || isM 45 ts then (X n .term lev ts.tail).bind fun b r => (comb (node (if (hd ts).f1.toList == (mk1 45).toList then 7 else 6) (hd ts).f3) [a, b] r).bind fun c r => X n (.addL c) lev r
  else .ok a ts
 | n + 1, .term, lev, ts => (X n .fac lev ts).bind fun a r => X n (.mulL a) lev r
 | n + 1, .mulL a, lev, ts =>
  if isM 42 ts then (X n .fac lev ts.tail).bind fun b r => (comb (node 8 (hd ts).f3) [a, b] r).bind fun c r => X n (.mulL c) lev r
  else .ok a ts
 | n + 1, .args t l, lev, ts =>
  if isM 44 ts then (X n .expr lev ts.tail).bind fun b r => X n (.args t (l ++ [b])) lev r
  else (Qar 41 ts).bind fun _ r => comb ⟨9, (l.length : Int), 0, ⟨#[]⟩, t.f3⟩ l r
 | n + 1, .fac, lev, ts =>
  if (hd ts).f0 = 2 then comb ⟨1, 0, (hd ts).f2, ⟨#[]⟩, (hd ts).f3⟩ [] ts.tail
  else if (hd ts).f0 = 3 then comb ⟨2, 0, 0, (hd ts).f1, (hd ts).f3⟩ [] ts.tail
  else if (hd ts).f0 = 1 then
   if (hd ts).f1 = Qif then comb (node 3 (hd ts).f3) [] ts.tail
   else if (hd ts).f1 = Qgj then comb (node 4 (hd ts).f3) [] ts.tail
   else if (hd ts).f1 = sCat then
    if 100 ≤ lev then .bad 91 (hd ts).f3
    else (Qar 40 ts.tail).bind fun _ r => (X n .expr (lev + 1) r).bind fun a r => X n (.args (hd ts) [a]) (lev + 1) r
   else if (hd ts).f1 = sRep then
    if 100 ≤ lev then .bad 91 (hd ts).f3
    else (Qar 40 ts.tail).bind fun _ r => (X n .expr (lev + 1) r).bind fun a r => (Qar 44 r).bind fun _ r => (X n .expr (lev + 1) r).bind fun b r => (Qar 41 r).bind fun _ r => comb (node 10 (hd ts).f3) [a, b] r
   else if (hd ts).f1 = sLen then
    if 100 ≤ lev then .bad 91 (hd ts).f3
    else (Qar 40 ts.tail).bind fun _ r => (X n .expr (lev + 1) r).bind fun a r => (Qar 41 r).bind fun _ r => comb (node 11 (hd ts).f3) [a] r
   else if (hd ts).f1 = sHex then
    if 100 ≤ lev then .bad 91 (hd ts).f3
    else (Qar 40 ts.tail).bind fun _ r => (X n .expr (lev + 1) r).bind fun a r => (Qar 41 r).bind fun _ r => comb (node 12 (hd ts).f3) [a] r
   else .bad 90 (hd ts).f3
  else if isM 45 ts then
   if 100 ≤ lev then .bad 91 (hd ts).f3
   else (X n .fac (lev + 1) ts.tail).bind fun a r => comb (node 5 (hd ts).f3) [a] r
  else if isM 40 ts then
   if 100 ≤ lev then .bad 91 (hd ts).f3
   else (X n .expr (lev + 1) ts.tail).bind fun a r => (Qar 41 r).bind fun _ r => .ok a r
  else .bad 90 (hd ts).f3
end Go.Proofs.Ytbdcndkafaajpaa.P
end
section
namespace Go.Proofs.Ytbdcndkafaajpaa.A
open Go.RowKit Ytbdcndkafaajpaa.X YtbdcndkafaajpaaW.PrintWords YtbdcndkafaajpaaW.PrintLast YtbdcndkafaajpaaW.PrintMore
open Ytbdcndkafaajpaa.P (Nd EO Res hd isT isM Qar mxl comb mk1)
def kn : Kd Nd := Kd.iso (Kd.pair (Kd.int .i64) (Kd.pair (Kd.int .i64) (Kd.pair (Kd.int .u64) (Kd.pair Kd.string (Kd.int .i64))))) (fun x : Nd => (x.f0, x.f1, x.f2, x.f3, x.f4))
def Qe9 (x : Nd) : List Value := [.int .i64 x.f0, .int .i64 x.f1, .int .u64 x.f2, .string x.f3, .int .i64 x.f4]
theorem Qrb {w : World} {x : Nd} {cs : List Value} (h : kn.K w x cs) : cs = Qe9 x := by
 obtain ⟨_, _, rfl, rfl, ⟨_, _, rfl, rfl, ⟨_, _, rfl, rfl, ⟨_, _, rfl, rfl, rfl⟩⟩⟩⟩ := h
 exact rfl
theorem kn_mk (w : World) (x : Nd) : kn.K w x (Qe9 x) := ⟨[.int .i64 x.f0], [.int .i64 x.f1, .int .u64 x.f2, .string x.f3, .int .i64 x.f4], rfl, rfl, ⟨[.int .i64 x.f1], [.int .u64 x.f2, .string x.f3, .int .i64 x.f4], rfl, rfl, ⟨[.int .u64 x.f2], [.string x.f3, .int .i64 x.f4], rfl, rfl, ⟨[.string x.f3], [.int .i64 x.f4], rfl, rfl, rfl⟩⟩⟩⟩
theorem Qp6 (w : World) (base : Nat) (ok : Nat → Prop) (x : Nd) : kn.M w base ok x (Qe9 x) := ⟨[.int .i64 x.f0], [.int .i64 x.f1, .int .u64 x.f2, .string x.f3, .int .i64 x.f4], rfl, rfl, ⟨[.int .i64 x.f1], [.int .u64 x.f2, .string x.f3, .int .i64 x.f4], rfl, rfl, ⟨[.int .u64 x.f2], [.string x.f3, .int .i64 x.f4], rfl, rfl, ⟨[.string x.f3], [.int .i64 x.f4], rfl, rfl, rfl⟩⟩⟩⟩
theorem infoN : (Try.prog.info? 49).map (fun i => (i.zero, i.size, i.bytes)) = some (some (.agg #[.int .i64 0, .int .i64 0, .int .u64 0, .string ⟨#[]⟩, .int .i64 0]), 5, 48) := by kernel_rfl
theorem Qrf : (Try.prog.info? 3).map (fun i => (i.zero, i.size, i.bytes)) = some (some (.int .i64 0), 1, 8) := by kernel_rfl
abbrev RN (w : World) (g : Nat) (v : Value) (xs : List Nd) : Prop := Kd.R kn 49 w g (fun _ => True) v xs
abbrev RI (w : World) (g : Nat) (v : Value) (xs : List Int) : Prop := Kd.R (Kd.int .i64) 3 w g (fun _ => True) v xs
structure Hv (w w' : World) (g : Nat) (vn vd vn' vd' : Value) : Prop where
 bl : Below g w w'
 kp : ∀ k, k < w.heap.size → k ≠ g → vn.ownBlock ≠ some k → vd.ownBlock ≠ some k → w'.heap[k]? = w.heap[k]?
 nn : vn'.ownBlock = vn.ownBlock ∨ ∃ b, vn'.ownBlock = some b ∧ w.heap.size ≤ b
 nd : vd'.ownBlock = vd.ownBlock ∨ ∃ b, vd'.ownBlock = some b ∧ w.heap.size ≤ b
theorem Hv.trans {w w1 w2 : World} {g : Nat} {vn vd vn1 vd1 vn2 vd2 : Value} (h : Hv w w1 g vn vd vn1 vd1) (k : Hv w1 w2 g vn1 vd1 vn2 vd2) : Hv w w2 g vn vd vn2 vd2 := by
 have hs := h.bl.size
 refine ⟨h.bl.trans k.bl, fun i hi h1 h2 h3 => ?_, ?_, ?_⟩
 ·refine (k.kp i (Nat.lt_of_lt_of_le hi hs) h1 (fun e => ?_) (fun e => ?_)).trans (h.kp i hi h1 h2 h3)
  ·rcases h.nn with a | ⟨b, a, hb⟩
   ·exact h2 (a ▸ e)
   ·rw [a] at e; injection e with e; omega
  ·rcases h.nd with a | ⟨b, a, hb⟩
   ·exact h3 (a ▸ e)
   ·rw [a] at e; injection e with e; omega
 ·rcases k.nn with a | ⟨b, a, hb⟩
  ·rw [a]; exact h.nn
  ·exact .inr ⟨b, a, by omega⟩
 ·rcases k.nd with a | ⟨b, a, hb⟩
  ·rw [a]; exact h.nd
  ·exact .inr ⟨b, a, by omega⟩
theorem below_grown {w w' : World} {g : Nat} (h : w.grownBy w' (some g)) (hg : g ≤ w.heap.size) : Below g w w' := (Below.refl g w).grown h hg (fun k hk => by injection hk with hk; omega)
theorem Hv.Qa6 {w w' : World} {g : Nat} {vn vd : Value} (h : w.grownBy w' (some g)) (hg : g ≤ w.heap.size) : Hv w w' g vn vd vn vd :=
 ⟨below_grown h hg, fun k hk h1 _ _ => h.block k hk (fun e => by injection e with e; exact h1 e), .inl rfl, .inl rfl⟩
theorem Hv.blk {w w' : World} {g k : Nat} {vn vd vn' vd' : Value} {o : Obj} (h : Hv w w' g vn vd vn' vd') (hb : w.heap[k]? = some o) (h1 : k ≠ g) (h2 : vn.ownBlock ≠ some k) (h3 : vd.ownBlock ≠ some k) : w'.heap[k]? = some o := (h.kp k (Qb3 hb) h1 h2 h3).trans hb
structure Bd (ts : List Tk) (lev : Nat) (ns : List Nd) (dp : List Int) : Prop where
 sz : ns.length + ts.length ≤ 33554432
 dl : dp.length ≤ ns.length
 d0 : ∀ d ∈ dp, 0 ≤ d ∧ d ≤ 100
 lv : lev ≤ 100
inductive Sg where
 | ok (ts : List Tk) (lev : Nat) (ns : List Nd) (dp : List Int)
 | bad (e pl : Int)
structure IsE (w : World) (A : Option Addr) (c : Nat) (L : List Tk) (g : Nat) (q : Q3) (lev : Int) (vn : Value) (ns : List Nd) (vd : Value) (dp : List Int) : Prop where
 p : IsP w A c L g q (.int .i64 lev) vn vd
 n : RN w g vn ns
 d : RI w g vd dp
def Is (w : World) (A : Option Addr) (c : Nat) (L : List Tk) (g : Nat) (vn vd : Value) : Sg → Prop
 | .ok ts lev ns dp => ∃ q : Q3, q.fl = 0 ∧ L.drop q.at_ = ts ∧ IsE w A c L g q (lev : Int) vn ns vd dp ∧ Bd ts lev ns dp
 | .bad e pl => ∃ (q : Q3) (lev : Int) (ns : List Nd) (dp : List Int), q.fl = e ∧ q.pl = pl ∧ e ≠ 0 ∧ IsE w A c L g q lev vn ns vd dp
section
variable {w w' : World} {A : Option Addr} {c : Nat} {L : List Tk} {g : Nat} {q : Q3} {lev : Int} {vn vd : Value} {ns : List Nd} {dp : List Int}
theorem RN.Qd0 (h : RN w g vn ns) (hg : w.grownBy w' (some g)) (hp : ∃ cs, w.heap[g]? = some (.cells cs 68 (0, 0))) : RN w' g vn ns := by
 obtain ⟨cs, hb⟩ := hp
 exact Kd.Qhi h rfl hg (fun k hk e => by injection hk with hk; subst hk; exact Kd.R_ne h hb (by decide) e)
theorem RI.Qd0 (h : RI w g vd dp) (hg : w.grownBy w' (some g)) (hp : ∃ cs, w.heap[g]? = some (.cells cs 68 (0, 0))) : RI w' g vd dp := by
 obtain ⟨cs, hb⟩ := hp
 exact Kd.Qhi h rfl hg (fun k hk e => by injection hk with hk; subst hk; exact Kd.R_ne h hb (by decide) e)
theorem IsE.Qd0 (h : IsE w A c L g q lev vn ns vd dp) {q' : Q3} {lev' : Int} (hp : Post w w' A c L g q' (.int .i64 lev') vn vd) : IsE w' A c L g q' lev' vn ns vd dp :=
 ⟨hp.1, RN.Qd0 h.n hp.2 ⟨_, h.p.blk⟩, RI.Qd0 h.d hp.2 ⟨_, h.p.blk⟩⟩
theorem IsE.below (h : IsE w A c L g q lev vn ns vd dp) (hb : Below w.heap.size w w') : IsE w' A c L g q lev vn ns vd dp := ⟨h.p.below hb, Kd.Qb4 h.n hb, Kd.Qb4 h.d hb⟩
end
theorem Is.below {w w' : World} {A : Option Addr} {c : Nat} {L : List Tk} {g : Nat} {vn vd : Value} {s : Sg} (h : Is w A c L g vn vd s) (hb : Below w.heap.size w w') : Is w' A c L g vn vd s := by
 cases s with
 | ok ts lev ns dp => obtain ⟨q, h1, h2, h3, h4⟩ := h; exact ⟨q, h1, h2, h3.below hb, h4⟩
 | bad e pl => obtain ⟨q, lev, ns, dp, h1, h2, h3, h4⟩ := h; exact ⟨q, lev, ns, dp, h1, h2, h3, h4.below hb⟩
theorem Qcg {L : List Tk} {i : Nat} (h : i < L.length) : hd (L.drop i) = tk L i := by
 unfold hd tk Qga
 rw [Int.toNat_natCast, List.drop_eq_getElem_cons h, List.headD_cons, List.getD_eq_getElem?_getD, List.getElem?_eq_getElem h]; rfl
def Sg.step (s : Sg) (f : List Tk → Res Tk) : Sg := match s with
 | .ok ts lev ns dp => match f ts with
  | .ok _ r => .ok r lev ns dp
  | .bad e p => .bad e p
 | .bad e p => .bad e p
def Sg.is (k : Int) (x : ByteArray) : Sg → Bool
 | .ok ts _ _ _ => isT k x ts
 | .bad _ _ => false
section
variable {w w' : World} {A : Option Addr} {c : Nat} {L : List Tk} {g : Nat} {vn vd : Value} {s : Sg}
theorem Is.to {P : Sg → Prop} (h : Is w A c L g vn vd s) (f : ∀ q lev ns dp, IsE w A c L g q lev vn ns vd dp → P s) : P s := by
 cases s with
 | ok ts lev ns dp => obtain ⟨q, _, _, h3, _⟩ := h; exact f q _ ns dp h3
 | bad e pl => obtain ⟨q, lev, ns, dp, _, _, _, h4⟩ := h; exact f q lev ns dp h4
theorem Qaz (w : World) (A : Option Addr) (c : Nat) (L : List Tk) (g : Nat) (vn vd : Value) (s : Sg) (k : Int) (x : ByteArray) (h : Is w A c L g vn vd s) :
  Calls Try.prog 39 #[.pointer (some ⟨g, 0, none⟩), .int .i64 k, .string x] w fun e w' => e = .returned (.bool (s.is k x)) ∧ Below w.heap.size w w' := by
 cases s with
 | ok ts lev ns dp =>
  obtain ⟨q, h1, h2, h3, h4⟩ := h
  refine (Qec w A c L g q _ _ _ k x h3.p).mono fun e w' ⟨he, hb⟩ => ⟨?_, hb⟩
  rw [he]; subst h2
  simp only [isQ, Sg.is, isT, Qcg h3.p.lt, h1, beq_self_eq_true, Bool.true_and]
 | bad e pl =>
  obtain ⟨q, lev, ns, dp, h1, h2, h3, h4⟩ := h
  refine (Qec w A c L g q _ _ _ k x h4.p).mono fun e' w' ⟨he, hb⟩ => ⟨?_, hb⟩
  rw [he]; unfold isQ Sg.is
  have : (q.fl == 0) = false := beq_eq_false_iff_ne.2 (by rw [h1]; exact h3)
  rw [this]; simp
theorem Qi5 {q : Q3} {lev : Nat} {ns : List Nd} {dp : List Int} {ok : Bool} (hk : ok = true → (tk L q.at_).f0 ≠ 0) (h1 : q.fl = 0) (h3 : IsE w A c L g q (lev : Int) vn ns vd dp) (h4 : Bd (L.drop q.at_) lev ns dp) (hp : Post w w' A c L g (Qcv L ok q) (.int .i64 (lev : Int)) vn vd) :
  Is w' A c L g vn vd (Sg.step (.ok (L.drop q.at_) lev ns dp) (P.want ok)) := by
 have hl := h3.p.lt
 unfold Qcv at hp
 rw [if_pos h1] at hp
 cases ok with
 | true =>
  have h0 := hk rfl
  rw [if_pos rfl, if_neg h0] at hp
  show Is w' A c L g vn vd (.ok (L.drop q.at_).tail lev ns dp)
  refine ⟨⟨q.at_ + 1, q.fl, q.pl⟩, h1, ?_, h3.Qd0 hp, ?_⟩
  ·rw [List.tail_drop]
  ·rw [List.tail_drop]
   exact ⟨by have := h4.sz; rw [List.length_drop] at *; omega, h4.dl, h4.d0, h4.lv⟩
 | false =>
  rw [if_neg (by decide)] at hp
  unfold Qcy at hp
  rw [if_pos h1] at hp
  show Is w' A c L g vn vd (.bad 90 (hd (L.drop q.at_)).f3)
  exact ⟨_, _, ns, dp, rfl, by rw [Qcg hl], by decide, h3.Qd0 hp⟩
theorem Qog {q : Q3} {lev : Int} {ns : List Nd} {dp : List Int} {ok : Bool} {e pl : Int} (h1 : q.fl = e) (h2 : q.pl = pl) (h0 : e ≠ 0) (h3 : IsE w A c L g q lev vn ns vd dp) (hp : Post w w' A c L g (Qcv L ok q) (.int .i64 lev) vn vd) : Is w' A c L g vn vd (.bad e pl) := by
 have : Qcv L ok q = q := by unfold Qcv; rw [if_neg (by rw [h1]; exact h0)]
 rw [this] at hp
 exact ⟨q, lev, ns, dp, h1, h2, h0, h3.Qd0 hp⟩
end
theorem Qbz {k : Int} {x : ByteArray} {ts : List Tk} (h : isT k x ts = true) : (hd ts).f0 = k := by
 unfold isT at h
 rw [Bool.and_eq_true] at h
 exact eq_of_beq h.1
theorem Qnt {L : List Tk} {q : Q3} (h1 : q.fl = 0) (hl : q.at_ < L.length) (k : Int) (x : ByteArray) : isQ L q k x = isT k x (L.drop q.at_) := by
 unfold isQ isT
 rw [Qcg hl, h1]; rfl
theorem Qkp (w : World) (A : Option Addr) (c : Nat) (L : List Tk) (g : Nat) (vn vd : Value) (s : Sg) (m : UInt8) (hG : Good L) (h : Is w A c L g vn vd s) :
  Calls Try.prog 61 #[.pointer (some ⟨g, 0, none⟩), .string (mk1 m)] w fun e w' => (∃ t, e = .returned (tokV t)) ∧ Is w' A c L g vn vd (s.step (Qar m)) ∧ w.grownBy w' (some g) := by
 cases s with
 | ok ts lev ns dp =>
  obtain ⟨q, h1, rfl, h3, h4⟩ := h
  refine (Qd6 w A c L g q _ _ _ (mk1 m) h3.p hG).mono fun e w' ⟨he, hp⟩ => ⟨⟨_, he⟩, ?_, hp.2⟩
  rw [Qnt h1 h3.p.lt] at hp
  exact Qi5 (ok := isT 4 (mk1 m) (L.drop q.at_)) (fun hk => by rw [← Qcg h3.p.lt, Qbz hk]; decide) h1 h3 h4 hp
 | bad e pl =>
  obtain ⟨q, lev, ns, dp, h1, h2, h3, h4⟩ := h
  refine (Qd6 w A c L g q _ _ _ (mk1 m) h4.p hG).mono fun e' w' ⟨he, hp⟩ => ⟨⟨_, he⟩, ?_, hp.2⟩
  exact Qog h1 h2 h3 h4 hp
theorem Qb9 (w : World) (A : Option Addr) (c : Nat) (L : List Tk) (g : Nat) (vn vd : Value) (ts : List Tk) (lev : Nat) (ns : List Nd) (dp : List Int) (ok : Bool) (hG : Good L) (hk : ok = true → (hd ts).f0 ≠ 0) (h : Is w A c L g vn vd (.ok ts lev ns dp)) :
  Calls Try.prog 31 #[.pointer (some ⟨g, 0, none⟩), .bool ok] w fun e w' => e = .returned (tokV (hd ts)) ∧ Is w' A c L g vn vd (Sg.step (.ok ts lev ns dp) (P.want ok)) ∧ w.grownBy w' (some g) := by
 obtain ⟨q, h1, rfl, h3, h4⟩ := h
 refine (Qd5 w A c L g q _ _ _ ok h3.p hG).mono fun e w' ⟨he, hp⟩ => ⟨by rw [he, Qcg h3.p.lt], ?_, hp.2⟩
 exact Qi5 (fun h => by rw [← Qcg h3.p.lt]; exact hk h) h1 h3 h4 hp
def Qdu (t : Tk) : Sg → Sg
 | .ok ts lev ns dp => if 100 ≤ lev then .bad 91 t.f3 else .ok ts (lev + 1) ns dp
 | s => s
theorem Qcj (w : World) (A : Option Addr) (c : Nat) (L : List Tk) (g : Nat) (vn vd : Value) (ts : List Tk) (lev : Nat) (ns : List Nd) (dp : List Int) (t : Tk) (h : Is w A c L g vn vd (.ok ts lev ns dp)) :
  Calls Try.prog 94 #[.pointer (some ⟨g, 0, none⟩), .agg #[.int .i64 t.f0, .string t.f1, .int .u64 t.f2, .int .i64 t.f3, .int .i64 t.f4]] w fun e w' => e = .returned (.bool (decide (lev < 100))) ∧ Is w' A c L g vn vd (Qdu t (.ok ts lev ns dp)) ∧ w.grownBy w' (some g) := by
 obtain ⟨q, h1, h2, h3, h4⟩ := h
 have HB := J0.m (Qab (Below.refl w.heap.size w) (.cells #[.int .i64 t.f0, .string t.f1, .int .u64 t.f2, .int .i64 t.f3, .int .i64 t.f4] 47))
 obtain ⟨W0, hW0⟩ : ∃ W0, W0 = w.alloc (.cells #[.int .i64 t.f0, .string t.f1, .int .u64 t.f2, .int .i64 t.f3, .int .i64 t.f4] 47) := ⟨_, rfl⟩
 have HE := J0.m (h3.below HB.o)
 have HX := J0.m (Qay w (.cells #[.int .i64 t.f0, .string t.f1, .int .u64 t.f2, .int .i64 t.f3, .int .i64 t.f4] 47))
 have y4 := HE.o.p.c4
 have f4 := HE.o.p.fz 4
 obtain ⟨t0, t1, t2, t3, t4⟩ := Qbi HX.o
 have H1 := J0.m h1
 have H2 := J0.m h2
 have H4 := J0.m h4
 have HW := J0.m hW0
 rw [← HW.o] at HE HB HX
 by_cases cl : 100 ≤ lev
 ·have d1 : decide ((100 : Int) ≤ (lev : Int)) = true := decide_eq_true (by omega)
  have d2 : decide (100 ≤ lev) = true := decide_eq_true cl
  have d3 : decide (lev < 100) = false := decide_eq_false (by omega)
  have HS : J0 (Qdu t (.ok ts lev ns dp) = .bad 91 t.f3) := ⟨by unfold Qdu; simp only [if_pos cl]⟩
  have HFL := J0.m (Qcs W0 A c L g q _ _ _ 91 t.f3 HE.o.p)
  rw [HS.o, d3]
  clear h1 h2 h3 h4 hW0 cl d3
  go_enter Try.func94, Try.ntmps94
  go_wp2_with fail
  rw [← HW.o]
  refine HFL.o.mono ?_
  rintro e w1 ⟨rfl, hp⟩
  have HP := J0.m (show Post W0 w1 A c L g (Qcy 91 t.f3 q) _ vn vd from hp)
  clear hp
  go_wp2
  go_ret
  refine ⟨rfl, ?_, (Qaj HB.o _).trans HP.o.g⟩
  have h := HE.o.Qd0 HP.o
  exact ⟨_, _, ns, dp, by unfold Qcy; rw [if_pos H1.o], by unfold Qcy; rw [if_pos H1.o], by decide, h⟩
 ·have d1 : decide ((100 : Int) ≤ (lev : Int)) = false := decide_eq_false (by omega)
  have d2 : decide (100 ≤ lev) = false := decide_eq_false cl
  have d3 : decide (lev < 100) = true := decide_eq_true (by omega)
  have hlv : lev ≤ 100 := by omega
  have HS : J0 (Qdu t (.ok ts lev ns dp) = .ok ts (lev + 1) ns dp) := ⟨by unfold Qdu; simp only [if_neg cl]⟩
  have HC := J0.m cl
  rw [HS.o, d3]
  clear h1 h2 h3 h4 hW0 cl d3
  go_enter Try.func94, Try.ntmps94
  go_wp2
  rw [← HW.o]
  go_ret
  have hp : Post W0 (W0.setCell ⟨g, 4, none⟩ (.int .i64 ((lev : Int) + 1))) A c L g q (.int .i64 ((lev + 1 : Nat) : Int)) vn vd := ⟨HE.o.p.set 4 _ rfl HE.o.p.lt, Qbg _ _ _ _⟩
  exact ⟨rfl, ⟨q, H1.o, H2.o, HE.o.Qd0 hp, H4.o.sz, H4.o.dl, H4.o.d0, by have := HC.o; omega⟩, (Qaj HB.o _).trans hp.2⟩
end Go.Proofs.Ytbdcndkafaajpaa.A
end
section
namespace Go.Proofs.YtbdcndkafaajpaaW.PrintWords
open Go.RowKit
def Went (W w1 : World) (v v1 : Value) (n : Nat) : Prop :=
 (∃ g c, v = .slice (some ⟨g, 0, none⟩) n c ∧ v1 = .slice (some ⟨g, 0, none⟩) (n + 1) c ∧ W.grownBy w1 (some g)) ∨ (∃ b, v1.ownBlock = some b ∧ W.heap.size ≤ b ∧ W.grownBy w1 none)
theorem Went.grown {W w1 : World} {v v1 : Value} {n : Nat} (h : Went W w1 v v1 n) : W.grownBy w1 v.ownBlock := by
 rcases h with ⟨g, c, rfl, _, h⟩ | ⟨b, _, _, h⟩
 ·simpa [Value.ownBlock] using h
 ·exact ⟨h.os, h.tape, h.output, h.size, fun k hk _ => h.block k hk (by simp)⟩
theorem Went.at {W w1 : World} {v v1 : Value} {n : Nat} (h : Went W w1 v v1 n) : v1.ownBlock = v.ownBlock ∨ ∃ b, v1.ownBlock = some b ∧ W.heap.size ≤ b := by
 rcases h with ⟨g, c, rfl, rfl, h⟩ | ⟨b, h1, h2, _⟩
 ·exact .inl (by simp [Value.ownBlock])
 ·exact .inr ⟨b, h1, h2⟩
theorem Qj3 (w : World) (o : Obj) (row : Option Nat) : w.grownBy (w.drew.alloc o) row := ⟨rfl, rfl, rfl, by simp, fun k hk _ => heap_alloc_old w.drew _ hk⟩
theorem Qo5 {P : Program} (w : World) (base : Nat) (t ty e : TypeId) (i : TypeInfo) (z : Value) (size bytes : Nat) (ht : P.underlying t = some (.slice e)) (hi : P.info? e = some i) (hz : i.zero = some z)
  (hsize : i.size = size) (hby : i.bytes = bytes) (hzs : z.cells.size = size) (hsz : 0 < size)
  (v : Value) (n : Nat) (xs : List Value) (hown : w.ownsRow base e size v n xs)
  (a : Addr) (c : Nat) (news : List Value) (hl : news.length = size) (hnews : ∀ j u, news[j]? = some u → w.cell? (a.add j) = some u) (h1 : ∀ u ∈ news, u.oneCell' = true)
  (hb0 : 0 < bytes) (hbytes : (n + 1) * bytes ≤ 140737488355328) (hbase : base ≤ w.heap.size) :
  ∃ v' w', (Builtin.append_ #[t, t] ty #[v, .slice (some a) 1 c]).run P w = .ok v' w' ∧ w'.ownsRow base e size v' (n + 1) (xs ++ news) ∧ Went w w' v v' n := by
 have hn : n + 1 ≤ 140737488355328 := Nat.le_trans (Nat.le_mul_of_pos_right _ hb0) hbytes
 have hl1 : news.length = 1 * size := by omega
 obtain ⟨v', w', hr, ho, hg, _⟩ := run_append_own (P := P) w base t ty e i z size bytes ht hi hz hsize hby hzs hsz v n xs hown a 1 c news hl1 hnews h1 (by simp only [maxLen]; omega) hbytes hbase
 refine ⟨v', w', hr, ho, ?_⟩
 subst hsize
 subst hby
 rcases hown.2 with ⟨rfl, rfl⟩ | ⟨g, cap, cur, rfl, hbg, hgc, hnc, hcm, hcs, htake⟩
 ·have h2 := run_append_nil (P := P) w t ty e i z ht hi hz a 1 c news hl1 hnews (by omega) (by omega) (by omega)
  rw [hr] at h2
  injection h2 with e1 e2
  subst e1 e2
  exact .inr ⟨_, rfl, Nat.le_refl _, Qj3 _ _ _⟩
 ·by_cases hroom : n + 1 ≤ cap
  ·have hfit : n * i.size + news.length ≤ cur.size := by
    rw [hl1, hcs, ← Nat.add_mul]; exact Nat.mul_le_mul_right _ hroom
   have h2 := run_append_room (P := P) w t ty e i ht hi g n cap cur hgc a 1 c news hl1 hnews h1 hroom hfit
   rw [hr] at h2
   injection h2 with e1 e2
   subst e1
   exact .inl ⟨g, cap, rfl, rfl, by simpa [Value.ownBlock] using hg⟩
  ·have holds : ∀ j u, xs[j]? = some u → w.cell? ((⟨g, 0, none⟩ : Addr).add j) = some u := hown.cells (g := g) rfl
   have h2 := run_append_grow (P := P) w t ty e i z ht hi hz ⟨g, 0, none⟩ n cap xs hown.1 holds a 1 c news hl1 hnews (by omega) (by omega) (growslice_fits (by omega) hbytes)
   rw [hr] at h2
   injection h2 with e1 e2
   subst e1 e2
   exact .inr ⟨_, rfl, Nat.le_refl _, Qj3 _ _ _⟩
namespace Kd
section
variable {α : Type} {P : Program} {ops : Array Oper} {rest : List Oper} {o : Oper} {a : Act} {Q' : Exit → Act → World → Prop}
theorem Qds {Kc : Act → World → Prop} {N : Option Tmp} (hN : o.dst = N) (d : Kd α) {w0 W : World} (base : Nat) (hw : Region.wanted o (yielded ops a.tmps) = true) (s x : Operand) (t e : TypeId) (z : Value) (bytes : Nat)
  (ho : o.op = .call { callee := .builtin .append, args := #[s, x], argTypes := #[t, t] })
  (ht : P.underlying t = some (.slice e)) (hinfo : (P.info? e).map (fun i => (i.zero, i.size, i.bytes)) = some (some z, d.sz, bytes)) (hz : z.cells.size = d.sz) (hs0 : 0 < d.sz) (hb0 : 0 < bytes)
  (v : Value) (xs : List α) (p : α) (cs : List Value) (ok okp : Nat → Prop) (hs : a.eval s = v) (a0 : Addr) (c0 : Nat) (hx : a.eval x = .slice (some a0) 1 c0) (hnews : ∀ j u, cs[j]? = some u → W.cell? (a0.add j) = some u) (hp : d.M W base okp p cs) (hokp : ∀ k, okp k → ok k ∧ some k ≠ v.ownBlock) (hfresh : ∀ k, W.heap.size ≤ k → ok k)
  (HO : d.R e W base ok v xs) (HB : Below base w0 W) (hbase : base ≤ W.heap.size) (hl : (xs.length + 1) * bytes ≤ 140737488355328)
  (h : ∀ v1 w1, d.R e w1 base ok v1 (xs ++ [p]) → Below base w0 w1 → Went W w1 v v1 xs.length → Kc (a.put N v1) w1) :
  if Region.wanted o (yielded ops a.tmps) = true then Oper.wp P o a W Kc Q' else Kc (a.put N undef) W := by
 subst hN
 rw [if_pos hw]
 obtain ⟨h0, inner, hown, hr⟩ := HO
 obtain ⟨i0, hi, hzz⟩ := Option.map_eq_some_iff.1 hinfo
 simp only [Prod.mk.injEq] at hzz
 obtain ⟨hz0, hz1, hz2⟩ := hzz
 have hcl := d.K_len (d.K_of_M hp)
 obtain ⟨v1, w1, hrun, hq1, hwent⟩ := Qo5 (P := P) W base t o.type e i0 z d.sz bytes ht hi hz0 hz1 hz2 hz hs0 v xs.length inner hown a0 c0 cs hcl hnews (d.K_one (d.K_of_M hp)) hb0 hl hbase
 unfold Oper.wp execOp
 simp only [ho, resolve, invoke, builtin, Sem.run_bind, Sem.run_pure, Result.andThen_ok, List.map_toArray, List.map_cons, List.map_nil, hs, hx, hrun]
 exact h v1 w1 (Qiz h0 hr hp hokp hfresh hq1 hwent.grown hwent.at) (HB.grown hwent.grown hbase (fun k hk => Qhc hown k hk)) hwent
end
section
variable {α : Type} {d : Kd α} {e base : Nat} {ok : Nat → Prop} {W w1 : World} {v : Value} {xs : List α}
theorem Qqm {A : Option Addr} {n c : Nat} (hE : d.E = []) (h : d.R e W base ok (.slice A n c) xs) : F d W (fun k => (Value.slice A n c).ownBlock = some k) A xs.length xs := by
 intro W' hW'
 exact (Qd3 (Qke (Qoj hE h) (fun k hk hlt => hW' k hk.symm hlt))).2.2
end
end Kd
end Go.Proofs.YtbdcndkafaajpaaW.PrintWords
end
section
namespace Go.Proofs.Ytbdcndkafaajpaa.A
open Go.RowKit Ytbdcndkafaajpaa.X YtbdcndkafaajpaaW.PrintWords YtbdcndkafaajpaaW.PrintLast YtbdcndkafaajpaaW.PrintMore
open Ytbdcndkafaajpaa.P (Nd EO Res hd isT isM Qar mxl comb mk1)
theorem Qlx (l : List Int) (x : Int) : mxl (l ++ [x]) = max (mxl l) x := by unfold mxl; rw [List.foldl_append]; rfl
theorem Qp5 {l : List Int} (h : ∀ d ∈ l, 0 ≤ d ∧ d ≤ 100) : 0 ≤ mxl l ∧ mxl l ≤ 100 := by
 have key : ∀ (l : List Int) (a : Int), (∀ d ∈ l, 0 ≤ d ∧ d ≤ 100) → 0 ≤ a → a ≤ 100 → 0 ≤ l.foldl max a ∧ l.foldl max a ≤ 100 := by
  intro l
  induction l with
  | nil => intro a _ h0 h1; exact ⟨h0, h1⟩
  | cons x t ih =>
   intro a h h0 h1
   rw [List.foldl_cons]
   have := h x (by simp)
   exact ih _ (fun d hd => h d (by simp [hd])) (by omega) (by omega)
 exact key l 0 h (by omega) (by omega)
def left : Value → Nat
 | .int _ i => i.toNat
 | _ => 0
theorem Qj0 (i n : Nat) (hn : n ≤ 9223372036854775807) (h : i < n) : wrap64 ((i : Int) + 1) = ((i + 1 : Nat) : Int) := by unfold wrap64; omega
theorem Qkz (i n : Nat) (hn : n ≤ 9223372036854775807) (h : i < n) : n - (wrap64 ((i : Int) + 1)).toNat < n - ((i : Nat) : Int).toNat := by
 rw [Qj0 i n hn h, Int.toNat_natCast, Int.toNat_natCast]; omega
section
variable {W W' w2 : World} {A : Option Addr} {c : Nat} {L : List Tk} {g : Nat} {q : Q3} {lev : Int} {vn vd : Value} {ns : List Nd} {dp dp0 dp1 : List Int}
theorem IsE.app6 (h : IsE W A c L g q lev vn ns vd dp) (hB : Below W.heap.size W W') {v0 v1 : Value} (hv : v0.ownBlock = vd.ownBlock) (hr : RI W' g v0 dp0) {n : Nat} (hw : Went W' w2 v0 v1 n) (ho : RI w2 g v1 dp1) :
  IsE (w2.setCell ⟨g, 6, none⟩ v1) A c L g q lev vn ns v1 dp1 ∧ Hv W (w2.setCell ⟨g, 6, none⟩ v1) g vn vd vn v1 := by
 have hg := hw.grown
 have h2 := h.below hB
 have hne : some g ≠ v0.ownBlock := Kd.R_ne hr h2.p.blk (by decide)
 have hP : IsP w2 A c L g q (.int .i64 lev) vn vd := ⟨Qbh h2.p.blk hg hne, Kd.Qfz h2.p.row hg (fun k hk e => by have := Kd.Qfe hr k e.symm; omega), h2.p.lt, h2.p.cap⟩
 have hn : RN w2 g vn ns := Kd.Ql8 h2.n hr (by decide) hg
 have hgs := Qbg w2 g 6 v1
 have hsz := hB.size
 have hgl := h.p.glt
 refine ⟨⟨hP.set 6 v1 rfl hP.lt, RN.Qd0 hn hgs ⟨_, hP.blk⟩, RI.Qd0 ho hgs ⟨_, hP.blk⟩⟩, ⟨?_, fun k hk h1 h2' h3 => ?_, .inl rfl, ?_⟩⟩
 ·exact (((hB.mono (by omega)).grown hg (by omega) (fun k hk => Kd.Qfe hr k hk))).setCell (p := ⟨g, 6, none⟩) (Nat.le_refl _) _
 ·rw [Below.heap_setCell w2 ⟨g, 6, none⟩ v1 k h1, hg.block k (by omega) (fun e => h3 (by rw [← hv]; exact e.symm)), hB.block k hk]
 ·rcases hw.at with a | ⟨b, a, hb⟩
  ·exact .inl (a.trans hv)
  ·exact .inr ⟨b, a, by omega⟩
theorem IsE.app5 (h : IsE W A c L g q lev vn ns vd dp) (hB : Below W.heap.size W W') {v1 : Value} {ns1 : List Nd} {n : Nat} (hw : Went W' w2 vn v1 n) (ho : RN w2 g v1 ns1) :
  IsE (w2.setCell ⟨g, 5, none⟩ v1) A c L g q lev v1 ns1 vd dp ∧ Hv W (w2.setCell ⟨g, 5, none⟩ v1) g vn vd v1 vd := by
 have hg := hw.grown
 have h2 := h.below hB
 have hne : some g ≠ vn.ownBlock := Kd.R_ne h2.n h2.p.blk (by decide)
 have hP : IsP w2 A c L g q (.int .i64 lev) vn vd := ⟨Qbh h2.p.blk hg hne, Kd.Qfz h2.p.row hg (fun k hk e => by have := Kd.Qfe h2.n k e.symm; omega), h2.p.lt, h2.p.cap⟩
 have hd : RI w2 g vd dp := Kd.Ql8 h2.d h2.n (by decide) hg
 have hgs := Qbg w2 g 5 v1
 have hsz := hB.size
 have hgl := h.p.glt
 refine ⟨⟨hP.set 5 v1 rfl hP.lt, RN.Qd0 ho hgs ⟨_, hP.blk⟩, RI.Qd0 hd hgs ⟨_, hP.blk⟩⟩, ⟨?_, fun k hk h1 h2' h3 => ?_, ?_, .inl rfl⟩⟩
 ·exact (((hB.mono (by omega)).grown hg (by omega) (fun k hk => Kd.Qfe h2.n k hk))).setCell (p := ⟨g, 5, none⟩) (Nat.le_refl _) _
 ·rw [Below.heap_setCell w2 ⟨g, 5, none⟩ v1 k h1, hg.block k (by omega) (fun e => h2' e.symm), hB.block k hk]
 ·rcases hw.at with a | ⟨b, a, hb⟩
  ·exact .inl a
  ·exact .inr ⟨b, a, by omega⟩
end
theorem Qdt {W : World} {b : Nat} {n : Nd} (h : W.heap[b]? = some (.cells #[.int .i64 n.f0, .int .i64 n.f1, .int .u64 n.f2, .string n.f3, .int .i64 n.f4] 49 (0, 0))) :
  W.cell? ⟨b, 0, none⟩ = some (.int .i64 n.f0) ∧ W.cell? ⟨b, 1, none⟩ = some (.int .i64 n.f1) ∧ W.cell? ⟨b, 2, none⟩ = some (.int .u64 n.f2) ∧ W.cell? ⟨b, 3, none⟩ = some (.string n.f3) ∧ W.cell? ⟨b, 4, none⟩ = some (.int .i64 n.f4) :=
 ⟨(Qac h 0).trans rfl, (Qac h 1).trans rfl, (Qac h 2).trans rfl, (Qac h 3).trans rfl, (Qac h 4).trans rfl⟩
def putS (n : Nd) (ts : List Tk) (lev : Nat) (ns : List Nd) (dp0 ks : List Int) : Sg :=
 if mxl ks + 1 > 100 then .bad 91 n.f4 else .ok ts lev (ns ++ [n]) (dp0 ++ [mxl ks + 1])
theorem Qf2 (w : World) (A : Option Addr) (c : Nat) (L : List Tk) (g : Nat) (vn vd : Value) (e pl : Int) (n : Nd) (kids : Int) (h : Is w A c L g vn vd (.bad e pl)) :
  Calls Try.prog 74 #[.pointer (some ⟨g, 0, none⟩), .agg #[.int .i64 n.f0, .int .i64 n.f1, .int .u64 n.f2, .string n.f3, .int .i64 n.f4], .int .i64 kids] w fun e' w' => e' = .returned (.tuple #[]) ∧ Is w' A c L g vn vd (.bad e pl) ∧ Below w.heap.size w w' := by
 obtain ⟨q, lev, ns, dp, h1, h2, h0, h3⟩ := h
 have HB := J0.m (Qab (Below.refl w.heap.size w) (.cells #[.int .i64 n.f0, .int .i64 n.f1, .int .u64 n.f2, .string n.f3, .int .i64 n.f4] 49))
 have HE := J0.m (h3.below HB.o)
 have y2 := HE.o.p.c2
 have d1 : (q.fl != 0) = true := bne_iff_ne.2 (by rw [h1]; exact h0)
 have H1 := J0.m h1
 have H2 := J0.m h2
 have H0 := J0.m h0
 clear h1 h2 h0 h3
 go_enter Try.func74, Try.ntmps74
 go_wp2
 refine bodyPost_ret (results_none rfl _ _ _) rfl ?_
 exact ⟨rfl, ⟨q, lev, ns, dp, H1.o, H2.o, H0.o, HE.o⟩, HB.o⟩
theorem Qf0 (w : World) (A : Option Addr) (c : Nat) (L : List Tk) (g : Nat) (vn vd : Value) (ts : List Tk) (lev : Nat) (ns : List Nd) (dp0 ks : List Int) (n : Nd) (h : Is w A c L g vn vd (.ok ts lev ns (dp0 ++ ks))) (hz : ns.length + 1 + ts.length ≤ 33554432) :
  Calls Try.prog 74 #[.pointer (some ⟨g, 0, none⟩), .agg #[.int .i64 n.f0, .int .i64 n.f1, .int .u64 n.f2, .string n.f3, .int .i64 n.f4], .int .i64 (ks.length : Int)] w fun e' w' => e' = .returned (.tuple #[]) ∧ ∃ vn' vd', Is w' A c L g vn' vd' (putS n ts lev ns dp0 ks) ∧ Hv w w' g vn vd vn' vd' := by
 obtain ⟨q, h1, h2, h3, h4⟩ := h
 obtain ⟨Ad, cd, hvd⟩ := Kd.Qcp h3.d
 subst hvd
 obtain ⟨An, cn, hvn⟩ := Kd.Qcp h3.n
 subst hvn
 obtain ⟨W0, hW0⟩ : ∃ W0, W0 = w.alloc (.cells #[.int .i64 n.f0, .int .i64 n.f1, .int .u64 n.f2, .string n.f3, .int .i64 n.f4] 49) := ⟨_, rfl⟩
 obtain ⟨b, hb⟩ : ∃ b, b = w.heap.size := ⟨_, rfl⟩
 have hB0 : Below w.heap.size w W0 := by rw [hW0]; exact Qab (Below.refl _ _) _
 have hbx : W0.heap[b]? = some (.cells #[.int .i64 n.f0, .int .i64 n.f1, .int .u64 n.f2, .string n.f3, .int .i64 n.f4] 49 (0, 0)) := by rw [hW0, hb]; exact Qay _ _
 have HW0 := J0.m hW0
 have HB := J0.m hb
 have HB0 := J0.m hB0
 have HNB : J0 (∀ k, (Value.slice An ns.length cn).ownBlock = some k → k < b) := ⟨fun k hk => by rw [hb]; exact Kd.R_lt h3.n k hk⟩
 have HGB0 : J0 (g < b) := ⟨by rw [hb]; exact h3.p.glt⟩
 have HE := J0.m (h3.below hB0)
 have HX := J0.m hbx
 have y2 := HE.o.p.c2
 have y6 := HE.o.p.c6
 rw [h1] at y2
 obtain ⟨hn6, hc6, hC6⟩ := Kd.Qd3 HE.o.d
 have hlen : (dp0 ++ ks).length = dp0.length + ks.length := List.length_append
 obtain ⟨NN, hNN⟩ : ∃ NN, NN = (dp0 ++ ks).length := ⟨_, rfl⟩
 rw [← hNN] at y6 hc6
 have hNN2 : NN = dp0.length + ks.length := by rw [hNN, hlen]
 obtain ⟨A', hA'⟩ : ∃ A', A' = (if cd = dp0.length then Ad else Ad.map (·.add (dp0.length * 1))) := ⟨_, rfl⟩
 have hCD : Kd.C (Kd.int .i64) W0 A' ks.length ks := by
  have h := Kd.C_drop hC6 (m := dp0.length) (by rw [hlen]; omega) (by rw [← hNN]; exact hc6)
  rw [List.drop_left] at h
  rw [hA']; exact h
 obtain ⟨i0, hi0, hzz⟩ := Option.map_eq_some_iff.1 Qrf
 simp only [Prod.mk.injEq] at hzz
 have hsl := Qpq (P := Try.prog) 40 3 .i64 Try.underlying40 hi0 1 hzz.2.1 Ad NN cd (dp0.length : Int) (by omega) (by omega)
 rw [Int.toNat_natCast, ← hA', show NN - dp0.length = ks.length by omega] at hsl
 have hct := cut_to (P := Try.prog) 40 3 .i64 Try.underlying40 hi0 Ad NN cd (dp0.length : Int) (by omega) (by omega) hc6
 rw [Int.toNat_natCast] at hct
 have HCT := J0.m hct
 clear hct
 have hdl := h4.dl
 have hsz := h4.sz
 have HDL : J0 (dp0.length + ks.length ≤ 33554432) := ⟨by rw [← hlen]; omega⟩
 have HCD := J0.m hCD
 have HNN := J0.m hNN2
 have HNE := J0.m hNN
 have s1 : wrap64 ((NN : Int) - (ks.length : Int)) = (dp0.length : Int) := by have := HDL.o; unfold wrap64; omega
 have Y6 := J0.m y6
 rw [hW0] at y2 y6
 have H1 := J0.m h1
 have H2 := J0.m h2
 have H4 := J0.m h4
 have HZ := J0.m hz
 have HC6 := J0.m hC6
 have HK := J0.m hc6
 clear h1 h2 h3 h4 hz hW0 hB0 hbx hn6 hC6 hdl hsz hlen hNN hNN2 hA' hCD hi0 hzz hb
 go_enter Try.func74, Try.ntmps74
 go_wp2
 rw [← HW0.o, ← HB.o]
 have y6 := Y6.o
 go_quiet (fail)
 go_wp2
 clear hsl s1 y2 y6
 go_loop [6, 27] (fun td ti => ∃ i : Nat, ti = .int .i64 (i : Int) ∧ td = .int .i64 (mxl (ks.take i)) ∧ J0 (i ≤ ks.length)) (fun _ ti => ks.length - left ti)
 case atStart => exact ⟨0, rfl, rfl, ⟨Nat.zero_le _⟩⟩
 case round =>
  obtain ⟨i, rfl, rfl, hi⟩ := hrel
  by_cases ci : i < ks.length
  ·have d1 : decide ((i : Int) < (ks.length : Int)) = true := decide_eq_true (by omega)
   have d2 : decide (i < ks.length) = true := decide_eq_true ci
   have HW := J0.m (Qj0 i ks.length (by have := HDL.o; omega) ci)
   have ML := J0.m (Qkz i ks.length (by have := HDL.o; omega) ci)
   have HCQ := Kd.Qr2 HCD.o nq
   obtain ⟨ad, had, hx⟩ := Kd.Qqf HCQ (i : Int) (by omega) (by omega)
   rw [Int.toNat_natCast] at hx
   have HS : J0 (mxl (ks.take (i + 1)) = max (mxl (ks.take i)) (rd ks (i : Int))) := ⟨by
    rw [List.take_succ_eq_append_getElem ci, Qlx]
    congr 1
    unfold rd; rw [Int.toNat_natCast, List.getD_eq_getElem?_getD, List.getElem?_eq_getElem ci]; rfl⟩
   obtain ⟨m1, hm1⟩ : ∃ m1, m1 = mxl (ks.take i) := ⟨_, rfl⟩
   obtain ⟨m2, hm2⟩ : ∃ m2, m2 = rd ks (i : Int) := ⟨_, rfl⟩
   rw [← hm2] at hx
   rw [← hm1, ← hm2] at HS
   rw [← hm1]
   subst had
   clear hm1 hm2 HCQ
   go_wp2
   exact ⟨⟨i + 1, by rw [HW.o], by rw [HS.o], ⟨by omega⟩⟩, ML.o⟩
  ·have d1 : decide ((i : Int) < (ks.length : Int)) = false := decide_eq_false (by omega)
   have d2 : decide (i < ks.length) = false := decide_eq_false ci
   obtain rfl : i = ks.length := by have := hi.o; omega
   rw [List.take_length]
   have hbd := Qp5 (fun d hd => H4.o.d0 d (List.mem_append_right _ hd))
   obtain ⟨M, hM⟩ : ∃ M, M = mxl ks := ⟨_, rfl⟩
   rw [← hM] at hbd ⊢
   obtain ⟨m0, m1⟩ := hbd
   have HM := J0.m hM
   have HE1 := J0.m (HE.o.below (Qad (Below.refl _ _) nq))
   have HX1 := J0.m (Qag HX.o nq)
   have HGR : J0 (w.grownBy (W0.drewN nq) (some g)) := ⟨Qaj (Qak HB0.o (Qad (Below.refl _ _) nq)) _⟩
   have HGB := HGB0
   clear hM ci
   by_cases cm : 100 < M + 1
   ·have e1 : decide (100 < M + 1) = true := decide_eq_true cm
    have e2 : decide (100 ≤ M) = true := decide_eq_true (by omega)
    have HP : J0 (putS n ts lev ns dp0 ks = .bad 91 n.f4) := ⟨by unfold putS; rw [← HM.o, if_pos cm]⟩
    have HFL := J0.m (Qcs (W0.drewN nq) A c L g q _ _ _ 91 n.f4 HE1.o.p)
    have x4 : (W0.drewN nq).cell? ⟨b, 4, none⟩ = some (.int .i64 n.f4) := (Qac HX1.o 4).trans rfl
    clear cm
    go_wp2_with fail
    refine HFL.o.mono ?_
    rintro e w1 ⟨rfl, hp⟩
    have HP1 := J0.m (show Post (W0.drewN nq) w1 A c L g (Qcy 91 n.f4 q) _ _ _ from hp)
    clear hp
    go_wp2
    refine bodyPost_ret (results_none rfl _ _ _) rfl ?_
    rw [HP.o]
    refine ⟨rfl, _, _, ⟨_, _, ns, dp0 ++ ks, by unfold Qcy; rw [if_pos H1.o], by unfold Qcy; rw [if_pos H1.o], by decide, HE1.o.Qd0 HP1.o⟩, Hv.Qa6 (HGR.o.trans HP1.o.g) (by have := HGB.o; have := HB.o; omega)⟩
   ·have e1 : decide (100 < M + 1) = false := decide_eq_false cm
    have e2 : decide (100 ≤ M) = false := decide_eq_false (by omega)
    have HP : J0 (putS n ts lev ns dp0 ks = .ok ts lev (ns ++ [n]) (dp0 ++ [M + 1])) := ⟨by unfold putS; rw [← HM.o, if_neg cm]⟩
    have HCM : J0 (0 ≤ M ∧ M + 1 ≤ 100) := ⟨⟨m0, by omega⟩⟩
    clear cm
    have y6 := HE1.o.p.c6
    have y6b : (W0.drewN nq).drew.cell? ⟨g, 6, none⟩ = some (.slice Ad NN cd) := by rw [HNE.o]; exact y6
    have s1 : wrap64 ((NN : Int) - (ks.length : Int)) = (dp0.length : Int) := by have := HDL.o; have := HNN.o; unfold wrap64; omega
    have q1 : dp0.length ≤ cd := by have := HK.o; have := HNN.o; omega
    have q2 : (dp0.length : Int) ≤ (cd : Int) := by omega
    have HRD : J0 (RI (W0.drewN nq) g (.slice Ad dp0.length cd) dp0) := ⟨by
     have h := Kd.Qqi HE1.o.d (m := dp0.length) (by rw [List.length_append]; omega)
     rwa [List.take_left] at h⟩
    have y6c := y6b
    obtain ⟨W1, hW1⟩ : ∃ W1, W1 = W0.drewN nq := ⟨_, rfl⟩
    rw [← hW1] at HE1 HX1 HGR HRD y6b
    clear y6 y6c
    go_wp2
    rw [← hW1]
    clear hW1
    have hct := HCT.o
    have s2 : IntKind.i64.wrap ((NN : Int) - (ks.length : Int)) = (dp0.length : Int) := by have := HDL.o; have := HNN.o; rw [IntKind.wrap_i64]; omega
    have s3 : IntKind.i64.wrap (M + 1) = M + 1 := by rw [IntKind.wrap_i64]; omega
    have HGL : J0 (g ≤ W1.heap.size) := ⟨by have := HE1.o.p.glt; omega⟩
    have y6d : (W1.alloc (.cells #[.int .i64 (M + 1)] 3)).drew.cell? ⟨g, 6, none⟩ = some (.slice Ad NN cd) := by rw [HNE.o]; exact (HE1.o.p.below (Qab (Below.refl _ _) _)).c6
    refine Qfr (n := 20) (S := fun w' => w'.cell? ⟨g, 6, none⟩ = some (.slice Ad NN cd)) (ds := [19]) #[false, false, false, false, false, false, false, false, false, false, false, false, false, false, false, false, false, false, false, false] (by kernel_rfl) rfl rfl (y6b) (fun hHeld => ?_)
    refine Qcd (i := 0) (N := some 42) (v := ?_) (a' := ?_) #[true, false, false, false, false, false, false, false, false, false, false, false, false, false, false, false, false, false, false, false] rfl rfl (by kernel_rfl) (fun _ _ _ h => h) (Or.inl ⟨by rfl, ?_⟩) ?_ ?_
    rotate_left
    ·intro w'
     go_simp
     with_reducible rfl
    rotate_left
    ·simp only [Act.put, List.setIfInBounds_toArray, List.set_cons_zero, List.set_cons_succ, Qbj, Qbp]
     rfl
    refine Qcd (i := 1) (N := some 43) (v := ?_) (a' := ?_) #[true, true, false, false, false, false, false, false, false, false, false, false, false, false, false, false, false, false, false, false] rfl rfl (by kernel_rfl) (fun _ _ _ h => h) (Or.inl ⟨by rfl, ?_⟩) ?_ ?_
    rotate_left
    ·intro w'
     go_simp
     with_reducible rfl
    rotate_left
    ·simp only [Act.put, List.setIfInBounds_toArray, List.set_cons_zero, List.set_cons_succ, Qbj, Qbp]
     rfl
    refine Qcd (i := 2) (N := some 44) (v := ?_) (a' := ?_) #[true, true, true, false, false, false, false, false, false, false, false, false, false, false, false, false, false, false, false, false] rfl rfl (by kernel_rfl) (fun _ _ _ h => h) (Or.inl ⟨by rfl, ?_⟩) ?_ ?_
    rotate_left
    ·intro w'
     go_simp
     with_reducible rfl
    rotate_left
    ·simp only [Act.put, List.setIfInBounds_toArray, List.set_cons_zero, List.set_cons_succ, Qbj, Qbp]
     rfl
    refine Qcd (i := 3) (N := some 45) (v := ?_) (a' := ?_) #[true, true, true, true, false, false, false, false, false, false, false, false, false, false, false, false, false, false, false, false] rfl rfl (by kernel_rfl) (fun _ _ _ h => h) (Or.inl ⟨by rfl, ?_⟩) ?_ ?_
    rotate_left
    ·intro w'
     go_simp
     with_reducible rfl
    rotate_left
    ·simp only [Act.put, List.setIfInBounds_toArray, List.set_cons_zero, List.set_cons_succ, Qbj, Qbp]
     rfl
    refine Qge (i := 4) (N := some 46) (v := ?_) (a' := ?_) #[true, true, true, true, true, false, false, false, false, false, false, false, false, false, false, false, false, false, false, false] rfl rfl (by kernel_rfl) (fun _ _ _ h => h) (Or.inl ⟨by rfl, ?_⟩) hHeld ?_ ?_
    rotate_left
    ·intro w' hS'
     have y_ := hS'
     go_simp
     with_reducible rfl
    rotate_left
    ·simp only [Act.put, List.setIfInBounds_toArray, List.set_cons_zero, List.set_cons_succ, Qbj, Qbp]
     rfl
    refine Qcd (i := 5) (N := some 47) (v := ?_) (a' := ?_) #[true, true, true, true, true, true, false, false, false, false, false, false, false, false, false, false, false, false, false, false] rfl rfl (by kernel_rfl) (fun _ _ _ h => h) (Or.inl ⟨by rfl, ?_⟩) ?_ ?_
    rotate_left
    ·intro w'
     go_simp
     with_reducible rfl
    rotate_left
    ·simp only [Act.put, List.setIfInBounds_toArray, List.set_cons_zero, List.set_cons_succ, Qbj, Qbp]
     rfl
    refine Qcd (i := 6) (N := some 48) (v := ?_) (a' := ?_) #[true, true, true, true, true, true, true, false, false, false, false, false, false, false, false, false, false, false, false, false] rfl rfl (by kernel_rfl) (fun _ _ _ h => h) (Or.inl ⟨by rfl, ?_⟩) ?_ ?_
    rotate_left
    ·intro w'
     go_simp
     with_reducible rfl
    rotate_left
    ·simp only [Act.put, List.setIfInBounds_toArray, List.set_cons_zero, List.set_cons_succ, Qbj, Qbp]
     rfl
    refine Qcd (i := 7) (N := some 49) (v := ?_) (a' := ?_) #[true, true, true, true, true, true, true, true, false, false, false, false, false, false, false, false, false, false, false, false] rfl rfl (by kernel_rfl) (fun _ _ _ h => h) (Or.inl ⟨by rfl, ?_⟩) ?_ ?_
    rotate_left
    ·intro w'
     go_simp
     with_reducible rfl
    rotate_left
    ·simp only [Act.put, List.setIfInBounds_toArray, List.set_cons_zero, List.set_cons_succ, Qbj, Qbp]
     rfl
    refine Qge (i := 8) (N := some 50) (v := ?_) (a' := ?_) #[true, true, true, true, true, true, true, true, true, false, false, false, false, false, false, false, false, false, false, false] rfl rfl (by kernel_rfl) (fun _ _ _ h => h) (Or.inl ⟨by rfl, ?_⟩) hHeld ?_ ?_
    rotate_left
    ·intro w' hS'
     have y_ := hS'
     go_simp
     with_reducible rfl
    rotate_left
    ·simp only [Act.put, List.setIfInBounds_toArray, List.set_cons_zero, List.set_cons_succ, Qbj, Qbp]
     rfl
    refine Qcd (i := 9) (N := some 51) (v := ?_) (a' := ?_) #[true, true, true, true, true, true, true, true, true, true, false, false, false, false, false, false, false, false, false, false] rfl rfl (by kernel_rfl) (fun _ _ _ h => h) (Or.inl ⟨by rfl, ?_⟩) ?_ ?_
    rotate_left
    ·intro w'
     go_simp
     with_reducible rfl
    rotate_left
    ·simp only [Act.put, List.setIfInBounds_toArray, List.set_cons_zero, List.set_cons_succ, Qbj, Qbp]
     rfl
    refine Qcd (i := 10) (N := some 52) (v := ?_) (a' := ?_) #[true, true, true, true, true, true, true, true, true, true, true, false, false, false, false, false, false, false, false, false] rfl rfl (by kernel_rfl) (fun _ _ _ h => h) (Or.inl ⟨by rfl, ?_⟩) ?_ ?_
    rotate_left
    ·intro w'
     go_simp
     with_reducible rfl
    rotate_left
    ·simp only [Act.put, List.setIfInBounds_toArray, List.set_cons_zero, List.set_cons_succ, Qbj, Qbp]
     rfl
    refine Qcd (i := 11) (N := some 53) (v := ?_) (a' := ?_) #[true, true, true, true, true, true, true, true, true, true, true, true, false, false, false, false, false, false, false, false] rfl rfl (by kernel_rfl) (fun _ _ _ h => h) (Or.inl ⟨by rfl, ?_⟩) ?_ ?_
    rotate_left
    ·intro w'
     go_simp
     with_reducible rfl
    rotate_left
    ·simp only [Act.put, List.setIfInBounds_toArray, List.set_cons_zero, List.set_cons_succ, Qbj, Qbp]
     rfl
    refine Qcd (i := 12) (N := some 54) (v := ?_) (a' := ?_) #[true, true, true, true, true, true, true, true, true, true, true, true, true, false, false, false, false, false, false, false] rfl rfl (by kernel_rfl) (fun _ _ _ h => h) (Or.inl ⟨by rfl, ?_⟩) ?_ ?_
    rotate_left
    ·intro w'
     go_simp
     with_reducible rfl
    rotate_left
    ·simp only [Act.put, List.setIfInBounds_toArray, List.set_cons_zero, List.set_cons_succ, Qbj, Qbp]
     rfl
    refine Qcd (i := 13) (N := some 55) (v := ?_) (a' := ?_) #[true, true, true, true, true, true, true, true, true, true, true, true, true, true, false, false, false, false, false, false] rfl rfl (by kernel_rfl) (fun _ _ _ h => h) (Or.inl ⟨by rfl, ?_⟩) ?_ ?_
    rotate_left
    ·intro w'
     go_simp
     with_reducible rfl
    rotate_left
    ·simp only [Act.put, List.setIfInBounds_toArray, List.set_cons_zero, List.set_cons_succ, Qbj, Qbp]
     rfl
    refine Qcd (i := 14) (N := some 56) (v := ?_) (a' := ?_) #[true, true, true, true, true, true, true, true, true, true, true, true, true, true, true, false, false, false, false, false] rfl rfl (by kernel_rfl) (fun _ _ _ h => h) (Or.inl ⟨by rfl, ?_⟩) ?_ ?_
    rotate_left
    ·intro w'
     go_simp
     with_reducible rfl
    rotate_left
    ·simp only [Act.put, List.setIfInBounds_toArray, List.set_cons_zero, List.set_cons_succ, Qbj, Qbp]
     rfl
    refine one_ (i := 15) (N := some 57) #[true, true, true, true, true, true, true, true, true, true, true, true, true, true, true, true, false, false, false, false] rfl rfl (by kernel_rfl) (by decide) (fun K hK => ?_)
    refine Qf7 (w1 := ?_) (v := ?_) (by rfl) rfl ?_ ?_
    rotate_left 2
    ·go_simp
     first | rfl | (constructor <;> rfl)
    refine hK.out _ _ (y6d) (fun hHeld => ?_)
    clear hK K
    refine one_ (i := 16) (N := some 58) #[true, true, true, true, true, true, true, true, true, true, true, true, true, true, true, true, true, false, false, false] rfl rfl (by kernel_rfl) (by decide) (fun K hK => ?_)
    refine Kd.Qds (N := some 58) rfl (Kd.int .i64) (w0 := W1) g (by rfl) (.tmp 54) (.tmp 57) 40 3 (.int .i64 0) 8 rfl Try.underlying40 Qrf rfl (by decide) (by omega) (.slice Ad dp0.length cd) dp0 (M + 1) [.int .i64 (M + 1)] (fun _ => True) (fun _ => False) (by rfl) ⟨W1.heap.size, 0, none⟩ 1 (by rfl) (World.news_of_block (cs := #[.int .i64 (M + 1)]) (t := 3) (fr := (0, 0)) (heap_alloc_new _ _)) (show Kd.M (Kd.int .i64) _ _ _ (M + 1) [.int .i64 (M + 1)] from rfl) (fun _ hk => hk.elim) (fun _ _ => trivial) (Kd.Qb4 HRD.o (by repeat (first | exact Below.refl _ _ | apply Qab | apply Qad | apply Qaf))) (by repeat (first | exact Below.refl _ _ | apply Below.drew | (refine Below.alloc ?_ HGL.o _))) (by have := HGL.o; simp; omega) (by have := HDL.o; omega) ?_
    intro v1 w2 ho hb hw
    obtain ⟨Av, cv, hv1⟩ := Kd.Qcp ho
    rw [List.length_append, List.length_singleton] at hv1
    subst hv1
    have HO2 := J0.m ho
    have HB2 := J0.m hb
    have HWT := J0.m hw
    have hgg := hw.grown
    have hP2 := (Qbh (Qai (HE1.o.p.below (Qab (Below.refl W1.heap.size W1) (.cells #[.int .i64 (M + 1)] 3))).blk) hgg (Kd.R_ne (Kd.Qb4 HRD.o (Qaf (Qab (Below.refl W1.heap.size W1) (.cells #[.int .i64 (M + 1)] 3)))) (Qai (HE1.o.p.below (Qab (Below.refl W1.heap.size W1) (.cells #[.int .i64 (M + 1)] 3))).blk) (by decide)))
    have f6e := Qaa hP2 6
    have HP2 := J0.m hP2
    have y6e : w2.cell? ⟨g, 6, none⟩ = some (.slice Ad NN cd) := (by have h1 := (HE1.o.p.below (Qab (Below.refl W1.heap.size W1) (.cells #[.int .i64 (M + 1)] 3))); have h2 := (Qbh (Qai h1.blk) hgg (Kd.R_ne (Kd.Qb4 HRD.o (Qaf (Qab (Below.refl W1.heap.size W1) (.cells #[.int .i64 (M + 1)] 3)))) (Qai h1.blk) (by decide))); rw [HNE.o]; exact (Qac h2 6).trans rfl)
    clear ho hb hw hgg hP2
    refine hK.out _ _ (y6e) (fun hHeld => ?_)
    clear hK K
    refine Qcd (i := 17) (N := some 59) (v := ?_) (a' := ?_) #[true, true, true, true, true, true, true, true, true, true, true, true, true, true, true, true, true, true, false, false] rfl rfl (by kernel_rfl) (fun _ _ _ h => h) (Or.inl ⟨by rfl, ?_⟩) ?_ ?_
    rotate_left
    ·intro w'
     go_simp
     with_reducible rfl
    rotate_left
    ·simp only [Act.put, List.setIfInBounds_toArray, List.set_cons_zero, List.set_cons_succ, Qbj, Qbp]
     rfl
    refine Qcd (i := 18) (N := some 60) (v := ?_) (a' := ?_) #[true, true, true, true, true, true, true, true, true, true, true, true, true, true, true, true, true, true, true, false] rfl rfl (by kernel_rfl) (fun _ _ _ h => h) (Or.inl ⟨by rfl, ?_⟩) ?_ ?_
    rotate_left
    ·intro w'
     go_simp
     with_reducible rfl
    rotate_left
    ·simp only [Act.put, List.setIfInBounds_toArray, List.set_cons_zero, List.set_cons_succ, Qbj, Qbp]
     rfl
    refine Qil (i := 19) (N := none) #[true, true, true, true, true, true, true, true, true, true, true, true, true, true, true, true, true, true, true, true] rfl rfl (by kernel_rfl) (by decide) (fun K hK => ?_)
    skip
    refine Qgz (w1 := ?_) (by rfl) rfl ?_ ?_
    rotate_left
    ·go_simp
     first | rfl | (constructor <;> rfl)
    refine hK.out _ _ ?_
    clear hK K
    refine Qh4 (by kernel_rfl) ?_
    have hVD : (Value.slice Ad dp0.length cd).ownBlock = (Value.slice Ad (dp0 ++ ks).length cd).ownBlock := by unfold Value.ownBlock; cases Ad <;> rfl
    have h6 := HE1.o.app6 (Qaf (Qab (Below.refl W1.heap.size W1) (.cells #[.int .i64 (M + 1)] 3))) hVD (Kd.Qb4 HRD.o (Qaf (Qab (Below.refl W1.heap.size W1) (.cells #[.int .i64 (M + 1)] 3)))) HWT.o HO2.o
    obtain ⟨W3, hW3⟩ : ∃ W3, W3 = w2.setCell ⟨g, 6, none⟩ (.slice Av (dp0.length + 1) cv) := ⟨_, rfl⟩
    have hbx3 : W3.heap[b]? = some (.cells #[.int .i64 n.f0, .int .i64 n.f1, .int .u64 n.f2, .string n.f3, .int .i64 n.f4] 49 (0, 0)) := by
     rw [hW3]
     exact h6.2.blk HX1.o (by have := HGB.o; omega) (fun e => by have := HNB.o b e; omega) (fun e => Kd.R_ne HE1.o.d HX1.o (by decide) e.symm)
    have HE3 : J0 (IsE W3 A c L g q (lev : Int) (.slice An ns.length cn) ns (.slice Av (dp0.length + 1) cv) (dp0 ++ [M + 1])) := ⟨by rw [hW3]; exact h6.1⟩
    have HH3 : J0 (Hv W1 W3 g (.slice An ns.length cn) (.slice Ad (dp0 ++ ks).length cd) (.slice An ns.length cn) (.slice Av (dp0.length + 1) cv)) := ⟨by rw [hW3]; exact h6.2⟩
    have HX3 := J0.m hbx3
    have HBZ : J0 (Below W3.heap.size W3 (W3.alloc (.cells #[.int .i64 n.f0, .int .i64 n.f1, .int .u64 n.f2, .string n.f3, .int .i64 n.f4] 49)).drew) := ⟨Qaf (Qab (Below.refl _ _) _)⟩
    have hS0 : (fun w' : World => w'.cell? ⟨g, 5, none⟩ = some (.slice An ns.length cn) ∧ w'.cell? ⟨b, 0, none⟩ = some (.int .i64 n.f0) ∧ w'.cell? ⟨b, 1, none⟩ = some (.int .i64 n.f1) ∧ w'.cell? ⟨b, 2, none⟩ = some (.int .u64 n.f2) ∧ w'.cell? ⟨b, 3, none⟩ = some (.string n.f3) ∧ w'.cell? ⟨b, 4, none⟩ = some (.int .i64 n.f4)) W3.drew := ⟨HE3.o.p.c5, Qdt HX3.o⟩
    have hSB : (fun w' : World => w'.cell? ⟨g, 5, none⟩ = some (.slice An ns.length cn) ∧ w'.cell? ⟨b, 0, none⟩ = some (.int .i64 n.f0) ∧ w'.cell? ⟨b, 1, none⟩ = some (.int .i64 n.f1) ∧ w'.cell? ⟨b, 2, none⟩ = some (.int .u64 n.f2) ∧ w'.cell? ⟨b, 3, none⟩ = some (.string n.f3) ∧ w'.cell? ⟨b, 4, none⟩ = some (.int .i64 n.f4)) (W3.alloc (.cells #[.int .i64 n.f0, .int .i64 n.f1, .int .u64 n.f2, .string n.f3, .int .i64 n.f4] 49)).drew := ⟨(HE3.o.p.below HBZ.o).c5, Qdt (Qae HX3.o HBZ.o)⟩
    have hu49 := Try.underlying49
    rw [← hW3]
    clear hW3 h6 hbx3 y6b y6d y6e f6e s1 s2 s3 q1 q2 hct e1 e2
    go_wp2
    refine Qfr (n := 11) (S := fun w' => w'.cell? ⟨g, 5, none⟩ = some (.slice An ns.length cn) ∧ w'.cell? ⟨b, 0, none⟩ = some (.int .i64 n.f0) ∧ w'.cell? ⟨b, 1, none⟩ = some (.int .i64 n.f1) ∧ w'.cell? ⟨b, 2, none⟩ = some (.int .u64 n.f2) ∧ w'.cell? ⟨b, 3, none⟩ = some (.string n.f3) ∧ w'.cell? ⟨b, 4, none⟩ = some (.int .i64 n.f4)) (ds := [10]) #[false, false, false, false, false, false, false, false, false, false, false] (by kernel_rfl) rfl rfl (hS0) (fun hHeld => ?_)
    refine Qcd (i := 0) (N := some 61) (v := ?_) (a' := ?_) #[true, false, false, false, false, false, false, false, false, false, false] rfl rfl (by kernel_rfl) (fun _ _ _ h => h) (Or.inl ⟨by rfl, ?_⟩) ?_ ?_
    rotate_left
    ·intro w'
     go_simp
     with_reducible rfl
    rotate_left
    ·simp only [Act.put, List.setIfInBounds_toArray, List.set_cons_zero, List.set_cons_succ, Qbj, Qbp]
     rfl
    refine Qcd (i := 1) (N := some 62) (v := ?_) (a' := ?_) #[true, true, false, false, false, false, false, false, false, false, false] rfl rfl (by kernel_rfl) (fun _ _ _ h => h) (Or.inl ⟨by rfl, ?_⟩) ?_ ?_
    rotate_left
    ·intro w'
     go_simp
     with_reducible rfl
    rotate_left
    ·simp only [Act.put, List.setIfInBounds_toArray, List.set_cons_zero, List.set_cons_succ, Qbj, Qbp]
     rfl
    refine Qcd (i := 2) (N := some 63) (v := ?_) (a' := ?_) #[true, true, true, false, false, false, false, false, false, false, false] rfl rfl (by kernel_rfl) (fun _ _ _ h => h) (Or.inl ⟨by rfl, ?_⟩) ?_ ?_
    rotate_left
    ·intro w'
     go_simp
     with_reducible rfl
    rotate_left
    ·simp only [Act.put, List.setIfInBounds_toArray, List.set_cons_zero, List.set_cons_succ, Qbj, Qbp]
     rfl
    refine Qcd (i := 3) (N := some 64) (v := ?_) (a' := ?_) #[true, true, true, true, false, false, false, false, false, false, false] rfl rfl (by kernel_rfl) (fun _ _ _ h => h) (Or.inl ⟨by rfl, ?_⟩) ?_ ?_
    rotate_left
    ·intro w'
     go_simp
     with_reducible rfl
    rotate_left
    ·simp only [Act.put, List.setIfInBounds_toArray, List.set_cons_zero, List.set_cons_succ, Qbj, Qbp]
     rfl
    refine Qge (i := 4) (N := some 65) (v := ?_) (a' := ?_) #[true, true, true, true, true, false, false, false, false, false, false] rfl rfl (by kernel_rfl) (fun _ _ _ h => h) (Or.inl ⟨by rfl, ?_⟩) hHeld ?_ ?_
    rotate_left
    ·intro w' hS'
     obtain ⟨y_, yb0, yb1, yb2, yb3, yb4⟩ := hS'
     go_simp
     with_reducible rfl
    rotate_left
    ·simp only [Act.put, List.setIfInBounds_toArray, List.set_cons_zero, List.set_cons_succ, Qbj, Qbp]
     rfl
    refine Qge (i := 5) (N := some 66) (v := ?_) (a' := ?_) #[true, true, true, true, true, true, false, false, false, false, false] rfl rfl (by kernel_rfl) (fun _ _ _ h => h) (Or.inl ⟨by rfl, ?_⟩) hHeld ?_ ?_
    rotate_left
    ·intro w' hS'
     obtain ⟨y_, yb0, yb1, yb2, yb3, yb4⟩ := hS'
     go_simp
     with_reducible rfl
    rotate_left
    ·simp only [Act.put, List.setIfInBounds_toArray, List.set_cons_zero, List.set_cons_succ, Qbj, Qbp]
     rfl
    refine one_ (i := 6) (N := some 67) #[true, true, true, true, true, true, true, false, false, false, false] rfl rfl (by kernel_rfl) (by decide) (fun K hK => ?_)
    refine Qf7 (w1 := ?_) (v := ?_) (by rfl) rfl ?_ ?_
    rotate_left 2
    ·go_simp
     first | rfl | (constructor <;> rfl)
    refine hK.out _ _ (hSB) (fun hHeld => ?_)
    clear hK K
    refine one_ (i := 7) (N := some 68) #[true, true, true, true, true, true, true, true, false, false, false] rfl rfl (by kernel_rfl) (by decide) (fun K hK => ?_)
    refine Kd.Qds (N := some 68) rfl kn (w0 := W3) g (by rfl) (.tmp 65) (.tmp 67) 32 49 (.agg #[.int .i64 0, .int .i64 0, .int .u64 0, .string ⟨#[]⟩, .int .i64 0]) 48 rfl Try.underlying32 infoN rfl (by decide) (by omega) (.slice An ns.length cn) ns n [.int .i64 n.f0, .int .i64 n.f1, .int .u64 n.f2, .string n.f3, .int .i64 n.f4] (fun _ => True) (fun _ => False) (by rfl) ⟨W3.heap.size, 0, none⟩ 1 (by rfl) (World.news_of_block (cs := #[.int .i64 n.f0, .int .i64 n.f1, .int .u64 n.f2, .string n.f3, .int .i64 n.f4]) (t := 49) (fr := (0, 0)) (heap_alloc_new _ _)) (Qp6 _ _ _ n) (fun _ hk => hk.elim) (fun _ _ => trivial) (Kd.Qb4 HE3.o.n HBZ.o) (HBZ.o.mono (by have := HE3.o.p.glt; omega)) (by have := HE3.o.p.glt; have := HBZ.o.size; omega) (by have := HZ.o; omega) ?_
    intro v2 w4 ho hb hw
    obtain ⟨An2, cn2, hv2⟩ := Kd.Qcp ho
    rw [List.length_append, List.length_singleton] at hv2
    subst hv2
    have HO4 := J0.m ho
    have HWT4 := J0.m hw
    have hP4 := Qbh (Qae HE3.o.p.blk HBZ.o) hw.grown (Kd.R_ne (Kd.Qb4 HE3.o.n HBZ.o) (Qae HE3.o.p.blk HBZ.o) (by decide))
    have hX4 := Qbh (Qae HX3.o HBZ.o) hw.grown (fun e => by have := HNB.o b e.symm; omega)
    have f5 := Qaa hP4 5
    have y5e : w4.cell? ⟨g, 5, none⟩ = some (.slice An ns.length cn) := (Qac hP4 5).trans rfl
    obtain ⟨k0, k1, k2, k3, k4⟩ := Qdt hX4
    have hSA := And.intro y5e (And.intro k0 (And.intro k1 (And.intro k2 (And.intro k3 k4))))
    clear ho hb hw hP4 hX4
    refine hK.out _ _ (hSA) (fun hHeld => ?_)
    clear hK K
    refine Qcd (i := 8) (N := some 69) (v := ?_) (a' := ?_) #[true, true, true, true, true, true, true, true, true, false, false] rfl rfl (by kernel_rfl) (fun _ _ _ h => h) (Or.inl ⟨by rfl, ?_⟩) ?_ ?_
    rotate_left
    ·intro w'
     go_simp
     with_reducible rfl
    rotate_left
    ·simp only [Act.put, List.setIfInBounds_toArray, List.set_cons_zero, List.set_cons_succ, Qbj, Qbp]
     rfl
    refine Qcd (i := 9) (N := some 70) (v := ?_) (a' := ?_) #[true, true, true, true, true, true, true, true, true, true, false] rfl rfl (by kernel_rfl) (fun _ _ _ h => h) (Or.inl ⟨by rfl, ?_⟩) ?_ ?_
    rotate_left
    ·intro w'
     go_simp
     with_reducible rfl
    rotate_left
    ·simp only [Act.put, List.setIfInBounds_toArray, List.set_cons_zero, List.set_cons_succ, Qbj, Qbp]
     rfl
    refine Qil (i := 10) (N := none) #[true, true, true, true, true, true, true, true, true, true, true] rfl rfl (by kernel_rfl) (by decide) (fun K hK => ?_)
    skip
    refine Qgz (w1 := ?_) (by rfl) rfl ?_ ?_
    rotate_left
    ·go_simp
     first | rfl | (constructor <;> rfl)
    refine hK.out _ _ ?_
    clear hK K
    refine Qh4 (by kernel_rfl) ?_
    go_wp2
    go_end0
    have h5 := HE3.o.app5 HBZ.o HWT4.o HO4.o
    rw [HP.o]
    refine ⟨rfl, _, _, ⟨q, H1.o, H2.o, h5.1, ⟨?_, ?_, ?_, H4.o.lv⟩⟩, ?_⟩
    ·have := HZ.o; rw [List.length_append, List.length_singleton]; omega
    ·have h := H4.o.dl; rw [List.length_append] at h; rw [List.length_append, List.length_append, List.length_singleton, List.length_singleton]; omega
    ·intro d hd
     rcases List.mem_append.1 hd with h | h
     ·exact H4.o.d0 d (List.mem_append_left _ h)
     ·rw [List.mem_singleton.1 h]; have := HCM.o; omega
    ·exact (Hv.Qa6 HGR.o (by have := HGB.o; have := HB.o; omega)).trans (HH3.o.trans h5.2)
theorem Is.fault {w : World} {A : Option Addr} {c : Nat} {L : List Tk} {g : Nat} {vn vd : Value} {e pl : Int} (h : Is w A c L g vn vd (.bad e pl)) : w.cell? ⟨g, 2, none⟩ = some (.int .i64 e) ∧ e ≠ 0 := by
 obtain ⟨q, lev, ns, dp, h1, h2, h3, h4⟩ := h
 exact ⟨by rw [← h1]; exact h4.p.c2, h3⟩
theorem Qme (w : World) (A : Option Addr) (c : Nat) (L : List Tk) (g : Nat) (vn vd : Value) (s : Sg) (h : Is w A c L g vn vd s) :
  Calls Try.prog 32 #[.pointer (some ⟨g, 0, none⟩)] w fun e w' => ∃ t : Tk, e = .returned (.agg #[.int .i64 t.f0, .string t.f1, .int .u64 t.f2, .int .i64 t.f3, .int .i64 t.f4]) ∧ Below w.heap.size w w' :=
 Is.to (P := fun _ => Calls Try.prog 32 #[.pointer (some ⟨g, 0, none⟩)] w fun e w' => ∃ t : Tk, e = .returned (.agg #[.int .i64 t.f0, .string t.f1, .int .u64 t.f2, .int .i64 t.f3, .int .i64 t.f4]) ∧ Below w.heap.size w w') h (fun q lev ns dp hE => (Qeq w A c L g q _ _ _ hE.p).mono fun e w' ⟨he, hb⟩ => ⟨_, he, hb⟩)
theorem Qfc (w : World) (A : Option Addr) (c : Nat) (L : List Tk) (g : Nat) (vn vd : Value) (e pl : Int) (h : Is w A c L g vn vd (.bad e pl)) :
  Calls Try.prog 86 #[.pointer (some ⟨g, 0, none⟩)] w fun r w' => r = .returned (.tuple #[]) ∧ Is w' A c L g vn vd (.bad e pl) ∧ Below w.heap.size w w' := by
 have HN := J0.m (Qme w A c L g vn vd _ h)
 have HI := J0.m h
 have d1 : (e != 0) = true := bne_iff_ne.2 h.fault.2
 clear h
 go_enter Try.func86, Try.ntmps86
 go_wp2_with fail
 refine HN.o.mono ?_
 rintro r w1 ⟨t, rfl, hb1⟩
 have HB := J0.m (Qab hb1 (.cells #[.int .i64 t.f0, .string t.f1, .int .u64 t.f2, .int .i64 t.f3, .int .i64 t.f4] 47))
 have HI2 := J0.m (HI.o.below HB.o)
 have y2 := HI2.o.fault.1
 clear hb1
 go_wp2
 go_end0
 exact ⟨rfl, HI2.o, HB.o⟩
theorem Qgf (w : World) (A : Option Addr) (c : Nat) (L : List Tk) (g : Nat) (vn vd : Value) (e pl : Int) (h : Is w A c L g vn vd (.bad e pl)) :
  Calls Try.prog 73 #[.pointer (some ⟨g, 0, none⟩)] w fun r w' => r = .returned (.tuple #[]) ∧ Is w' A c L g vn vd (.bad e pl) ∧ Below w.heap.size w w' := by
 have HF := J0.m (Qfc w A c L g vn vd e pl h)
 clear h
 go_enter Try.func73, Try.ntmps73
 go_wp2_with fail
 refine HF.o.mono ?_
 rintro r w1 ⟨rfl, hi1, hb1⟩
 have HI := J0.m hi1
 have HB := J0.m hb1
 clear hi1 hb1
 go_wp2_with fail
 go_loopg [] 0 (fun k wr => wr = w1)
 case atStart => exact rfl
 case round =>
  subst hrel
  have HIS := J0.m (Qaz wr A c L g vn vd (.bad e pl) 4 ⟨#[42]⟩ HI.o)
  go_wp2_with fail
  refine HIS.o.mono ?_
  rintro r w2 ⟨hr, hb2⟩
  obtain rfl : r = .returned (.bool false) := hr
  have HB2 := J0.m hb2
  clear hb2
  go_wp2
  go_end0
  exact ⟨rfl, HI.o.below HB2.o, Qak HB.o HB2.o⟩
theorem Qgg (w : World) (A : Option Addr) (c : Nat) (L : List Tk) (g : Nat) (vn vd : Value) (e pl : Int) (h : Is w A c L g vn vd (.bad e pl)) :
  Calls Try.prog 49 #[.pointer (some ⟨g, 0, none⟩)] w fun r w' => r = .returned (.tuple #[]) ∧ Is w' A c L g vn vd (.bad e pl) ∧ Below w.heap.size w w' := by
 have HF := J0.m (Qgf w A c L g vn vd e pl h)
 clear h
 go_enter Try.func49, Try.ntmps49
 go_wp2_with fail
 refine HF.o.mono ?_
 rintro r w1 ⟨rfl, hi1, hb1⟩
 have HI := J0.m hi1
 have HB := J0.m hb1
 clear hi1 hb1
 go_wp2_with fail
 go_loopg [] 0 (fun k wr => wr = w1)
 case atStart => exact rfl
 case round =>
  subst hrel
  have HIS := J0.m (Qaz wr A c L g vn vd (.bad e pl) 4 ⟨#[43]⟩ HI.o)
  go_wp2_with fail
  refine HIS.o.mono ?_
  rintro r w2 ⟨hr, hb2⟩
  obtain rfl : r = .returned (.bool false) := hr
  have HB2 := J0.m hb2
  have HIS2 := J0.m (Qaz w2 A c L g vn vd (.bad e pl) 4 ⟨#[45]⟩ (HI.o.below hb2))
  clear hb2
  go_wp2_with fail
  refine HIS2.o.mono ?_
  rintro r w3 ⟨hr, hb3⟩
  obtain rfl : r = .returned (.bool false) := hr
  have HB3 := J0.m hb3
  clear hb3
  go_wp2
  go_end0
  exact ⟨rfl, (HI.o.below HB2.o).below HB3.o, Qak (Qak HB.o HB2.o) HB3.o⟩
end Go.Proofs.Ytbdcndkafaajpaa.A
end
section
namespace Go.Proofs.Ytbdcndkafaajpaa.R
open Go.RowKit Ytbdcndkafaajpaa.X Ytbdcndkafaajpaa.A YtbdcndkafaajpaaW.PrintWords YtbdcndkafaajpaaW.PrintLast YtbdcndkafaajpaaW.PrintMore
open Ytbdcndkafaajpaa.P (Nd EO Res hd isT isM Qar mxl comb mk1)
abbrev Qdo (L : List Tk) : Prop := Go.Proofs.Ytbdcndkafaajpaa.A.Good L
def rv (A : Option Addr) (n c : Nat) (q : Q3) (v4 v5 v6 : Value) : Array Value := #[.slice A n c, .int .i64 (q.at_ : Int), .int .i64 q.pl, .int .i64 q.fl, v5, v6, v4]
structure IsR (w : World) (A : Option Addr) (c : Nat) (L : List Tk) (g : Nat) (q : Q3) (v4 v5 v6 : Value) : Prop where
 blk : w.heap[g]? = some (.cells (rv A L.length c q v4 v5 v6) 71 (0, 0))
 row : Kd.F kt w (fun k => k < g) A L.length L
 lt : q.at_ < L.length
 cap : L.length ≤ c
section
variable {w w' : World} {A : Option Addr} {c : Nat} {L : List Tk} {g : Nat} {q : Q3} {v4 v5 v6 : Value}
theorem IsR.below (h : IsR w A c L g q v4 v5 v6) (hb : Below w.heap.size w w') : IsR w' A c L g q v4 v5 v6 := ⟨Qae h.blk hb, Kd.Qon h.row hb, h.lt, h.cap⟩
theorem IsR.c0 (h : IsR w A c L g q v4 v5 v6) : w.cell? ⟨g, 0, none⟩ = some (.slice A L.length c) := (Qac h.blk 0).trans rfl
theorem IsR.c1 (h : IsR w A c L g q v4 v5 v6) : w.cell? ⟨g, 1, none⟩ = some (.int .i64 (q.at_ : Int)) := (Qac h.blk 1).trans rfl
theorem IsR.cp (h : IsR w A c L g q v4 v5 v6) : w.cell? ⟨g, 2, none⟩ = some (.int .i64 q.pl) := (Qac h.blk 2).trans rfl
theorem IsR.cf (h : IsR w A c L g q v4 v5 v6) : w.cell? ⟨g, 3, none⟩ = some (.int .i64 q.fl) := (Qac h.blk 3).trans rfl
theorem IsR.cn (h : IsR w A c L g q v4 v5 v6) : w.cell? ⟨g, 4, none⟩ = some v5 := (Qac h.blk 4).trans rfl
theorem IsR.cd (h : IsR w A c L g q v4 v5 v6) : w.cell? ⟨g, 5, none⟩ = some v6 := (Qac h.blk 5).trans rfl
theorem IsR.cl (h : IsR w A c L g q v4 v5 v6) : w.cell? ⟨g, 6, none⟩ = some v4 := (Qac h.blk 6).trans rfl
theorem IsR.fz (h : IsR w A c L g q v4 v5 v6) (i : Nat) : w.frozen? ⟨g, i, none⟩ = false := Qaa h.blk i
theorem IsR.glt (h : IsR w A c L g q v4 v5 v6) : g < w.heap.size := Qb3 h.blk
theorem IsR.mx (h : IsR w A c L g q v4 v5 v6) : L.length ≤ 9223372036854775807 := Kd.F_max h.row
theorem IsR.far (h : IsR w A c L g q v4 v5 v6) {a b : Nat} (hb : g < b) (v : Value) : IsR (w.setCell ⟨b, a, none⟩ v) A c L g q v4 v5 v6 :=
 ⟨Qce h.blk (p := ⟨b, a, none⟩) (by show g ≠ b; omega) v, Kd.Qpx h.row (p := ⟨b, a, none⟩) (fun k hk => by show k ≠ b; omega) v, h.lt, h.cap⟩
theorem IsR.set (h : IsR w A c L g q v4 v5 v6) (i : Nat) (v : Value) {q' : Q3} {u4 u5 u6 : Value} (he : (rv A L.length c q v4 v5 v6).setIfInBounds i v = rv A L.length c q' u4 u5 u6) (hl : q'.at_ < L.length) : IsR (w.setCell ⟨g, i, none⟩ v) A c L g q' u4 u5 u6 :=
 ⟨Qby h.blk i v he, Kd.Qpx h.row (p := ⟨g, i, none⟩) (fun k hk => by show k ≠ g; omega) v, hl, h.cap⟩
theorem IsR.grown (h : IsR w A c L g q v4 v5 v6) {b : Nat} (hg : w.grownBy w' (some b)) (hb : g < b) : IsR w' A c L g q v4 v5 v6 :=
 ⟨Qbh h.blk hg (fun e => by injection e with e; omega), Kd.Qfz h.row hg (fun k hk e => by injection e with e; omega), h.lt, h.cap⟩
end
def Post (w w' : World) (A : Option Addr) (c : Nat) (L : List Tk) (g : Nat) (q : Q3) (v4 v5 v6 : Value) : Prop := IsR w' A c L g q v4 v5 v6 ∧ w.grownBy w' (some g)
theorem Qef (w : World) (A : Option Addr) (c : Nat) (L : List Tk) (g : Nat) (q : Q3) (v4 v5 v6 : Value) (h : IsR w A c L g q v4 v5 v6) :
  Calls Try.prog 43 #[.pointer (some ⟨g, 0, none⟩)] w fun e w' => e = .returned (tokV (tk L q.at_)) ∧ Below w.heap.size w w' := by
 have hlt := h.lt
 have hc := h.cap
 obtain ⟨W, hW⟩ : ∃ W, W = w.alloc (.cells #[.int .i64 0, .string ⟨#[]⟩, .int .u64 0, .int .i64 0, .int .i64 0] 47) := ⟨_, rfl⟩
 have hBW : Below w.heap.size w W := by rw [hW]; exact Qab (Below.refl _ _) _
 have h2 := h.below hBW
 obtain ⟨b, hb⟩ : ∃ b, b = w.heap.size := ⟨_, rfl⟩
 have hbn : W.heap[b]? = some (.cells #[.int .i64 0, .string ⟨#[]⟩, .int .u64 0, .int .i64 0, .int .i64 0] 47 (0, 0)) := by rw [hW, hb]; exact Qay _ _
 obtain ⟨ad, hA, x0, x1, x2, x3, x4⟩ := Qqg (Kd.Qrz h2.row) (q.at_ : Int) (by omega) (by omega)
 subst hA
 have y0 := h2.c0
 have y1 := h2.c1
 obtain ⟨z0, z1, z2, z3, z4⟩ := Qgc hbn
 have f0 := Qaa hbn 0
 have f1 := Qaa hbn 1
 have f2 := Qaa hbn 2
 have f3 := Qaa hbn 3
 have f4 := Qaa hbn 4
 have hq : (q.at_ : Int) < (L.length : Int) := by omega
 rw [Int.toNat_natCast] at x0 x1 x2 x3 x4
 obtain ⟨t, ht⟩ : ∃ t, t = tk L q.at_ := ⟨_, rfl⟩
 have ht' : Qga L (q.at_ : Int) = t := ht.symm
 rw [ht'] at x0 x1 x2 x3 x4
 rw [← ht]
 have HMX := J0.m h.mx
 have HBW := J0.m hBW
 have HBN := J0.m hbn
 have HB := J0.m hb
 have HW := J0.m hW
 clear ht ht' h h2 hBW hbn
 go_enter Try.func43, Try.ntmps43
 go_wp2
 rw [← HW.o, ← HB.o]
 clear hW hb
 go_still_tail 10, (by kernel_rfl)
 go_wp2
 exact bodyPost_ret (Qbm rfl _ _ b 47 #[.int .i64 t.f0, .string t.f1, .int .u64 t.f2, .int .i64 t.f3, .int .i64 t.f4] (0, 0) _ rfl (Qai (set5 HBN.o)) Try.underlying47 rfl (by kernel_rfl)) rfl ⟨rfl, Qaf (Qqe HBW.o (by rw [HB.o]; exact Nat.le_refl _))⟩
theorem Qcs (w : World) (A : Option Addr) (c : Nat) (L : List Tk) (g : Nat) (q : Q3) (v4 v5 v6 : Value) (e p : Int) (h : IsR w A c L g q v4 v5 v6) :
  Calls Try.prog 48 #[.pointer (some ⟨g, 0, none⟩), .int .i64 p, .int .i64 e] w fun r w' => r = .returned (.tuple #[]) ∧ Post w w' A c L g (Qcy e p q) v4 v5 v6 := by
 have y2 := h.cp
 have y3 := h.cf
 have f2 := h.fz 2
 have f3 := h.fz 3
 have HP := J0.m h
 by_cases hf : q.fl = 0
 ·have HE : J0 (Qcy e p q = ⟨q.at_, e, p⟩) := ⟨by unfold Qcy; rw [if_pos hf]⟩
  have c1 : (q.fl == 0) = true := beq_iff_eq.2 hf
  clear h hf
  go_enter Try.func48, Try.ntmps48
  go_wp2
  go_end0
  rw [HE.o]
  exact ⟨rfl, (HP.o.set 3 _ (q' := ⟨q.at_, e, q.pl⟩) rfl HP.o.lt).set 2 _ rfl HP.o.lt, (Qbg _ _ _ _).trans (Qbg _ _ _ _)⟩
 ·have HE : J0 (Qcy e p q = q) := ⟨by unfold Qcy; rw [if_neg hf]⟩
  have c1 : (q.fl == 0) = false := beq_eq_false_iff_ne.2 hf
  clear h hf
  go_enter Try.func48, Try.ntmps48
  go_wp2
  go_end0
  rw [HE.o]
  exact ⟨rfl, HP.o, Qaj (Below.refl _ _) _⟩
theorem Qec (w : World) (A : Option Addr) (c : Nat) (L : List Tk) (g : Nat) (q : Q3) (v4 v5 v6 : Value) (k : Int) (s : ByteArray) (h : IsR w A c L g q v4 v5 v6) :
  Calls Try.prog 26 #[.pointer (some ⟨g, 0, none⟩), .int .i64 k, .string s] w fun e w' => e = .returned (.bool (isQ L q k s)) ∧ Below w.heap.size w w' := by
 have HN : J0 (∀ W, Below w.heap.size w W → Calls Try.prog 43 #[.pointer (some ⟨g, 0, none⟩)] W fun e w' => e = .returned (tokV (tk L q.at_)) ∧ Below W.heap.size W w') := ⟨fun W hW => Qef W A c L g q v4 v5 v6 (h.below hW)⟩
 have y2 := h.cf
 obtain ⟨⟨t0, t1, t2, t3, t4⟩, ht⟩ : ∃ t, t = tk L q.at_ := ⟨_, rfl⟩
 unfold isQ
 rw [← ht] at HN ⊢
 obtain ⟨b1, h1⟩ : ∃ b1, b1 = (q.fl == 0) := ⟨_, rfl⟩
 obtain ⟨b2, h2⟩ : ∃ b2, b2 = (t0 == k) := ⟨_, rfl⟩
 obtain ⟨b3, h3⟩ : ∃ b3, b3 = (t1.toList == s.toList) := ⟨_, rfl⟩
 have H1 := J0.m h1
 have H2 := J0.m h2
 have H3 := J0.m h3
 obtain ⟨gd0, gd1, gd2, gd3⟩ := fld ⟨t0, t1, t2, t3, t4⟩
 rw [← h1]
 simp only []
 rw [← h2, ← h3]
 clear h ht h1 h2 h3
 cases b1 <;> cases b2 <;> cases b3
 all_goals
  have c1 := H1.o.symm
  have c2 := H2.o.symm
  have c3 := H3.o.symm
  have hbS := Below.refl w.heap.size w
  go_enter Try.func26, Try.ntmps26
  go_wp2_with (first | (go_at_call 43; (with_reducible refine (HN.o _ hbS).mono ?_); rintro e w1 ⟨rfl, hb⟩; have hbS := Qak hbS hb; clear hb) | fail)
  go_ret
  exact ⟨rfl, hbS⟩
end Go.Proofs.Ytbdcndkafaajpaa.R
end
section
namespace Go.Proofs.Ytbdcndkafaajpaa.P
open Ytbdcndkafaajpaa.X
theorem Qc7 {ts : List Tk} (h : (hd ts).f0 ≠ 0) : ts.tail.length + 1 = ts.length := by
 cases ts with
 | nil => exact absurd rfl h
 | cons a t => simp
theorem Qbz {k : Int} {x : ByteArray} {ts : List Tk} (h : isT k x ts = true) : (hd ts).f0 = k := by
 unfold isT at h
 rw [Bool.and_eq_true] at h
 exact eq_of_beq h.1
theorem Qc2 {c : UInt8} {ts : List Tk} (h : isM c ts = true) : ts.tail.length + 1 = ts.length := Qc7 (by rw [Qbz h]; decide)
theorem bind_ok {α β : Type} {x : Res α} {f : α → List Tk → Res β} {b : β} {r : List Tk} (h : x.bind f = .ok b r) : ∃ a s, x = .ok a s ∧ f a s = .ok b r := by
 cases x with
 | ok a s => exact ⟨a, s, rfl, h⟩
 | bad e p => cases h
theorem Qcf {c : UInt8} {ts r : List Tk} {t : Tk} (h : Qar c ts = .ok t r) : isM c ts = true ∧ t = hd ts ∧ r = ts.tail ∧ r.length + 1 = ts.length := by
 unfold Qar want at h
 split at h
 ·rename_i hm
  cases h
  exact ⟨hm, rfl, rfl, Qc2 hm⟩
 ·cases h
theorem Qfm {n : Nd} {kids : List EO} {r r' : List Tk} {a : EO} (h : comb n kids r = .ok a r') : r' = r ∧ a.ns = (kids.map EO.ns).flatten ++ [n] ∧ a.dep = mxl (kids.map EO.dep) + 1 ∧ mxl (kids.map EO.dep) + 1 ≤ 100 := by
 unfold comb at h
 split at h
 ·cases h
 ·cases h
  exact ⟨rfl, rfl, rfl, by omega⟩
def base : Fn → Nat
 | .addL a => a.ns.length
 | .mulL a => a.ns.length
 | .args _ l => (l.map EO.ns).flatten.length
 | _ => 0
theorem X_sz : ∀ (n : Nat) (f : Fn) (lev : Nat) (ts : List Tk) (a : EO) (r : List Tk), X n f lev ts = .ok a r → a.ns.length + r.length ≤ base f + ts.length := by
 intro n
 induction n with
 | zero => intro f lev ts a r h; cases h
 | succ n ih =>
  intro f lev ts a r h
  cases f with
  | expr =>
   rw [X] at h
   obtain ⟨b, s, h1, h2⟩ := bind_ok h
   have := ih _ _ _ _ _ h1; have := ih _ _ _ _ _ h2
   simp only [base] at *; omega
  | addL x =>
   rw [X] at h
   split at h
   ·rename_i hm
    have hl : ts.tail.length + 1 = ts.length := by
     rw [Bool.or_eq_true] at hm
     exact hm.elim Qc2 Qc2
    obtain ⟨b, s, h1, h2⟩ := bind_ok h
    obtain ⟨cc, s2, h3, h4⟩ := bind_ok h2
    obtain ⟨rfl, h5, _, _⟩ := Qfm h3
    have := ih _ _ _ _ _ h1; have := ih _ _ _ _ _ h4
    simp only [base, h5, List.map_cons, List.map_nil, List.flatten_cons, List.flatten_nil, List.append_nil, List.length_append, List.length_singleton] at *
    omega
   ·cases h; simp only [base]; omega
  | term =>
   rw [X] at h
   obtain ⟨b, s, h1, h2⟩ := bind_ok h
   have := ih _ _ _ _ _ h1; have := ih _ _ _ _ _ h2
   simp only [base] at *; omega
  | mulL x =>
   rw [X] at h
   split at h
   ·rename_i hm
    have hl := Qc2 hm
    obtain ⟨b, s, h1, h2⟩ := bind_ok h
    obtain ⟨cc, s2, h3, h4⟩ := bind_ok h2
    obtain ⟨rfl, h5, _, _⟩ := Qfm h3
    have := ih _ _ _ _ _ h1; have := ih _ _ _ _ _ h4
    simp only [base, h5, List.map_cons, List.map_nil, List.flatten_cons, List.flatten_nil, List.append_nil, List.length_append, List.length_singleton] at *
    omega
   ·cases h; simp only [base]; omega
  | args t l =>
   rw [X] at h
   split at h
   ·rename_i hm
    have hl := Qc2 hm
    obtain ⟨b, s, h1, h2⟩ := bind_ok h
    have := ih _ _ _ _ _ h1; have := ih _ _ _ _ _ h2
    simp only [base, List.map_append, List.map_cons, List.map_nil, List.flatten_append, List.flatten_cons, List.flatten_nil, List.append_nil, List.length_append] at *
    omega
   ·obtain ⟨b, s, h1, h2⟩ := bind_ok h
    obtain ⟨_, _, _, hl⟩ := Qcf h1
    obtain ⟨rfl, h5, _, _⟩ := Qfm h2
    simp only [base, h5, List.length_append, List.length_singleton] at *
    omega
  | fac =>
   rw [X] at h
   have leaf : ∀ {m : Nd} {a : EO} {r : List Tk}, (hd ts).f0 ≠ 0 → comb m [] ts.tail = .ok a r → a.ns.length + r.length ≤ base .fac + ts.length := by
    intro m a r h0 hc
    obtain ⟨rfl, h5, _, _⟩ := Qfm hc
    have := Qc7 h0
    simp only [base, h5, List.map_nil, List.flatten_nil, List.nil_append, List.length_singleton]; omega
   by_cases k2 : (hd ts).f0 = 2
   ·rw [if_pos k2] at h; exact leaf (by rw [k2]; decide) h
   rw [if_neg k2] at h
   by_cases k3 : (hd ts).f0 = 3
   ·rw [if_pos k3] at h; exact leaf (by rw [k3]; decide) h
   rw [if_neg k3] at h
   by_cases k1 : (hd ts).f0 = 1
   ·rw [if_pos k1] at h
    have h0 : (hd ts).f0 ≠ 0 := by rw [k1]; decide
    have hl := Qc7 h0
    have one : ∀ {m : Nd} {a : EO} {r : List Tk}, ((Qar 40 ts.tail).bind fun _ r => (X n .expr (lev + 1) r).bind fun a r => (Qar 41 r).bind fun _ r => comb m [a] r) = .ok a r → a.ns.length + r.length ≤ base .fac + ts.length := by
     intro m a r h
     obtain ⟨_, s, h1, h2⟩ := bind_ok h
     obtain ⟨b, s2, h3, h4⟩ := bind_ok h2
     obtain ⟨_, s3, h5, h6⟩ := bind_ok h4
     obtain ⟨_, _, _, l1⟩ := Qcf h1
     obtain ⟨_, _, _, l2⟩ := Qcf h5
     obtain ⟨rfl, h7, _, _⟩ := Qfm h6
     have := ih _ _ _ _ _ h3
     simp only [base, h7, List.map_cons, List.map_nil, List.flatten_cons, List.flatten_nil, List.append_nil, List.length_append, List.length_singleton] at *
     omega
    have nolev : ∀ {p : Int} {x : Res EO}, (if 100 ≤ lev then Res.bad 91 p else x) = .ok a r → x = .ok a r := by
     intro p x hx
     by_cases cl : 100 ≤ lev
     ·rw [if_pos cl] at hx; cases hx
     ·rw [if_neg cl] at hx; exact hx
    by_cases w1 : (hd ts).f1 = Qif
    ·rw [if_pos w1] at h; exact leaf h0 h
    rw [if_neg w1] at h
    by_cases w2 : (hd ts).f1 = Qgj
    ·rw [if_pos w2] at h; exact leaf h0 h
    rw [if_neg w2] at h
    by_cases w3 : (hd ts).f1 = sCat
    ·rw [if_pos w3] at h
     obtain ⟨_, s, h1, h2⟩ := bind_ok (nolev h)
     obtain ⟨b, s2, h3, h4⟩ := bind_ok h2
     obtain ⟨_, _, _, l1⟩ := Qcf h1
     have := ih _ _ _ _ _ h3; have := ih _ _ _ _ _ h4
     simp only [base, List.map_cons, List.map_nil, List.flatten_cons, List.flatten_nil, List.append_nil] at *
     omega
    rw [if_neg w3] at h
    by_cases w4 : (hd ts).f1 = sRep
    ·rw [if_pos w4] at h
     obtain ⟨_, s, h1, h2⟩ := bind_ok (nolev h)
     obtain ⟨b, s2, h3, h4⟩ := bind_ok h2
     obtain ⟨_, s3, h5, h6⟩ := bind_ok h4
     obtain ⟨b2, s4, h7, h8⟩ := bind_ok h6
     obtain ⟨_, s5, h9, h10⟩ := bind_ok h8
     obtain ⟨_, _, _, l1⟩ := Qcf h1
     obtain ⟨_, _, _, l2⟩ := Qcf h5
     obtain ⟨_, _, _, l3⟩ := Qcf h9
     obtain ⟨rfl, h11, _, _⟩ := Qfm h10
     have := ih _ _ _ _ _ h3; have := ih _ _ _ _ _ h7
     simp only [base, h11, List.map_cons, List.map_nil, List.flatten_cons, List.flatten_nil, List.append_nil, List.length_append, List.length_singleton] at *
     omega
    rw [if_neg w4] at h
    by_cases w5 : (hd ts).f1 = sLen
    ·rw [if_pos w5] at h; exact one (nolev h)
    rw [if_neg w5] at h
    by_cases w6 : (hd ts).f1 = sHex
    ·rw [if_pos w6] at h; exact one (nolev h)
    rw [if_neg w6] at h
    cases h
   rw [if_neg k1] at h
   have nolev : ∀ {p : Int} {x : Res EO}, (if 100 ≤ lev then Res.bad 91 p else x) = .ok a r → x = .ok a r := by
    intro p x hx
    by_cases cl : 100 ≤ lev
    ·rw [if_pos cl] at hx; cases hx
    ·rw [if_neg cl] at hx; exact hx
   by_cases m1 : isM 45 ts = true
   ·rw [if_pos m1] at h
    have hl := Qc2 m1
    obtain ⟨b, s, h1, h2⟩ := bind_ok (nolev h)
    obtain ⟨rfl, h5, _, _⟩ := Qfm h2
    have := ih _ _ _ _ _ h1
    simp only [base, h5, List.map_cons, List.map_nil, List.flatten_cons, List.flatten_nil, List.append_nil, List.length_append, List.length_singleton] at *
    omega
   rw [if_neg m1] at h
   by_cases m2 : isM 40 ts = true
   ·rw [if_pos m2] at h
    have hl := Qc2 m2
    obtain ⟨b, s, h1, h2⟩ := bind_ok (nolev h)
    obtain ⟨_, s2, h3, h4⟩ := bind_ok h2
    obtain ⟨_, _, _, l1⟩ := Qcf h3
    cases h4
    have := ih _ _ _ _ _ h1
    simp only [base] at *; omega
   rw [if_neg m2] at h
   cases h
structure StD where
 k : Int
 a : ByteArray
 b : ByteArray
 c : ByteArray
 sep : ByteArray
 ty : ByteArray
 val : List Nd
 pl : Int
structure VeD where
 num : Int
 steps : List StD
 pl : Int
structure EvD where
 name : ByteArray
 vers : List VeD
 pl : Int
def kw : List ByteArray := [⟨#[101, 118, 101, 110, 116]⟩, ⟨#[118, 101, 114, 115, 105, 111, 110]⟩, ⟨#[97, 100, 100]⟩, ⟨#[114, 101, 110, 97, 109, 101]⟩, ⟨#[115, 112, 108, 105, 116]⟩, ⟨#[106, 111, 105, 110]⟩, ⟨#[114, 101, 116, 121, 112, 101]⟩, ⟨#[100, 114, 111, 112]⟩, ⟨#[116, 111]⟩, ⟨#[97, 116]⟩, ⟨#[105, 110, 116, 111]⟩, ⟨#[119, 105, 116, 104]⟩, Qif, Qgj, sCat, sRep, sLen, sHex]
def Qeg : ByteArray := ⟨#[101, 118, 101, 110, 116]⟩
def Qcq : ByteArray := ⟨#[118, 101, 114, 115, 105, 111, 110]⟩
def sTo : ByteArray := ⟨#[116, 111]⟩
def sAt : ByteArray := ⟨#[97, 116]⟩
def Qjp : ByteArray := ⟨#[105, 110, 116, 111]⟩
def Qov : ByteArray := ⟨#[119, 105, 116, 104]⟩
def Qdi (s : ByteArray) (ts : List Tk) : Res Tk := want (isT 1 s ts) ts
def Qe0 (ts : List Tk) : Bool := ((hd ts).f0 == 1) && !(kw.any fun x => decide (x = (hd ts).f1))
def Qdg (ts : List Tk) : Res Tk := want (Qe0 ts) ts
def Qgi (ts : List Tk) : Res Tk := want ((hd ts).f0 == 3) ts
def numW (ts : List Tk) : Res Tk := want ((hd ts).f0 == 2) ts
def endW (ts : List Tk) : Res Tk := if (hd ts).f0 = 0 then .ok (hd ts) ts else .bad 90 (hd ts).f3
def Qdh (ts : List Tk) : Res EO := X (4 * ts.length + 3) .expr 0 ts
def kinds : List ByteArray := (kw.drop 2).take 6
def idxB (s : ByteArray) : List ByteArray → Nat → Int
 | [], _ => -1
 | x :: l, i => if x = s then (i : Int) else idxB s l (i + 1)
def kindOf (s : ByteArray) : Int := idxB s kinds 0 + 1
def stK (ts : List Tk) : Int := if (hd ts).f0 = 1 then kindOf (hd ts).f1 else 0
def stepOf (k p : Int) (a : ByteArray) : StD := ⟨k, a, ⟨#[]⟩, ⟨#[]⟩, ⟨#[]⟩, ⟨#[]⟩, [], p⟩
def Qf6 (d : StD) (ts : List Tk) : Res StD :=
 if d.k = 1 then (Qar 58 ts).bind fun _ r => (Qdg r).bind fun t r => if isM 61 r then (Qdh r.tail).bind fun v r => .ok { d with ty := t.f1, val := v.ns } r else .ok { d with ty := t.f1 } r
 else if d.k = 2 then (Qdi sTo ts).bind fun _ r => (Qdg r).bind fun t r => .ok { d with b := t.f1 } r
 else if d.k = 3 then (Qdi sAt ts).bind fun _ r => (Qgi r).bind fun x r => (Qdi Qjp r).bind fun _ r => (Qdg r).bind fun t r => (Qar 44 r).bind fun _ r => (Qdg r).bind fun u r => .ok { d with sep := x.f1, b := t.f1, c := u.f1 } r
 else if d.k = 4 then (Qar 44 ts).bind fun _ r => (Qdg r).bind fun t r => (Qdi Qov r).bind fun _ r => (Qgi r).bind fun x r => (Qdi Qjp r).bind fun _ r => (Qdg r).bind fun u r => .ok { d with b := t.f1, sep := x.f1, c := u.f1 } r
 else if d.k = 5 then (Qdi sTo ts).bind fun _ r => (Qdg r).bind fun t r => .ok { d with ty := t.f1 } r
 else .ok d ts
def stepW (ts : List Tk) : Res StD :=
 (want (decide (0 < stK ts)) ts).bind fun t r => (Qdg r).bind fun a r => (Qf6 (stepOf (stK ts) t.f3 a.f1) r).bind fun d r => (Qar 59 r).bind fun _ r => .ok d r
def Qdr : Nat → List StD → List Tk → Res (List StD)
 | 0, _, _ => .bad 0 0
 | n + 1, l, ts => if isM 125 ts then .ok l ts else (stepW ts).bind fun d r => Qdr n (l ++ [d]) r
def Qbq (ts : List Tk) : Res VeD :=
 (Qdi Qcq ts).bind fun t r => (numW r).bind fun m r => (Qar 123 r).bind fun _ r => (Qdr (r.length + 1) [] r).bind fun l r => (Qar 125 r).bind fun _ r => .ok ⟨m.f2, l, t.f3⟩ r
def Qca : Nat → List VeD → List Tk → Res (List VeD)
 | 0, _, _ => .bad 0 0
 | n + 1, l, ts => (Qbq ts).bind fun d r => if isT 1 Qcq r then Qca n (l ++ [d]) r else .ok (l ++ [d]) r
def Qdf (ts : List Tk) : Res EvD :=
 (Qdi Qeg ts).bind fun t r => (Qdg r).bind fun m r => (Qar 123 r).bind fun _ r => (Qca (r.length + 1) [] r).bind fun l r => (Qar 125 r).bind fun _ r => .ok ⟨m.f1, l, t.f3⟩ r
def Qc3 : Nat → List EvD → List Tk → Res (List EvD)
 | 0, _, _ => .bad 0 0
 | n + 1, l, ts => if isT 1 Qeg ts then (Qdf ts).bind fun d r => Qc3 n (l ++ [d]) r else .ok l ts
def Qdj (ts : List Tk) : Res (List EvD) := (Qc3 (ts.length + 1) [] ts).bind fun l r => (endW r).bind fun _ r => .ok l r
def Qhq (ts : List Tk) : Res (List Nd) := (Qdh ts).bind fun v r => (endW r).bind fun _ r => .ok v.ns r
theorem Qgw {b : Bool} {ts r : List Tk} {t : Tk} (hk : b = true → (hd ts).f0 ≠ 0) (h : want b ts = .ok t r) : b = true ∧ t = hd ts ∧ r = ts.tail ∧ r.length + 1 = ts.length := by
 unfold want at h
 split at h
 ·rename_i hb
  cases h
  exact ⟨hb, rfl, rfl, Qc7 (hk hb)⟩
 ·cases h
theorem Qea {s : ByteArray} {ts r : List Tk} {t : Tk} (h : Qdi s ts = .ok t r) : r.length + 1 = ts.length := (Qgw (fun hb => by rw [Qbz hb]; decide) h).2.2.2
theorem Qfj {ts : List Tk} (h : Qe0 ts = true) : (hd ts).f0 ≠ 0 := by
 unfold Qe0 at h
 rw [Bool.and_eq_true] at h
 rw [eq_of_beq h.1]; decide
theorem Qeb {ts r : List Tk} {t : Tk} (h : Qdg ts = .ok t r) : r.length + 1 = ts.length := (Qgw Qfj h).2.2.2
theorem Qlo {ts r : List Tk} {t : Tk} (h : Qgi ts = .ok t r) : r.length + 1 = ts.length := (Qgw (fun hb => by rw [eq_of_beq hb]; decide) h).2.2.2
theorem Qne {ts r : List Tk} {t : Tk} (h : numW ts = .ok t r) : r.length + 1 = ts.length := (Qgw (fun hb => by rw [eq_of_beq hb]; decide) h).2.2.2
theorem Qpl {ts r : List Tk} {v : EO} (h : Qdh ts = .ok v r) : r.length ≤ ts.length := by
 have := X_sz _ _ _ _ _ _ h
 simp only [base] at this
 omega
theorem Qc0 {ts : List Tk} (h : 0 < stK ts) : (hd ts).f0 ≠ 0 := by
 intro e
 unfold stK at h
 rw [if_neg (by rw [e]; decide)] at h
 exact absurd h (by decide)
theorem Qpu {d d' : StD} {ts r : List Tk} (h : Qf6 d ts = .ok d' r) : r.length ≤ ts.length := by
 unfold Qf6 at h
 split at h
 ·obtain ⟨_, r1, h1, h⟩ := bind_ok h
  obtain ⟨_, r2, h2, h⟩ := bind_ok h
  have := (Qcf h1).2.2.2
  have := Qeb h2
  split at h
  ·obtain ⟨_, r3, h3, h⟩ := bind_ok h
   have := Qpl h3
   have := Qc2 ‹_›
   cases h
   omega
  ·cases h; omega
 split at h
 ·obtain ⟨_, r1, h1, h⟩ := bind_ok h
  obtain ⟨_, r2, h2, h⟩ := bind_ok h
  have := Qea h1
  have := Qeb h2
  cases h; omega
 split at h
 ·obtain ⟨_, r1, h1, h⟩ := bind_ok h
  obtain ⟨_, r2, h2, h⟩ := bind_ok h
  obtain ⟨_, r3, h3, h⟩ := bind_ok h
  obtain ⟨_, r4, h4, h⟩ := bind_ok h
  obtain ⟨_, r5, h5, h⟩ := bind_ok h
  obtain ⟨_, r6, h6, h⟩ := bind_ok h
  have := Qea h1
  have := Qlo h2
  have := Qea h3
  have := Qeb h4
  have := (Qcf h5).2.2.2
  have := Qeb h6
  cases h; omega
 split at h
 ·obtain ⟨_, r1, h1, h⟩ := bind_ok h
  obtain ⟨_, r2, h2, h⟩ := bind_ok h
  obtain ⟨_, r3, h3, h⟩ := bind_ok h
  obtain ⟨_, r4, h4, h⟩ := bind_ok h
  obtain ⟨_, r5, h5, h⟩ := bind_ok h
  obtain ⟨_, r6, h6, h⟩ := bind_ok h
  have := (Qcf h1).2.2.2
  have := Qeb h2
  have := Qea h3
  have := Qlo h4
  have := Qea h5
  have := Qeb h6
  cases h; omega
 split at h
 ·obtain ⟨_, r1, h1, h⟩ := bind_ok h
  obtain ⟨_, r2, h2, h⟩ := bind_ok h
  have := Qea h1
  have := Qeb h2
  cases h; omega
 ·cases h; exact Nat.le_refl _
theorem Qlr {d : StD} {ts r : List Tk} (h : stepW ts = .ok d r) : r.length + 3 ≤ ts.length := by
 unfold stepW at h
 obtain ⟨_, r1, h1, h⟩ := bind_ok h
 obtain ⟨_, r2, h2, h⟩ := bind_ok h
 obtain ⟨_, r3, h3, h⟩ := bind_ok h
 obtain ⟨_, r4, h4, h⟩ := bind_ok h
 have := (Qgw (fun hb => Qc0 (of_decide_eq_true hb)) h1).2.2.2
 have := Qeb h2
 have := Qpu h3
 have := (Qcf h4).2.2.2
 cases h; omega
theorem Qmz : ∀ (n : Nat) {l l' : List StD} {ts r : List Tk}, Qdr n l ts = .ok l' r → l'.length + r.length ≤ l.length + ts.length ∧ r.length ≤ ts.length := by
 intro n
 induction n with
 | zero => intro l l' ts r h; cases h
 | succ n ih =>
  intro l l' ts r h
  rw [Qdr] at h
  split at h
  ·cases h; exact ⟨Nat.le_refl _, Nat.le_refl _⟩
  ·obtain ⟨_, r1, h1, h⟩ := bind_ok h
   have := Qlr h1
   have := ih h
   simp only [List.length_append, List.length_singleton] at this
   omega
theorem Qhp {d : VeD} {ts r : List Tk} (h : Qbq ts = .ok d r) : r.length + 4 ≤ ts.length := by
 unfold Qbq at h
 obtain ⟨_, r1, h1, h⟩ := bind_ok h
 obtain ⟨_, r2, h2, h⟩ := bind_ok h
 obtain ⟨_, r3, h3, h⟩ := bind_ok h
 obtain ⟨_, r4, h4, h⟩ := bind_ok h
 obtain ⟨_, r5, h5, h⟩ := bind_ok h
 have := Qea h1
 have := Qne h2
 have := (Qcf h3).2.2.2
 have := (Qmz _ h4).2
 have := (Qcf h5).2.2.2
 cases h; omega
theorem Qjj : ∀ (n : Nat) {l l' : List VeD} {ts r : List Tk}, Qca n l ts = .ok l' r → l'.length + r.length ≤ l.length + ts.length ∧ r.length ≤ ts.length := by
 intro n
 induction n with
 | zero => intro l l' ts r h; cases h
 | succ n ih =>
  intro l l' ts r h
  rw [Qca] at h
  obtain ⟨_, r1, h1, h⟩ := bind_ok h
  have := Qhp h1
  split at h
  ·have := ih h
   simp only [List.length_append, List.length_singleton] at this
   omega
  ·cases h
   simp only [List.length_append, List.length_singleton]
   omega
theorem Qn0 {d : EvD} {ts r : List Tk} (h : Qdf ts = .ok d r) : r.length + 4 ≤ ts.length := by
 unfold Qdf at h
 obtain ⟨_, r1, h1, h⟩ := bind_ok h
 obtain ⟨_, r2, h2, h⟩ := bind_ok h
 obtain ⟨_, r3, h3, h⟩ := bind_ok h
 obtain ⟨_, r4, h4, h⟩ := bind_ok h
 obtain ⟨_, r5, h5, h⟩ := bind_ok h
 have := Qea h1
 have := Qeb h2
 have := (Qcf h3).2.2.2
 have := (Qjj _ h4).2
 have := (Qcf h5).2.2.2
 cases h; omega
def rank : Fn → Nat
 | .expr => 3
 | .term => 2
 | _ => 1
theorem Qbk {α β : Type} {x : Res α} {f : α → List Tk → Res β} (h1 : ∀ p, x ≠ .bad 0 p) (h2 : ∀ a r, x = .ok a r → ∀ p, f a r ≠ .bad 0 p) : ∀ p, x.bind f ≠ .bad 0 p := by
 intro p e
 cases x with
 | ok a r => exact h2 a r rfl p e
 | bad e' p' => exact h1 p' (by cases e; rfl)
theorem Qgx (b : Bool) (ts : List Tk) : ∀ p, want b ts ≠ .bad 0 p := by
 intro p e
 unfold want at e
 split at e
 ·cases e
 ·cases e
theorem Qc9 (c : UInt8) (ts : List Tk) : ∀ p, Qar c ts ≠ .bad 0 p := Qgx _ _
theorem Qeu (n : Nd) (kids : List EO) (r : List Tk) : ∀ p, comb n kids r ≠ .bad 0 p := by
 intro p e
 unfold comb at e
 split at e
 ·cases e
 ·cases e
theorem Qfo {α : Type} (a : α) (r : List Tk) : ∀ p, (Res.ok a r) ≠ .bad 0 p := fun p e => by cases e
theorem Qfw {α : Type} {c : Prop} [Decidable c] {x y : Res α} (h1 : c → ∀ p, x ≠ .bad 0 p) (h2 : ¬ c → ∀ p, y ≠ .bad 0 p) : ∀ p, (if c then x else y) ≠ .bad 0 p := by
 intro p e
 by_cases hc : c
 ·rw [if_pos hc] at e; exact h1 hc p e
 ·rw [if_neg hc] at e; exact h2 hc p e
theorem Qiu {c : Prop} [Decidable c] {p : Int} {x : Res EO} (h : ∀ q, x ≠ .bad 0 q) : ∀ q, (if c then Res.bad 91 p else x) ≠ .bad 0 q := by
 intro q e
 split at e
 ·cases e
 ·exact h q e
theorem X_ne : ∀ (n : Nat) (f : Fn) (lev : Nat) (ts : List Tk), 4 * ts.length + rank f ≤ n → ∀ p, X n f lev ts ≠ .bad 0 p := by
 intro n
 induction n with
 | zero => intro f lev ts h; cases f <;> simp only [rank] at h <;> omega
 | succ n ih =>
  intro f lev ts h
  have sz : ∀ {f : Fn} {lev : Nat} {ts r : List Tk} {a : EO}, base f = 0 → X n f lev ts = .ok a r → r.length ≤ ts.length := by
   intro f lev ts r a hb hx
   have := X_sz _ _ _ _ _ _ hx
   rw [hb] at this; omega
  cases f with
  | expr =>
   rw [X]
   simp only [rank] at h
   exact Qbk (ih _ _ _ (by simp only [rank]; omega)) fun a r hx => ih _ _ _ (by have := sz rfl hx; simp only [rank]; omega)
  | term =>
   rw [X]
   simp only [rank] at h
   exact Qbk (ih _ _ _ (by simp only [rank]; omega)) fun a r hx => ih _ _ _ (by have := sz rfl hx; simp only [rank]; omega)
  | addL x =>
   rw [X]
   simp only [rank] at h
   split
   ·rename_i hm
    have hl : ts.tail.length + 1 = ts.length := by
     rw [Bool.or_eq_true] at hm
     exact hm.elim Qc2 Qc2
    refine Qbk (ih _ _ _ (by simp only [rank]; omega)) fun a r hx => Qbk (Qeu _ _ _) fun c r' hc => ih _ _ _ ?_
    obtain ⟨rfl, _⟩ := Qfm hc
    have := sz rfl hx
    simp only [rank]; omega
   ·exact Qfo _ _
  | mulL x =>
   rw [X]
   simp only [rank] at h
   split
   ·rename_i hm
    have hl := Qc2 hm
    refine Qbk (ih _ _ _ (by simp only [rank]; omega)) fun a r hx => Qbk (Qeu _ _ _) fun c r' hc => ih _ _ _ ?_
    obtain ⟨rfl, _⟩ := Qfm hc
    have := sz rfl hx
    simp only [rank]; omega
   ·exact Qfo _ _
  | args t l =>
   rw [X]
   simp only [rank] at h
   split
   ·rename_i hm
    have hl := Qc2 hm
    refine Qbk (ih _ _ _ (by simp only [rank]; omega)) fun a r hx => ih _ _ _ ?_
    have := sz rfl hx
    simp only [rank]; omega
   ·exact Qbk (Qc9 _ _) fun _ r _ => Qeu _ _ _
  | fac =>
   rw [X]
   simp only [rank] at h
   have call : ∀ {g : EO → List Tk → Res EO}, (hd ts).f0 ≠ 0 → (∀ a r, r.length + 2 ≤ ts.length → ∀ p, g a r ≠ .bad 0 p) → ∀ p, ((Qar 40 ts.tail).bind fun _ r => (X n .expr (lev + 1) r).bind g) ≠ .bad 0 p := by
    intro g h0 hg
    have hl := Qc7 h0
    refine Qbk (Qc9 _ _) fun _ r hr => ?_
    have hl2 := (Qcf hr).2.2.2
    refine Qbk (ih _ _ _ (by simp only [rank]; omega)) fun a r' hx => hg a r' ?_
    have := sz rfl hx
    omega
   refine Qfw (fun _ => Qeu _ _ _) fun _ => Qfw (fun _ => Qeu _ _ _) fun _ => Qfw (fun k1 => ?_) fun _ => Qfw (fun hm => ?_) fun _ => Qfw (fun hm => ?_) fun _ p e => by cases e
   ·have h0 : (hd ts).f0 ≠ 0 := by rw [k1]; decide
    refine Qfw (fun _ => Qeu _ _ _) fun _ => Qfw (fun _ => Qeu _ _ _) fun _ => Qfw (fun _ => ?_) fun _ => Qfw (fun _ => ?_) fun _ => Qfw (fun _ => ?_) fun _ => Qfw (fun _ => ?_) fun _ p e => by cases e
    ·exact Qiu (call h0 fun a r hr => ih _ _ _ (by simp only [rank]; omega))
    ·exact Qiu (call h0 fun a r hr => Qbk (Qc9 _ _) fun _ r' hr' => Qbk (ih _ _ _ (by have := (Qcf hr').2.2.2; simp only [rank]; omega)) fun b r'' _ => Qbk (Qc9 _ _) fun _ _ _ => Qeu _ _ _)
    ·exact Qiu (call h0 fun a r hr => Qbk (Qc9 _ _) fun _ _ _ => Qeu _ _ _)
    ·exact Qiu (call h0 fun a r hr => Qbk (Qc9 _ _) fun _ _ _ => Qeu _ _ _)
   ·have hl := Qc2 hm
    exact Qiu (Qbk (ih _ _ _ (by simp only [rank]; omega)) fun a r _ => Qeu _ _ _)
   ·have hl := Qc2 hm
    exact Qiu (Qbk (ih _ _ _ (by simp only [rank]; omega)) fun a r _ => Qbk (Qc9 _ _) fun _ _ _ => Qfo _ _)
theorem Qji (ts : List Tk) : ∀ p, Qdh ts ≠ .bad 0 p := X_ne _ _ _ _ (by simp only [rank]; omega)
theorem Qew (s : ByteArray) (ts : List Tk) : ∀ p, Qdi s ts ≠ .bad 0 p := Qgx _ _
theorem Qel (ts : List Tk) : ∀ p, Qdg ts ≠ .bad 0 p := Qgx _ _
theorem Qlp (ts : List Tk) : ∀ p, Qgi ts ≠ .bad 0 p := Qgx _ _
theorem Qq1 (ts : List Tk) : ∀ p, numW ts ≠ .bad 0 p := Qgx _ _
theorem Qpv (d : StD) (ts : List Tk) : ∀ p, Qf6 d ts ≠ .bad 0 p := by
 unfold Qf6
 split
 ·refine Qbk (Qc9 _ _) fun _ r _ => Qbk (Qel _) fun t r _ => ?_
  split
  ·exact Qbk (Qji _) fun _ _ _ => Qfo _ _
  ·exact Qfo _ _
 split
 ·exact Qbk (Qew _ _) fun _ r _ => Qbk (Qel _) fun t r _ => Qfo _ _
 split
 ·exact Qbk (Qew _ _) fun _ r _ => Qbk (Qlp _) fun t r _ => Qbk (Qew _ _) fun _ r _ => Qbk (Qel _) fun t r _ => Qbk (Qc9 _ _) fun _ r _ => Qbk (Qel _) fun t r _ => Qfo _ _
 split
 ·exact Qbk (Qc9 _ _) fun _ r _ => Qbk (Qel _) fun t r _ => Qbk (Qew _ _) fun _ r _ => Qbk (Qlp _) fun t r _ => Qbk (Qew _ _) fun _ r _ => Qbk (Qel _) fun t r _ => Qfo _ _
 split
 ·exact Qbk (Qew _ _) fun _ r _ => Qbk (Qel _) fun t r _ => Qfo _ _
 ·exact Qfo _ _
theorem Qos (ts : List Tk) : ∀ p, stepW ts ≠ .bad 0 p := by
 unfold stepW
 exact Qbk (Qgx _ _) fun _ r _ => Qbk (Qel _) fun t r _ => Qbk (Qpv _ _) fun d r _ => Qbk (Qc9 _ _) fun t r _ => Qfo _ _
theorem Qm0 : ∀ (n : Nat) (l : List StD) (ts : List Tk), ts.length < n → ∀ p, Qdr n l ts ≠ .bad 0 p := by
 intro n
 induction n with
 | zero => intro l ts h; omega
 | succ n ih =>
  intro l ts h
  rw [Qdr]
  split
  ·exact Qfo _ _
  ·exact Qbk (Qos _) fun d r hr => ih _ _ (by have := Qlr hr; omega)
theorem Qgd (ts : List Tk) : ∀ p, Qbq ts ≠ .bad 0 p := by
 unfold Qbq
 exact Qbk (Qew _ _) fun _ r _ => Qbk (Qq1 _) fun t r _ => Qbk (Qc9 _ _) fun t r _ => Qbk (Qm0 _ _ _ (Nat.lt_succ_self _)) fun t r _ => Qbk (Qc9 _ _) fun t r _ => Qfo _ _
theorem Qjk : ∀ (n : Nat) (l : List VeD) (ts : List Tk), ts.length < n → ∀ p, Qca n l ts ≠ .bad 0 p := by
 intro n
 induction n with
 | zero => intro l ts h; omega
 | succ n ih =>
  intro l ts h
  rw [Qca]
  refine Qbk (Qgd _) fun d r hr => ?_
  split
  ·exact ih _ _ (by have := Qhp hr; omega)
  ·exact Qfo _ _
theorem Qh3 (ts : List Tk) : ∀ p, Qdf ts ≠ .bad 0 p := by
 unfold Qdf
 exact Qbk (Qew _ _) fun _ r _ => Qbk (Qel _) fun t r _ => Qbk (Qc9 _ _) fun t r _ => Qbk (Qjk _ _ _ (Nat.lt_succ_self _)) fun t r _ => Qbk (Qc9 _ _) fun t r _ => Qfo _ _
theorem Qiv : ∀ (n : Nat) (l : List EvD) (ts : List Tk), ts.length < n → ∀ p, Qc3 n l ts ≠ .bad 0 p := by
 intro n
 induction n with
 | zero => intro l ts h; omega
 | succ n ih =>
  intro l ts h
  rw [Qc3]
  split
  ·exact Qbk (Qh3 _) fun d r hr => ih _ _ (by have := Qn0 hr; omega)
  ·exact Qfo _ _
end Go.Proofs.Ytbdcndkafaajpaa.P
end
section
namespace Go.Proofs.Ytbdcndkafaajpaa.V
open Go.RowKit YtbdcndkafaajpaaW.PrintWords YtbdcndkafaajpaaW.PrintLast YtbdcndkafaajpaaW.PrintMore
attribute [local go_sem] Qdz Qdx Qes Qer Qdm Qdl Qdy Qdw
def errW : Option Int → Value
 | none => .nilIface
 | some c => .iface 0 (.int .i64 c)
theorem Qax : errW none = .nilIface := rfl
theorem Qaw (c : Int) : errW (some c) = .iface 0 (.int .i64 c) := rfl
end Go.Proofs.Ytbdcndkafaajpaa.V
end
section
namespace Go.Proofs.Ytbdcndkafaajpaa.V
open Go.RowKit YtbdcndkafaajpaaW.PrintWords YtbdcndkafaajpaaW.PrintLast YtbdcndkafaajpaaW.PrintMore
attribute [local go_sem] Qdz Qdx Qes Qer Qdm Qdl Qdy Qdw
def Qbl.l0 : Nat → ByteArray → List ByteArray → Int → Option (Bool)
 | 0, _, _, _ => none
 | k + 1, x0, x3, x4 => if x4 < (x3.length : Int) then (if 0 ≤ x4 then (if (rdOf ByteArray.empty x3 x4).toList = x0.toList then (some true) else (Qbl.l0 k x0 x3 (wrap64 (x4 + 1)))) else (none)) else (some false)
def Qbl.f (k : Nat) (a0 : ByteArray) : Option (Bool) := Qbl.l0 k a0 (([(⟨#[101, 118, 101, 110, 116]⟩ : ByteArray), (⟨#[118, 101, 114, 115, 105, 111, 110]⟩ : ByteArray), (⟨#[97, 100, 100]⟩ : ByteArray), (⟨#[114, 101, 110, 97, 109, 101]⟩ : ByteArray), (⟨#[115, 112, 108, 105, 116]⟩ : ByteArray), (⟨#[106, 111, 105, 110]⟩ : ByteArray), (⟨#[114, 101, 116, 121, 112, 101]⟩ : ByteArray), (⟨#[100, 114, 111, 112]⟩ : ByteArray), (⟨#[116, 111]⟩ : ByteArray), (⟨#[97, 116]⟩ : ByteArray), (⟨#[105, 110, 116, 111]⟩ : ByteArray), (⟨#[119, 105, 116, 104]⟩ : ByteArray), (⟨#[116, 114, 117, 101]⟩ : ByteArray), (⟨#[102, 97, 108, 115, 101]⟩ : ByteArray), (⟨#[99, 97, 116]⟩ : ByteArray), (⟨#[114, 101, 112]⟩ : ByteArray), (⟨#[108, 101, 110]⟩ : ByteArray), (⟨#[104, 101, 120]⟩ : ByteArray)] : List ByteArray)) 0
theorem Qbl.calls (k : Nat) (a0 : ByteArray) (r : Bool) (w : World) (h : Qbl.f k a0 = some r) :
  Calls Try.prog 71 #[.string a0] w fun e w' => e = .returned (.bool r) ∧ Below w.heap.size w w' := by
 have HB := J0.m (Below.refl w.heap.size w)
 have H : (Qbl.l0 k a0 (([(⟨#[101, 118, 101, 110, 116]⟩ : ByteArray), (⟨#[118, 101, 114, 115, 105, 111, 110]⟩ : ByteArray), (⟨#[97, 100, 100]⟩ : ByteArray), (⟨#[114, 101, 110, 97, 109, 101]⟩ : ByteArray), (⟨#[115, 112, 108, 105, 116]⟩ : ByteArray), (⟨#[106, 111, 105, 110]⟩ : ByteArray), (⟨#[114, 101, 116, 121, 112, 101]⟩ : ByteArray), (⟨#[100, 114, 111, 112]⟩ : ByteArray), (⟨#[116, 111]⟩ : ByteArray), (⟨#[97, 116]⟩ : ByteArray), (⟨#[105, 110, 116, 111]⟩ : ByteArray), (⟨#[119, 105, 116, 104]⟩ : ByteArray), (⟨#[116, 114, 117, 101]⟩ : ByteArray), (⟨#[102, 97, 108, 115, 101]⟩ : ByteArray), (⟨#[99, 97, 116]⟩ : ByteArray), (⟨#[114, 101, 112]⟩ : ByteArray), (⟨#[108, 101, 110]⟩ : ByteArray), (⟨#[104, 101, 120]⟩ : ByteArray)] : List ByteArray)) 0) = some r := h
 clear h
 obtain ⟨y101, hy101⟩ : ∃ y_ : List ByteArray, y_ = (([(⟨#[101, 118, 101, 110, 116]⟩ : ByteArray), (⟨#[118, 101, 114, 115, 105, 111, 110]⟩ : ByteArray), (⟨#[97, 100, 100]⟩ : ByteArray), (⟨#[114, 101, 110, 97, 109, 101]⟩ : ByteArray), (⟨#[115, 112, 108, 105, 116]⟩ : ByteArray), (⟨#[106, 111, 105, 110]⟩ : ByteArray), (⟨#[114, 101, 116, 121, 112, 101]⟩ : ByteArray), (⟨#[100, 114, 111, 112]⟩ : ByteArray), (⟨#[116, 111]⟩ : ByteArray), (⟨#[97, 116]⟩ : ByteArray), (⟨#[105, 110, 116, 111]⟩ : ByteArray), (⟨#[119, 105, 116, 104]⟩ : ByteArray), (⟨#[116, 114, 117, 101]⟩ : ByteArray), (⟨#[102, 97, 108, 115, 101]⟩ : ByteArray), (⟨#[99, 97, 116]⟩ : ByteArray), (⟨#[114, 101, 112]⟩ : ByteArray), (⟨#[108, 101, 110]⟩ : ByteArray), (⟨#[104, 101, 120]⟩ : ByteArray)] : List ByteArray)) := ⟨_, rfl⟩
 replace H : (Qbl.l0 k a0 y101 0) = some r := by first | (rw [hy101]; with_reducible exact H) | (have H2_ := (Option.bind_some _ _).symm.trans H; rw [hy101]; with_reducible exact H2_) | (have H2_ := (Option.bind_some _ _).symm.trans H; with_reducible exact H2_) | with_reducible exact H | (rw [hy101]; exact H) | exact H
 have Ny101 := J0.m hy101
 clear hy101
 have H' := J0.m H
 clear H
 go_enter Try.func71, Try.ntmps71
 go_wp2_with (first | ((with_reducible refine Qb0 (N := 5) rfl ?_); refine Kd.R_lit Kd.string _ 9 ?hg (N := 5) ?hd (xs := ([(⟨#[101, 118, 101, 110, 116]⟩ : ByteArray), (⟨#[118, 101, 114, 115, 105, 111, 110]⟩ : ByteArray), (⟨#[97, 100, 100]⟩ : ByteArray), (⟨#[114, 101, 110, 97, 109, 101]⟩ : ByteArray), (⟨#[115, 112, 108, 105, 116]⟩ : ByteArray), (⟨#[106, 111, 105, 110]⟩ : ByteArray), (⟨#[114, 101, 116, 121, 112, 101]⟩ : ByteArray), (⟨#[100, 114, 111, 112]⟩ : ByteArray), (⟨#[116, 111]⟩ : ByteArray), (⟨#[97, 116]⟩ : ByteArray), (⟨#[105, 110, 116, 111]⟩ : ByteArray), (⟨#[119, 105, 116, 104]⟩ : ByteArray), (⟨#[116, 114, 117, 101]⟩ : ByteArray), (⟨#[102, 97, 108, 115, 101]⟩ : ByteArray), (⟨#[99, 97, 116]⟩ : ByteArray), (⟨#[114, 101, 112]⟩ : ByteArray), (⟨#[108, 101, 110]⟩ : ByteArray), (⟨#[104, 101, 120]⟩ : ByteArray)] : List ByteArray)) (inner := [.string (⟨#[101, 118, 101, 110, 116]⟩ : ByteArray), .string (⟨#[118, 101, 114, 115, 105, 111, 110]⟩ : ByteArray), .string (⟨#[97, 100, 100]⟩ : ByteArray), .string (⟨#[114, 101, 110, 97, 109, 101]⟩ : ByteArray), .string (⟨#[115, 112, 108, 105, 116]⟩ : ByteArray), .string (⟨#[106, 111, 105, 110]⟩ : ByteArray), .string (⟨#[114, 101, 116, 121, 112, 101]⟩ : ByteArray), .string (⟨#[100, 114, 111, 112]⟩ : ByteArray), .string (⟨#[116, 111]⟩ : ByteArray), .string (⟨#[97, 116]⟩ : ByteArray), .string (⟨#[105, 110, 116, 111]⟩ : ByteArray), .string (⟨#[119, 105, 116, 104]⟩ : ByteArray), .string (⟨#[116, 114, 117, 101]⟩ : ByteArray), .string (⟨#[102, 97, 108, 115, 101]⟩ : ByteArray), .string (⟨#[99, 97, 116]⟩ : ByteArray), .string (⟨#[114, 101, 112]⟩ : ByteArray), .string (⟨#[108, 101, 110]⟩ : ByteArray), .string (⟨#[104, 101, 120]⟩ : ByteArray)]) (ok := fun _ => True) (okp := fun _ => True) ?hr ?hp (fun _ hk => hk) trivial (Below.refl _ _) (Nat.le_refl _) (by simp) ?_; (case hd => rfl); (case hg => rfl); (case hr => first | (go_simp; done) | (go_simp; rfl)); (case hp => exact (Reps.one (show Kd.M Kd.string _ _ _ (⟨#[101, 118, 101, 110, 116]⟩ : ByteArray) [.string (⟨#[101, 118, 101, 110, 116]⟩ : ByteArray)] from rfl) (Reps.one (show Kd.M Kd.string _ _ _ (⟨#[118, 101, 114, 115, 105, 111, 110]⟩ : ByteArray) [.string (⟨#[118, 101, 114, 115, 105, 111, 110]⟩ : ByteArray)] from rfl) (Reps.one (show Kd.M Kd.string _ _ _ (⟨#[97, 100, 100]⟩ : ByteArray) [.string (⟨#[97, 100, 100]⟩ : ByteArray)] from rfl) (Reps.one (show Kd.M Kd.string _ _ _ (⟨#[114, 101, 110, 97, 109, 101]⟩ : ByteArray) [.string (⟨#[114, 101, 110, 97, 109, 101]⟩ : ByteArray)] from rfl) (Reps.one (show Kd.M Kd.string _ _ _ (⟨#[115, 112, 108, 105, 116]⟩ : ByteArray) [.string (⟨#[115, 112, 108, 105, 116]⟩ : ByteArray)] from rfl) (Reps.one (show Kd.M Kd.string _ _ _ (⟨#[106, 111, 105, 110]⟩ : ByteArray) [.string (⟨#[106, 111, 105, 110]⟩ : ByteArray)] from rfl) (Reps.one (show Kd.M Kd.string _ _ _ (⟨#[114, 101, 116, 121, 112, 101]⟩ : ByteArray) [.string (⟨#[114, 101, 116, 121, 112, 101]⟩ : ByteArray)] from rfl) (Reps.one (show Kd.M Kd.string _ _ _ (⟨#[100, 114, 111, 112]⟩ : ByteArray) [.string (⟨#[100, 114, 111, 112]⟩ : ByteArray)] from rfl) (Reps.one (show Kd.M Kd.string _ _ _ (⟨#[116, 111]⟩ : ByteArray) [.string (⟨#[116, 111]⟩ : ByteArray)] from rfl) (Reps.one (show Kd.M Kd.string _ _ _ (⟨#[97, 116]⟩ : ByteArray) [.string (⟨#[97, 116]⟩ : ByteArray)] from rfl) (Reps.one (show Kd.M Kd.string _ _ _ (⟨#[105, 110, 116, 111]⟩ : ByteArray) [.string (⟨#[105, 110, 116, 111]⟩ : ByteArray)] from rfl) (Reps.one (show Kd.M Kd.string _ _ _ (⟨#[119, 105, 116, 104]⟩ : ByteArray) [.string (⟨#[119, 105, 116, 104]⟩ : ByteArray)] from rfl) (Reps.one (show Kd.M Kd.string _ _ _ (⟨#[116, 114, 117, 101]⟩ : ByteArray) [.string (⟨#[116, 114, 117, 101]⟩ : ByteArray)] from rfl) (Reps.one (show Kd.M Kd.string _ _ _ (⟨#[102, 97, 108, 115, 101]⟩ : ByteArray) [.string (⟨#[102, 97, 108, 115, 101]⟩ : ByteArray)] from rfl) (Reps.one (show Kd.M Kd.string _ _ _ (⟨#[99, 97, 116]⟩ : ByteArray) [.string (⟨#[99, 97, 116]⟩ : ByteArray)] from rfl) (Reps.one (show Kd.M Kd.string _ _ _ (⟨#[114, 101, 112]⟩ : ByteArray) [.string (⟨#[114, 101, 112]⟩ : ByteArray)] from rfl) (Reps.one (show Kd.M Kd.string _ _ _ (⟨#[108, 101, 110]⟩ : ByteArray) [.string (⟨#[108, 101, 110]⟩ : ByteArray)] from rfl) (Reps.one (show Kd.M Kd.string _ _ _ (⟨#[104, 101, 120]⟩ : ByteArray) [.string (⟨#[104, 101, 120]⟩ : ByteArray)] from rfl) (Reps.none _ _)))))))))))))))))))); intro v102 w2 ho3 hb hg_ hnew_; clear hg_ hnew_; (first | rw [← Ny101.o] at ho3 | (simp only [Int.reduceToNat] at ho3; rw [← Ny101.o] at ho3)); have n0_ := J0.m (Kd.Qol ho3 (Qbd (by repeat (first | (with_reducible first | exact HB.o | apply Qab | apply Qad | apply Qaf) | exact HB.o)))); have n1_ := J0.m (Qak (by repeat (first | (with_reducible first | exact HB.o | apply Qab | apply Qad | apply Qaf) | exact HB.o)) hb); clear HB; have HO103 := n0_; have HB := n1_; clear n0_ n1_; clear hb ho3))
 go_loopg [4] k (fun kq v4 w' => ∃ (x4_1 : Int), v4 = .int .i64 x4_1 ∧ J0 (Qbl.l0 kq a0 y101 x4_1 = some r) ∧ J0 (kq ≤ k) ∧ J0 (Kd.R Kd.string 9 w' w.heap.size (fun _ => True) v102 y101) ∧ J0 (Below w.heap.size w w'))
 case atStart => exact ⟨(0), (by first | rfl | (simp; done) | (simp [*]; done)), H', ⟨Nat.le_refl _⟩, ⟨by (with_reducible repeat (first | apply Kd.Qb8 | apply Kd.Qb7 | apply Kd.Qcl)); exact HO103.o⟩, ⟨by repeat (first | (with_reducible first | exact HB.o | apply Qab | apply Qad | apply Qaf) | exact HB.o)⟩⟩
 case round =>
  clear H'
  try clear p2
  obtain ⟨x4_1, rfl, HA, HK1, HO_3, HB⟩ := hrel
  cases gk with
  | zero => exact absurd HA.o (by simp [Qbl.l0])
  | succ k1 =>
   have H := HA.o
   clear HA
   simp only [Qbl.l0] at H
   by_cases c4 : x4_1 < (y101.length : Int)
   ·rw [if_pos c4] at H
    have c4b0 : decide (x4_1 < (y101.length : Int)) = true := decide_eq_true c4
    clear c4
    by_cases c5 : 0 ≤ x4_1
    ·rw [if_pos c5] at H
     have c5b0 : decide (0 ≤ x4_1) = true := decide_eq_true c5
     clear c5
     by_cases c6 : (rdOf ByteArray.empty y101 x4_1).toList = a0.toList
     ·rw [if_pos c6] at H
      have c6b0 : ((rdOf ByteArray.empty y101 x4_1).toList == a0.toList) = true := beq_iff_eq.mpr c6
      have c6b1 : ((rdOf ByteArray.empty y101 x4_1).toList != a0.toList) = false := bne_eq_false_iff_eq.mpr c6
      clear c6
      obtain rfl := Option.some.inj H
      obtain ⟨Ao7, co7, eo7⟩ := Kd.Qcp HO_3.o
      subst eo7
      have p104 : 0 ≤ (x4_1 : Int) := dQ
      have q104 : x4_1 < (y101.length : Int) := dQ
      obtain ⟨ad104, e104, hx104_0⟩ := Kd.Qfy (Kd.Qd3 HO_3.o).2.2 x4_1 p104 q104
      cases e104
      replace p104 := eq_true p104
      replace q104 := eq_true q104
      go_wp2
      go_ret
      exact ⟨by first | rfl | (simp [Qax, Qaw] <;> rfl) | (simp [*, Qax, Qaw] <;> rfl), by repeat (first | (with_reducible first | exact HB.o | apply Qab | apply Qad | apply Qaf) | exact HB.o)⟩
     ·rw [if_neg c6] at H
      have c6b0 : ((rdOf ByteArray.empty y101 x4_1).toList == a0.toList) = false := beq_eq_false_iff_ne.mpr c6
      have c6b1 : ((rdOf ByteArray.empty y101 x4_1).toList != a0.toList) = true := bne_iff_ne.mpr c6
      have H' := J0.m H
      clear H
      obtain ⟨Ao8, co8, eo8⟩ := Kd.Qcp HO_3.o
      subst eo8
      have p104 : 0 ≤ (x4_1 : Int) := dQ
      have q104 : x4_1 < (y101.length : Int) := dQ
      obtain ⟨ad104, e104, hx104_0⟩ := Kd.Qfy (Kd.Qd3 HO_3.o).2.2 x4_1 p104 q104
      cases e104
      replace p104 := eq_true p104
      replace q104 := eq_true q104
      go_wp2
      go_roundg k1
      case measure => have := HK1.o; omega
      case rel => exact ⟨(wrap64 (x4_1 + 1)), (by first | rfl | (simp; done) | (simp [*]; done)), H', ⟨by have := HK1.o; omega⟩, ⟨by (with_reducible repeat (first | apply Kd.Qb8 | apply Kd.Qb7 | apply Kd.Qcl)); exact HO_3.o⟩, ⟨by repeat (first | (with_reducible first | exact HB.o | apply Qab | apply Qad | apply Qaf) | exact HB.o)⟩⟩
    ·rw [if_neg c5] at H
     exact absurd H (by simp)
   ·rw [if_neg c4] at H
    have c4b0 : decide (x4_1 < (y101.length : Int)) = false := decide_eq_false c4
    clear c4
    obtain rfl := Option.some.inj H
    obtain ⟨Ao9, co9, eo9⟩ := Kd.Qcp HO_3.o
    subst eo9
    go_wp2
    go_ret
    exact ⟨by first | rfl | (simp [Qax, Qaw] <;> rfl) | (simp [*, Qax, Qaw] <;> rfl), by repeat (first | (with_reducible first | exact HB.o | apply Qab | apply Qad | apply Qaf) | exact HB.o)⟩
end Go.Proofs.Ytbdcndkafaajpaa.V
end
section
namespace Go.Proofs.Ytbdcndkafaajpaa.R
open Go.RowKit Ytbdcndkafaajpaa.X Ytbdcndkafaajpaa.A YtbdcndkafaajpaaW.PrintWords YtbdcndkafaajpaaW.PrintLast YtbdcndkafaajpaaW.PrintMore
open Ytbdcndkafaajpaa.P (Nd EO Res hd isT isM Qar mxl comb mk1)
theorem Post.p {w w2 : World} {A : Option Addr} {c : Nat} {L : List Tk} {g : Nat} {q : Q3} {v4 v5 v6 : Value} (h : Post w w2 A c L g q v4 v5 v6) : IsR w2 A c L g q v4 v5 v6 := h.1
theorem Post.g {w w2 : World} {A : Option Addr} {c : Nat} {L : List Tk} {g : Nat} {q : Q3} {v4 v5 v6 : Value} (h : Post w w2 A c L g q v4 v5 v6) : w.grownBy w2 (some g) := h.2
theorem Post.of_below {w w1 w2 : World} {A : Option Addr} {c : Nat} {L : List Tk} {g : Nat} {q : Q3} {v4 v5 v6 : Value} (hb : Below w.heap.size w w1) (h : Post w1 w2 A c L g q v4 v5 v6) : Post w w2 A c L g q v4 v5 v6 := ⟨h.1, (Qaj hb _).trans h.2⟩
theorem IsR.step {w : World} {A : Option Addr} {c : Nat} {L : List Tk} {g : Nat} {q : Q3} {v4 v5 v6 : Value} (h : IsR w A c L g q v4 v5 v6) (hl : q.at_ + 1 < L.length) : IsR (w.setCell ⟨g, 1, none⟩ (.int .i64 ((q.at_ + 1 : Nat) : Int))) A c L g ⟨q.at_ + 1, q.fl, q.pl⟩ v4 v5 v6 := h.set 1 _ rfl hl
theorem Qfa {w : World} {A : Option Addr} {c : Nat} {L : List Tk} {g : Nat} {q : Q3} {v4 v5 v6 : Value} (h : IsR w A c L g q v4 v5 v6) : wrap64 ((q.at_ : Int) + 1) = ((q.at_ + 1 : Nat) : Int) := by
 have := h.mx; have := h.lt
 unfold wrap64; omega
theorem Qi4 {L : List Tk} {q : Q3} (h1 : q.fl = 0) (h0 : (tk L q.at_).f0 ≠ 0) : Qcv L true q = ⟨q.at_ + 1, q.fl, q.pl⟩ := by
 unfold Qcv
 rw [if_pos h1, if_pos rfl, if_neg h0]
theorem Qko {L : List Tk} {q : Q3} : Qcv L false q = Qcy 90 (tk L q.at_).f3 q := by
 unfold Qcv
 by_cases h1 : q.fl = 0
 ·rw [if_pos h1, if_neg (by decide)]
 ·rw [if_neg h1]; unfold Qcy; rw [if_neg h1]
theorem Qio (w : World) (A : Option Addr) (c : Nat) (L : List Tk) (g : Nat) (q : Q3) (v4 v5 v6 : Value) (k : Int) (s : ByteArray) (hk : k ≠ 0) (h : IsR w A c L g q v4 v5 v6) (hG : Qdo L) :
  Calls Try.prog 70 #[.pointer (some ⟨g, 0, none⟩), .int .i64 k, .string s] w fun e w' => e = .returned (.tuple #[]) ∧ Post w w' A c L g (Qcv L (isQ L q k s) q) v4 v5 v6 := by
 have HIS := J0.m (Qec w A c L g q v4 v5 v6 k s h)
 have HP := J0.m h
 have HWR := J0.m (Qfa h)
 cases hb : isQ L q k s with
 | true =>
  rw [hb] at HIS
  have h1 : q.fl = 0 := by
   unfold isQ at hb
   rw [Bool.and_eq_true] at hb
   exact eq_of_beq hb.1
  have h0 : (tk L q.at_).f0 ≠ 0 := by
   unfold isQ at hb
   rw [Bool.and_eq_true, Bool.and_eq_true] at hb
   rw [eq_of_beq hb.2.1]; exact hk
  have HL1 : J0 (q.at_ + 1 < L.length) := ⟨hG q.at_ h.lt h0⟩
  rw [Qi4 h1 h0]
  clear h h1 h0 hb
  go_enter Try.func70, Try.ntmps70
  go_wp2_with fail
  refine HIS.o.mono ?_
  rintro e w1 ⟨rfl, hb1⟩
  have HB := J0.m hb1
  have y1 := (HP.o.below hb1).c1
  have f1 := (HP.o.below hb1).fz 1
  clear hb1
  go_wp2
  rw [HWR.o]
  refine bodyPost_ret (results_none rfl _ _ _) rfl ?_
  exact ⟨rfl, (HP.o.below HB.o).step HL1.o, (Qaj HB.o _).trans (Qbg _ _ _ _)⟩
 | false =>
  rw [hb] at HIS
  rw [Qko]
  obtain ⟨⟨t0, t1, t2, t3, t4⟩, ht⟩ : ∃ t, t = tk L q.at_ := ⟨_, rfl⟩
  have HN : J0 (∀ W, Below w.heap.size w W → Calls Try.prog 43 #[.pointer (some ⟨g, 0, none⟩)] W fun e w' => e = .returned (tokV (tk L q.at_)) ∧ Below W.heap.size W w') := ⟨fun W hW => Qef W A c L g q v4 v5 v6 (h.below hW)⟩
  have HF : J0 (∀ W e p, IsR W A c L g q v4 v5 v6 → Calls Try.prog 48 #[.pointer (some ⟨g, 0, none⟩), .int .i64 p, .int .i64 e] W fun r w' => r = .returned (.tuple #[]) ∧ Post W w' A c L g (Qcy e p q) v4 v5 v6) := ⟨fun W e p hW => Qcs W A c L g q v4 v5 v6 e p hW⟩
  rw [← ht] at HN ⊢
  obtain ⟨gd0, gd1, gd2, gd3⟩ := fld ⟨t0, t1, t2, t3, t4⟩
  clear h hb ht
  go_enter Try.func70, Try.ntmps70
  go_wp2_with fail
  refine HIS.o.mono ?_
  rintro e w1 ⟨rfl, hb1⟩
  have HB := J0.m hb1
  clear hb1
  go_wp2_with fail
  refine (HN.o w1 HB.o).mono ?_
  rintro e w2 ⟨rfl, hb2⟩
  have HB2 := J0.m (Qak HB.o hb2)
  clear hb2
  go_wp2_with fail
  refine (HF.o w2 90 t3 (HP.o.below HB2.o)).mono ?_
  rintro e w3 ⟨rfl, hp⟩
  have HPO := J0.m hp
  clear hp
  go_wp2
  go_end0
  exact ⟨rfl, HPO.o.of_below HB2.o⟩
theorem Qd6 (w : World) (A : Option Addr) (c : Nat) (L : List Tk) (g : Nat) (q : Q3) (v4 v5 v6 : Value) (s : ByteArray) (h : IsR w A c L g q v4 v5 v6) (hG : Qdo L) :
  Calls Try.prog 46 #[.pointer (some ⟨g, 0, none⟩), .string s] w fun e w' => e = .returned (.tuple #[]) ∧ Post w w' A c L g (Qcv L (isQ L q 4 s) q) v4 v5 v6 := by
 have HW := J0.m (Qio w A c L g q v4 v5 v6 4 s (by decide) h hG)
 clear h hG
 go_enter Try.func46, Try.ntmps46
 go_wp2_with fail
 refine HW.o.mono ?_
 rintro e w3 ⟨rfl, hp⟩
 have HPO := J0.m hp
 clear hp
 go_wp2
 go_end0
 exact ⟨rfl, HPO.o⟩
theorem Qgv (w : World) (A : Option Addr) (c : Nat) (L : List Tk) (g : Nat) (q : Q3) (v4 v5 v6 : Value) (s : ByteArray) (h : IsR w A c L g q v4 v5 v6) (hG : Qdo L) :
  Calls Try.prog 44 #[.pointer (some ⟨g, 0, none⟩), .string s] w fun e w' => e = .returned (.tuple #[]) ∧ Post w w' A c L g (Qcv L (isQ L q 1 s) q) v4 v5 v6 := by
 have HW := J0.m (Qio w A c L g q v4 v5 v6 1 s (by decide) h hG)
 clear h hG
 go_enter Try.func44, Try.ntmps44
 go_wp2_with fail
 refine HW.o.mono ?_
 rintro e w3 ⟨rfl, hp⟩
 have HPO := J0.m hp
 clear hp
 go_wp2
 go_end0
 exact ⟨rfl, HPO.o⟩
theorem Qqn (s : ByteArray) (l : List ByteArray) (hl : l.length ≤ 1000) : ∀ (d i : Nat), l.length - i ≤ d → i ≤ l.length → ∃ k, V.Qbl.l0 k s l (i : Int) = some ((l.drop i).any fun x => decide (x = s)) := by
 intro d
 induction d with
 | zero =>
  intro i h1 h2
  obtain rfl : i = l.length := by omega
  refine ⟨1, ?_⟩
  rw [V.Qbl.l0, if_neg (by omega), List.drop_length]; rfl
 | succ d ih =>
  intro i h1 h2
  by_cases hi : i < l.length
  ·obtain ⟨k, hk⟩ := ih (i + 1) (by omega) (by omega)
   refine ⟨k + 1, ?_⟩
   rw [V.Qbl.l0, if_pos (by omega), if_pos (by omega), List.drop_eq_getElem_cons hi, List.any_cons, show wrap64 ((i : Int) + 1) = ((i + 1 : Nat) : Int) by unfold wrap64; omega, hk]
   have hr : rdOf ByteArray.empty l (i : Int) = l[i] := by unfold rdOf; rw [Int.toNat_natCast, List.getD_eq_getElem?_getD, List.getElem?_eq_getElem hi]; rfl
   rw [hr]
   by_cases he : l[i] = s
   ·rw [if_pos (by rw [he]), decide_eq_true he, Bool.true_or]
   ·rw [if_neg (fun h => he (ByteArray.ext (Array.toList_inj.1 (by rw [← ByteArray.toList_eq, ← ByteArray.toList_eq]; exact h)))), decide_eq_false he, Bool.false_or]
  ·exact ih i (by omega) h2
theorem Qk0 (w : World) (s : ByteArray) : Calls Try.prog 71 #[.string s] w fun e w' => e = .returned (.bool (P.kw.any fun x => decide (x = s))) ∧ Below w.heap.size w w' := by
 obtain ⟨k, hk⟩ := Qqn s P.kw (by decide) _ 0 (Nat.le_refl _) (Nat.zero_le _)
 exact V.Qbl.calls k s _ w (show V.Qbl.f k s = _ from hk)
def strQ (b : Bool) (q : Q3) (t : Tk) : ByteArray := if q.fl = 0 ∧ b = true then t.f1 else ⟨#[]⟩
theorem Qg2 (w : World) (A : Option Addr) (c : Nat) (L : List Tk) (g : Nat) (q : Q3) (v4 v5 v6 : Value) (b : Bool) (h : IsR w A c L g q v4 v5 v6) (hG : Qdo L) (hb : b = (((tk L q.at_).f0 == 1) && !(P.kw.any fun x => decide (x = (tk L q.at_).f1)))) :
  Calls Try.prog 45 #[.pointer (some ⟨g, 0, none⟩)] w fun e w' => e = .returned (.string (strQ b q (tk L q.at_))) ∧ Post w w' A c L g (Qcv L b q) v4 v5 v6 := by
 have HN := J0.m (Qef w A c L g q v4 v5 v6 h)
 have HP := J0.m h
 have HWR := J0.m (Qfa h)
 have HF : J0 (∀ W e p, IsR W A c L g q v4 v5 v6 → Calls Try.prog 48 #[.pointer (some ⟨g, 0, none⟩), .int .i64 p, .int .i64 e] W fun r w' => r = .returned (.tuple #[]) ∧ Post W w' A c L g (Qcy e p q) v4 v5 v6) := ⟨fun W e p hW => Qcs W A c L g q v4 v5 v6 e p hW⟩
 have hgl := hG q.at_ h.lt
 obtain ⟨⟨t0, t1, t2, t3, t4⟩, ht⟩ : ∃ t, t = tk L q.at_ := ⟨_, rfl⟩
 obtain ⟨m, hm⟩ : ∃ m, m = (P.kw.any fun x => decide (x = t1)) := ⟨_, rfl⟩
 have HKW := J0.m (fun w => Qk0 w t1)
 rw [← hm] at HKW
 rw [← ht] at HN hb hgl ⊢
 simp only [] at hb
 rw [← hm] at hb
 obtain ⟨b1, h1⟩ : ∃ b1, b1 = (q.fl == 0) := ⟨_, rfl⟩
 obtain ⟨b2, h2⟩ : ∃ b2, b2 = (t0 == 1) := ⟨_, rfl⟩
 rw [← h2] at hb
 have HTQ : J0 (Qcv L b q = if b1 && b then ⟨q.at_ + 1, q.fl, q.pl⟩ else Qcy 90 t3 q) := ⟨by
  cases hb1 : b1 with
  | true =>
   rw [hb1] at h1
   have hf := eq_of_beq h1.symm
   cases hbb : b with
   | true =>
    rw [hbb] at hb
    have h02 : b2 = true := by cases b2 with | true => rfl | false => cases hb
    rw [h02] at h2
    exact Qi4 hf (by rw [← ht]; show t0 ≠ 0; rw [eq_of_beq h2.symm]; decide)
   | false => exact Qko.trans (by rw [← ht]; rfl)
  | false =>
   rw [hb1] at h1
   have hf : q.fl ≠ 0 := fun h0 => by rw [h0] at h1; cases h1
   have : Qcv L b q = q := by unfold Qcv; rw [if_neg hf]
   rw [this]
   show q = Qcy 90 t3 q
   unfold Qcy; rw [if_neg hf]⟩
 have HSQ : J0 (strQ b q ⟨t0, t1, t2, t3, t4⟩ = if b1 && b then t1 else ⟨#[]⟩) := ⟨by
  unfold strQ
  rw [h1]
  by_cases hf : q.fl = 0
  ·rw [hf]; cases b <;> simp
  ·rw [beq_eq_false_iff_ne.2 hf]
   simp [hf]⟩
 have HGL : J0 (b2 = true → q.at_ + 1 < L.length) := ⟨fun hb2 => hgl (by rw [hb2] at h2; show t0 ≠ 0; rw [eq_of_beq h2.symm]; decide)⟩
 have HB := J0.m hb
 have H1 := J0.m h1
 have H2 := J0.m h2
 rw [HTQ.o, HSQ.o]
 clear h hG hgl ht hm hb h1 h2 HTQ HSQ
 cases b1 <;> cases b2 <;> cases m
 all_goals
  have hbb := HB.o
  simp only [Bool.true_and, Bool.false_and, Bool.not_false, Bool.not_true] at hbb
  subst hbb
  have c1 : (q.fl == 0) = _ := H1.o.symm
  have c1' : (q.fl != 0) = (!(q.fl == 0)) := rfl
  rw [c1] at c1'
  have c2 : (t0 == 1) = _ := H2.o.symm
  have c2' : (t0 != 1) = (!(t0 == 1)) := rfl
  rw [c2] at c2'
  simp only [Bool.true_and, Bool.false_and, Bool.and_false, Bool.false_eq_true, if_true, if_false, Bool.not_true, Bool.not_false] at c1' c2' ⊢
  go_enter Try.func45, Try.ntmps45
  go_wp2_with fail
  refine HN.o.mono ?_
  rintro e w1 ⟨rfl, hb1⟩
  obtain ⟨W1, hW1⟩ : ∃ W1, W1 = w1.alloc (.cells #[.int .i64 t0, .string t1, .int .u64 t2, .int .i64 t3, .int .i64 t4] 47) := ⟨_, rfl⟩
  have hbw : Below w.heap.size w W1 := Qak hb1 (by rw [hW1]; exact Qab (Below.refl _ _) _)
  have hx1 : W1.heap[w1.heap.size]? = some (.cells #[.int .i64 t0, .string t1, .int .u64 t2, .int .i64 t3, .int .i64 t4] 47 (0, 0)) := by rw [hW1]; exact Qay _ _
  obtain ⟨z0, z1, z2, z3, z4⟩ := Qbi (t := ⟨t0, t1, t2, t3, t4⟩) hx1
  rw [hW1] at z0 z1 z2 z3 z4
  have HBW := J0.m hbw
  have HX1 := J0.m hx1
  have HW1 := J0.m hW1
  clear hb1 hW1 hbw hx1
  go_wp2_with fail
  rw [← HW1.o]
  refine (HKW.o W1).mono ?_
  rintro e w2 ⟨rfl, hb2⟩
  have hx2 := Qae HX1.o hb2
  obtain ⟨z0, z1, z2, z3, z4⟩ := Qbi (t := ⟨t0, t1, t2, t3, t4⟩) hx2
  have hp2 := HP.o.below (Qak HBW.o hb2)
  have y3 := hp2.cf
  have y1 := hp2.c1
  have f1 := hp2.fz 1
  have ne1 : g ≠ w1.heap.size := fun e => by rw [← e] at hx2; rw [hp2.blk] at hx2; injection hx2 with hx2; injection hx2 with _ hx2; exact absurd hx2 (by decide)
  have HB2 := J0.m (Qak HBW.o hb2)
  clear hb2 hx2 hp2
  go_wp2_with (first | (go_at_call 48; (with_reducible refine (HF.o w2 90 t3 (HP.o.below HB2.o)).mono ?_); rintro e w3 ⟨rfl, hp⟩; have HPO := J0.m hp; clear hp) | fail)
  first
   | (go_ret; exact ⟨rfl, HPO.o.of_below HB2.o⟩)
   | (rw [HWR.o]; go_ret; exact ⟨rfl, (HP.o.below HB2.o).step (HGL.o (by first | rfl | trivial)), (Qaj HB2.o _).trans (Qbg _ _ _ _)⟩)
theorem Qgy (w : World) (A : Option Addr) (c : Nat) (L : List Tk) (g : Nat) (q : Q3) (v4 v5 v6 : Value) (b : Bool) (h : IsR w A c L g q v4 v5 v6) (hG : Qdo L) (hb : b = ((tk L q.at_).f0 == 3)) :
  Calls Try.prog 85 #[.pointer (some ⟨g, 0, none⟩)] w fun e w' => e = .returned (.string (strQ b q (tk L q.at_))) ∧ Post w w' A c L g (Qcv L b q) v4 v5 v6 := by
 have HN := J0.m (Qef w A c L g q v4 v5 v6 h)
 have HP := J0.m h
 have HWR := J0.m (Qfa h)
 have HF : J0 (∀ W e p, IsR W A c L g q v4 v5 v6 → Calls Try.prog 48 #[.pointer (some ⟨g, 0, none⟩), .int .i64 p, .int .i64 e] W fun r w' => r = .returned (.tuple #[]) ∧ Post W w' A c L g (Qcy e p q) v4 v5 v6) := ⟨fun W e p hW => Qcs W A c L g q v4 v5 v6 e p hW⟩
 have hgl := hG q.at_ h.lt
 obtain ⟨⟨t0, t1, t2, t3, t4⟩, ht⟩ : ∃ t, t = tk L q.at_ := ⟨_, rfl⟩
 rw [← ht] at HN hb hgl ⊢
 simp only [] at hb
 obtain ⟨b1, h1⟩ : ∃ b1, b1 = (q.fl == 0) := ⟨_, rfl⟩
 have HTQ : J0 (Qcv L b q = if b1 && b then ⟨q.at_ + 1, q.fl, q.pl⟩ else Qcy 90 t3 q) := ⟨by
  cases hb1 : b1 with
  | true =>
   rw [hb1] at h1
   have hf := eq_of_beq h1.symm
   cases hbb : b with
   | true =>
    rw [hbb] at hb
    exact Qi4 hf (by rw [← ht]; show t0 ≠ 0; rw [eq_of_beq hb.symm]; decide)
   | false => exact Qko.trans (by rw [← ht]; rfl)
  | false =>
   rw [hb1] at h1
   have hf : q.fl ≠ 0 := fun h0 => by rw [h0] at h1; cases h1
   have : Qcv L b q = q := by unfold Qcv; rw [if_neg hf]
   rw [this]
   show q = Qcy 90 t3 q
   unfold Qcy; rw [if_neg hf]⟩
 have HSQ : J0 (strQ b q ⟨t0, t1, t2, t3, t4⟩ = if b1 && b then t1 else ⟨#[]⟩) := ⟨by
  unfold strQ
  rw [h1]
  by_cases hf : q.fl = 0
  ·rw [hf]; cases b <;> simp
  ·rw [beq_eq_false_iff_ne.2 hf]
   simp [hf]⟩
 have HGL : J0 (b = true → q.at_ + 1 < L.length) := ⟨fun hb2 => hgl (by rw [hb2] at hb; show t0 ≠ 0; rw [eq_of_beq hb.symm]; decide)⟩
 have HB := J0.m hb
 have H1 := J0.m h1
 rw [HTQ.o, HSQ.o]
 clear h hG hgl ht hb h1 HTQ HSQ
 cases b1 <;> cases b
 all_goals
  have c1 : (q.fl == 0) = _ := H1.o.symm
  have c1' : (q.fl != 0) = (!(q.fl == 0)) := rfl
  rw [c1] at c1'
  have c2 : (t0 == 3) = _ := HB.o.symm
  have c2' : (t0 != 3) = (!(t0 == 3)) := rfl
  rw [c2] at c2'
  simp only [Bool.true_and, Bool.false_and, Bool.and_false, Bool.false_eq_true, if_true, if_false, Bool.not_true, Bool.not_false] at c1' c2' ⊢
  go_enter Try.func85, Try.ntmps85
  go_wp2_with fail
  refine HN.o.mono ?_
  rintro e w1 ⟨rfl, hb1⟩
  obtain ⟨W1, hW1⟩ : ∃ W1, W1 = w1.alloc (.cells #[.int .i64 t0, .string t1, .int .u64 t2, .int .i64 t3, .int .i64 t4] 47) := ⟨_, rfl⟩
  have hbw : Below w.heap.size w W1 := Qak hb1 (by rw [hW1]; exact Qab (Below.refl _ _) _)
  have hx1 : W1.heap[w1.heap.size]? = some (.cells #[.int .i64 t0, .string t1, .int .u64 t2, .int .i64 t3, .int .i64 t4] 47 (0, 0)) := by rw [hW1]; exact Qay _ _
  obtain ⟨z0, z1, z2, z3, z4⟩ := Qbi (t := ⟨t0, t1, t2, t3, t4⟩) hx1
  have hp2 := HP.o.below hbw
  have y3 := hp2.cf
  have y1 := hp2.c1
  have f1 := hp2.fz 1
  have ne1 : g ≠ w1.heap.size := fun e => by rw [← e] at hx1; rw [hp2.blk] at hx1; injection hx1 with hx1; injection hx1 with _ hx1; exact absurd hx1 (by decide)
  rw [hW1] at z0 z1 z2 z3 z4 y1 y3 f1
  have HBW := J0.m hbw
  have HW1 := J0.m hW1
  clear hb1 hW1 hbw hx1 hp2
  go_wp2_with (first | (go_at_call 48; rw [← HW1.o]; (with_reducible refine (HF.o W1 90 t3 (HP.o.below HBW.o)).mono ?_); rintro e w3 ⟨rfl, hp⟩; have HPO := J0.m hp; clear hp) | fail)
  first
   | (go_ret; exact ⟨rfl, HPO.o.of_below HBW.o⟩)
   | (rw [HWR.o, ← HW1.o]; go_ret; exact ⟨rfl, (HP.o.below HBW.o).step (HGL.o (by first | rfl | trivial)), (Qaj HBW.o _).trans (Qbg _ _ _ _)⟩)
end Go.Proofs.Ytbdcndkafaajpaa.R
end
section
namespace Go.Proofs.Ytbdcndkafaajpaa.A
open Go.RowKit Ytbdcndkafaajpaa.X YtbdcndkafaajpaaW.PrintWords YtbdcndkafaajpaaW.PrintLast YtbdcndkafaajpaaW.PrintMore
open Ytbdcndkafaajpaa.P (Nd EO Res hd isT isM Qar mxl comb mk1)
def Ends (w : World) (A : Option Addr) (c : Nat) (L : List Tk) (g : Nat) (vn vd : Value) (s : Sg) (w' : World) : Prop := ∃ vn' vd', Is w' A c L g vn' vd' s ∧ Hv w w' g vn vd vn' vd'
def outS (lev : Nat) (ns : List Nd) (dp : List Int) : Res EO → Sg
 | .ok a r => .ok r lev (ns ++ a.ns) (dp ++ [a.dep])
 | .bad e p => .bad e p
def CT (n : Nat) (f : P.Fn) (fid : Nat) : Prop := ∀ (w : World) (A : Option Addr) (c : Nat) (L : List Tk) (g : Nat) (vn vd : Value) (ts : List Tk) (lev : Nat) (ns : List Nd) (dp : List Int), Good L → Is w A c L g vn vd (.ok ts lev ns dp) → (∀ p, P.X n f lev ts ≠ .bad 0 p) →
 Calls Try.prog fid #[.pointer (some ⟨g, 0, none⟩)] w fun e w' => e = .returned (.tuple #[]) ∧ Ends w A c L g vn vd (outS lev ns dp (P.X n f lev ts)) w'
theorem tl45 : (mk1 45).toList = [45] := by rw [ByteArray.toList_eq]; rfl
theorem Qep (m : Nd) (r : List Tk) (lev : Nat) (ns : List Nd) (dp : List Int) (kids : List EO) : putS m r lev (ns ++ (kids.map EO.ns).flatten) dp (kids.map EO.dep) = outS lev ns dp (comb m kids r) := by
 unfold putS comb
 split
 ·rfl
 ·show Sg.ok _ _ _ _ = Sg.ok _ _ _ _
  rw [List.append_assoc]
section
variable {w w' w2 : World} {A : Option Addr} {c : Nat} {L : List Tk} {g : Nat} {vn vd vn' vd' : Value} {s s2 : Sg}
theorem Is.glt (h : Is w A c L g vn vd s) : g < w.heap.size := Is.to (P := fun _ => g < w.heap.size) h (fun q lev ns dp hE => hE.p.glt)
theorem Is.box (h : Is w A c L g vn vd s) {b : Nat} {cs : Array Value} (hb : w.heap[b]? = some (.cells cs 47 (0, 0))) : b ≠ g ∧ vn.ownBlock ≠ some b ∧ vd.ownBlock ≠ some b :=
 Is.to (P := fun _ => b ≠ g ∧ vn.ownBlock ≠ some b ∧ vd.ownBlock ≠ some b) h (fun q lev ns dp hE => ⟨fun e => by
  subst e
  have h1 := hE.p.blk
  rw [hb] at h1
  injection h1 with h1
  injection h1 with _ h1 _
  exact absurd h1 (by decide), fun e => Kd.R_ne hE.n hb (by decide) e.symm, fun e => Kd.R_ne hE.d hb (by decide) e.symm⟩)
theorem Is.Qbv (h : Is w A c L g vn vd s) (hv : Hv w w' g vn vd vn' vd') {b : Nat} {cs : Array Value} (hb : w.heap[b]? = some (.cells cs 47 (0, 0))) : w'.heap[b]? = some (.cells cs 47 (0, 0)) := by
 obtain ⟨h1, h2, h3⟩ := h.box hb
 exact hv.blk hb h1 h2 h3
theorem Hv.refl (hg : g ≤ w.heap.size) : Hv w w g vn vd vn vd := Hv.Qa6 (Qaj (Below.refl _ _) _) hg
theorem Hv.below (h : Hv w w' g vn vd vn' vd') (hb : Below w'.heap.size w' w2) (hg : g ≤ w'.heap.size) : Hv w w2 g vn vd vn' vd' := h.trans (Hv.Qa6 (Qaj hb _) hg)
theorem Ends.below (h : Ends w A c L g vn vd s w') (hb : Below w'.heap.size w' w2) : Ends w A c L g vn vd s w2 := by
 obtain ⟨vn', vd', h1, h2⟩ := h
 exact ⟨vn', vd', h1.below hb, h2.below hb (by have := h1.glt; omega)⟩
end
def LpM (final : Res EO) (f : EO → P.Fn) (w : World) (A : Option Addr) (c : Nat) (L : List Tk) (g : Nat) (vn vd : Value) (lev : Nat) (ns : List Nd) (dp : List Int) (k : Nat) (wr : World) : Prop :=
 ∃ vn1 vd1, Hv w wr g vn vd vn1 vd1 ∧ ((∃ e p, final = .bad e p ∧ Is wr A c L g vn1 vd1 (.bad e p)) ∨ ∃ acc r, P.X k (f acc) lev r = final ∧ Is wr A c L g vn1 vd1 (.ok r lev (ns ++ acc.ns) (dp ++ [acc.dep])))
theorem LpM.next {final : Res EO} {f : EO → P.Fn} {w w5 : World} {A : Option Addr} {c : Nat} {L : List Tk} {g : Nat} {vn vd vn5 vd5 : Value} {lev : Nat} {ns : List Nd} {dp : List Int} {m : Nat} {C : Res EO} (hv : Hv w w5 g vn vd vn5 vd5) (h5 : Is w5 A c L g vn5 vd5 (outS lev ns dp C)) (hfe : C.bind (fun c2 r => P.X m (f c2) lev r) = final) : LpM final f w A c L g vn vd lev ns dp m w5 := by
 refine ⟨vn5, vd5, hv, ?_⟩
 cases C with
 | ok c2 r3 => exact .inr ⟨c2, r3, hfe, h5⟩
 | bad e0 p0 => exact .inl ⟨e0, p0, hfe.symm, h5⟩
theorem Qkn (n : Nat) (HF : ∀ m, m ≤ n → CT m .fac 86) : CT (n + 1) .term 73 := by
 intro w A c L g vn vd ts lev ns dp hG h hfin
 have hbd : ns.length + ts.length ≤ 33554432 := by obtain ⟨q, _, _, _, h4⟩ := h; exact h4.sz
 obtain ⟨final, hfl⟩ : ∃ final, final = P.X (n + 1) .term lev ts := ⟨_, rfl⟩
 rw [← hfl] at hfin ⊢
 have hX : (P.X n .fac lev ts).bind (fun a r => P.X n (.mulL a) lev r) = final := by rw [hfl, P.X]
 have hne : ∀ p, P.X n .fac lev ts ≠ .bad 0 p := fun p e => hfin p (by rw [← hX, e]; rfl)
 have H1 := J0.m (HF n (Nat.le_refl n) w A c L g vn vd ts lev ns dp hG h hne)
 have HGL := J0.m h.glt
 have HFI := J0.m hfin
 have HX := J0.m hX
 have HG := J0.m hG
 have HBD := J0.m hbd
 have HTS := J0.m (fun a r => P.X_sz n .fac lev ts a r)
 have HF := J0.m HF
 clear h hfl hX hne hfin hG hbd
 go_enter Try.func73, Try.ntmps73
 go_wp2_with fail
 refine H1.o.mono ?_
 rintro e w1 ⟨rfl, he1⟩
 have hlp : LpM final .mulL w A c L g vn vd lev ns dp n w1 := by
  obtain ⟨vn1, vd1, hi, hv⟩ := he1
  refine ⟨vn1, vd1, hv, ?_⟩
  have hx := HX.o
  cases hr : P.X n .fac lev ts with
  | ok a r => rw [hr] at hi hx; exact .inr ⟨a, r, hx, hi⟩
  | bad e p => rw [hr] at hi hx; exact .inl ⟨e, p, hx.symm, hi⟩
 have HLP := J0.m hlp
 clear he1 hlp
 go_wp2_with fail
 go_loopg [] n (fun k wr => J0 (LpM final .mulL w A c L g vn vd lev ns dp k wr) ∧ J0 (k ≤ n))
 case atStart => exact ⟨HLP, ⟨Nat.le_refl _⟩⟩
 case round =>
  obtain ⟨⟨vn1, vd1, hv, hs⟩, hk⟩ := hrel
  have HV := J0.m hv
  rcases hs with ⟨e, p, hfp, hi⟩ | ⟨acc, r, hx, hi⟩
  ·have HI := J0.m hi
   have HIS := J0.m (Qaz wr A c L g vn1 vd1 (.bad e p) 4 ⟨#[42]⟩ hi)
   have HFP := J0.m hfp
   clear hi hv hfp
   go_wp2_with fail
   refine HIS.o.mono ?_
   rintro e' w2 ⟨hr, hb2⟩
   obtain rfl : e' = .returned (.bool false) := hr
   have HB2 := J0.m hb2
   clear hb2
   go_wp2
   go_end0
   rw [HFP.o]
   exact ⟨rfl, vn1, vd1, HI.o.below HB2.o, HV.o.below HB2.o (by have := HI.o.glt; omega)⟩
  ·have hnb : gk ≠ 0 := fun e => by subst e; exact HFI.o 0 (by rw [← hx]; rfl)
   obtain ⟨m, rfl⟩ : ∃ m, gk = m + 1 := ⟨gk - 1, by omega⟩
   have HI := J0.m hi
   have HIS := J0.m (Qaz wr A c L g vn1 vd1 _ 4 ⟨#[42]⟩ hi)
   rw [P.X] at hx
   by_cases hm : isM 42 r = true
   ·have hlen := P.Qc2 hm
    have hkd : (hd r).f0 ≠ 0 := by rw [Qbz hm]; decide
    rw [if_pos hm] at hx
    have HISt : J0 (Sg.is 4 ⟨#[42]⟩ (.ok r lev (ns ++ acc.ns) (dp ++ [acc.dep])) = true) := ⟨hm⟩
    obtain ⟨t, ht⟩ : ∃ t, t = hd r := ⟨_, rfl⟩
    have HTK : J0 (∀ W, Is W A c L g vn1 vd1 (.ok r lev (ns ++ acc.ns) (dp ++ [acc.dep])) → Calls Try.prog 31 #[.pointer (some ⟨g, 0, none⟩), .bool true] W fun e w' => e = .returned (.agg #[.int .i64 t.f0, .string t.f1, .int .u64 t.f2, .int .i64 t.f3, .int .i64 t.f4]) ∧ Is w' A c L g vn1 vd1 (.ok r.tail lev (ns ++ acc.ns) (dp ++ [acc.dep])) ∧ W.grownBy w' (some g)) := ⟨fun W hW => by rw [ht]; exact Qb9 W A c L g vn1 vd1 r lev _ _ true HG.o (fun _ => hkd) hW⟩
    rw [← ht] at hx
    have hne : ∀ p, P.X m .fac lev r.tail ≠ .bad 0 p := fun p e => HFI.o p (by rw [← hx, e]; rfl)
    have HFA : J0 (∀ W, Is W A c L g vn1 vd1 (.ok r.tail lev (ns ++ acc.ns) (dp ++ [acc.dep])) → Calls Try.prog 86 #[.pointer (some ⟨g, 0, none⟩)] W fun e w' => e = .returned (.tuple #[]) ∧ Ends W A c L g vn1 vd1 (outS lev (ns ++ acc.ns) (dp ++ [acc.dep]) (P.X m .fac lev r.tail)) w') := ⟨fun W hW => HF.o m (by have := hk.o; omega) W A c L g vn1 vd1 _ _ _ _ HG.o hW hne⟩
    have HSZ := J0.m (fun a s => P.X_sz m .fac lev r.tail a s)
    have HN1 : J0 ((ns ++ acc.ns).length + r.length ≤ 33554432) := ⟨by obtain ⟨q, _, _, _, h4⟩ := hi; exact h4.sz⟩
    have HLEN := J0.m hlen
    have HXX := J0.m hx
    clear hi hv hx hm hkd hlen hne ht
    go_wp2_with fail
    refine HIS.o.mono ?_
    rw [HISt.o]
    rintro e' w2 ⟨rfl, hb2⟩
    have HI2 := J0.m (HI.o.below hb2)
    have HV2 := J0.m (HV.o.below hb2 (by have := HI.o.glt; omega))
    clear hb2
    go_wp2_with fail
    refine (HTK.o w2 HI2.o).mono ?_
    rintro e' w3 ⟨rfl, hi3, hg3⟩
    have HV3 := J0.m (HV2.o.trans (Hv.Qa6 hg3 (by have := HI2.o.glt; omega)))
    obtain ⟨W3, hW3⟩ : ∃ W3, W3 = w3.alloc (.cells #[.int .i64 t.f0, .string t.f1, .int .u64 t.f2, .int .i64 t.f3, .int .i64 t.f4] 47) := ⟨_, rfl⟩
    have hB3 : Below w3.heap.size w3 W3 := by rw [hW3]; exact Qab (Below.refl _ _) _
    obtain ⟨b, hb⟩ : ∃ b, b = w3.heap.size := ⟨_, rfl⟩
    have HX3 : J0 (W3.heap[b]? = some (.cells #[.int .i64 t.f0, .string t.f1, .int .u64 t.f2, .int .i64 t.f3, .int .i64 t.f4] 47 (0, 0))) := ⟨by rw [hW3, hb]; exact Qay _ _⟩
    have HI3 := J0.m (hi3.below hB3)
    have HV4 := J0.m (HV3.o.below hB3 (by have := hi3.glt; omega))
    have HW3 := J0.m hW3
    have HB3 := J0.m hb
    clear hi3 hg3 hB3 hW3 hb
    go_wp2_with fail
    rw [← HW3.o, ← HB3.o]
    refine (HFA.o W3 HI3.o).mono ?_
    rintro e' w4 ⟨rfl, vn4, vd4, hi4, hv4⟩
    have hx4 := HI3.o.Qbv hv4 HX3.o
    obtain ⟨z0, z1, z2, z3, z4⟩ := Qbi hx4
    have HV5 := J0.m (HV4.o.trans hv4)
    cases hR : P.X m .fac lev r.tail with
    | bad e0 p0 =>
     rw [hR] at hi4
     have HI4 := J0.m (show Is w4 A c L g vn4 vd4 (.bad e0 p0) from hi4)
     have HPT := J0.m (Qf2 w4 A c L g vn4 vd4 e0 p0 (P.node 8 t.f3) 2 HI4.o)
     have HFE : J0 (final = .bad e0 p0) := ⟨by rw [← HXX.o, hR]; rfl⟩
     clear hi4 hv4 hx4 hR
     go_wp2_with fail
     refine HPT.o.mono ?_
     rintro e' w5 ⟨rfl, hi5, hb5⟩
     have HI5 := J0.m hi5
     have HV6 := J0.m (HV5.o.below hb5 (by have := HI4.o.glt; omega))
     clear hi5 hb5
     go_wp2
     go_roundg 0
     case measure => omega
     case rel => exact ⟨⟨vn4, vd4, HV6.o, .inl ⟨e0, p0, HFE.o, HI5.o⟩⟩, ⟨Nat.zero_le _⟩⟩
    | ok b2 r2 =>
     rw [hR] at hi4
     have HI4 : J0 (Is w4 A c L g vn4 vd4 (.ok r2 lev (ns ++ ([acc, b2].map EO.ns).flatten) (dp ++ [acc, b2].map EO.dep))) := ⟨by
      have e1 : ns ++ ([acc, b2].map EO.ns).flatten = (ns ++ acc.ns) ++ b2.ns := by simp
      have e2 : dp ++ [acc, b2].map EO.dep = (dp ++ [acc.dep]) ++ [b2.dep] := by simp
      rw [e1, e2]; exact hi4⟩
     have hsz := HSZ.o b2 r2 hR
     have HPT := J0.m (Qf0 w4 A c L g vn4 vd4 r2 lev _ dp ([acc, b2].map EO.dep) (P.node 8 t.f3) HI4.o (by
      have h1 := HN1.o
      have h2 := HLEN.o
      simp only [P.base] at hsz
      simp only [List.length_append, List.map_cons, List.map_nil, List.flatten_cons, List.flatten_nil, List.append_nil] at *
      omega))
     rw [Qep] at HPT
     have HFE : J0 ((comb (P.node 8 t.f3) [acc, b2] r2).bind (fun c2 r => P.X m (.mulL c2) lev r) = final) := ⟨by rw [← HXX.o, hR]; rfl⟩
     clear hi4 hv4 hx4 hR hsz
     go_wp2_with fail
     refine HPT.o.mono ?_
     rintro e' w5 ⟨rfl, vn5, vd5, hi5, hv5⟩
     have HI5 := J0.m hi5
     have HV6 := J0.m (HV5.o.trans hv5)
     clear hi5 hv5
     go_wp2
     go_roundg m
     case measure => omega
     case rel => exact ⟨⟨LpM.next HV6.o HI5.o HFE.o⟩, ⟨by have := hk.o; omega⟩⟩
   ·have hmf : isM 42 r = false := by simpa using hm
    rw [if_neg hm] at hx
    have HISt : J0 (Sg.is 4 ⟨#[42]⟩ (.ok r lev (ns ++ acc.ns) (dp ++ [acc.dep])) = false) := ⟨hmf⟩
    have HXX := J0.m hx
    clear hi hv hx hm hmf
    go_wp2_with fail
    refine HIS.o.mono ?_
    rw [HISt.o]
    rintro e' w2 ⟨rfl, hb2⟩
    have HB2 := J0.m hb2
    clear hb2
    go_wp2
    go_end0
    rw [← HXX.o]
    exact ⟨rfl, vn1, vd1, HI.o.below HB2.o, HV.o.below HB2.o (by have := HI.o.glt; omega)⟩
theorem Qk9 (n : Nat) (HF : ∀ m, m ≤ n → CT m .term 73) : CT (n + 1) .expr 49 := by
 intro w A c L g vn vd ts lev ns dp hG h hfin
 have hbd : ns.length + ts.length ≤ 33554432 := by obtain ⟨q, _, _, _, h4⟩ := h; exact h4.sz
 obtain ⟨final, hfl⟩ : ∃ final, final = P.X (n + 1) .expr lev ts := ⟨_, rfl⟩
 rw [← hfl] at hfin ⊢
 have hX : (P.X n .term lev ts).bind (fun a r => P.X n (.addL a) lev r) = final := by rw [hfl, P.X]
 have hne : ∀ p, P.X n .term lev ts ≠ .bad 0 p := fun p e => hfin p (by rw [← hX, e]; rfl)
 have H1 := J0.m (HF n (Nat.le_refl n) w A c L g vn vd ts lev ns dp hG h hne)
 have HGL := J0.m h.glt
 have HFI := J0.m hfin
 have HX := J0.m hX
 have HG := J0.m hG
 have HBD := J0.m hbd
 have HTS := J0.m (fun a r => P.X_sz n .term lev ts a r)
 have HF := J0.m HF
 clear h hfl hX hne hfin hG hbd
 go_enter Try.func49, Try.ntmps49
 go_wp2_with fail
 refine H1.o.mono ?_
 rintro e w1 ⟨rfl, he1⟩
 have hlp : LpM final .addL w A c L g vn vd lev ns dp n w1 := by
  obtain ⟨vn1, vd1, hi, hv⟩ := he1
  refine ⟨vn1, vd1, hv, ?_⟩
  have hx := HX.o
  cases hr : P.X n .term lev ts with
  | ok a r => rw [hr] at hi hx; exact .inr ⟨a, r, hx, hi⟩
  | bad e p => rw [hr] at hi hx; exact .inl ⟨e, p, hx.symm, hi⟩
 have HLP := J0.m hlp
 clear he1 hlp
 go_wp2_with fail
 go_loopg [] n (fun k wr => J0 (LpM final .addL w A c L g vn vd lev ns dp k wr) ∧ J0 (k ≤ n))
 case atStart => exact ⟨HLP, ⟨Nat.le_refl _⟩⟩
 case round =>
  obtain ⟨⟨vn1, vd1, hv, hs⟩, hk⟩ := hrel
  have HV := J0.m hv
  rcases hs with ⟨e, p, hfp, hi⟩ | ⟨acc, r, hx, hi⟩
  ·have HI := J0.m hi
   have HIS := J0.m (Qaz wr A c L g vn1 vd1 (.bad e p) 4 ⟨#[43]⟩ hi)
   have HFP := J0.m hfp
   clear hi hv hfp
   go_wp2_with fail
   refine HIS.o.mono ?_
   rintro e' w2 ⟨hr, hb2⟩
   obtain rfl : e' = .returned (.bool false) := hr
   have HIS2 := J0.m (Qaz w2 A c L g vn1 vd1 (.bad e p) 4 ⟨#[45]⟩ (HI.o.below hb2))
   have HB2' := J0.m hb2
   clear hb2
   go_wp2_with fail
   refine HIS2.o.mono ?_
   rintro e' w2b ⟨hr, hb2⟩
   obtain rfl : e' = .returned (.bool false) := hr
   have HB2 := J0.m (Qak HB2'.o hb2)
   clear hb2
   go_wp2
   go_end0
   rw [HFP.o]
   exact ⟨rfl, vn1, vd1, HI.o.below HB2.o, HV.o.below HB2.o (by have := HI.o.glt; omega)⟩
  ·have hnb : gk ≠ 0 := fun e => by subst e; exact HFI.o 0 (by rw [← hx]; rfl)
   obtain ⟨m, rfl⟩ : ∃ m, gk = m + 1 := ⟨gk - 1, by omega⟩
   have HI := J0.m hi
   have HIS := J0.m (Qaz wr A c L g vn1 vd1 _ 4 ⟨#[43]⟩ hi)
   rw [P.X] at hx
   cases hp : isM 43 r with
   | true =>
    have hm := hp
    have hlen := P.Qc2 hm
    have hkd : (hd r).f0 ≠ 0 := by rw [Qbz hm]; decide
    rw [if_pos (by rw [hm]; rfl)] at hx
    have HISt : J0 (Sg.is 4 ⟨#[43]⟩ (.ok r lev (ns ++ acc.ns) (dp ++ [acc.dep])) = true) := ⟨hm⟩
    obtain ⟨t, ht⟩ : ∃ t, t = hd r := ⟨_, rfl⟩
    have HTK : J0 (∀ W, Is W A c L g vn1 vd1 (.ok r lev (ns ++ acc.ns) (dp ++ [acc.dep])) → Calls Try.prog 31 #[.pointer (some ⟨g, 0, none⟩), .bool true] W fun e w' => e = .returned (.agg #[.int .i64 t.f0, .string t.f1, .int .u64 t.f2, .int .i64 t.f3, .int .i64 t.f4]) ∧ Is w' A c L g vn1 vd1 (.ok r.tail lev (ns ++ acc.ns) (dp ++ [acc.dep])) ∧ W.grownBy w' (some g)) := ⟨fun W hW => by rw [ht]; exact Qb9 W A c L g vn1 vd1 r lev _ _ true HG.o (fun _ => hkd) hW⟩
    rw [← ht] at hx
    obtain ⟨bq, hbq⟩ : ∃ bq, bq = (t.f1.toList == (mk1 45).toList) := ⟨_, rfl⟩
    rw [← hbq] at hx
    obtain ⟨op, hop⟩ : ∃ op : Int, op = (if bq = true then 7 else 6) := ⟨_, rfl⟩
    rw [← hop] at hx
    have HOP := J0.m hop
    have HBQ := J0.m hbq
    have hne : ∀ p, P.X m .term lev r.tail ≠ .bad 0 p := fun p e => HFI.o p (by rw [← hx, e]; rfl)
    have HFA : J0 (∀ W, Is W A c L g vn1 vd1 (.ok r.tail lev (ns ++ acc.ns) (dp ++ [acc.dep])) → Calls Try.prog 73 #[.pointer (some ⟨g, 0, none⟩)] W fun e w' => e = .returned (.tuple #[]) ∧ Ends W A c L g vn1 vd1 (outS lev (ns ++ acc.ns) (dp ++ [acc.dep]) (P.X m .term lev r.tail)) w') := ⟨fun W hW => HF.o m (by have := hk.o; omega) W A c L g vn1 vd1 _ _ _ _ HG.o hW hne⟩
    have HSZ := J0.m (fun a s => P.X_sz m .term lev r.tail a s)
    have HN1 : J0 ((ns ++ acc.ns).length + r.length ≤ 33554432) := ⟨by obtain ⟨q, _, _, _, h4⟩ := hi; exact h4.sz⟩
    have HLEN := J0.m hlen
    have HXX := J0.m hx
    clear hi hv hx hm hp hkd hlen hne ht hbq hop
    go_wp2_with fail
    refine HIS.o.mono ?_
    rw [HISt.o]
    rintro e' w2 ⟨rfl, hb2⟩
    have HI2 := J0.m (HI.o.below hb2)
    have HV2 := J0.m (HV.o.below hb2 (by have := HI.o.glt; omega))
    clear hb2
    go_wp2_with fail
    refine (HTK.o w2 HI2.o).mono ?_
    rintro e' w3 ⟨rfl, hi3, hg3⟩
    have HV3 := J0.m (HV2.o.trans (Hv.Qa6 hg3 (by have := HI2.o.glt; omega)))
    obtain ⟨W3, hW3⟩ : ∃ W3, W3 = w3.alloc (.cells #[.int .i64 t.f0, .string t.f1, .int .u64 t.f2, .int .i64 t.f3, .int .i64 t.f4] 47) := ⟨_, rfl⟩
    have hB3 : Below w3.heap.size w3 W3 := by rw [hW3]; exact Qab (Below.refl _ _) _
    obtain ⟨b, hb⟩ : ∃ b, b = w3.heap.size := ⟨_, rfl⟩
    have HX3 : J0 (W3.heap[b]? = some (.cells #[.int .i64 t.f0, .string t.f1, .int .u64 t.f2, .int .i64 t.f3, .int .i64 t.f4] 47 (0, 0))) := ⟨by rw [hW3, hb]; exact Qay _ _⟩
    have HI3 := J0.m (hi3.below hB3)
    have HV4 := J0.m (HV3.o.below hB3 (by have := hi3.glt; omega))
    have HW3 := J0.m hW3
    have HB3 := J0.m hb
    clear hi3 hg3 hB3 hW3 hb
    go_wp2_with fail
    rw [← HW3.o, ← HB3.o]
    refine (HFA.o W3 HI3.o).mono ?_
    rintro e' w4 ⟨rfl, vn4, vd4, hi4, hv4⟩
    have hx4 := HI3.o.Qbv hv4 HX3.o
    obtain ⟨z0, z1, z2, z3, z4⟩ := Qbi hx4
    have HV5 := J0.m (HV4.o.trans hv4)
    cases hR : P.X m .term lev r.tail with
    | bad e0 p0 =>
     rw [hR] at hi4
     have HI4 := J0.m (show Is w4 A c L g vn4 vd4 (.bad e0 p0) from hi4)
     have HPT := J0.m (Qf2 w4 A c L g vn4 vd4 e0 p0 (P.node op t.f3) 2 HI4.o)
     have HFE : J0 (final = .bad e0 p0) := ⟨by rw [← HXX.o, hR]; rfl⟩
     clear hi4 hv4 hx4 hR
     cases bq
     all_goals
      have c5 := HBQ.o.symm
      have c6 := c5
      rw [tl45] at c6
      have hop := HOP.o
      simp only [if_true, Bool.false_eq_true, if_false] at hop
      subst hop
      clear HOP HBQ
      go_wp2_with fail
      refine HPT.o.mono ?_
      rintro e' w5 ⟨rfl, hi5, hb5⟩
      have HI5 := J0.m hi5
      have HV6 := J0.m (HV5.o.below hb5 (by have := HI4.o.glt; omega))
      clear hi5 hb5
      go_wp2
      go_roundg 0
      case measure => omega
      case rel => exact ⟨⟨vn4, vd4, HV6.o, .inl ⟨e0, p0, HFE.o, HI5.o⟩⟩, ⟨Nat.zero_le _⟩⟩
    | ok b2 r2 =>
     rw [hR] at hi4
     have HI4 : J0 (Is w4 A c L g vn4 vd4 (.ok r2 lev (ns ++ ([acc, b2].map EO.ns).flatten) (dp ++ [acc, b2].map EO.dep))) := ⟨by
      have e1 : ns ++ ([acc, b2].map EO.ns).flatten = (ns ++ acc.ns) ++ b2.ns := by simp
      have e2 : dp ++ [acc, b2].map EO.dep = (dp ++ [acc.dep]) ++ [b2.dep] := by simp
      rw [e1, e2]; exact hi4⟩
     have hsz := HSZ.o b2 r2 hR
     have HPT := J0.m (Qf0 w4 A c L g vn4 vd4 r2 lev _ dp ([acc, b2].map EO.dep) (P.node op t.f3) HI4.o (by
      have h1 := HN1.o
      have h2 := HLEN.o
      simp only [P.base] at hsz
      simp only [List.length_append, List.map_cons, List.map_nil, List.flatten_cons, List.flatten_nil, List.append_nil] at *
      omega))
     rw [Qep] at HPT
     have HFE : J0 ((comb (P.node op t.f3) [acc, b2] r2).bind (fun c2 r => P.X m (.addL c2) lev r) = final) := ⟨by rw [← HXX.o, hR]; rfl⟩
     clear hi4 hv4 hx4 hR hsz
     cases bq
     all_goals
      have c5 := HBQ.o.symm
      have c6 := c5
      rw [tl45] at c6
      have hop := HOP.o
      simp only [if_true, Bool.false_eq_true, if_false] at hop
      subst hop
      clear HOP HBQ
      go_wp2_with fail
      refine HPT.o.mono ?_
      rintro e' w5 ⟨rfl, vn5, vd5, hi5, hv5⟩
      have HI5 := J0.m hi5
      have HV6 := J0.m (HV5.o.trans hv5)
      clear hi5 hv5
      go_wp2
      go_roundg m
      case measure => omega
      case rel => exact ⟨⟨LpM.next HV6.o HI5.o HFE.o⟩, ⟨by have := hk.o; omega⟩⟩
   | false =>
    cases hm : isM 45 r with
    | true =>
     have hlen := P.Qc2 hm
     have hkd : (hd r).f0 ≠ 0 := by rw [Qbz hm]; decide
     rw [if_pos (by rw [hm, Bool.or_true])] at hx
     have HISt : J0 (Sg.is 4 ⟨#[43]⟩ (.ok r lev (ns ++ acc.ns) (dp ++ [acc.dep])) = false) := ⟨hp⟩
     have HISt2 : J0 (Sg.is 4 ⟨#[45]⟩ (.ok r lev (ns ++ acc.ns) (dp ++ [acc.dep])) = true) := ⟨hm⟩
     obtain ⟨t, ht⟩ : ∃ t, t = hd r := ⟨_, rfl⟩
     have HTK : J0 (∀ W, Is W A c L g vn1 vd1 (.ok r lev (ns ++ acc.ns) (dp ++ [acc.dep])) → Calls Try.prog 31 #[.pointer (some ⟨g, 0, none⟩), .bool true] W fun e w' => e = .returned (.agg #[.int .i64 t.f0, .string t.f1, .int .u64 t.f2, .int .i64 t.f3, .int .i64 t.f4]) ∧ Is w' A c L g vn1 vd1 (.ok r.tail lev (ns ++ acc.ns) (dp ++ [acc.dep])) ∧ W.grownBy w' (some g)) := ⟨fun W hW => by rw [ht]; exact Qb9 W A c L g vn1 vd1 r lev _ _ true HG.o (fun _ => hkd) hW⟩
     rw [← ht] at hx
     obtain ⟨bq, hbq⟩ : ∃ bq, bq = (t.f1.toList == (mk1 45).toList) := ⟨_, rfl⟩
     rw [← hbq] at hx
     obtain ⟨op, hop⟩ : ∃ op : Int, op = (if bq = true then 7 else 6) := ⟨_, rfl⟩
     rw [← hop] at hx
     have HOP := J0.m hop
     have HBQ := J0.m hbq
     have hne : ∀ p, P.X m .term lev r.tail ≠ .bad 0 p := fun p e => HFI.o p (by rw [← hx, e]; rfl)
     have HFA : J0 (∀ W, Is W A c L g vn1 vd1 (.ok r.tail lev (ns ++ acc.ns) (dp ++ [acc.dep])) → Calls Try.prog 73 #[.pointer (some ⟨g, 0, none⟩)] W fun e w' => e = .returned (.tuple #[]) ∧ Ends W A c L g vn1 vd1 (outS lev (ns ++ acc.ns) (dp ++ [acc.dep]) (P.X m .term lev r.tail)) w') := ⟨fun W hW => HF.o m (by have := hk.o; omega) W A c L g vn1 vd1 _ _ _ _ HG.o hW hne⟩
     have HSZ := J0.m (fun a s => P.X_sz m .term lev r.tail a s)
     have HN1 : J0 ((ns ++ acc.ns).length + r.length ≤ 33554432) := ⟨by obtain ⟨q, _, _, _, h4⟩ := hi; exact h4.sz⟩
     have HLEN := J0.m hlen
     have HXX := J0.m hx
     clear hi hv hx hm hp hkd hlen hne ht hbq hop
     go_wp2_with fail
     refine HIS.o.mono ?_
     rw [HISt.o]
     rintro e' w2b ⟨rfl, hb2b⟩
     have HI2b := J0.m (HI.o.below hb2b)
     have HV2b := J0.m (HV.o.below hb2b (by have := HI.o.glt; omega))
     clear hb2b
     go_wp2_with fail
     refine (Qaz w2b A c L g vn1 vd1 _ 4 ⟨#[45]⟩ HI2b.o).mono ?_
     rw [HISt2.o]
     rintro e' w2 ⟨rfl, hb2⟩
     have HI2 := J0.m (HI2b.o.below hb2)
     have HV2 := J0.m (HV2b.o.below hb2 (by have := HI2b.o.glt; omega))
     clear hb2
     go_wp2_with fail
     refine (HTK.o w2 HI2.o).mono ?_
     rintro e' w3 ⟨rfl, hi3, hg3⟩
     have HV3 := J0.m (HV2.o.trans (Hv.Qa6 hg3 (by have := HI2.o.glt; omega)))
     obtain ⟨W3, hW3⟩ : ∃ W3, W3 = w3.alloc (.cells #[.int .i64 t.f0, .string t.f1, .int .u64 t.f2, .int .i64 t.f3, .int .i64 t.f4] 47) := ⟨_, rfl⟩
     have hB3 : Below w3.heap.size w3 W3 := by rw [hW3]; exact Qab (Below.refl _ _) _
     obtain ⟨b, hb⟩ : ∃ b, b = w3.heap.size := ⟨_, rfl⟩
     have HX3 : J0 (W3.heap[b]? = some (.cells #[.int .i64 t.f0, .string t.f1, .int .u64 t.f2, .int .i64 t.f3, .int .i64 t.f4] 47 (0, 0))) := ⟨by rw [hW3, hb]; exact Qay _ _⟩
     have HI3 := J0.m (hi3.below hB3)
     have HV4 := J0.m (HV3.o.below hB3 (by have := hi3.glt; omega))
     have HW3 := J0.m hW3
     have HB3 := J0.m hb
     clear hi3 hg3 hB3 hW3 hb
     go_wp2_with fail
     rw [← HW3.o, ← HB3.o]
     refine (HFA.o W3 HI3.o).mono ?_
     rintro e' w4 ⟨rfl, vn4, vd4, hi4, hv4⟩
     have hx4 := HI3.o.Qbv hv4 HX3.o
     obtain ⟨z0, z1, z2, z3, z4⟩ := Qbi hx4
     have HV5 := J0.m (HV4.o.trans hv4)
     cases hR : P.X m .term lev r.tail with
     | bad e0 p0 =>
      rw [hR] at hi4
      have HI4 := J0.m (show Is w4 A c L g vn4 vd4 (.bad e0 p0) from hi4)
      have HPT := J0.m (Qf2 w4 A c L g vn4 vd4 e0 p0 (P.node op t.f3) 2 HI4.o)
      have HFE : J0 (final = .bad e0 p0) := ⟨by rw [← HXX.o, hR]; rfl⟩
      clear hi4 hv4 hx4 hR
      cases bq
      all_goals
       have c5 := HBQ.o.symm
       have c6 := c5
       rw [tl45] at c6
       have hop := HOP.o
       simp only [if_true, Bool.false_eq_true, if_false] at hop
       subst hop
       clear HOP HBQ
       go_wp2_with fail
       refine HPT.o.mono ?_
       rintro e' w5 ⟨rfl, hi5, hb5⟩
       have HI5 := J0.m hi5
       have HV6 := J0.m (HV5.o.below hb5 (by have := HI4.o.glt; omega))
       clear hi5 hb5
       go_wp2
       go_roundg 0
       case measure => omega
       case rel => exact ⟨⟨vn4, vd4, HV6.o, .inl ⟨e0, p0, HFE.o, HI5.o⟩⟩, ⟨Nat.zero_le _⟩⟩
     | ok b2 r2 =>
      rw [hR] at hi4
      have HI4 : J0 (Is w4 A c L g vn4 vd4 (.ok r2 lev (ns ++ ([acc, b2].map EO.ns).flatten) (dp ++ [acc, b2].map EO.dep))) := ⟨by
       have e1 : ns ++ ([acc, b2].map EO.ns).flatten = (ns ++ acc.ns) ++ b2.ns := by simp
       have e2 : dp ++ [acc, b2].map EO.dep = (dp ++ [acc.dep]) ++ [b2.dep] := by simp
       rw [e1, e2]; exact hi4⟩
      have hsz := HSZ.o b2 r2 hR
      have HPT := J0.m (Qf0 w4 A c L g vn4 vd4 r2 lev _ dp ([acc, b2].map EO.dep) (P.node op t.f3) HI4.o (by
       have h1 := HN1.o
       have h2 := HLEN.o
       simp only [P.base] at hsz
       simp only [List.length_append, List.map_cons, List.map_nil, List.flatten_cons, List.flatten_nil, List.append_nil] at *
       omega))
      rw [Qep] at HPT
      have HFE : J0 ((comb (P.node op t.f3) [acc, b2] r2).bind (fun c2 r => P.X m (.addL c2) lev r) = final) := ⟨by rw [← HXX.o, hR]; rfl⟩
      clear hi4 hv4 hx4 hR hsz
      cases bq
      all_goals
       have c5 := HBQ.o.symm
       have c6 := c5
       rw [tl45] at c6
       have hop := HOP.o
       simp only [if_true, Bool.false_eq_true, if_false] at hop
       subst hop
       clear HOP HBQ
       go_wp2_with fail
       refine HPT.o.mono ?_
       rintro e' w5 ⟨rfl, vn5, vd5, hi5, hv5⟩
       have HI5 := J0.m hi5
       have HV6 := J0.m (HV5.o.trans hv5)
       clear hi5 hv5
       go_wp2
       go_roundg m
       case measure => omega
       case rel => exact ⟨⟨LpM.next HV6.o HI5.o HFE.o⟩, ⟨by have := hk.o; omega⟩⟩
    | false =>
     rw [if_neg (by rw [hp, hm]; decide)] at hx
     have HISt : J0 (Sg.is 4 ⟨#[43]⟩ (.ok r lev (ns ++ acc.ns) (dp ++ [acc.dep])) = false) := ⟨hp⟩
     have HISt2 : J0 (Sg.is 4 ⟨#[45]⟩ (.ok r lev (ns ++ acc.ns) (dp ++ [acc.dep])) = false) := ⟨hm⟩
     have HXX := J0.m hx
     clear hi hv hx hm hp
     go_wp2_with fail
     refine HIS.o.mono ?_
     rw [HISt.o]
     rintro e' w2b ⟨rfl, hb2b⟩
     have HI2b := J0.m (HI.o.below hb2b)
     have HB2b := J0.m hb2b
     clear hb2b
     go_wp2_with fail
     refine (Qaz w2b A c L g vn1 vd1 _ 4 ⟨#[45]⟩ HI2b.o).mono ?_
     rw [HISt2.o]
     rintro e' w2 ⟨rfl, hb2⟩
     have HB2 := J0.m (Qak HB2b.o hb2)
     clear hb2
     go_wp2
     go_end0
     rw [← HXX.o]
     exact ⟨rfl, vn1, vd1, HI.o.below HB2.o, HV.o.below HB2.o (by have := HI.o.glt; omega)⟩
open Go.ChangeMaps (setBlock heap_setBlock_same heap_setBlock_other)
theorem ba_eq {s t : ByteArray} (h : (s == t) = true) : s = t := ByteArray.ext (eq_of_beq (α := Array UInt8) h)
section
variable {P : Program} {w : World} {t k e : TypeId} {b : Nat} {es : Array MapEntry} {clk : Nat}
theorem Qm4 (hk : P.underlying k = some .string) (em : Bool) (s : ByteArray) : (Instr.checkKey em 10000 k (.string s)).run P w = .ok () w := by
 unfold Instr.checkKey
 simp [run_underlying hk, Result.andThen]
theorem Qm3 (hk : P.underlying k = some .string) (s : ByteArray) (l : List MapEntry) {r : Option (Nat × Value)} (hf : Instr.findNow .string (.string s) l 0 = some r) : (Instr.findKey k (.string s) l).run P w = .ok r w := by
 unfold Instr.findKey
 simp [run_underlying hk, hf, Result.andThen]
theorem Qi7 (ht : P.underlying t = some (.map k e)) (hk : P.underlying k = some .string) (hb : w.heap[b]? = some (.map es clk)) (s : ByteArray) (v : Value) (hf : Instr.findNow .string (.string s) es.toList 0 = some none) :
  (Instr.mapUpdate t (.map (some b)) (.string s) v).run P w = .ok () (setBlock w b (.map (es.push ⟨.string s, v, clk⟩) (clk + 1))) := by
 simp [Instr.mapUpdate, run_underlying ht, MapKept.run_getObj_map hb, Qm4 hk, Qm3 hk s _ hf, MapKept.run_setObj_map _ hb, Result.andThen, setBlock]
theorem Qhb (ht : P.underlying t = some (.map k e)) (hk : P.underlying k = some .string) (hb : w.heap[b]? = some (.map es clk)) (s : ByteArray) {i : Nat} {v : Value} (hf : Instr.findNow .string (.string s) es.toList 0 = some (some (i, v))) :
  (Instr.lookup t (.map (some b)) (.string s) false).run P w = .ok v w := by
 simp [Instr.lookup, run_underlying ht, MapKept.run_getObj_map hb, Qm4 hk, Qm3 hk s _ hf, Result.andThen]
theorem Qox (ht : P.underlying t = some (.map k e)) (hk : P.underlying k = some .string) (hb : w.heap[b]? = some (.map es clk)) (s : ByteArray) {z : Value} (hz : (zeroValue e).run P w = .ok z w) (hf : Instr.findNow .string (.string s) es.toList 0 = some none) :
  (Instr.lookup t (.map (some b)) (.string s) false).run P w = .ok z w := by
 simp [Instr.lookup, run_underlying ht, MapKept.run_getObj_map hb, Qm4 hk, Qm3 hk s _ hf, hz, Result.andThen]
theorem Qgr {B : Nat} {W : World} (h : Below B W w) (hb : w.heap[b]? = some (.map es clk)) (hB : B ≤ b) (o : Obj) : Below B W (setBlock w b o) :=
 ⟨h.os, h.tape, h.output, by have := h.size; simp only [setBlock, Array.size_setIfInBounds]; omega, fun i hi => (heap_setBlock_other hb o (by omega)).trans (h.block i hi)⟩
end
def opOf (s : ByteArray) : Int := if s = P.sCat then 9 else if s = P.sRep then 10 else if s = P.sLen then 11 else if s = P.sHex then 12 else 0
def four : Array MapEntry := #[⟨.string P.sCat, .int .i64 9, 0⟩, ⟨.string P.sRep, .int .i64 10, 1⟩, ⟨.string P.sLen, .int .i64 11, 2⟩, ⟨.string P.sHex, .int .i64 12, 3⟩]
theorem zeroI (w : World) : (zeroValue 3).run Try.prog w = .ok (.int .i64 0) w := by kernel_rfl
theorem Qd1 (w : World) (s : ByteArray) : ∃ M1 M2 M3 M4 : World,
  (Instr.mapUpdate 114 (.map (some w.heap.size)) (.string ⟨#[99, 97, 116]⟩) (.int .i64 9)).run Try.prog (w.alloc (.map #[] 0)) = .ok () M1 ∧
  (Instr.mapUpdate 114 (.map (some w.heap.size)) (.string ⟨#[114, 101, 112]⟩) (.int .i64 10)).run Try.prog M1 = .ok () M2 ∧
  (Instr.mapUpdate 114 (.map (some w.heap.size)) (.string ⟨#[108, 101, 110]⟩) (.int .i64 11)).run Try.prog M2 = .ok () M3 ∧
  (Instr.mapUpdate 114 (.map (some w.heap.size)) (.string ⟨#[104, 101, 120]⟩) (.int .i64 12)).run Try.prog M3 = .ok () M4 ∧
  (Instr.lookup 114 (.map (some w.heap.size)) (.string s) false).run Try.prog M4 = .ok (.int .i64 (opOf s)) M4 ∧ Below w.heap.size w M4 := by
 have h0 : (w.alloc (.map #[] 0)).heap[w.heap.size]? = some (.map #[] 0) := Qay w _
 have r1 := Qi7 (P := Try.prog) (t := 114) Try.underlying114 Try.underlying9 h0 P.sCat (.int .i64 9) rfl
 have h1 := heap_setBlock_same h0 (.map ((#[] : Array MapEntry).push ⟨.string P.sCat, .int .i64 9, 0⟩) (0 + 1))
 have r2 := Qi7 (P := Try.prog) (t := 114) Try.underlying114 Try.underlying9 h1 P.sRep (.int .i64 10) (by kernel_rfl)
 have h2 := heap_setBlock_same h1 (.map (((#[] : Array MapEntry).push ⟨.string P.sCat, .int .i64 9, 0⟩).push ⟨.string P.sRep, .int .i64 10, 0 + 1⟩) (0 + 1 + 1))
 have r3 := Qi7 (P := Try.prog) (t := 114) Try.underlying114 Try.underlying9 h2 P.sLen (.int .i64 11) (by kernel_rfl)
 have h3 := heap_setBlock_same h2 (.map ((((#[] : Array MapEntry).push ⟨.string P.sCat, .int .i64 9, 0⟩).push ⟨.string P.sRep, .int .i64 10, 0 + 1⟩).push ⟨.string P.sLen, .int .i64 11, 0 + 1 + 1⟩) (0 + 1 + 1 + 1))
 have r4 := Qi7 (P := Try.prog) (t := 114) Try.underlying114 Try.underlying9 h3 P.sHex (.int .i64 12) (by kernel_rfl)
 have h4 := heap_setBlock_same h3 (.map four 4)
 refine ⟨_, _, _, _, r1, r2, r3, r4, ?_, ?_⟩
 ·by_cases c1 : s = P.sCat
  ·have : opOf s = 9 := if_pos c1
   rw [this]
   subst c1
   exact Qhb Try.underlying114 Try.underlying9 h4 _ (i := 0) (by kernel_rfl)
  by_cases c2 : s = P.sRep
  ·have : opOf s = 10 := by unfold opOf; rw [if_neg c1, if_pos c2]
   rw [this]
   subst c2
   exact Qhb Try.underlying114 Try.underlying9 h4 _ (i := 1) (by kernel_rfl)
  by_cases c3 : s = P.sLen
  ·have : opOf s = 11 := by unfold opOf; rw [if_neg c1, if_neg c2, if_pos c3]
   rw [this]
   subst c3
   exact Qhb Try.underlying114 Try.underlying9 h4 _ (i := 2) (by kernel_rfl)
  by_cases c4 : s = P.sHex
  ·have : opOf s = 12 := by unfold opOf; rw [if_neg c1, if_neg c2, if_neg c3, if_pos c4]
   rw [this]
   subst c4
   exact Qhb Try.underlying114 Try.underlying9 h4 _ (i := 3) (by kernel_rfl)
  ·have : opOf s = 0 := by unfold opOf; rw [if_neg c1, if_neg c2, if_neg c3, if_neg c4]
   rw [this]
   refine Qox Try.underlying114 Try.underlying9 h4 _ (zeroI _) ?_
   have e1 : (s == P.sCat) = false := by cases h : (s == P.sCat) with | false => rfl | true => exact absurd (ba_eq h) c1
   have e2 : (s == P.sRep) = false := by cases h : (s == P.sRep) with | false => rfl | true => exact absurd (ba_eq h) c2
   have e3 : (s == P.sLen) = false := by cases h : (s == P.sLen) with | false => rfl | true => exact absurd (ba_eq h) c3
   have e4 : (s == P.sHex) = false := by cases h : (s == P.sHex) with | false => rfl | true => exact absurd (ba_eq h) c4
   simp only [four, Instr.findNow, Instr.sameNow, e1, e2, e3, e4]
 ·refine Qgr (Qgr (Qgr (Qgr ?_ h0 (Nat.le_refl _) _) h1 (Nat.le_refl _) _) h2 (Nat.le_refl _) _) h3 (Nat.le_refl _) _
  exact (Below.refl _ _).alloc (Nat.le_refl _) _
def goS (m : Nat) (f : P.Fn) : Sg → Sg
 | .ok ts lev ns dp => outS lev ns dp (P.X m f lev ts)
 | .bad e p => .bad e p
def puG (n : Nd) (k : Nat) : Sg → Sg
 | .ok ts lev ns dp => putS n ts lev ns (dp.take (dp.length - k)) (dp.drop (dp.length - k))
 | .bad e p => .bad e p
def Sg.down : Sg → Sg
 | .ok ts lev ns dp => .ok ts (lev - 1) ns dp
 | .bad e p => .bad e p
def Sg.At (N k l : Nat) (s : Sg) : Prop := ∀ ts lev ns dp, s = .ok ts lev ns dp → ns.length + ts.length ≤ N ∧ k ≤ dp.length ∧ lev = l
theorem Qcw {N k l : Nat} {s : Sg} (h : s.At (N + 1) k l) (c : UInt8) : (s.step (Qar c)).At N k l := by
 intro ts lev ns dp e
 cases s with
 | bad e p => cases e
 | ok ts0 lev0 ns0 dp0 =>
  obtain ⟨h1, h2, h3⟩ := h _ _ _ _ rfl
  unfold Sg.step at e
  simp only at e
  cases hr : Qar c ts0 with
  | bad e0 p0 => rw [hr] at e; cases e
  | ok t r =>
   rw [hr] at e
   cases e
   obtain ⟨_, _, _, hl⟩ := P.Qcf hr
   exact ⟨by omega, h2, h3⟩
theorem Qgu {N k l m : Nat} {f : P.Fn} {s : Sg} (h : s.At N k l) (hb : P.base f = 0) : (goS m f s).At N (k + 1) l := by
 intro ts lev ns dp e
 cases s with
 | bad e p => cases e
 | ok ts0 lev0 ns0 dp0 =>
  obtain ⟨h1, h2, h3⟩ := h _ _ _ _ rfl
  unfold goS at e
  simp only at e
  cases hr : P.X m f lev0 ts0 with
  | bad e0 p0 => rw [hr] at e; cases e
  | ok a r =>
   rw [hr] at e
   have := P.X_sz m f lev0 ts0 a r hr
   rw [hb] at this
   cases e
   refine ⟨?_, ?_, h3⟩
   ·rw [List.length_append]; omega
   ·rw [List.length_append, List.length_singleton]; omega
theorem At.mono {N N' k l : Nat} {s : Sg} (h : s.At N k l) (hn : N ≤ N') : s.At N' k l := fun ts lev ns dp e => ⟨Nat.le_trans (h ts lev ns dp e).1 hn, (h ts lev ns dp e).2⟩
section
variable {w w' : World} {A : Option Addr} {c : Nat} {L : List Tk} {g : Nat} {vn vd : Value} {s : Sg}
theorem Qf4 {m : Nat} (H : CT m .expr 49) (hG : Good L) (h : Is w A c L g vn vd s) (hf : ∀ p, goS m .expr s ≠ .bad 0 p) :
  Calls Try.prog 49 #[.pointer (some ⟨g, 0, none⟩)] w fun e w' => e = .returned (.tuple #[]) ∧ Ends w A c L g vn vd (goS m .expr s) w' := by
 cases s with
 | ok ts lev ns dp => exact H w A c L g vn vd ts lev ns dp hG h (fun p e => hf p (by unfold goS; simp only [e]; rfl))
 | bad e p => exact (Qgg w A c L g vn vd e p h).mono fun r w' ⟨h1, h2, h3⟩ => ⟨h1, vn, vd, h2, Hv.Qa6 (Qaj h3 _) (by have := h.glt; omega)⟩
theorem gfac {m : Nat} (H : CT m .fac 86) (hG : Good L) (h : Is w A c L g vn vd s) (hf : ∀ p, goS m .fac s ≠ .bad 0 p) :
  Calls Try.prog 86 #[.pointer (some ⟨g, 0, none⟩)] w fun e w' => e = .returned (.tuple #[]) ∧ Ends w A c L g vn vd (goS m .fac s) w' := by
 cases s with
 | ok ts lev ns dp => exact H w A c L g vn vd ts lev ns dp hG h (fun p e => hf p (by unfold goS; simp only [e]; rfl))
 | bad e p => exact (Qfc w A c L g vn vd e p h).mono fun r w' ⟨h1, h2, h3⟩ => ⟨h1, vn, vd, h2, Hv.Qa6 (Qaj h3 _) (by have := h.glt; omega)⟩
theorem Qe7 (m : UInt8) (hG : Good L) (h : Is w A c L g vn vd s) :
  Calls Try.prog 61 #[.pointer (some ⟨g, 0, none⟩), .string (mk1 m)] w fun e w' => (∃ t : Tk, e = .returned (.agg #[.int .i64 t.f0, .string t.f1, .int .u64 t.f2, .int .i64 t.f3, .int .i64 t.f4])) ∧ Is w' A c L g vn vd (s.step (Qar m)) ∧ Hv w w' g vn vd vn vd :=
 (Qkp w A c L g vn vd s m hG h).mono fun e w' ⟨h1, h2, h3⟩ => ⟨h1, h2, Hv.Qa6 h3 (by have := h.glt; omega)⟩
theorem gput {N k l : Nat} (n : Nd) (h : Is w A c L g vn vd s) (ha : s.At N k l) (hN : N + 1 ≤ 33554432) :
  Calls Try.prog 74 #[.pointer (some ⟨g, 0, none⟩), .agg #[.int .i64 n.f0, .int .i64 n.f1, .int .u64 n.f2, .string n.f3, .int .i64 n.f4], .int .i64 (k : Int)] w fun e' w' => e' = .returned (.tuple #[]) ∧ Ends w A c L g vn vd (puG n k s) w' := by
 cases s with
 | ok ts lev ns dp =>
  obtain ⟨h1, h2, h3⟩ := ha _ _ _ _ rfl
  have e1 : dp.take (dp.length - k) ++ dp.drop (dp.length - k) = dp := List.take_append_drop _ _
  have e2 : (dp.drop (dp.length - k)).length = k := by rw [List.length_drop]; omega
  have hi : Is w A c L g vn vd (.ok ts lev ns (dp.take (dp.length - k) ++ dp.drop (dp.length - k))) := by rw [e1]; exact h
  have := Qf0 w A c L g vn vd ts lev ns _ _ n hi (by omega)
  rw [e2] at this
  exact this
 | bad e p => exact (Qf2 w A c L g vn vd e p n k h).mono fun r w' ⟨h1, h2, h3⟩ => ⟨h1, vn, vd, h2, Hv.Qa6 (Qaj h3 _) (by have := h.glt; omega)⟩
theorem Qfb {N k l : Nat} (h : Is w A c L g vn vd s) (ha : s.At N k l) (hl : 1 ≤ l) : ∃ lv : Int, w.cell? ⟨g, 4, none⟩ = some (.int .i64 lv) ∧ w.frozen? ⟨g, 4, none⟩ = false ∧ Is (w.setCell ⟨g, 4, none⟩ (.int .i64 (wrap64 (lv - 1)))) A c L g vn vd s.down ∧ Hv w (w.setCell ⟨g, 4, none⟩ (.int .i64 (wrap64 (lv - 1)))) g vn vd vn vd := by
 cases s with
 | ok ts lev ns dp =>
  obtain ⟨q, h1, h2, h3, h4⟩ := h
  obtain ⟨_, _, rfl⟩ := ha _ _ _ _ rfl
  refine ⟨_, h3.p.c4, h3.p.fz 4, ?_, Hv.Qa6 (Qbg _ _ _ _) (by have := h3.p.glt; omega)⟩
  have e : wrap64 ((lev : Int) - 1) = ((lev - 1 : Nat) : Int) := by have := h4.lv; unfold wrap64; omega
  rw [e]
  have hp : Post w (w.setCell ⟨g, 4, none⟩ (.int .i64 ((lev - 1 : Nat) : Int))) A c L g q (.int .i64 ((lev - 1 : Nat) : Int)) vn vd := ⟨h3.p.set 4 _ rfl h3.p.lt, Qbg _ _ _ _⟩
  exact ⟨q, h1, h2, h3.Qd0 hp, h4.sz, h4.dl, h4.d0, by have := h4.lv; omega⟩
 | bad e p =>
  obtain ⟨q, lev, ns, dp, h1, h2, h3, h4⟩ := h
  refine ⟨_, h4.p.c4, h4.p.fz 4, ?_, Hv.Qa6 (Qbg _ _ _ _) (by have := h4.p.glt; omega)⟩
  have hp : Post w (w.setCell ⟨g, 4, none⟩ (.int .i64 (wrap64 (lev - 1)))) A c L g q (.int .i64 (wrap64 (lev - 1))) vn vd := ⟨h4.p.set 4 _ rfl h4.p.lt, Qbg _ _ _ _⟩
  exact ⟨q, _, ns, dp, h1, h2, h3, h4.Qd0 hp⟩
end
theorem Qqz (lev : Nat) (n : Nd) (r : List Tk) (ns : List Nd) (dp : List Int) (kids : List EO) (k : Nat) (hk : kids.length = k) : puG n k (.ok r lev (ns ++ (kids.map EO.ns).flatten) (dp ++ kids.map EO.dep)) = outS lev ns dp (comb n kids r) := by
 rw [← Qep]
 unfold puG
 have e1 : (dp ++ kids.map EO.dep).length - k = dp.length := by rw [List.length_append, List.length_map]; omega
 simp only [e1, List.take_left, List.drop_left]
theorem Qhg (lev : Nat) (ns : List Nd) (dp : List Int) (x : Res EO) : (outS (lev + 1) ns dp x).down = outS lev ns dp x := by
 cases x <;> rfl
end Go.Proofs.Ytbdcndkafaajpaa.A
end
section
namespace Go.Proofs.Ytbdcndkafaajpaa.R
open Go.RowKit Ytbdcndkafaajpaa.X Ytbdcndkafaajpaa.A YtbdcndkafaajpaaW.PrintWords YtbdcndkafaajpaaW.PrintLast YtbdcndkafaajpaaW.PrintMore
open Ytbdcndkafaajpaa.P (Nd EO Res hd isT isM Qar mxl comb mk1)
structure IsE (w : World) (A : Option Addr) (c : Nat) (L : List Tk) (g : Nat) (q : Q3) (lev : Int) (vn : Value) (ns : List Nd) (vd : Value) (dp : List Int) : Prop where
 p : IsR w A c L g q (.int .i64 lev) vn vd
 n : RN w g vn ns
 d : RI w g vd dp
def Is (w : World) (A : Option Addr) (c : Nat) (L : List Tk) (g : Nat) (vn vd : Value) : Sg → Prop
 | .ok ts lev ns dp => ∃ q : Q3, q.fl = 0 ∧ L.drop q.at_ = ts ∧ IsE w A c L g q (lev : Int) vn ns vd dp ∧ Bd ts lev ns dp
 | .bad e pl => ∃ (q : Q3) (lev : Int) (ns : List Nd) (dp : List Int), q.fl = e ∧ q.pl = pl ∧ e ≠ 0 ∧ IsE w A c L g q lev vn ns vd dp
section
variable {w w' : World} {A : Option Addr} {c : Nat} {L : List Tk} {g : Nat} {q : Q3} {lev : Int} {vn vd : Value} {ns : List Nd} {dp : List Int}
theorem Qf3 (h : RN w g vn ns) (hg : w.grownBy w' (some g)) (hp : ∃ cs, w.heap[g]? = some (.cells cs 71 (0, 0))) : RN w' g vn ns := by
 obtain ⟨cs, hb⟩ := hp
 exact Kd.Qhi h rfl hg (fun k hk e => by injection hk with hk; subst hk; exact Kd.R_ne h hb (by decide) e)
theorem Qgt (h : RI w g vd dp) (hg : w.grownBy w' (some g)) (hp : ∃ cs, w.heap[g]? = some (.cells cs 71 (0, 0))) : RI w' g vd dp := by
 obtain ⟨cs, hb⟩ := hp
 exact Kd.Qhi h rfl hg (fun k hk e => by injection hk with hk; subst hk; exact Kd.R_ne h hb (by decide) e)
theorem IsE.Qd0 (h : IsE w A c L g q lev vn ns vd dp) {q' : Q3} {lev' : Int} (hp : Post w w' A c L g q' (.int .i64 lev') vn vd) : IsE w' A c L g q' lev' vn ns vd dp :=
 ⟨hp.1, Qf3 h.n hp.2 ⟨_, h.p.blk⟩, Qgt h.d hp.2 ⟨_, h.p.blk⟩⟩
theorem IsE.below (h : IsE w A c L g q lev vn ns vd dp) (hb : Below w.heap.size w w') : IsE w' A c L g q lev vn ns vd dp := ⟨h.p.below hb, Kd.Qb4 h.n hb, Kd.Qb4 h.d hb⟩
end
section
variable {w w' w2 : World} {A : Option Addr} {c : Nat} {L : List Tk} {g : Nat} {vn vd vn' vd' : Value} {s : Sg}
theorem Is.below (h : Is w A c L g vn vd s) (hb : Below w.heap.size w w') : Is w' A c L g vn vd s := by
 cases s with
 | ok ts lev ns dp => obtain ⟨q, h1, h2, h3, h4⟩ := h; exact ⟨q, h1, h2, h3.below hb, h4⟩
 | bad e pl => obtain ⟨q, lev, ns, dp, h1, h2, h3, h4⟩ := h; exact ⟨q, lev, ns, dp, h1, h2, h3, h4.below hb⟩
theorem Is.to {P : Sg → Prop} (h : Is w A c L g vn vd s) (f : ∀ q lev ns dp, IsE w A c L g q lev vn ns vd dp → P s) : P s := by
 cases s with
 | ok ts lev ns dp => obtain ⟨q, _, _, h3, _⟩ := h; exact f q _ ns dp h3
 | bad e pl => obtain ⟨q, lev, ns, dp, _, _, _, h4⟩ := h; exact f q lev ns dp h4
theorem Is.glt (h : Is w A c L g vn vd s) : g < w.heap.size := Is.to (P := fun _ => g < w.heap.size) h (fun q lev ns dp hE => hE.p.glt)
theorem Is.box (h : Is w A c L g vn vd s) {b : Nat} {cs : Array Value} (hb : w.heap[b]? = some (.cells cs 47 (0, 0))) : b ≠ g ∧ vn.ownBlock ≠ some b ∧ vd.ownBlock ≠ some b :=
 Is.to (P := fun _ => b ≠ g ∧ vn.ownBlock ≠ some b ∧ vd.ownBlock ≠ some b) h (fun q lev ns dp hE => ⟨fun e => by
  subst e
  have h1 := hE.p.blk
  rw [hb] at h1
  injection h1 with h1
  injection h1 with _ h1 _
  exact absurd h1 (by decide), fun e => Kd.R_ne hE.n hb (by decide) e.symm, fun e => Kd.R_ne hE.d hb (by decide) e.symm⟩)
theorem Is.Qbv (h : Is w A c L g vn vd s) (hv : Hv w w' g vn vd vn' vd') {b : Nat} {cs : Array Value} (hb : w.heap[b]? = some (.cells cs 47 (0, 0))) : w'.heap[b]? = some (.cells cs 47 (0, 0)) := by
 obtain ⟨h1, h2, h3⟩ := h.box hb
 exact hv.blk hb h1 h2 h3
theorem Is.fault {e pl : Int} (h : Is w A c L g vn vd (.bad e pl)) : w.cell? ⟨g, 3, none⟩ = some (.int .i64 e) ∧ e ≠ 0 := by
 obtain ⟨q, lev, ns, dp, h1, h2, h3, h4⟩ := h
 exact ⟨by rw [h4.p.cf, h1], h3⟩
theorem Is.sound {ts : List Tk} {lev : Nat} {ns : List Nd} {dp : List Int} (h : Is w A c L g vn vd (.ok ts lev ns dp)) : w.cell? ⟨g, 3, none⟩ = some (.int .i64 0) := by
 obtain ⟨q, h1, h2, h3, h4⟩ := h
 rw [h3.p.cf, h1]
def Ends (w : World) (A : Option Addr) (c : Nat) (L : List Tk) (g : Nat) (vn vd : Value) (s : Sg) (w' : World) : Prop := ∃ vn' vd', Is w' A c L g vn' vd' s ∧ Hv w w' g vn vd vn' vd'
theorem Ends.below (h : Ends w A c L g vn vd s w') (hb : Below w'.heap.size w' w2) : Ends w A c L g vn vd s w2 := by
 obtain ⟨vn', vd', h1, h2⟩ := h
 exact ⟨vn', vd', h1.below hb, h2.below hb (by have := h1.glt; omega)⟩
end
theorem Qaz (w : World) (A : Option Addr) (c : Nat) (L : List Tk) (g : Nat) (vn vd : Value) (s : Sg) (k : Int) (x : ByteArray) (h : Is w A c L g vn vd s) :
  Calls Try.prog 26 #[.pointer (some ⟨g, 0, none⟩), .int .i64 k, .string x] w fun e w' => e = .returned (.bool (s.is k x)) ∧ Below w.heap.size w w' := by
 cases s with
 | ok ts lev ns dp =>
  obtain ⟨q, h1, h2, h3, h4⟩ := h
  refine (Qec w A c L g q _ _ _ k x h3.p).mono fun e w' ⟨he, hb⟩ => ⟨?_, hb⟩
  rw [he]; subst h2
  simp only [isQ, Sg.is, isT, Qcg h3.p.lt, h1, beq_self_eq_true, Bool.true_and]
 | bad e pl =>
  obtain ⟨q, lev, ns, dp, h1, h2, h3, h4⟩ := h
  refine (Qec w A c L g q _ _ _ k x h4.p).mono fun e' w' ⟨he, hb⟩ => ⟨?_, hb⟩
  rw [he]; unfold isQ Sg.is
  have : (q.fl == 0) = false := beq_eq_false_iff_ne.2 (by rw [h1]; exact h3)
  rw [this]; simp
section
variable {w w' : World} {A : Option Addr} {c : Nat} {L : List Tk} {g : Nat} {vn vd : Value} {s : Sg}
theorem Qi5 {q : Q3} {lev : Nat} {ns : List Nd} {dp : List Int} {ok : Bool} (hk : ok = true → (tk L q.at_).f0 ≠ 0) (h1 : q.fl = 0) (h3 : IsE w A c L g q (lev : Int) vn ns vd dp) (h4 : Bd (L.drop q.at_) lev ns dp) (hp : Post w w' A c L g (Qcv L ok q) (.int .i64 (lev : Int)) vn vd) :
  Is w' A c L g vn vd (Sg.step (.ok (L.drop q.at_) lev ns dp) (P.want ok)) := by
 have hl := h3.p.lt
 unfold Qcv at hp
 rw [if_pos h1] at hp
 cases ok with
 | true =>
  have h0 := hk rfl
  rw [if_pos rfl, if_neg h0] at hp
  show Is w' A c L g vn vd (.ok (L.drop q.at_).tail lev ns dp)
  refine ⟨⟨q.at_ + 1, q.fl, q.pl⟩, h1, ?_, h3.Qd0 hp, ?_⟩
  ·rw [List.tail_drop]
  ·rw [List.tail_drop]
   exact ⟨by have := h4.sz; rw [List.length_drop] at *; omega, h4.dl, h4.d0, h4.lv⟩
 | false =>
  rw [if_neg (by decide)] at hp
  unfold Qcy at hp
  rw [if_pos h1] at hp
  show Is w' A c L g vn vd (.bad 90 (hd (L.drop q.at_)).f3)
  exact ⟨_, _, ns, dp, rfl, by rw [Qcg hl], by decide, h3.Qd0 hp⟩
theorem Qog {q : Q3} {lev : Int} {ns : List Nd} {dp : List Int} {ok : Bool} {e pl : Int} (h1 : q.fl = e) (h2 : q.pl = pl) (h0 : e ≠ 0) (h3 : IsE w A c L g q lev vn ns vd dp) (hp : Post w w' A c L g (Qcv L ok q) (.int .i64 lev) vn vd) : Is w' A c L g vn vd (.bad e pl) := by
 have : Qcv L ok q = q := by unfold Qcv; rw [if_neg (by rw [h1]; exact h0)]
 rw [this] at hp
 exact ⟨q, lev, ns, dp, h1, h2, h0, h3.Qd0 hp⟩
theorem Qe7 (m : UInt8) (hG : Qdo L) (h : Is w A c L g vn vd s) :
  Calls Try.prog 46 #[.pointer (some ⟨g, 0, none⟩), .string (mk1 m)] w fun e w' => e = .returned (.tuple #[]) ∧ Is w' A c L g vn vd (s.step (Qar m)) ∧ Hv w w' g vn vd vn vd := by
 have hgl := h.glt
 cases s with
 | ok ts lev ns dp =>
  obtain ⟨q, h1, rfl, h3, h4⟩ := h
  refine (Qd6 w A c L g q _ _ _ (mk1 m) h3.p hG).mono fun e w' ⟨he, hp⟩ => ⟨he, ?_, Hv.Qa6 hp.2 (by omega)⟩
  rw [Qnt h1 h3.p.lt] at hp
  exact Qi5 (ok := isT 4 (mk1 m) (L.drop q.at_)) (fun hk => by rw [← Qcg h3.p.lt, P.Qbz hk]; decide) h1 h3 h4 hp
 | bad e pl =>
  obtain ⟨q, lev, ns, dp, h1, h2, h3, h4⟩ := h
  refine (Qd6 w A c L g q _ _ _ (mk1 m) h4.p hG).mono fun e' w' ⟨he, hp⟩ => ⟨he, ?_, Hv.Qa6 hp.2 (by omega)⟩
  exact Qog h1 h2 h3 h4 hp
theorem Qcm (h : Is w A c L g vn vd s) : Calls Try.prog 43 #[.pointer (some ⟨g, 0, none⟩)] w fun e w' => ∃ t : Tk, e = .returned (.agg #[.int .i64 t.f0, .string t.f1, .int .u64 t.f2, .int .i64 t.f3, .int .i64 t.f4]) ∧ (∀ ts lev ns dp, s = .ok ts lev ns dp → t = hd ts) ∧ Below w.heap.size w w' := by
 cases s with
 | ok ts lev ns dp =>
  obtain ⟨q, h1, rfl, h3, h4⟩ := h
  refine (Qef w A c L g q _ _ _ h3.p).mono fun e w' ⟨he, hb⟩ => ⟨_, he, ?_, hb⟩
  rintro ts lev ns dp e
  cases e
  rw [Qcg h3.p.lt]
 | bad e pl =>
  obtain ⟨q, lev, ns, dp, h1, h2, h3, h4⟩ := h
  exact (Qef w A c L g q _ _ _ h4.p).mono fun e w' ⟨he, hb⟩ => ⟨_, he, fun _ _ _ _ h => (by cases h), hb⟩
theorem Is.adv {ts : List Tk} {lev : Nat} {ns : List Nd} {dp : List Int} (hG : Qdo L) (h : Is w A c L g vn vd (.ok ts lev ns dp)) (h0 : (hd ts).f0 ≠ 0) : ∃ at_ : Int, w.cell? ⟨g, 1, none⟩ = some (.int .i64 at_) ∧ w.frozen? ⟨g, 1, none⟩ = false ∧ Is (w.setCell ⟨g, 1, none⟩ (.int .i64 (wrap64 (at_ + 1)))) A c L g vn vd (.ok ts.tail lev ns dp) ∧ Hv w (w.setCell ⟨g, 1, none⟩ (.int .i64 (wrap64 (at_ + 1)))) g vn vd vn vd := by
 obtain ⟨q, h1, rfl, h3, h4⟩ := h
 have hk : (tk L q.at_).f0 ≠ 0 := by rw [← Qcg h3.p.lt]; exact h0
 have hl := hG q.at_ h3.p.lt hk
 refine ⟨_, h3.p.c1, h3.p.fz 1, ?_, Hv.Qa6 (Qbg _ _ _ _) (by have := h3.p.glt; omega)⟩
 rw [Qfa h3.p]
 have hp : Post w (w.setCell ⟨g, 1, none⟩ (.int .i64 ((q.at_ + 1 : Nat) : Int))) A c L g ⟨q.at_ + 1, q.fl, q.pl⟩ (.int .i64 (lev : Int)) vn vd := ⟨h3.p.step hl, Qbg _ _ _ _⟩
 refine ⟨⟨q.at_ + 1, q.fl, q.pl⟩, h1, ?_, h3.Qd0 hp, ?_⟩
 ·rw [List.tail_drop]
 ·rw [List.tail_drop]
  exact ⟨by have := h4.sz; rw [List.length_drop] at *; omega, h4.dl, h4.d0, h4.lv⟩
theorem Qfb {N k l : Nat} (h : Is w A c L g vn vd s) (ha : s.At N k l) (hl : 1 ≤ l) : ∃ lv : Int, w.cell? ⟨g, 6, none⟩ = some (.int .i64 lv) ∧ w.frozen? ⟨g, 6, none⟩ = false ∧ Is (w.setCell ⟨g, 6, none⟩ (.int .i64 (wrap64 (lv - 1)))) A c L g vn vd s.down ∧ Hv w (w.setCell ⟨g, 6, none⟩ (.int .i64 (wrap64 (lv - 1)))) g vn vd vn vd := by
 cases s with
 | ok ts lev ns dp =>
  obtain ⟨q, h1, h2, h3, h4⟩ := h
  obtain ⟨_, _, rfl⟩ := ha _ _ _ _ rfl
  refine ⟨_, h3.p.cl, h3.p.fz 6, ?_, Hv.Qa6 (Qbg _ _ _ _) (by have := h3.p.glt; omega)⟩
  have e : wrap64 ((lev : Int) - 1) = ((lev - 1 : Nat) : Int) := by have := h4.lv; unfold wrap64; omega
  rw [e]
  have hp : Post w (w.setCell ⟨g, 6, none⟩ (.int .i64 ((lev - 1 : Nat) : Int))) A c L g q (.int .i64 ((lev - 1 : Nat) : Int)) vn vd := ⟨h3.p.set 6 _ rfl h3.p.lt, Qbg _ _ _ _⟩
  exact ⟨q, h1, h2, h3.Qd0 hp, h4.sz, h4.dl, h4.d0, by have := h4.lv; omega⟩
 | bad e p =>
  obtain ⟨q, lev, ns, dp, h1, h2, h3, h4⟩ := h
  refine ⟨_, h4.p.cl, h4.p.fz 6, ?_, Hv.Qa6 (Qbg _ _ _ _) (by have := h4.p.glt; omega)⟩
  have hp : Post w (w.setCell ⟨g, 6, none⟩ (.int .i64 (wrap64 (lev - 1)))) A c L g q (.int .i64 (wrap64 (lev - 1))) vn vd := ⟨h4.p.set 6 _ rfl h4.p.lt, Qbg _ _ _ _⟩
  exact ⟨q, _, ns, dp, h1, h2, h3, h4.Qd0 hp⟩
end
def levS : Sg → Sg
 | .ok ts lev ns dp => if 100 ≤ lev then .bad 91 (hd ts).f3 else .ok ts.tail (lev + 1) ns dp
 | .bad e p => .bad e p
theorem Qh0 (ts : List Tk) (lev : Nat) (ns : List Nd) (dp : List Int) : levS (.ok ts lev ns dp) = if 100 ≤ lev then .bad 91 (hd ts).f3 else .ok ts.tail (lev + 1) ns dp := rfl
theorem Qet (w : World) (A : Option Addr) (c : Nat) (L : List Tk) (g : Nat) (vn vd : Value) (s : Sg) (hG : Qdo L) (h0 : ∀ ts lev ns dp, s = .ok ts lev ns dp → (hd ts).f0 ≠ 0) (h : Is w A c L g vn vd s) :
  Calls Try.prog 95 #[.pointer (some ⟨g, 0, none⟩)] w fun e w' => e = .returned (.tuple #[]) ∧ Is w' A c L g vn vd (levS s) ∧ Hv w w' g vn vd vn vd := by
 have hgl := h.glt
 cases s with
 | bad e pl =>
  obtain ⟨y3, hne⟩ := h.fault
  have d1 : (e != 0) = true := bne_iff_ne.2 hne
  have H := J0.m h
  have HGL := J0.m hgl
  clear h hne hgl
  go_enter Try.func95, Try.ntmps95
  go_wp2
  refine bodyPost_ret (results_none rfl _ _ _) rfl ?_
  exact ⟨rfl, H.o, Hv.refl (by have := HGL.o; omega)⟩
 | ok ts lev ns dp =>
  have hk0 := h0 _ _ _ _ rfl
  obtain ⟨q, h1, rfl, h3, h4⟩ := h
  have y3 := h3.p.cf
  rw [h1] at y3
  have y6 := h3.p.cl
  have y1 := h3.p.c1
  have f6 := h3.p.fz 6
  have f1 := h3.p.fz 1
  have hk : (tk L q.at_).f0 ≠ 0 := by rw [← Qcg h3.p.lt]; exact hk0
  have HL1 : J0 (q.at_ + 1 < L.length) := ⟨hG q.at_ h3.p.lt hk⟩
  have HNW := J0.m (Qfa h3.p)
  have HP := J0.m h3
  have H4 := J0.m h4
  have H1 := J0.m h1
  have HGL := J0.m hgl
  have HHD := J0.m (Qcg h3.p.lt)
  by_cases hlv : 100 ≤ lev
  ·obtain rfl : lev = 100 := by have := h4.lv; omega
   have HN := J0.m (Qef w A c L g q _ _ _ h3.p)
   have HF : J0 (∀ W e p, IsR W A c L g q (.int .i64 ((100 : Nat) : Int)) vn vd → Calls Try.prog 48 #[.pointer (some ⟨g, 0, none⟩), .int .i64 p, .int .i64 e] W fun r w' => r = .returned (.tuple #[]) ∧ Post W w' A c L g (Qcy e p q) (.int .i64 ((100 : Nat) : Int)) vn vd) := ⟨fun W e p hW => Qcs W A c L g q _ vn vd e p hW⟩
   obtain ⟨⟨t0, t1, t2, t3, t4⟩, ht⟩ : ∃ t, t = tk L q.at_ := ⟨_, rfl⟩
   rw [← ht] at HN HHD
   obtain ⟨gd0, gd1, gd2, gd3⟩ := fld ⟨t0, t1, t2, t3, t4⟩
   clear h0 hk0 h1 h3 h4 hk ht hlv hgl f6 f1 y1
   go_enter Try.func95, Try.ntmps95
   go_wp2_with fail
   refine HN.o.mono ?_
   rintro e w1 ⟨rfl, hb1⟩
   have HB1 := J0.m hb1
   clear hb1
   go_wp2_with fail
   refine (HF.o w1 91 t3 (HP.o.p.below HB1.o)).mono ?_
   rintro e w2 ⟨rfl, hp⟩
   have HPO := J0.m (hp.of_below HB1.o)
   clear hp
   go_wp2
   refine bodyPost_ret (results_none rfl _ _ _) rfl ?_
   refine ⟨rfl, ?_, Hv.Qa6 HPO.o.2 (by have := HGL.o; omega)⟩
   show Is _ A c L g vn vd (levS (.ok (L.drop q.at_) 100 ns dp))
   rw [Qh0, if_pos (Nat.le_refl _), HHD.o]
   have hpo := HPO.o
   unfold Qcy at hpo
   rw [if_pos H1.o] at hpo
   exact ⟨_, _, ns, dp, rfl, rfl, by decide, HP.o.Qd0 hpo⟩
  ·have d6 : ((lev : Int) == 100) = false := beq_eq_false_iff_ne.2 (by omega)
   have HV6 : J0 (wrap64 ((lev : Int) + 1) = ((lev + 1 : Nat) : Int)) := ⟨by unfold wrap64; omega⟩
   have HLV := J0.m hlv
   clear h0 hk0 h1 h3 h4 hk hgl
   go_enter Try.func95, Try.ntmps95
   go_wp2
   rw [HNW.o]
   have hle : ((lev : Int) + 1) = ((lev + 1 : Nat) : Int) := rfl
   rw [hle]
   first | refine bodyPost_ret (results_none rfl _ _ _) rfl ?_ | go_end0
   refine ⟨rfl, ?_, Hv.Qa6 ((Qbg _ _ _ _).trans (Qbg _ _ _ _)) (by have := HGL.o; omega)⟩
   show Is _ A c L g vn vd (levS (.ok (L.drop q.at_) lev ns dp))
   rw [Qh0, if_neg HLV.o]
   have hp6 : Post w (w.setCell ⟨g, 6, none⟩ (.int .i64 ((lev + 1 : Nat) : Int))) A c L g q (.int .i64 ((lev + 1 : Nat) : Int)) vn vd := ⟨HP.o.p.set 6 _ rfl HP.o.p.lt, Qbg _ _ _ _⟩
   have hE6 := HP.o.Qd0 hp6
   have hp1 : Post (w.setCell ⟨g, 6, none⟩ (.int .i64 ((lev + 1 : Nat) : Int))) ((w.setCell ⟨g, 6, none⟩ (.int .i64 ((lev + 1 : Nat) : Int))).setCell ⟨g, 1, none⟩ (.int .i64 ((q.at_ + 1 : Nat) : Int))) A c L g ⟨q.at_ + 1, q.fl, q.pl⟩ (.int .i64 ((lev + 1 : Nat) : Int)) vn vd := ⟨hE6.p.step HL1.o, Qbg _ _ _ _⟩
   refine ⟨⟨q.at_ + 1, q.fl, q.pl⟩, H1.o, ?_, hE6.Qd0 hp1, ?_⟩
   ·rw [List.tail_drop]
   ·rw [List.tail_drop]
    have hq := H4.o
    exact ⟨by have := hq.sz; rw [List.length_drop] at *; omega, hq.dl, hq.d0, by have := HLV.o; omega⟩
section
variable {W W' w2 : World} {A : Option Addr} {c : Nat} {L : List Tk} {g : Nat} {q : Q3} {lev : Int} {vn vd : Value} {ns : List Nd} {dp dp0 dp1 : List Int}
theorem IsE.appD (h : IsE W A c L g q lev vn ns vd dp) (hB : Below W.heap.size W W') {v0 v1 : Value} (hv : v0.ownBlock = vd.ownBlock) (hr : RI W' g v0 dp0) (hg : W'.grownBy w2 v0.ownBlock) (hat : v1.ownBlock = v0.ownBlock ∨ ∃ b, v1.ownBlock = some b ∧ W'.heap.size ≤ b) (ho : RI w2 g v1 dp1) :
  IsE (w2.setCell ⟨g, 5, none⟩ v1) A c L g q lev vn ns v1 dp1 ∧ Hv W (w2.setCell ⟨g, 5, none⟩ v1) g vn vd vn v1 := by
 have h2 := h.below hB
 have hne : some g ≠ v0.ownBlock := Kd.R_ne hr h2.p.blk (by decide)
 have hP : IsR w2 A c L g q (.int .i64 lev) vn vd := ⟨Qbh h2.p.blk hg hne, Kd.Qfz h2.p.row hg (fun k hk e => by have := Kd.Qfe hr k e.symm; omega), h2.p.lt, h2.p.cap⟩
 have hn : RN w2 g vn ns := Kd.Ql8 h2.n hr (by decide) hg
 have hgs := Qbg w2 g 5 v1
 have hsz := hB.size
 have hgl := h.p.glt
 refine ⟨⟨hP.set 5 v1 rfl hP.lt, Qf3 hn hgs ⟨_, hP.blk⟩, Qgt ho hgs ⟨_, hP.blk⟩⟩, ⟨?_, fun k hk h1 h2' h3 => ?_, .inl rfl, ?_⟩⟩
 ·exact (((hB.mono (by omega)).grown hg (by omega) (fun k hk => Kd.Qfe hr k hk))).setCell (p := ⟨g, 5, none⟩) (Nat.le_refl _) _
 ·rw [Below.heap_setCell w2 ⟨g, 5, none⟩ v1 k h1, hg.block k (by omega) (fun e => h3 (by rw [← hv]; exact e.symm)), hB.block k hk]
 ·rcases hat with a | ⟨b, a, hb⟩
  ·exact .inl (a.trans hv)
  ·exact .inr ⟨b, a, by omega⟩
theorem IsE.appN (h : IsE W A c L g q lev vn ns vd dp) (hB : Below W.heap.size W W') {v1 : Value} {ns1 : List Nd} {n : Nat} (hw : Went W' w2 vn v1 n) (ho : RN w2 g v1 ns1) :
  IsE (w2.setCell ⟨g, 4, none⟩ v1) A c L g q lev v1 ns1 vd dp ∧ Hv W (w2.setCell ⟨g, 4, none⟩ v1) g vn vd v1 vd := by
 have hg := hw.grown
 have h2 := h.below hB
 have hne : some g ≠ vn.ownBlock := Kd.R_ne h2.n h2.p.blk (by decide)
 have hP : IsR w2 A c L g q (.int .i64 lev) vn vd := ⟨Qbh h2.p.blk hg hne, Kd.Qfz h2.p.row hg (fun k hk e => by have := Kd.Qfe h2.n k e.symm; omega), h2.p.lt, h2.p.cap⟩
 have hd : RI w2 g vd dp := Kd.Ql8 h2.d h2.n (by decide) hg
 have hgs := Qbg w2 g 4 v1
 have hsz := hB.size
 have hgl := h.p.glt
 refine ⟨⟨hP.set 4 v1 rfl hP.lt, Qf3 ho hgs ⟨_, hP.blk⟩, Qgt hd hgs ⟨_, hP.blk⟩⟩, ⟨?_, fun k hk h1 h2' h3 => ?_, ?_, .inl rfl⟩⟩
 ·exact (((hB.mono (by omega)).grown hg (by omega) (fun k hk => Kd.Qfe h2.n k hk))).setCell (p := ⟨g, 4, none⟩) (Nat.le_refl _) _
 ·rw [Below.heap_setCell w2 ⟨g, 4, none⟩ v1 k h1, hg.block k (by omega) (fun e => h2' e.symm), hB.block k hk]
 ·rcases hw.at with a | ⟨b, a, hb⟩
  ·exact .inl a
  ·exact .inr ⟨b, a, by omega⟩
end
theorem Qfn (w : World) (A : Option Addr) (c : Nat) (L : List Tk) (g : Nat) (vn vd : Value) (e pl : Int) (n : Nd) (kids : Int) (h : Is w A c L g vn vd (.bad e pl)) :
  Calls Try.prog 76 #[.pointer (some ⟨g, 0, none⟩), .agg #[.int .i64 n.f0, .int .i64 n.f1, .int .u64 n.f2, .string n.f3, .int .i64 n.f4], .int .i64 kids] w fun e' w' => e' = .returned (.tuple #[]) ∧ Is w' A c L g vn vd (.bad e pl) ∧ Below w.heap.size w w' := by
 have HB := J0.m (Qab (Below.refl w.heap.size w) (.cells #[.int .i64 n.f0, .int .i64 n.f1, .int .u64 n.f2, .string n.f3, .int .i64 n.f4] 49))
 have HE := J0.m (h.below HB.o)
 obtain ⟨y2, h0⟩ := HE.o.fault
 have d1 : (e != 0) = true := bne_iff_ne.2 h0
 clear h h0
 go_enter Try.func76, Try.ntmps76
 go_wp2
 refine bodyPost_ret (results_none rfl _ _ _) rfl ?_
 exact ⟨rfl, HE.o, HB.o⟩
theorem Qfh (w : World) (A : Option Addr) (c : Nat) (L : List Tk) (g : Nat) (vn vd : Value) (ts : List Tk) (lev : Nat) (ns : List Nd) (dp0 ks : List Int) (n : Nd) (h : Is w A c L g vn vd (.ok ts lev ns (dp0 ++ ks))) (hz : ns.length + 1 + ts.length ≤ 33554432) :
  Calls Try.prog 76 #[.pointer (some ⟨g, 0, none⟩), .agg #[.int .i64 n.f0, .int .i64 n.f1, .int .u64 n.f2, .string n.f3, .int .i64 n.f4], .int .i64 (ks.length : Int)] w fun e' w' => e' = .returned (.tuple #[]) ∧ Ends w A c L g vn vd (putS n ts lev ns dp0 ks) w' := by
 obtain ⟨q, h1, h2, h3, h4⟩ := h
 obtain ⟨Ad, cd, hvd⟩ := Kd.Qcp h3.d
 subst hvd
 obtain ⟨An, cn, hvn⟩ := Kd.Qcp h3.n
 subst hvn
 obtain ⟨W0, hW0⟩ : ∃ W0, W0 = w.alloc (.cells #[.int .i64 n.f0, .int .i64 n.f1, .int .u64 n.f2, .string n.f3, .int .i64 n.f4] 49) := ⟨_, rfl⟩
 obtain ⟨b, hb⟩ : ∃ b, b = w.heap.size := ⟨_, rfl⟩
 have hB0 : Below w.heap.size w W0 := by rw [hW0]; exact Qab (Below.refl _ _) _
 have hbx : W0.heap[b]? = some (.cells #[.int .i64 n.f0, .int .i64 n.f1, .int .u64 n.f2, .string n.f3, .int .i64 n.f4] 49 (0, 0)) := by rw [hW0, hb]; exact Qay _ _
 have HW0 := J0.m hW0
 have HB := J0.m hb
 have HB0 := J0.m hB0
 have HNB : J0 (∀ k, (Value.slice An ns.length cn).ownBlock = some k → k < b) := ⟨fun k hk => by rw [hb]; exact Kd.R_lt h3.n k hk⟩
 have HGB0 : J0 (g < b) := ⟨by rw [hb]; exact h3.p.glt⟩
 have HE := J0.m (h3.below hB0)
 have HX := J0.m hbx
 have y3 := HE.o.p.cf
 have y5 := HE.o.p.cd
 rw [h1] at y3
 obtain ⟨hn6, hc6, hC6⟩ := Kd.Qd3 HE.o.d
 have hlen : (dp0 ++ ks).length = dp0.length + ks.length := List.length_append
 obtain ⟨NN, hNN⟩ : ∃ NN, NN = (dp0 ++ ks).length := ⟨_, rfl⟩
 rw [← hNN] at y5 hc6
 have hNN2 : NN = dp0.length + ks.length := by rw [hNN, hlen]
 have hsz := h4.sz
 have hdl := h4.dl
 have HDL : J0 (dp0.length + ks.length ≤ 33554432) := ⟨by rw [← hlen]; omega⟩
 have HNN := J0.m hNN2
 have HNE := J0.m hNN
 have s1 : wrap64 ((NN : Int) - (ks.length : Int)) = (dp0.length : Int) := by have := HDL.o; unfold wrap64; omega
 have Y5 := J0.m y5
 rw [hW0] at y3 y5
 have H1 := J0.m h1
 have H2 := J0.m h2
 have H4 := J0.m h4
 have HZ := J0.m hz
 have HC6 := J0.m hC6
 have HK := J0.m hc6
 clear h1 h2 h3 h4 hz hW0 hB0 hbx hn6 hC6 hdl hsz hlen hNN hNN2 hb
 go_enter Try.func76, Try.ntmps76
 go_wp2
 rw [← HW0.o, ← HB.o]
 clear y3 y5
 have y5 := Y5.o
 go_loop [6, 8] (fun td ti => ∃ i : Nat, ti = .int .i64 ((dp0.length + i : Nat) : Int) ∧ td = .int .i64 (mxl (ks.take i)) ∧ J0 (i ≤ ks.length)) (fun _ ti => NN - left ti)
 case atStart => exact ⟨0, by rw [s1]; rfl, rfl, ⟨Nat.zero_le _⟩⟩
 case round =>
  obtain ⟨i, rfl, rfl, hi⟩ := hrel
  by_cases ci : i < ks.length
  ·have hln : dp0.length + i < NN := by have := HNN.o; omega
   have d1 : decide (((dp0.length + i : Nat) : Int) < (NN : Int)) = true := decide_eq_true (by omega)
   have d2 : decide (dp0.length + i < NN) = true := decide_eq_true hln
   have d3 : (((dp0.length + i : Nat) : Int) < (NN : Int)) := by omega
   obtain ⟨j, hj⟩ : ∃ j, j = dp0.length + i := ⟨_, rfl⟩
   rw [← hj] at d1 d2 d3 hln ⊢
   have HW := J0.m (Qj0 j NN (by have := HDL.o; have := HNN.o; omega) hln)
   have ML := J0.m (Qkz j NN (by have := HDL.o; have := HNN.o; omega) hln)
   obtain ⟨ad, had, hx⟩ := Kd.Qqf HC6.o (j : Int) (by omega) (by rw [← HNE.o]; omega)
   rw [Int.toNat_natCast] at hx
   have hrd : rd (dp0 ++ ks) (j : Int) = rd ks (i : Int) := by
    unfold rd
    rw [Int.toNat_natCast, Int.toNat_natCast, hj, List.getD_eq_getElem?_getD, List.getD_eq_getElem?_getD, List.getElem?_append_right (by omega), Nat.add_sub_cancel_left]
   have HS : J0 (mxl (ks.take (i + 1)) = max (mxl (ks.take i)) (rd ks (i : Int))) := ⟨by
    rw [List.take_succ_eq_append_getElem ci, Qlx]
    congr 1
    unfold rd; rw [Int.toNat_natCast, List.getD_eq_getElem?_getD, List.getElem?_eq_getElem ci]; rfl⟩
   obtain ⟨m1, hm1⟩ : ∃ m1, m1 = mxl (ks.take i) := ⟨_, rfl⟩
   obtain ⟨m2, hm2⟩ : ∃ m2, m2 = rd ks (i : Int) := ⟨_, rfl⟩
   rw [hrd, ← hm2] at hx
   rw [← hm1, ← hm2] at HS
   rw [← hm1]
   subst had
   have HJ := J0.m hj
   clear hm1 hm2 hrd hj
   by_cases hgt : m2 > m1
   ·have e1 : decide (m2 > m1) = true := decide_eq_true hgt
    have HMX : J0 (max m1 m2 = m2) := ⟨by omega⟩
    go_wp2
    exact ⟨⟨i + 1, by rw [HW.o, HJ.o]; rfl, by rw [HS.o, HMX.o], ⟨by omega⟩⟩, ML.o⟩
   ·have e1 : decide (m2 > m1) = false := decide_eq_false hgt
    have HMX : J0 (max m1 m2 = m1) := ⟨by omega⟩
    go_wp2
    exact ⟨⟨i + 1, by rw [HW.o, HJ.o]; rfl, by rw [HS.o, HMX.o], ⟨by omega⟩⟩, ML.o⟩
  ·obtain rfl : i = ks.length := by have := hi.o; omega
   rw [List.take_length]
   have hend : dp0.length + ks.length = NN := HNN.o.symm
   rw [hend]
   have d1 : decide ((NN : Int) < (NN : Int)) = false := decide_eq_false (by omega)
   have hbd := Qp5 (fun d hd => H4.o.d0 d (List.mem_append_right _ hd))
   obtain ⟨M, hM⟩ : ∃ M, M = mxl ks := ⟨_, rfl⟩
   rw [← hM] at hbd ⊢
   obtain ⟨m0, m1⟩ := hbd
   have HM := J0.m hM
   have HE1 := HE
   have HX1 := HX
   have HGR : J0 (w.grownBy W0 (some g)) := ⟨Qaj HB0.o _⟩
   have HGB := HGB0
   clear hM ci hend
   by_cases cm : M + 1 > 100
   ·have e1 : decide (M + 1 > 100) = true := decide_eq_true cm
    have HP : J0 (putS n ts lev ns dp0 ks = .bad 91 n.f4) := ⟨by unfold putS; rw [← HM.o, if_pos cm]⟩
    have HFL := J0.m (Qcs W0 A c L g q _ _ _ 91 n.f4 HE1.o.p)
    have x4 : W0.cell? ⟨b, 4, none⟩ = some (.int .i64 n.f4) := (Qac HX1.o 4).trans rfl
    go_wp2_with fail
    refine HFL.o.mono ?_
    rintro e w1 ⟨rfl, hp⟩
    have HP1 := J0.m hp
    clear hp
    go_wp2
    refine bodyPost_ret (results_none rfl _ _ _) rfl ?_
    rw [HP.o]
    refine ⟨rfl, _, _, ⟨_, _, ns, dp0 ++ ks, by unfold Qcy; rw [if_pos H1.o], by unfold Qcy; rw [if_pos H1.o], by decide, HE1.o.Qd0 HP1.o⟩, Hv.Qa6 (HGR.o.trans HP1.o.g) (by have := HGB.o; have := HB.o; omega)⟩
   ·have e1 : decide (M + 1 > 100) = false := decide_eq_false cm
    have HP : J0 (putS n ts lev ns dp0 ks = .ok ts lev (ns ++ [n]) (dp0 ++ [M + 1])) := ⟨by unfold putS; rw [← HM.o, if_neg cm]⟩
    have HCM : J0 (0 ≤ M ∧ M + 1 ≤ 100) := ⟨⟨m0, by omega⟩⟩
    have q1 : dp0.length ≤ cd := by have := HK.o; have := HNN.o; omega
    have q2 : (dp0.length : Int) ≤ (cd : Int) := by omega
    have HRD : J0 (RI W0 g (.slice Ad dp0.length cd) dp0) := ⟨by
     have h := Kd.Qqi HE1.o.d (m := dp0.length) (by rw [List.length_append]; omega)
     rwa [List.take_left] at h⟩
    obtain ⟨W1, hW1⟩ : ∃ W1, W1 = W0 := ⟨_, rfl⟩
    subst hW1
    clear cm
    go_wp2_with ((with_reducible refine Qcu (b := .append) (xs := #[.tmp 60, .tmp 63]) rfl ?_); at_builtin; refine Kd.Qem (Kd.int .i64) (w0 := W1) g rfl (.tmp 60) (.tmp 63) 40 3 (.int .i64 0) 8 rfl Try.underlying40 Qrf rfl (by decide) (by omega) (.slice Ad dp0.length cd) dp0 (M + 1) [.int .i64 (M + 1)] (fun _ => True) (fun _ => False) rfl rfl (show (Kd.int .i64).M _ _ _ (M + 1) [.int .i64 (M + 1)] from rfl) (fun _ hk => hk.elim) (fun _ _ => trivial) HRD.o (Below.refl _ _) (by have := HE1.o.p.glt; omega) (by have := HDL.o; omega) ?_; intro v1 w2 ho hb hg hat; obtain ⟨Av, cv, hv1⟩ := Kd.Qcp ho; rw [List.length_append, List.length_singleton] at hv1; subst hv1; have HO2 := J0.m ho; have HG2 := J0.m hg; have HAT := J0.m hat; have hP2 := Qbh HE1.o.p.blk hg (Kd.R_ne HRD.o HE1.o.p.blk (by decide)); have y5e : w2.cell? ⟨g, 5, none⟩ = some (.slice Ad NN cd) := (by rw [HNE.o]; exact (Qac hP2 5).trans rfl); have f5e := Qaa hP2 5; clear ho hb hg hat hP2)
    have hVD : (Value.slice Ad dp0.length cd).ownBlock = (Value.slice Ad (dp0 ++ ks).length cd).ownBlock := by unfold Value.ownBlock; cases Ad <;> rfl
    have h6 := HE1.o.appD (Below.refl _ _) hVD HRD.o HG2.o HAT.o HO2.o
    obtain ⟨W3, hW3⟩ : ∃ W3, W3 = w2.setCell ⟨g, 5, none⟩ (.slice Av (dp0.length + 1) cv) := ⟨_, rfl⟩
    have hbx3 : W3.heap[b]? = some (.cells #[.int .i64 n.f0, .int .i64 n.f1, .int .u64 n.f2, .string n.f3, .int .i64 n.f4] 49 (0, 0)) := by
     rw [hW3]
     exact h6.2.blk HX1.o (by have := HGB.o; omega) (fun e => by have := HNB.o b e; omega) (fun e => Kd.R_ne HE1.o.d HX1.o (by decide) e.symm)
    have HE3 : J0 (IsE W3 A c L g q (lev : Int) (.slice An ns.length cn) ns (.slice Av (dp0.length + 1) cv) (dp0 ++ [M + 1])) := ⟨by rw [hW3]; exact h6.1⟩
    have HH3 : J0 (Hv W1 W3 g (.slice An ns.length cn) (.slice Ad (dp0 ++ ks).length cd) (.slice An ns.length cn) (.slice Av (dp0.length + 1) cv)) := ⟨by rw [hW3]; exact h6.2⟩
    have HX3 := J0.m hbx3
    have HBZ : J0 (Below W3.heap.size W3 (W3.alloc (.cells #[.int .i64 n.f0, .int .i64 n.f1, .int .u64 n.f2, .string n.f3, .int .i64 n.f4] 49)).drew) := ⟨Qaf (Qab (Below.refl _ _) _)⟩
    have hS0 : (fun w' : World => w'.cell? ⟨g, 4, none⟩ = some (.slice An ns.length cn) ∧ w'.cell? ⟨b, 0, none⟩ = some (.int .i64 n.f0) ∧ w'.cell? ⟨b, 1, none⟩ = some (.int .i64 n.f1) ∧ w'.cell? ⟨b, 2, none⟩ = some (.int .u64 n.f2) ∧ w'.cell? ⟨b, 3, none⟩ = some (.string n.f3) ∧ w'.cell? ⟨b, 4, none⟩ = some (.int .i64 n.f4)) W3.drew := ⟨HE3.o.p.cn, Qdt HX3.o⟩
    have hSB : (fun w' : World => w'.cell? ⟨g, 4, none⟩ = some (.slice An ns.length cn) ∧ w'.cell? ⟨b, 0, none⟩ = some (.int .i64 n.f0) ∧ w'.cell? ⟨b, 1, none⟩ = some (.int .i64 n.f1) ∧ w'.cell? ⟨b, 2, none⟩ = some (.int .u64 n.f2) ∧ w'.cell? ⟨b, 3, none⟩ = some (.string n.f3) ∧ w'.cell? ⟨b, 4, none⟩ = some (.int .i64 n.f4)) (W3.alloc (.cells #[.int .i64 n.f0, .int .i64 n.f1, .int .u64 n.f2, .string n.f3, .int .i64 n.f4] 49)).drew := ⟨(HE3.o.p.below HBZ.o).cn, Qdt (Qae HX3.o HBZ.o)⟩
    have hu49 := Try.underlying49
    rw [← hW3]
    clear hW3 h6 hbx3 y5e f5e y5 q1 q2 e1 s1
    go_wp2
    refine Qfr (n := 11) (S := fun w' => w'.cell? ⟨g, 4, none⟩ = some (.slice An ns.length cn) ∧ w'.cell? ⟨b, 0, none⟩ = some (.int .i64 n.f0) ∧ w'.cell? ⟨b, 1, none⟩ = some (.int .i64 n.f1) ∧ w'.cell? ⟨b, 2, none⟩ = some (.int .u64 n.f2) ∧ w'.cell? ⟨b, 3, none⟩ = some (.string n.f3) ∧ w'.cell? ⟨b, 4, none⟩ = some (.int .i64 n.f4)) (ds := [10]) #[false, false, false, false, false, false, false, false, false, false, false] (by kernel_rfl) rfl rfl (hS0) (fun hHeld => ?_)
    refine Qcd (i := 0) (N := some 67) (v := ?_) (a' := ?_) #[true, false, false, false, false, false, false, false, false, false, false] rfl rfl (by kernel_rfl) (fun _ _ _ h => h) (Or.inl ⟨by rfl, ?_⟩) ?_ ?_
    rotate_left
    ·intro w'
     go_simp
     with_reducible rfl
    rotate_left
    ·simp only [Act.put, List.setIfInBounds_toArray, List.set_cons_zero, List.set_cons_succ, Qbj, Qbp]
     rfl
    refine Qcd (i := 1) (N := some 68) (v := ?_) (a' := ?_) #[true, true, false, false, false, false, false, false, false, false, false] rfl rfl (by kernel_rfl) (fun _ _ _ h => h) (Or.inl ⟨by rfl, ?_⟩) ?_ ?_
    rotate_left
    ·intro w'
     go_simp
     with_reducible rfl
    rotate_left
    ·simp only [Act.put, List.setIfInBounds_toArray, List.set_cons_zero, List.set_cons_succ, Qbj, Qbp]
     rfl
    refine Qcd (i := 2) (N := some 69) (v := ?_) (a' := ?_) #[true, true, true, false, false, false, false, false, false, false, false] rfl rfl (by kernel_rfl) (fun _ _ _ h => h) (Or.inl ⟨by rfl, ?_⟩) ?_ ?_
    rotate_left
    ·intro w'
     go_simp
     with_reducible rfl
    rotate_left
    ·simp only [Act.put, List.setIfInBounds_toArray, List.set_cons_zero, List.set_cons_succ, Qbj, Qbp]
     rfl
    refine Qcd (i := 3) (N := some 70) (v := ?_) (a' := ?_) #[true, true, true, true, false, false, false, false, false, false, false] rfl rfl (by kernel_rfl) (fun _ _ _ h => h) (Or.inl ⟨by rfl, ?_⟩) ?_ ?_
    rotate_left
    ·intro w'
     go_simp
     with_reducible rfl
    rotate_left
    ·simp only [Act.put, List.setIfInBounds_toArray, List.set_cons_zero, List.set_cons_succ, Qbj, Qbp]
     rfl
    refine Qge (i := 4) (N := some 71) (v := ?_) (a' := ?_) #[true, true, true, true, true, false, false, false, false, false, false] rfl rfl (by kernel_rfl) (fun _ _ _ h => h) (Or.inl ⟨by rfl, ?_⟩) hHeld ?_ ?_
    rotate_left
    ·intro w' hS'
     obtain ⟨y_, yb0, yb1, yb2, yb3, yb4⟩ := hS'
     go_simp
     with_reducible rfl
    rotate_left
    ·simp only [Act.put, List.setIfInBounds_toArray, List.set_cons_zero, List.set_cons_succ, Qbj, Qbp]
     rfl
    refine Qge (i := 5) (N := some 72) (v := ?_) (a' := ?_) #[true, true, true, true, true, true, false, false, false, false, false] rfl rfl (by kernel_rfl) (fun _ _ _ h => h) (Or.inl ⟨by rfl, ?_⟩) hHeld ?_ ?_
    rotate_left
    ·intro w' hS'
     obtain ⟨y_, yb0, yb1, yb2, yb3, yb4⟩ := hS'
     go_simp
     with_reducible rfl
    rotate_left
    ·simp only [Act.put, List.setIfInBounds_toArray, List.set_cons_zero, List.set_cons_succ, Qbj, Qbp]
     rfl
    refine one_ (i := 6) (N := some 73) #[true, true, true, true, true, true, true, false, false, false, false] rfl rfl (by kernel_rfl) (by decide) (fun K hK => ?_)
    refine Qf7 (w1 := ?_) (v := ?_) (by rfl) rfl ?_ ?_
    rotate_left 2
    ·go_simp
     first | rfl | (constructor <;> rfl)
    refine hK.out _ _ (hSB) (fun hHeld => ?_)
    clear hK K
    refine one_ (i := 7) (N := some 74) #[true, true, true, true, true, true, true, true, false, false, false] rfl rfl (by kernel_rfl) (by decide) (fun K hK => ?_)
    refine Kd.Qds (N := some 74) rfl kn (w0 := W3) g (by rfl) (.tmp 71) (.tmp 73) 32 49 (.agg #[.int .i64 0, .int .i64 0, .int .u64 0, .string ⟨#[]⟩, .int .i64 0]) 48 rfl Try.underlying32 infoN rfl (by decide) (by omega) (.slice An ns.length cn) ns n [.int .i64 n.f0, .int .i64 n.f1, .int .u64 n.f2, .string n.f3, .int .i64 n.f4] (fun _ => True) (fun _ => False) (by rfl) ⟨W3.heap.size, 0, none⟩ 1 (by rfl) (World.news_of_block (cs := #[.int .i64 n.f0, .int .i64 n.f1, .int .u64 n.f2, .string n.f3, .int .i64 n.f4]) (t := 49) (fr := (0, 0)) (heap_alloc_new _ _)) (Qp6 _ _ _ n) (fun _ hk => hk.elim) (fun _ _ => trivial) (Kd.Qb4 HE3.o.n HBZ.o) (HBZ.o.mono (by have := HE3.o.p.glt; omega)) (by have := HE3.o.p.glt; have := HBZ.o.size; omega) (by have := HZ.o; omega) ?_
    intro v2 w4 ho hb hw
    obtain ⟨An2, cn2, hv2⟩ := Kd.Qcp ho
    rw [List.length_append, List.length_singleton] at hv2
    subst hv2
    have HO4 := J0.m ho
    have HWT4 := J0.m hw
    have hP4 := Qbh (Qae HE3.o.p.blk HBZ.o) hw.grown (Kd.R_ne (Kd.Qb4 HE3.o.n HBZ.o) (Qae HE3.o.p.blk HBZ.o) (by decide))
    have hX4 := Qbh (Qae HX3.o HBZ.o) hw.grown (fun e => by have := HNB.o b e.symm; omega)
    have f5 := Qaa hP4 4
    have y5e : w4.cell? ⟨g, 4, none⟩ = some (.slice An ns.length cn) := (Qac hP4 4).trans rfl
    obtain ⟨k0, k1, k2, k3, k4⟩ := Qdt hX4
    have hSA := And.intro y5e (And.intro k0 (And.intro k1 (And.intro k2 (And.intro k3 k4))))
    clear ho hb hw hP4 hX4
    refine hK.out _ _ (hSA) (fun hHeld => ?_)
    clear hK K
    refine Qcd (i := 8) (N := some 75) (v := ?_) (a' := ?_) #[true, true, true, true, true, true, true, true, true, false, false] rfl rfl (by kernel_rfl) (fun _ _ _ h => h) (Or.inl ⟨by rfl, ?_⟩) ?_ ?_
    rotate_left
    ·intro w'
     go_simp
     with_reducible rfl
    rotate_left
    ·simp only [Act.put, List.setIfInBounds_toArray, List.set_cons_zero, List.set_cons_succ, Qbj, Qbp]
     rfl
    refine Qcd (i := 9) (N := some 76) (v := ?_) (a' := ?_) #[true, true, true, true, true, true, true, true, true, true, false] rfl rfl (by kernel_rfl) (fun _ _ _ h => h) (Or.inl ⟨by rfl, ?_⟩) ?_ ?_
    rotate_left
    ·intro w'
     go_simp
     with_reducible rfl
    rotate_left
    ·simp only [Act.put, List.setIfInBounds_toArray, List.set_cons_zero, List.set_cons_succ, Qbj, Qbp]
     rfl
    refine Qil (i := 10) (N := none) #[true, true, true, true, true, true, true, true, true, true, true] rfl rfl (by kernel_rfl) (by decide) (fun K hK => ?_)
    skip
    refine Qgz (w1 := ?_) (by rfl) rfl ?_ ?_
    rotate_left
    ·go_simp
     first | rfl | (constructor <;> rfl)
    refine hK.out _ _ ?_
    clear hK K
    refine Qh4 (by kernel_rfl) ?_
    go_wp2
    go_end0
    have h5 := HE3.o.appN HBZ.o HWT4.o HO4.o
    rw [HP.o]
    refine ⟨rfl, _, _, ⟨q, H1.o, H2.o, h5.1, ⟨?_, ?_, ?_, H4.o.lv⟩⟩, ?_⟩
    ·have := HZ.o; rw [List.length_append, List.length_singleton]; omega
    ·have h := H4.o.dl; rw [List.length_append] at h; rw [List.length_append, List.length_append, List.length_singleton, List.length_singleton]; omega
    ·intro d hd
     rcases List.mem_append.1 hd with h | h
     ·exact H4.o.d0 d (List.mem_append_left _ h)
     ·rw [List.mem_singleton.1 h]; have := HCM.o; omega
    ·exact (Hv.Qa6 HGR.o (by have := HGB.o; have := HB.o; omega)).trans (HH3.o.trans h5.2)
theorem Qjg {w : World} {A : Option Addr} {c : Nat} {L : List Tk} {g : Nat} {vn vd : Value} {s : Sg} {N k l : Nat} (n : Nd) (h : Is w A c L g vn vd s) (ha : s.At N k l) (hN : N + 1 ≤ 33554432) :
  Calls Try.prog 76 #[.pointer (some ⟨g, 0, none⟩), .agg #[.int .i64 n.f0, .int .i64 n.f1, .int .u64 n.f2, .string n.f3, .int .i64 n.f4], .int .i64 (k : Int)] w fun e' w' => e' = .returned (.tuple #[]) ∧ Ends w A c L g vn vd (puG n k s) w' := by
 cases s with
 | ok ts lev ns dp =>
  obtain ⟨h1, h2, h3⟩ := ha _ _ _ _ rfl
  have e1 : dp.take (dp.length - k) ++ dp.drop (dp.length - k) = dp := List.take_append_drop _ _
  have e2 : (dp.drop (dp.length - k)).length = k := by rw [List.length_drop]; omega
  have hi : Is w A c L g vn vd (.ok ts lev ns (dp.take (dp.length - k) ++ dp.drop (dp.length - k))) := by rw [e1]; exact h
  have := Qfh w A c L g vn vd ts lev ns _ _ n hi (by omega)
  rw [e2] at this
  exact this
 | bad e p => exact (Qfn w A c L g vn vd e p n k h).mono fun r w' ⟨h1, h2, h3⟩ => ⟨h1, vn, vd, h2, Hv.Qa6 (Qaj h3 _) (by have := h.glt; omega)⟩
end Go.Proofs.Ytbdcndkafaajpaa.R
end
