/- The texts of the law ParseBlanks, put together by a program of this workplace out of its own texts and of what the kit's print has written: walks of the functions, plain laws. No condition but those in the theorems. -/
import Derived.Deep.Slices
import Derived.SizedLaws
import Derived.ChangeSlices
import Derived.OpenShut
import Derived.DataReads
import Derived.DataElems
import Derived.Test.YtbdcndkafaajpaaProg
import Derived.Below
import Derived.Deep.Draws
import Derived.Deep.AppendLies
import Derived.Maps.AppendAt
import Derived.OwnWalk
import Derived.Laws.BytesArg
import Derived.Laws.MakeOwn
import Derived.Laws.OwnMore
import Derived.Deep.OwnRows
import Derived.Tactics
import Derived.Lib.ConvBytes
import Derived.Laws.Slices
import Derived.WalkKit
import Derived.KernelRfl
import Derived.RowKit3
import Derived.Deep.LoopGhost
import Derived.Deep.QuietTactic
import Derived.BigQuiet
import Derived.WideLaws
import Derived.Deep.DeepCutAuto
import Derived.Deep.CutBlock
import Derived.Deep.RegionHeld3
import Derived.Laws.Rows
import Derived.Lib.AppendStr
import Derived.ArgAppend
import Derived.Laws.IdiomCopy
import Derived.OrdersHeld
import Derived.Laws.BitsLemmas
import Derived.RowKit
import Derived.Test.YtbdcndkafaajpaaShelf
import Derived.BigCall
import Derived.Laws.Externs
import Derived.RegionTactic
import Derived.ChangeAlike
import Derived.BigRegion
import Derived.StillTailTactics
import Derived.Deep.DeepMust
import Derived.Outline
import Derived.Lib.BufferWrite
import Derived.Maps.OwnOps
import Derived.Test.YtbdcndkafaajpaaBParseBlanks0
section
set_option linter.unusedVariables false
set_option linter.unusedSimpArgs false
namespace Go.Proofs.Ytbdcndkafaajpaa.Q
open Go.RowKit Go.ChangeShapes Go.Proofs.YtbdcndkafaajpaaW.PrintWords
section
variable {H : Type} {enc : TypeId × Value → H} {P : Program} {W : World} {base : Nat} {spare : Nat → Bool} {held : Bool}
end
end Go.Proofs.Ytbdcndkafaajpaa.Q
end
section
namespace Go.Proofs.Ytbdcndkafaajpaa.Y
open Go.RowKit Go.Proofs.YtbdcndkafaajpaaW.PrintWords Go.Proofs.YtbdcndkafaajpaaW.PrintLast Go.Proofs.YtbdcndkafaajpaaW.PrintMore
attribute [local go_sem] max2_int min2_int max_two min_two max_three min_three max_four min_four   -- for this text's walks alone
set_option linter.unusedVariables false
set_option linter.unusedSimpArgs false
def errW : Option Int → Value
  | none => .nilIface
  | some c => .iface 0 (.int .i64 c)
theorem errW_none : errW none = .nilIface := rfl
theorem errW_some (c : Int) : errW (some c) = .iface 0 (.int .i64 c) := rfl
end Go.Proofs.Ytbdcndkafaajpaa.Y
end
section
namespace Go.Proofs.Ytbdcndkafaajpaa.Y
open Go.RowKit Go.Proofs.YtbdcndkafaajpaaW.PrintWords Go.Proofs.YtbdcndkafaajpaaW.PrintLast Go.Proofs.YtbdcndkafaajpaaW.PrintMore
attribute [local go_sem] max2_int min2_int max_two min_two max_three min_three max_four min_four   -- for this text's walks alone
set_option linter.unusedVariables false
set_option linter.unusedSimpArgs false
def lex_isDigit.f (a0 : Int) : Option (Bool) := if a0 ≥ 48 then (some (decide (a0 ≤ 57))) else (some false)
set_option maxHeartbeats 8000000 in
set_option maxRecDepth 100000 in
theorem lex_isDigit.calls (a0 : Int) (r : Bool) (w : World) (h : lex_isDigit.f a0 = some r) :
    Calls Try.prog 56 #[.int .u8 a0] w fun e w' => e = .returned (.bool r) ∧ Drawn0 w w' := by
  have H : (if a0 ≥ 48 then (some (decide (a0 ≤ 57))) else (some false)) = some r := h
  clear h
  by_cases c2 : a0 ≥ 48
  · rw [if_pos c2] at H
    have c2b0 : decide (48 ≤ a0) = true := decide_eq_true c2
    clear c2
    obtain rfl := Option.some.inj H
    go_enter Try.func56, Try.ntmps56
    go_wp2
    go_ret
    exact ⟨by first | rfl | (simp; done) | (simp [*]; done), by repeat (first | exact Drawn0.refl _ | apply Drawn0.step)⟩
  · rw [if_neg c2] at H
    have c2b0 : decide (48 ≤ a0) = false := decide_eq_false c2
    clear c2
    obtain rfl := Option.some.inj H
    go_enter Try.func56, Try.ntmps56
    go_wp2
    go_ret
    exact ⟨by first | rfl | (simp; done) | (simp [*]; done), by repeat (first | exact Drawn0.refl _ | apply Drawn0.step)⟩
def lex_isDigit.Pure : Prop := ∀ (a0 : Int), (Lit.int .u8 a0).wf = true → lex_isDigit.f a0 = some true
theorem lex_isDigit.walk (P : lex_isDigit.Pure) (a0 : Int) (w : World) (w0 : (Lit.int .u8 a0).wf = true) :
    Calls Try.prog 56 #[.int .u8 a0] w fun e w' => e = .returned (.bool true) ∧ Below w.heap.size w w' := by
  have h := P a0 w0
  refine (lex_isDigit.calls a0 true w h).mono ?_
  rintro e w' ⟨rfl, hd⟩
  exact ⟨rfl, hd.below⟩
def lex_isLetter.f (a0 : Int) : Option (Bool) := if a0 ≥ 97 then (if a0 ≤ 122 then (some true) else (if a0 ≥ 65 then (if a0 ≤ 90 then (some true) else (some (a0 == 95))) else (some (a0 == 95)))) else (if a0 ≥ 65 then (if a0 ≤ 90 then (some true) else (some (a0 == 95))) else (some (a0 == 95)))
set_option maxHeartbeats 8000000 in
set_option maxRecDepth 100000 in
theorem lex_isLetter.calls (a0 : Int) (r : Bool) (w : World) (h : lex_isLetter.f a0 = some r) :
    Calls Try.prog 53 #[.int .u8 a0] w fun e w' => e = .returned (.bool r) ∧ Drawn0 w w' := by
  have H : (if a0 ≥ 97 then (if a0 ≤ 122 then (some true) else (if a0 ≥ 65 then (if a0 ≤ 90 then (some true) else (some (a0 == 95))) else (some (a0 == 95)))) else (if a0 ≥ 65 then (if a0 ≤ 90 then (some true) else (some (a0 == 95))) else (some (a0 == 95)))) = some r := h
  clear h
  by_cases c2 : a0 ≥ 97
  · rw [if_pos c2] at H
    have c2b0 : decide (97 ≤ a0) = true := decide_eq_true c2
    clear c2
    by_cases c3 : a0 ≤ 122
    · rw [if_pos c3] at H
      have c3b0 : decide (a0 ≤ 122) = true := decide_eq_true c3
      clear c3
      obtain rfl := Option.some.inj H
      go_enter Try.func53, Try.ntmps53
      go_wp2
      go_ret
      exact ⟨by first | rfl | (simp; done) | (simp [*]; done), by repeat (first | exact Drawn0.refl _ | apply Drawn0.step)⟩
    · rw [if_neg c3] at H
      have c3b0 : decide (a0 ≤ 122) = false := decide_eq_false c3
      clear c3
      by_cases c4 : a0 ≥ 65
      · rw [if_pos c4] at H
        have c4b0 : decide (65 ≤ a0) = true := decide_eq_true c4
        clear c4
        by_cases c5 : a0 ≤ 90
        · rw [if_pos c5] at H
          have c5b0 : decide (a0 ≤ 90) = true := decide_eq_true c5
          clear c5
          obtain rfl := Option.some.inj H
          go_enter Try.func53, Try.ntmps53
          go_wp2
          go_ret
          exact ⟨by first | rfl | (simp; done) | (simp [*]; done), by repeat (first | exact Drawn0.refl _ | apply Drawn0.step)⟩
        · rw [if_neg c5] at H
          have c5b0 : decide (a0 ≤ 90) = false := decide_eq_false c5
          clear c5
          obtain rfl := Option.some.inj H
          go_enter Try.func53, Try.ntmps53
          go_wp2
          go_ret
          exact ⟨by first | rfl | (simp; done) | (simp [*]; done), by repeat (first | exact Drawn0.refl _ | apply Drawn0.step)⟩
      · rw [if_neg c4] at H
        have c4b0 : decide (65 ≤ a0) = false := decide_eq_false c4
        clear c4
        obtain rfl := Option.some.inj H
        go_enter Try.func53, Try.ntmps53
        go_wp2
        go_ret
        exact ⟨by first | rfl | (simp; done) | (simp [*]; done), by repeat (first | exact Drawn0.refl _ | apply Drawn0.step)⟩
  · rw [if_neg c2] at H
    have c2b0 : decide (97 ≤ a0) = false := decide_eq_false c2
    clear c2
    by_cases c6 : a0 ≥ 65
    · rw [if_pos c6] at H
      have c6b0 : decide (65 ≤ a0) = true := decide_eq_true c6
      clear c6
      by_cases c7 : a0 ≤ 90
      · rw [if_pos c7] at H
        have c7b0 : decide (a0 ≤ 90) = true := decide_eq_true c7
        clear c7
        obtain rfl := Option.some.inj H
        go_enter Try.func53, Try.ntmps53
        go_wp2
        go_ret
        exact ⟨by first | rfl | (simp; done) | (simp [*]; done), by repeat (first | exact Drawn0.refl _ | apply Drawn0.step)⟩
      · rw [if_neg c7] at H
        have c7b0 : decide (a0 ≤ 90) = false := decide_eq_false c7
        clear c7
        obtain rfl := Option.some.inj H
        go_enter Try.func53, Try.ntmps53
        go_wp2
        go_ret
        exact ⟨by first | rfl | (simp; done) | (simp [*]; done), by repeat (first | exact Drawn0.refl _ | apply Drawn0.step)⟩
    · rw [if_neg c6] at H
      have c6b0 : decide (65 ≤ a0) = false := decide_eq_false c6
      clear c6
      obtain rfl := Option.some.inj H
      go_enter Try.func53, Try.ntmps53
      go_wp2
      go_ret
      exact ⟨by first | rfl | (simp; done) | (simp [*]; done), by repeat (first | exact Drawn0.refl _ | apply Drawn0.step)⟩
def lex_isLetter.Pure : Prop := ∀ (a0 : Int), (Lit.int .u8 a0).wf = true → lex_isLetter.f a0 = some true
theorem lex_isLetter.walk (P : lex_isLetter.Pure) (a0 : Int) (w : World) (w0 : (Lit.int .u8 a0).wf = true) :
    Calls Try.prog 53 #[.int .u8 a0] w fun e w' => e = .returned (.bool true) ∧ Below w.heap.size w w' := by
  have h := P a0 w0
  refine (lex_isLetter.calls a0 true w h).mono ?_
  rintro e w' ⟨rfl, hd⟩
  exact ⟨rfl, hd.below⟩
end Go.Proofs.Ytbdcndkafaajpaa.Y
end
section
set_option linter.unusedVariables false
set_option linter.unusedSimpArgs false
namespace Go.Proofs.Ytbdcndkafaajpaa.G
open Go.RowKit Go.Proofs.YtbdcndkafaajpaaW.PrintWords Go.Proofs.YtbdcndkafaajpaaW.PrintLast Go.Proofs.YtbdcndkafaajpaaW.PrintMore
theorem w64 {x : Int} (h0 : 0 ≤ x) (h1 : x ≤ 4611686018427387904) : wrap64 x = x := by unfold wrap64; omega
def dig (c : Int) : Bool := decide (48 ≤ c ∧ c ≤ 57)
def letr (c : Int) : Bool := decide ((97 ≤ c ∧ c ≤ 122) ∨ (65 ≤ c ∧ c ≤ 90) ∨ c = 95)
def okb (n : Nat) (c : Int) : Bool := if n = 56 then dig c else letr c || dig c
theorem dig_eq (c : Int) : Y.lex_isDigit.f c = some (dig c) := by
  unfold Y.lex_isDigit.f dig
  by_cases h : c ≥ 48
  · rw [if_pos h]; congr 2; simp; omega
  · rw [if_neg h]; congr 1; symm; apply decide_eq_false; omega
theorem letr_eq (c : Int) : Y.lex_isLetter.f c = some (letr c) := by
  unfold Y.lex_isLetter.f letr
  have e : ∀ x : Bool, (x = true ↔ ((97 ≤ c ∧ c ≤ 122) ∨ (65 ≤ c ∧ c ≤ 90) ∨ c = 95)) → some x = some (decide ((97 ≤ c ∧ c ≤ 122) ∨ (65 ≤ c ∧ c ≤ 90) ∨ c = 95)) := fun x h => by rw [Option.some.injEq, Bool.eq_iff_iff, decide_eq_true_iff]; exact h
  repeat' split
  all_goals refine e _ ?_
  all_goals first | (simp only [true_iff]; omega) | (rw [beq_iff_eq]; omega)
theorem dig_calls (c : Int) (w : World) : Calls Try.prog 56 #[.int .u8 c] w fun e w' => e = .returned (.bool (dig c)) ∧ Drawn0 w w' := Y.lex_isDigit.calls c _ w (dig_eq c)
theorem letr_calls (c : Int) (w : World) : Calls Try.prog 53 #[.int .u8 c] w fun e w' => e = .returned (.bool (letr c)) ∧ Drawn0 w w' := Y.lex_isLetter.calls c _ w (letr_eq c)
theorem drawn0_trans {a b c : World} (h : Drawn0 a b) (h2 : Drawn0 b c) : Drawn0 a c := by
  obtain ⟨⟨m, rfl⟩⟩ := h2
  exact h.step m
set_option maxHeartbeats 1000000 in
set_option maxRecDepth 100000 in
set_option maxHeartbeats 1000000 in
set_option maxRecDepth 100000 in
theorem ldtoken (c : Int) (w : World) : Calls Try.prog 55 #[.int .u8 c] w fun e w' => e = .returned (.bool (letr c || dig c)) ∧ Drawn0 w w' := by
  have HL := Aside0.mk (letr_calls c w)
  cases hl : letr c with
  | true =>
    rw [hl] at HL
    go_enter Try.func55, Try.ntmps55
    go_wp2_with (go_at_call 53; refine HL.out.mono ?_; rintro e w1 ⟨rfl, hd1⟩; have HD := Aside0.mk hd1; clear hd1)
    go_ret
    exact ⟨rfl, HD.out⟩
  | false =>
    rw [hl] at HL
    go_enter Try.func55, Try.ntmps55
    go_wp2_with (first
      | (go_at_call 53; refine HL.out.mono ?_; rintro e w1 ⟨rfl, hd1⟩; have HD := Aside0.mk hd1; have HG := Aside0.mk (dig_calls c w1); clear hd1)
      | (go_at_call 56; refine HG.out.mono ?_; rintro e w2 ⟨rfl, hd2⟩; have HD2 := Aside0.mk (drawn0_trans HD.out hd2); clear hd2))
    go_ret
    exact ⟨by simp, HD2.out⟩
def tw (n : Nat) (l : List UInt8) : Nat := (l.takeWhile fun b => okb n (b.toNat : Int)).length
theorem tw_cons (n : Nat) (b : UInt8) (l : List UInt8) : tw n (b :: l) = if okb n (b.toNat : Int) = true then tw n l + 1 else 0 := by
  unfold tw; rw [List.takeWhile_cons]; split <;> simp
def left : Value → Nat
  | .int _ i => i.toNat
  | _ => 0
set_option maxHeartbeats 2000000 in
set_option maxRecDepth 100000 in
theorem runDig (s : ByteArray) (i0 : Nat) (w : World) (hi0 : i0 ≤ s.size) (hs : s.size ≤ 2305843009213693952) :
    Calls Try.prog 54 #[.string s, .int .i64 (i0 : Int), .func (.func 56) #[] #[]] w fun e w' => e = .returned (.int .i64 ((i0 + tw 56 (s.data.toList.drop i0) : Nat) : Int)) ∧ Drawn0 w w' := by
  have HS := Aside0.mk hs
  have HI := Aside0.mk hi0
  have hsz : s.size = s.data.toList.length := (data_length s).symm
  have HZ := Aside0.mk hsz
  clear hs hi0 hsz
  go_enter Try.func54, Try.ntmps54
  go_wp2
  go_loopw [1] (fun tv wr => ∃ i : Nat, tv = .int .i64 (i : Int) ∧ Aside0 (i ≤ s.size) ∧ Aside0 (i + tw 56 (s.data.toList.drop i) = i0 + tw 56 (s.data.toList.drop i0)) ∧ Aside0 (Drawn0 w wr)) (fun tv _ => s.size - left tv)
  case atStart => exact ⟨i0, rfl, HI, ⟨rfl⟩, ⟨Drawn0.refl _⟩⟩
  case round =>
    obtain ⟨i, rfl, hi, HX, HD⟩ := hrel
    by_cases c : i < s.size
    · have c1 : decide ((i : Int) < (s.size : Int)) = true := decide_eq_true (by omega)
      have c2 : decide (i < s.size) = true := decide_eq_true c
      have p1 : (0 ≤ (i : Int)) = True := eq_true (by omega)
      have p2 : ((i : Int) < (s.size : Int)) = True := eq_true (by omega)
      have hx := bt_at s (i : Int)
      obtain ⟨b, hb⟩ : ∃ b : Int, b = (((s[i]'c).toNat : Nat) : Int) := ⟨_, rfl⟩
      have HBD : Aside0 (s.data.toList.drop i = (s.data.toList[i]'(by rw [← HZ.out]; exact c)) :: s.data.toList.drop (i + 1)) := ⟨List.drop_eq_getElem_cons _⟩
      have HBB : Aside0 (b = (((s.data.toList[i]'(by rw [← HZ.out]; exact c)).toNat : Nat) : Int)) := ⟨by rw [hb]; rfl⟩
      have hb2 : (((s[i]'c).toNat : Nat) : Int) = b := hb.symm
      clear hb hx
      cases ho : okb 56 b with
      | true =>
        have HC : Aside0 (∀ w1, Calls Try.prog 56 #[.int .u8 b] w1 fun e w' => e = .returned (.bool true) ∧ Drawn0 w1 w') := ⟨fun w1 => by have := dig_calls b w1; rw [show dig b = okb 56 b from rfl, ho] at this; exact this⟩
        have HX2 : Aside0 ((i + 1) + tw 56 (s.data.toList.drop (i + 1)) = i0 + tw 56 (s.data.toList.drop i0)) := ⟨by
          rw [← HX.out, HBD.out, tw_cons, ← HBB.out, ho, if_pos rfl]; omega⟩
        have W1 : Aside0 (wrap64 ((i : Int) + 1) = ((i + 1 : Nat) : Int)) := ⟨by have := HS.out; rw [w64 (by omega) (by omega)]; rfl⟩
        have e1 : ∀ [Inhabited Unit], wrap64 ((i : Int) + 1) = ((i + 1 : Nat) : Int) := fun {_} => W1.out
        clear HBD HBB ho HX
        go_wp2_with (go_at_call 56; refine (HC.out _).mono ?_; rintro e w2 ⟨rfl, hd2⟩; have HD2 := Aside0.mk (drawn0_trans HD.out hd2); clear hd2 HD)
        refine ⟨⟨i + 1, by rw [W1.out], ⟨by omega⟩, HX2, HD2⟩, ?_⟩
        show s.size - (wrap64 ((i : Int) + 1)).toNat < s.size - ((i : Nat) : Int).toNat
        rw [W1.out, Int.toNat_natCast, Int.toNat_natCast]
        omega
      | false =>
        have HC : Aside0 (∀ w1, Calls Try.prog 56 #[.int .u8 b] w1 fun e w' => e = .returned (.bool false) ∧ Drawn0 w1 w') := ⟨fun w1 => by have := dig_calls b w1; rw [show dig b = okb 56 b from rfl, ho] at this; exact this⟩
        have HX2 : Aside0 (i = i0 + tw 56 (s.data.toList.drop i0)) := ⟨by
          rw [← HX.out, HBD.out, tw_cons, ← HBB.out, ho, if_neg (by decide)]; omega⟩
        clear HBD HBB ho HX
        go_wp2_with (go_at_call 56; refine (HC.out _).mono ?_; rintro e w2 ⟨rfl, hd2⟩; have HD2 := Aside0.mk (drawn0_trans HD.out hd2); clear hd2 HD)
        go_ret
        exact ⟨by rw [← HX2.out]; rfl, HD2.out⟩
    · have c1 : decide ((i : Int) < (s.size : Int)) = false := decide_eq_false (by omega)
      have c2 : decide (i < s.size) = false := decide_eq_false c
      have HX2 : Aside0 (i = i0 + tw 56 (s.data.toList.drop i0)) := ⟨by
        rw [← HX.out, List.drop_of_length_le (by rw [← HZ.out]; omega)]; rfl⟩
      clear HX
      go_wp2
      go_ret
      exact ⟨by rw [← HX2.out]; rfl, HD.out⟩
set_option maxHeartbeats 2000000 in
set_option maxRecDepth 100000 in
set_option maxHeartbeats 2000000 in
set_option maxRecDepth 100000 in
theorem runToken (s : ByteArray) (i0 : Nat) (w : World) (hi0 : i0 ≤ s.size) (hs : s.size ≤ 2305843009213693952) :
    Calls Try.prog 54 #[.string s, .int .i64 (i0 : Int), .func (.func 55) #[] #[]] w fun e w' => e = .returned (.int .i64 ((i0 + tw 55 (s.data.toList.drop i0) : Nat) : Int)) ∧ Drawn0 w w' := by
  have HS := Aside0.mk hs
  have HI := Aside0.mk hi0
  have hsz : s.size = s.data.toList.length := (data_length s).symm
  have HZ := Aside0.mk hsz
  clear hs hi0 hsz
  go_enter Try.func54, Try.ntmps54
  go_wp2
  go_loopw [1] (fun tv wr => ∃ i : Nat, tv = .int .i64 (i : Int) ∧ Aside0 (i ≤ s.size) ∧ Aside0 (i + tw 55 (s.data.toList.drop i) = i0 + tw 55 (s.data.toList.drop i0)) ∧ Aside0 (Drawn0 w wr)) (fun tv _ => s.size - left tv)
  case atStart => exact ⟨i0, rfl, HI, ⟨rfl⟩, ⟨Drawn0.refl _⟩⟩
  case round =>
    obtain ⟨i, rfl, hi, HX, HD⟩ := hrel
    by_cases c : i < s.size
    · have c1 : decide ((i : Int) < (s.size : Int)) = true := decide_eq_true (by omega)
      have c2 : decide (i < s.size) = true := decide_eq_true c
      have p1 : (0 ≤ (i : Int)) = True := eq_true (by omega)
      have p2 : ((i : Int) < (s.size : Int)) = True := eq_true (by omega)
      have hx := bt_at s (i : Int)
      obtain ⟨b, hb⟩ : ∃ b : Int, b = (((s[i]'c).toNat : Nat) : Int) := ⟨_, rfl⟩
      have HBD : Aside0 (s.data.toList.drop i = (s.data.toList[i]'(by rw [← HZ.out]; exact c)) :: s.data.toList.drop (i + 1)) := ⟨List.drop_eq_getElem_cons _⟩
      have HBB : Aside0 (b = (((s.data.toList[i]'(by rw [← HZ.out]; exact c)).toNat : Nat) : Int)) := ⟨by rw [hb]; rfl⟩
      have hb2 : (((s[i]'c).toNat : Nat) : Int) = b := hb.symm
      clear hb hx
      cases ho : okb 55 b with
      | true =>
        have HC : Aside0 (∀ w1, Calls Try.prog 55 #[.int .u8 b] w1 fun e w' => e = .returned (.bool true) ∧ Drawn0 w1 w') := ⟨fun w1 => by have := ldtoken b w1; rw [show (letr b || dig b) = okb 55 b from rfl, ho] at this; exact this⟩
        have HX2 : Aside0 ((i + 1) + tw 55 (s.data.toList.drop (i + 1)) = i0 + tw 55 (s.data.toList.drop i0)) := ⟨by
          rw [← HX.out, HBD.out, tw_cons, ← HBB.out, ho, if_pos rfl]; omega⟩
        have W1 : Aside0 (wrap64 ((i : Int) + 1) = ((i + 1 : Nat) : Int)) := ⟨by have := HS.out; rw [w64 (by omega) (by omega)]; rfl⟩
        have e1 : ∀ [Inhabited Unit], wrap64 ((i : Int) + 1) = ((i + 1 : Nat) : Int) := fun {_} => W1.out
        clear HBD HBB ho HX
        go_wp2_with (go_at_call 55; refine (HC.out _).mono ?_; rintro e w2 ⟨rfl, hd2⟩; have HD2 := Aside0.mk (drawn0_trans HD.out hd2); clear hd2 HD)
        refine ⟨⟨i + 1, by rw [W1.out], ⟨by omega⟩, HX2, HD2⟩, ?_⟩
        show s.size - (wrap64 ((i : Int) + 1)).toNat < s.size - ((i : Nat) : Int).toNat
        rw [W1.out, Int.toNat_natCast, Int.toNat_natCast]
        omega
      | false =>
        have HC : Aside0 (∀ w1, Calls Try.prog 55 #[.int .u8 b] w1 fun e w' => e = .returned (.bool false) ∧ Drawn0 w1 w') := ⟨fun w1 => by have := ldtoken b w1; rw [show (letr b || dig b) = okb 55 b from rfl, ho] at this; exact this⟩
        have HX2 : Aside0 (i = i0 + tw 55 (s.data.toList.drop i0)) := ⟨by
          rw [← HX.out, HBD.out, tw_cons, ← HBB.out, ho, if_neg (by decide)]; omega⟩
        clear HBD HBB ho HX
        go_wp2_with (go_at_call 55; refine (HC.out _).mono ?_; rintro e w2 ⟨rfl, hd2⟩; have HD2 := Aside0.mk (drawn0_trans HD.out hd2); clear hd2 HD)
        go_ret
        exact ⟨by rw [← HX2.out]; rfl, HD2.out⟩
    · have c1 : decide ((i : Int) < (s.size : Int)) = false := decide_eq_false (by omega)
      have c2 : decide (i < s.size) = false := decide_eq_false c
      have HX2 : Aside0 (i = i0 + tw 55 (s.data.toList.drop i0)) := ⟨by
        rw [← HX.out, List.drop_of_length_le (by rw [← HZ.out]; omega)]; rfl⟩
      clear HX
      go_wp2
      go_ret
      exact ⟨by rw [← HX2.out]; rfl, HD.out⟩
end Go.Proofs.Ytbdcndkafaajpaa.G
end
section
set_option linter.unusedVariables false
set_option linter.unusedSimpArgs false
namespace Go.Proofs.Ytbdcndkafaajpaa.G
open Go.RowKit Go.Proofs.YtbdcndkafaajpaaW.PrintWords Go.Proofs.YtbdcndkafaajpaaW.PrintLast Go.Proofs.YtbdcndkafaajpaaW.PrintMore
theorem add64 (x y : Nat) (w : World) : (callFunc 79 #[.int .u64 (x : Int), .int .u64 (y : Int), .int .u64 0]).run Try.prog w = .ok (.value (.tuple #[.int .u64 (((x + y) % 18446744073709551616 : Nat) : Int), .int .u64 (((x + y) / 18446744073709551616 : Nat) : Int)])) w := by
  rw [run_callFunc_extern Try.func79 (by kernel_rfl) (by kernel_rfl) (by kernel_rfl) (e := add64Entry) (by kernel_rfl), run_add64 x y 0 (by omega) (by omega) (by omega) (by omega)]
  simp only [Result.andThen]
  congr 5 <;> omega
def dval (b : UInt8) : Nat := (b.toNat + 208) % 256
def numv : Nat → List UInt8 → Option Nat
  | x, [] => some x
  | x, b :: t => if x * 10 + dval b < 18446744073709551616 then numv (x * 10 + dval b) t else none
def numOut : Option Nat → Value
  | some x => .tuple #[.int .u64 (x : Int), .bool true]
  | none => .tuple #[.int .u64 0, .bool false]
set_option maxHeartbeats 2000000 in
set_option maxRecDepth 100000 in
theorem number_calls (s : ByteArray) (w : World) (hs : s.size ≤ 2305843009213693952) :
    Calls Try.prog 57 #[.string s] w fun e w' => e = .returned (numOut (numv 0 s.data.toList)) ∧ w' = w := by
  have HS := Aside0.mk hs
  have hsz : s.size = s.data.toList.length := (data_length s).symm
  have HZ := Aside0.mk hsz
  clear hs hsz
  obtain ⟨o, ho⟩ : ∃ o, o = numv 0 s.data.toList := ⟨_, rfl⟩
  rw [← ho]
  have HO := Aside0.mk ho
  clear ho
  go_enter Try.func57, Try.ntmps57
  go_wp2
  go_loopw [4, 12] (fun tx tv wr => ∃ i x : Nat, tv = .int .i64 (i : Int) ∧ tx = .int .u64 (x : Int) ∧ Aside0 (i ≤ s.size) ∧ Aside0 (x < 18446744073709551616) ∧ Aside0 (numv x (s.data.toList.drop i) = o) ∧ wr = w) (fun _ tv _ => s.size - left tv)
  case atStart => exact ⟨0, 0, rfl, rfl, ⟨Nat.zero_le _⟩, ⟨by omega⟩, ⟨HO.out.symm⟩, rfl⟩
  case round =>
    obtain ⟨i, x, rfl, rfl, hi, hx, HX, rfl⟩ := hrel
    by_cases c : i < s.size
    · have c1 : decide ((i : Int) < (s.size : Int)) = true := decide_eq_true (by omega)
      have c2 : decide (i < s.size) = true := decide_eq_true c
      have p1 : (0 ≤ (i : Int)) = True := eq_true (by omega)
      have p2 : ((i : Int) < (s.size : Int)) = True := eq_true (by omega)
      have HBD : Aside0 (s.data.toList.drop i = (s.data.toList[i]'(by rw [← HZ.out]; exact c)) :: s.data.toList.drop (i + 1)) := ⟨List.drop_eq_getElem_cons _⟩
      obtain ⟨u, hu⟩ : ∃ u : UInt8, u = s[i]'c := ⟨_, rfl⟩
      have hu2 : (s[i]'c) = u := hu.symm
      have HU : Aside0 (u = s.data.toList[i]'(by rw [← HZ.out]; exact c)) := ⟨by rw [hu]; rfl⟩
      clear hu
      have d1 : ((u.toNat : Int) - 48) % 256 = ((dval u : Nat) : Int) := by unfold dval; omega
      have d2 : IntKind.u8.wrap ((u.toNat : Int) - 48) = ((dval u : Nat) : Int) := by rw [IntKind.wrap_u8]; exact d1
      have hd : dval u < 256 := Nat.mod_lt _ (by omega)
      have d3 : IntKind.u64.wrap ((dval u : Nat) : Int) = ((dval u : Nat) : Int) := by rw [IntKind.wrap_u64]; omega
      have HM := Aside0.mk (Try.bits_Mul64 x 10 hx.out (by omega) wr)
      obtain ⟨q, hq⟩ : ∃ q, q = x * 10 / 18446744073709551616 := ⟨_, rfl⟩
      obtain ⟨r, hr⟩ : ∃ r, r = x * 10 % 18446744073709551616 := ⟨_, rfl⟩
      rw [← hq, ← hr] at HM
      have ha := add64 r (dval u) wr
      obtain ⟨g, hg⟩ : ∃ g, g = (r + dval u) / 18446744073709551616 := ⟨_, rfl⟩
      obtain ⟨z, hz⟩ : ∃ z, z = (r + dval u) % 18446744073709551616 := ⟨_, rfl⟩
      rw [← hg, ← hz] at ha
      have HA := Aside0.mk ha
      have HX2 : Aside0 ((if x * 10 + dval u < 18446744073709551616 then numv (x * 10 + dval u) (s.data.toList.drop (i + 1)) else none) = o) := ⟨by
        have h := HX.out
        rw [HBD.out, ← HU.out] at h; exact h⟩
      have W1 : Aside0 (wrap64 ((i : Int) + 1) = ((i + 1 : Nat) : Int)) := ⟨by have := HS.out; rw [w64 (by omega) (by omega)]; rfl⟩
      have Q := Aside0.mk (And.intro hq (And.intro hr (And.intro hg hz)))
      clear HX HBD HU hq hr hg hz ha
      by_cases k1 : q = 0
      · subst k1
        by_cases k2 : g = 0
        · subst k2
          have hlt : x * 10 + dval u < 18446744073709551616 := by obtain ⟨q1, q2, q3, q4⟩ := Q.out; omega
          have hze : z = x * 10 + dval u := by obtain ⟨q1, q2, q3, q4⟩ := Q.out; omega
          have h := HX2.out
          rw [if_pos hlt, ← hze] at h
          have HX3 := Aside0.mk h
          have HZL : Aside0 (z < 18446744073709551616) := ⟨by omega⟩
          clear h HX2 Q hlt hze
          have e1 : ∀ [Inhabited Unit], wrap64 ((i : Int) + 1) = ((i + 1 : Nat) : Int) := fun {_} => W1.out
          have ha := HA.out
          go_wp2_with (go_at_call 78; refine HM.out.mono ?_; rintro e w1 ⟨rfl, rfl⟩)
          refine ⟨⟨i + 1, z, by rw [W1.out], rfl, ⟨by omega⟩, HZL, HX3, trivial⟩, ?_⟩
          show s.size - (wrap64 ((i : Int) + 1)).toNat < s.size - ((i : Nat) : Int).toNat
          rw [W1.out, Int.toNat_natCast, Int.toNat_natCast]
          omega
        · have hge : ¬ x * 10 + dval u < 18446744073709551616 := by obtain ⟨q1, q2, q3, q4⟩ := Q.out; omega
          have h := HX2.out
          rw [if_neg hge] at h
          have HX3 := Aside0.mk h
          have b1 : ((g : Int) == 0) = false := beq_eq_false_iff_ne.mpr (by omega)
          have b2 : ((g : Int) != 0) = true := bne_iff_ne.mpr (by omega)
          have b3 : ((g : Int) = 0) = False := eq_false (by omega)
          have b4 : (g = 0) = False := eq_false k2
          clear h HX2 Q hge
          have ha := HA.out
          go_wp2_with (go_at_call 78; refine HM.out.mono ?_; rintro e w1 ⟨rfl, rfl⟩)
          go_ret2
          rw [← HX3.out]
          exact ⟨rfl, rfl⟩
      · have hge : ¬ x * 10 + dval u < 18446744073709551616 := by obtain ⟨q1, q2, q3, q4⟩ := Q.out; omega
        have h := HX2.out
        rw [if_neg hge] at h
        have HX3 := Aside0.mk h
        have b1 : ((q : Int) == 0) = false := beq_eq_false_iff_ne.mpr (by omega)
        have b2 : ((q : Int) != 0) = true := bne_iff_ne.mpr (by omega)
        have b3 : ((q : Int) = 0) = False := eq_false (by omega)
        have b4 : (q = 0) = False := eq_false k1
        clear h HX2 Q hge
        have ha := HA.out
        go_wp2_with (go_at_call 78; refine HM.out.mono ?_; rintro e w1 ⟨rfl, rfl⟩)
        go_ret2
        rw [← HX3.out]
        exact ⟨rfl, rfl⟩
    · have c1 : decide ((i : Int) < (s.size : Int)) = false := decide_eq_false (by omega)
      have c2 : decide (i < s.size) = false := decide_eq_false c
      have h := HX.out
      rw [List.drop_of_length_le (by rw [← HZ.out]; omega)] at h
      have HX3 : Aside0 (some x = o) := ⟨h⟩
      clear h HX
      go_wp2
      go_ret2
      rw [← HX3.out]
      exact ⟨rfl, rfl⟩
end Go.Proofs.Ytbdcndkafaajpaa.G
end
section
namespace Go.Proofs.Ytbdcndkafaajpaa.X
open Go.RowKit Go.Proofs.YtbdcndkafaajpaaW.PrintWords Go.Proofs.YtbdcndkafaajpaaW.PrintLast Go.Proofs.YtbdcndkafaajpaaW.PrintMore
attribute [local go_sem] max2_int min2_int max_two min_two max_three min_three max_four min_four   -- for this text's walks alone
set_option linter.unusedVariables false
set_option linter.unusedSimpArgs false
def errW : Option Int → Value
  | none => .nilIface
  | some c => .iface 0 (.int .i64 c)
theorem errW_none : errW none = .nilIface := rfl
theorem errW_some (c : Int) : errW (some c) = .iface 0 (.int .i64 c) := rfl
theorem info5 : (Try.prog.info? 5).map (fun i => (i.zero, i.size, i.bytes)) = some (some (.int .u8 0), 1, 1) := by kernel_rfl
theorem info47 : (Try.prog.info? 47).map (fun i => (i.zero, i.size, i.bytes)) = some (some (.agg #[(.int .i64 0), (.string ⟨#[]⟩), (.int .u64 0), (.int .i64 0), (.int .i64 0)]), 5, 48) := by kernel_rfl
structure S47 where
  f0 : Int
  f1 : ByteArray
  f2 : Int
  f3 : Int
  f4 : Int
def z47 : S47 := ⟨(0 : Int), (⟨#[]⟩ : ByteArray), (0 : Int), (0 : Int), (0 : Int)⟩
def k47 : Kd S47 := Kd.iso (Kd.pair (Kd.int .i64) (Kd.pair Kd.string (Kd.pair (Kd.int .u64) (Kd.pair (Kd.int .i64) (Kd.int .i64))))) (fun x : S47 => (x.f0, x.f1, x.f2, x.f3, x.f4))
theorem k47_open {w : World} {x : S47} {cs : List Value} (h : k47.K w x cs) : cs = [.int .i64 x.f0, .string x.f1, .int .u64 x.f2, .int .i64 x.f3, .int .i64 x.f4] := by
  obtain ⟨_, _, rfl, rfl, ⟨_, _, rfl, rfl, ⟨_, _, rfl, rfl, ⟨_, _, rfl, rfl, rfl⟩⟩⟩⟩ := h
  exact rfl
theorem k47_mkM (w : World) (base : Nat) (ok : Nat → Prop) (x : S47)  : k47.M w base ok x [.int .i64 x.f0, .string x.f1, .int .u64 x.f2, .int .i64 x.f3, .int .i64 x.f4] := ⟨[.int .i64 x.f0], [.string x.f1, .int .u64 x.f2, .int .i64 x.f3, .int .i64 x.f4], rfl, rfl, ⟨[.string x.f1], [.int .u64 x.f2, .int .i64 x.f3, .int .i64 x.f4], rfl, rfl, ⟨[.int .u64 x.f2], [.int .i64 x.f3, .int .i64 x.f4], rfl, rfl, ⟨[.int .i64 x.f3], [.int .i64 x.f4], rfl, rfl, rfl⟩⟩⟩⟩
def rd_T47 (xs : List S47) (i : Int) : S47 := xs.getD i.toNat z47
theorem at_T47 {w : World} {A : Option Addr} {n : Nat} {xs : List S47} (h : Kd.C k47 w A n xs) (i : Int) (h0 : 0 ≤ i) (h1 : i < n) : ∃ ad , A = some ad ∧ w.cell? (ad.add (i.toNat * 5)) = some (.int .i64 (rd_T47 xs i).f0) ∧ w.cell? ⟨(ad.add (i.toNat * 5)).block, (ad.add (i.toNat * 5)).off + 1, none⟩ = some (.string (rd_T47 xs i).f1) ∧ w.cell? ⟨(ad.add (i.toNat * 5)).block, (ad.add (i.toNat * 5)).off + 2, none⟩ = some (.int .u64 (rd_T47 xs i).f2) ∧ w.cell? ⟨(ad.add (i.toNat * 5)).block, (ad.add (i.toNat * 5)).off + 3, none⟩ = some (.int .i64 (rd_T47 xs i).f3) ∧ w.cell? ⟨(ad.add (i.toNat * 5)).block, (ad.add (i.toNat * 5)).off + 4, none⟩ = some (.int .i64 (rd_T47 xs i).f4) := by
  obtain ⟨ad, c, e, _, hK, hc0⟩ := Kd.C_get h z47 i h0 h1
  have hc : ∀ j u, c[j]? = some u → w.cell? (ad.add (i.toNat * 5 + j)) = some u := hc0
  obtain rfl := k47_open hK
  exact ⟨ad, e, hc 0 _ rfl, by rw [← add_field _ _ 1 (by omega)]; exact hc 1 _ rfl, by rw [← add_field _ _ 2 (by omega)]; exact hc 2 _ rfl, by rw [← add_field _ _ 3 (by omega)]; exact hc 3 _ rfl, by rw [← add_field _ _ 4 (by omega)]; exact hc 4 _ rfl⟩
end Go.Proofs.Ytbdcndkafaajpaa.X
end
section
set_option linter.unusedVariables false
set_option linter.unusedSimpArgs false
namespace Go.Proofs.Ytbdcndkafaajpaa.P
open Go.Proofs.Ytbdcndkafaajpaa.X
abbrev Tk := S47
structure Nd where
  f0 : Int
  f1 : Int
  f2 : Int
  f3 : ByteArray
  f4 : Int
inductive Res (α : Type) where
  | ok (a : α) (rest : List Tk)
  | bad (e pl : Int)
def Res.bind {α β : Type} : Res α → (α → List Tk → Res β) → Res β
  | .ok a r, f => f a r
  | .bad e p, _ => .bad e p
def hd (ts : List Tk) : Tk := ts.headD z47
def isT (k : Int) (s : ByteArray) (ts : List Tk) : Bool := ((hd ts).f0 == k) && ((hd ts).f1.toList == s.toList)
def mk1 (c : UInt8) : ByteArray := ⟨#[c]⟩
def isM (c : UInt8) (ts : List Tk) : Bool := isT 4 (mk1 c) ts
def want (ok : Bool) (ts : List Tk) : Res Tk := if ok then .ok (hd ts) ts.tail else .bad 90 (hd ts).f3
def takeM (c : UInt8) (ts : List Tk) : Res Tk := want (isM c ts) ts
structure EO where
  ns : List Nd
  dep : Int
def mxl (ds : List Int) : Int := ds.foldl max 0
def node (op : Int) (pl : Int) : Nd := ⟨op, 0, 0, ⟨#[]⟩, pl⟩
def comb (n : Nd) (kids : List EO) (r : List Tk) : Res EO :=
  if mxl (kids.map EO.dep) + 1 > 100 then .bad 91 n.f4 else .ok ⟨(kids.map EO.ns).flatten ++ [n], mxl (kids.map EO.dep) + 1⟩ r
def sTrue : ByteArray := ⟨#[116, 114, 117, 101]⟩
def sFalse : ByteArray := ⟨#[102, 97, 108, 115, 101]⟩
def sCat : ByteArray := ⟨#[99, 97, 116]⟩
def sRep : ByteArray := ⟨#[114, 101, 112]⟩
def sLen : ByteArray := ⟨#[108, 101, 110]⟩
def sHex : ByteArray := ⟨#[104, 101, 120]⟩
inductive Fn where
  | expr
  | addL (a : EO)
  | term
  | mulL (a : EO)
  | fac
  | args (t : Tk) (l : List EO)
def X : Nat → Fn → Nat → List Tk → Res EO
  | 0, _, _, _ => .bad 0 0
  | n + 1, .expr, lev, ts => (X n .term lev ts).bind fun a r => X n (.addL a) lev r
  | n + 1, .addL a, lev, ts =>
    if isM 43 ts || isM 45 ts then (X n .term lev ts.tail).bind fun b r => (comb (node (if (hd ts).f1.toList == (mk1 45).toList then 7 else 6) (hd ts).f3) [a, b] r).bind fun c r => X n (.addL c) lev r
    else .ok a ts
  | n + 1, .term, lev, ts => (X n .fac lev ts).bind fun a r => X n (.mulL a) lev r
  | n + 1, .mulL a, lev, ts =>
    if isM 42 ts then (X n .fac lev ts.tail).bind fun b r => (comb (node 8 (hd ts).f3) [a, b] r).bind fun c r => X n (.mulL c) lev r
    else .ok a ts
  | n + 1, .args t l, lev, ts =>
    if isM 44 ts then (X n .expr lev ts.tail).bind fun b r => X n (.args t (l ++ [b])) lev r
    else (takeM 41 ts).bind fun _ r => comb ⟨9, (l.length : Int), 0, ⟨#[]⟩, t.f3⟩ l r
  | n + 1, .fac, lev, ts =>
    if (hd ts).f0 = 2 then comb ⟨1, 0, (hd ts).f2, ⟨#[]⟩, (hd ts).f3⟩ [] ts.tail
    else if (hd ts).f0 = 3 then comb ⟨2, 0, 0, (hd ts).f1, (hd ts).f3⟩ [] ts.tail
    else if (hd ts).f0 = 1 then
      if (hd ts).f1 = sTrue then comb (node 3 (hd ts).f3) [] ts.tail
      else if (hd ts).f1 = sFalse then comb (node 4 (hd ts).f3) [] ts.tail
      else if (hd ts).f1 = sCat then
        if 100 ≤ lev then .bad 91 (hd ts).f3
        else (takeM 40 ts.tail).bind fun _ r => (X n .expr (lev + 1) r).bind fun a r => X n (.args (hd ts) [a]) (lev + 1) r
      else if (hd ts).f1 = sRep then
        if 100 ≤ lev then .bad 91 (hd ts).f3
        else (takeM 40 ts.tail).bind fun _ r => (X n .expr (lev + 1) r).bind fun a r => (takeM 44 r).bind fun _ r => (X n .expr (lev + 1) r).bind fun b r => (takeM 41 r).bind fun _ r => comb (node 10 (hd ts).f3) [a, b] r
      else if (hd ts).f1 = sLen then
        if 100 ≤ lev then .bad 91 (hd ts).f3
        else (takeM 40 ts.tail).bind fun _ r => (X n .expr (lev + 1) r).bind fun a r => (takeM 41 r).bind fun _ r => comb (node 11 (hd ts).f3) [a] r
      else if (hd ts).f1 = sHex then
        if 100 ≤ lev then .bad 91 (hd ts).f3
        else (takeM 40 ts.tail).bind fun _ r => (X n .expr (lev + 1) r).bind fun a r => (takeM 41 r).bind fun _ r => comb (node 12 (hd ts).f3) [a] r
      else .bad 90 (hd ts).f3
    else if isM 45 ts then
      if 100 ≤ lev then .bad 91 (hd ts).f3
      else (X n .fac (lev + 1) ts.tail).bind fun a r => comb (node 5 (hd ts).f3) [a] r
    else if isM 40 ts then
      if 100 ≤ lev then .bad 91 (hd ts).f3
      else (X n .expr (lev + 1) ts.tail).bind fun a r => (takeM 41 r).bind fun _ r => .ok a r
    else .bad 90 (hd ts).f3
end Go.Proofs.Ytbdcndkafaajpaa.P
end
section
set_option linter.unusedVariables false
set_option linter.unusedSimpArgs false
namespace Go.Proofs.Ytbdcndkafaajpaa.P
open Go.Proofs.Ytbdcndkafaajpaa.X
theorem hd_len {ts : List Tk} (h : (hd ts).f0 ≠ 0) : ts.tail.length + 1 = ts.length := by
  cases ts with
  | nil => exact absurd rfl h
  | cons a t => simp
theorem isT_kind {k : Int} {x : ByteArray} {ts : List Tk} (h : isT k x ts = true) : (hd ts).f0 = k := by
  unfold isT at h
  rw [Bool.and_eq_true] at h
  exact eq_of_beq h.1
theorem isM_len {c : UInt8} {ts : List Tk} (h : isM c ts = true) : ts.tail.length + 1 = ts.length := hd_len (by rw [isT_kind h]; decide)
theorem bind_ok {α β : Type} {x : Res α} {f : α → List Tk → Res β} {b : β} {r : List Tk} (h : x.bind f = .ok b r) : ∃ a s, x = .ok a s ∧ f a s = .ok b r := by
  cases x with
  | ok a s => exact ⟨a, s, rfl, h⟩
  | bad e p => cases h
theorem takeM_ok {c : UInt8} {ts r : List Tk} {t : Tk} (h : takeM c ts = .ok t r) : isM c ts = true ∧ t = hd ts ∧ r = ts.tail ∧ r.length + 1 = ts.length := by
  unfold takeM want at h
  split at h
  · rename_i hm
    cases h
    exact ⟨hm, rfl, rfl, isM_len hm⟩
  · cases h
theorem comb_ok {n : Nd} {kids : List EO} {r r' : List Tk} {a : EO} (h : comb n kids r = .ok a r') : r' = r ∧ a.ns = (kids.map EO.ns).flatten ++ [n] ∧ a.dep = mxl (kids.map EO.dep) + 1 ∧ mxl (kids.map EO.dep) + 1 ≤ 100 := by
  unfold comb at h
  split at h
  · cases h
  · cases h
    exact ⟨rfl, rfl, rfl, by omega⟩
def base : Fn → Nat
  | .addL a => a.ns.length
  | .mulL a => a.ns.length
  | .args _ l => (l.map EO.ns).flatten.length
  | _ => 0
theorem X_sz : ∀ (n : Nat) (f : Fn) (lev : Nat) (ts : List Tk) (a : EO) (r : List Tk), X n f lev ts = .ok a r → a.ns.length + r.length ≤ base f + ts.length := by
  intro n
  induction n with
  | zero => intro f lev ts a r h; cases h
  | succ n ih =>
    intro f lev ts a r h
    cases f with
    | expr =>
      rw [X] at h
      obtain ⟨b, s, h1, h2⟩ := bind_ok h
      have := ih _ _ _ _ _ h1; have := ih _ _ _ _ _ h2
      simp only [base] at *; omega
    | addL x =>
      rw [X] at h
      split at h
      · rename_i hm
        have hl : ts.tail.length + 1 = ts.length := by
          rw [Bool.or_eq_true] at hm
          exact hm.elim isM_len isM_len
        obtain ⟨b, s, h1, h2⟩ := bind_ok h
        obtain ⟨cc, s2, h3, h4⟩ := bind_ok h2
        obtain ⟨rfl, h5, _, _⟩ := comb_ok h3
        have := ih _ _ _ _ _ h1; have := ih _ _ _ _ _ h4
        simp only [base, h5, List.map_cons, List.map_nil, List.flatten_cons, List.flatten_nil, List.append_nil, List.length_append, List.length_singleton] at *
        omega
      · cases h; simp only [base]; omega
    | term =>
      rw [X] at h
      obtain ⟨b, s, h1, h2⟩ := bind_ok h
      have := ih _ _ _ _ _ h1; have := ih _ _ _ _ _ h2
      simp only [base] at *; omega
    | mulL x =>
      rw [X] at h
      split at h
      · rename_i hm
        have hl := isM_len hm
        obtain ⟨b, s, h1, h2⟩ := bind_ok h
        obtain ⟨cc, s2, h3, h4⟩ := bind_ok h2
        obtain ⟨rfl, h5, _, _⟩ := comb_ok h3
        have := ih _ _ _ _ _ h1; have := ih _ _ _ _ _ h4
        simp only [base, h5, List.map_cons, List.map_nil, List.flatten_cons, List.flatten_nil, List.append_nil, List.length_append, List.length_singleton] at *
        omega
      · cases h; simp only [base]; omega
    | args t l =>
      rw [X] at h
      split at h
      · rename_i hm
        have hl := isM_len hm
        obtain ⟨b, s, h1, h2⟩ := bind_ok h
        have := ih _ _ _ _ _ h1; have := ih _ _ _ _ _ h2
        simp only [base, List.map_append, List.map_cons, List.map_nil, List.flatten_append, List.flatten_cons, List.flatten_nil, List.append_nil, List.length_append] at *
        omega
      · obtain ⟨b, s, h1, h2⟩ := bind_ok h
        obtain ⟨_, _, _, hl⟩ := takeM_ok h1
        obtain ⟨rfl, h5, _, _⟩ := comb_ok h2
        simp only [base, h5, List.length_append, List.length_singleton] at *
        omega
    | fac =>
      rw [X] at h
      have leaf : ∀ {m : Nd} {a : EO} {r : List Tk}, (hd ts).f0 ≠ 0 → comb m [] ts.tail = .ok a r → a.ns.length + r.length ≤ base .fac + ts.length := by
        intro m a r h0 hc
        obtain ⟨rfl, h5, _, _⟩ := comb_ok hc
        have := hd_len h0
        simp only [base, h5, List.map_nil, List.flatten_nil, List.nil_append, List.length_singleton]; omega
      by_cases k2 : (hd ts).f0 = 2
      · rw [if_pos k2] at h; exact leaf (by rw [k2]; decide) h
      rw [if_neg k2] at h
      by_cases k3 : (hd ts).f0 = 3
      · rw [if_pos k3] at h; exact leaf (by rw [k3]; decide) h
      rw [if_neg k3] at h
      by_cases k1 : (hd ts).f0 = 1
      · rw [if_pos k1] at h
        have h0 : (hd ts).f0 ≠ 0 := by rw [k1]; decide
        have hl := hd_len h0
        have one : ∀ {m : Nd} {a : EO} {r : List Tk}, ((takeM 40 ts.tail).bind fun _ r => (X n .expr (lev + 1) r).bind fun a r => (takeM 41 r).bind fun _ r => comb m [a] r) = .ok a r → a.ns.length + r.length ≤ base .fac + ts.length := by
          intro m a r h
          obtain ⟨_, s, h1, h2⟩ := bind_ok h
          obtain ⟨b, s2, h3, h4⟩ := bind_ok h2
          obtain ⟨_, s3, h5, h6⟩ := bind_ok h4
          obtain ⟨_, _, _, l1⟩ := takeM_ok h1
          obtain ⟨_, _, _, l2⟩ := takeM_ok h5
          obtain ⟨rfl, h7, _, _⟩ := comb_ok h6
          have := ih _ _ _ _ _ h3
          simp only [base, h7, List.map_cons, List.map_nil, List.flatten_cons, List.flatten_nil, List.append_nil, List.length_append, List.length_singleton] at *
          omega
        have nolev : ∀ {p : Int} {x : Res EO}, (if 100 ≤ lev then Res.bad 91 p else x) = .ok a r → x = .ok a r := by
          intro p x hx
          by_cases cl : 100 ≤ lev
          · rw [if_pos cl] at hx; cases hx
          · rw [if_neg cl] at hx; exact hx
        by_cases w1 : (hd ts).f1 = sTrue
        · rw [if_pos w1] at h; exact leaf h0 h
        rw [if_neg w1] at h
        by_cases w2 : (hd ts).f1 = sFalse
        · rw [if_pos w2] at h; exact leaf h0 h
        rw [if_neg w2] at h
        by_cases w3 : (hd ts).f1 = sCat
        · rw [if_pos w3] at h
          obtain ⟨_, s, h1, h2⟩ := bind_ok (nolev h)
          obtain ⟨b, s2, h3, h4⟩ := bind_ok h2
          obtain ⟨_, _, _, l1⟩ := takeM_ok h1
          have := ih _ _ _ _ _ h3; have := ih _ _ _ _ _ h4
          simp only [base, List.map_cons, List.map_nil, List.flatten_cons, List.flatten_nil, List.append_nil] at *
          omega
        rw [if_neg w3] at h
        by_cases w4 : (hd ts).f1 = sRep
        · rw [if_pos w4] at h
          obtain ⟨_, s, h1, h2⟩ := bind_ok (nolev h)
          obtain ⟨b, s2, h3, h4⟩ := bind_ok h2
          obtain ⟨_, s3, h5, h6⟩ := bind_ok h4
          obtain ⟨b2, s4, h7, h8⟩ := bind_ok h6
          obtain ⟨_, s5, h9, h10⟩ := bind_ok h8
          obtain ⟨_, _, _, l1⟩ := takeM_ok h1
          obtain ⟨_, _, _, l2⟩ := takeM_ok h5
          obtain ⟨_, _, _, l3⟩ := takeM_ok h9
          obtain ⟨rfl, h11, _, _⟩ := comb_ok h10
          have := ih _ _ _ _ _ h3; have := ih _ _ _ _ _ h7
          simp only [base, h11, List.map_cons, List.map_nil, List.flatten_cons, List.flatten_nil, List.append_nil, List.length_append, List.length_singleton] at *
          omega
        rw [if_neg w4] at h
        by_cases w5 : (hd ts).f1 = sLen
        · rw [if_pos w5] at h; exact one (nolev h)
        rw [if_neg w5] at h
        by_cases w6 : (hd ts).f1 = sHex
        · rw [if_pos w6] at h; exact one (nolev h)
        rw [if_neg w6] at h
        cases h
      rw [if_neg k1] at h
      have nolev : ∀ {p : Int} {x : Res EO}, (if 100 ≤ lev then Res.bad 91 p else x) = .ok a r → x = .ok a r := by
        intro p x hx
        by_cases cl : 100 ≤ lev
        · rw [if_pos cl] at hx; cases hx
        · rw [if_neg cl] at hx; exact hx
      by_cases m1 : isM 45 ts = true
      · rw [if_pos m1] at h
        have hl := isM_len m1
        obtain ⟨b, s, h1, h2⟩ := bind_ok (nolev h)
        obtain ⟨rfl, h5, _, _⟩ := comb_ok h2
        have := ih _ _ _ _ _ h1
        simp only [base, h5, List.map_cons, List.map_nil, List.flatten_cons, List.flatten_nil, List.append_nil, List.length_append, List.length_singleton] at *
        omega
      rw [if_neg m1] at h
      by_cases m2 : isM 40 ts = true
      · rw [if_pos m2] at h
        have hl := isM_len m2
        obtain ⟨b, s, h1, h2⟩ := bind_ok (nolev h)
        obtain ⟨_, s2, h3, h4⟩ := bind_ok h2
        obtain ⟨_, _, _, l1⟩ := takeM_ok h3
        cases h4
        have := ih _ _ _ _ _ h1
        simp only [base] at *; omega
      rw [if_neg m2] at h
      cases h
end Go.Proofs.Ytbdcndkafaajpaa.P
end
section
set_option linter.unusedVariables false
set_option linter.unusedSimpArgs false
namespace Go.Proofs.Ytbdcndkafaajpaa.P
open Go.Proofs.Ytbdcndkafaajpaa.X
structure StD where
  k : Int
  a : ByteArray
  b : ByteArray
  c : ByteArray
  sep : ByteArray
  ty : ByteArray
  val : List Nd
  pl : Int
structure VeD where
  num : Int
  steps : List StD
  pl : Int
structure EvD where
  name : ByteArray
  vers : List VeD
  pl : Int
def kw : List ByteArray := [⟨#[101, 118, 101, 110, 116]⟩, ⟨#[118, 101, 114, 115, 105, 111, 110]⟩, ⟨#[97, 100, 100]⟩, ⟨#[114, 101, 110, 97, 109, 101]⟩, ⟨#[115, 112, 108, 105, 116]⟩, ⟨#[106, 111, 105, 110]⟩, ⟨#[114, 101, 116, 121, 112, 101]⟩, ⟨#[100, 114, 111, 112]⟩, ⟨#[116, 111]⟩, ⟨#[97, 116]⟩, ⟨#[105, 110, 116, 111]⟩, ⟨#[119, 105, 116, 104]⟩, sTrue, sFalse, sCat, sRep, sLen, sHex]
def sEvent : ByteArray := ⟨#[101, 118, 101, 110, 116]⟩
def sVersion : ByteArray := ⟨#[118, 101, 114, 115, 105, 111, 110]⟩
def sTo : ByteArray := ⟨#[116, 111]⟩
def sAt : ByteArray := ⟨#[97, 116]⟩
def sInto : ByteArray := ⟨#[105, 110, 116, 111]⟩
def sWith : ByteArray := ⟨#[119, 105, 116, 104]⟩
def wordW (s : ByteArray) (ts : List Tk) : Res Tk := want (isT 1 s ts) ts
def nameOk (ts : List Tk) : Bool := ((hd ts).f0 == 1) && !(kw.any fun x => decide (x = (hd ts).f1))
def nameW (ts : List Tk) : Res Tk := want (nameOk ts) ts
def textW (ts : List Tk) : Res Tk := want ((hd ts).f0 == 3) ts
def numW (ts : List Tk) : Res Tk := want ((hd ts).f0 == 2) ts
def endW (ts : List Tk) : Res Tk := if (hd ts).f0 = 0 then .ok (hd ts) ts else .bad 90 (hd ts).f3
def exprW (ts : List Tk) : Res EO := X (4 * ts.length + 3) .expr 0 ts
def kinds : List ByteArray := (kw.drop 2).take 6
def idxB (s : ByteArray) : List ByteArray → Nat → Int
  | [], _ => -1
  | x :: l, i => if x = s then (i : Int) else idxB s l (i + 1)
def kindOf (s : ByteArray) : Int := idxB s kinds 0 + 1
def stK (ts : List Tk) : Int := if (hd ts).f0 = 1 then kindOf (hd ts).f1 else 0
def stepOf (k p : Int) (a : ByteArray) : StD := ⟨k, a, ⟨#[]⟩, ⟨#[]⟩, ⟨#[]⟩, ⟨#[]⟩, [], p⟩
def bodyW (d : StD) (ts : List Tk) : Res StD :=
  if d.k = 1 then (takeM 58 ts).bind fun _ r => (nameW r).bind fun t r => if isM 61 r then (exprW r.tail).bind fun v r => .ok { d with ty := t.f1, val := v.ns } r else .ok { d with ty := t.f1 } r
  else if d.k = 2 then (wordW sTo ts).bind fun _ r => (nameW r).bind fun t r => .ok { d with b := t.f1 } r
  else if d.k = 3 then (wordW sAt ts).bind fun _ r => (textW r).bind fun x r => (wordW sInto r).bind fun _ r => (nameW r).bind fun t r => (takeM 44 r).bind fun _ r => (nameW r).bind fun u r => .ok { d with sep := x.f1, b := t.f1, c := u.f1 } r
  else if d.k = 4 then (takeM 44 ts).bind fun _ r => (nameW r).bind fun t r => (wordW sWith r).bind fun _ r => (textW r).bind fun x r => (wordW sInto r).bind fun _ r => (nameW r).bind fun u r => .ok { d with b := t.f1, sep := x.f1, c := u.f1 } r
  else if d.k = 5 then (wordW sTo ts).bind fun _ r => (nameW r).bind fun t r => .ok { d with ty := t.f1 } r
  else .ok d ts
def stepW (ts : List Tk) : Res StD :=
  (want (decide (0 < stK ts)) ts).bind fun t r => (nameW r).bind fun a r => (bodyW (stepOf (stK ts) t.f3 a.f1) r).bind fun d r => (takeM 59 r).bind fun _ r => .ok d r
def stepsW : Nat → List StD → List Tk → Res (List StD)
  | 0, _, _ => .bad 0 0
  | n + 1, l, ts => if isM 125 ts then .ok l ts else (stepW ts).bind fun d r => stepsW n (l ++ [d]) r
def versionW (ts : List Tk) : Res VeD :=
  (wordW sVersion ts).bind fun t r => (numW r).bind fun m r => (takeM 123 r).bind fun _ r => (stepsW (r.length + 1) [] r).bind fun l r => (takeM 125 r).bind fun _ r => .ok ⟨m.f2, l, t.f3⟩ r
def versionsW : Nat → List VeD → List Tk → Res (List VeD)
  | 0, _, _ => .bad 0 0
  | n + 1, l, ts => (versionW ts).bind fun d r => if isT 1 sVersion r then versionsW n (l ++ [d]) r else .ok (l ++ [d]) r
def eventW (ts : List Tk) : Res EvD :=
  (wordW sEvent ts).bind fun t r => (nameW r).bind fun m r => (takeM 123 r).bind fun _ r => (versionsW (r.length + 1) [] r).bind fun l r => (takeM 125 r).bind fun _ r => .ok ⟨m.f1, l, t.f3⟩ r
def eventsW : Nat → List EvD → List Tk → Res (List EvD)
  | 0, _, _ => .bad 0 0
  | n + 1, l, ts => if isT 1 sEvent ts then (eventW ts).bind fun d r => eventsW n (l ++ [d]) r else .ok l ts
def schemaW (ts : List Tk) : Res (List EvD) := (eventsW (ts.length + 1) [] ts).bind fun l r => (endW r).bind fun _ r => .ok l r
def valueW (ts : List Tk) : Res (List Nd) := (exprW ts).bind fun v r => (endW r).bind fun _ r => .ok v.ns r
theorem want_ok {b : Bool} {ts r : List Tk} {t : Tk} (hk : b = true → (hd ts).f0 ≠ 0) (h : want b ts = .ok t r) : b = true ∧ t = hd ts ∧ r = ts.tail ∧ r.length + 1 = ts.length := by
  unfold want at h
  split at h
  · rename_i hb
    cases h
    exact ⟨hb, rfl, rfl, hd_len (hk hb)⟩
  · cases h
theorem wordW_ok {s : ByteArray} {ts r : List Tk} {t : Tk} (h : wordW s ts = .ok t r) : r.length + 1 = ts.length := (want_ok (fun hb => by rw [isT_kind hb]; decide) h).2.2.2
theorem nameOk_kind {ts : List Tk} (h : nameOk ts = true) : (hd ts).f0 ≠ 0 := by
  unfold nameOk at h
  rw [Bool.and_eq_true] at h
  rw [eq_of_beq h.1]; decide
theorem nameW_ok {ts r : List Tk} {t : Tk} (h : nameW ts = .ok t r) : r.length + 1 = ts.length := (want_ok nameOk_kind h).2.2.2
theorem textW_ok {ts r : List Tk} {t : Tk} (h : textW ts = .ok t r) : r.length + 1 = ts.length := (want_ok (fun hb => by rw [eq_of_beq hb]; decide) h).2.2.2
theorem numW_ok {ts r : List Tk} {t : Tk} (h : numW ts = .ok t r) : r.length + 1 = ts.length := (want_ok (fun hb => by rw [eq_of_beq hb]; decide) h).2.2.2
theorem exprW_ok {ts r : List Tk} {v : EO} (h : exprW ts = .ok v r) : r.length ≤ ts.length := by
  have := X_sz _ _ _ _ _ _ h
  simp only [base] at this
  omega
theorem stK_kind {ts : List Tk} (h : 0 < stK ts) : (hd ts).f0 ≠ 0 := by
  intro e
  unfold stK at h
  rw [if_neg (by rw [e]; decide)] at h
  exact absurd h (by decide)
theorem bodyW_ok {d d' : StD} {ts r : List Tk} (h : bodyW d ts = .ok d' r) : r.length ≤ ts.length := by
  unfold bodyW at h
  split at h
  · obtain ⟨_, r1, h1, h⟩ := bind_ok h
    obtain ⟨_, r2, h2, h⟩ := bind_ok h
    have := (takeM_ok h1).2.2.2
    have := nameW_ok h2
    split at h
    · obtain ⟨_, r3, h3, h⟩ := bind_ok h
      have := exprW_ok h3
      have := isM_len ‹_›
      cases h
      omega
    · cases h; omega
  split at h
  · obtain ⟨_, r1, h1, h⟩ := bind_ok h
    obtain ⟨_, r2, h2, h⟩ := bind_ok h
    have := wordW_ok h1
    have := nameW_ok h2
    cases h; omega
  split at h
  · obtain ⟨_, r1, h1, h⟩ := bind_ok h
    obtain ⟨_, r2, h2, h⟩ := bind_ok h
    obtain ⟨_, r3, h3, h⟩ := bind_ok h
    obtain ⟨_, r4, h4, h⟩ := bind_ok h
    obtain ⟨_, r5, h5, h⟩ := bind_ok h
    obtain ⟨_, r6, h6, h⟩ := bind_ok h
    have := wordW_ok h1
    have := textW_ok h2
    have := wordW_ok h3
    have := nameW_ok h4
    have := (takeM_ok h5).2.2.2
    have := nameW_ok h6
    cases h; omega
  split at h
  · obtain ⟨_, r1, h1, h⟩ := bind_ok h
    obtain ⟨_, r2, h2, h⟩ := bind_ok h
    obtain ⟨_, r3, h3, h⟩ := bind_ok h
    obtain ⟨_, r4, h4, h⟩ := bind_ok h
    obtain ⟨_, r5, h5, h⟩ := bind_ok h
    obtain ⟨_, r6, h6, h⟩ := bind_ok h
    have := (takeM_ok h1).2.2.2
    have := nameW_ok h2
    have := wordW_ok h3
    have := textW_ok h4
    have := wordW_ok h5
    have := nameW_ok h6
    cases h; omega
  split at h
  · obtain ⟨_, r1, h1, h⟩ := bind_ok h
    obtain ⟨_, r2, h2, h⟩ := bind_ok h
    have := wordW_ok h1
    have := nameW_ok h2
    cases h; omega
  · cases h; exact Nat.le_refl _
theorem stepW_ok {d : StD} {ts r : List Tk} (h : stepW ts = .ok d r) : r.length + 3 ≤ ts.length := by
  unfold stepW at h
  obtain ⟨_, r1, h1, h⟩ := bind_ok h
  obtain ⟨_, r2, h2, h⟩ := bind_ok h
  obtain ⟨_, r3, h3, h⟩ := bind_ok h
  obtain ⟨_, r4, h4, h⟩ := bind_ok h
  have := (want_ok (fun hb => stK_kind (of_decide_eq_true hb)) h1).2.2.2
  have := nameW_ok h2
  have := bodyW_ok h3
  have := (takeM_ok h4).2.2.2
  cases h; omega
theorem stepsW_ok : ∀ (n : Nat) {l l' : List StD} {ts r : List Tk}, stepsW n l ts = .ok l' r → l'.length + r.length ≤ l.length + ts.length ∧ r.length ≤ ts.length := by
  intro n
  induction n with
  | zero => intro l l' ts r h; cases h
  | succ n ih =>
    intro l l' ts r h
    rw [stepsW] at h
    split at h
    · cases h; exact ⟨Nat.le_refl _, Nat.le_refl _⟩
    · obtain ⟨_, r1, h1, h⟩ := bind_ok h
      have := stepW_ok h1
      have := ih h
      simp only [List.length_append, List.length_singleton] at this
      omega
theorem versionW_ok {d : VeD} {ts r : List Tk} (h : versionW ts = .ok d r) : r.length + 4 ≤ ts.length := by
  unfold versionW at h
  obtain ⟨_, r1, h1, h⟩ := bind_ok h
  obtain ⟨_, r2, h2, h⟩ := bind_ok h
  obtain ⟨_, r3, h3, h⟩ := bind_ok h
  obtain ⟨_, r4, h4, h⟩ := bind_ok h
  obtain ⟨_, r5, h5, h⟩ := bind_ok h
  have := wordW_ok h1
  have := numW_ok h2
  have := (takeM_ok h3).2.2.2
  have := (stepsW_ok _ h4).2
  have := (takeM_ok h5).2.2.2
  cases h; omega
theorem versionsW_ok : ∀ (n : Nat) {l l' : List VeD} {ts r : List Tk}, versionsW n l ts = .ok l' r → l'.length + r.length ≤ l.length + ts.length ∧ r.length ≤ ts.length := by
  intro n
  induction n with
  | zero => intro l l' ts r h; cases h
  | succ n ih =>
    intro l l' ts r h
    rw [versionsW] at h
    obtain ⟨_, r1, h1, h⟩ := bind_ok h
    have := versionW_ok h1
    split at h
    · have := ih h
      simp only [List.length_append, List.length_singleton] at this
      omega
    · cases h
      simp only [List.length_append, List.length_singleton]
      omega
theorem eventW_ok {d : EvD} {ts r : List Tk} (h : eventW ts = .ok d r) : r.length + 4 ≤ ts.length := by
  unfold eventW at h
  obtain ⟨_, r1, h1, h⟩ := bind_ok h
  obtain ⟨_, r2, h2, h⟩ := bind_ok h
  obtain ⟨_, r3, h3, h⟩ := bind_ok h
  obtain ⟨_, r4, h4, h⟩ := bind_ok h
  obtain ⟨_, r5, h5, h⟩ := bind_ok h
  have := wordW_ok h1
  have := nameW_ok h2
  have := (takeM_ok h3).2.2.2
  have := (versionsW_ok _ h4).2
  have := (takeM_ok h5).2.2.2
  cases h; omega
def rank : Fn → Nat
  | .expr => 3
  | .term => 2
  | _ => 1
theorem bind_ne {α β : Type} {x : Res α} {f : α → List Tk → Res β} (h1 : ∀ p, x ≠ .bad 0 p) (h2 : ∀ a r, x = .ok a r → ∀ p, f a r ≠ .bad 0 p) : ∀ p, x.bind f ≠ .bad 0 p := by
  intro p e
  cases x with
  | ok a r => exact h2 a r rfl p e
  | bad e' p' => exact h1 p' (by cases e; rfl)
theorem want_ne (b : Bool) (ts : List Tk) : ∀ p, want b ts ≠ .bad 0 p := by
  intro p e
  unfold want at e
  split at e
  · cases e
  · cases e
theorem takeM_ne (c : UInt8) (ts : List Tk) : ∀ p, takeM c ts ≠ .bad 0 p := want_ne _ _
theorem comb_ne (n : Nd) (kids : List EO) (r : List Tk) : ∀ p, comb n kids r ≠ .bad 0 p := by
  intro p e
  unfold comb at e
  split at e
  · cases e
  · cases e
theorem ok_ne {α : Type} (a : α) (r : List Tk) : ∀ p, (Res.ok a r) ≠ .bad 0 p := fun p e => by cases e
theorem ite_ne {α : Type} {c : Prop} [Decidable c] {x y : Res α} (h1 : c → ∀ p, x ≠ .bad 0 p) (h2 : ¬ c → ∀ p, y ≠ .bad 0 p) : ∀ p, (if c then x else y) ≠ .bad 0 p := by
  intro p e
  by_cases hc : c
  · rw [if_pos hc] at e; exact h1 hc p e
  · rw [if_neg hc] at e; exact h2 hc p e
theorem lev_ne {c : Prop} [Decidable c] {p : Int} {x : Res EO} (h : ∀ q, x ≠ .bad 0 q) : ∀ q, (if c then Res.bad 91 p else x) ≠ .bad 0 q := by
  intro q e
  split at e
  · cases e
  · exact h q e
theorem X_ne : ∀ (n : Nat) (f : Fn) (lev : Nat) (ts : List Tk), 4 * ts.length + rank f ≤ n → ∀ p, X n f lev ts ≠ .bad 0 p := by
  intro n
  induction n with
  | zero => intro f lev ts h; cases f <;> simp only [rank] at h <;> omega
  | succ n ih =>
    intro f lev ts h
    have sz : ∀ {f : Fn} {lev : Nat} {ts r : List Tk} {a : EO}, base f = 0 → X n f lev ts = .ok a r → r.length ≤ ts.length := by
      intro f lev ts r a hb hx
      have := X_sz _ _ _ _ _ _ hx
      rw [hb] at this; omega
    cases f with
    | expr =>
      rw [X]
      simp only [rank] at h
      exact bind_ne (ih _ _ _ (by simp only [rank]; omega)) fun a r hx => ih _ _ _ (by have := sz rfl hx; simp only [rank]; omega)
    | term =>
      rw [X]
      simp only [rank] at h
      exact bind_ne (ih _ _ _ (by simp only [rank]; omega)) fun a r hx => ih _ _ _ (by have := sz rfl hx; simp only [rank]; omega)
    | addL x =>
      rw [X]
      simp only [rank] at h
      split
      · rename_i hm
        have hl : ts.tail.length + 1 = ts.length := by
          rw [Bool.or_eq_true] at hm
          exact hm.elim isM_len isM_len
        refine bind_ne (ih _ _ _ (by simp only [rank]; omega)) fun a r hx => bind_ne (comb_ne _ _ _) fun c r' hc => ih _ _ _ ?_
        obtain ⟨rfl, _⟩ := comb_ok hc
        have := sz rfl hx
        simp only [rank]; omega
      · exact ok_ne _ _
    | mulL x =>
      rw [X]
      simp only [rank] at h
      split
      · rename_i hm
        have hl := isM_len hm
        refine bind_ne (ih _ _ _ (by simp only [rank]; omega)) fun a r hx => bind_ne (comb_ne _ _ _) fun c r' hc => ih _ _ _ ?_
        obtain ⟨rfl, _⟩ := comb_ok hc
        have := sz rfl hx
        simp only [rank]; omega
      · exact ok_ne _ _
    | args t l =>
      rw [X]
      simp only [rank] at h
      split
      · rename_i hm
        have hl := isM_len hm
        refine bind_ne (ih _ _ _ (by simp only [rank]; omega)) fun a r hx => ih _ _ _ ?_
        have := sz rfl hx
        simp only [rank]; omega
      · exact bind_ne (takeM_ne _ _) fun _ r _ => comb_ne _ _ _
    | fac =>
      rw [X]
      simp only [rank] at h
      have call : ∀ {g : EO → List Tk → Res EO}, (hd ts).f0 ≠ 0 → (∀ a r, r.length + 2 ≤ ts.length → ∀ p, g a r ≠ .bad 0 p) → ∀ p, ((takeM 40 ts.tail).bind fun _ r => (X n .expr (lev + 1) r).bind g) ≠ .bad 0 p := by
        intro g h0 hg
        have hl := hd_len h0
        refine bind_ne (takeM_ne _ _) fun _ r hr => ?_
        have hl2 := (takeM_ok hr).2.2.2
        refine bind_ne (ih _ _ _ (by simp only [rank]; omega)) fun a r' hx => hg a r' ?_
        have := sz rfl hx
        omega
      refine ite_ne (fun _ => comb_ne _ _ _) fun _ => ite_ne (fun _ => comb_ne _ _ _) fun _ => ite_ne (fun k1 => ?_) fun _ => ite_ne (fun hm => ?_) fun _ => ite_ne (fun hm => ?_) fun _ p e => by cases e
      · have h0 : (hd ts).f0 ≠ 0 := by rw [k1]; decide
        refine ite_ne (fun _ => comb_ne _ _ _) fun _ => ite_ne (fun _ => comb_ne _ _ _) fun _ => ite_ne (fun _ => ?_) fun _ => ite_ne (fun _ => ?_) fun _ => ite_ne (fun _ => ?_) fun _ => ite_ne (fun _ => ?_) fun _ p e => by cases e
        · exact lev_ne (call h0 fun a r hr => ih _ _ _ (by simp only [rank]; omega))
        · exact lev_ne (call h0 fun a r hr => bind_ne (takeM_ne _ _) fun _ r' hr' => bind_ne (ih _ _ _ (by have := (takeM_ok hr').2.2.2; simp only [rank]; omega)) fun b r'' _ => bind_ne (takeM_ne _ _) fun _ _ _ => comb_ne _ _ _)
        · exact lev_ne (call h0 fun a r hr => bind_ne (takeM_ne _ _) fun _ _ _ => comb_ne _ _ _)
        · exact lev_ne (call h0 fun a r hr => bind_ne (takeM_ne _ _) fun _ _ _ => comb_ne _ _ _)
      · have hl := isM_len hm
        exact lev_ne (bind_ne (ih _ _ _ (by simp only [rank]; omega)) fun a r _ => comb_ne _ _ _)
      · have hl := isM_len hm
        exact lev_ne (bind_ne (ih _ _ _ (by simp only [rank]; omega)) fun a r _ => bind_ne (takeM_ne _ _) fun _ _ _ => ok_ne _ _)
theorem exprW_ne (ts : List Tk) : ∀ p, exprW ts ≠ .bad 0 p := X_ne _ _ _ _ (by simp only [rank]; omega)
theorem wordW_ne (s : ByteArray) (ts : List Tk) : ∀ p, wordW s ts ≠ .bad 0 p := want_ne _ _
theorem nameW_ne (ts : List Tk) : ∀ p, nameW ts ≠ .bad 0 p := want_ne _ _
theorem textW_ne (ts : List Tk) : ∀ p, textW ts ≠ .bad 0 p := want_ne _ _
theorem numW_ne (ts : List Tk) : ∀ p, numW ts ≠ .bad 0 p := want_ne _ _
theorem bodyW_ne (d : StD) (ts : List Tk) : ∀ p, bodyW d ts ≠ .bad 0 p := by
  unfold bodyW
  split
  · refine bind_ne (takeM_ne _ _) fun _ r _ => bind_ne (nameW_ne _) fun t r _ => ?_
    split
    · exact bind_ne (exprW_ne _) fun _ _ _ => ok_ne _ _
    · exact ok_ne _ _
  split
  · exact bind_ne (wordW_ne _ _) fun _ r _ => bind_ne (nameW_ne _) fun t r _ => ok_ne _ _
  split
  · exact bind_ne (wordW_ne _ _) fun _ r _ => bind_ne (textW_ne _) fun t r _ => bind_ne (wordW_ne _ _) fun _ r _ => bind_ne (nameW_ne _) fun t r _ => bind_ne (takeM_ne _ _) fun _ r _ => bind_ne (nameW_ne _) fun t r _ => ok_ne _ _
  split
  · exact bind_ne (takeM_ne _ _) fun _ r _ => bind_ne (nameW_ne _) fun t r _ => bind_ne (wordW_ne _ _) fun _ r _ => bind_ne (textW_ne _) fun t r _ => bind_ne (wordW_ne _ _) fun _ r _ => bind_ne (nameW_ne _) fun t r _ => ok_ne _ _
  split
  · exact bind_ne (wordW_ne _ _) fun _ r _ => bind_ne (nameW_ne _) fun t r _ => ok_ne _ _
  · exact ok_ne _ _
theorem stepW_ne (ts : List Tk) : ∀ p, stepW ts ≠ .bad 0 p := by
  unfold stepW
  exact bind_ne (want_ne _ _) fun _ r _ => bind_ne (nameW_ne _) fun t r _ => bind_ne (bodyW_ne _ _) fun d r _ => bind_ne (takeM_ne _ _) fun t r _ => ok_ne _ _
theorem stepsW_ne : ∀ (n : Nat) (l : List StD) (ts : List Tk), ts.length < n → ∀ p, stepsW n l ts ≠ .bad 0 p := by
  intro n
  induction n with
  | zero => intro l ts h; omega
  | succ n ih =>
    intro l ts h
    rw [stepsW]
    split
    · exact ok_ne _ _
    · exact bind_ne (stepW_ne _) fun d r hr => ih _ _ (by have := stepW_ok hr; omega)
theorem versionW_ne (ts : List Tk) : ∀ p, versionW ts ≠ .bad 0 p := by
  unfold versionW
  exact bind_ne (wordW_ne _ _) fun _ r _ => bind_ne (numW_ne _) fun t r _ => bind_ne (takeM_ne _ _) fun t r _ => bind_ne (stepsW_ne _ _ _ (Nat.lt_succ_self _)) fun t r _ => bind_ne (takeM_ne _ _) fun t r _ => ok_ne _ _
theorem versionsW_ne : ∀ (n : Nat) (l : List VeD) (ts : List Tk), ts.length < n → ∀ p, versionsW n l ts ≠ .bad 0 p := by
  intro n
  induction n with
  | zero => intro l ts h; omega
  | succ n ih =>
    intro l ts h
    rw [versionsW]
    refine bind_ne (versionW_ne _) fun d r hr => ?_
    split
    · exact ih _ _ (by have := versionW_ok hr; omega)
    · exact ok_ne _ _
theorem eventW_ne (ts : List Tk) : ∀ p, eventW ts ≠ .bad 0 p := by
  unfold eventW
  exact bind_ne (wordW_ne _ _) fun _ r _ => bind_ne (nameW_ne _) fun t r _ => bind_ne (takeM_ne _ _) fun t r _ => bind_ne (versionsW_ne _ _ _ (Nat.lt_succ_self _)) fun t r _ => bind_ne (takeM_ne _ _) fun t r _ => ok_ne _ _
theorem eventsW_ne : ∀ (n : Nat) (l : List EvD) (ts : List Tk), ts.length < n → ∀ p, eventsW n l ts ≠ .bad 0 p := by
  intro n
  induction n with
  | zero => intro l ts h; omega
  | succ n ih =>
    intro l ts h
    rw [eventsW]
    split
    · exact bind_ne (eventW_ne _) fun d r hr => ih _ _ (by have := eventW_ok hr; omega)
    · exact ok_ne _ _
end Go.Proofs.Ytbdcndkafaajpaa.P
end
section
set_option linter.unusedVariables false
set_option linter.unusedSimpArgs false
namespace Go.Proofs.Ytbdcndkafaajpaa.P
open Go.Proofs.Ytbdcndkafaajpaa.X
def Le {α : Type} (x y : Res α) : Prop := (∀ p, x ≠ .bad 0 p) → y = x
section
variable {α β : Type}
theorem Le.same (x : Res α) : Le x x := fun _ => rfl
theorem Le.trans {x y z : Res α} (h : Le x y) (k : Le y z) : Le x z := fun hn => by
  have e := h hn
  rw [k (by rw [e]; exact hn), e]
theorem Le.bind {x y : Res α} {g g' : α → List Tk → Res β} (h : Le x y) (hg : ∀ a r, Le (g a r) (g' a r)) : Le (x.bind g) (y.bind g') := by
  intro hn
  cases x with
  | ok a r => rw [h (fun p e => by cases e)]; exact hg a r hn
  | bad e p => rw [h (fun q e' => by cases e'; exact hn _ rfl)]; rfl
theorem Le.ite {c : Prop} [Decidable c] {x y x' y' : Res α} (h1 : Le x y) (h2 : Le x' y') : Le (if c then x else x') (if c then y else y') := by
  split
  · exact h1
  · exact h2
end
def XS (R : Fn → Nat → List Tk → Res EO) : Fn → Nat → List Tk → Res EO
  | .expr, lev, ts => (R .term lev ts).bind fun a r => R (.addL a) lev r
  | .addL a, lev, ts =>
    if isM 43 ts || isM 45 ts then (R .term lev ts.tail).bind fun b r => (comb (node (if (hd ts).f1.toList == (mk1 45).toList then 7 else 6) (hd ts).f3) [a, b] r).bind fun c r => R (.addL c) lev r
    else .ok a ts
  | .term, lev, ts => (R .fac lev ts).bind fun a r => R (.mulL a) lev r
  | .mulL a, lev, ts =>
    if isM 42 ts then (R .fac lev ts.tail).bind fun b r => (comb (node 8 (hd ts).f3) [a, b] r).bind fun c r => R (.mulL c) lev r
    else .ok a ts
  | .args t l, lev, ts =>
    if isM 44 ts then (R .expr lev ts.tail).bind fun b r => R (.args t (l ++ [b])) lev r
    else (takeM 41 ts).bind fun _ r => comb ⟨9, (l.length : Int), 0, ⟨#[]⟩, t.f3⟩ l r
  | .fac, lev, ts =>
    if (hd ts).f0 = 2 then comb ⟨1, 0, (hd ts).f2, ⟨#[]⟩, (hd ts).f3⟩ [] ts.tail
    else if (hd ts).f0 = 3 then comb ⟨2, 0, 0, (hd ts).f1, (hd ts).f3⟩ [] ts.tail
    else if (hd ts).f0 = 1 then
      if (hd ts).f1 = sTrue then comb (node 3 (hd ts).f3) [] ts.tail
      else if (hd ts).f1 = sFalse then comb (node 4 (hd ts).f3) [] ts.tail
      else if (hd ts).f1 = sCat then
        if 100 ≤ lev then .bad 91 (hd ts).f3
        else (takeM 40 ts.tail).bind fun _ r => (R .expr (lev + 1) r).bind fun a r => R (.args (hd ts) [a]) (lev + 1) r
      else if (hd ts).f1 = sRep then
        if 100 ≤ lev then .bad 91 (hd ts).f3
        else (takeM 40 ts.tail).bind fun _ r => (R .expr (lev + 1) r).bind fun a r => (takeM 44 r).bind fun _ r => (R .expr (lev + 1) r).bind fun b r => (takeM 41 r).bind fun _ r => comb (node 10 (hd ts).f3) [a, b] r
      else if (hd ts).f1 = sLen then
        if 100 ≤ lev then .bad 91 (hd ts).f3
        else (takeM 40 ts.tail).bind fun _ r => (R .expr (lev + 1) r).bind fun a r => (takeM 41 r).bind fun _ r => comb (node 11 (hd ts).f3) [a] r
      else if (hd ts).f1 = sHex then
        if 100 ≤ lev then .bad 91 (hd ts).f3
        else (takeM 40 ts.tail).bind fun _ r => (R .expr (lev + 1) r).bind fun a r => (takeM 41 r).bind fun _ r => comb (node 12 (hd ts).f3) [a] r
      else .bad 90 (hd ts).f3
    else if isM 45 ts then
      if 100 ≤ lev then .bad 91 (hd ts).f3
      else (R .fac (lev + 1) ts.tail).bind fun a r => comb (node 5 (hd ts).f3) [a] r
    else if isM 40 ts then
      if 100 ≤ lev then .bad 91 (hd ts).f3
      else (R .expr (lev + 1) ts.tail).bind fun a r => (takeM 41 r).bind fun _ r => .ok a r
    else .bad 90 (hd ts).f3
theorem X_succ (n : Nat) (f : Fn) (lev : Nat) (ts : List Tk) : X (n + 1) f lev ts = XS (X n) f lev ts := by
  cases f <;> rfl
theorem Le.go {α : Type} {F : Nat → List Tk → Res α} (h : ∀ n ts, Le (F n ts) (F (n + 1) ts)) {n m : Nat} (hn : n ≤ m) (ts : List Tk) : Le (F n ts) (F m ts) := by
  obtain ⟨k, rfl⟩ : ∃ k, m = n + k := ⟨m - n, by omega⟩
  induction k with
  | zero => exact Le.same _
  | succ k ih => exact (ih (by omega)).trans (h _ _)
section
variable {α β : Type} {t : Tk} {f : List Tk → Res α}
def LocH (t : Tk) (f : List Tk → Res α) : Prop := ∀ ts a r, hd ts = t → f ts = .ok a r → ∃ c, ts = c ++ r ∧ (∀ x ∈ c, x.f0 ≠ 0) ∧ ∀ r', hd r' = hd r → f (c ++ r') = .ok a r'
def Loc (f : List Tk → Res α) : Prop := ∀ t, LocH t f
def LocS (f : List Tk → Res α) : Prop := ∀ ts a r, f ts = .ok a r → ∃ c, c ≠ [] ∧ ts = c ++ r ∧ (∀ x ∈ c, x.f0 ≠ 0) ∧ ∀ r', f (c ++ r') = .ok a r'
theorem hd_app {c r r' : List Tk} (h : hd r' = hd r) : hd (c ++ r') = hd (c ++ r) := by
  cases c with
  | nil => exact h
  | cons x c => rfl
theorem hd_app_ne {c : List Tk} (h : c ≠ []) (r r' : List Tk) : hd (c ++ r') = hd (c ++ r) := by
  cases c with
  | nil => exact absurd rfl h
  | cons x c => rfl
theorem LocH.at {F : Tk → List Tk → Res α} (h : LocH t (F t)) : LocH t (fun ts => F (hd ts) ts) := by
  intro ts a r ht hx
  have hx : F (hd ts) ts = .ok a r := hx
  rw [ht] at hx
  obtain ⟨c, e, hk, hr⟩ := h ts a r ht hx
  refine ⟨c, e, hk, fun r' h' => ?_⟩
  show F (hd (c ++ r')) (c ++ r') = _
  rw [hd_app h', ← e, ht]
  exact hr r' h'
theorem LocH.ok (a : α) : LocH t (fun ts => .ok a ts) := by
  intro ts b r _ h
  cases h
  exact ⟨[], rfl, fun x hx => (by cases hx), fun r' _ => rfl⟩
theorem LocH.bad (e p : Int) : LocH t (fun _ => (.bad e p : Res α)) := fun ts b r _ h => by cases h
theorem LocH.ite {c : Prop} [Decidable c] {g : List Tk → Res α} (h1 : c → LocH t f) (h2 : ¬ c → LocH t g) : LocH t (fun ts => if c then f ts else g ts) := by
  by_cases hc : c
  · simp only [if_pos hc]; exact h1 hc
  · simp only [if_neg hc]; exact h2 hc
theorem LocH.bind {g : α → List Tk → Res β} (h : LocH t f) (hg : ∀ a, Loc (g a)) : LocH t (fun ts => (f ts).bind g) := by
  intro ts b r ht hx
  obtain ⟨a, s, h1, h2⟩ := bind_ok hx
  obtain ⟨c, rfl, hk, hc⟩ := h ts a s ht h1
  obtain ⟨c2, rfl, hk2, hc2⟩ := hg a _ s b r rfl h2
  refine ⟨c ++ c2, by rw [List.append_assoc], fun x hx => ?_, fun r' h' => ?_⟩
  · rcases List.mem_append.1 hx with hx | hx
    · exact hk x hx
    · exact hk2 x hx
  · show (f (c ++ c2 ++ r')).bind g = _
    rw [List.append_assoc, hc (c2 ++ r') (hd_app h')]
    exact hc2 r' h'
theorem LocH.tail (h0 : t.f0 ≠ 0) (h : Loc f) : LocH t (fun ts => f ts.tail) := by
  intro ts a r ht hx
  cases ts with
  | nil => exact absurd (by rw [← ht]; rfl) h0
  | cons x ts =>
    have hxt : x = t := ht
    subst hxt
    obtain ⟨c, e, hk, hr⟩ := h _ ts a r rfl hx
    refine ⟨x :: c, by rw [e]; rfl, fun y hy => ?_, fun r' h' => hr r' h'⟩
    rcases List.mem_cons.1 hy with rfl | hy
    · exact h0
    · exact hk y hy
theorem LocS.to (h : LocS f) : Loc f := by
  intro t ts a r _ hx
  obtain ⟨c, _, e, hk, hr⟩ := h ts a r hx
  exact ⟨c, e, hk, fun r' _ => hr r'⟩
theorem LocS.bind {g : α → List Tk → Res β} (h : Loc f) (hg : ∀ a, LocS (g a)) : LocS (fun ts => (f ts).bind g) := by
  intro ts b r hx
  obtain ⟨a, s, h1, h2⟩ := bind_ok hx
  obtain ⟨c, rfl, hk, hc⟩ := h _ ts a s rfl h1
  obtain ⟨c2, hne, rfl, hk2, hc2⟩ := hg a s b r h2
  refine ⟨c ++ c2, fun e => hne (List.append_eq_nil_iff.1 e).2, by rw [List.append_assoc], fun x hx => ?_, fun r' => ?_⟩
  · rcases List.mem_append.1 hx with hx | hx
    · exact hk x hx
    · exact hk2 x hx
  · show (f (c ++ c2 ++ r')).bind g = _
    rw [List.append_assoc, hc (c2 ++ r') (hd_app_ne hne _ _)]
    exact hc2 r'
theorem LocS.map {k : α → β} (h : LocS f) : LocS (fun ts => (f ts).bind fun a r => .ok (k a) r) := by
  intro ts b r hx
  obtain ⟨a, s, h1, h2⟩ := bind_ok hx
  cases h2
  obtain ⟨c, hne, e, hk, hc⟩ := h ts a _ h1
  refine ⟨c, hne, e, hk, fun r' => ?_⟩
  show (f (c ++ r')).bind _ = _
  rw [hc r']; rfl
theorem LocS.want {b : Tk → Bool} (hb : ∀ t, b t = true → t.f0 ≠ 0) : LocS (fun ts => P.want (b (hd ts)) ts) := by
  intro ts a r hx
  obtain ⟨h1, h2, h3, _⟩ := want_ok (hb _) hx
  cases ts with
  | nil => exact absurd rfl (hb _ h1)
  | cons x ts =>
    refine ⟨[x], by simp, by rw [h3]; rfl, fun y hy => ?_, fun r' => ?_⟩
    · rw [List.mem_singleton.1 hy]; exact hb _ h1
    · show P.want (b x) (x :: r') = _
      unfold P.want
      rw [if_pos (show b x = true from h1), h2]; rfl
theorem Loc.fuel {F : Nat → List Tk → Res α} {b : List Tk → Nat} (hL : ∀ n, Loc (F n)) (hle : ∀ n ts, Le (F n ts) (F (n + 1) ts)) (hne : ∀ n ts, b ts ≤ n → ∀ p, F n ts ≠ .bad 0 p) : Loc (fun ts => F (b ts) ts) := by
  intro t ts a r ht hx
  have hx : F (b ts) ts = .ok a r := hx
  obtain ⟨c, e, hk, _⟩ := hL _ t ts a r ht hx
  refine ⟨c, e, hk, fun r' h' => ?_⟩
  obtain ⟨N, hN⟩ : ∃ N, N = max (b ts) (b (c ++ r')) := ⟨_, rfl⟩
  have h1 := (Le.go hle (show b ts ≤ N by omega) ts) (hne _ _ (Nat.le_refl _))
  rw [hx] at h1
  obtain ⟨c', e', _, hr⟩ := hL _ t ts a r ht h1
  have hcc : c' = c := List.append_cancel_right (e'.symm.trans e)
  subst hcc
  have h2 := (Le.go hle (show b (c' ++ r') ≤ N by omega) (c' ++ r')) (hne _ _ (Nat.le_refl _))
  show F (b (c' ++ r')) (c' ++ r') = _
  rw [← h2]
  exact hr r' h'
end
def isMt (c : UInt8) (t : Tk) : Bool := (t.f0 == 4) && (t.f1.toList == (mk1 c).toList)
section
variable {α β : Type} {p q : Tk → Prop} {t : Tk} {f : List Tk → Res α}
def LocQ (p : Tk → Prop) (f : List Tk → Res α) : Prop := ∀ ts a r, f ts = .ok a r → ∃ c, ts = c ++ r ∧ (∀ x ∈ c, x.f0 ≠ 0) ∧ ∀ r', (hd r' = hd r ∨ p (hd r')) → f (c ++ r') = .ok a r'
def LocT (t : Tk) (p : Tk → Prop) (f : List Tk → Res α) : Prop := ∀ ts a r, hd ts = t → f ts = .ok a r → ∃ c, c ≠ [] ∧ ts = c ++ r ∧ (∀ x ∈ c, x.f0 ≠ 0) ∧ ∀ r', (hd r' = hd r ∨ p (hd r')) → f (c ++ r') = .ok a r'
theorem LocT.at {F : Tk → List Tk → Res α} (h : LocT t p (F t)) : LocT t p (fun ts => F (hd ts) ts) := by
  intro ts a r ht hx
  have hx : F (hd ts) ts = .ok a r := hx
  rw [ht] at hx
  obtain ⟨c, hne, e, hk, hr⟩ := h ts a r ht hx
  refine ⟨c, hne, e, hk, fun r' h' => ?_⟩
  show F (hd (c ++ r')) (c ++ r') = _
  rw [hd_app_ne hne r r', ← e, ht]
  exact hr r' h'
theorem LocT.bad (e pl : Int) : LocT t p (fun _ => (.bad e pl : Res α)) := fun ts b r _ h => by cases h
theorem LocT.ite {c : Prop} [Decidable c] {g : List Tk → Res α} (h1 : c → LocT t p f) (h2 : ¬ c → LocT t p g) : LocT t p (fun ts => if c then f ts else g ts) := by
  by_cases hc : c
  · simp only [if_pos hc]; exact h1 hc
  · simp only [if_neg hc]; exact h2 hc
theorem LocT.tail (h0 : t.f0 ≠ 0) (h : LocQ p f) : LocT t p (fun ts => f ts.tail) := by
  intro ts a r ht hx
  cases ts with
  | nil => exact absurd (by rw [← ht]; rfl) h0
  | cons x ts =>
    have hxt : x = t := ht
    subst hxt
    obtain ⟨c, e, hk, hr⟩ := h ts a r hx
    refine ⟨x :: c, by simp, by rw [e]; rfl, fun y hy => ?_, fun r' h' => hr r' h'⟩
    rcases List.mem_cons.1 hy with rfl | hy
    · exact h0
    · exact hk y hy
theorem LocQ.bind {g : α → List Tk → Res β} (h : LocQ p f) (hg : ∀ a, LocQ q (g a)) (hpq : ∀ t, q t → p t) : LocQ q (fun ts => (f ts).bind g) := by
  intro ts b r hx
  obtain ⟨a, s, h1, h2⟩ := bind_ok hx
  obtain ⟨c, rfl, hk, hc⟩ := h ts a s h1
  obtain ⟨c2, rfl, hk2, hc2⟩ := hg a s b r h2
  refine ⟨c ++ c2, by rw [List.append_assoc], fun x hx => ?_, fun r' h' => ?_⟩
  · rcases List.mem_append.1 hx with hx | hx
    · exact hk x hx
    · exact hk2 x hx
  · show (f (c ++ c2 ++ r')).bind g = _
    rw [List.append_assoc, hc (c2 ++ r')]
    · exact hc2 r' h'
    · by_cases hne : c2 = []
      · subst hne
        exact h'.imp id (hpq _)
      · exact .inl (hd_app_ne hne r r')
theorem LocT.bind {g : α → List Tk → Res β} (h : LocT t p f) (hg : ∀ a, LocQ q (g a)) (hpq : ∀ t, q t → p t) : LocT t q (fun ts => (f ts).bind g) := by
  intro ts b r ht hx
  obtain ⟨a, s, h1, h2⟩ := bind_ok hx
  obtain ⟨c, hne0, rfl, hk, hc⟩ := h ts a s ht h1
  obtain ⟨c2, rfl, hk2, hc2⟩ := hg a s b r h2
  refine ⟨c ++ c2, fun e => hne0 (List.append_eq_nil_iff.1 e).1, by rw [List.append_assoc], fun x hx => ?_, fun r' h' => ?_⟩
  · rcases List.mem_append.1 hx with hx | hx
    · exact hk x hx
    · exact hk2 x hx
  · show (f (c ++ c2 ++ r')).bind g = _
    rw [List.append_assoc, hc (c2 ++ r')]
    · exact hc2 r' h'
    · by_cases hne : c2 = []
      · subst hne
        exact h'.imp id (hpq _)
      · exact .inl (hd_app_ne hne r r')
theorem LocQ.ok (a : α) : LocQ p (fun ts => .ok a ts) := by
  intro ts b r h
  cases h
  exact ⟨[], rfl, fun x hx => (by cases hx), fun r' _ => rfl⟩
theorem LocS.Q (h : LocS f) : LocQ p f := by
  intro ts a r hx
  obtain ⟨c, _, e, hk, hr⟩ := h ts a r hx
  exact ⟨c, e, hk, fun r' _ => hr r'⟩
theorem LocS.T (h : LocS f) : LocT t p f := by
  intro ts a r _ hx
  obtain ⟨c, hne, e, hk, hr⟩ := h ts a r hx
  exact ⟨c, hne, e, hk, fun r' _ => hr r'⟩
theorem LocQ.of (h : ∀ t, LocT t p f) : LocQ p f := by
  intro ts a r hx
  obtain ⟨c, _, e, hk, hr⟩ := h _ ts a r rfl hx
  exact ⟨c, e, hk, hr⟩
theorem LocQ.to (h : LocQ p f) : Loc f := by
  intro t ts a r _ hx
  obtain ⟨c, e, hk, hr⟩ := h ts a r hx
  exact ⟨c, e, hk, fun r' h' => hr r' (.inl h')⟩
theorem LocQ.fuel {F : Nat → List Tk → Res α} {b : List Tk → Nat} (hL : ∀ n, LocQ p (F n)) (hle : ∀ n ts, Le (F n ts) (F (n + 1) ts)) (hne : ∀ n ts, b ts ≤ n → ∀ p, F n ts ≠ .bad 0 p) : LocQ p (fun ts => F (b ts) ts) := by
  intro ts a r hx
  have hx : F (b ts) ts = .ok a r := hx
  obtain ⟨c, e, hk, _⟩ := hL _ ts a r hx
  refine ⟨c, e, hk, fun r' h' => ?_⟩
  obtain ⟨N, hN⟩ : ∃ N, N = max (b ts) (b (c ++ r')) := ⟨_, rfl⟩
  have h1 := (Le.go hle (show b ts ≤ N by omega) ts) (hne _ _ (Nat.le_refl _))
  rw [hx] at h1
  obtain ⟨c', e', _, hr⟩ := hL _ ts a r h1
  have hcc : c' = c := List.append_cancel_right (e'.symm.trans e)
  subst hcc
  have h2 := (Le.go hle (show b (c' ++ r') ≤ N by omega) (c' ++ r')) (hne _ _ (Nat.le_refl _))
  show F (b (c' ++ r')) (c' ++ r') = _
  rw [← h2]
  exact hr r' h'
end
theorem LocS.of {α : Type} {f : List Tk → Res α} (h : ∀ t, LocT t (fun _ => True) f) : LocS f := by
  intro ts a r hx
  obtain ⟨c, hne, e, hk, hr⟩ := h _ ts a r rfl hx
  exact ⟨c, hne, e, hk, fun r' => hr r' (.inr trivial)⟩
end Go.Proofs.Ytbdcndkafaajpaa.P
end
section
set_option linter.unusedVariables false
set_option linter.unusedSimpArgs false
namespace Go.Proofs.Ytbdcndkafaajpaa.P
open Go.Proofs.Ytbdcndkafaajpaa.X
def Pw {α β : Type} (R : α → β → Prop) : List α → List β → Prop
  | [], [] => True
  | a :: l, b :: m => R a b ∧ Pw R l m
  | _, _ => False
section
variable {α β : Type} {R : α → β → Prop}
theorem Pw.append : ∀ {l m : List α} {l' m' : List β}, Pw R l l' → Pw R m m' → Pw R (l ++ m) (l' ++ m')
  | [], m, [], m', _, h => h
  | _ :: _, _, _ :: _, _, h, k => ⟨h.1, Pw.append h.2 k⟩
theorem Pw.snoc {l : List α} {l' : List β} {a : α} {b : β} (h : Pw R l l') (k : R a b) : Pw R (l ++ [a]) (l' ++ [b]) := h.append ⟨k, trivial⟩
theorem Pw.len : ∀ {l : List α} {l' : List β}, Pw R l l' → l'.length = l.length
  | [], [], _ => rfl
  | _ :: _, _ :: _, h => by simp only [List.length_cons, Pw.len h.2]
theorem Pw.imp {S : α → β → Prop} (f : ∀ a b, R a b → S a b) : ∀ {l : List α} {l' : List β}, Pw R l l' → Pw S l l'
  | [], [], _ => trivial
  | _ :: _, _ :: _, h => ⟨f _ _ h.1, Pw.imp f h.2⟩
theorem Pw.refl {R : α → α → Prop} : ∀ {l : List α}, (∀ a ∈ l, R a a) → Pw R l l
  | [], _ => trivial
  | a :: l, h => ⟨h a List.mem_cons_self, Pw.refl fun b hb => h b (List.mem_cons_of_mem _ hb)⟩
theorem Pw.map {γ : Type} {R : α → γ → Prop} {f : α → γ} : ∀ {l : List α}, (∀ a ∈ l, R a (f a)) → Pw R l (l.map f)
  | [], _ => trivial
  | a :: l, h => ⟨h a List.mem_cons_self, Pw.map fun b hb => h b (List.mem_cons_of_mem _ hb)⟩
end
section
variable (ρ : Int → Int → Prop)
structure TR (t u : Tk) : Prop where
  k : u.f0 = t.f0
  s : u.f1 = t.f1
  n : u.f2 = t.f2
  p : ρ t.f3 u.f3
structure NR (x y : Nd) : Prop where
  f0 : y.f0 = x.f0
  f1 : y.f1 = x.f1
  f2 : y.f2 = x.f2
  f3 : y.f3 = x.f3
  p : ρ x.f4 y.f4
structure ER (a b : EO) : Prop where
  ns : Pw (NR ρ) a.ns b.ns
  dep : b.dep = a.dep
structure SR (x y : StD) : Prop where
  k : y.k = x.k
  a : y.a = x.a
  b : y.b = x.b
  c : y.c = x.c
  sep : y.sep = x.sep
  ty : y.ty = x.ty
  val : Pw (NR ρ) x.val y.val
  p : ρ x.pl y.pl
structure VR (x y : VeD) : Prop where
  num : y.num = x.num
  steps : Pw (SR ρ) x.steps y.steps
  p : ρ x.pl y.pl
structure WR (x y : EvD) : Prop where
  name : y.name = x.name
  vers : Pw (VR ρ) x.vers y.vers
  p : ρ x.pl y.pl
def Ends (ts : List Tk) : Prop := ∃ i e, ts = i ++ [e] ∧ e.f0 = 0 ∧ ∀ t ∈ i, t.f0 ≠ 0
structure TL (ts us : List Tk) : Prop where
  e : Ends ts
  r : Pw (TR ρ) ts us
def RR {α β : Type} (A : α → β → Prop) : Res α → Res β → Prop
  | .ok a r, .ok b s => A a b ∧ TL ρ r s
  | .bad e p, .bad e' p' => e' = e ∧ (e ≠ 0 → ρ p p')
  | _, _ => False
end
section
variable {ρ : Int → Int → Prop} {α β γ δ : Type} {A : α → β → Prop} {B : γ → δ → Prop} {ts us : List Tk}
theorem Ends.tail (h : Ends ts) (h0 : (hd ts).f0 ≠ 0) : Ends ts.tail := by
  obtain ⟨i, e, rfl, he, hi⟩ := h
  cases i with
  | nil => exact absurd he h0
  | cons x i => exact ⟨i, e, rfl, he, fun t ht => hi t (List.mem_cons_of_mem _ ht)⟩
theorem Ends.ne (h : Ends ts) : ts ≠ [] := by
  obtain ⟨i, e, rfl, _, _⟩ := h
  simp
theorem TL.hd (h : TL ρ ts us) : TR ρ (P.hd ts) (P.hd us) := by
  have hn := h.e.ne
  have hr := h.r
  cases ts with
  | nil => exact absurd rfl hn
  | cons t ts =>
    cases us with
    | nil => exact hr.elim
    | cons u us => exact hr.1
theorem TL.tail (h : TL ρ ts us) (h0 : (P.hd ts).f0 ≠ 0) : TL ρ ts.tail us.tail := by
  refine ⟨h.e.tail h0, ?_⟩
  have hr := h.r
  cases ts with
  | nil => exact absurd rfl h0
  | cons t ts =>
    cases us with
    | nil => exact hr.elim
    | cons u us => exact hr.2
theorem TL.isT (h : TL ρ ts us) (k : Int) (s : ByteArray) : P.isT k s us = P.isT k s ts := by
  unfold P.isT
  rw [h.hd.k, h.hd.s]
theorem TL.isM (h : TL ρ ts us) (c : UInt8) : P.isM c us = P.isM c ts := h.isT _ _
theorem RR.bind {x : Res α} {y : Res β} {f : α → List Tk → Res γ} {g : β → List Tk → Res δ} (h : RR ρ A x y) (k : ∀ a b r s, A a b → TL ρ r s → RR ρ B (f a r) (g b s)) : RR ρ B (x.bind f) (y.bind g) := by
  cases x with
  | ok a r =>
    cases y with
    | ok b s => exact k a b r s h.1 h.2
    | bad e p => exact h.elim
  | bad e p =>
    cases y with
    | ok b s => exact h.elim
    | bad e' p' => exact h
theorem RR.ite {c d : Prop} [Decidable c] [Decidable d] {x x' : Res α} {y y' : Res β} (hcd : c ↔ d) (h1 : c → RR ρ A x y) (h2 : ¬ c → RR ρ A x' y') : RR ρ A (if c then x else x') (if d then y else y') := by
  by_cases hc : c
  · rw [if_pos hc, if_pos (hcd.1 hc)]; exact h1 hc
  · rw [if_neg hc, if_neg (fun h => hc (hcd.2 h))]; exact h2 hc
theorem RR.want {b b' : Bool} (h : TL ρ ts us) (hb : b' = b) (hk : b = true → (P.hd ts).f0 ≠ 0) : RR ρ (TR ρ) (P.want b ts) (P.want b' us) := by
  subst hb
  unfold P.want
  cases b' with
  | true => exact ⟨h.hd, h.tail (hk rfl)⟩
  | false => exact ⟨rfl, fun _ => h.hd.p⟩
theorem RR.takeM (h : TL ρ ts us) (c : UInt8) : RR ρ (TR ρ) (P.takeM c ts) (P.takeM c us) := RR.want h (h.isM c) fun hb => by rw [isT_kind hb]; decide
theorem mxl_dep {k k' : List EO} (h : Pw (ER ρ) k k') : mxl (k'.map EO.dep) = mxl (k.map EO.dep) := by
  have : k'.map EO.dep = k.map EO.dep := by
    induction k generalizing k' with
    | nil =>
      cases k' with
      | nil => rfl
      | cons b m => exact h.elim
    | cons a l ih =>
      cases k' with
      | nil => exact h.elim
      | cons b m => rw [List.map_cons, List.map_cons, ih h.2, h.1.dep]
  rw [this]
theorem ns_flat {k k' : List EO} (h : Pw (ER ρ) k k') : Pw (NR ρ) (k.map EO.ns).flatten (k'.map EO.ns).flatten := by
  induction k generalizing k' with
  | nil =>
    cases k' with
    | nil => trivial
    | cons b m => exact h.elim
  | cons a l ih =>
    cases k' with
    | nil => exact h.elim
    | cons b m =>
      rw [List.map_cons, List.map_cons, List.flatten_cons, List.flatten_cons]
      exact h.1.ns.append (ih h.2)
theorem RR.comb {n n' : Nd} {k k' : List EO} {r s : List Tk} (hn : NR ρ n n') (hk : Pw (ER ρ) k k') (hr : TL ρ r s) : RR ρ (ER ρ) (P.comb n k r) (P.comb n' k' s) := by
  unfold P.comb
  rw [mxl_dep hk]
  refine RR.ite Iff.rfl (fun _ => ⟨rfl, fun _ => hn.p⟩) fun _ => ⟨⟨(ns_flat hk).snoc hn, rfl⟩, hr⟩
def FR (ρ : Int → Int → Prop) : Fn → Fn → Prop
  | .expr, .expr => True
  | .addL a, .addL b => ER ρ a b
  | .term, .term => True
  | .mulL a, .mulL b => ER ρ a b
  | .fac, .fac => True
  | .args t l, .args u m => TR ρ t u ∧ Pw (ER ρ) l m
  | _, _ => False
theorem NR.node {op p p' : Int} (h : ρ p p') : NR ρ (P.node op p) (P.node op p') := ⟨rfl, rfl, rfl, rfl, h⟩
theorem XS_rel {R R' : Fn → Nat → List Tk → Res EO} (ih : ∀ f f' lev ts us, FR ρ f f' → TL ρ ts us → RR ρ (ER ρ) (R f lev ts) (R' f' lev us)) :
    ∀ f f' lev ts us, FR ρ f f' → TL ρ ts us → RR ρ (ER ρ) (XS R f lev ts) (XS R' f' lev us) := by
  intro f f' lev ts us hf h
  have hh := h.hd
  cases f with
  | expr =>
    cases f' with
    | expr => exact RR.bind (ih _ _ _ _ _ trivial h) fun a b r s ha hr => ih _ _ _ _ _ ha hr
    | _ => exact hf.elim
  | term =>
    cases f' with
    | term => exact RR.bind (ih _ _ _ _ _ trivial h) fun a b r s ha hr => ih _ _ _ _ _ ha hr
    | _ => exact hf.elim
  | addL a =>
    cases f' with
    | addL a' =>
      have hf : ER ρ a a' := hf
      unfold XS
      refine RR.ite (by rw [h.isM, h.isM]) (fun hm => ?_) fun _ => ⟨hf, h⟩
      have h0 : (P.hd ts).f0 ≠ 0 := by
        rw [Bool.or_eq_true] at hm
        rcases hm with hm | hm <;> (rw [isT_kind hm]; decide)
      rw [hh.s]
      exact RR.bind (ih _ _ _ _ _ trivial (h.tail h0)) fun b b' r s hb hr => RR.bind (RR.comb (NR.node hh.p) ⟨hf, hb, trivial⟩ hr) fun c c' r s hc hr => ih _ _ _ _ _ hc hr
    | _ => exact hf.elim
  | mulL a =>
    cases f' with
    | mulL a' =>
      have hf : ER ρ a a' := hf
      unfold XS
      refine RR.ite (by rw [h.isM]) (fun hm => ?_) fun _ => ⟨hf, h⟩
      have h0 : (P.hd ts).f0 ≠ 0 := by rw [isT_kind hm]; decide
      exact RR.bind (ih _ _ _ _ _ trivial (h.tail h0)) fun b b' r s hb hr => RR.bind (RR.comb (NR.node hh.p) ⟨hf, hb, trivial⟩ hr) fun c c' r s hc hr => ih _ _ _ _ _ hc hr
    | _ => exact hf.elim
  | args t l =>
    cases f' with
    | args t' l' =>
      have hf : TR ρ t t' ∧ Pw (ER ρ) l l' := hf
      unfold XS
      refine RR.ite (by rw [h.isM]) (fun hm => ?_) fun _ => ?_
      · have h0 : (P.hd ts).f0 ≠ 0 := by rw [isT_kind hm]; decide
        exact RR.bind (ih _ _ _ _ _ trivial (h.tail h0)) fun b b' r s hb hr => ih _ _ _ _ _ ⟨hf.1, hf.2.snoc hb⟩ hr
      · refine RR.bind (RR.takeM h _) fun _ _ r s _ hr => RR.comb ⟨rfl, ?_, rfl, rfl, hf.1.p⟩ hf.2 hr
        rw [hf.2.len]
    | _ => exact hf.elim
  | fac =>
    cases f' with
    | fac =>
      unfold XS
      have hbad : ∀ e : Int, RR ρ (ER ρ) (.bad e (P.hd ts).f3) (.bad e (P.hd us).f3) := fun e => ⟨rfl, fun _ => hh.p⟩
      have leaf : ∀ {n n' : Nd}, (P.hd ts).f0 ≠ 0 → NR ρ n n' → RR ρ (ER ρ) (P.comb n [] ts.tail) (P.comb n' [] us.tail) := fun h0 hn => RR.comb hn trivial (h.tail h0)
      have lev' : ∀ {x y : Res EO}, RR ρ (ER ρ) x y → RR ρ (ER ρ) (if 100 ≤ lev then .bad 91 (P.hd ts).f3 else x) (if 100 ≤ lev then .bad 91 (P.hd us).f3 else y) := fun hx => RR.ite Iff.rfl (fun _ => hbad 91) fun _ => hx
      have q2 : (P.hd us).f0 = 2 ↔ (P.hd ts).f0 = 2 := by rw [hh.k]
      refine RR.ite (by rw [hh.k]) (fun k => leaf (by rw [k]; decide) ⟨rfl, rfl, hh.n, rfl, hh.p⟩) fun _ => ?_
      refine RR.ite (by rw [hh.k]) (fun k => leaf (by rw [k]; decide) ⟨rfl, rfl, rfl, hh.s, hh.p⟩) fun _ => ?_
      refine RR.ite (by rw [hh.k]) (fun k => ?_) fun _ => ?_
      · have h0 : (P.hd ts).f0 ≠ 0 := by rw [k]; decide
        have hp := RR.takeM (h.tail h0) 40
        refine RR.ite (by rw [hh.s]) (fun _ => leaf h0 (NR.node hh.p)) fun _ => ?_
        refine RR.ite (by rw [hh.s]) (fun _ => leaf h0 (NR.node hh.p)) fun _ => ?_
        refine RR.ite (by rw [hh.s]) (fun _ => lev' ?_) fun _ => ?_
        · exact RR.bind hp fun _ _ r s _ hr => RR.bind (ih _ _ _ _ _ trivial hr) fun a b r s ha hr => ih _ _ _ _ _ ⟨hh, ha, trivial⟩ hr
        refine RR.ite (by rw [hh.s]) (fun _ => lev' ?_) fun _ => ?_
        · exact RR.bind hp fun _ _ r s _ hr => RR.bind (ih _ _ _ _ _ trivial hr) fun a b r s ha hr => RR.bind (RR.takeM hr _) fun _ _ r s _ hr => RR.bind (ih _ _ _ _ _ trivial hr) fun c d r s hc hr => RR.bind (RR.takeM hr _) fun _ _ r s _ hr => RR.comb (NR.node hh.p) ⟨ha, hc, trivial⟩ hr
        refine RR.ite (by rw [hh.s]) (fun _ => lev' ?_) fun _ => ?_
        · exact RR.bind hp fun _ _ r s _ hr => RR.bind (ih _ _ _ _ _ trivial hr) fun a b r s ha hr => RR.bind (RR.takeM hr _) fun _ _ r s _ hr => RR.comb (NR.node hh.p) ⟨ha, trivial⟩ hr
        refine RR.ite (by rw [hh.s]) (fun _ => lev' ?_) fun _ => hbad 90
        · exact RR.bind hp fun _ _ r s _ hr => RR.bind (ih _ _ _ _ _ trivial hr) fun a b r s ha hr => RR.bind (RR.takeM hr _) fun _ _ r s _ hr => RR.comb (NR.node hh.p) ⟨ha, trivial⟩ hr
      · refine RR.ite (by rw [h.isM]) (fun hm => lev' ?_) fun _ => ?_
        · have h0 : (P.hd ts).f0 ≠ 0 := by rw [isT_kind hm]; decide
          exact RR.bind (ih _ _ _ _ _ trivial (h.tail h0)) fun a b r s ha hr => RR.comb (NR.node hh.p) ⟨ha, trivial⟩ hr
        refine RR.ite (by rw [h.isM]) (fun hm => lev' ?_) fun _ => hbad 90
        · have h0 : (P.hd ts).f0 ≠ 0 := by rw [isT_kind hm]; decide
          exact RR.bind (ih _ _ _ _ _ trivial (h.tail h0)) fun a b r s ha hr => RR.bind (RR.takeM hr _) fun _ _ r s _ hr => ⟨ha, hr⟩
    | _ => exact hf.elim
theorem X_rel : ∀ (n : Nat) (f f' : Fn) (lev : Nat) (ts us : List Tk), FR ρ f f' → TL ρ ts us → RR ρ (ER ρ) (X n f lev ts) (X n f' lev us) := by
  intro n
  induction n with
  | zero => intro f f' lev ts us _ _; exact ⟨rfl, fun h => absurd rfl h⟩
  | succ n ih =>
    intro f f' lev ts us hf h
    rw [X_succ, X_succ]
    exact XS_rel ih f f' lev ts us hf h
theorem exprW_rel (h : TL ρ ts us) : RR ρ (ER ρ) (exprW ts) (exprW us) := by
  unfold exprW
  rw [h.r.len]
  exact X_rel _ _ _ _ _ _ trivial h
theorem wordW_rel (h : TL ρ ts us) (s : ByteArray) : RR ρ (TR ρ) (wordW s ts) (wordW s us) := RR.want h (h.isT 1 s) fun hb => by rw [isT_kind hb]; decide
theorem nameW_rel (h : TL ρ ts us) : RR ρ (TR ρ) (nameW ts) (nameW us) := RR.want h (by unfold nameOk; rw [h.hd.k, h.hd.s]) nameOk_kind
theorem textW_rel (h : TL ρ ts us) : RR ρ (TR ρ) (textW ts) (textW us) := RR.want h (by rw [h.hd.k]) fun hb => by rw [eq_of_beq hb]; decide
theorem numW_rel (h : TL ρ ts us) : RR ρ (TR ρ) (numW ts) (numW us) := RR.want h (by rw [h.hd.k]) fun hb => by rw [eq_of_beq hb]; decide
theorem endW_rel (h : TL ρ ts us) : RR ρ (TR ρ) (endW ts) (endW us) := by
  unfold endW
  exact RR.ite (by rw [h.hd.k]) (fun _ => ⟨h.hd, h⟩) fun _ => ⟨rfl, fun _ => h.hd.p⟩
theorem bodyW_rel {d d' : StD} (hd' : SR ρ d d') (hv : d.val = [] ∧ d'.val = []) (h : TL ρ ts us) : RR ρ (SR ρ) (bodyW d ts) (bodyW d' us) := by
  obtain ⟨k, a, b, c, sep, ty, val, p⟩ := hd'
  have hvv : Pw (NR ρ) d.val d'.val := val
  unfold bodyW
  refine RR.ite (by rw [k]) (fun _ => ?_) fun _ => RR.ite (by rw [k]) (fun _ => ?_) fun _ => RR.ite (by rw [k]) (fun _ => ?_) fun _ => RR.ite (by rw [k]) (fun _ => ?_) fun _ => RR.ite (by rw [k]) (fun _ => ?_) fun _ => ⟨⟨k, a, b, c, sep, ty, val, p⟩, h⟩
  · refine RR.bind (RR.takeM h _) fun _ _ r s _ h => RR.bind (nameW_rel h) fun t u r s ht h => ?_
    refine RR.ite (by rw [h.isM]) (fun hm => ?_) fun _ => ⟨⟨k, a, b, c, sep, ht.s, val, p⟩, h⟩
    have h0 : (P.hd r).f0 ≠ 0 := by rw [isT_kind hm]; decide
    exact RR.bind (exprW_rel (h.tail h0)) fun v w r s hv h => ⟨⟨k, a, b, c, sep, ht.s, hv.ns, p⟩, h⟩
  · exact RR.bind (wordW_rel h _) fun _ _ r s _ h => RR.bind (nameW_rel h) fun t u r s ht h => ⟨⟨k, a, ht.s, c, sep, ty, val, p⟩, h⟩
  · exact RR.bind (wordW_rel h _) fun _ _ r s _ h => RR.bind (textW_rel h) fun x y r s hx h => RR.bind (wordW_rel h _) fun _ _ r s _ h => RR.bind (nameW_rel h) fun t u r s ht h => RR.bind (RR.takeM h _) fun _ _ r s _ h => RR.bind (nameW_rel h) fun t' u' r s ht' h => ⟨⟨k, a, ht.s, ht'.s, hx.s, ty, val, p⟩, h⟩
  · exact RR.bind (RR.takeM h _) fun _ _ r s _ h => RR.bind (nameW_rel h) fun t u r s ht h => RR.bind (wordW_rel h _) fun _ _ r s _ h => RR.bind (textW_rel h) fun x y r s hx h => RR.bind (wordW_rel h _) fun _ _ r s _ h => RR.bind (nameW_rel h) fun t' u' r s ht' h => ⟨⟨k, a, ht.s, ht'.s, hx.s, ty, val, p⟩, h⟩
  · exact RR.bind (wordW_rel h _) fun _ _ r s _ h => RR.bind (nameW_rel h) fun t u r s ht h => ⟨⟨k, a, b, c, sep, ht.s, val, p⟩, h⟩
theorem stepW_rel (h : TL ρ ts us) : RR ρ (SR ρ) (stepW ts) (stepW us) := by
  have hk : stK us = stK ts := by unfold stK; rw [h.hd.k, h.hd.s]
  unfold stepW
  rw [hk]
  exact RR.bind (RR.want h rfl fun hb => stK_kind (of_decide_eq_true hb)) fun t u r s ht h => RR.bind (nameW_rel h) fun a b r s ha h =>
    RR.bind (bodyW_rel ⟨rfl, ha.s, rfl, rfl, rfl, rfl, trivial, ht.p⟩ ⟨rfl, rfl⟩ h) fun d d' r s hd h => RR.bind (RR.takeM h _) fun _ _ r s _ h => ⟨hd, h⟩
theorem stepsW_rel : ∀ (n : Nat) (l l' : List StD) (ts us : List Tk), Pw (SR ρ) l l' → TL ρ ts us → RR ρ (Pw (SR ρ)) (stepsW n l ts) (stepsW n l' us) := by
  intro n
  induction n with
  | zero => intro l l' ts us _ _; exact ⟨rfl, fun h => absurd rfl h⟩
  | succ n ih =>
    intro l l' ts us hl h
    rw [stepsW, stepsW]
    exact RR.ite (by rw [h.isM]) (fun _ => ⟨hl, h⟩) fun _ => RR.bind (stepW_rel h) fun d d' r s hd h => ih _ _ _ _ (hl.snoc hd) h
theorem versionW_rel (h : TL ρ ts us) : RR ρ (VR ρ) (versionW ts) (versionW us) := by
  unfold versionW
  exact RR.bind (wordW_rel h _) fun t u r s ht h => RR.bind (numW_rel h) fun m m' r s hm h => RR.bind (RR.takeM h _) fun _ _ r s _ h =>
    RR.bind (by rw [h.r.len]; exact stepsW_rel _ _ _ _ _ trivial h) fun l l' r s hl h => RR.bind (RR.takeM h _) fun _ _ r s _ h => ⟨⟨hm.n, hl, ht.p⟩, h⟩
theorem versionsW_rel : ∀ (n : Nat) (l l' : List VeD) (ts us : List Tk), Pw (VR ρ) l l' → TL ρ ts us → RR ρ (Pw (VR ρ)) (versionsW n l ts) (versionsW n l' us) := by
  intro n
  induction n with
  | zero => intro l l' ts us _ _; exact ⟨rfl, fun h => absurd rfl h⟩
  | succ n ih =>
    intro l l' ts us hl h
    rw [versionsW, versionsW]
    exact RR.bind (versionW_rel h) fun d d' r s hd h => RR.ite (by rw [h.isT]) (fun _ => ih _ _ _ _ (hl.snoc hd) h) fun _ => ⟨hl.snoc hd, h⟩
theorem eventW_rel (h : TL ρ ts us) : RR ρ (WR ρ) (eventW ts) (eventW us) := by
  unfold eventW
  exact RR.bind (wordW_rel h _) fun t u r s ht h => RR.bind (nameW_rel h) fun m m' r s hm h => RR.bind (RR.takeM h _) fun _ _ r s _ h =>
    RR.bind (by rw [h.r.len]; exact versionsW_rel _ _ _ _ _ trivial h) fun l l' r s hl h => RR.bind (RR.takeM h _) fun _ _ r s _ h => ⟨⟨hm.s, hl, ht.p⟩, h⟩
theorem eventsW_rel : ∀ (n : Nat) (l l' : List EvD) (ts us : List Tk), Pw (WR ρ) l l' → TL ρ ts us → RR ρ (Pw (WR ρ)) (eventsW n l ts) (eventsW n l' us) := by
  intro n
  induction n with
  | zero => intro l l' ts us _ _; exact ⟨rfl, fun h => absurd rfl h⟩
  | succ n ih =>
    intro l l' ts us hl h
    rw [eventsW, eventsW]
    exact RR.ite (by rw [h.isT]) (fun _ => RR.bind (eventW_rel h) fun d d' r s hd h => ih _ _ _ _ (hl.snoc hd) h) fun _ => ⟨hl, h⟩
theorem schemaW_rel (h : TL ρ ts us) : RR ρ (Pw (WR ρ)) (schemaW ts) (schemaW us) := by
  unfold schemaW
  rw [h.r.len]
  exact RR.bind (eventsW_rel _ _ _ _ _ trivial h) fun l l' r s hl h => RR.bind (endW_rel h) fun _ _ r s _ h => ⟨hl, h⟩
theorem valueW_rel (h : TL ρ ts us) : RR ρ (Pw (NR ρ)) (valueW ts) (valueW us) := by
  unfold valueW
  exact RR.bind (exprW_rel h) fun v v' r s hv h => RR.bind (endW_rel h) fun _ _ r s _ h => ⟨hv.ns, h⟩
end
end Go.Proofs.Ytbdcndkafaajpaa.P
end
section
set_option linter.unusedVariables false
set_option linter.unusedSimpArgs false
namespace Go.Proofs.Ytbdcndkafaajpaa.L
open Go.Proofs.Ytbdcndkafaajpaa
def isD (b : UInt8) : Bool := G.dig (b.toNat : Int)
def isL (b : UInt8) : Bool := G.letr (b.toNat : Int)
def isW (b : UInt8) : Bool := isL b || isD b
def blank (b : UInt8) : Bool := decide (b.toNat = 32 ∨ b.toNat = 9 ∨ b.toNat = 10 ∨ b.toNat = 13)
def lead (p : UInt8 → Bool) : List UInt8 → Nat
  | [] => 0
  | b :: t => if p b then lead p t + 1 else 0
def sk : Bool → List UInt8 → Nat
  | _, [] => 0
  | false, b :: t => if blank b then sk false t + 1 else if b.toNat = 35 then sk true t + 1 else 0
  | true, b :: t => sk (b.toNat != 10) t + 1
def hexv (b : UInt8) : Option Nat :=
  if 48 ≤ b.toNat ∧ b.toNat ≤ 57 then some (b.toNat - 48)
  else if 97 ≤ b.toNat ∧ b.toNat ≤ 102 then some (b.toNat - 87)
  else if 65 ≤ b.toNat ∧ b.toNat ≤ 70 then some (b.toNat - 55) else none
def escx : List UInt8 → Option (UInt8 × Nat)
  | a :: b :: _ => match hexv a, hexv b with
    | some x, some y => some ((16 * x + y).toUInt8, 3)
    | _, _ => none
  | _ => none
def esc : List UInt8 → Option (UInt8 × Nat)
  | [] => none
  | c :: t => if c.toNat = 92 ∨ c.toNat = 34 then some (c, 1) else if c.toNat = 110 then some (10, 1) else if c.toNat = 116 then some (9, 1)
    else if c.toNat = 120 then escx t
    else none
structure Tk where
  kind : Nat
  text : List UInt8
  num : Nat
  len : Nat
inductive R where
  | ok (t : Tk)
  | bad (off : Nat) (e : Nat)
def tx (off : Nat) (acc : List UInt8) (l : List UInt8) : R :=
  match l with
  | [] => .bad 0 81
  | b :: t =>
    if b.toNat = 10 then .bad 0 81
    else if b.toNat = 34 then .ok ⟨3, acc, 0, off + 1⟩
    else if b.toNat = 92 then
      match esc t with
      | none => .bad off 82
      | some (c, n) => tx (off + n + 1) (acc ++ [c]) (t.drop n)
    else tx (off + 1) (acc ++ [b]) t
termination_by l.length
decreasing_by all_goals (simp only [List.length_cons, List.length_drop]; omega)
def marks : List Nat := [123, 125, 40, 41, 58, 59, 44, 61, 43, 45, 42]
def tok : List UInt8 → R
  | [] => .bad 0 0
  | b :: t =>
    if isL b then (if lead isW (b :: t) > 64 then .bad 0 111 else .ok ⟨1, (b :: t).take (lead isW (b :: t)), 0, lead isW (b :: t)⟩)
    else if isD b then (match G.numv 0 ((b :: t).take (lead isD (b :: t))) with
      | none => .bad 0 111
      | some x => .ok ⟨2, [], x, lead isD (b :: t)⟩)
    else if b.toNat = 34 then tx 1 [] t
    else if b.toNat ∈ marks then .ok ⟨4, [b], 0, 1⟩
    else .bad 0 80
theorem lead_le (p : UInt8 → Bool) (l : List UInt8) : lead p l ≤ l.length := by
  induction l with
  | nil => exact Nat.le_refl _
  | cons b t ih => simp only [lead, List.length_cons]; split <;> omega
theorem escx_le {l : List UInt8} {c : UInt8} {n : Nat} (h : escx l = some (c, n)) : n = 3 ∧ 2 ≤ l.length := by
  match l, h with
  | a :: b :: t, h =>
    rw [escx] at h
    split at h
    · simp only [Option.some.injEq, Prod.mk.injEq] at h; exact ⟨h.2.symm, by simp only [List.length_cons]; omega⟩
    · cases h
theorem escx_loc {w r r' : List UInt8} (h : 2 ≤ w.length) : escx (w ++ r) = escx (w ++ r') := by
  match w, h with
  | a :: b :: t, _ => rfl
theorem esc_le {l : List UInt8} {c : UInt8} {n : Nat} (h : esc l = some (c, n)) : 1 ≤ n ∧ n ≤ l.length := by
  cases l with
  | nil => simp [esc] at h
  | cons a t =>
    rw [esc] at h
    split at h
    · simp at h; simp; omega
    split at h
    · simp at h; simp; omega
    split at h
    · simp at h; simp; omega
    split at h
    · have := escx_le h; simp only [List.length_cons]; omega
    · simp at h
theorem tx_len {off : Nat} {acc l : List UInt8} {t : Tk} (h : tx off acc l = .ok t) : off + 1 ≤ t.len ∧ t.len ≤ off + l.length := by
  induction off, acc, l using tx.induct generalizing t with
  | case1 off acc => rw [tx] at h; cases h
  | case2 off acc b t' hb => rw [tx, if_pos hb] at h; cases h
  | case3 off acc b t' hb h34 => rw [tx, if_neg hb, if_pos h34] at h; cases h; simp only [List.length_cons]; omega
  | case4 off acc b t' hb h34 h92 he => rw [tx, if_neg hb, if_neg h34, if_pos h92, he] at h; cases h
  | case5 off acc b t' hb h34 h92 c n he ih =>
    rw [tx, if_neg hb, if_neg h34, if_pos h92, he] at h
    have := ih h; have := esc_le he
    rw [List.length_drop] at *; simp only [List.length_cons]; omega
  | case6 off acc b t' hb h34 h92 ih =>
    rw [tx, if_neg hb, if_neg h34, if_neg h92] at h
    have := ih h; simp only [List.length_cons]; omega
theorem lead_pos {p : UInt8 → Bool} {b : UInt8} {t : List UInt8} (h : p b = true) : 1 ≤ lead p (b :: t) := by
  rw [lead, if_pos h]; omega
theorem tok_len {l : List UInt8} {t : Tk} (h : tok l = .ok t) : 1 ≤ t.len ∧ t.len ≤ l.length := by
  cases l with
  | nil => cases h
  | cons b r =>
    have l1 := lead_le isW (b :: r)
    have l2 := lead_le isD (b :: r)
    rw [tok] at h
    split at h
    · rename_i hb
      have := @lead_pos isW b r (by unfold isW; rw [hb]; rfl)
      split at h
      · cases h
      · cases h; exact ⟨this, l1⟩
    split at h
    · rename_i hb
      have := @lead_pos isD b r hb
      split at h
      · cases h
      · cases h; exact ⟨this, l2⟩
    split at h
    · have := tx_len h; simp only [List.length_cons]; omega
    split at h
    · cases h; simp
    · cases h
structure Tok where
  kind : Nat
  text : List UInt8
  num : Nat
  at' : Nat
  fin : Nat
inductive LR where
  | toks (l : List Tok)
  | bad (at' : Nat) (e : Nat)
def LR.push (t : Tok) : LR → LR
  | .toks l => .toks (t :: l)
  | .bad a e => .bad a e
def Tk.at_ (t : Tk) (o : Nat) : Tok := ⟨t.kind, t.text, t.num, o, o + t.len⟩
theorem sk_le (r : Bool) (l : List UInt8) : sk r l ≤ l.length := by
  induction l generalizing r with
  | nil => cases r <;> exact Nat.le_refl _
  | cons b t ih =>
    have h1 := ih false; have h2 := ih true; have h3 := ih (b.toNat != 10)
    cases r
    · rw [sk, List.length_cons]; split
      · omega
      · split <;> omega
    · rw [sk, List.length_cons]; omega
def lx (off : Nat) (l : List UInt8) : LR :=
  if hz : sk false l = l.length then .toks [⟨0, [], 0, off + l.length, off + l.length⟩]
  else match ht : tok (l.drop (sk false l)) with
    | .bad a e => .bad (off + sk false l + a) e
    | .ok t => (lx (off + sk false l + t.len) (l.drop (sk false l + t.len))).push (t.at_ (off + sk false l))
termination_by l.length
decreasing_by
  have h1 := tok_len ht
  have h2 := sk_le false l
  rw [List.length_drop] at h1 ⊢; omega
theorem lx_end {off : Nat} {l : List UInt8} (h : sk false l = l.length) : lx off l = .toks [⟨0, [], 0, off + l.length, off + l.length⟩] := by
  rw [lx, dif_pos h]
theorem lx_bad {off : Nat} {l : List UInt8} {a e : Nat} (h : sk false l ≠ l.length) (ht : tok (l.drop (sk false l)) = .bad a e) : lx off l = .bad (off + sk false l + a) e := by
  rw [lx, dif_neg h]; split
  · rename_i h2; rw [ht] at h2; cases h2; rfl
  · rename_i h2; rw [ht] at h2; cases h2
theorem lx_ok {off : Nat} {l : List UInt8} {t : Tk} (h : sk false l ≠ l.length) (ht : tok (l.drop (sk false l)) = .ok t) : lx off l = (lx (off + sk false l + t.len) (l.drop (sk false l + t.len))).push (t.at_ (off + sk false l)) := by
  rw [lx, dif_neg h]; split
  · rename_i h2; rw [ht] at h2; cases h2
  · rename_i h2; rw [ht] at h2; cases h2; rfl
def Lex (l : List UInt8) : LR := if l.length > 1048576 then .bad 0 2 else lx 0 l
def hx (n : Nat) : UInt8 := (if n < 10 then 48 + n else 87 + n).toUInt8
end Go.Proofs.Ytbdcndkafaajpaa.L
end
section
set_option linter.unusedVariables false
set_option linter.unusedSimpArgs false
namespace Go.Proofs.Ytbdcndkafaajpaa.L
open Go.Proofs.Ytbdcndkafaajpaa
def headN (p : UInt8 → Bool) (r : List UInt8) : Prop := ∀ b t, r = b :: t → p b = false
theorem headN_nil (p : UInt8 → Bool) : headN p [] := by intro b t h; cases h
theorem headN_cons {p : UInt8 → Bool} {b : UInt8} {t : List UInt8} (h : p b = false) : headN p (b :: t) := by intro c u e; cases e; exact h
theorem lead_iff (p : UInt8 → Bool) (w r : List UInt8) : lead p (w ++ r) = w.length ↔ (∀ b ∈ w, p b = true) ∧ headN p r := by
  induction w with
  | nil =>
    cases r with
    | nil => simp [lead, headN_nil]
    | cons b t =>
      simp only [List.nil_append, lead, List.length_nil, List.not_mem_nil, false_imp_iff, implies_true, true_and]
      cases hb : p b with
      | true => simp only [if_true]; constructor
                · intro h; omega
                · intro h; rw [h b t rfl] at hb; cases hb
      | false => simp only [Bool.false_eq_true, if_false, true_iff]; exact headN_cons hb
  | cons b t ih =>
    simp only [List.cons_append, lead, List.length_cons, List.mem_cons]
    cases hb : p b with
    | true =>
      simp only [if_true, Nat.add_right_cancel_iff, ih]
      constructor
      · rintro ⟨h1, h2⟩; exact ⟨fun c hc => hc.elim (fun e => e ▸ hb) (h1 c), h2⟩
      · rintro ⟨h1, h2⟩; exact ⟨fun c hc => h1 c (.inr hc), h2⟩
    | false =>
      simp only [Bool.false_eq_true, if_false]
      constructor
      · intro h; omega
      · rintro ⟨h1, h2⟩; rw [h1 b (.inl rfl)] at hb; cases hb
theorem lead_take (p : UInt8 → Bool) (l : List UInt8) : (∀ b ∈ l.take (lead p l), p b = true) ∧ headN p (l.drop (lead p l)) := by
  have h := lead_iff p (l.take (lead p l)) (l.drop (lead p l))
  rw [List.take_append_drop, List.length_take] at h
  exact h.1 (by have := lead_le p l; omega)
def stop (kind : Nat) (r : List UInt8) : Prop := (kind = 1 → headN isW r) ∧ (kind = 2 → headN isD r)
theorem isW_D {b : UInt8} (h : isW b = false) : isD b = false := by unfold isW at h; rw [Bool.or_eq_false_iff] at h; exact h.2
theorem stop_of {kind : Nat} {r : List UInt8} (h : headN isW r) : stop kind r := ⟨fun _ => h, fun _ b t e => isW_D (h b t e)⟩
theorem esc_loc {w r r' : List UInt8} {c : UInt8} {n : Nat} (h : esc (w ++ r) = some (c, n)) (hn : n ≤ w.length) : esc (w ++ r') = some (c, n) := by
  cases w with
  | nil => have := esc_le h; simp only [List.length_nil] at hn; omega
  | cons a t =>
    simp only [List.cons_append] at h ⊢
    rw [esc] at h ⊢
    split at h
    · rename_i h1; rw [if_pos h1]; exact h
    rename_i h1; rw [if_neg h1]
    split at h
    · rename_i h2; rw [if_pos h2]; exact h
    rename_i h2; rw [if_neg h2]
    split at h
    · rename_i h3; rw [if_pos h3]; exact h
    rename_i h3; rw [if_neg h3]
    split at h
    · rename_i h4; rw [if_pos h4]
      have := escx_le h
      simp only [List.length_cons] at hn
      rw [← h]; exact (escx_loc (by omega)).symm
    · cases h
theorem tx_loc {r r' : List UInt8} {t : Tk} : ∀ (d : Nat) (w : List UInt8) (off : Nat) (acc : List UInt8), w.length ≤ d → tx off acc (w ++ r) = .ok t → w.length + off = t.len → tx off acc (w ++ r') = .ok t := by
  intro d
  induction d with
  | zero =>
    intro w off acc hd h hw
    have := tx_len h; omega
  | succ d ih =>
    intro w off acc hd h hw
    cases w with
    | nil => have := tx_len h; simp only [List.length_nil] at hw; omega
    | cons b w =>
      simp only [List.cons_append, List.length_cons] at h hw hd ⊢
      rw [tx] at h ⊢
      split at h
      · cases h
      rename_i h1; rw [if_neg h1]
      split at h
      · rename_i h2; rw [if_pos h2]; exact h
      rename_i h2; rw [if_neg h2]
      split at h
      · rename_i h3; rw [if_pos h3]
        cases he : esc (w ++ r) with
        | none => rw [he] at h; cases h
        | some p =>
          obtain ⟨c, n⟩ := p
          rw [he] at h; simp only at h
          have hl := tx_len h
          have hn : n ≤ w.length := by omega
          rw [esc_loc he hn]; simp only
          rw [List.drop_append_of_le_length hn] at h ⊢
          exact ih _ _ _ (by rw [List.length_drop]; omega) h (by rw [List.length_drop]; omega)
      · rename_i h3; rw [if_neg h3]
        exact ih _ _ _ (by omega) h (by omega)
theorem tx_kind {off : Nat} {acc l : List UInt8} {t : Tk} (h : tx off acc l = .ok t) : t.kind = 3 := by
  induction off, acc, l using tx.induct generalizing t with
  | case1 off acc => rw [tx] at h; cases h
  | case2 off acc b t' hb => rw [tx, if_pos hb] at h; cases h
  | case3 off acc b t' hb h34 => rw [tx, if_neg hb, if_pos h34] at h; cases h; rfl
  | case4 off acc b t' hb h34 h92 he => rw [tx, if_neg hb, if_neg h34, if_pos h92, he] at h; cases h
  | case5 off acc b t' hb h34 h92 c n he ih => rw [tx, if_neg hb, if_neg h34, if_pos h92, he] at h; exact ih h
  | case6 off acc b t' hb h34 h92 ih => rw [tx, if_neg hb, if_neg h34, if_neg h92] at h; exact ih h
theorem tok_kind {l : List UInt8} {t : Tk} (h : tok l = .ok t) : 1 ≤ t.kind ∧ t.kind ≤ 4 := by
  cases l with
  | nil => cases h
  | cons b r =>
    rw [tok] at h
    split at h
    · split at h
      · cases h
      · cases h; simp
    split at h
    · split at h
      · cases h
      · cases h; simp
    split at h
    · rw [tx_kind h]; decide
    split at h
    · cases h; simp
    · cases h
theorem tok_stop {w r : List UInt8} {t : Tk} (h : tok (w ++ r) = .ok t) (hw : w.length = t.len) : stop t.kind r := by
  have hl := tok_len h
  cases w with
  | nil => simp only [List.length_nil] at hw; omega
  | cons b w =>
    simp only [List.cons_append] at h
    rw [tok] at h
    split at h
    · split at h
      · cases h
      · injection h with h; subst h
        have := (lead_iff isW (b :: w) r).1 (by simpa using hw.symm)
        exact ⟨fun _ => this.2, (fun h => by simp at h)⟩
    split at h
    · split at h
      · cases h
      · injection h with h; subst h
        have := (lead_iff isD (b :: w) r).1 (by simpa using hw.symm)
        exact ⟨(fun h => by simp at h), fun _ => this.2⟩
    split at h
    · have := tx_kind h; exact ⟨fun h => by omega, fun h => by omega⟩
    split at h
    · injection h with h; subst h; exact ⟨(fun h => by simp at h), (fun h => by simp at h)⟩
    · cases h
theorem tok_loc {w r r' : List UInt8} {t : Tk} (h : tok (w ++ r) = .ok t) (hw : w.length = t.len) (hs : stop t.kind r') : tok (w ++ r') = .ok t := by
  have hl := tok_len h
  cases w with
  | nil => simp only [List.length_nil] at hw; omega
  | cons b w =>
    simp only [List.cons_append] at h ⊢
    rw [tok] at h ⊢
    split at h
    · rename_i h1; rw [if_pos h1]
      split at h
      · cases h
      · rename_i h2
        injection h with h; subst h
        have e := (lead_iff isW (b :: w) r).1 (by simpa using hw.symm)
        have e2 := (lead_iff isW (b :: w) r').2 ⟨e.1, hs.1 rfl⟩
        simp only at hw
        rw [List.cons_append] at e2
        rw [← hw] at h2 ⊢
        rw [e2, if_neg h2, ← List.cons_append, ← List.cons_append, List.take_left, List.take_left]
    rename_i h1; rw [if_neg h1]
    split at h
    · rename_i h2; rw [if_pos h2]
      split at h
      · cases h
      · rename_i x hx
        injection h with h; subst h
        have e := (lead_iff isD (b :: w) r).1 (by simpa using hw.symm)
        have e2 := (lead_iff isD (b :: w) r').2 ⟨e.1, hs.2 rfl⟩
        simp only at hw
        rw [List.cons_append] at e2
        rw [← hw, ← List.cons_append, List.take_left] at hx
        rw [e2, ← List.cons_append, List.take_left, hx, hw]
    rename_i h2; rw [if_neg h2]
    split at h
    · rename_i h3; rw [if_pos h3]
      exact tx_loc _ _ _ _ (Nat.le_refl _) h (by simpa using hw)
    rename_i h3; rw [if_neg h3]
    split at h
    · rename_i h4; rw [if_pos h4]; exact h
    · cases h
def gs : Bool → List UInt8 → Option Bool
  | r, [] => some r
  | false, b :: t => if blank b then gs false t else if b.toNat = 35 then gs true t else none
  | true, b :: t => gs (b.toNat != 10) t
theorem gs_sk {r q : Bool} {g m : List UInt8} (h : gs r g = some q) : sk r (g ++ m) = g.length + sk q m := by
  induction g generalizing r with
  | nil => rw [gs] at h; cases h; simp
  | cons b t ih =>
    cases r
    · rw [gs] at h
      simp only [List.cons_append, sk, List.length_cons]
      split at h
      · rename_i h1; rw [if_pos h1, ih h]; omega
      · rename_i h1; rw [if_neg h1]
        split at h
        · rename_i h2; rw [if_pos h2, ih h]; omega
        · cases h
    · rw [gs] at h
      simp only [List.cons_append, sk, List.length_cons]
      rw [ih h]; omega
theorem sk_gs {r : Bool} {l : List UInt8} (h : sk r l < l.length) : gs r (l.take (sk r l)) = some false ∧ sk false (l.drop (sk r l)) = 0 := by
  induction l generalizing r with
  | nil => simp at h
  | cons b t ih =>
    cases r
    · rw [sk] at h ⊢
      split at h
      · rename_i h1; simp only [List.length_cons] at h
        rw [if_pos h1, List.take_succ_cons, gs, if_pos h1, List.drop_succ_cons]
        exact ih (by omega)
      · rename_i h1; rw [if_neg h1]
        split at h
        · rename_i h2; simp only [List.length_cons] at h
          rw [if_pos h2, List.take_succ_cons, gs, if_neg h1, if_pos h2, List.drop_succ_cons]
          exact ih (by omega)
        · rename_i h2; rw [if_neg h2, List.take_zero, gs, List.drop_zero, sk, if_neg h1, if_neg h2]; exact ⟨rfl, rfl⟩
    · rw [sk] at h ⊢
      simp only [List.length_cons] at h
      rw [List.take_succ_cons, gs, List.drop_succ_cons]
      exact ih (by omega)
theorem sk_all {r : Bool} {l : List UInt8} (h : sk r l = l.length) : ∃ q, gs r l = some q := by
  induction l generalizing r with
  | nil => exact ⟨r, by rw [gs]⟩
  | cons b t ih =>
    cases r
    · rw [sk] at h
      rw [gs]
      split at h
      · rename_i h1; rw [if_pos h1]; exact ih (by simpa using h)
      · rename_i h1; rw [if_neg h1]
        split at h
        · rename_i h2; rw [if_pos h2]; exact ih (by simpa using h)
        · simp at h
    · rw [sk] at h
      rw [gs]
      exact ih (by simpa using h)
theorem gs_all {r q : Bool} {l : List UInt8} (h : gs r l = some q) : sk r l = l.length := by
  have := gs_sk (m := []) h
  rw [List.append_nil] at this
  cases q <;> simpa [sk] using this
theorem tok_blank {b : UInt8} {t : List UInt8} (h : blank b = true ∨ b.toNat = 35) : tok (b :: t) = .bad 0 80 := by
  have hb : b.toNat = 32 ∨ b.toNat = 9 ∨ b.toNat = 10 ∨ b.toNat = 13 ∨ b.toNat = 35 := by
    rcases h with h | h
    · have := of_decide_eq_true h; omega
    · omega
  have h1 : isL b = false := decide_eq_false (by omega)
  have h2 : isD b = false := decide_eq_false (by omega)
  rw [tok, if_neg (by rw [h1]; decide), if_neg (by rw [h2]; decide), if_neg (by omega), if_neg]
  unfold marks
  simp only [List.mem_cons, List.not_mem_nil, or_false]
  omega
theorem tok_sk {m : List UInt8} {t : Tk} (h : tok m = .ok t) : sk false m = 0 := by
  cases m with
  | nil => rfl
  | cons b m =>
    by_cases h1 : blank b = true ∨ b.toNat = 35
    · rw [tok_blank h1] at h; cases h
    · rw [not_or] at h1
      rw [sk, if_neg h1.1, if_neg h1.2]
theorem lx_mk {off : Nat} {g w r : List UInt8} {t : Tk} (hg : gs false g = some false) (ht : tok (w ++ r) = .ok t) (hw : w.length = t.len) :
    lx off (g ++ (w ++ r)) = (lx (off + g.length + w.length) r).push (t.at_ (off + g.length)) := by
  have hl := tok_len ht
  have e : sk false (g ++ (w ++ r)) = g.length := by rw [gs_sk hg, tok_sk ht]; rfl
  have e2 : (g ++ (w ++ r)).drop (sk false (g ++ (w ++ r))) = w ++ r := by rw [e, List.drop_left]
  rw [lx_ok (t := t) (by rw [e]; simp only [List.length_append] at *; omega) (by rw [e2]; exact ht), e]
  congr 1
  rw [← hw]
  congr 1
  rw [← List.append_assoc, ← List.length_append, List.drop_left]
theorem lx_mkbad {off : Nat} {g m : List UInt8} {a e : Nat} (hg : gs false g = some false) (hm : sk false m = 0) (hne : m ≠ []) (ht : tok m = .bad a e) :
    lx off (g ++ m) = .bad (off + g.length + a) e := by
  have e1 : sk false (g ++ m) = g.length := by rw [gs_sk hg, hm]; rfl
  have hl : 0 < m.length := by cases m with | nil => exact absurd rfl hne | cons a t => simp
  rw [lx_bad (a := a) (e := e) (by rw [e1, List.length_append]; omega) (by rw [e1, List.drop_left]; exact ht), e1]
inductive Cut (off : Nat) (l : List UInt8) : Prop where
  | all (q : Bool) (h : gs false l = some q) (e : lx off l = .toks [⟨0, [], 0, off + l.length, off + l.length⟩])
  | one (g w r : List UInt8) (t : Tk) (hl : l = g ++ (w ++ r)) (hg : gs false g = some false) (ht : tok (w ++ r) = .ok t) (hw : w.length = t.len)
      (e : lx off l = (lx (off + g.length + w.length) r).push (t.at_ (off + g.length)))
  | bad (g m : List UInt8) (a e : Nat) (hl : l = g ++ m) (hg : gs false g = some false) (hm : sk false m = 0) (hne : m ≠ []) (ht : tok m = .bad a e)
      (h : lx off l = .bad (off + g.length + a) e)
theorem lx_cut (off : Nat) (l : List UInt8) : Cut off l := by
  by_cases hz : sk false l = l.length
  · obtain ⟨q, hq⟩ := sk_all hz
    exact .all q hq (lx_end hz)
  · have hlt : sk false l < l.length := by have := sk_le false l; omega
    have hg := sk_gs hlt
    have hlen : (l.take (sk false l)).length = sk false l := by rw [List.length_take]; omega
    have hsp : l = l.take (sk false l) ++ l.drop (sk false l) := (List.take_append_drop _ _).symm
    cases ht : tok (l.drop (sk false l)) with
    | bad a e =>
      refine .bad _ _ a e hsp hg.1 hg.2 ?_ ht ?_
      · intro h; have := congrArg List.length h; rw [List.length_drop] at this; simp at this; omega
      · rw [hlen]; exact lx_bad hz ht
    | ok t =>
      have hl := tok_len ht
      have hsp2 : l.drop (sk false l) = (l.drop (sk false l)).take t.len ++ (l.drop (sk false l)).drop t.len := (List.take_append_drop _ _).symm
      have hwl : ((l.drop (sk false l)).take t.len).length = t.len := by rw [List.length_take]; omega
      refine .one _ _ _ t (by rw [← hsp2]; exact hsp) hg.1 (by rw [← hsp2]; exact ht) hwl ?_
      rw [hlen, hwl, List.drop_drop]; exact lx_ok hz ht
end Go.Proofs.Ytbdcndkafaajpaa.L
end
section
set_option linter.unusedVariables false
set_option linter.unusedSimpArgs false
namespace Go.Proofs.Ytbdcndkafaajpaa.L
open Go.Proofs.Ytbdcndkafaajpaa
theorem gs_app {r q : Bool} {g m : List UInt8} (h : gs r g = some q) : gs r (g ++ m) = gs q m := by
  induction g generalizing r with
  | nil => rw [gs] at h; cases h; rfl
  | cons b t ih =>
    cases r
    · rw [gs] at h
      rw [List.cons_append, gs]
      split at h
      · rename_i h1; rw [if_pos h1, ih h]
      · rename_i h1; rw [if_neg h1]
        split at h
        · rename_i h2; rw [if_pos h2, ih h]
        · cases h
    · rw [gs] at h
      rw [List.cons_append, gs, ih h]
def stripT (t : Tok) : Nat × List UInt8 × Nat × Nat := (t.kind, t.text, t.num, t.fin - t.at')
def st : LR → Option (List (Nat × List UInt8 × Nat × Nat))
  | .toks l => some (l.map stripT)
  | .bad _ _ => none
theorem headN_app {p : UInt8 → Bool} {r z : List UInt8} (h : headN p r) (hz : headN p z) : headN p (r ++ z) := by
  cases r with
  | nil => exact hz
  | cons b t => exact headN_cons (h b t rfl)
theorem stop_app {k : Nat} {r z : List UInt8} (h : stop k r) (hz : headN isW z) : stop k (r ++ z) :=
  ⟨fun e => headN_app (h.1 e) hz, fun e => headN_app (h.2 e) fun b t e => isW_D (hz b t e)⟩
theorem headN_take {p : UInt8 → Bool} {r m : List UInt8} {c : Nat} (h : headN p r) (hm : c = 0 → headN p m) (hr : r = [] → headN p m) : headN p (r.take c ++ m) := by
  cases r with
  | nil => simpa using hr rfl
  | cons b t =>
    cases c with
    | zero => simpa using hm rfl
    | succ c => rw [List.take_succ_cons]; exact headN_cons (h b t rfl)
theorem push_toks {t : Tok} {r : LR} {l : List Tok} (h : r.push t = .toks l) : ∃ l', r = .toks l' ∧ l = t :: l' := by
  cases r with
  | toks l' => cases h; exact ⟨l', rfl, rfl⟩
  | bad a e => cases h
theorem push_bad {t : Tok} {r : LR} {a e : Nat} (h : r.push t = .bad a e) : r = .bad a e := by
  cases r with
  | toks l' => cases h
  | bad a e => exact h
inductive Good (s : List UInt8) : Nat → List Tok → Prop where
  | last (e : Nat) (q : Bool) (he : e ≤ s.length) (hg : gs false (s.drop e) = some q) : Good s e [⟨0, [], 0, s.length, s.length⟩]
  | more (e : Nat) (t : Tok) (ts : List Tok) (q : Bool) (h1 : e ≤ t.at') (h2 : t.at' < t.fin) (h3 : t.fin ≤ s.length) (hk : 1 ≤ t.kind ∧ t.kind ≤ 4)
      (hg : gs false ((s.drop e).take (t.at' - e)) = some q)
      (ho : lx 0 ((s.drop t.at').take (t.fin - t.at')) = .toks [⟨t.kind, t.text, t.num, 0, t.fin - t.at'⟩, ⟨0, [], 0, t.fin - t.at', t.fin - t.at'⟩])
      (hm : Good s t.fin ts) : Good s e (t :: ts)
theorem lx_alone {w : List UInt8} {t : Tk} (h : tok w = .ok t) (hw : w.length = t.len) : lx 0 w = .toks [⟨t.kind, t.text, t.num, 0, t.len⟩, ⟨0, [], 0, t.len, t.len⟩] := by
  have := @lx_mk 0 [] w [] t rfl (by rw [List.append_nil]; exact h) hw
  rw [List.append_nil, List.nil_append] at this
  rw [this, lx_end rfl]
  simp [LR.push, Tk.at_, hw]
theorem good : ∀ (d : Nat) (p l : List UInt8) (ts : List Tok), l.length ≤ d → lx p.length l = .toks ts → Good (p ++ l) p.length ts := by
  intro d
  induction d with
  | zero =>
    intro p l ts hd h
    obtain rfl : l = [] := List.length_eq_zero_iff.1 (by omega)
    rw [lx_end rfl] at h; cases h
    have := Good.last (s := p ++ []) p.length false (by simp) (by simp [gs])
    simpa using this
  | succ d ih =>
    intro p l ts hd h
    rcases lx_cut p.length l with ⟨q, hq, e⟩ | ⟨g, w, r, t0, rfl, hg, ht0, hw, e⟩ | ⟨g, m, a, e, rfl, hg, hm, hne, ht0, h2⟩
    · rw [e] at h; cases h
      have := Good.last (s := p ++ l) p.length q (by simp) (by rw [List.drop_left]; exact hq)
      simpa using this
    · have hl2 := tok_len ht0
      rw [e] at h
      obtain ⟨l', h1, rfl⟩ := push_toks h
      have ha : (t0.at_ (p.length + g.length)).at' = p.length + g.length := rfl
      have hf : (t0.at_ (p.length + g.length)).fin = p.length + g.length + t0.len := rfl
      have sp : p ++ (g ++ (w ++ r)) = (p ++ g ++ w) ++ r := by simp only [List.append_assoc]
      have lp : (p ++ g ++ w).length = p.length + g.length + w.length := by simp only [List.length_append]
      have hgood := ih (p ++ g ++ w) r l' (by simp only [List.length_append] at hd; omega) (by rw [lp]; exact h1)
      refine Good.more _ _ _ false (by rw [ha]; omega) (by rw [ha, hf]; omega) (by rw [hf]; simp only [List.length_append]; omega) (tok_kind ht0) ?_ ?_ ?_
      · rw [List.drop_left, ha, Nat.add_sub_cancel_left, List.take_left]; exact hg
      · have e1 : (p ++ (g ++ (w ++ r))).drop (p.length + g.length) = w ++ r := by
          rw [← List.append_assoc, ← List.length_append, List.drop_left]
        rw [ha, hf, Nat.add_sub_cancel_left, e1, ← hw, List.take_left, hw]
        exact lx_alone (by have := tok_loc (r' := []) ht0 hw (stop_of (headN_nil _)); rwa [List.append_nil] at this) hw
      · rw [hf, sp, ← hw, ← lp]; exact hgood
    · rw [h2] at h; cases h
theorem esc_none {t m : List UInt8} (h : esc t = none) : esc (t ++ 10 :: m) = none := by
  have h10 : hexv 10 = none := by decide
  cases t with
  | nil => simp [esc]
  | cons c t =>
    rw [esc] at h
    rw [List.cons_append, esc]
    split at h
    · cases h
    rename_i h1; rw [if_neg h1]
    split at h
    · cases h
    rename_i h2; rw [if_neg h2]
    split at h
    · cases h
    rename_i h3; rw [if_neg h3]
    split at h
    · rename_i h4; rw [if_pos h4]
      match t, h with
      | [], _ =>
        cases m with
        | nil => rfl
        | cons x y => rw [List.nil_append, escx, h10]
      | [a], _ => rw [List.cons_append, List.nil_append, escx, h10]; split <;> simp_all
      | a :: b :: t', h => exact h
    · rename_i h4; rw [if_neg h4]
theorem tx_bad {l : List UInt8} {off : Nat} {acc : List UInt8} {a e : Nat} (h : tx off acc l = .bad a e) (m : List UInt8) : tx off acc (l ++ 10 :: m) = .bad a e := by
  induction off, acc, l using tx.induct generalizing a e with
  | case1 off acc => rw [tx] at h; cases h; rw [List.nil_append, tx, if_pos (by decide)]
  | case2 off acc b t' hb => rw [tx, if_pos hb] at h; cases h; rw [List.cons_append, tx, if_pos hb]
  | case3 off acc b t' hb h34 => rw [tx, if_neg hb, if_pos h34] at h; cases h
  | case4 off acc b t' hb h34 h92 he => rw [tx, if_neg hb, if_neg h34, if_pos h92, he] at h; cases h; rw [List.cons_append, tx, if_neg hb, if_neg h34, if_pos h92, esc_none he]
  | case5 off acc b t' hb h34 h92 c n he ih =>
    rw [tx, if_neg hb, if_neg h34, if_pos h92, he] at h
    have hn := (esc_le he).2
    have := @esc_loc t' [] (10 :: m) c n (by rw [List.append_nil]; exact he) hn
    rw [List.cons_append, tx, if_neg hb, if_neg h34, if_pos h92, this]
    simp only
    rw [List.drop_append_of_le_length hn]
    exact ih h
  | case6 off acc b t' hb h34 h92 ih =>
    rw [tx, if_neg hb, if_neg h34, if_neg h92] at h
    rw [List.cons_append, tx, if_neg hb, if_neg h34, if_neg h92]; exact ih h
theorem tx_badcut {l : List UInt8} {off : Nat} {acc : List UInt8} {a e : Nat} (h : tx off acc l = .bad a e) : (e = 81 ∧ a = 0) ∨ (e = 82 ∧ off ≤ a ∧ a < off + l.length ∧ tx off acc (l.take (a - off)) = .bad 0 81) := by
  induction off, acc, l using tx.induct generalizing a e with
  | case1 off acc => rw [tx] at h; cases h; exact .inl ⟨rfl, rfl⟩
  | case2 off acc b t' hb => rw [tx, if_pos hb] at h; cases h; exact .inl ⟨rfl, rfl⟩
  | case3 off acc b t' hb h34 => rw [tx, if_neg hb, if_pos h34] at h; cases h
  | case4 off acc b t' hb h34 h92 he =>
    rw [tx, if_neg hb, if_neg h34, if_pos h92, he] at h; cases h
    exact .inr ⟨rfl, Nat.le_refl _, by simp, by rw [Nat.sub_self, List.take_zero, tx]⟩
  | case5 off acc b t' hb h34 h92 c n he ih =>
    rw [tx, if_neg hb, if_neg h34, if_pos h92, he] at h
    have hn := (esc_le he).2
    rcases ih h with h1 | ⟨h1, h2, h3, h4⟩
    · exact .inl h1
    · rw [List.length_drop] at h3
      refine .inr ⟨h1, by omega, by simp only [List.length_cons]; omega, ?_⟩
      obtain ⟨d, hd⟩ : ∃ d, d = a - (off + n + 1) := ⟨_, rfl⟩
      rw [← hd] at h4
      rw [show a - off = (n + d) + 1 by omega, List.take_succ_cons, tx, if_neg hb, if_neg h34, if_pos h92]
      have e1 : t'.take (n + d) = t'.take n ++ (t'.drop n).take d := by rw [List.take_add]
      have := @esc_loc (t'.take n) (t'.drop n) ((t'.drop n).take d) c n (by rw [List.take_append_drop]; exact he) (by rw [List.length_take]; omega)
      rw [e1, this]
      simp only
      rw [List.drop_append_of_le_length (by rw [List.length_take]; omega), List.drop_eq_nil_of_le (by rw [List.length_take]; omega), List.nil_append]
      exact h4
  | case6 off acc b t' hb h34 h92 ih =>
    rw [tx, if_neg hb, if_neg h34, if_neg h92] at h
    rcases ih h with h1 | ⟨h1, h2, h3, h4⟩
    · exact .inl h1
    · refine .inr ⟨h1, by omega, by simp only [List.length_cons]; omega, ?_⟩
      rw [show a - off = (a - (off + 1)) + 1 by omega, List.take_succ_cons, tx, if_neg hb, if_neg h34, if_neg h92]
      exact h4
theorem tok_bad {l : List UInt8} {a e : Nat} (hne : l ≠ []) (h : tok l = .bad a e) (m : List UInt8) : tok (l ++ 10 :: m) = .bad a e ∧ ((a = 0 ∧ (e = 80 ∨ e = 81 ∨ e = 111)) ∨ (e = 82 ∧ 1 ≤ a ∧ a < l.length ∧ tok (l.take a) = .bad 0 81)) := by
  have w10 : headN isW (10 :: m) := headN_cons (by decide)
  have d10 : headN isD (10 :: m) := headN_cons (by decide)
  have ext : ∀ p : UInt8 → Bool, headN p (10 :: m) → lead p (l ++ 10 :: m) = lead p l := by
    intro p hp
    have h1 := lead_take p l
    have := (lead_iff p (l.take (lead p l)) (l.drop (lead p l) ++ 10 :: m)).2 ⟨h1.1, headN_app h1.2 hp⟩
    rw [← List.append_assoc, List.take_append_drop, List.length_take] at this
    rw [this]; have := lead_le p l; omega
  have e1 := ext isW w10
  have e2 := ext isD d10
  have l2 := lead_le isD l
  cases l with
  | nil => exact absurd rfl hne
  | cons b t =>
    rw [List.cons_append] at e1 e2 ⊢
    rw [tok] at h
    rw [tok]
    split at h
    · rename_i h1; rw [if_pos h1]
      split at h
      · rename_i h2; rw [e1, if_pos h2]; cases h; exact ⟨rfl, .inl ⟨rfl, by simp⟩⟩
      · cases h
    rename_i h1; rw [if_neg h1]
    split at h
    · rename_i h2; rw [if_pos h2]
      split at h
      · rename_i hx; cases h
        rw [e2, ← List.cons_append, List.take_append_of_le_length l2, hx]; exact ⟨rfl, .inl ⟨rfl, by simp⟩⟩
      · cases h
    rename_i h2; rw [if_neg h2]
    split at h
    · rename_i h3; rw [if_pos h3]
      refine ⟨tx_bad h m, ?_⟩
      rcases tx_badcut h with ⟨h4, h5⟩ | ⟨h4, h5, h6, h7⟩
      · exact .inl ⟨h5, by omega⟩
      · refine .inr ⟨h4, h5, by simp only [List.length_cons]; omega, ?_⟩
        rw [show a = (a - 1) + 1 by omega, List.take_succ_cons, tok, if_neg h1, if_neg h2, if_pos h3]; exact h7
    rename_i h3; rw [if_neg h3]
    split at h
    · cases h
    · rename_i h4; rw [if_neg h4]; cases h; exact ⟨rfl, .inl ⟨rfl, by simp⟩⟩
theorem sk_head {l m : List UInt8} (h : sk false l = 0) (hne : l ≠ []) : sk false (l ++ m) = 0 := by
  cases l with
  | nil => exact absurd rfl hne
  | cons b t =>
    rw [sk] at h
    rw [List.cons_append, sk]
    split at h
    · omega
    rename_i h1; rw [if_neg h1]
    split at h
    · omega
    rename_i h2; rw [if_neg h2]
theorem lx_faults (m : List UInt8) : ∀ (d : Nat) (off : Nat) (s : List UInt8) (a e : Nat), s.length ≤ d → lx off s = .bad a e →
    lx off (s ++ 10 :: m) = .bad a e ∧ off ≤ a ∧ a < off + s.length ∧ (e = 80 ∨ e = 81 ∨ e = 82 ∨ e = 111) ∧ (e = 82 → ∃ j, lx off (s.take (a - off)) = .bad j 81 ∧ j < a) ∧ (e ≠ 82 → ∃ ts, lx off (s.take (a - off)) = .toks ts) := by
  have w10 : headN isW (10 :: m) := headN_cons (by decide)
  intro d
  induction d with
  | zero =>
    intro off s a e hd h
    obtain rfl : s = [] := List.length_eq_zero_iff.1 (by omega)
    rw [lx_end rfl] at h; cases h
  | succ d ih =>
    intro off s a e hd h
    rcases lx_cut off s with ⟨q, hq, e1⟩ | ⟨g, w, r, t0, rfl, hg, ht0, hw, e1⟩ | ⟨g, m0, a0, e0, rfl, hg, hm, hne, ht0, h2⟩
    · rw [e1] at h; cases h
    · have hl2 := tok_len ht0
      have hst := tok_stop ht0 hw
      rw [e1] at h
      have h1 := push_bad h
      simp only [List.length_append] at hd
      obtain ⟨i1, i2, i3, i4, i5, i6⟩ := ih _ r a e (by omega) h1
      have hst2 : stop t0.kind (r.take (a - (off + g.length + w.length))) := by
        have k1 : ∀ p : UInt8 → Bool, headN p r → headN p (r.take (a - (off + g.length + w.length))) := fun p hp => by
          have := headN_take (c := a - (off + g.length + w.length)) (m := []) hp (fun _ => headN_nil p) (fun _ => headN_nil p)
          rwa [List.append_nil] at this
        exact ⟨fun e => k1 _ (hst.1 e), fun e => k1 _ (hst.2 e)⟩
      have tk : (g ++ (w ++ r)).take (a - off) = g ++ (w ++ r.take (a - (off + g.length + w.length))) := by
        rw [show a - off = (g ++ w).length + (a - (off + g.length + w.length)) by rw [List.length_append]; omega, ← List.append_assoc, List.take_length_add_append, List.append_assoc]
      refine ⟨?_, by omega, by simp only [List.length_append]; omega, i4, ?_, ?_⟩
      · rw [List.append_assoc, List.append_assoc, lx_mk hg (tok_loc ht0 hw (stop_app hst w10)) hw, i1]; rfl
      · intro e82
        obtain ⟨j, hj, hj2⟩ := i5 e82
        exact ⟨j, by rw [tk, lx_mk hg (tok_loc ht0 hw hst2) hw, hj]; rfl, hj2⟩
      · intro e82
        obtain ⟨ts, hts⟩ := i6 e82
        exact ⟨_, by rw [tk, lx_mk hg (tok_loc ht0 hw hst2) hw, hts]; rfl⟩
    · rw [h2] at h
      injection h with ha he
      subst he
      have hb := tok_bad hne ht0 m
      have hpos : 0 < m0.length := by
        cases m0 with
        | nil => exact absurd rfl hne
        | cons x y => simp
      have tk : ∀ n, (g ++ m0).take (g.length + n) = g ++ m0.take n := fun n => List.take_length_add_append n
      have ha0 : a - off = g.length + a0 := by omega
      refine ⟨?_, by omega, ?_, ?_, ?_, ?_⟩
      · rw [List.append_assoc, lx_mkbad hg (sk_head hm hne) (by simp) hb.1, ha]
      · simp only [List.length_append]; rcases hb.2 with hb | hb <;> omega
      · rcases hb.2 with hb | hb <;> omega
      · intro e82
        rcases hb.2 with hb | ⟨_, k1, k2, k3⟩
        · omega
        · have hne2 : m0.take a0 ≠ [] := by
            intro hh; have := congrArg List.length hh; rw [List.length_take, List.length_nil] at this; omega
          have hsk : sk false (m0.take a0) = 0 := by
            cases m0 with
            | nil => exact absurd rfl hne
            | cons x y =>
              rw [show a0 = (a0 - 1) + 1 by omega, List.take_succ_cons]
              rw [sk] at hm ⊢
              split at hm
              · omega
              rename_i h1; rw [if_neg h1]
              split at hm
              · omega
              rename_i h2; rw [if_neg h2]
          exact ⟨off + g.length + 0, by rw [ha0, tk, lx_mkbad hg hsk hne2 k3], by omega⟩
      · intro e82
        rcases hb.2 with ⟨k1, _⟩ | hb
        · rw [ha0, k1, tk, List.take_zero, List.append_nil]
          exact ⟨_, lx_end (gs_all hg)⟩
        · omega
end Go.Proofs.Ytbdcndkafaajpaa.L
end
section
set_option linter.unusedVariables false
set_option linter.unusedSimpArgs false
namespace Go.Proofs.Ytbdcndkafaajpaa.L
open Go.Proofs.Ytbdcndkafaajpaa
def LR.pre (ts : List Tok) : LR → LR
  | .toks l => .toks (ts ++ l)
  | .bad a e => .bad a e
theorem pre_nil (r : LR) : LR.pre [] r = r := by cases r <;> rfl
theorem pre_push (t : Tok) (ts : List Tok) (r : LR) : (LR.pre ts r).push t = LR.pre (t :: ts) r := by cases r <;> rfl
theorem lx_gap {g l : List UInt8} (hg : gs false g = some false) (off : Nat) : lx off (g ++ l) = lx (off + g.length) l := by
  rcases lx_cut (off + g.length) l with ⟨q, h, e⟩ | ⟨g', w, r, t, rfl, hg', ht, hw, e⟩ | ⟨g', m, a, e, rfl, hg', hm, hne, ht, h⟩
  · rw [e, lx_end (gs_all (by rw [gs_app hg]; exact h)), List.length_append, Nat.add_assoc]
  · rw [e, ← List.append_assoc, lx_mk (by rw [gs_app hg]; exact hg') ht hw, List.length_append]; simp only [Nat.add_assoc]
  · rw [h, ← List.append_assoc, lx_mkbad (by rw [gs_app hg]; exact hg') hm hne ht, List.length_append]; simp only [Nat.add_assoc]
theorem gs_nl (q : Bool) : gs q [10] = some false := by cases q <;> rfl
theorem lx_join (m : List UInt8) : ∀ (d off : Nat) (s : List UInt8) (ts : List Tok), s.length ≤ d → lx off s = .toks ts →
    ∃ i, ts = i ++ [⟨0, [], 0, off + s.length, off + s.length⟩] ∧ (∀ t ∈ i, t.kind ≠ 0) ∧ lx off (s ++ 10 :: m) = LR.pre i (lx (off + s.length + 1) m) := by
  have w10 : headN isW (10 :: m) := headN_cons (by decide)
  have fin : ∀ (off : Nat) (s : List UInt8) (q : Bool), gs false s = some q → lx off (s ++ 10 :: m) = LR.pre [] (lx (off + s.length + 1) m) := by
    intro off s q hq
    rw [pre_nil, show s ++ 10 :: m = (s ++ [10]) ++ m by simp, lx_gap (by rw [gs_app hq]; exact gs_nl q), List.length_append]
    rfl
  intro d
  induction d with
  | zero =>
    intro off s ts hd h
    obtain rfl : s = [] := List.length_eq_zero_iff.1 (by omega)
    rw [lx_end rfl] at h; cases h
    exact ⟨[], rfl, fun t ht => (by cases ht), fin off [] false rfl⟩
  | succ d ih =>
    intro off s ts hd h
    rcases lx_cut off s with ⟨q, hq, e⟩ | ⟨g, w, r, t, rfl, hg, ht, hw, e⟩ | ⟨g, m', a, e, rfl, hg, hm, hne, ht, h2⟩
    · rw [e] at h; cases h
      exact ⟨[], rfl, fun t ht => (by cases ht), fin off s q hq⟩
    · have hl2 := tok_len ht
      rw [e] at h
      obtain ⟨l', h1, rfl⟩ := push_toks h
      obtain ⟨i, rfl, hk, hx⟩ := ih _ r l' (by simp only [List.length_append] at hd; omega) h1
      refine ⟨t.at_ (off + g.length) :: i, ?_, fun u hu => ?_, ?_⟩
      · simp only [List.cons_append, List.length_append, Nat.add_assoc]
      · rcases List.mem_cons.1 hu with rfl | hu
        · have := tok_kind ht
          show t.kind ≠ 0
          omega
        · exact hk u hu
      · rw [List.append_assoc, List.append_assoc, lx_mk hg (tok_loc ht hw (stop_app (tok_stop ht hw) w10)) hw, hx, pre_push]
        simp only [List.length_append, Nat.add_assoc]
    · rw [h2] at h; cases h
end Go.Proofs.Ytbdcndkafaajpaa.L
end
section
set_option linter.unusedVariables false
set_option linter.unusedSimpArgs false
namespace Go.Proofs.Ytbdcndkafaajpaa.A
open Go.RowKit Go.Proofs.Ytbdcndkafaajpaa.X Go.Proofs.YtbdcndkafaajpaaW.PrintWords Go.Proofs.YtbdcndkafaajpaaW.PrintLast Go.Proofs.YtbdcndkafaajpaaW.PrintMore
abbrev Tk := S47
abbrev kt : Kd Tk := k47
abbrev tokV (t : Tk) : Value := .agg #[.int .i64 t.f0, .string t.f1, .int .u64 t.f2, .int .i64 t.f3, .int .i64 t.f4]
structure Q3 where
  at_ : Nat
  fl : Int
  pl : Int
def tk (L : List Tk) (i : Nat) : Tk := rd_T47 L (i : Int)
def pv (A : Option Addr) (n c : Nat) (q : Q3) (v4 v5 v6 : Value) : Array Value := #[.slice A n c, .int .i64 (q.at_ : Int), .int .i64 q.fl, .int .i64 q.pl, v4, v5, v6]
structure IsP (w : World) (A : Option Addr) (c : Nat) (L : List Tk) (g : Nat) (q : Q3) (v4 v5 v6 : Value) : Prop where
  blk : w.heap[g]? = some (.cells (pv A L.length c q v4 v5 v6) 68 (0, 0))
  row : Kd.F kt w (fun k => k < g) A L.length L
  lt : q.at_ < L.length
  cap : L.length ≤ c
section
variable {w w' : World} {A : Option Addr} {c : Nat} {L : List Tk} {g : Nat} {q : Q3} {v4 v5 v6 : Value}
theorem IsP.below (h : IsP w A c L g q v4 v5 v6) (hb : Below w.heap.size w w') : IsP w' A c L g q v4 v5 v6 := ⟨blk_below h.blk hb, Kd.F_below h.row hb, h.lt, h.cap⟩
theorem IsP.c0 (h : IsP w A c L g q v4 v5 v6) : w.cell? ⟨g, 0, none⟩ = some (.slice A L.length c) := (blk_cell h.blk 0).trans rfl
theorem IsP.c1 (h : IsP w A c L g q v4 v5 v6) : w.cell? ⟨g, 1, none⟩ = some (.int .i64 (q.at_ : Int)) := (blk_cell h.blk 1).trans rfl
theorem IsP.c2 (h : IsP w A c L g q v4 v5 v6) : w.cell? ⟨g, 2, none⟩ = some (.int .i64 q.fl) := (blk_cell h.blk 2).trans rfl
theorem IsP.c3 (h : IsP w A c L g q v4 v5 v6) : w.cell? ⟨g, 3, none⟩ = some (.int .i64 q.pl) := (blk_cell h.blk 3).trans rfl
theorem IsP.c4 (h : IsP w A c L g q v4 v5 v6) : w.cell? ⟨g, 4, none⟩ = some v4 := (blk_cell h.blk 4).trans rfl
theorem IsP.c5 (h : IsP w A c L g q v4 v5 v6) : w.cell? ⟨g, 5, none⟩ = some v5 := (blk_cell h.blk 5).trans rfl
theorem IsP.c6 (h : IsP w A c L g q v4 v5 v6) : w.cell? ⟨g, 6, none⟩ = some v6 := (blk_cell h.blk 6).trans rfl
theorem IsP.fz (h : IsP w A c L g q v4 v5 v6) (i : Nat) : w.frozen? ⟨g, i, none⟩ = false := blk_frozen h.blk i
theorem IsP.glt (h : IsP w A c L g q v4 v5 v6) : g < w.heap.size := blk_lt h.blk
theorem IsP.mx (h : IsP w A c L g q v4 v5 v6) : L.length ≤ 9223372036854775807 := Kd.F_max h.row
end
theorem results_c {P : Program} {fn : Func} {p : Tmp} {ty : TypeId} (h : fn.results = #[.cell p ty]) (tmps : Array Value) (w : World) (g : Nat) (t : TypeId) (cs : Array Value) (fr : Nat × Nat) (d : TypeDesc)
    (hp : tmps.getD p undef = .pointer (some ⟨g, 0, none⟩)) (hg : w.heap[g]? = some (.cells cs t fr))
    (hu : P.underlying ty = some d) (hd : (match d with | .struct _ | .array _ _ => true | _ => false) = true) (hi : (P.info? ty).map (·.size) = some cs.size) :
    (results fn tmps).run P w = .ok (.agg cs) w := by
  have hp' : tmps[p]?.getD undef = .pointer (some ⟨g, 0, none⟩) := by simpa using hp
  simp [results, h, hp', asAddr, run_loadVar_row w g t ty cs fr d hg hu hd hi]
theorem set5 {W : World} {b : Nat} {a0 a1 a2 a3 a4 v0 v1 v2 v3 v4 : Value} {t : TypeId} (h : W.heap[b]? = some (.cells #[a0, a1, a2, a3, a4] t (0, 0))) :
    (((((W.setCell ⟨b, 0, none⟩ v0).setCell ⟨b, 1, none⟩ v1).setCell ⟨b, 2, none⟩ v2).setCell ⟨b, 3, none⟩ v3).setCell ⟨b, 4, none⟩ v4).heap[b]? = some (.cells #[v0, v1, v2, v3, v4] t (0, 0)) :=
  blk_put (blk_put (blk_put (blk_put (blk_put h 0 v0 rfl) 1 v1 rfl) 2 v2 rfl) 3 v3 rfl) 4 v4 rfl
theorem below5 {w W : World} {n b : Nat} {v0 v1 v2 v3 v4 : Value} (h : Below n w W) (hb : n ≤ b) :
    Below n w (((((W.setCell ⟨b, 0, none⟩ v0).setCell ⟨b, 1, none⟩ v1).setCell ⟨b, 2, none⟩ v2).setCell ⟨b, 3, none⟩ v3).setCell ⟨b, 4, none⟩ v4) :=
  ((((h.setCell (p := ⟨b, 0, none⟩) hb _).setCell (p := ⟨b, 1, none⟩) hb _).setCell (p := ⟨b, 2, none⟩) hb _).setCell (p := ⟨b, 3, none⟩) hb _).setCell (p := ⟨b, 4, none⟩) hb _
set_option maxHeartbeats 2000000 in
set_option maxRecDepth 100000 in
theorem now_calls (w : World) (A : Option Addr) (c : Nat) (L : List Tk) (g : Nat) (q : Q3) (v4 v5 v6 : Value) (h : IsP w A c L g q v4 v5 v6) :
    Calls Try.prog 32 #[.pointer (some ⟨g, 0, none⟩)] w fun e w' => e = .returned (tokV (tk L q.at_)) ∧ Below w.heap.size w w' := by
  have hlt := h.lt
  have hc := h.cap
  obtain ⟨W, hW⟩ : ∃ W, W = w.alloc (.cells #[.int .i64 0, .string ⟨#[]⟩, .int .u64 0, .int .i64 0, .int .i64 0] 47) := ⟨_, rfl⟩
  have hBW : Below w.heap.size w W := by rw [hW]; exact below_alloc (Below.refl _ _) _
  have h2 := h.below hBW
  obtain ⟨b, hb⟩ : ∃ b, b = w.heap.size := ⟨_, rfl⟩
  have hbn : W.heap[b]? = some (.cells #[.int .i64 0, .string ⟨#[]⟩, .int .u64 0, .int .i64 0, .int .i64 0] 47 (0, 0)) := by rw [hW, hb]; exact blk_new _ _
  obtain ⟨ad, hA, x0, x1, x2, x3, x4⟩ := at_T47 (Kd.F_now h2.row) (q.at_ : Int) (by omega) (by omega)
  subst hA
  have y0 := h2.c0
  have y1 := h2.c1
  have z0 : W.cell? ⟨b, 0, none⟩ = some (.int .i64 0) := (blk_cell hbn 0).trans rfl
  have z1 : W.cell? ⟨b, 1, none⟩ = some (.string ⟨#[]⟩) := (blk_cell hbn 1).trans rfl
  have z2 : W.cell? ⟨b, 2, none⟩ = some (.int .u64 0) := (blk_cell hbn 2).trans rfl
  have z3 : W.cell? ⟨b, 3, none⟩ = some (.int .i64 0) := (blk_cell hbn 3).trans rfl
  have z4 : W.cell? ⟨b, 4, none⟩ = some (.int .i64 0) := (blk_cell hbn 4).trans rfl
  have f0 := blk_frozen hbn 0
  have f1 := blk_frozen hbn 1
  have f2 := blk_frozen hbn 2
  have f3 := blk_frozen hbn 3
  have f4 := blk_frozen hbn 4
  have hq : (q.at_ : Int) < (L.length : Int) := by omega
  rw [Int.toNat_natCast] at x0 x1 x2 x3 x4
  obtain ⟨t, ht⟩ : ∃ t, t = tk L q.at_ := ⟨_, rfl⟩
  have ht' : rd_T47 L (q.at_ : Int) = t := ht.symm
  rw [ht'] at x0 x1 x2 x3 x4
  rw [← ht]
  have HMX := Aside0.mk h.mx
  have HBW := Aside0.mk hBW
  have HBN := Aside0.mk hbn
  have HB := Aside0.mk hb
  have HW := Aside0.mk hW
  clear ht ht' h h2 hBW hbn
  go_enter Try.func32, Try.ntmps32
  go_wp2
  rw [← HW.out, ← HB.out]
  clear hW hb
  go_still_tail 10, (by kernel_rfl)
  go_wp2
  exact bodyPost_ret (results_c rfl _ _ b 47 #[.int .i64 t.f0, .string t.f1, .int .u64 t.f2, .int .i64 t.f3, .int .i64 t.f4] (0, 0) _ rfl (blk_drew (set5 HBN.out)) Try.underlying47 rfl (by kernel_rfl)) rfl ⟨rfl, below_drew1 (below5 HBW.out (by rw [HB.out]; exact Nat.le_refl _))⟩
def failQ (e p : Int) (q : Q3) : Q3 := if q.fl = 0 then ⟨q.at_, e, p⟩ else q
def isQ (L : List Tk) (q : Q3) (k : Int) (s : ByteArray) : Bool := (q.fl == 0) && (((tk L q.at_).f0 == k) && ((tk L q.at_).f1.toList == s.toList))
def takeQ (L : List Tk) (ok : Bool) (q : Q3) : Q3 := if q.fl = 0 then (if ok then (if (tk L q.at_).f0 = 0 then q else ⟨q.at_ + 1, q.fl, q.pl⟩) else failQ 90 (tk L q.at_).f3 q) else q
def Good (L : List Tk) : Prop := ∀ i, i < L.length → (tk L i).f0 ≠ 0 → i + 1 < L.length
theorem grown_set (W : World) (g i : Nat) (v : Value) : W.grownBy (W.setCell ⟨g, i, none⟩ v) (some g) := Go.Lib.grownBy_setCell W g i v
section
variable {w w' : World} {A : Option Addr} {c : Nat} {L : List Tk} {g : Nat} {q : Q3} {v4 v5 v6 : Value}
theorem grown_below (h : Below w.heap.size w w') (row : Option Nat) : w.grownBy w' row := ⟨h.os, h.tape, h.output, h.size, fun k hk _ => h.block k hk⟩
theorem IsP.far (h : IsP w A c L g q v4 v5 v6) {a b : Nat} (hb : g < b) (v : Value) : IsP (w.setCell ⟨b, a, none⟩ v) A c L g q v4 v5 v6 :=
  ⟨blk_far h.blk (p := ⟨b, a, none⟩) (by show g ≠ b; omega) v, Kd.F_far h.row (p := ⟨b, a, none⟩) (fun k hk => by show k ≠ b; omega) v, h.lt, h.cap⟩
theorem IsP.set (h : IsP w A c L g q v4 v5 v6) (i : Nat) (v : Value) {q' : Q3} {u4 u5 u6 : Value} (he : (pv A L.length c q v4 v5 v6).setIfInBounds i v = pv A L.length c q' u4 u5 u6) (hl : q'.at_ < L.length) : IsP (w.setCell ⟨g, i, none⟩ v) A c L g q' u4 u5 u6 :=
  ⟨blk_put h.blk i v he, Kd.F_far h.row (p := ⟨g, i, none⟩) (fun k hk => by show k ≠ g; omega) v, hl, h.cap⟩
end
set_option maxHeartbeats 2000000 in
set_option maxRecDepth 100000 in
theorem fail_calls (w : World) (A : Option Addr) (c : Nat) (L : List Tk) (g : Nat) (q : Q3) (v4 v5 v6 : Value) (e p : Int) (h : IsP w A c L g q v4 v5 v6) :
    Calls Try.prog 50 #[.pointer (some ⟨g, 0, none⟩), .int .i64 e, .int .i64 p] w fun r w' => r = .returned (.tuple #[]) ∧ IsP w' A c L g (failQ e p q) v4 v5 v6 ∧ w.grownBy w' (some g) := by
  have y2 := h.c2
  have y3 := h.c3
  have f2 := h.fz 2
  have f3 := h.fz 3
  have HP := Aside0.mk h
  by_cases hf : q.fl = 0
  · have HE : Aside0 (failQ e p q = ⟨q.at_, e, p⟩) := ⟨by unfold failQ; rw [if_pos hf]⟩
    have c1 : (q.fl == 0) = true := beq_iff_eq.2 hf
    clear h hf
    go_enter Try.func50, Try.ntmps50
    go_wp2
    go_end0
    rw [HE.out]
    exact ⟨rfl, (HP.out.set 2 _ (q' := ⟨q.at_, e, q.pl⟩) rfl HP.out.lt).set 3 _ rfl HP.out.lt, (grown_set _ _ _ _).trans (grown_set _ _ _ _)⟩
  · have HE : Aside0 (failQ e p q = q) := ⟨by unfold failQ; rw [if_neg hf]⟩
    have c1 : (q.fl == 0) = false := beq_eq_false_iff_ne.2 hf
    clear h hf
    go_enter Try.func50, Try.ntmps50
    go_wp2
    go_end0
    rw [HE.out]
    exact ⟨rfl, HP.out, grown_below (Below.refl _ _) _⟩
set_option maxHeartbeats 2000000 in
set_option maxRecDepth 100000 in
theorem is_calls (w : World) (A : Option Addr) (c : Nat) (L : List Tk) (g : Nat) (q : Q3) (v4 v5 v6 : Value) (k : Int) (s : ByteArray) (h : IsP w A c L g q v4 v5 v6) :
    Calls Try.prog 39 #[.pointer (some ⟨g, 0, none⟩), .int .i64 k, .string s] w fun e w' => e = .returned (.bool (isQ L q k s)) ∧ Below w.heap.size w w' := by
  have HN := Aside0.mk (now_calls w A c L g q v4 v5 v6 h)
  have HP := Aside0.mk h
  obtain ⟨t, ht⟩ : ∃ t, t = tk L q.at_ := ⟨_, rfl⟩
  unfold isQ
  rw [← ht] at HN ⊢
  obtain ⟨b1, h1⟩ : ∃ b1, b1 = (q.fl == 0) := ⟨_, rfl⟩
  obtain ⟨b2, h2⟩ : ∃ b2, b2 = (t.f0 == k) := ⟨_, rfl⟩
  obtain ⟨b3, h3⟩ : ∃ b3, b3 = (t.f1.toList == s.toList) := ⟨_, rfl⟩
  have H1 := Aside0.mk h1
  have H2 := Aside0.mk h2
  have H3 := Aside0.mk h3
  rw [← h1, ← h2, ← h3]
  clear h ht h1 h2 h3
  cases b1 <;> cases b2 <;> cases b3
  all_goals
    have c1 := H1.out.symm
    have c2 := H2.out.symm
    have c3 := H3.out.symm
    go_enter Try.func39, Try.ntmps39
    go_wp2_with (go_at_call 32; go_must ((with_reducible refine HN.out.mono ?_); rintro e w1 ⟨rfl, hb⟩; have HB := Aside0.mk hb; have y2 := (HP.out.below (below_alloc hb (.cells #[.int .i64 t.f0, .string t.f1, .int .u64 t.f2, .int .i64 t.f3, .int .i64 t.f4] 47))).c2; clear hb))
    go_ret
    exact ⟨rfl, below_alloc HB.out _⟩
end Go.Proofs.Ytbdcndkafaajpaa.A
end
section
set_option linter.unusedVariables false
set_option linter.unusedSimpArgs false
namespace Go.Proofs.Ytbdcndkafaajpaa.A
open Go.RowKit Go.Proofs.Ytbdcndkafaajpaa.X Go.Proofs.YtbdcndkafaajpaaW.PrintWords Go.Proofs.YtbdcndkafaajpaaW.PrintLast Go.Proofs.YtbdcndkafaajpaaW.PrintMore
theorem IsP.grown {w w' : World} {A : Option Addr} {c : Nat} {L : List Tk} {g : Nat} {q : Q3} {v4 v5 v6 : Value} (h : IsP w A c L g q v4 v5 v6) {b : Nat} (hg : w.grownBy w' (some b)) (hb : g < b) : IsP w' A c L g q v4 v5 v6 :=
  ⟨blk_grown h.blk hg (fun e => by injection e with e; omega), Kd.F_grown h.row hg (fun k hk e => by injection e with e; omega), h.lt, h.cap⟩
def Post (w w' : World) (A : Option Addr) (c : Nat) (L : List Tk) (g : Nat) (q : Q3) (v4 v5 v6 : Value) : Prop := IsP w' A c L g q v4 v5 v6 ∧ w.grownBy w' (some g)
theorem tokBox {W : World} {b : Nat} {t : Tk} (h : W.heap[b]? = some (.cells #[.int .i64 t.f0, .string t.f1, .int .u64 t.f2, .int .i64 t.f3, .int .i64 t.f4] 47 (0, 0))) :
    W.cell? ⟨b, 0, none⟩ = some (.int .i64 t.f0) ∧ W.cell? ⟨b, 1, none⟩ = some (.string t.f1) ∧ W.cell? ⟨b, 2, none⟩ = some (.int .u64 t.f2) ∧ W.cell? ⟨b, 3, none⟩ = some (.int .i64 t.f3) ∧ W.cell? ⟨b, 4, none⟩ = some (.int .i64 t.f4) :=
  ⟨(blk_cell h 0).trans rfl, (blk_cell h 1).trans rfl, (blk_cell h 2).trans rfl, (blk_cell h 3).trans rfl, (blk_cell h 4).trans rfl⟩
theorem zeroBox {W : World} {b : Nat} (h : W.heap[b]? = some (.cells #[.int .i64 0, .string ⟨#[]⟩, .int .u64 0, .int .i64 0, .int .i64 0] 47 (0, 0))) :
    W.cell? ⟨b, 0, none⟩ = some (.int .i64 0) ∧ W.cell? ⟨b, 1, none⟩ = some (.string ⟨#[]⟩) ∧ W.cell? ⟨b, 2, none⟩ = some (.int .u64 0) ∧ W.cell? ⟨b, 3, none⟩ = some (.int .i64 0) ∧ W.cell? ⟨b, 4, none⟩ = some (.int .i64 0) :=
  ⟨(blk_cell h 0).trans rfl, (blk_cell h 1).trans rfl, (blk_cell h 2).trans rfl, (blk_cell h 3).trans rfl, (blk_cell h 4).trans rfl⟩
theorem grown_far {w W : World} {g b : Nat} {row : Option Nat} (h : w.grownBy W row) (hb : w.heap.size ≤ b) (i : Nat) (v : Value) : w.grownBy (W.setCell ⟨b, i, none⟩ v) row :=
  ⟨h.os, h.tape, h.output, Nat.le_trans h.size (grown_set W b i v).size, fun k hk hr => (Below.heap_setCell W ⟨b, i, none⟩ v k (by show k ≠ b; omega)).trans (h.block k hk hr)⟩
theorem Post.box {w W : World} {A : Option Addr} {c : Nat} {L : List Tk} {g : Nat} {q : Q3} {v4 v5 v6 : Value} {b : Nat} {u0 u1 u2 u3 u4 : Value} (h : Post w W A c L g q v4 v5 v6) (hb : g < b) (hw : w.heap.size ≤ b) :
    Post w (((((W.setCell ⟨b, 0, none⟩ u0).setCell ⟨b, 1, none⟩ u1).setCell ⟨b, 2, none⟩ u2).setCell ⟨b, 3, none⟩ u3).setCell ⟨b, 4, none⟩ u4) A c L g q v4 v5 v6 :=
  ⟨((((h.1.far hb _).far hb _).far hb _).far hb _).far hb _, grown_far (g := g) (grown_far (g := g) (grown_far (g := g) (grown_far (g := g) (grown_far (g := g) h.2 hw 0 u0) hw 1 u1) hw 2 u2) hw 3 u3) hw 4 u4⟩
set_option maxHeartbeats 4000000 in
set_option maxRecDepth 100000 in
theorem take_calls (w : World) (A : Option Addr) (c : Nat) (L : List Tk) (g : Nat) (q : Q3) (v4 v5 v6 : Value) (ok : Bool) (h : IsP w A c L g q v4 v5 v6) (hG : Good L) :
    Calls Try.prog 31 #[.pointer (some ⟨g, 0, none⟩), .bool ok] w fun e w' => e = .returned (tokV (tk L q.at_)) ∧ Post w w' A c L g (takeQ L ok q) v4 v5 v6 := by
  obtain ⟨t, ht⟩ : ∃ t, t = tk L q.at_ := ⟨_, rfl⟩
  have HG := Aside0.mk (hG q.at_ h.lt)
  rw [← ht] at HG
  have HT : Aside0 (takeQ L ok q = if q.fl = 0 then (if ok then (if t.f0 = 0 then q else ⟨q.at_ + 1, q.fl, q.pl⟩) else failQ 90 t.f3 q) else q) := ⟨by rw [ht]; rfl⟩
  rw [HT.out, ← ht]
  obtain ⟨W0, hW0⟩ : ∃ W0, W0 = w.alloc (.cells #[.int .i64 0, .string ⟨#[]⟩, .int .u64 0, .int .i64 0, .int .i64 0] 47) := ⟨_, rfl⟩
  have HB0 : Aside0 (Below w.heap.size w W0) := ⟨by rw [hW0]; exact below_alloc (Below.refl _ _) _⟩
  have HP0 := Aside0.mk (h.below HB0.out)
  obtain ⟨b, hb⟩ : ∃ b, b = w.heap.size := ⟨_, rfl⟩
  have HBN : Aside0 (W0.heap[b]? = some (.cells #[.int .i64 0, .string ⟨#[]⟩, .int .u64 0, .int .i64 0, .int .i64 0] 47 (0, 0))) := ⟨by rw [hW0, hb]; exact blk_new _ _⟩
  have HGB : Aside0 (g < b) := ⟨by rw [hb]; exact h.glt⟩
  have HN := Aside0.mk (now_calls W0 A c L g q v4 v5 v6 HP0.out)
  rw [← ht] at HN
  have HMX := Aside0.mk h.mx
  have HLT := Aside0.mk h.lt
  have HW0 := Aside0.mk hW0
  have HBB := Aside0.mk hb
  clear h ht hG HT
  -- behind the token's box: what is known
  have HK : Aside0 (∀ w1, Below W0.heap.size W0 w1 → ∃ W1, W1 = w1.alloc (.cells #[.int .i64 t.f0, .string t.f1, .int .u64 t.f2, .int .i64 t.f3, .int .i64 t.f4] 47) ∧ IsP W1 A c L g q v4 v5 v6 ∧ Below W0.heap.size W0 W1 ∧ W1.heap[b]? = some (.cells #[.int .i64 0, .string ⟨#[]⟩, .int .u64 0, .int .i64 0, .int .i64 0] 47 (0, 0)) ∧ W1.heap[w1.heap.size]? = some (.cells #[.int .i64 t.f0, .string t.f1, .int .u64 t.f2, .int .i64 t.f3, .int .i64 t.f4] 47 (0, 0)) ∧ b < w1.heap.size) := ⟨fun w1 hb1 => ⟨_, rfl, (HP0.out.below hb1).below (below_alloc (Below.refl _ _) _), below_alloc hb1 _, blk_alloc (blk_below HBN.out hb1) _, blk_new _ _, by have := blk_lt (blk_below HBN.out hb1); exact this⟩⟩
  by_cases hf : q.fl = 0
  · have c1 : (q.fl == 0) = true := beq_iff_eq.2 hf
    have c1' : (q.fl != 0) = false := by rw [bne, c1]; rfl
    rw [if_pos hf]
    cases ok with
    | false =>
      have HF : Aside0 (∀ W, IsP W A c L g q v4 v5 v6 → Calls Try.prog 50 #[.pointer (some ⟨g, 0, none⟩), .int .i64 90, .int .i64 t.f3] W fun r w' => r = .returned (.tuple #[]) ∧ IsP w' A c L g (failQ 90 t.f3 q) v4 v5 v6 ∧ W.grownBy w' (some g)) := ⟨fun W hW => fail_calls W A c L g q v4 v5 v6 90 t.f3 hW⟩
      clear hf c1
      go_enter Try.func31, Try.ntmps31
      go_wp2_with fail
      rw [← HW0.out, ← HBB.out]
      refine HN.out.mono ?_
      rintro e w1 ⟨rfl, hb1⟩
      obtain ⟨W1, hW1, hp1, hbe1, hbb, hbt, hlt⟩ := HK.out w1 hb1
      have y2 := hp1.c2
      obtain ⟨t0, t1, t2, t3, t4⟩ := tokBox hbt
      rw [hW1] at y2 t0 t1 t2 t3 t4
      have HW1 := Aside0.mk hW1
      have HP1 := Aside0.mk hp1
      have HBE := Aside0.mk hbe1
      have HBX := Aside0.mk hbb
      have HBT := Aside0.mk hbt
      have HLB := Aside0.mk hlt
      clear hb1 hW1 hp1 hbe1 hbb hbt hlt hb hW0
      go_wp2_with fail
      rw [← HW1.out]
      refine (HF.out W1 HP1.out).mono ?_
      rintro e w2 ⟨rfl, hp2, hg2⟩
      have hbt2 := blk_grown HBT.out hg2 (fun e => by injection e with e; have h1 := HLB.out; have h2 := HGB.out; omega)
      have hbb2 := blk_grown HBX.out hg2 (fun e => by injection e with e; have h2 := HGB.out; omega)
      obtain ⟨s0, s1, s2, s3, s4⟩ := tokBox hbt2
      obtain ⟨z0, z1, z2, z3, z4⟩ := zeroBox hbb2
      have f0 := blk_frozen hbb2 0
      have f1 := blk_frozen hbb2 1
      have f2 := blk_frozen hbb2 2
      have f3 := blk_frozen hbb2 3
      have f4 := blk_frozen hbb2 4
      have HP2 := Aside0.mk hp2
      have HG2 := Aside0.mk hg2
      have HX2 := Aside0.mk hbb2
      clear hp2 hg2 hbt2 hbb2 t0 t1 t2 t3 t4 y2
      go_wp2
      refine bodyPost_ret (results_c rfl _ _ b 47 #[.int .i64 t.f0, .string t.f1, .int .u64 t.f2, .int .i64 t.f3, .int .i64 t.f4] (0, 0) _ rfl (set5 HX2.out) Try.underlying47 rfl (by kernel_rfl)) rfl ⟨rfl, ?_⟩
      exact Post.box ⟨HP2.out, (grown_below HB0.out _).trans ((grown_below HBE.out _).trans HG2.out)⟩ HGB.out (by rw [HBB.out]; exact Nat.le_refl _)
    | true =>
      by_cases h0 : t.f0 = 0
      · have c2 : (t.f0 != 0) = false := by rw [bne, beq_iff_eq.2 h0]; rfl
        rw [if_pos rfl, if_pos h0]
        clear hf c1 h0
        go_enter Try.func31, Try.ntmps31
        go_wp2_with fail
        rw [← HW0.out, ← HBB.out]
        refine HN.out.mono ?_
        rintro e w1 ⟨rfl, hb1⟩
        obtain ⟨W1, hW1, hp1, hbe1, hbb, hbt, hlt⟩ := HK.out w1 hb1
        have y2 := hp1.c2
        obtain ⟨t0, t1, t2, t3, t4⟩ := tokBox hbt
        obtain ⟨z0, z1, z2, z3, z4⟩ := zeroBox hbb
        have f0 := blk_frozen hbb 0
        have f1 := blk_frozen hbb 1
        have f2 := blk_frozen hbb 2
        have f3 := blk_frozen hbb 3
        have f4 := blk_frozen hbb 4
        rw [hW1] at y2 t0 t1 t2 t3 t4 z0 z1 z2 z3 z4 f0 f1 f2 f3 f4
        have HW1 := Aside0.mk hW1
        have HP1 := Aside0.mk hp1
        have HBE := Aside0.mk hbe1
        have HBX := Aside0.mk hbb
        clear hb1 hW1 hp1 hbe1 hbb hbt hlt hb hW0
        go_wp2
        rw [← HW1.out]
        refine bodyPost_ret (results_c rfl _ _ b 47 #[.int .i64 t.f0, .string t.f1, .int .u64 t.f2, .int .i64 t.f3, .int .i64 t.f4] (0, 0) _ rfl (set5 HBX.out) Try.underlying47 rfl (by kernel_rfl)) rfl ⟨rfl, ?_⟩
        exact Post.box ⟨HP1.out, grown_below (below_step HB0.out HBE.out) _⟩ HGB.out (by rw [HBB.out]; exact Nat.le_refl _)
      · have c2 : (t.f0 != 0) = true := bne_iff_ne.2 h0
        have HL1 : Aside0 (q.at_ + 1 < L.length) := ⟨HG.out h0⟩
        have HW9 : Aside0 (wrap64 ((q.at_ : Int) + 1) = ((q.at_ + 1 : Nat) : Int)) := ⟨by have := HMX.out; have := HL1.out; unfold wrap64; omega⟩
        rw [if_pos rfl, if_neg h0]
        clear hf c1 h0
        go_enter Try.func31, Try.ntmps31
        go_wp2_with fail
        rw [← HW0.out, ← HBB.out]
        refine HN.out.mono ?_
        rintro e w1 ⟨rfl, hb1⟩
        obtain ⟨W1, hW1, hp1, hbe1, hbb, hbt, hlt⟩ := HK.out w1 hb1
        have y1 := hp1.c1
        have y2 := hp1.c2
        have fg := hp1.fz 1
        obtain ⟨t0, t1, t2, t3, t4⟩ := tokBox hbt
        obtain ⟨z0, z1, z2, z3, z4⟩ := zeroBox hbb
        have f0 := blk_frozen hbb 0
        have f1 := blk_frozen hbb 1
        have f2 := blk_frozen hbb 2
        have f3 := blk_frozen hbb 3
        have f4 := blk_frozen hbb 4
        have ne1 : b ≠ g := by have := HGB.out; omega
        have ne2 : g ≠ b := by have := HGB.out; omega
        have ne3 : w1.heap.size ≠ g := by have := HGB.out; omega
        have ne4 : g ≠ w1.heap.size := by have := HGB.out; omega
        rw [hW1] at y1 y2 fg t0 t1 t2 t3 t4 z0 z1 z2 z3 z4 f0 f1 f2 f3 f4
        have HW1 := Aside0.mk hW1
        have HP1 := Aside0.mk hp1
        have HBE := Aside0.mk hbe1
        have HBX := Aside0.mk hbb
        clear hb1 hW1 hp1 hbe1 hbb hbt hlt hb hW0
        go_wp2
        rw [← HW1.out, HW9.out]
        refine bodyPost_ret (results_c rfl _ _ b 47 #[.int .i64 t.f0, .string t.f1, .int .u64 t.f2, .int .i64 t.f3, .int .i64 t.f4] (0, 0) _ rfl (set5 (blk_setN (fun e => by have := HGB.out; omega) HBX.out _)) Try.underlying47 rfl (by kernel_rfl)) rfl ⟨rfl, ?_⟩
        exact Post.box ⟨HP1.out.set 1 _ rfl HL1.out, (grown_below (below_step HB0.out HBE.out) _).trans (grown_set _ _ _ _)⟩ HGB.out (by rw [HBB.out]; exact Nat.le_refl _)
  · have c1 : (q.fl == 0) = false := beq_eq_false_iff_ne.2 hf
    have c1' : (q.fl != 0) = true := bne_iff_ne.2 hf
    rw [if_neg hf]
    clear hf c1
    go_enter Try.func31, Try.ntmps31
    go_wp2_with fail
    rw [← HW0.out, ← HBB.out]
    refine HN.out.mono ?_
    rintro e w1 ⟨rfl, hb1⟩
    obtain ⟨W1, hW1, hp1, hbe1, hbb, hbt, hlt⟩ := HK.out w1 hb1
    have y2 := hp1.c2
    obtain ⟨t0, t1, t2, t3, t4⟩ := tokBox hbt
    obtain ⟨z0, z1, z2, z3, z4⟩ := zeroBox hbb
    have f0 := blk_frozen hbb 0
    have f1 := blk_frozen hbb 1
    have f2 := blk_frozen hbb 2
    have f3 := blk_frozen hbb 3
    have f4 := blk_frozen hbb 4
    rw [hW1] at y2 t0 t1 t2 t3 t4 z0 z1 z2 z3 z4 f0 f1 f2 f3 f4
    have HW1 := Aside0.mk hW1
    have HP1 := Aside0.mk hp1
    have HBE := Aside0.mk hbe1
    have HBX := Aside0.mk hbb
    clear hb1 hW1 hp1 hbe1 hbb hbt hlt hb hW0
    go_wp2
    rw [← HW1.out]
    refine bodyPost_ret (results_c rfl _ _ b 47 #[.int .i64 t.f0, .string t.f1, .int .u64 t.f2, .int .i64 t.f3, .int .i64 t.f4] (0, 0) _ rfl (set5 HBX.out) Try.underlying47 rfl (by kernel_rfl)) rfl ⟨rfl, ?_⟩
    exact Post.box ⟨HP1.out, grown_below (below_step HB0.out HBE.out) _⟩ HGB.out (by rw [HBB.out]; exact Nat.le_refl _)
end Go.Proofs.Ytbdcndkafaajpaa.A
end
section
set_option linter.unusedVariables false
set_option linter.unusedSimpArgs false
namespace Go.Proofs.Ytbdcndkafaajpaa.A
open Go.RowKit Go.Proofs.Ytbdcndkafaajpaa.X Go.Proofs.YtbdcndkafaajpaaW.PrintWords Go.Proofs.YtbdcndkafaajpaaW.PrintLast Go.Proofs.YtbdcndkafaajpaaW.PrintMore
theorem Post.p {w w2 : World} {A : Option Addr} {c : Nat} {L : List Tk} {g : Nat} {q : Q3} {v4 v5 v6 : Value} (h : Post w w2 A c L g q v4 v5 v6) : IsP w2 A c L g q v4 v5 v6 := h.1
theorem Post.g {w w2 : World} {A : Option Addr} {c : Nat} {L : List Tk} {g : Nat} {q : Q3} {v4 v5 v6 : Value} (h : Post w w2 A c L g q v4 v5 v6) : w.grownBy w2 (some g) := h.2
theorem Post.of_below {w w1 w2 : World} {A : Option Addr} {c : Nat} {L : List Tk} {g : Nat} {q : Q3} {v4 v5 v6 : Value} (hb : Below w.heap.size w w1) (h : Post w1 w2 A c L g q v4 v5 v6) : Post w w2 A c L g q v4 v5 v6 := ⟨h.1, (grown_below hb _).trans h.2⟩
theorem Post.trans {w w1 w2 : World} {A : Option Addr} {c : Nat} {L : List Tk} {g : Nat} {q q' : Q3} {v4 v5 v6 u4 u5 u6 : Value} (h1 : Post w w1 A c L g q v4 v5 v6) (h : Post w1 w2 A c L g q' u4 u5 u6) : Post w w2 A c L g q' u4 u5 u6 := ⟨h.1, h1.2.trans h.2⟩
theorem Post.below {w w1 w2 : World} {A : Option Addr} {c : Nat} {L : List Tk} {g : Nat} {q : Q3} {v4 v5 v6 : Value} (h : Post w w1 A c L g q v4 v5 v6) (hb : Below w1.heap.size w1 w2) : Post w w2 A c L g q v4 v5 v6 := ⟨h.1.below hb, h.2.trans (grown_below hb _)⟩
theorem Post.refl {w : World} {A : Option Addr} {c : Nat} {L : List Tk} {g : Nat} {q : Q3} {v4 v5 v6 : Value} (h : IsP w A c L g q v4 v5 v6) : Post w w A c L g q v4 v5 v6 := ⟨h, grown_below (Below.refl _ _) _⟩
section
variable (w : World) (A : Option Addr) (c : Nat) (L : List Tk) (g : Nat) (q : Q3) (v4 v5 v6 : Value)
structure Front (W0 : World) (b : Nat) : Prop where
  eq : W0 = w.alloc (.cells #[.int .i64 0, .string ⟨#[]⟩, .int .u64 0, .int .i64 0, .int .i64 0] 47)
  nb : b = w.heap.size
  be : Below w.heap.size w W0
  pp : IsP W0 A c L g q v4 v5 v6
  bx : W0.heap[b]? = some (.cells #[.int .i64 0, .string ⟨#[]⟩, .int .u64 0, .int .i64 0, .int .i64 0] 47 (0, 0))
  gb : g < b
theorem front (h : IsP w A c L g q v4 v5 v6) : ∃ W0 b, Front w A c L g q v4 v5 v6 W0 b :=
  ⟨_, _, rfl, rfl, below_alloc (Below.refl _ _) _, h.below (below_alloc (Below.refl _ _) _), blk_new _ _, h.glt⟩
end
set_option maxHeartbeats 4000000 in
set_option maxRecDepth 100000 in
theorem word_calls (w : World) (A : Option Addr) (c : Nat) (L : List Tk) (g : Nat) (q : Q3) (v4 v5 v6 : Value) (s : ByteArray) (h : IsP w A c L g q v4 v5 v6) (hG : Good L) :
    Calls Try.prog 59 #[.pointer (some ⟨g, 0, none⟩), .string s] w fun e w' => e = .returned (tokV (tk L q.at_)) ∧ Post w w' A c L g (takeQ L (isQ L q 1 s) q) v4 v5 v6 := by
  obtain ⟨W0, b, HF⟩ := front w A c L g q v4 v5 v6 h
  have HIS := Aside0.mk (is_calls W0 A c L g q v4 v5 v6 1 s HF.pp)
  have HTK : Aside0 (∀ W, IsP W A c L g q v4 v5 v6 → Calls Try.prog 31 #[.pointer (some ⟨g, 0, none⟩), .bool (isQ L q 1 s)] W fun e w' => e = .returned (tokV (tk L q.at_)) ∧ Post W w' A c L g (takeQ L (isQ L q 1 s) q) v4 v5 v6) := ⟨fun W hW => take_calls W A c L g q v4 v5 v6 _ hW hG⟩
  obtain ⟨q', hq'⟩ : ∃ q', q' = takeQ L (isQ L q 1 s) q := ⟨_, rfl⟩
  obtain ⟨bb, hbb⟩ : ∃ bb, bb = isQ L q 1 s := ⟨_, rfl⟩
  rw [← hq'] at HTK ⊢
  rw [← hbb] at HTK HIS
  obtain ⟨t, ht⟩ : ∃ t, t = tk L q.at_ := ⟨_, rfl⟩
  rw [← ht] at HTK ⊢
  clear h hq' hbb ht
  have HF := Aside0.mk HF
  go_enter Try.func59, Try.ntmps59
  go_wp2_with fail
  rw [← HF.out.eq, ← HF.out.nb]
  refine HIS.out.mono ?_
  rintro e w1 ⟨rfl, hb1⟩
  have HB1 := Aside0.mk hb1
  clear hb1
  go_wp2_with fail
  refine (HTK.out w1 (HF.out.pp.below HB1.out)).mono ?_
  rintro e w2 ⟨rfl, hp2⟩
  have hbb2 := blk_grown (blk_below HF.out.bx HB1.out) hp2.2 (fun e => by injection e with e; have := HF.out.gb; omega)
  obtain ⟨z0, z1, z2, z3, z4⟩ := zeroBox hbb2
  have f0 := blk_frozen hbb2 0
  have f1 := blk_frozen hbb2 1
  have f2 := blk_frozen hbb2 2
  have f3 := blk_frozen hbb2 3
  have f4 := blk_frozen hbb2 4
  have HX2 := Aside0.mk hbb2
  have HP2 := Aside0.mk hp2
  clear hbb2 hp2
  go_wp2
  refine bodyPost_ret (results_c rfl _ _ b 47 #[.int .i64 t.f0, .string t.f1, .int .u64 t.f2, .int .i64 t.f3, .int .i64 t.f4] (0, 0) _ rfl (set5 HX2.out) Try.underlying47 rfl (by kernel_rfl)) rfl ⟨rfl, ?_⟩
  exact Post.box (Post.of_below HF.out.be (Post.of_below HB1.out HP2.out)) HF.out.gb (by rw [HF.out.nb]; exact Nat.le_refl _)
set_option maxHeartbeats 4000000 in
set_option maxRecDepth 100000 in
theorem mark_calls (w : World) (A : Option Addr) (c : Nat) (L : List Tk) (g : Nat) (q : Q3) (v4 v5 v6 : Value) (s : ByteArray) (h : IsP w A c L g q v4 v5 v6) (hG : Good L) :
    Calls Try.prog 61 #[.pointer (some ⟨g, 0, none⟩), .string s] w fun e w' => e = .returned (tokV (tk L q.at_)) ∧ Post w w' A c L g (takeQ L (isQ L q 4 s) q) v4 v5 v6 := by
  obtain ⟨W0, b, HF⟩ := front w A c L g q v4 v5 v6 h
  have HIS := Aside0.mk (is_calls W0 A c L g q v4 v5 v6 4 s HF.pp)
  have HTK : Aside0 (∀ W, IsP W A c L g q v4 v5 v6 → Calls Try.prog 31 #[.pointer (some ⟨g, 0, none⟩), .bool (isQ L q 4 s)] W fun e w' => e = .returned (tokV (tk L q.at_)) ∧ Post W w' A c L g (takeQ L (isQ L q 4 s) q) v4 v5 v6) := ⟨fun W hW => take_calls W A c L g q v4 v5 v6 _ hW hG⟩
  obtain ⟨q', hq'⟩ : ∃ q', q' = takeQ L (isQ L q 4 s) q := ⟨_, rfl⟩
  obtain ⟨bb, hbb⟩ : ∃ bb, bb = isQ L q 4 s := ⟨_, rfl⟩
  rw [← hq'] at HTK ⊢
  rw [← hbb] at HTK HIS
  obtain ⟨t, ht⟩ : ∃ t, t = tk L q.at_ := ⟨_, rfl⟩
  rw [← ht] at HTK ⊢
  clear h hq' hbb ht
  have HF := Aside0.mk HF
  go_enter Try.func61, Try.ntmps61
  go_wp2_with fail
  rw [← HF.out.eq, ← HF.out.nb]
  refine HIS.out.mono ?_
  rintro e w1 ⟨rfl, hb1⟩
  have HB1 := Aside0.mk hb1
  clear hb1
  go_wp2_with fail
  refine (HTK.out w1 (HF.out.pp.below HB1.out)).mono ?_
  rintro e w2 ⟨rfl, hp2⟩
  have hbb2 := blk_grown (blk_below HF.out.bx HB1.out) hp2.2 (fun e => by injection e with e; have := HF.out.gb; omega)
  obtain ⟨z0, z1, z2, z3, z4⟩ := zeroBox hbb2
  have f0 := blk_frozen hbb2 0
  have f1 := blk_frozen hbb2 1
  have f2 := blk_frozen hbb2 2
  have f3 := blk_frozen hbb2 3
  have f4 := blk_frozen hbb2 4
  have HX2 := Aside0.mk hbb2
  have HP2 := Aside0.mk hp2
  clear hbb2 hp2
  go_wp2
  refine bodyPost_ret (results_c rfl _ _ b 47 #[.int .i64 t.f0, .string t.f1, .int .u64 t.f2, .int .i64 t.f3, .int .i64 t.f4] (0, 0) _ rfl (set5 HX2.out) Try.underlying47 rfl (by kernel_rfl)) rfl ⟨rfl, ?_⟩
  exact Post.box (Post.of_below HF.out.be (Post.of_below HB1.out HP2.out)) HF.out.gb (by rw [HF.out.nb]; exact Nat.le_refl _)
theorem fld (t : Tk) : (∀ w, (Instr.field 47 (.agg #[.int .i64 t.f0, .string t.f1, .int .u64 t.f2, .int .i64 t.f3, .int .i64 t.f4]) 0).run Try.prog w = .ok (.int .i64 t.f0) w) ∧ (∀ w, (Instr.field 47 (.agg #[.int .i64 t.f0, .string t.f1, .int .u64 t.f2, .int .i64 t.f3, .int .i64 t.f4]) 1).run Try.prog w = .ok (.string t.f1) w) ∧ (∀ w, (Instr.field 47 (.agg #[.int .i64 t.f0, .string t.f1, .int .u64 t.f2, .int .i64 t.f3, .int .i64 t.f4]) 2).run Try.prog w = .ok (.int .u64 t.f2) w) ∧ (∀ w, (Instr.field 47 (.agg #[.int .i64 t.f0, .string t.f1, .int .u64 t.f2, .int .i64 t.f3, .int .i64 t.f4]) 3).run Try.prog w = .ok (.int .i64 t.f3) w) :=
  ⟨fun _ => by kernel_rfl, fun _ => by kernel_rfl, fun _ => by kernel_rfl, fun _ => by kernel_rfl⟩
def textQ (L : List Tk) (q : Q3) : Q3 := takeQ L ((tk L q.at_).f0 == 3) q
set_option maxHeartbeats 4000000 in
set_option maxRecDepth 100000 in
theorem text_calls (w : World) (A : Option Addr) (c : Nat) (L : List Tk) (g : Nat) (q : Q3) (v4 v5 v6 : Value) (h : IsP w A c L g q v4 v5 v6) (hG : Good L) :
    Calls Try.prog 91 #[.pointer (some ⟨g, 0, none⟩)] w fun e w' => e = .returned (.string (tk L q.at_).f1) ∧ Post w w' A c L g (textQ L q) v4 v5 v6 := by
  have HN := Aside0.mk (now_calls w A c L g q v4 v5 v6 h)
  have HP := Aside0.mk h
  have HTK : Aside0 (∀ W, IsP W A c L g q v4 v5 v6 → Calls Try.prog 31 #[.pointer (some ⟨g, 0, none⟩), .bool ((tk L q.at_).f0 == 3)] W fun e w' => e = .returned (tokV (tk L q.at_)) ∧ Post W w' A c L g (textQ L q) v4 v5 v6) := ⟨fun W hW => take_calls W A c L g q v4 v5 v6 _ hW hG⟩
  obtain ⟨t, ht⟩ : ∃ t, t = tk L q.at_ := ⟨_, rfl⟩
  obtain ⟨fd0, fd1, fd2, fd3⟩ := fld t
  rw [← ht] at HTK HN ⊢
  obtain ⟨q', hq'⟩ : ∃ q', q' = textQ L q := ⟨_, rfl⟩
  rw [← hq'] at HTK ⊢
  clear h hq' ht
  go_enter Try.func91, Try.ntmps91
  go_wp2_with fail
  refine HN.out.mono ?_
  rintro e w1 ⟨rfl, hb1⟩
  unfold tokV
  have HB1 := Aside0.mk hb1
  clear hb1
  go_wp2_with fail
  refine (HTK.out w1 (HP.out.below HB1.out)).mono ?_
  rintro e w2 ⟨rfl, hp2⟩
  unfold tokV
  have HP2 := Aside0.mk hp2
  clear hp2
  go_wp2
  go_ret
  exact ⟨rfl, Post.of_below HB1.out HP2.out⟩
def wordList : List ByteArray := [⟨#[101, 118, 101, 110, 116]⟩, ⟨#[118, 101, 114, 115, 105, 111, 110]⟩, ⟨#[97, 100, 100]⟩, ⟨#[114, 101, 110, 97, 109, 101]⟩, ⟨#[115, 112, 108, 105, 116]⟩, ⟨#[106, 111, 105, 110]⟩, ⟨#[114, 101, 116, 121, 112, 101]⟩, ⟨#[100, 114, 111, 112]⟩, ⟨#[116, 111]⟩, ⟨#[97, 116]⟩, ⟨#[105, 110, 116, 111]⟩, ⟨#[119, 105, 116, 104]⟩, ⟨#[116, 114, 117, 101]⟩, ⟨#[102, 97, 108, 115, 101]⟩, ⟨#[99, 97, 116]⟩, ⟨#[114, 101, 112]⟩, ⟨#[108, 101, 110]⟩, ⟨#[104, 101, 120]⟩]
theorem words_calls (w : World) : Calls Try.prog 82 #[] w fun e w' => ∃ B, e = .returned (.slice (some ⟨B, 0, none⟩) 18 18) ∧ w'.heap[B]? = some (.cells (wordList.map Value.string).toArray 9 (0, 0)) ∧ Below w.heap.size w w' ∧ w.heap.size ≤ B := by
  go_enter Try.func82, Try.ntmps82
  go_wp2
  go_ret
  exact ⟨_, rfl, blk_new _ _, below_alloc (Below.refl _ _) _, Nat.le_refl _⟩
theorem words_cells {w : World} {B : Nat} (h : w.heap[B]? = some (.cells (wordList.map Value.string).toArray 9 (0, 0))) : ∀ j, j < wordList.length → w.cell? ⟨B, 0 + j, none⟩ = some (.string (wordList.getD j ByteArray.empty)) := fun j hj => by
  rw [Nat.zero_add, blk_cell h j]
  simp [List.getD_eq_getElem?_getD, hj]
def nameB (L : List Tk) (q : Q3) : Bool := ((tk L q.at_).f0 == 1) && !(Lib.containsS (wordList.take 18) (tk L q.at_).f1)
def nameQ (L : List Tk) (q : Q3) : Q3 := takeQ L (nameB L q) q
set_option maxHeartbeats 4000000 in
set_option maxRecDepth 100000 in
theorem name_calls (w : World) (A : Option Addr) (c : Nat) (L : List Tk) (g : Nat) (q : Q3) (v4 v5 v6 : Value) (h : IsP w A c L g q v4 v5 v6) (hG : Good L) :
    Calls Try.prog 60 #[.pointer (some ⟨g, 0, none⟩)] w fun e w' => e = .returned (.string (tk L q.at_).f1) ∧ Post w w' A c L g (nameQ L q) v4 v5 v6 := by
  have HN := Aside0.mk (now_calls w A c L g q v4 v5 v6 h)
  have HP := Aside0.mk h
  have HTK : Aside0 (∀ W, IsP W A c L g q v4 v5 v6 → Calls Try.prog 31 #[.pointer (some ⟨g, 0, none⟩), .bool (nameB L q)] W fun e w' => e = .returned (tokV (tk L q.at_)) ∧ Post W w' A c L g (nameQ L q) v4 v5 v6) := ⟨fun W hW => take_calls W A c L g q v4 v5 v6 _ hW hG⟩
  obtain ⟨t, ht⟩ : ∃ t, t = tk L q.at_ := ⟨_, rfl⟩
  obtain ⟨fd0, fd1, fd2, fd3⟩ := fld t
  obtain ⟨nb, hnb⟩ : ∃ nb, nb = nameB L q := ⟨_, rfl⟩
  have hnb' := hnb
  unfold nameB at hnb'
  rw [← ht] at HTK HN hnb' ⊢
  rw [← hnb] at HTK
  obtain ⟨q', hq'⟩ : ∃ q', q' = nameQ L q := ⟨_, rfl⟩
  rw [← hq'] at HTK ⊢
  obtain ⟨bc, hbc⟩ : ∃ bc, bc = Lib.containsS (wordList.take 18) t.f1 := ⟨_, rfl⟩
  rw [← hbc] at hnb'
  have HCT : Aside0 (∀ (W : World) (B : Nat), W.heap[B]? = some (.cells (wordList.map Value.string).toArray 9 (0, 0)) → Calls Try.prog 81 #[.slice (some ⟨B, 0, none⟩) 18 18, .string t.f1] W fun e w' => e = .returned (.bool bc) ∧ w' = W) := ⟨fun W B hW => by rw [hbc]; exact Try.slices_Contains_string _ 0 18 18 wordList t.f1 _ (by decide) (by decide) (words_cells hW)⟩
  have HWD := Aside0.mk words_calls
  clear h hq' ht hnb hbc
  obtain ⟨b1, hb1⟩ : ∃ b1, b1 = (t.f0 == 1) := ⟨_, rfl⟩
  rw [← hb1] at hnb'
  have H1 := Aside0.mk hb1
  clear hb1
  cases b1 with
  | false =>
    have c1 := H1.out.symm
    rw [Bool.false_and] at hnb'
    subst hnb'
    go_enter Try.func60, Try.ntmps60
    go_wp2_with fail
    refine HN.out.mono ?_
    rintro e w1 ⟨rfl, hb1⟩
    unfold tokV
    have hbx := blk_new w1 (.cells #[.int .i64 t.f0, .string t.f1, .int .u64 t.f2, .int .i64 t.f3, .int .i64 t.f4] 47)
    have hp1 := (HP.out.below hb1).below (below_alloc (Below.refl _ _) (.cells #[.int .i64 t.f0, .string t.f1, .int .u64 t.f2, .int .i64 t.f3, .int .i64 t.f4] 47))
    have hgr := grown_below (below_alloc hb1 (.cells #[.int .i64 t.f0, .string t.f1, .int .u64 t.f2, .int .i64 t.f3, .int .i64 t.f4] 47)) (some g)
    have hne : g < w1.heap.size := (HP.out.below hb1).glt
    go_wp2_with fail
    obtain ⟨W1, hW1⟩ : ∃ W1, W1 = w1.alloc (.cells #[.int .i64 t.f0, .string t.f1, .int .u64 t.f2, .int .i64 t.f3, .int .i64 t.f4] 47) := ⟨_, rfl⟩
    obtain ⟨b, hb⟩ : ∃ b, b = w1.heap.size := ⟨_, rfl⟩
    rw [← hW1, ← hb]
    rw [← hW1] at hbx hp1 hgr
    rw [← hb] at hbx hne
    have HNE := Aside0.mk hne
    have hhX : W1.drew.heap[b]? = some (.cells #[.int .i64 t.f0, .string t.f1, .int .u64 t.f2, .int .i64 t.f3, .int .i64 t.f4] 47 (0, 0)) := hbx
    have hhP : Post w W1.drew A c L g q v4 v5 v6 := ⟨hp1.below (below_drew1 (Below.refl _ _)), hgr.trans (grown_below (below_drew1 (Below.refl _ _)) _)⟩
    have hz0 := (tokBox hhX).1
    have hz1 := (tokBox hhX).2.1
    have HXX := Aside0.mk hhX
    have HPP := Aside0.mk hhP
    clear hb1 hW1 hb hbx hp1 hgr hne hhX hhP
    go_still_tail 11, (by kernel_rfl)
    go_wp2_with fail
    refine (HTK.out W1.drew HPP.out.1).mono ?_
    rintro e w4 ⟨rfl, hp⟩
    unfold tokV
    have HQQ := Aside0.mk (Post.trans HPP.out hp)
    clear hp
    go_wp2
    go_ret
    exact ⟨rfl, HQQ.out⟩
  | true =>
    have c1 := H1.out.symm
    rw [Bool.true_and] at hnb'
    subst hnb'
    obtain ⟨a0, a1, a2, a3, a4⟩ := t
    obtain rfl : a0 = 1 := eq_of_beq c1
    clear c1 H1
    dsimp only at *
    go_enter Try.func60, Try.ntmps60
    go_wp2_with fail
    refine HN.out.mono ?_
    rintro e w1 ⟨rfl, hb1⟩
    unfold tokV
    have hbx := blk_new w1 (.cells #[.int .i64 1, .string a1, .int .u64 a2, .int .i64 a3, .int .i64 a4] 47)
    have hp1 := (HP.out.below hb1).below (below_alloc (Below.refl _ _) (.cells #[.int .i64 1, .string a1, .int .u64 a2, .int .i64 a3, .int .i64 a4] 47))
    have hgr := grown_below (below_alloc hb1 (.cells #[.int .i64 1, .string a1, .int .u64 a2, .int .i64 a3, .int .i64 a4] 47)) (some g)
    have hne : g < w1.heap.size := (HP.out.below hb1).glt
    go_wp2_with fail
    obtain ⟨W1, hW1⟩ : ∃ W1, W1 = w1.alloc (.cells #[.int .i64 1, .string a1, .int .u64 a2, .int .i64 a3, .int .i64 a4] 47) := ⟨_, rfl⟩
    obtain ⟨b, hb⟩ : ∃ b, b = w1.heap.size := ⟨_, rfl⟩
    rw [← hW1, ← hb]
    rw [← hW1] at hbx hp1 hgr
    rw [← hb] at hbx hne
    have HNE := Aside0.mk hne
    have hhX : W1.drew.heap[b]? = some (.cells #[.int .i64 1, .string a1, .int .u64 a2, .int .i64 a3, .int .i64 a4] 47 (0, 0)) := hbx
    have hhP : Post w W1.drew A c L g q v4 v5 v6 := ⟨hp1.below (below_drew1 (Below.refl _ _)), hgr.trans (grown_below (below_drew1 (Below.refl _ _)) _)⟩
    have hz0 := (tokBox (t := ⟨1, a1, a2, a3, a4⟩) hhX).1
    have hz1 := (tokBox (t := ⟨1, a1, a2, a3, a4⟩) hhX).2.1
    have HXX := Aside0.mk hhX
    have HPP := Aside0.mk hhP
    clear hb1 hW1 hb hbx hp1 hgr hne hhX hhP
    go_region_held3 (fun w' => w'.cell? ⟨b, 0, none⟩ = some (.int .i64 1) ∧ w'.cell? ⟨b, 1, none⟩ = some (.string a1)) (exact ⟨hz0, hz1⟩) (first
      | (go_at_call 82; go_must ((with_reducible refine (HWD.out _).mono ?_); rintro e w2 ⟨B, rfl, hB, hbw, _⟩; have hhX := blk_below HXX.out hbw; have hz0 := (tokBox (t := ⟨1, a1, a2, a3, a4⟩) hhX).1; have hz1 := (tokBox (t := ⟨1, a1, a2, a3, a4⟩) hhX).2.1; have HXX := Aside0.mk hhX; have HPP := Aside0.mk (HPP.out.below hbw); have HBB := Aside0.mk hB; clear hhX hbw hB))
      | (go_at_call 81; go_must ((with_reducible refine (HCT.out _ _ HBB.out).mono ?_); rintro e w3 ⟨rfl, rfl⟩))
      | (go_at_call 31; go_must ((with_reducible refine (HTK.out _ HPP.out.p).mono ?_); rintro e w4 ⟨rfl, hp⟩; unfold tokV; have hhX := blk_grown HXX.out hp.2 (fun e => by injection e with e; have := HNE.out; omega); have hz0 := (tokBox (t := ⟨1, a1, a2, a3, a4⟩) hhX).1; have hz1 := (tokBox (t := ⟨1, a1, a2, a3, a4⟩) hhX).2.1; have HPP := Aside0.mk (Post.trans HPP.out hp); clear hhX hp)))
    all_goals
      go_wp2
      go_ret
      exact ⟨rfl, HPP.out⟩
end Go.Proofs.Ytbdcndkafaajpaa.A
end
section
set_option linter.unusedVariables false
set_option linter.unusedSimpArgs false
namespace Go.Proofs.Ytbdcndkafaajpaa.A
open Go.RowKit Go.Proofs.Ytbdcndkafaajpaa.X Go.Proofs.YtbdcndkafaajpaaW.PrintWords Go.Proofs.YtbdcndkafaajpaaW.PrintLast Go.Proofs.YtbdcndkafaajpaaW.PrintMore
open Go.Proofs.Ytbdcndkafaajpaa.P (Nd EO Res hd isT isM takeM mxl comb mk1)
def kn : Kd Nd := Kd.iso (Kd.pair (Kd.int .i64) (Kd.pair (Kd.int .i64) (Kd.pair (Kd.int .u64) (Kd.pair Kd.string (Kd.int .i64))))) (fun x : Nd => (x.f0, x.f1, x.f2, x.f3, x.f4))
def nodeCs (x : Nd) : List Value := [.int .i64 x.f0, .int .i64 x.f1, .int .u64 x.f2, .string x.f3, .int .i64 x.f4]
theorem kn_open {w : World} {x : Nd} {cs : List Value} (h : kn.K w x cs) : cs = nodeCs x := by
  obtain ⟨_, _, rfl, rfl, ⟨_, _, rfl, rfl, ⟨_, _, rfl, rfl, ⟨_, _, rfl, rfl, rfl⟩⟩⟩⟩ := h
  exact rfl
theorem kn_mk (w : World) (x : Nd) : kn.K w x (nodeCs x) := ⟨[.int .i64 x.f0], [.int .i64 x.f1, .int .u64 x.f2, .string x.f3, .int .i64 x.f4], rfl, rfl, ⟨[.int .i64 x.f1], [.int .u64 x.f2, .string x.f3, .int .i64 x.f4], rfl, rfl, ⟨[.int .u64 x.f2], [.string x.f3, .int .i64 x.f4], rfl, rfl, ⟨[.string x.f3], [.int .i64 x.f4], rfl, rfl, rfl⟩⟩⟩⟩
theorem kn_mkM (w : World) (base : Nat) (ok : Nat → Prop) (x : Nd) : kn.M w base ok x (nodeCs x) := ⟨[.int .i64 x.f0], [.int .i64 x.f1, .int .u64 x.f2, .string x.f3, .int .i64 x.f4], rfl, rfl, ⟨[.int .i64 x.f1], [.int .u64 x.f2, .string x.f3, .int .i64 x.f4], rfl, rfl, ⟨[.int .u64 x.f2], [.string x.f3, .int .i64 x.f4], rfl, rfl, ⟨[.string x.f3], [.int .i64 x.f4], rfl, rfl, rfl⟩⟩⟩⟩
theorem infoN : (Try.prog.info? 49).map (fun i => (i.zero, i.size, i.bytes)) = some (some (.agg #[.int .i64 0, .int .i64 0, .int .u64 0, .string ⟨#[]⟩, .int .i64 0]), 5, 48) := by kernel_rfl
theorem infoI : (Try.prog.info? 3).map (fun i => (i.zero, i.size, i.bytes)) = some (some (.int .i64 0), 1, 8) := by kernel_rfl
abbrev RN (w : World) (g : Nat) (v : Value) (xs : List Nd) : Prop := Kd.R kn 49 w g (fun _ => True) v xs
abbrev RI (w : World) (g : Nat) (v : Value) (xs : List Int) : Prop := Kd.R (Kd.int .i64) 3 w g (fun _ => True) v xs
structure Hv (w w' : World) (g : Nat) (vn vd vn' vd' : Value) : Prop where
  bl : Below g w w'
  kp : ∀ k, k < w.heap.size → k ≠ g → vn.ownBlock ≠ some k → vd.ownBlock ≠ some k → w'.heap[k]? = w.heap[k]?
  nn : vn'.ownBlock = vn.ownBlock ∨ ∃ b, vn'.ownBlock = some b ∧ w.heap.size ≤ b
  nd : vd'.ownBlock = vd.ownBlock ∨ ∃ b, vd'.ownBlock = some b ∧ w.heap.size ≤ b
theorem Hv.trans {w w1 w2 : World} {g : Nat} {vn vd vn1 vd1 vn2 vd2 : Value} (h : Hv w w1 g vn vd vn1 vd1) (k : Hv w1 w2 g vn1 vd1 vn2 vd2) : Hv w w2 g vn vd vn2 vd2 := by
  have hs := h.bl.size
  refine ⟨h.bl.trans k.bl, fun i hi h1 h2 h3 => ?_, ?_, ?_⟩
  · refine (k.kp i (Nat.lt_of_lt_of_le hi hs) h1 (fun e => ?_) (fun e => ?_)).trans (h.kp i hi h1 h2 h3)
    · rcases h.nn with a | ⟨b, a, hb⟩
      · exact h2 (a ▸ e)
      · rw [a] at e; injection e with e; omega
    · rcases h.nd with a | ⟨b, a, hb⟩
      · exact h3 (a ▸ e)
      · rw [a] at e; injection e with e; omega
  · rcases k.nn with a | ⟨b, a, hb⟩
    · rw [a]; exact h.nn
    · exact .inr ⟨b, a, by omega⟩
  · rcases k.nd with a | ⟨b, a, hb⟩
    · rw [a]; exact h.nd
    · exact .inr ⟨b, a, by omega⟩
theorem below_grown {w w' : World} {g : Nat} (h : w.grownBy w' (some g)) (hg : g ≤ w.heap.size) : Below g w w' := (Below.refl g w).grown h hg (fun k hk => by injection hk with hk; omega)
theorem Hv.of_grown {w w' : World} {g : Nat} {vn vd : Value} (h : w.grownBy w' (some g)) (hg : g ≤ w.heap.size) : Hv w w' g vn vd vn vd :=
  ⟨below_grown h hg, fun k hk h1 _ _ => h.block k hk (fun e => by injection e with e; exact h1 e), .inl rfl, .inl rfl⟩
theorem Hv.blk {w w' : World} {g k : Nat} {vn vd vn' vd' : Value} {o : Obj} (h : Hv w w' g vn vd vn' vd') (hb : w.heap[k]? = some o) (h1 : k ≠ g) (h2 : vn.ownBlock ≠ some k) (h3 : vd.ownBlock ≠ some k) : w'.heap[k]? = some o := (h.kp k (blk_lt hb) h1 h2 h3).trans hb
structure Bd (ts : List Tk) (lev : Nat) (ns : List Nd) (dp : List Int) : Prop where
  sz : ns.length + ts.length ≤ 33554432
  dl : dp.length ≤ ns.length
  d0 : ∀ d ∈ dp, 0 ≤ d ∧ d ≤ 100
  lv : lev ≤ 100
inductive Sg where
  | ok (ts : List Tk) (lev : Nat) (ns : List Nd) (dp : List Int)
  | bad (e pl : Int)
structure IsE (w : World) (A : Option Addr) (c : Nat) (L : List Tk) (g : Nat) (q : Q3) (lev : Int) (vn : Value) (ns : List Nd) (vd : Value) (dp : List Int) : Prop where
  p : IsP w A c L g q (.int .i64 lev) vn vd
  n : RN w g vn ns
  d : RI w g vd dp
def Is (w : World) (A : Option Addr) (c : Nat) (L : List Tk) (g : Nat) (vn vd : Value) : Sg → Prop
  | .ok ts lev ns dp => ∃ q : Q3, q.fl = 0 ∧ L.drop q.at_ = ts ∧ IsE w A c L g q (lev : Int) vn ns vd dp ∧ Bd ts lev ns dp
  | .bad e pl => ∃ (q : Q3) (lev : Int) (ns : List Nd) (dp : List Int), q.fl = e ∧ q.pl = pl ∧ e ≠ 0 ∧ IsE w A c L g q lev vn ns vd dp
section
variable {w w' : World} {A : Option Addr} {c : Nat} {L : List Tk} {g : Nat} {q : Q3} {lev : Int} {vn vd : Value} {ns : List Nd} {dp : List Int}
theorem RN.light (h : RN w g vn ns) (hg : w.grownBy w' (some g)) (hp : ∃ cs, w.heap[g]? = some (.cells cs 68 (0, 0))) : RN w' g vn ns := by
  obtain ⟨cs, hb⟩ := hp
  exact Kd.R_grown2 h rfl hg (fun k hk e => by injection hk with hk; subst hk; exact Kd.R_ne h hb (by decide) e)
theorem RI.light (h : RI w g vd dp) (hg : w.grownBy w' (some g)) (hp : ∃ cs, w.heap[g]? = some (.cells cs 68 (0, 0))) : RI w' g vd dp := by
  obtain ⟨cs, hb⟩ := hp
  exact Kd.R_grown2 h rfl hg (fun k hk e => by injection hk with hk; subst hk; exact Kd.R_ne h hb (by decide) e)
theorem IsE.light (h : IsE w A c L g q lev vn ns vd dp) {q' : Q3} {lev' : Int} (hp : Post w w' A c L g q' (.int .i64 lev') vn vd) : IsE w' A c L g q' lev' vn ns vd dp :=
  ⟨hp.1, RN.light h.n hp.2 ⟨_, h.p.blk⟩, RI.light h.d hp.2 ⟨_, h.p.blk⟩⟩
theorem IsE.below (h : IsE w A c L g q lev vn ns vd dp) (hb : Below w.heap.size w w') : IsE w' A c L g q lev vn ns vd dp := ⟨h.p.below hb, Kd.R_below h.n hb, Kd.R_below h.d hb⟩
end
theorem Is.below {w w' : World} {A : Option Addr} {c : Nat} {L : List Tk} {g : Nat} {vn vd : Value} {s : Sg} (h : Is w A c L g vn vd s) (hb : Below w.heap.size w w') : Is w' A c L g vn vd s := by
  cases s with
  | ok ts lev ns dp => obtain ⟨q, h1, h2, h3, h4⟩ := h; exact ⟨q, h1, h2, h3.below hb, h4⟩
  | bad e pl => obtain ⟨q, lev, ns, dp, h1, h2, h3, h4⟩ := h; exact ⟨q, lev, ns, dp, h1, h2, h3, h4.below hb⟩
theorem hd_drop {L : List Tk} {i : Nat} (h : i < L.length) : hd (L.drop i) = tk L i := by
  unfold hd tk rd_T47
  rw [Int.toNat_natCast, List.drop_eq_getElem_cons h, List.headD_cons, List.getD_eq_getElem?_getD, List.getElem?_eq_getElem h]; rfl
def Sg.step (s : Sg) (f : List Tk → Res Tk) : Sg := match s with
  | .ok ts lev ns dp => match f ts with
    | .ok _ r => .ok r lev ns dp
    | .bad e p => .bad e p
  | .bad e p => .bad e p
def Sg.is (k : Int) (x : ByteArray) : Sg → Bool
  | .ok ts _ _ _ => isT k x ts
  | .bad _ _ => false
section
variable {w w' : World} {A : Option Addr} {c : Nat} {L : List Tk} {g : Nat} {vn vd : Value} {s : Sg}
theorem Is.to {P : Sg → Prop} (h : Is w A c L g vn vd s) (f : ∀ q lev ns dp, IsE w A c L g q lev vn ns vd dp → P s) : P s := by
  cases s with
  | ok ts lev ns dp => obtain ⟨q, _, _, h3, _⟩ := h; exact f q _ ns dp h3
  | bad e pl => obtain ⟨q, lev, ns, dp, _, _, _, h4⟩ := h; exact f q lev ns dp h4
theorem sis_calls (w : World) (A : Option Addr) (c : Nat) (L : List Tk) (g : Nat) (vn vd : Value) (s : Sg) (k : Int) (x : ByteArray) (h : Is w A c L g vn vd s) :
    Calls Try.prog 39 #[.pointer (some ⟨g, 0, none⟩), .int .i64 k, .string x] w fun e w' => e = .returned (.bool (s.is k x)) ∧ Below w.heap.size w w' := by
  cases s with
  | ok ts lev ns dp =>
    obtain ⟨q, h1, h2, h3, h4⟩ := h
    refine (is_calls w A c L g q _ _ _ k x h3.p).mono fun e w' ⟨he, hb⟩ => ⟨?_, hb⟩
    rw [he]; subst h2
    simp only [isQ, Sg.is, isT, hd_drop h3.p.lt, h1, beq_self_eq_true, Bool.true_and]
  | bad e pl =>
    obtain ⟨q, lev, ns, dp, h1, h2, h3, h4⟩ := h
    refine (is_calls w A c L g q _ _ _ k x h4.p).mono fun e' w' ⟨he, hb⟩ => ⟨?_, hb⟩
    rw [he]; unfold isQ Sg.is
    have : (q.fl == 0) = false := beq_eq_false_iff_ne.2 (by rw [h1]; exact h3)
    rw [this]; simp
theorem step_of {q : Q3} {lev : Nat} {ns : List Nd} {dp : List Int} {ok : Bool} (hk : ok = true → (tk L q.at_).f0 ≠ 0) (h1 : q.fl = 0) (h3 : IsE w A c L g q (lev : Int) vn ns vd dp) (h4 : Bd (L.drop q.at_) lev ns dp) (hp : Post w w' A c L g (takeQ L ok q) (.int .i64 (lev : Int)) vn vd) :
    Is w' A c L g vn vd (Sg.step (.ok (L.drop q.at_) lev ns dp) (P.want ok)) := by
  have hl := h3.p.lt
  unfold takeQ at hp
  rw [if_pos h1] at hp
  cases ok with
  | true =>
    have h0 := hk rfl
    rw [if_pos rfl, if_neg h0] at hp
    show Is w' A c L g vn vd (.ok (L.drop q.at_).tail lev ns dp)
    refine ⟨⟨q.at_ + 1, q.fl, q.pl⟩, h1, ?_, h3.light hp, ?_⟩
    · rw [List.tail_drop]
    · rw [List.tail_drop]
      exact ⟨by have := h4.sz; rw [List.length_drop] at *; omega, h4.dl, h4.d0, h4.lv⟩
  | false =>
    rw [if_neg (by decide)] at hp
    unfold failQ at hp
    rw [if_pos h1] at hp
    show Is w' A c L g vn vd (.bad 90 (hd (L.drop q.at_)).f3)
    exact ⟨_, _, ns, dp, rfl, by rw [hd_drop hl], by decide, h3.light hp⟩
theorem bad_of {q : Q3} {lev : Int} {ns : List Nd} {dp : List Int} {ok : Bool} {e pl : Int} (h1 : q.fl = e) (h2 : q.pl = pl) (h0 : e ≠ 0) (h3 : IsE w A c L g q lev vn ns vd dp) (hp : Post w w' A c L g (takeQ L ok q) (.int .i64 lev) vn vd) : Is w' A c L g vn vd (.bad e pl) := by
  have : takeQ L ok q = q := by unfold takeQ; rw [if_neg (by rw [h1]; exact h0)]
  rw [this] at hp
  exact ⟨q, lev, ns, dp, h1, h2, h0, h3.light hp⟩
end
end Go.Proofs.Ytbdcndkafaajpaa.A
end
section
set_option linter.unusedVariables false
set_option linter.unusedSimpArgs false
namespace Go.Proofs.Ytbdcndkafaajpaa.A
open Go.RowKit Go.Proofs.Ytbdcndkafaajpaa.X Go.Proofs.YtbdcndkafaajpaaW.PrintWords Go.Proofs.YtbdcndkafaajpaaW.PrintLast Go.Proofs.YtbdcndkafaajpaaW.PrintMore
open Go.Proofs.Ytbdcndkafaajpaa.P (Nd EO Res hd isT isM takeM mxl comb mk1)
theorem isT_kind {k : Int} {x : ByteArray} {ts : List Tk} (h : isT k x ts = true) : (hd ts).f0 = k := by
  unfold isT at h
  rw [Bool.and_eq_true] at h
  exact eq_of_beq h.1
theorem isQ_ok {L : List Tk} {q : Q3} (h1 : q.fl = 0) (hl : q.at_ < L.length) (k : Int) (x : ByteArray) : isQ L q k x = isT k x (L.drop q.at_) := by
  unfold isQ isT
  rw [hd_drop hl, h1]; rfl
theorem smark_calls (w : World) (A : Option Addr) (c : Nat) (L : List Tk) (g : Nat) (vn vd : Value) (s : Sg) (m : UInt8) (hG : Good L) (h : Is w A c L g vn vd s) :
    Calls Try.prog 61 #[.pointer (some ⟨g, 0, none⟩), .string (mk1 m)] w fun e w' => (∃ t, e = .returned (tokV t)) ∧ Is w' A c L g vn vd (s.step (takeM m)) ∧ w.grownBy w' (some g) := by
  cases s with
  | ok ts lev ns dp =>
    obtain ⟨q, h1, rfl, h3, h4⟩ := h
    refine (mark_calls w A c L g q _ _ _ (mk1 m) h3.p hG).mono fun e w' ⟨he, hp⟩ => ⟨⟨_, he⟩, ?_, hp.2⟩
    rw [isQ_ok h1 h3.p.lt] at hp
    exact step_of (ok := isT 4 (mk1 m) (L.drop q.at_)) (fun hk => by rw [← hd_drop h3.p.lt, isT_kind hk]; decide) h1 h3 h4 hp
  | bad e pl =>
    obtain ⟨q, lev, ns, dp, h1, h2, h3, h4⟩ := h
    refine (mark_calls w A c L g q _ _ _ (mk1 m) h4.p hG).mono fun e' w' ⟨he, hp⟩ => ⟨⟨_, he⟩, ?_, hp.2⟩
    exact bad_of h1 h2 h3 h4 hp
theorem stake_calls (w : World) (A : Option Addr) (c : Nat) (L : List Tk) (g : Nat) (vn vd : Value) (ts : List Tk) (lev : Nat) (ns : List Nd) (dp : List Int) (ok : Bool) (hG : Good L) (hk : ok = true → (hd ts).f0 ≠ 0) (h : Is w A c L g vn vd (.ok ts lev ns dp)) :
    Calls Try.prog 31 #[.pointer (some ⟨g, 0, none⟩), .bool ok] w fun e w' => e = .returned (tokV (hd ts)) ∧ Is w' A c L g vn vd (Sg.step (.ok ts lev ns dp) (P.want ok)) ∧ w.grownBy w' (some g) := by
  obtain ⟨q, h1, rfl, h3, h4⟩ := h
  refine (take_calls w A c L g q _ _ _ ok h3.p hG).mono fun e w' ⟨he, hp⟩ => ⟨by rw [he, hd_drop h3.p.lt], ?_, hp.2⟩
  exact step_of (fun h => by rw [← hd_drop h3.p.lt]; exact hk h) h1 h3 h4 hp
def openS (t : Tk) : Sg → Sg
  | .ok ts lev ns dp => if 100 ≤ lev then .bad 91 t.f3 else .ok ts (lev + 1) ns dp
  | s => s
set_option maxHeartbeats 4000000 in
set_option maxRecDepth 100000 in
theorem sopen_calls (w : World) (A : Option Addr) (c : Nat) (L : List Tk) (g : Nat) (vn vd : Value) (ts : List Tk) (lev : Nat) (ns : List Nd) (dp : List Int) (t : Tk) (h : Is w A c L g vn vd (.ok ts lev ns dp)) :
    Calls Try.prog 94 #[.pointer (some ⟨g, 0, none⟩), .agg #[.int .i64 t.f0, .string t.f1, .int .u64 t.f2, .int .i64 t.f3, .int .i64 t.f4]] w fun e w' => e = .returned (.bool (decide (lev < 100))) ∧ Is w' A c L g vn vd (openS t (.ok ts lev ns dp)) ∧ w.grownBy w' (some g) := by
  obtain ⟨q, h1, h2, h3, h4⟩ := h
  have HB := Aside0.mk (below_alloc (Below.refl w.heap.size w) (.cells #[.int .i64 t.f0, .string t.f1, .int .u64 t.f2, .int .i64 t.f3, .int .i64 t.f4] 47))
  obtain ⟨W0, hW0⟩ : ∃ W0, W0 = w.alloc (.cells #[.int .i64 t.f0, .string t.f1, .int .u64 t.f2, .int .i64 t.f3, .int .i64 t.f4] 47) := ⟨_, rfl⟩
  have HE := Aside0.mk (h3.below HB.out)
  have HX := Aside0.mk (blk_new w (.cells #[.int .i64 t.f0, .string t.f1, .int .u64 t.f2, .int .i64 t.f3, .int .i64 t.f4] 47))
  have y4 := HE.out.p.c4
  have f4 := HE.out.p.fz 4
  obtain ⟨t0, t1, t2, t3, t4⟩ := tokBox HX.out
  have H1 := Aside0.mk h1
  have H2 := Aside0.mk h2
  have H4 := Aside0.mk h4
  have HW := Aside0.mk hW0
  rw [← HW.out] at HE HB HX
  by_cases cl : 100 ≤ lev
  · have d1 : decide ((100 : Int) ≤ (lev : Int)) = true := decide_eq_true (by omega)
    have d2 : decide (100 ≤ lev) = true := decide_eq_true cl
    have d3 : decide (lev < 100) = false := decide_eq_false (by omega)
    have HS : Aside0 (openS t (.ok ts lev ns dp) = .bad 91 t.f3) := ⟨by unfold openS; simp only [if_pos cl]⟩
    have HFL := Aside0.mk (fail_calls W0 A c L g q _ _ _ 91 t.f3 HE.out.p)
    rw [HS.out, d3]
    clear h1 h2 h3 h4 hW0 cl d3
    go_enter Try.func94, Try.ntmps94
    go_wp2_with fail
    rw [← HW.out]
    refine HFL.out.mono ?_
    rintro e w1 ⟨rfl, hp⟩
    have HP := Aside0.mk (show Post W0 w1 A c L g (failQ 91 t.f3 q) _ vn vd from hp)
    clear hp
    go_wp2
    go_ret
    refine ⟨rfl, ?_, (grown_below HB.out _).trans HP.out.g⟩
    have h := HE.out.light HP.out
    exact ⟨_, _, ns, dp, by unfold failQ; rw [if_pos H1.out], by unfold failQ; rw [if_pos H1.out], by decide, h⟩
  · have d1 : decide ((100 : Int) ≤ (lev : Int)) = false := decide_eq_false (by omega)
    have d2 : decide (100 ≤ lev) = false := decide_eq_false cl
    have d3 : decide (lev < 100) = true := decide_eq_true (by omega)
    have hlv : lev ≤ 100 := by omega
    have HS : Aside0 (openS t (.ok ts lev ns dp) = .ok ts (lev + 1) ns dp) := ⟨by unfold openS; simp only [if_neg cl]⟩
    have HC := Aside0.mk cl
    rw [HS.out, d3]
    clear h1 h2 h3 h4 hW0 cl d3
    go_enter Try.func94, Try.ntmps94
    go_wp2
    rw [← HW.out]
    go_ret
    have hp : Post W0 (W0.setCell ⟨g, 4, none⟩ (.int .i64 ((lev : Int) + 1))) A c L g q (.int .i64 ((lev + 1 : Nat) : Int)) vn vd := ⟨HE.out.p.set 4 _ rfl HE.out.p.lt, grown_set _ _ _ _⟩
    exact ⟨rfl, ⟨q, H1.out, H2.out, HE.out.light hp, H4.out.sz, H4.out.dl, H4.out.d0, by have := HC.out; omega⟩, (grown_below HB.out _).trans hp.2⟩
end Go.Proofs.Ytbdcndkafaajpaa.A
end
section
set_option linter.unusedVariables false
set_option linter.unusedSimpArgs false
namespace Go.Proofs.YtbdcndkafaajpaaW.PrintWords
open Go.RowKit
def Went (W w1 : World) (v v1 : Value) (n : Nat) : Prop :=
  (∃ g c, v = .slice (some ⟨g, 0, none⟩) n c ∧ v1 = .slice (some ⟨g, 0, none⟩) (n + 1) c ∧ W.grownBy w1 (some g)) ∨ (∃ b, v1.ownBlock = some b ∧ W.heap.size ≤ b ∧ W.grownBy w1 none)
theorem Went.grown {W w1 : World} {v v1 : Value} {n : Nat} (h : Went W w1 v v1 n) : W.grownBy w1 v.ownBlock := by
  rcases h with ⟨g, c, rfl, _, h⟩ | ⟨b, _, _, h⟩
  · simpa [Value.ownBlock] using h
  · exact ⟨h.os, h.tape, h.output, h.size, fun k hk _ => h.block k hk (by simp)⟩
theorem Went.at {W w1 : World} {v v1 : Value} {n : Nat} (h : Went W w1 v v1 n) : v1.ownBlock = v.ownBlock ∨ ∃ b, v1.ownBlock = some b ∧ W.heap.size ≤ b := by
  rcases h with ⟨g, c, rfl, rfl, h⟩ | ⟨b, h1, h2, _⟩
  · exact .inl (by simp [Value.ownBlock])
  · exact .inr ⟨b, h1, h2⟩
theorem grown_new (w : World) (o : Obj) (row : Option Nat) : w.grownBy (w.drew.alloc o) row := ⟨rfl, rfl, rfl, by simp, fun k hk _ => heap_alloc_old w.drew _ hk⟩
theorem own_went {P : Program} (w : World) (base : Nat) (t ty e : TypeId) (i : TypeInfo) (z : Value) (size bytes : Nat) (ht : P.underlying t = some (.slice e)) (hi : P.info? e = some i) (hz : i.zero = some z)
    (hsize : i.size = size) (hby : i.bytes = bytes) (hzs : z.cells.size = size) (hsz : 0 < size)
    (v : Value) (n : Nat) (xs : List Value) (hown : w.ownsRow base e size v n xs)
    (a : Addr) (c : Nat) (news : List Value) (hl : news.length = size) (hnews : ∀ j u, news[j]? = some u → w.cell? (a.add j) = some u) (h1 : ∀ u ∈ news, u.oneCell' = true)
    (hb0 : 0 < bytes) (hbytes : (n + 1) * bytes ≤ 140737488355328) (hbase : base ≤ w.heap.size) :
    ∃ v' w', (Builtin.append_ #[t, t] ty #[v, .slice (some a) 1 c]).run P w = .ok v' w' ∧ w'.ownsRow base e size v' (n + 1) (xs ++ news) ∧ Went w w' v v' n := by
  have hn : n + 1 ≤ 140737488355328 := Nat.le_trans (Nat.le_mul_of_pos_right _ hb0) hbytes
  have hl1 : news.length = 1 * size := by omega
  obtain ⟨v', w', hr, ho, hg, _⟩ := run_append_own (P := P) w base t ty e i z size bytes ht hi hz hsize hby hzs hsz v n xs hown a 1 c news hl1 hnews h1 (by simp only [maxLen]; omega) hbytes hbase
  refine ⟨v', w', hr, ho, ?_⟩
  subst hsize
  subst hby
  rcases hown.2 with ⟨rfl, rfl⟩ | ⟨g, cap, cur, rfl, hbg, hgc, hnc, hcm, hcs, htake⟩
  · have h2 := run_append_nil (P := P) w t ty e i z ht hi hz a 1 c news hl1 hnews (by omega) (by omega) (by omega)
    rw [hr] at h2
    injection h2 with e1 e2
    subst e1 e2
    exact .inr ⟨_, rfl, Nat.le_refl _, grown_new _ _ _⟩
  · by_cases hroom : n + 1 ≤ cap
    · have hfit : n * i.size + news.length ≤ cur.size := by
        rw [hl1, hcs, ← Nat.add_mul]; exact Nat.mul_le_mul_right _ hroom
      have h2 := run_append_room (P := P) w t ty e i ht hi g n cap cur hgc a 1 c news hl1 hnews h1 hroom hfit
      rw [hr] at h2
      injection h2 with e1 e2
      subst e1
      exact .inl ⟨g, cap, rfl, rfl, by simpa [Value.ownBlock] using hg⟩
    · have holds : ∀ j u, xs[j]? = some u → w.cell? ((⟨g, 0, none⟩ : Addr).add j) = some u := hown.cells (g := g) rfl
      have h2 := run_append_grow (P := P) w t ty e i z ht hi hz ⟨g, 0, none⟩ n cap xs hown.1 holds a 1 c news hl1 hnews (by omega) (by omega) (growslice_fits (by omega) hbytes)
      rw [hr] at h2
      injection h2 with e1 e2
      subst e1 e2
      exact .inr ⟨_, rfl, Nat.le_refl _, grown_new _ _ _⟩
namespace Kd
section
variable {α : Type} {P : Program} {ops : Array Oper} {rest : List Oper} {o : Oper} {a : Act} {Q' : Exit → Act → World → Prop}
theorem R_step_at {Kc : Act → World → Prop} {N : Option Tmp} (hN : o.dst = N) (d : Kd α) {w0 W : World} (base : Nat) (hw : Region.wanted o (yielded ops a.tmps) = true) (s x : Operand) (t e : TypeId) (z : Value) (bytes : Nat)
    (ho : o.op = .call { callee := .builtin .append, args := #[s, x], argTypes := #[t, t] })
    (ht : P.underlying t = some (.slice e)) (hinfo : (P.info? e).map (fun i => (i.zero, i.size, i.bytes)) = some (some z, d.sz, bytes)) (hz : z.cells.size = d.sz) (hs0 : 0 < d.sz) (hb0 : 0 < bytes)
    (v : Value) (xs : List α) (p : α) (cs : List Value) (ok okp : Nat → Prop) (hs : a.eval s = v) (a0 : Addr) (c0 : Nat) (hx : a.eval x = .slice (some a0) 1 c0) (hnews : ∀ j u, cs[j]? = some u → W.cell? (a0.add j) = some u) (hp : d.M W base okp p cs) (hokp : ∀ k, okp k → ok k ∧ some k ≠ v.ownBlock) (hfresh : ∀ k, W.heap.size ≤ k → ok k)
    (HO : d.R e W base ok v xs) (HB : Below base w0 W) (hbase : base ≤ W.heap.size) (hl : (xs.length + 1) * bytes ≤ 140737488355328)
    (h : ∀ v1 w1, d.R e w1 base ok v1 (xs ++ [p]) → Below base w0 w1 → Went W w1 v v1 xs.length → Kc (a.put N v1) w1) :
    if Region.wanted o (yielded ops a.tmps) = true then Oper.wp P o a W Kc Q' else Kc (a.put N undef) W := by
  subst hN
  rw [if_pos hw]
  obtain ⟨h0, inner, hown, hr⟩ := HO
  obtain ⟨i0, hi, hzz⟩ := Option.map_eq_some_iff.1 hinfo
  simp only [Prod.mk.injEq] at hzz
  obtain ⟨hz0, hz1, hz2⟩ := hzz
  have hcl := d.K_len (d.K_of_M hp)
  obtain ⟨v1, w1, hrun, hq1, hwent⟩ := own_went (P := P) W base t o.type e i0 z d.sz bytes ht hi hz0 hz1 hz2 hz hs0 v xs.length inner hown a0 c0 cs hcl hnews (d.K_one (d.K_of_M hp)) hb0 hl hbase
  unfold Oper.wp execOp
  simp only [ho, resolve, invoke, builtin, Sem.run_bind, Sem.run_pure, Result.andThen_ok, List.map_toArray, List.map_cons, List.map_nil, hs, hx, hrun]
  exact h v1 w1 (R_appended h0 hr hp hokp hfresh hq1 hwent.grown hwent.at) (HB.grown hwent.grown hbase (fun k hk => own_base hown k hk)) hwent
end
section
variable {α : Type} {d : Kd α} {e base : Nat} {ok : Nat → Prop} {W w1 : World} {v : Value} {xs : List α}
theorem F_of_R {A : Option Addr} {n c : Nat} (hE : d.E = []) (h : d.R e W base ok (.slice A n c) xs) : F d W (fun k => (Value.slice A n c).ownBlock = some k) A xs.length xs := by
  intro W' hW'
  exact (R_reads' (R_step (R_tight hE h) (fun k hk hlt => hW' k hk.symm hlt))).2.2
end
end Kd
end Go.Proofs.YtbdcndkafaajpaaW.PrintWords
end
section
set_option linter.unusedVariables false
set_option linter.unusedSimpArgs false
namespace Go.Proofs.Ytbdcndkafaajpaa.A
open Go.RowKit Go.Proofs.Ytbdcndkafaajpaa.X Go.Proofs.YtbdcndkafaajpaaW.PrintWords Go.Proofs.YtbdcndkafaajpaaW.PrintLast Go.Proofs.YtbdcndkafaajpaaW.PrintMore
open Go.Proofs.Ytbdcndkafaajpaa.P (Nd EO Res hd isT isM takeM mxl comb mk1)
theorem mxl_snoc (l : List Int) (x : Int) : mxl (l ++ [x]) = max (mxl l) x := by unfold mxl; rw [List.foldl_append]; rfl
theorem mxl_bd {l : List Int} (h : ∀ d ∈ l, 0 ≤ d ∧ d ≤ 100) : 0 ≤ mxl l ∧ mxl l ≤ 100 := by
  have key : ∀ (l : List Int) (a : Int), (∀ d ∈ l, 0 ≤ d ∧ d ≤ 100) → 0 ≤ a → a ≤ 100 → 0 ≤ l.foldl max a ∧ l.foldl max a ≤ 100 := by
    intro l
    induction l with
    | nil => intro a _ h0 h1; exact ⟨h0, h1⟩
    | cons x t ih =>
      intro a h h0 h1
      rw [List.foldl_cons]
      have := h x (by simp)
      exact ih _ (fun d hd => h d (by simp [hd])) (by omega) (by omega)
  exact key l 0 h (by omega) (by omega)
def left : Value → Nat
  | .int _ i => i.toNat
  | _ => 0
theorem nextN (i n : Nat) (hn : n ≤ 9223372036854775807) (h : i < n) : wrap64 ((i : Int) + 1) = ((i + 1 : Nat) : Int) := by unfold wrap64; omega
theorem lessN (i n : Nat) (hn : n ≤ 9223372036854775807) (h : i < n) : n - (wrap64 ((i : Int) + 1)).toNat < n - ((i : Nat) : Int).toNat := by
  rw [nextN i n hn h, Int.toNat_natCast, Int.toNat_natCast]; omega
section
variable {W W' w2 : World} {A : Option Addr} {c : Nat} {L : List Tk} {g : Nat} {q : Q3} {lev : Int} {vn vd : Value} {ns : List Nd} {dp dp0 dp1 : List Int}
theorem IsE.app6 (h : IsE W A c L g q lev vn ns vd dp) (hB : Below W.heap.size W W') {v0 v1 : Value} (hv : v0.ownBlock = vd.ownBlock) (hr : RI W' g v0 dp0) {n : Nat} (hw : Went W' w2 v0 v1 n) (ho : RI w2 g v1 dp1) :
    IsE (w2.setCell ⟨g, 6, none⟩ v1) A c L g q lev vn ns v1 dp1 ∧ Hv W (w2.setCell ⟨g, 6, none⟩ v1) g vn vd vn v1 := by
  have hg := hw.grown
  have h2 := h.below hB
  have hne : some g ≠ v0.ownBlock := Kd.R_ne hr h2.p.blk (by decide)
  have hP : IsP w2 A c L g q (.int .i64 lev) vn vd := ⟨blk_grown h2.p.blk hg hne, Kd.F_grown h2.p.row hg (fun k hk e => by have := Kd.R_base hr k e.symm; omega), h2.p.lt, h2.p.cap⟩
  have hn : RN w2 g vn ns := Kd.R_over h2.n hr (by decide) hg
  have hgs := grown_set w2 g 6 v1
  have hsz := hB.size
  have hgl := h.p.glt
  refine ⟨⟨hP.set 6 v1 rfl hP.lt, RN.light hn hgs ⟨_, hP.blk⟩, RI.light ho hgs ⟨_, hP.blk⟩⟩, ⟨?_, fun k hk h1 h2' h3 => ?_, .inl rfl, ?_⟩⟩
  · exact (((hB.mono (by omega)).grown hg (by omega) (fun k hk => Kd.R_base hr k hk))).setCell (p := ⟨g, 6, none⟩) (Nat.le_refl _) _
  · rw [Below.heap_setCell w2 ⟨g, 6, none⟩ v1 k h1, hg.block k (by omega) (fun e => h3 (by rw [← hv]; exact e.symm)), hB.block k hk]
  · rcases hw.at with a | ⟨b, a, hb⟩
    · exact .inl (a.trans hv)
    · exact .inr ⟨b, a, by omega⟩
theorem IsE.app5 (h : IsE W A c L g q lev vn ns vd dp) (hB : Below W.heap.size W W') {v1 : Value} {ns1 : List Nd} {n : Nat} (hw : Went W' w2 vn v1 n) (ho : RN w2 g v1 ns1) :
    IsE (w2.setCell ⟨g, 5, none⟩ v1) A c L g q lev v1 ns1 vd dp ∧ Hv W (w2.setCell ⟨g, 5, none⟩ v1) g vn vd v1 vd := by
  have hg := hw.grown
  have h2 := h.below hB
  have hne : some g ≠ vn.ownBlock := Kd.R_ne h2.n h2.p.blk (by decide)
  have hP : IsP w2 A c L g q (.int .i64 lev) vn vd := ⟨blk_grown h2.p.blk hg hne, Kd.F_grown h2.p.row hg (fun k hk e => by have := Kd.R_base h2.n k e.symm; omega), h2.p.lt, h2.p.cap⟩
  have hd : RI w2 g vd dp := Kd.R_over h2.d h2.n (by decide) hg
  have hgs := grown_set w2 g 5 v1
  have hsz := hB.size
  have hgl := h.p.glt
  refine ⟨⟨hP.set 5 v1 rfl hP.lt, RN.light ho hgs ⟨_, hP.blk⟩, RI.light hd hgs ⟨_, hP.blk⟩⟩, ⟨?_, fun k hk h1 h2' h3 => ?_, ?_, .inl rfl⟩⟩
  · exact (((hB.mono (by omega)).grown hg (by omega) (fun k hk => Kd.R_base h2.n k hk))).setCell (p := ⟨g, 5, none⟩) (Nat.le_refl _) _
  · rw [Below.heap_setCell w2 ⟨g, 5, none⟩ v1 k h1, hg.block k (by omega) (fun e => h2' e.symm), hB.block k hk]
  · rcases hw.at with a | ⟨b, a, hb⟩
    · exact .inl a
    · exact .inr ⟨b, a, by omega⟩
end
theorem nodeBox {W : World} {b : Nat} {n : Nd} (h : W.heap[b]? = some (.cells #[.int .i64 n.f0, .int .i64 n.f1, .int .u64 n.f2, .string n.f3, .int .i64 n.f4] 49 (0, 0))) :
    W.cell? ⟨b, 0, none⟩ = some (.int .i64 n.f0) ∧ W.cell? ⟨b, 1, none⟩ = some (.int .i64 n.f1) ∧ W.cell? ⟨b, 2, none⟩ = some (.int .u64 n.f2) ∧ W.cell? ⟨b, 3, none⟩ = some (.string n.f3) ∧ W.cell? ⟨b, 4, none⟩ = some (.int .i64 n.f4) :=
  ⟨(blk_cell h 0).trans rfl, (blk_cell h 1).trans rfl, (blk_cell h 2).trans rfl, (blk_cell h 3).trans rfl, (blk_cell h 4).trans rfl⟩
def putS (n : Nd) (ts : List Tk) (lev : Nat) (ns : List Nd) (dp0 ks : List Int) : Sg :=
  if mxl ks + 1 > 100 then .bad 91 n.f4 else .ok ts lev (ns ++ [n]) (dp0 ++ [mxl ks + 1])
set_option maxHeartbeats 4000000 in
set_option maxRecDepth 100000 in
theorem bput_calls (w : World) (A : Option Addr) (c : Nat) (L : List Tk) (g : Nat) (vn vd : Value) (e pl : Int) (n : Nd) (kids : Int) (h : Is w A c L g vn vd (.bad e pl)) :
    Calls Try.prog 74 #[.pointer (some ⟨g, 0, none⟩), .agg #[.int .i64 n.f0, .int .i64 n.f1, .int .u64 n.f2, .string n.f3, .int .i64 n.f4], .int .i64 kids] w fun e' w' => e' = .returned (.tuple #[]) ∧ Is w' A c L g vn vd (.bad e pl) ∧ Below w.heap.size w w' := by
  obtain ⟨q, lev, ns, dp, h1, h2, h0, h3⟩ := h
  have HB := Aside0.mk (below_alloc (Below.refl w.heap.size w) (.cells #[.int .i64 n.f0, .int .i64 n.f1, .int .u64 n.f2, .string n.f3, .int .i64 n.f4] 49))
  have HE := Aside0.mk (h3.below HB.out)
  have y2 := HE.out.p.c2
  have d1 : (q.fl != 0) = true := bne_iff_ne.2 (by rw [h1]; exact h0)
  have H1 := Aside0.mk h1
  have H2 := Aside0.mk h2
  have H0 := Aside0.mk h0
  clear h1 h2 h0 h3
  go_enter Try.func74, Try.ntmps74
  go_wp2
  refine bodyPost_ret (results_none rfl _ _ _) rfl ?_
  exact ⟨rfl, ⟨q, lev, ns, dp, H1.out, H2.out, H0.out, HE.out⟩, HB.out⟩
set_option maxHeartbeats 8000000 in
set_option maxRecDepth 100000 in
theorem sput_calls (w : World) (A : Option Addr) (c : Nat) (L : List Tk) (g : Nat) (vn vd : Value) (ts : List Tk) (lev : Nat) (ns : List Nd) (dp0 ks : List Int) (n : Nd) (h : Is w A c L g vn vd (.ok ts lev ns (dp0 ++ ks))) (hz : ns.length + 1 + ts.length ≤ 33554432) :
    Calls Try.prog 74 #[.pointer (some ⟨g, 0, none⟩), .agg #[.int .i64 n.f0, .int .i64 n.f1, .int .u64 n.f2, .string n.f3, .int .i64 n.f4], .int .i64 (ks.length : Int)] w fun e' w' => e' = .returned (.tuple #[]) ∧ ∃ vn' vd', Is w' A c L g vn' vd' (putS n ts lev ns dp0 ks) ∧ Hv w w' g vn vd vn' vd' := by
  obtain ⟨q, h1, h2, h3, h4⟩ := h
  obtain ⟨Ad, cd, hvd⟩ := Kd.R_slice h3.d
  subst hvd
  obtain ⟨An, cn, hvn⟩ := Kd.R_slice h3.n
  subst hvn
  obtain ⟨W0, hW0⟩ : ∃ W0, W0 = w.alloc (.cells #[.int .i64 n.f0, .int .i64 n.f1, .int .u64 n.f2, .string n.f3, .int .i64 n.f4] 49) := ⟨_, rfl⟩
  obtain ⟨b, hb⟩ : ∃ b, b = w.heap.size := ⟨_, rfl⟩
  have hB0 : Below w.heap.size w W0 := by rw [hW0]; exact below_alloc (Below.refl _ _) _
  have hbx : W0.heap[b]? = some (.cells #[.int .i64 n.f0, .int .i64 n.f1, .int .u64 n.f2, .string n.f3, .int .i64 n.f4] 49 (0, 0)) := by rw [hW0, hb]; exact blk_new _ _
  have HW0 := Aside0.mk hW0
  have HB := Aside0.mk hb
  have HB0 := Aside0.mk hB0
  have HNB : Aside0 (∀ k, (Value.slice An ns.length cn).ownBlock = some k → k < b) := ⟨fun k hk => by rw [hb]; exact Kd.R_lt h3.n k hk⟩
  have HGB0 : Aside0 (g < b) := ⟨by rw [hb]; exact h3.p.glt⟩
  have HE := Aside0.mk (h3.below hB0)
  have HX := Aside0.mk hbx
  have y2 := HE.out.p.c2
  have y6 := HE.out.p.c6
  rw [h1] at y2
  obtain ⟨hn6, hc6, hC6⟩ := Kd.R_reads' HE.out.d
  have hlen : (dp0 ++ ks).length = dp0.length + ks.length := List.length_append
  obtain ⟨NN, hNN⟩ : ∃ NN, NN = (dp0 ++ ks).length := ⟨_, rfl⟩
  rw [← hNN] at y6 hc6
  have hNN2 : NN = dp0.length + ks.length := by rw [hNN, hlen]
  obtain ⟨A', hA'⟩ : ∃ A', A' = (if cd = dp0.length then Ad else Ad.map (·.add (dp0.length * 1))) := ⟨_, rfl⟩
  have hCD : Kd.C (Kd.int .i64) W0 A' ks.length ks := by
    have h := Kd.C_drop hC6 (m := dp0.length) (by rw [hlen]; omega) (by rw [← hNN]; exact hc6)
    rw [List.drop_left] at h
    rw [hA']; exact h
  obtain ⟨i0, hi0, hzz⟩ := Option.map_eq_some_iff.1 infoI
  simp only [Prod.mk.injEq] at hzz
  have hsl := cut_from (P := Try.prog) 40 3 .i64 Try.underlying40 hi0 1 hzz.2.1 Ad NN cd (dp0.length : Int) (by omega) (by omega)
  rw [Int.toNat_natCast, ← hA', show NN - dp0.length = ks.length by omega] at hsl
  have hct := cut_to (P := Try.prog) 40 3 .i64 Try.underlying40 hi0 Ad NN cd (dp0.length : Int) (by omega) (by omega) hc6
  rw [Int.toNat_natCast] at hct
  have HCT := Aside0.mk hct
  clear hct
  have hdl := h4.dl
  have hsz := h4.sz
  have HDL : Aside0 (dp0.length + ks.length ≤ 33554432) := ⟨by rw [← hlen]; omega⟩
  have HCD := Aside0.mk hCD
  have HNN := Aside0.mk hNN2
  have HNE := Aside0.mk hNN
  have s1 : wrap64 ((NN : Int) - (ks.length : Int)) = (dp0.length : Int) := by have := HDL.out; unfold wrap64; omega
  have Y6 := Aside0.mk y6
  rw [hW0] at y2 y6
  have H1 := Aside0.mk h1
  have H2 := Aside0.mk h2
  have H4 := Aside0.mk h4
  have HZ := Aside0.mk hz
  have HC6 := Aside0.mk hC6
  have HK := Aside0.mk hc6
  clear h1 h2 h3 h4 hz hW0 hB0 hbx hn6 hC6 hdl hsz hlen hNN hNN2 hA' hCD hi0 hzz hb
  go_enter Try.func74, Try.ntmps74
  go_wp2
  rw [← HW0.out, ← HB.out]
  have y6 := Y6.out
  go_quiet (fail)
  go_wp2
  clear hsl s1 y2 y6
  go_loop [6, 27] (fun td ti => ∃ i : Nat, ti = .int .i64 (i : Int) ∧ td = .int .i64 (mxl (ks.take i)) ∧ Aside0 (i ≤ ks.length)) (fun _ ti => ks.length - left ti)
  case atStart => exact ⟨0, rfl, rfl, ⟨Nat.zero_le _⟩⟩
  case round =>
    obtain ⟨i, rfl, rfl, hi⟩ := hrel
    by_cases ci : i < ks.length
    · have d1 : decide ((i : Int) < (ks.length : Int)) = true := decide_eq_true (by omega)
      have d2 : decide (i < ks.length) = true := decide_eq_true ci
      have HW := Aside0.mk (nextN i ks.length (by have := HDL.out; omega) ci)
      have ML := Aside0.mk (lessN i ks.length (by have := HDL.out; omega) ci)
      have HCQ := Kd.C_drewN HCD.out nq
      obtain ⟨ad, had, hx⟩ := Kd.at_int HCQ (i : Int) (by omega) (by omega)
      rw [Int.toNat_natCast] at hx
      have HS : Aside0 (mxl (ks.take (i + 1)) = max (mxl (ks.take i)) (rd ks (i : Int))) := ⟨by
        rw [List.take_succ_eq_append_getElem ci, mxl_snoc]
        congr 1
        unfold rd; rw [Int.toNat_natCast, List.getD_eq_getElem?_getD, List.getElem?_eq_getElem ci]; rfl⟩
      obtain ⟨m1, hm1⟩ : ∃ m1, m1 = mxl (ks.take i) := ⟨_, rfl⟩
      obtain ⟨m2, hm2⟩ : ∃ m2, m2 = rd ks (i : Int) := ⟨_, rfl⟩
      rw [← hm2] at hx
      rw [← hm1, ← hm2] at HS
      rw [← hm1]
      subst had
      clear hm1 hm2 HCQ
      go_wp2
      exact ⟨⟨i + 1, by rw [HW.out], by rw [HS.out], ⟨by omega⟩⟩, ML.out⟩
    · have d1 : decide ((i : Int) < (ks.length : Int)) = false := decide_eq_false (by omega)
      have d2 : decide (i < ks.length) = false := decide_eq_false ci
      obtain rfl : i = ks.length := by have := hi.out; omega
      rw [List.take_length]
      have hbd := mxl_bd (fun d hd => H4.out.d0 d (List.mem_append_right _ hd))
      obtain ⟨M, hM⟩ : ∃ M, M = mxl ks := ⟨_, rfl⟩
      rw [← hM] at hbd ⊢
      obtain ⟨m0, m1⟩ := hbd
      have HM := Aside0.mk hM
      have HE1 := Aside0.mk (HE.out.below (pw_below_drewN (Below.refl _ _) nq))
      have HX1 := Aside0.mk (blk_drewN HX.out nq)
      have HGR : Aside0 (w.grownBy (W0.drewN nq) (some g)) := ⟨grown_below (below_step HB0.out (pw_below_drewN (Below.refl _ _) nq)) _⟩
      have HGB := HGB0
      clear hM ci
      by_cases cm : 100 < M + 1
      · have e1 : decide (100 < M + 1) = true := decide_eq_true cm
        have e2 : decide (100 ≤ M) = true := decide_eq_true (by omega)
        have HP : Aside0 (putS n ts lev ns dp0 ks = .bad 91 n.f4) := ⟨by unfold putS; rw [← HM.out, if_pos cm]⟩
        have HFL := Aside0.mk (fail_calls (W0.drewN nq) A c L g q _ _ _ 91 n.f4 HE1.out.p)
        have x4 : (W0.drewN nq).cell? ⟨b, 4, none⟩ = some (.int .i64 n.f4) := (blk_cell HX1.out 4).trans rfl
        clear cm
        go_wp2_with fail
        refine HFL.out.mono ?_
        rintro e w1 ⟨rfl, hp⟩
        have HP1 := Aside0.mk (show Post (W0.drewN nq) w1 A c L g (failQ 91 n.f4 q) _ _ _ from hp)
        clear hp
        go_wp2
        refine bodyPost_ret (results_none rfl _ _ _) rfl ?_
        rw [HP.out]
        refine ⟨rfl, _, _, ⟨_, _, ns, dp0 ++ ks, by unfold failQ; rw [if_pos H1.out], by unfold failQ; rw [if_pos H1.out], by decide, HE1.out.light HP1.out⟩, Hv.of_grown (HGR.out.trans HP1.out.g) (by have := HGB.out; have := HB.out; omega)⟩
      · have e1 : decide (100 < M + 1) = false := decide_eq_false cm
        have e2 : decide (100 ≤ M) = false := decide_eq_false (by omega)
        have HP : Aside0 (putS n ts lev ns dp0 ks = .ok ts lev (ns ++ [n]) (dp0 ++ [M + 1])) := ⟨by unfold putS; rw [← HM.out, if_neg cm]⟩
        have HCM : Aside0 (0 ≤ M ∧ M + 1 ≤ 100) := ⟨⟨m0, by omega⟩⟩
        clear cm
        have y6 := HE1.out.p.c6
        have y6b : (W0.drewN nq).drew.cell? ⟨g, 6, none⟩ = some (.slice Ad NN cd) := by rw [HNE.out]; exact y6
        have s1 : wrap64 ((NN : Int) - (ks.length : Int)) = (dp0.length : Int) := by have := HDL.out; have := HNN.out; unfold wrap64; omega
        have q1 : dp0.length ≤ cd := by have := HK.out; have := HNN.out; omega
        have q2 : (dp0.length : Int) ≤ (cd : Int) := by omega
        have HRD : Aside0 (RI (W0.drewN nq) g (.slice Ad dp0.length cd) dp0) := ⟨by
          have h := Kd.R_take HE1.out.d (m := dp0.length) (by rw [List.length_append]; omega)
          rwa [List.take_left] at h⟩
        have y6c := y6b
        obtain ⟨W1, hW1⟩ : ∃ W1, W1 = W0.drewN nq := ⟨_, rfl⟩
        rw [← hW1] at HE1 HX1 HGR HRD y6b
        clear y6 y6c
        go_wp2
        rw [← hW1]
        clear hW1
        have hct := HCT.out
        have s2 : IntKind.i64.wrap ((NN : Int) - (ks.length : Int)) = (dp0.length : Int) := by have := HDL.out; have := HNN.out; rw [IntKind.wrap_i64]; omega
        have s3 : IntKind.i64.wrap (M + 1) = M + 1 := by rw [IntKind.wrap_i64]; omega
        have HGL : Aside0 (g ≤ W1.heap.size) := ⟨by have := HE1.out.p.glt; omega⟩
        have y6d : (W1.alloc (.cells #[.int .i64 (M + 1)] 3)).drew.cell? ⟨g, 6, none⟩ = some (.slice Ad NN cd) := by rw [HNE.out]; exact (HE1.out.p.below (below_alloc (Below.refl _ _) _)).c6
        refine start_ (n := 20) (S := fun w' => w'.cell? ⟨g, 6, none⟩ = some (.slice Ad NN cd)) (ds := [19]) #[false, false, false, false, false, false, false, false, false, false, false, false, false, false, false, false, false, false, false, false] (by kernel_rfl) rfl rfl (y6b) (fun hHeld => ?_)
        refine pure_ (i := 0) (N := some 42) (v := ?_) (a' := ?_) #[true, false, false, false, false, false, false, false, false, false, false, false, false, false, false, false, false, false, false, false] rfl rfl (by kernel_rfl) (fun _ _ _ h => h) (Or.inl ⟨by rfl, ?_⟩) ?_ ?_
        rotate_left
        · intro w'
          go_simp
          with_reducible rfl
        rotate_left
        · simp only [Act.put, List.setIfInBounds_toArray, List.set_cons_zero, List.set_cons_succ, i64_w, i32_w]
          rfl
        refine pure_ (i := 1) (N := some 43) (v := ?_) (a' := ?_) #[true, true, false, false, false, false, false, false, false, false, false, false, false, false, false, false, false, false, false, false] rfl rfl (by kernel_rfl) (fun _ _ _ h => h) (Or.inl ⟨by rfl, ?_⟩) ?_ ?_
        rotate_left
        · intro w'
          go_simp
          with_reducible rfl
        rotate_left
        · simp only [Act.put, List.setIfInBounds_toArray, List.set_cons_zero, List.set_cons_succ, i64_w, i32_w]
          rfl
        refine pure_ (i := 2) (N := some 44) (v := ?_) (a' := ?_) #[true, true, true, false, false, false, false, false, false, false, false, false, false, false, false, false, false, false, false, false] rfl rfl (by kernel_rfl) (fun _ _ _ h => h) (Or.inl ⟨by rfl, ?_⟩) ?_ ?_
        rotate_left
        · intro w'
          go_simp
          with_reducible rfl
        rotate_left
        · simp only [Act.put, List.setIfInBounds_toArray, List.set_cons_zero, List.set_cons_succ, i64_w, i32_w]
          rfl
        refine pure_ (i := 3) (N := some 45) (v := ?_) (a' := ?_) #[true, true, true, true, false, false, false, false, false, false, false, false, false, false, false, false, false, false, false, false] rfl rfl (by kernel_rfl) (fun _ _ _ h => h) (Or.inl ⟨by rfl, ?_⟩) ?_ ?_
        rotate_left
        · intro w'
          go_simp
          with_reducible rfl
        rotate_left
        · simp only [Act.put, List.setIfInBounds_toArray, List.set_cons_zero, List.set_cons_succ, i64_w, i32_w]
          rfl
        refine take_ (i := 4) (N := some 46) (v := ?_) (a' := ?_) #[true, true, true, true, true, false, false, false, false, false, false, false, false, false, false, false, false, false, false, false] rfl rfl (by kernel_rfl) (fun _ _ _ h => h) (Or.inl ⟨by rfl, ?_⟩) hHeld ?_ ?_
        rotate_left
        · intro w' hS'
          have y_ := hS'
          go_simp
          with_reducible rfl
        rotate_left
        · simp only [Act.put, List.setIfInBounds_toArray, List.set_cons_zero, List.set_cons_succ, i64_w, i32_w]
          rfl
        refine pure_ (i := 5) (N := some 47) (v := ?_) (a' := ?_) #[true, true, true, true, true, true, false, false, false, false, false, false, false, false, false, false, false, false, false, false] rfl rfl (by kernel_rfl) (fun _ _ _ h => h) (Or.inl ⟨by rfl, ?_⟩) ?_ ?_
        rotate_left
        · intro w'
          go_simp
          with_reducible rfl
        rotate_left
        · simp only [Act.put, List.setIfInBounds_toArray, List.set_cons_zero, List.set_cons_succ, i64_w, i32_w]
          rfl
        refine pure_ (i := 6) (N := some 48) (v := ?_) (a' := ?_) #[true, true, true, true, true, true, true, false, false, false, false, false, false, false, false, false, false, false, false, false] rfl rfl (by kernel_rfl) (fun _ _ _ h => h) (Or.inl ⟨by rfl, ?_⟩) ?_ ?_
        rotate_left
        · intro w'
          go_simp
          with_reducible rfl
        rotate_left
        · simp only [Act.put, List.setIfInBounds_toArray, List.set_cons_zero, List.set_cons_succ, i64_w, i32_w]
          rfl
        refine pure_ (i := 7) (N := some 49) (v := ?_) (a' := ?_) #[true, true, true, true, true, true, true, true, false, false, false, false, false, false, false, false, false, false, false, false] rfl rfl (by kernel_rfl) (fun _ _ _ h => h) (Or.inl ⟨by rfl, ?_⟩) ?_ ?_
        rotate_left
        · intro w'
          go_simp
          with_reducible rfl
        rotate_left
        · simp only [Act.put, List.setIfInBounds_toArray, List.set_cons_zero, List.set_cons_succ, i64_w, i32_w]
          rfl
        refine take_ (i := 8) (N := some 50) (v := ?_) (a' := ?_) #[true, true, true, true, true, true, true, true, true, false, false, false, false, false, false, false, false, false, false, false] rfl rfl (by kernel_rfl) (fun _ _ _ h => h) (Or.inl ⟨by rfl, ?_⟩) hHeld ?_ ?_
        rotate_left
        · intro w' hS'
          have y_ := hS'
          go_simp
          with_reducible rfl
        rotate_left
        · simp only [Act.put, List.setIfInBounds_toArray, List.set_cons_zero, List.set_cons_succ, i64_w, i32_w]
          rfl
        refine pure_ (i := 9) (N := some 51) (v := ?_) (a' := ?_) #[true, true, true, true, true, true, true, true, true, true, false, false, false, false, false, false, false, false, false, false] rfl rfl (by kernel_rfl) (fun _ _ _ h => h) (Or.inl ⟨by rfl, ?_⟩) ?_ ?_
        rotate_left
        · intro w'
          go_simp
          with_reducible rfl
        rotate_left
        · simp only [Act.put, List.setIfInBounds_toArray, List.set_cons_zero, List.set_cons_succ, i64_w, i32_w]
          rfl
        refine pure_ (i := 10) (N := some 52) (v := ?_) (a' := ?_) #[true, true, true, true, true, true, true, true, true, true, true, false, false, false, false, false, false, false, false, false] rfl rfl (by kernel_rfl) (fun _ _ _ h => h) (Or.inl ⟨by rfl, ?_⟩) ?_ ?_
        rotate_left
        · intro w'
          go_simp
          with_reducible rfl
        rotate_left
        · simp only [Act.put, List.setIfInBounds_toArray, List.set_cons_zero, List.set_cons_succ, i64_w, i32_w]
          rfl
        refine pure_ (i := 11) (N := some 53) (v := ?_) (a' := ?_) #[true, true, true, true, true, true, true, true, true, true, true, true, false, false, false, false, false, false, false, false] rfl rfl (by kernel_rfl) (fun _ _ _ h => h) (Or.inl ⟨by rfl, ?_⟩) ?_ ?_
        rotate_left
        · intro w'
          go_simp
          with_reducible rfl
        rotate_left
        · simp only [Act.put, List.setIfInBounds_toArray, List.set_cons_zero, List.set_cons_succ, i64_w, i32_w]
          rfl
        refine pure_ (i := 12) (N := some 54) (v := ?_) (a' := ?_) #[true, true, true, true, true, true, true, true, true, true, true, true, true, false, false, false, false, false, false, false] rfl rfl (by kernel_rfl) (fun _ _ _ h => h) (Or.inl ⟨by rfl, ?_⟩) ?_ ?_
        rotate_left
        · intro w'
          go_simp
          with_reducible rfl
        rotate_left
        · simp only [Act.put, List.setIfInBounds_toArray, List.set_cons_zero, List.set_cons_succ, i64_w, i32_w]
          rfl
        refine pure_ (i := 13) (N := some 55) (v := ?_) (a' := ?_) #[true, true, true, true, true, true, true, true, true, true, true, true, true, true, false, false, false, false, false, false] rfl rfl (by kernel_rfl) (fun _ _ _ h => h) (Or.inl ⟨by rfl, ?_⟩) ?_ ?_
        rotate_left
        · intro w'
          go_simp
          with_reducible rfl
        rotate_left
        · simp only [Act.put, List.setIfInBounds_toArray, List.set_cons_zero, List.set_cons_succ, i64_w, i32_w]
          rfl
        refine pure_ (i := 14) (N := some 56) (v := ?_) (a' := ?_) #[true, true, true, true, true, true, true, true, true, true, true, true, true, true, true, false, false, false, false, false] rfl rfl (by kernel_rfl) (fun _ _ _ h => h) (Or.inl ⟨by rfl, ?_⟩) ?_ ?_
        rotate_left
        · intro w'
          go_simp
          with_reducible rfl
        rotate_left
        · simp only [Act.put, List.setIfInBounds_toArray, List.set_cons_zero, List.set_cons_succ, i64_w, i32_w]
          rfl
        refine one_ (i := 15) (N := some 57) #[true, true, true, true, true, true, true, true, true, true, true, true, true, true, true, true, false, false, false, false] rfl rfl (by kernel_rfl) (by decide) (fun K hK => ?_)
        refine value_ (w1 := ?_) (v := ?_) (by rfl) rfl ?_ ?_
        rotate_left 2
        · go_simp
          first | rfl | (constructor <;> rfl)
        refine hK.out _ _ (y6d) (fun hHeld => ?_)
        clear hK K
        refine one_ (i := 16) (N := some 58) #[true, true, true, true, true, true, true, true, true, true, true, true, true, true, true, true, true, false, false, false] rfl rfl (by kernel_rfl) (by decide) (fun K hK => ?_)
        refine Kd.R_step_at (N := some 58) rfl (Kd.int .i64) (w0 := W1) g (by rfl) (.tmp 54) (.tmp 57) 40 3 (.int .i64 0) 8 rfl Try.underlying40 infoI rfl (by decide) (by omega) (.slice Ad dp0.length cd) dp0 (M + 1) [.int .i64 (M + 1)] (fun _ => True) (fun _ => False) (by rfl) ⟨W1.heap.size, 0, none⟩ 1 (by rfl) (World.news_of_block (cs := #[.int .i64 (M + 1)]) (t := 3) (fr := (0, 0)) (heap_alloc_new _ _)) (show Kd.M (Kd.int .i64) _ _ _ (M + 1) [.int .i64 (M + 1)] from rfl) (fun _ hk => hk.elim) (fun _ _ => trivial) (Kd.R_below HRD.out (by repeat (first | exact Below.refl _ _ | apply below_alloc | apply pw_below_drewN | apply below_drew1))) (by repeat (first | exact Below.refl _ _ | apply Below.drew | (refine Below.alloc ?_ HGL.out _))) (by have := HGL.out; simp; omega) (by have := HDL.out; omega) ?_
        intro v1 w2 ho hb hw
        obtain ⟨Av, cv, hv1⟩ := Kd.R_slice ho
        rw [List.length_append, List.length_singleton] at hv1
        subst hv1
        have HO2 := Aside0.mk ho
        have HB2 := Aside0.mk hb
        have HWT := Aside0.mk hw
        have hgg := hw.grown
        have hP2 := (blk_grown (blk_drew (HE1.out.p.below (below_alloc (Below.refl W1.heap.size W1) (.cells #[.int .i64 (M + 1)] 3))).blk) hgg (Kd.R_ne (Kd.R_below HRD.out (below_drew1 (below_alloc (Below.refl W1.heap.size W1) (.cells #[.int .i64 (M + 1)] 3)))) (blk_drew (HE1.out.p.below (below_alloc (Below.refl W1.heap.size W1) (.cells #[.int .i64 (M + 1)] 3))).blk) (by decide)))
        have f6e := blk_frozen hP2 6
        have HP2 := Aside0.mk hP2
        have y6e : w2.cell? ⟨g, 6, none⟩ = some (.slice Ad NN cd) := (by have h1 := (HE1.out.p.below (below_alloc (Below.refl W1.heap.size W1) (.cells #[.int .i64 (M + 1)] 3))); have h2 := (blk_grown (blk_drew h1.blk) hgg (Kd.R_ne (Kd.R_below HRD.out (below_drew1 (below_alloc (Below.refl W1.heap.size W1) (.cells #[.int .i64 (M + 1)] 3)))) (blk_drew h1.blk) (by decide))); rw [HNE.out]; exact (blk_cell h2 6).trans rfl)
        clear ho hb hw hgg hP2
        refine hK.out _ _ (y6e) (fun hHeld => ?_)
        clear hK K
        refine pure_ (i := 17) (N := some 59) (v := ?_) (a' := ?_) #[true, true, true, true, true, true, true, true, true, true, true, true, true, true, true, true, true, true, false, false] rfl rfl (by kernel_rfl) (fun _ _ _ h => h) (Or.inl ⟨by rfl, ?_⟩) ?_ ?_
        rotate_left
        · intro w'
          go_simp
          with_reducible rfl
        rotate_left
        · simp only [Act.put, List.setIfInBounds_toArray, List.set_cons_zero, List.set_cons_succ, i64_w, i32_w]
          rfl
        refine pure_ (i := 18) (N := some 60) (v := ?_) (a' := ?_) #[true, true, true, true, true, true, true, true, true, true, true, true, true, true, true, true, true, true, true, false] rfl rfl (by kernel_rfl) (fun _ _ _ h => h) (Or.inl ⟨by rfl, ?_⟩) ?_ ?_
        rotate_left
        · intro w'
          go_simp
          with_reducible rfl
        rotate_left
        · simp only [Act.put, List.setIfInBounds_toArray, List.set_cons_zero, List.set_cons_succ, i64_w, i32_w]
          rfl
        refine last_ (i := 19) (N := none) #[true, true, true, true, true, true, true, true, true, true, true, true, true, true, true, true, true, true, true, true] rfl rfl (by kernel_rfl) (by decide) (fun K hK => ?_)
        skip
        refine skip_ (w1 := ?_) (by rfl) rfl ?_ ?_
        rotate_left
        · go_simp
          first | rfl | (constructor <;> rfl)
        refine hK.out _ _ ?_
        clear hK K
        refine done_ (by kernel_rfl) ?_
        have hVD : (Value.slice Ad dp0.length cd).ownBlock = (Value.slice Ad (dp0 ++ ks).length cd).ownBlock := by unfold Value.ownBlock; cases Ad <;> rfl
        have h6 := HE1.out.app6 (below_drew1 (below_alloc (Below.refl W1.heap.size W1) (.cells #[.int .i64 (M + 1)] 3))) hVD (Kd.R_below HRD.out (below_drew1 (below_alloc (Below.refl W1.heap.size W1) (.cells #[.int .i64 (M + 1)] 3)))) HWT.out HO2.out
        obtain ⟨W3, hW3⟩ : ∃ W3, W3 = w2.setCell ⟨g, 6, none⟩ (.slice Av (dp0.length + 1) cv) := ⟨_, rfl⟩
        have hbx3 : W3.heap[b]? = some (.cells #[.int .i64 n.f0, .int .i64 n.f1, .int .u64 n.f2, .string n.f3, .int .i64 n.f4] 49 (0, 0)) := by
          rw [hW3]
          exact h6.2.blk HX1.out (by have := HGB.out; omega) (fun e => by have := HNB.out b e; omega) (fun e => Kd.R_ne HE1.out.d HX1.out (by decide) e.symm)
        have HE3 : Aside0 (IsE W3 A c L g q (lev : Int) (.slice An ns.length cn) ns (.slice Av (dp0.length + 1) cv) (dp0 ++ [M + 1])) := ⟨by rw [hW3]; exact h6.1⟩
        have HH3 : Aside0 (Hv W1 W3 g (.slice An ns.length cn) (.slice Ad (dp0 ++ ks).length cd) (.slice An ns.length cn) (.slice Av (dp0.length + 1) cv)) := ⟨by rw [hW3]; exact h6.2⟩
        have HX3 := Aside0.mk hbx3
        have HBZ : Aside0 (Below W3.heap.size W3 (W3.alloc (.cells #[.int .i64 n.f0, .int .i64 n.f1, .int .u64 n.f2, .string n.f3, .int .i64 n.f4] 49)).drew) := ⟨below_drew1 (below_alloc (Below.refl _ _) _)⟩
        have hS0 : (fun w' : World => w'.cell? ⟨g, 5, none⟩ = some (.slice An ns.length cn) ∧ w'.cell? ⟨b, 0, none⟩ = some (.int .i64 n.f0) ∧ w'.cell? ⟨b, 1, none⟩ = some (.int .i64 n.f1) ∧ w'.cell? ⟨b, 2, none⟩ = some (.int .u64 n.f2) ∧ w'.cell? ⟨b, 3, none⟩ = some (.string n.f3) ∧ w'.cell? ⟨b, 4, none⟩ = some (.int .i64 n.f4)) W3.drew := ⟨HE3.out.p.c5, nodeBox HX3.out⟩
        have hSB : (fun w' : World => w'.cell? ⟨g, 5, none⟩ = some (.slice An ns.length cn) ∧ w'.cell? ⟨b, 0, none⟩ = some (.int .i64 n.f0) ∧ w'.cell? ⟨b, 1, none⟩ = some (.int .i64 n.f1) ∧ w'.cell? ⟨b, 2, none⟩ = some (.int .u64 n.f2) ∧ w'.cell? ⟨b, 3, none⟩ = some (.string n.f3) ∧ w'.cell? ⟨b, 4, none⟩ = some (.int .i64 n.f4)) (W3.alloc (.cells #[.int .i64 n.f0, .int .i64 n.f1, .int .u64 n.f2, .string n.f3, .int .i64 n.f4] 49)).drew := ⟨(HE3.out.p.below HBZ.out).c5, nodeBox (blk_below HX3.out HBZ.out)⟩
        have hu49 := Try.underlying49
        rw [← hW3]
        clear hW3 h6 hbx3 y6b y6d y6e f6e s1 s2 s3 q1 q2 hct e1 e2
        go_wp2
        refine start_ (n := 11) (S := fun w' => w'.cell? ⟨g, 5, none⟩ = some (.slice An ns.length cn) ∧ w'.cell? ⟨b, 0, none⟩ = some (.int .i64 n.f0) ∧ w'.cell? ⟨b, 1, none⟩ = some (.int .i64 n.f1) ∧ w'.cell? ⟨b, 2, none⟩ = some (.int .u64 n.f2) ∧ w'.cell? ⟨b, 3, none⟩ = some (.string n.f3) ∧ w'.cell? ⟨b, 4, none⟩ = some (.int .i64 n.f4)) (ds := [10]) #[false, false, false, false, false, false, false, false, false, false, false] (by kernel_rfl) rfl rfl (hS0) (fun hHeld => ?_)
        refine pure_ (i := 0) (N := some 61) (v := ?_) (a' := ?_) #[true, false, false, false, false, false, false, false, false, false, false] rfl rfl (by kernel_rfl) (fun _ _ _ h => h) (Or.inl ⟨by rfl, ?_⟩) ?_ ?_
        rotate_left
        · intro w'
          go_simp
          with_reducible rfl
        rotate_left
        · simp only [Act.put, List.setIfInBounds_toArray, List.set_cons_zero, List.set_cons_succ, i64_w, i32_w]
          rfl
        refine pure_ (i := 1) (N := some 62) (v := ?_) (a' := ?_) #[true, true, false, false, false, false, false, false, false, false, false] rfl rfl (by kernel_rfl) (fun _ _ _ h => h) (Or.inl ⟨by rfl, ?_⟩) ?_ ?_
        rotate_left
        · intro w'
          go_simp
          with_reducible rfl
        rotate_left
        · simp only [Act.put, List.setIfInBounds_toArray, List.set_cons_zero, List.set_cons_succ, i64_w, i32_w]
          rfl
        refine pure_ (i := 2) (N := some 63) (v := ?_) (a' := ?_) #[true, true, true, false, false, false, false, false, false, false, false] rfl rfl (by kernel_rfl) (fun _ _ _ h => h) (Or.inl ⟨by rfl, ?_⟩) ?_ ?_
        rotate_left
        · intro w'
          go_simp
          with_reducible rfl
        rotate_left
        · simp only [Act.put, List.setIfInBounds_toArray, List.set_cons_zero, List.set_cons_succ, i64_w, i32_w]
          rfl
        refine pure_ (i := 3) (N := some 64) (v := ?_) (a' := ?_) #[true, true, true, true, false, false, false, false, false, false, false] rfl rfl (by kernel_rfl) (fun _ _ _ h => h) (Or.inl ⟨by rfl, ?_⟩) ?_ ?_
        rotate_left
        · intro w'
          go_simp
          with_reducible rfl
        rotate_left
        · simp only [Act.put, List.setIfInBounds_toArray, List.set_cons_zero, List.set_cons_succ, i64_w, i32_w]
          rfl
        refine take_ (i := 4) (N := some 65) (v := ?_) (a' := ?_) #[true, true, true, true, true, false, false, false, false, false, false] rfl rfl (by kernel_rfl) (fun _ _ _ h => h) (Or.inl ⟨by rfl, ?_⟩) hHeld ?_ ?_
        rotate_left
        · intro w' hS'
          obtain ⟨y_, yb0, yb1, yb2, yb3, yb4⟩ := hS'
          go_simp
          with_reducible rfl
        rotate_left
        · simp only [Act.put, List.setIfInBounds_toArray, List.set_cons_zero, List.set_cons_succ, i64_w, i32_w]
          rfl
        refine take_ (i := 5) (N := some 66) (v := ?_) (a' := ?_) #[true, true, true, true, true, true, false, false, false, false, false] rfl rfl (by kernel_rfl) (fun _ _ _ h => h) (Or.inl ⟨by rfl, ?_⟩) hHeld ?_ ?_
        rotate_left
        · intro w' hS'
          obtain ⟨y_, yb0, yb1, yb2, yb3, yb4⟩ := hS'
          go_simp
          with_reducible rfl
        rotate_left
        · simp only [Act.put, List.setIfInBounds_toArray, List.set_cons_zero, List.set_cons_succ, i64_w, i32_w]
          rfl
        refine one_ (i := 6) (N := some 67) #[true, true, true, true, true, true, true, false, false, false, false] rfl rfl (by kernel_rfl) (by decide) (fun K hK => ?_)
        refine value_ (w1 := ?_) (v := ?_) (by rfl) rfl ?_ ?_
        rotate_left 2
        · go_simp
          first | rfl | (constructor <;> rfl)
        refine hK.out _ _ (hSB) (fun hHeld => ?_)
        clear hK K
        refine one_ (i := 7) (N := some 68) #[true, true, true, true, true, true, true, true, false, false, false] rfl rfl (by kernel_rfl) (by decide) (fun K hK => ?_)
        refine Kd.R_step_at (N := some 68) rfl kn (w0 := W3) g (by rfl) (.tmp 65) (.tmp 67) 32 49 (.agg #[.int .i64 0, .int .i64 0, .int .u64 0, .string ⟨#[]⟩, .int .i64 0]) 48 rfl Try.underlying32 infoN rfl (by decide) (by omega) (.slice An ns.length cn) ns n [.int .i64 n.f0, .int .i64 n.f1, .int .u64 n.f2, .string n.f3, .int .i64 n.f4] (fun _ => True) (fun _ => False) (by rfl) ⟨W3.heap.size, 0, none⟩ 1 (by rfl) (World.news_of_block (cs := #[.int .i64 n.f0, .int .i64 n.f1, .int .u64 n.f2, .string n.f3, .int .i64 n.f4]) (t := 49) (fr := (0, 0)) (heap_alloc_new _ _)) (kn_mkM _ _ _ n) (fun _ hk => hk.elim) (fun _ _ => trivial) (Kd.R_below HE3.out.n HBZ.out) (HBZ.out.mono (by have := HE3.out.p.glt; omega)) (by have := HE3.out.p.glt; have := HBZ.out.size; omega) (by have := HZ.out; omega) ?_
        intro v2 w4 ho hb hw
        obtain ⟨An2, cn2, hv2⟩ := Kd.R_slice ho
        rw [List.length_append, List.length_singleton] at hv2
        subst hv2
        have HO4 := Aside0.mk ho
        have HWT4 := Aside0.mk hw
        have hP4 := blk_grown (blk_below HE3.out.p.blk HBZ.out) hw.grown (Kd.R_ne (Kd.R_below HE3.out.n HBZ.out) (blk_below HE3.out.p.blk HBZ.out) (by decide))
        have hX4 := blk_grown (blk_below HX3.out HBZ.out) hw.grown (fun e => by have := HNB.out b e.symm; omega)
        have f5 := blk_frozen hP4 5
        have y5e : w4.cell? ⟨g, 5, none⟩ = some (.slice An ns.length cn) := (blk_cell hP4 5).trans rfl
        obtain ⟨k0, k1, k2, k3, k4⟩ := nodeBox hX4
        have hSA := And.intro y5e (And.intro k0 (And.intro k1 (And.intro k2 (And.intro k3 k4))))
        clear ho hb hw hP4 hX4
        refine hK.out _ _ (hSA) (fun hHeld => ?_)
        clear hK K
        refine pure_ (i := 8) (N := some 69) (v := ?_) (a' := ?_) #[true, true, true, true, true, true, true, true, true, false, false] rfl rfl (by kernel_rfl) (fun _ _ _ h => h) (Or.inl ⟨by rfl, ?_⟩) ?_ ?_
        rotate_left
        · intro w'
          go_simp
          with_reducible rfl
        rotate_left
        · simp only [Act.put, List.setIfInBounds_toArray, List.set_cons_zero, List.set_cons_succ, i64_w, i32_w]
          rfl
        refine pure_ (i := 9) (N := some 70) (v := ?_) (a' := ?_) #[true, true, true, true, true, true, true, true, true, true, false] rfl rfl (by kernel_rfl) (fun _ _ _ h => h) (Or.inl ⟨by rfl, ?_⟩) ?_ ?_
        rotate_left
        · intro w'
          go_simp
          with_reducible rfl
        rotate_left
        · simp only [Act.put, List.setIfInBounds_toArray, List.set_cons_zero, List.set_cons_succ, i64_w, i32_w]
          rfl
        refine last_ (i := 10) (N := none) #[true, true, true, true, true, true, true, true, true, true, true] rfl rfl (by kernel_rfl) (by decide) (fun K hK => ?_)
        skip
        refine skip_ (w1 := ?_) (by rfl) rfl ?_ ?_
        rotate_left
        · go_simp
          first | rfl | (constructor <;> rfl)
        refine hK.out _ _ ?_
        clear hK K
        refine done_ (by kernel_rfl) ?_
        go_wp2
        go_end0
        have h5 := HE3.out.app5 HBZ.out HWT4.out HO4.out
        rw [HP.out]
        refine ⟨rfl, _, _, ⟨q, H1.out, H2.out, h5.1, ⟨?_, ?_, ?_, H4.out.lv⟩⟩, ?_⟩
        · have := HZ.out; rw [List.length_append, List.length_singleton]; omega
        · have h := H4.out.dl; rw [List.length_append] at h; rw [List.length_append, List.length_append, List.length_singleton, List.length_singleton]; omega
        · intro d hd
          rcases List.mem_append.1 hd with h | h
          · exact H4.out.d0 d (List.mem_append_left _ h)
          · rw [List.mem_singleton.1 h]; have := HCM.out; omega
        · exact (Hv.of_grown HGR.out (by have := HGB.out; have := HB.out; omega)).trans (HH3.out.trans h5.2)
end Go.Proofs.Ytbdcndkafaajpaa.A
end
section
set_option linter.unusedVariables false
set_option linter.unusedSimpArgs false
namespace Go.Proofs.Ytbdcndkafaajpaa.A
open Go.RowKit Go.Proofs.Ytbdcndkafaajpaa.X Go.Proofs.YtbdcndkafaajpaaW.PrintWords Go.Proofs.YtbdcndkafaajpaaW.PrintLast Go.Proofs.YtbdcndkafaajpaaW.PrintMore
open Go.Proofs.Ytbdcndkafaajpaa.P (Nd EO Res hd isT isM takeM mxl comb mk1)
theorem Is.fault {w : World} {A : Option Addr} {c : Nat} {L : List Tk} {g : Nat} {vn vd : Value} {e pl : Int} (h : Is w A c L g vn vd (.bad e pl)) : w.cell? ⟨g, 2, none⟩ = some (.int .i64 e) ∧ e ≠ 0 := by
  obtain ⟨q, lev, ns, dp, h1, h2, h3, h4⟩ := h
  exact ⟨by rw [← h1]; exact h4.p.c2, h3⟩
theorem snow_calls (w : World) (A : Option Addr) (c : Nat) (L : List Tk) (g : Nat) (vn vd : Value) (s : Sg) (h : Is w A c L g vn vd s) :
    Calls Try.prog 32 #[.pointer (some ⟨g, 0, none⟩)] w fun e w' => ∃ t : Tk, e = .returned (.agg #[.int .i64 t.f0, .string t.f1, .int .u64 t.f2, .int .i64 t.f3, .int .i64 t.f4]) ∧ Below w.heap.size w w' :=
  Is.to (P := fun _ => Calls Try.prog 32 #[.pointer (some ⟨g, 0, none⟩)] w fun e w' => ∃ t : Tk, e = .returned (.agg #[.int .i64 t.f0, .string t.f1, .int .u64 t.f2, .int .i64 t.f3, .int .i64 t.f4]) ∧ Below w.heap.size w w') h (fun q lev ns dp hE => (now_calls w A c L g q _ _ _ hE.p).mono fun e w' ⟨he, hb⟩ => ⟨_, he, hb⟩)
set_option maxHeartbeats 4000000 in
set_option maxRecDepth 100000 in
theorem bfac_calls (w : World) (A : Option Addr) (c : Nat) (L : List Tk) (g : Nat) (vn vd : Value) (e pl : Int) (h : Is w A c L g vn vd (.bad e pl)) :
    Calls Try.prog 86 #[.pointer (some ⟨g, 0, none⟩)] w fun r w' => r = .returned (.tuple #[]) ∧ Is w' A c L g vn vd (.bad e pl) ∧ Below w.heap.size w w' := by
  have HN := Aside0.mk (snow_calls w A c L g vn vd _ h)
  have HI := Aside0.mk h
  have d1 : (e != 0) = true := bne_iff_ne.2 h.fault.2
  clear h
  go_enter Try.func86, Try.ntmps86
  go_wp2_with fail
  refine HN.out.mono ?_
  rintro r w1 ⟨t, rfl, hb1⟩
  have HB := Aside0.mk (below_alloc hb1 (.cells #[.int .i64 t.f0, .string t.f1, .int .u64 t.f2, .int .i64 t.f3, .int .i64 t.f4] 47))
  have HI2 := Aside0.mk (HI.out.below HB.out)
  have y2 := HI2.out.fault.1
  clear hb1
  go_wp2
  go_end0
  exact ⟨rfl, HI2.out, HB.out⟩
set_option maxHeartbeats 4000000 in
set_option maxRecDepth 100000 in
theorem bterm_calls (w : World) (A : Option Addr) (c : Nat) (L : List Tk) (g : Nat) (vn vd : Value) (e pl : Int) (h : Is w A c L g vn vd (.bad e pl)) :
    Calls Try.prog 73 #[.pointer (some ⟨g, 0, none⟩)] w fun r w' => r = .returned (.tuple #[]) ∧ Is w' A c L g vn vd (.bad e pl) ∧ Below w.heap.size w w' := by
  have HF := Aside0.mk (bfac_calls w A c L g vn vd e pl h)
  clear h
  go_enter Try.func73, Try.ntmps73
  go_wp2_with fail
  refine HF.out.mono ?_
  rintro r w1 ⟨rfl, hi1, hb1⟩
  have HI := Aside0.mk hi1
  have HB := Aside0.mk hb1
  clear hi1 hb1
  go_wp2_with fail
  go_loopg [] 0 (fun k wr => wr = w1)
  case atStart => exact rfl
  case round =>
    subst hrel
    have HIS := Aside0.mk (sis_calls wr A c L g vn vd (.bad e pl) 4 ⟨#[42]⟩ HI.out)
    go_wp2_with fail
    refine HIS.out.mono ?_
    rintro r w2 ⟨hr, hb2⟩
    obtain rfl : r = .returned (.bool false) := hr
    have HB2 := Aside0.mk hb2
    clear hb2
    go_wp2
    go_end0
    exact ⟨rfl, HI.out.below HB2.out, below_step HB.out HB2.out⟩
set_option maxHeartbeats 4000000 in
set_option maxRecDepth 100000 in
theorem bexpr_calls (w : World) (A : Option Addr) (c : Nat) (L : List Tk) (g : Nat) (vn vd : Value) (e pl : Int) (h : Is w A c L g vn vd (.bad e pl)) :
    Calls Try.prog 49 #[.pointer (some ⟨g, 0, none⟩)] w fun r w' => r = .returned (.tuple #[]) ∧ Is w' A c L g vn vd (.bad e pl) ∧ Below w.heap.size w w' := by
  have HF := Aside0.mk (bterm_calls w A c L g vn vd e pl h)
  clear h
  go_enter Try.func49, Try.ntmps49
  go_wp2_with fail
  refine HF.out.mono ?_
  rintro r w1 ⟨rfl, hi1, hb1⟩
  have HI := Aside0.mk hi1
  have HB := Aside0.mk hb1
  clear hi1 hb1
  go_wp2_with fail
  go_loopg [] 0 (fun k wr => wr = w1)
  case atStart => exact rfl
  case round =>
    subst hrel
    have HIS := Aside0.mk (sis_calls wr A c L g vn vd (.bad e pl) 4 ⟨#[43]⟩ HI.out)
    go_wp2_with fail
    refine HIS.out.mono ?_
    rintro r w2 ⟨hr, hb2⟩
    obtain rfl : r = .returned (.bool false) := hr
    have HB2 := Aside0.mk hb2
    have HIS2 := Aside0.mk (sis_calls w2 A c L g vn vd (.bad e pl) 4 ⟨#[45]⟩ (HI.out.below hb2))
    clear hb2
    go_wp2_with fail
    refine HIS2.out.mono ?_
    rintro r w3 ⟨hr, hb3⟩
    obtain rfl : r = .returned (.bool false) := hr
    have HB3 := Aside0.mk hb3
    clear hb3
    go_wp2
    go_end0
    exact ⟨rfl, (HI.out.below HB2.out).below HB3.out, below_step (below_step HB.out HB2.out) HB3.out⟩
end Go.Proofs.Ytbdcndkafaajpaa.A
end
section
set_option linter.unusedVariables false
set_option linter.unusedSimpArgs false
namespace Go.Proofs.Ytbdcndkafaajpaa.A
open Go.RowKit Go.Proofs.Ytbdcndkafaajpaa.X Go.Proofs.YtbdcndkafaajpaaW.PrintWords Go.Proofs.YtbdcndkafaajpaaW.PrintLast Go.Proofs.YtbdcndkafaajpaaW.PrintMore
open Go.Proofs.Ytbdcndkafaajpaa.P (Nd EO Res hd isT isM takeM mxl comb mk1)
def Ends (w : World) (A : Option Addr) (c : Nat) (L : List Tk) (g : Nat) (vn vd : Value) (s : Sg) (w' : World) : Prop := ∃ vn' vd', Is w' A c L g vn' vd' s ∧ Hv w w' g vn vd vn' vd'
def outS (lev : Nat) (ns : List Nd) (dp : List Int) : Res EO → Sg
  | .ok a r => .ok r lev (ns ++ a.ns) (dp ++ [a.dep])
  | .bad e p => .bad e p
def CT (n : Nat) (f : P.Fn) (fid : Nat) : Prop := ∀ (w : World) (A : Option Addr) (c : Nat) (L : List Tk) (g : Nat) (vn vd : Value) (ts : List Tk) (lev : Nat) (ns : List Nd) (dp : List Int), Good L → Is w A c L g vn vd (.ok ts lev ns dp) → (∀ p, P.X n f lev ts ≠ .bad 0 p) →
  Calls Try.prog fid #[.pointer (some ⟨g, 0, none⟩)] w fun e w' => e = .returned (.tuple #[]) ∧ Ends w A c L g vn vd (outS lev ns dp (P.X n f lev ts)) w'
theorem tl45 : (mk1 45).toList = [45] := by rw [ByteArray.toList_eq]; rfl
theorem putS_comb (m : Nd) (r : List Tk) (lev : Nat) (ns : List Nd) (dp : List Int) (kids : List EO) : putS m r lev (ns ++ (kids.map EO.ns).flatten) dp (kids.map EO.dep) = outS lev ns dp (comb m kids r) := by
  unfold putS comb
  split
  · rfl
  · show Sg.ok _ _ _ _ = Sg.ok _ _ _ _
    rw [List.append_assoc]
section
variable {w w' w2 : World} {A : Option Addr} {c : Nat} {L : List Tk} {g : Nat} {vn vd vn' vd' : Value} {s s2 : Sg}
theorem Is.glt (h : Is w A c L g vn vd s) : g < w.heap.size := Is.to (P := fun _ => g < w.heap.size) h (fun q lev ns dp hE => hE.p.glt)
theorem Is.box (h : Is w A c L g vn vd s) {b : Nat} {cs : Array Value} (hb : w.heap[b]? = some (.cells cs 47 (0, 0))) : b ≠ g ∧ vn.ownBlock ≠ some b ∧ vd.ownBlock ≠ some b :=
  Is.to (P := fun _ => b ≠ g ∧ vn.ownBlock ≠ some b ∧ vd.ownBlock ≠ some b) h (fun q lev ns dp hE => ⟨fun e => by
    subst e
    have h1 := hE.p.blk
    rw [hb] at h1
    injection h1 with h1
    injection h1 with _ h1 _
    exact absurd h1 (by decide), fun e => Kd.R_ne hE.n hb (by decide) e.symm, fun e => Kd.R_ne hE.d hb (by decide) e.symm⟩)
theorem Is.box_keep (h : Is w A c L g vn vd s) (hv : Hv w w' g vn vd vn' vd') {b : Nat} {cs : Array Value} (hb : w.heap[b]? = some (.cells cs 47 (0, 0))) : w'.heap[b]? = some (.cells cs 47 (0, 0)) := by
  obtain ⟨h1, h2, h3⟩ := h.box hb
  exact hv.blk hb h1 h2 h3
theorem Hv.refl (hg : g ≤ w.heap.size) : Hv w w g vn vd vn vd := Hv.of_grown (grown_below (Below.refl _ _) _) hg
theorem Hv.below (h : Hv w w' g vn vd vn' vd') (hb : Below w'.heap.size w' w2) (hg : g ≤ w'.heap.size) : Hv w w2 g vn vd vn' vd' := h.trans (Hv.of_grown (grown_below hb _) hg)
theorem Ends.below (h : Ends w A c L g vn vd s w') (hb : Below w'.heap.size w' w2) : Ends w A c L g vn vd s w2 := by
  obtain ⟨vn', vd', h1, h2⟩ := h
  exact ⟨vn', vd', h1.below hb, h2.below hb (by have := h1.glt; omega)⟩
end
def LpM (final : Res EO) (f : EO → P.Fn) (w : World) (A : Option Addr) (c : Nat) (L : List Tk) (g : Nat) (vn vd : Value) (lev : Nat) (ns : List Nd) (dp : List Int) (k : Nat) (wr : World) : Prop :=
  ∃ vn1 vd1, Hv w wr g vn vd vn1 vd1 ∧ ((∃ e p, final = .bad e p ∧ Is wr A c L g vn1 vd1 (.bad e p)) ∨ ∃ acc r, P.X k (f acc) lev r = final ∧ Is wr A c L g vn1 vd1 (.ok r lev (ns ++ acc.ns) (dp ++ [acc.dep])))
theorem LpM.next {final : Res EO} {f : EO → P.Fn} {w w5 : World} {A : Option Addr} {c : Nat} {L : List Tk} {g : Nat} {vn vd vn5 vd5 : Value} {lev : Nat} {ns : List Nd} {dp : List Int} {m : Nat} {C : Res EO} (hv : Hv w w5 g vn vd vn5 vd5) (h5 : Is w5 A c L g vn5 vd5 (outS lev ns dp C)) (hfe : C.bind (fun c2 r => P.X m (f c2) lev r) = final) : LpM final f w A c L g vn vd lev ns dp m w5 := by
  refine ⟨vn5, vd5, hv, ?_⟩
  cases C with
  | ok c2 r3 => exact .inr ⟨c2, r3, hfe, h5⟩
  | bad e0 p0 => exact .inl ⟨e0, p0, hfe.symm, h5⟩
set_option maxHeartbeats 8000000 in
set_option maxRecDepth 100000 in
theorem term_ok (n : Nat) (HF : ∀ m, m ≤ n → CT m .fac 86) : CT (n + 1) .term 73 := by
  intro w A c L g vn vd ts lev ns dp hG h hfin
  have hbd : ns.length + ts.length ≤ 33554432 := by obtain ⟨q, _, _, _, h4⟩ := h; exact h4.sz
  obtain ⟨final, hfl⟩ : ∃ final, final = P.X (n + 1) .term lev ts := ⟨_, rfl⟩
  rw [← hfl] at hfin ⊢
  have hX : (P.X n .fac lev ts).bind (fun a r => P.X n (.mulL a) lev r) = final := by rw [hfl, P.X]
  have hne : ∀ p, P.X n .fac lev ts ≠ .bad 0 p := fun p e => hfin p (by rw [← hX, e]; rfl)
  have H1 := Aside0.mk (HF n (Nat.le_refl n) w A c L g vn vd ts lev ns dp hG h hne)
  have HGL := Aside0.mk h.glt
  have HFI := Aside0.mk hfin
  have HX := Aside0.mk hX
  have HG := Aside0.mk hG
  have HBD := Aside0.mk hbd
  have HTS := Aside0.mk (fun a r => P.X_sz n .fac lev ts a r)
  have HF := Aside0.mk HF
  clear h hfl hX hne hfin hG hbd
  go_enter Try.func73, Try.ntmps73
  go_wp2_with fail
  refine H1.out.mono ?_
  rintro e w1 ⟨rfl, he1⟩
  have hlp : LpM final .mulL w A c L g vn vd lev ns dp n w1 := by
    obtain ⟨vn1, vd1, hi, hv⟩ := he1
    refine ⟨vn1, vd1, hv, ?_⟩
    have hx := HX.out
    cases hr : P.X n .fac lev ts with
    | ok a r => rw [hr] at hi hx; exact .inr ⟨a, r, hx, hi⟩
    | bad e p => rw [hr] at hi hx; exact .inl ⟨e, p, hx.symm, hi⟩
  have HLP := Aside0.mk hlp
  clear he1 hlp
  go_wp2_with fail
  go_loopg [] n (fun k wr => Aside0 (LpM final .mulL w A c L g vn vd lev ns dp k wr) ∧ Aside0 (k ≤ n))
  case atStart => exact ⟨HLP, ⟨Nat.le_refl _⟩⟩
  case round =>
    obtain ⟨⟨vn1, vd1, hv, hs⟩, hk⟩ := hrel
    have HV := Aside0.mk hv
    rcases hs with ⟨e, p, hfp, hi⟩ | ⟨acc, r, hx, hi⟩
    · have HI := Aside0.mk hi
      have HIS := Aside0.mk (sis_calls wr A c L g vn1 vd1 (.bad e p) 4 ⟨#[42]⟩ hi)
      have HFP := Aside0.mk hfp
      clear hi hv hfp
      go_wp2_with fail
      refine HIS.out.mono ?_
      rintro e' w2 ⟨hr, hb2⟩
      obtain rfl : e' = .returned (.bool false) := hr
      have HB2 := Aside0.mk hb2
      clear hb2
      go_wp2
      go_end0
      rw [HFP.out]
      exact ⟨rfl, vn1, vd1, HI.out.below HB2.out, HV.out.below HB2.out (by have := HI.out.glt; omega)⟩
    · have hnb : gk ≠ 0 := fun e => by subst e; exact HFI.out 0 (by rw [← hx]; rfl)
      obtain ⟨m, rfl⟩ : ∃ m, gk = m + 1 := ⟨gk - 1, by omega⟩
      have HI := Aside0.mk hi
      have HIS := Aside0.mk (sis_calls wr A c L g vn1 vd1 _ 4 ⟨#[42]⟩ hi)
      rw [P.X] at hx
      by_cases hm : isM 42 r = true
      · have hlen := P.isM_len hm
        have hkd : (hd r).f0 ≠ 0 := by rw [isT_kind hm]; decide
        rw [if_pos hm] at hx
        have HISt : Aside0 (Sg.is 4 ⟨#[42]⟩ (.ok r lev (ns ++ acc.ns) (dp ++ [acc.dep])) = true) := ⟨hm⟩
        obtain ⟨t, ht⟩ : ∃ t, t = hd r := ⟨_, rfl⟩
        have HTK : Aside0 (∀ W, Is W A c L g vn1 vd1 (.ok r lev (ns ++ acc.ns) (dp ++ [acc.dep])) → Calls Try.prog 31 #[.pointer (some ⟨g, 0, none⟩), .bool true] W fun e w' => e = .returned (.agg #[.int .i64 t.f0, .string t.f1, .int .u64 t.f2, .int .i64 t.f3, .int .i64 t.f4]) ∧ Is w' A c L g vn1 vd1 (.ok r.tail lev (ns ++ acc.ns) (dp ++ [acc.dep])) ∧ W.grownBy w' (some g)) := ⟨fun W hW => by rw [ht]; exact stake_calls W A c L g vn1 vd1 r lev _ _ true HG.out (fun _ => hkd) hW⟩
        rw [← ht] at hx
        have hne : ∀ p, P.X m .fac lev r.tail ≠ .bad 0 p := fun p e => HFI.out p (by rw [← hx, e]; rfl)
        have HFA : Aside0 (∀ W, Is W A c L g vn1 vd1 (.ok r.tail lev (ns ++ acc.ns) (dp ++ [acc.dep])) → Calls Try.prog 86 #[.pointer (some ⟨g, 0, none⟩)] W fun e w' => e = .returned (.tuple #[]) ∧ Ends W A c L g vn1 vd1 (outS lev (ns ++ acc.ns) (dp ++ [acc.dep]) (P.X m .fac lev r.tail)) w') := ⟨fun W hW => HF.out m (by have := hk.out; omega) W A c L g vn1 vd1 _ _ _ _ HG.out hW hne⟩
        have HSZ := Aside0.mk (fun a s => P.X_sz m .fac lev r.tail a s)
        have HN1 : Aside0 ((ns ++ acc.ns).length + r.length ≤ 33554432) := ⟨by obtain ⟨q, _, _, _, h4⟩ := hi; exact h4.sz⟩
        have HLEN := Aside0.mk hlen
        have HXX := Aside0.mk hx
        clear hi hv hx hm hkd hlen hne ht
        go_wp2_with fail
        refine HIS.out.mono ?_
        rw [HISt.out]
        rintro e' w2 ⟨rfl, hb2⟩
        have HI2 := Aside0.mk (HI.out.below hb2)
        have HV2 := Aside0.mk (HV.out.below hb2 (by have := HI.out.glt; omega))
        clear hb2
        go_wp2_with fail
        refine (HTK.out w2 HI2.out).mono ?_
        rintro e' w3 ⟨rfl, hi3, hg3⟩
        have HV3 := Aside0.mk (HV2.out.trans (Hv.of_grown hg3 (by have := HI2.out.glt; omega)))
        obtain ⟨W3, hW3⟩ : ∃ W3, W3 = w3.alloc (.cells #[.int .i64 t.f0, .string t.f1, .int .u64 t.f2, .int .i64 t.f3, .int .i64 t.f4] 47) := ⟨_, rfl⟩
        have hB3 : Below w3.heap.size w3 W3 := by rw [hW3]; exact below_alloc (Below.refl _ _) _
        obtain ⟨b, hb⟩ : ∃ b, b = w3.heap.size := ⟨_, rfl⟩
        have HX3 : Aside0 (W3.heap[b]? = some (.cells #[.int .i64 t.f0, .string t.f1, .int .u64 t.f2, .int .i64 t.f3, .int .i64 t.f4] 47 (0, 0))) := ⟨by rw [hW3, hb]; exact blk_new _ _⟩
        have HI3 := Aside0.mk (hi3.below hB3)
        have HV4 := Aside0.mk (HV3.out.below hB3 (by have := hi3.glt; omega))
        have HW3 := Aside0.mk hW3
        have HB3 := Aside0.mk hb
        clear hi3 hg3 hB3 hW3 hb
        go_wp2_with fail
        rw [← HW3.out, ← HB3.out]
        refine (HFA.out W3 HI3.out).mono ?_
        rintro e' w4 ⟨rfl, vn4, vd4, hi4, hv4⟩
        have hx4 := HI3.out.box_keep hv4 HX3.out
        obtain ⟨z0, z1, z2, z3, z4⟩ := tokBox hx4
        have HV5 := Aside0.mk (HV4.out.trans hv4)
        cases hR : P.X m .fac lev r.tail with
        | bad e0 p0 =>
          rw [hR] at hi4
          have HI4 := Aside0.mk (show Is w4 A c L g vn4 vd4 (.bad e0 p0) from hi4)
          have HPT := Aside0.mk (bput_calls w4 A c L g vn4 vd4 e0 p0 (P.node 8 t.f3) 2 HI4.out)
          have HFE : Aside0 (final = .bad e0 p0) := ⟨by rw [← HXX.out, hR]; rfl⟩
          clear hi4 hv4 hx4 hR
          go_wp2_with fail
          refine HPT.out.mono ?_
          rintro e' w5 ⟨rfl, hi5, hb5⟩
          have HI5 := Aside0.mk hi5
          have HV6 := Aside0.mk (HV5.out.below hb5 (by have := HI4.out.glt; omega))
          clear hi5 hb5
          go_wp2
          go_roundg 0
          case measure => omega
          case rel => exact ⟨⟨vn4, vd4, HV6.out, .inl ⟨e0, p0, HFE.out, HI5.out⟩⟩, ⟨Nat.zero_le _⟩⟩
        | ok b2 r2 =>
          rw [hR] at hi4
          have HI4 : Aside0 (Is w4 A c L g vn4 vd4 (.ok r2 lev (ns ++ ([acc, b2].map EO.ns).flatten) (dp ++ [acc, b2].map EO.dep))) := ⟨by
            have e1 : ns ++ ([acc, b2].map EO.ns).flatten = (ns ++ acc.ns) ++ b2.ns := by simp
            have e2 : dp ++ [acc, b2].map EO.dep = (dp ++ [acc.dep]) ++ [b2.dep] := by simp
            rw [e1, e2]; exact hi4⟩
          have hsz := HSZ.out b2 r2 hR
          have HPT := Aside0.mk (sput_calls w4 A c L g vn4 vd4 r2 lev _ dp ([acc, b2].map EO.dep) (P.node 8 t.f3) HI4.out (by
            have h1 := HN1.out
            have h2 := HLEN.out
            simp only [P.base] at hsz
            simp only [List.length_append, List.map_cons, List.map_nil, List.flatten_cons, List.flatten_nil, List.append_nil] at *
            omega))
          rw [putS_comb] at HPT
          have HFE : Aside0 ((comb (P.node 8 t.f3) [acc, b2] r2).bind (fun c2 r => P.X m (.mulL c2) lev r) = final) := ⟨by rw [← HXX.out, hR]; rfl⟩
          clear hi4 hv4 hx4 hR hsz
          go_wp2_with fail
          refine HPT.out.mono ?_
          rintro e' w5 ⟨rfl, vn5, vd5, hi5, hv5⟩
          have HI5 := Aside0.mk hi5
          have HV6 := Aside0.mk (HV5.out.trans hv5)
          clear hi5 hv5
          go_wp2
          go_roundg m
          case measure => omega
          case rel => exact ⟨⟨LpM.next HV6.out HI5.out HFE.out⟩, ⟨by have := hk.out; omega⟩⟩
      · have hmf : isM 42 r = false := by simpa using hm
        rw [if_neg hm] at hx
        have HISt : Aside0 (Sg.is 4 ⟨#[42]⟩ (.ok r lev (ns ++ acc.ns) (dp ++ [acc.dep])) = false) := ⟨hmf⟩
        have HXX := Aside0.mk hx
        clear hi hv hx hm hmf
        go_wp2_with fail
        refine HIS.out.mono ?_
        rw [HISt.out]
        rintro e' w2 ⟨rfl, hb2⟩
        have HB2 := Aside0.mk hb2
        clear hb2
        go_wp2
        go_end0
        rw [← HXX.out]
        exact ⟨rfl, vn1, vd1, HI.out.below HB2.out, HV.out.below HB2.out (by have := HI.out.glt; omega)⟩
set_option maxHeartbeats 8000000 in
set_option maxRecDepth 100000 in
theorem expr_ok (n : Nat) (HF : ∀ m, m ≤ n → CT m .term 73) : CT (n + 1) .expr 49 := by
  intro w A c L g vn vd ts lev ns dp hG h hfin
  have hbd : ns.length + ts.length ≤ 33554432 := by obtain ⟨q, _, _, _, h4⟩ := h; exact h4.sz
  obtain ⟨final, hfl⟩ : ∃ final, final = P.X (n + 1) .expr lev ts := ⟨_, rfl⟩
  rw [← hfl] at hfin ⊢
  have hX : (P.X n .term lev ts).bind (fun a r => P.X n (.addL a) lev r) = final := by rw [hfl, P.X]
  have hne : ∀ p, P.X n .term lev ts ≠ .bad 0 p := fun p e => hfin p (by rw [← hX, e]; rfl)
  have H1 := Aside0.mk (HF n (Nat.le_refl n) w A c L g vn vd ts lev ns dp hG h hne)
  have HGL := Aside0.mk h.glt
  have HFI := Aside0.mk hfin
  have HX := Aside0.mk hX
  have HG := Aside0.mk hG
  have HBD := Aside0.mk hbd
  have HTS := Aside0.mk (fun a r => P.X_sz n .term lev ts a r)
  have HF := Aside0.mk HF
  clear h hfl hX hne hfin hG hbd
  go_enter Try.func49, Try.ntmps49
  go_wp2_with fail
  refine H1.out.mono ?_
  rintro e w1 ⟨rfl, he1⟩
  have hlp : LpM final .addL w A c L g vn vd lev ns dp n w1 := by
    obtain ⟨vn1, vd1, hi, hv⟩ := he1
    refine ⟨vn1, vd1, hv, ?_⟩
    have hx := HX.out
    cases hr : P.X n .term lev ts with
    | ok a r => rw [hr] at hi hx; exact .inr ⟨a, r, hx, hi⟩
    | bad e p => rw [hr] at hi hx; exact .inl ⟨e, p, hx.symm, hi⟩
  have HLP := Aside0.mk hlp
  clear he1 hlp
  go_wp2_with fail
  go_loopg [] n (fun k wr => Aside0 (LpM final .addL w A c L g vn vd lev ns dp k wr) ∧ Aside0 (k ≤ n))
  case atStart => exact ⟨HLP, ⟨Nat.le_refl _⟩⟩
  case round =>
    obtain ⟨⟨vn1, vd1, hv, hs⟩, hk⟩ := hrel
    have HV := Aside0.mk hv
    rcases hs with ⟨e, p, hfp, hi⟩ | ⟨acc, r, hx, hi⟩
    · have HI := Aside0.mk hi
      have HIS := Aside0.mk (sis_calls wr A c L g vn1 vd1 (.bad e p) 4 ⟨#[43]⟩ hi)
      have HFP := Aside0.mk hfp
      clear hi hv hfp
      go_wp2_with fail
      refine HIS.out.mono ?_
      rintro e' w2 ⟨hr, hb2⟩
      obtain rfl : e' = .returned (.bool false) := hr
      have HIS2 := Aside0.mk (sis_calls w2 A c L g vn1 vd1 (.bad e p) 4 ⟨#[45]⟩ (HI.out.below hb2))
      have HB2' := Aside0.mk hb2
      clear hb2
      go_wp2_with fail
      refine HIS2.out.mono ?_
      rintro e' w2b ⟨hr, hb2⟩
      obtain rfl : e' = .returned (.bool false) := hr
      have HB2 := Aside0.mk (below_step HB2'.out hb2)
      clear hb2
      go_wp2
      go_end0
      rw [HFP.out]
      exact ⟨rfl, vn1, vd1, HI.out.below HB2.out, HV.out.below HB2.out (by have := HI.out.glt; omega)⟩
    · have hnb : gk ≠ 0 := fun e => by subst e; exact HFI.out 0 (by rw [← hx]; rfl)
      obtain ⟨m, rfl⟩ : ∃ m, gk = m + 1 := ⟨gk - 1, by omega⟩
      have HI := Aside0.mk hi
      have HIS := Aside0.mk (sis_calls wr A c L g vn1 vd1 _ 4 ⟨#[43]⟩ hi)
      rw [P.X] at hx
      cases hp : isM 43 r with
      | true =>
        have hm := hp
        have hlen := P.isM_len hm
        have hkd : (hd r).f0 ≠ 0 := by rw [isT_kind hm]; decide
        rw [if_pos (by rw [hm]; rfl)] at hx
        have HISt : Aside0 (Sg.is 4 ⟨#[43]⟩ (.ok r lev (ns ++ acc.ns) (dp ++ [acc.dep])) = true) := ⟨hm⟩
        obtain ⟨t, ht⟩ : ∃ t, t = hd r := ⟨_, rfl⟩
        have HTK : Aside0 (∀ W, Is W A c L g vn1 vd1 (.ok r lev (ns ++ acc.ns) (dp ++ [acc.dep])) → Calls Try.prog 31 #[.pointer (some ⟨g, 0, none⟩), .bool true] W fun e w' => e = .returned (.agg #[.int .i64 t.f0, .string t.f1, .int .u64 t.f2, .int .i64 t.f3, .int .i64 t.f4]) ∧ Is w' A c L g vn1 vd1 (.ok r.tail lev (ns ++ acc.ns) (dp ++ [acc.dep])) ∧ W.grownBy w' (some g)) := ⟨fun W hW => by rw [ht]; exact stake_calls W A c L g vn1 vd1 r lev _ _ true HG.out (fun _ => hkd) hW⟩
        rw [← ht] at hx
        obtain ⟨bq, hbq⟩ : ∃ bq, bq = (t.f1.toList == (mk1 45).toList) := ⟨_, rfl⟩
        rw [← hbq] at hx
        obtain ⟨op, hop⟩ : ∃ op : Int, op = (if bq = true then 7 else 6) := ⟨_, rfl⟩
        rw [← hop] at hx
        have HOP := Aside0.mk hop
        have HBQ := Aside0.mk hbq
        have hne : ∀ p, P.X m .term lev r.tail ≠ .bad 0 p := fun p e => HFI.out p (by rw [← hx, e]; rfl)
        have HFA : Aside0 (∀ W, Is W A c L g vn1 vd1 (.ok r.tail lev (ns ++ acc.ns) (dp ++ [acc.dep])) → Calls Try.prog 73 #[.pointer (some ⟨g, 0, none⟩)] W fun e w' => e = .returned (.tuple #[]) ∧ Ends W A c L g vn1 vd1 (outS lev (ns ++ acc.ns) (dp ++ [acc.dep]) (P.X m .term lev r.tail)) w') := ⟨fun W hW => HF.out m (by have := hk.out; omega) W A c L g vn1 vd1 _ _ _ _ HG.out hW hne⟩
        have HSZ := Aside0.mk (fun a s => P.X_sz m .term lev r.tail a s)
        have HN1 : Aside0 ((ns ++ acc.ns).length + r.length ≤ 33554432) := ⟨by obtain ⟨q, _, _, _, h4⟩ := hi; exact h4.sz⟩
        have HLEN := Aside0.mk hlen
        have HXX := Aside0.mk hx
        clear hi hv hx hm hp hkd hlen hne ht hbq hop
        go_wp2_with fail
        refine HIS.out.mono ?_
        rw [HISt.out]
        rintro e' w2 ⟨rfl, hb2⟩
        have HI2 := Aside0.mk (HI.out.below hb2)
        have HV2 := Aside0.mk (HV.out.below hb2 (by have := HI.out.glt; omega))
        clear hb2
        go_wp2_with fail
        refine (HTK.out w2 HI2.out).mono ?_
        rintro e' w3 ⟨rfl, hi3, hg3⟩
        have HV3 := Aside0.mk (HV2.out.trans (Hv.of_grown hg3 (by have := HI2.out.glt; omega)))
        obtain ⟨W3, hW3⟩ : ∃ W3, W3 = w3.alloc (.cells #[.int .i64 t.f0, .string t.f1, .int .u64 t.f2, .int .i64 t.f3, .int .i64 t.f4] 47) := ⟨_, rfl⟩
        have hB3 : Below w3.heap.size w3 W3 := by rw [hW3]; exact below_alloc (Below.refl _ _) _
        obtain ⟨b, hb⟩ : ∃ b, b = w3.heap.size := ⟨_, rfl⟩
        have HX3 : Aside0 (W3.heap[b]? = some (.cells #[.int .i64 t.f0, .string t.f1, .int .u64 t.f2, .int .i64 t.f3, .int .i64 t.f4] 47 (0, 0))) := ⟨by rw [hW3, hb]; exact blk_new _ _⟩
        have HI3 := Aside0.mk (hi3.below hB3)
        have HV4 := Aside0.mk (HV3.out.below hB3 (by have := hi3.glt; omega))
        have HW3 := Aside0.mk hW3
        have HB3 := Aside0.mk hb
        clear hi3 hg3 hB3 hW3 hb
        go_wp2_with fail
        rw [← HW3.out, ← HB3.out]
        refine (HFA.out W3 HI3.out).mono ?_
        rintro e' w4 ⟨rfl, vn4, vd4, hi4, hv4⟩
        have hx4 := HI3.out.box_keep hv4 HX3.out
        obtain ⟨z0, z1, z2, z3, z4⟩ := tokBox hx4
        have HV5 := Aside0.mk (HV4.out.trans hv4)
        cases hR : P.X m .term lev r.tail with
        | bad e0 p0 =>
          rw [hR] at hi4
          have HI4 := Aside0.mk (show Is w4 A c L g vn4 vd4 (.bad e0 p0) from hi4)
          have HPT := Aside0.mk (bput_calls w4 A c L g vn4 vd4 e0 p0 (P.node op t.f3) 2 HI4.out)
          have HFE : Aside0 (final = .bad e0 p0) := ⟨by rw [← HXX.out, hR]; rfl⟩
          clear hi4 hv4 hx4 hR
          cases bq
          all_goals
            have c5 := HBQ.out.symm
            have c6 := c5
            rw [tl45] at c6
            have hop := HOP.out
            simp only [if_true, Bool.false_eq_true, if_false] at hop
            subst hop
            clear HOP HBQ
            go_wp2_with fail
            refine HPT.out.mono ?_
            rintro e' w5 ⟨rfl, hi5, hb5⟩
            have HI5 := Aside0.mk hi5
            have HV6 := Aside0.mk (HV5.out.below hb5 (by have := HI4.out.glt; omega))
            clear hi5 hb5
            go_wp2
            go_roundg 0
            case measure => omega
            case rel => exact ⟨⟨vn4, vd4, HV6.out, .inl ⟨e0, p0, HFE.out, HI5.out⟩⟩, ⟨Nat.zero_le _⟩⟩
        | ok b2 r2 =>
          rw [hR] at hi4
          have HI4 : Aside0 (Is w4 A c L g vn4 vd4 (.ok r2 lev (ns ++ ([acc, b2].map EO.ns).flatten) (dp ++ [acc, b2].map EO.dep))) := ⟨by
            have e1 : ns ++ ([acc, b2].map EO.ns).flatten = (ns ++ acc.ns) ++ b2.ns := by simp
            have e2 : dp ++ [acc, b2].map EO.dep = (dp ++ [acc.dep]) ++ [b2.dep] := by simp
            rw [e1, e2]; exact hi4⟩
          have hsz := HSZ.out b2 r2 hR
          have HPT := Aside0.mk (sput_calls w4 A c L g vn4 vd4 r2 lev _ dp ([acc, b2].map EO.dep) (P.node op t.f3) HI4.out (by
            have h1 := HN1.out
            have h2 := HLEN.out
            simp only [P.base] at hsz
            simp only [List.length_append, List.map_cons, List.map_nil, List.flatten_cons, List.flatten_nil, List.append_nil] at *
            omega))
          rw [putS_comb] at HPT
          have HFE : Aside0 ((comb (P.node op t.f3) [acc, b2] r2).bind (fun c2 r => P.X m (.addL c2) lev r) = final) := ⟨by rw [← HXX.out, hR]; rfl⟩
          clear hi4 hv4 hx4 hR hsz
          cases bq
          all_goals
            have c5 := HBQ.out.symm
            have c6 := c5
            rw [tl45] at c6
            have hop := HOP.out
            simp only [if_true, Bool.false_eq_true, if_false] at hop
            subst hop
            clear HOP HBQ
            go_wp2_with fail
            refine HPT.out.mono ?_
            rintro e' w5 ⟨rfl, vn5, vd5, hi5, hv5⟩
            have HI5 := Aside0.mk hi5
            have HV6 := Aside0.mk (HV5.out.trans hv5)
            clear hi5 hv5
            go_wp2
            go_roundg m
            case measure => omega
            case rel => exact ⟨⟨LpM.next HV6.out HI5.out HFE.out⟩, ⟨by have := hk.out; omega⟩⟩
      | false =>
        cases hm : isM 45 r with
        | true =>
          have hlen := P.isM_len hm
          have hkd : (hd r).f0 ≠ 0 := by rw [isT_kind hm]; decide
          rw [if_pos (by rw [hm, Bool.or_true])] at hx
          have HISt : Aside0 (Sg.is 4 ⟨#[43]⟩ (.ok r lev (ns ++ acc.ns) (dp ++ [acc.dep])) = false) := ⟨hp⟩
          have HISt2 : Aside0 (Sg.is 4 ⟨#[45]⟩ (.ok r lev (ns ++ acc.ns) (dp ++ [acc.dep])) = true) := ⟨hm⟩
          obtain ⟨t, ht⟩ : ∃ t, t = hd r := ⟨_, rfl⟩
          have HTK : Aside0 (∀ W, Is W A c L g vn1 vd1 (.ok r lev (ns ++ acc.ns) (dp ++ [acc.dep])) → Calls Try.prog 31 #[.pointer (some ⟨g, 0, none⟩), .bool true] W fun e w' => e = .returned (.agg #[.int .i64 t.f0, .string t.f1, .int .u64 t.f2, .int .i64 t.f3, .int .i64 t.f4]) ∧ Is w' A c L g vn1 vd1 (.ok r.tail lev (ns ++ acc.ns) (dp ++ [acc.dep])) ∧ W.grownBy w' (some g)) := ⟨fun W hW => by rw [ht]; exact stake_calls W A c L g vn1 vd1 r lev _ _ true HG.out (fun _ => hkd) hW⟩
          rw [← ht] at hx
          obtain ⟨bq, hbq⟩ : ∃ bq, bq = (t.f1.toList == (mk1 45).toList) := ⟨_, rfl⟩
          rw [← hbq] at hx
          obtain ⟨op, hop⟩ : ∃ op : Int, op = (if bq = true then 7 else 6) := ⟨_, rfl⟩
          rw [← hop] at hx
          have HOP := Aside0.mk hop
          have HBQ := Aside0.mk hbq
          have hne : ∀ p, P.X m .term lev r.tail ≠ .bad 0 p := fun p e => HFI.out p (by rw [← hx, e]; rfl)
          have HFA : Aside0 (∀ W, Is W A c L g vn1 vd1 (.ok r.tail lev (ns ++ acc.ns) (dp ++ [acc.dep])) → Calls Try.prog 73 #[.pointer (some ⟨g, 0, none⟩)] W fun e w' => e = .returned (.tuple #[]) ∧ Ends W A c L g vn1 vd1 (outS lev (ns ++ acc.ns) (dp ++ [acc.dep]) (P.X m .term lev r.tail)) w') := ⟨fun W hW => HF.out m (by have := hk.out; omega) W A c L g vn1 vd1 _ _ _ _ HG.out hW hne⟩
          have HSZ := Aside0.mk (fun a s => P.X_sz m .term lev r.tail a s)
          have HN1 : Aside0 ((ns ++ acc.ns).length + r.length ≤ 33554432) := ⟨by obtain ⟨q, _, _, _, h4⟩ := hi; exact h4.sz⟩
          have HLEN := Aside0.mk hlen
          have HXX := Aside0.mk hx
          clear hi hv hx hm hp hkd hlen hne ht hbq hop
          go_wp2_with fail
          refine HIS.out.mono ?_
          rw [HISt.out]
          rintro e' w2b ⟨rfl, hb2b⟩
          have HI2b := Aside0.mk (HI.out.below hb2b)
          have HV2b := Aside0.mk (HV.out.below hb2b (by have := HI.out.glt; omega))
          clear hb2b
          go_wp2_with fail
          refine (sis_calls w2b A c L g vn1 vd1 _ 4 ⟨#[45]⟩ HI2b.out).mono ?_
          rw [HISt2.out]
          rintro e' w2 ⟨rfl, hb2⟩
          have HI2 := Aside0.mk (HI2b.out.below hb2)
          have HV2 := Aside0.mk (HV2b.out.below hb2 (by have := HI2b.out.glt; omega))
          clear hb2
          go_wp2_with fail
          refine (HTK.out w2 HI2.out).mono ?_
          rintro e' w3 ⟨rfl, hi3, hg3⟩
          have HV3 := Aside0.mk (HV2.out.trans (Hv.of_grown hg3 (by have := HI2.out.glt; omega)))
          obtain ⟨W3, hW3⟩ : ∃ W3, W3 = w3.alloc (.cells #[.int .i64 t.f0, .string t.f1, .int .u64 t.f2, .int .i64 t.f3, .int .i64 t.f4] 47) := ⟨_, rfl⟩
          have hB3 : Below w3.heap.size w3 W3 := by rw [hW3]; exact below_alloc (Below.refl _ _) _
          obtain ⟨b, hb⟩ : ∃ b, b = w3.heap.size := ⟨_, rfl⟩
          have HX3 : Aside0 (W3.heap[b]? = some (.cells #[.int .i64 t.f0, .string t.f1, .int .u64 t.f2, .int .i64 t.f3, .int .i64 t.f4] 47 (0, 0))) := ⟨by rw [hW3, hb]; exact blk_new _ _⟩
          have HI3 := Aside0.mk (hi3.below hB3)
          have HV4 := Aside0.mk (HV3.out.below hB3 (by have := hi3.glt; omega))
          have HW3 := Aside0.mk hW3
          have HB3 := Aside0.mk hb
          clear hi3 hg3 hB3 hW3 hb
          go_wp2_with fail
          rw [← HW3.out, ← HB3.out]
          refine (HFA.out W3 HI3.out).mono ?_
          rintro e' w4 ⟨rfl, vn4, vd4, hi4, hv4⟩
          have hx4 := HI3.out.box_keep hv4 HX3.out
          obtain ⟨z0, z1, z2, z3, z4⟩ := tokBox hx4
          have HV5 := Aside0.mk (HV4.out.trans hv4)
          cases hR : P.X m .term lev r.tail with
          | bad e0 p0 =>
            rw [hR] at hi4
            have HI4 := Aside0.mk (show Is w4 A c L g vn4 vd4 (.bad e0 p0) from hi4)
            have HPT := Aside0.mk (bput_calls w4 A c L g vn4 vd4 e0 p0 (P.node op t.f3) 2 HI4.out)
            have HFE : Aside0 (final = .bad e0 p0) := ⟨by rw [← HXX.out, hR]; rfl⟩
            clear hi4 hv4 hx4 hR
            cases bq
            all_goals
              have c5 := HBQ.out.symm
              have c6 := c5
              rw [tl45] at c6
              have hop := HOP.out
              simp only [if_true, Bool.false_eq_true, if_false] at hop
              subst hop
              clear HOP HBQ
              go_wp2_with fail
              refine HPT.out.mono ?_
              rintro e' w5 ⟨rfl, hi5, hb5⟩
              have HI5 := Aside0.mk hi5
              have HV6 := Aside0.mk (HV5.out.below hb5 (by have := HI4.out.glt; omega))
              clear hi5 hb5
              go_wp2
              go_roundg 0
              case measure => omega
              case rel => exact ⟨⟨vn4, vd4, HV6.out, .inl ⟨e0, p0, HFE.out, HI5.out⟩⟩, ⟨Nat.zero_le _⟩⟩
          | ok b2 r2 =>
            rw [hR] at hi4
            have HI4 : Aside0 (Is w4 A c L g vn4 vd4 (.ok r2 lev (ns ++ ([acc, b2].map EO.ns).flatten) (dp ++ [acc, b2].map EO.dep))) := ⟨by
              have e1 : ns ++ ([acc, b2].map EO.ns).flatten = (ns ++ acc.ns) ++ b2.ns := by simp
              have e2 : dp ++ [acc, b2].map EO.dep = (dp ++ [acc.dep]) ++ [b2.dep] := by simp
              rw [e1, e2]; exact hi4⟩
            have hsz := HSZ.out b2 r2 hR
            have HPT := Aside0.mk (sput_calls w4 A c L g vn4 vd4 r2 lev _ dp ([acc, b2].map EO.dep) (P.node op t.f3) HI4.out (by
              have h1 := HN1.out
              have h2 := HLEN.out
              simp only [P.base] at hsz
              simp only [List.length_append, List.map_cons, List.map_nil, List.flatten_cons, List.flatten_nil, List.append_nil] at *
              omega))
            rw [putS_comb] at HPT
            have HFE : Aside0 ((comb (P.node op t.f3) [acc, b2] r2).bind (fun c2 r => P.X m (.addL c2) lev r) = final) := ⟨by rw [← HXX.out, hR]; rfl⟩
            clear hi4 hv4 hx4 hR hsz
            cases bq
            all_goals
              have c5 := HBQ.out.symm
              have c6 := c5
              rw [tl45] at c6
              have hop := HOP.out
              simp only [if_true, Bool.false_eq_true, if_false] at hop
              subst hop
              clear HOP HBQ
              go_wp2_with fail
              refine HPT.out.mono ?_
              rintro e' w5 ⟨rfl, vn5, vd5, hi5, hv5⟩
              have HI5 := Aside0.mk hi5
              have HV6 := Aside0.mk (HV5.out.trans hv5)
              clear hi5 hv5
              go_wp2
              go_roundg m
              case measure => omega
              case rel => exact ⟨⟨LpM.next HV6.out HI5.out HFE.out⟩, ⟨by have := hk.out; omega⟩⟩
        | false =>
          rw [if_neg (by rw [hp, hm]; decide)] at hx
          have HISt : Aside0 (Sg.is 4 ⟨#[43]⟩ (.ok r lev (ns ++ acc.ns) (dp ++ [acc.dep])) = false) := ⟨hp⟩
          have HISt2 : Aside0 (Sg.is 4 ⟨#[45]⟩ (.ok r lev (ns ++ acc.ns) (dp ++ [acc.dep])) = false) := ⟨hm⟩
          have HXX := Aside0.mk hx
          clear hi hv hx hm hp
          go_wp2_with fail
          refine HIS.out.mono ?_
          rw [HISt.out]
          rintro e' w2b ⟨rfl, hb2b⟩
          have HI2b := Aside0.mk (HI.out.below hb2b)
          have HB2b := Aside0.mk hb2b
          clear hb2b
          go_wp2_with fail
          refine (sis_calls w2b A c L g vn1 vd1 _ 4 ⟨#[45]⟩ HI2b.out).mono ?_
          rw [HISt2.out]
          rintro e' w2 ⟨rfl, hb2⟩
          have HB2 := Aside0.mk (below_step HB2b.out hb2)
          clear hb2
          go_wp2
          go_end0
          rw [← HXX.out]
          exact ⟨rfl, vn1, vd1, HI.out.below HB2.out, HV.out.below HB2.out (by have := HI.out.glt; omega)⟩
end Go.Proofs.Ytbdcndkafaajpaa.A
end
section
set_option linter.unusedVariables false
set_option linter.unusedSimpArgs false
namespace Go.Proofs.Ytbdcndkafaajpaa.A
open Go.RowKit Go.Proofs.Ytbdcndkafaajpaa.X Go.Proofs.YtbdcndkafaajpaaW.PrintWords Go.Proofs.YtbdcndkafaajpaaW.PrintLast Go.Proofs.YtbdcndkafaajpaaW.PrintMore
open Go.ChangeMaps (setBlock heap_setBlock_same heap_setBlock_other)
open Go.Proofs.Ytbdcndkafaajpaa.P (Nd EO Res hd isT isM takeM mxl comb mk1)
theorem ba_eq {s t : ByteArray} (h : (s == t) = true) : s = t := ByteArray.ext (eq_of_beq (α := Array UInt8) h)
section
variable {P : Program} {w : World} {t k e : TypeId} {b : Nat} {es : Array MapEntry} {clk : Nat}
theorem run_ck (hk : P.underlying k = some .string) (em : Bool) (s : ByteArray) : (Instr.checkKey em 10000 k (.string s)).run P w = .ok () w := by
  unfold Instr.checkKey
  simp [run_underlying hk, Result.andThen]
theorem run_fk (hk : P.underlying k = some .string) (s : ByteArray) (l : List MapEntry) {r : Option (Nat × Value)} (hf : Instr.findNow .string (.string s) l 0 = some r) : (Instr.findKey k (.string s) l).run P w = .ok r w := by
  unfold Instr.findKey
  simp [run_underlying hk, hf, Result.andThen]
theorem run_lay (ht : P.underlying t = some (.map k e)) (hk : P.underlying k = some .string) (hb : w.heap[b]? = some (.map es clk)) (s : ByteArray) (v : Value) (hf : Instr.findNow .string (.string s) es.toList 0 = some none) :
    (Instr.mapUpdate t (.map (some b)) (.string s) v).run P w = .ok () (setBlock w b (.map (es.push ⟨.string s, v, clk⟩) (clk + 1))) := by
  simp [Instr.mapUpdate, run_underlying ht, MapKept.run_getObj_map hb, run_ck hk, run_fk hk s _ hf, MapKept.run_setObj_map _ hb, Result.andThen, setBlock]
theorem run_look (ht : P.underlying t = some (.map k e)) (hk : P.underlying k = some .string) (hb : w.heap[b]? = some (.map es clk)) (s : ByteArray) {i : Nat} {v : Value} (hf : Instr.findNow .string (.string s) es.toList 0 = some (some (i, v))) :
    (Instr.lookup t (.map (some b)) (.string s) false).run P w = .ok v w := by
  simp [Instr.lookup, run_underlying ht, MapKept.run_getObj_map hb, run_ck hk, run_fk hk s _ hf, Result.andThen]
theorem run_miss (ht : P.underlying t = some (.map k e)) (hk : P.underlying k = some .string) (hb : w.heap[b]? = some (.map es clk)) (s : ByteArray) {z : Value} (hz : (zeroValue e).run P w = .ok z w) (hf : Instr.findNow .string (.string s) es.toList 0 = some none) :
    (Instr.lookup t (.map (some b)) (.string s) false).run P w = .ok z w := by
  simp [Instr.lookup, run_underlying ht, MapKept.run_getObj_map hb, run_ck hk, run_fk hk s _ hf, hz, Result.andThen]
theorem below_lay {B : Nat} {W : World} (h : Below B W w) (hb : w.heap[b]? = some (.map es clk)) (hB : B ≤ b) (o : Obj) : Below B W (setBlock w b o) :=
  ⟨h.os, h.tape, h.output, by have := h.size; simp only [setBlock, Array.size_setIfInBounds]; omega, fun i hi => (heap_setBlock_other hb o (by omega)).trans (h.block i hi)⟩
end
def opOf (s : ByteArray) : Int := if s = P.sCat then 9 else if s = P.sRep then 10 else if s = P.sLen then 11 else if s = P.sHex then 12 else 0
def four : Array MapEntry := #[⟨.string P.sCat, .int .i64 9, 0⟩, ⟨.string P.sRep, .int .i64 10, 1⟩, ⟨.string P.sLen, .int .i64 11, 2⟩, ⟨.string P.sHex, .int .i64 12, 3⟩]
theorem zeroI (w : World) : (zeroValue 3).run Try.prog w = .ok (.int .i64 0) w := by kernel_rfl
theorem four_runs (w : World) (s : ByteArray) : ∃ M1 M2 M3 M4 : World,
    (Instr.mapUpdate 114 (.map (some w.heap.size)) (.string ⟨#[99, 97, 116]⟩) (.int .i64 9)).run Try.prog (w.alloc (.map #[] 0)) = .ok () M1 ∧
    (Instr.mapUpdate 114 (.map (some w.heap.size)) (.string ⟨#[114, 101, 112]⟩) (.int .i64 10)).run Try.prog M1 = .ok () M2 ∧
    (Instr.mapUpdate 114 (.map (some w.heap.size)) (.string ⟨#[108, 101, 110]⟩) (.int .i64 11)).run Try.prog M2 = .ok () M3 ∧
    (Instr.mapUpdate 114 (.map (some w.heap.size)) (.string ⟨#[104, 101, 120]⟩) (.int .i64 12)).run Try.prog M3 = .ok () M4 ∧
    (Instr.lookup 114 (.map (some w.heap.size)) (.string s) false).run Try.prog M4 = .ok (.int .i64 (opOf s)) M4 ∧ Below w.heap.size w M4 := by
  have h0 : (w.alloc (.map #[] 0)).heap[w.heap.size]? = some (.map #[] 0) := blk_new w _
  have r1 := run_lay (P := Try.prog) (t := 114) Try.underlying114 Try.underlying9 h0 P.sCat (.int .i64 9) rfl
  have h1 := heap_setBlock_same h0 (.map ((#[] : Array MapEntry).push ⟨.string P.sCat, .int .i64 9, 0⟩) (0 + 1))
  have r2 := run_lay (P := Try.prog) (t := 114) Try.underlying114 Try.underlying9 h1 P.sRep (.int .i64 10) (by kernel_rfl)
  have h2 := heap_setBlock_same h1 (.map (((#[] : Array MapEntry).push ⟨.string P.sCat, .int .i64 9, 0⟩).push ⟨.string P.sRep, .int .i64 10, 0 + 1⟩) (0 + 1 + 1))
  have r3 := run_lay (P := Try.prog) (t := 114) Try.underlying114 Try.underlying9 h2 P.sLen (.int .i64 11) (by kernel_rfl)
  have h3 := heap_setBlock_same h2 (.map ((((#[] : Array MapEntry).push ⟨.string P.sCat, .int .i64 9, 0⟩).push ⟨.string P.sRep, .int .i64 10, 0 + 1⟩).push ⟨.string P.sLen, .int .i64 11, 0 + 1 + 1⟩) (0 + 1 + 1 + 1))
  have r4 := run_lay (P := Try.prog) (t := 114) Try.underlying114 Try.underlying9 h3 P.sHex (.int .i64 12) (by kernel_rfl)
  have h4 := heap_setBlock_same h3 (.map four 4)
  refine ⟨_, _, _, _, r1, r2, r3, r4, ?_, ?_⟩
  · by_cases c1 : s = P.sCat
    · have : opOf s = 9 := if_pos c1
      rw [this]
      subst c1
      exact run_look Try.underlying114 Try.underlying9 h4 _ (i := 0) (by kernel_rfl)
    by_cases c2 : s = P.sRep
    · have : opOf s = 10 := by unfold opOf; rw [if_neg c1, if_pos c2]
      rw [this]
      subst c2
      exact run_look Try.underlying114 Try.underlying9 h4 _ (i := 1) (by kernel_rfl)
    by_cases c3 : s = P.sLen
    · have : opOf s = 11 := by unfold opOf; rw [if_neg c1, if_neg c2, if_pos c3]
      rw [this]
      subst c3
      exact run_look Try.underlying114 Try.underlying9 h4 _ (i := 2) (by kernel_rfl)
    by_cases c4 : s = P.sHex
    · have : opOf s = 12 := by unfold opOf; rw [if_neg c1, if_neg c2, if_neg c3, if_pos c4]
      rw [this]
      subst c4
      exact run_look Try.underlying114 Try.underlying9 h4 _ (i := 3) (by kernel_rfl)
    · have : opOf s = 0 := by unfold opOf; rw [if_neg c1, if_neg c2, if_neg c3, if_neg c4]
      rw [this]
      refine run_miss Try.underlying114 Try.underlying9 h4 _ (zeroI _) ?_
      have e1 : (s == P.sCat) = false := by cases h : (s == P.sCat) with | false => rfl | true => exact absurd (ba_eq h) c1
      have e2 : (s == P.sRep) = false := by cases h : (s == P.sRep) with | false => rfl | true => exact absurd (ba_eq h) c2
      have e3 : (s == P.sLen) = false := by cases h : (s == P.sLen) with | false => rfl | true => exact absurd (ba_eq h) c3
      have e4 : (s == P.sHex) = false := by cases h : (s == P.sHex) with | false => rfl | true => exact absurd (ba_eq h) c4
      simp only [four, Instr.findNow, Instr.sameNow, e1, e2, e3, e4]
  · refine below_lay (below_lay (below_lay (below_lay ?_ h0 (Nat.le_refl _) _) h1 (Nat.le_refl _) _) h2 (Nat.le_refl _) _) h3 (Nat.le_refl _) _
    exact (Below.refl _ _).alloc (Nat.le_refl _) _
end Go.Proofs.Ytbdcndkafaajpaa.A
end
