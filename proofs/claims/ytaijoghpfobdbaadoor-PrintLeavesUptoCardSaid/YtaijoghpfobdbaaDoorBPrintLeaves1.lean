/- The texts of the law PrintLeaves, put together by a program of this workplace out of its own texts and of what the kit's print has written: walks of the functions, plain laws. No condition but those in the theorems. -/
import Derived.Test.YtaijoghpfobdbaaDoorProg
import Derived.Below
import Derived.Deep.Draws
import Derived.Deep.AppendLies
import Derived.Maps.AppendAt
import Derived.OwnWalk
import Derived.Laws.BytesArg
import Derived.Laws.MakeOwn
import Derived.Laws.OwnMore
import Derived.Deep.OwnRows
import Derived.Tactics
import Derived.Lib.ConvBytes
import Derived.Laws.Slices
import Derived.WalkKit
import Derived.KernelRfl
import Derived.RowKit3
import Derived.Deep.LoopGhost
import Derived.Deep.QuietTactic
import Derived.BigQuiet
import Derived.WideLaws
import Derived.Deep.DeepCutAuto
import Derived.Deep.CutBlock
import Derived.Deep.RegionHeld3
import Derived.Laws.Rows
import Derived.Lib.AppendStr
import Derived.ArgAppend
import Derived.Laws.IdiomCopy
import Derived.OrdersHeld
import Derived.Laws.BitsLemmas
import Derived.RowKit
import Derived.Test.YtaijoghpfobdbaaDoorShelf
import Derived.BigCall
import Derived.Laws.Externs
import Derived.Test.YtaijoghpfobdbaaDoorBPrintLeaves0
section
namespace Go.Proofs.YtaijoghpfobdbaaDoor.Y
open Go.RowKit Go.Proofs.YtaijoghpfobdbaaDoorW.PrintWords Go.Proofs.YtaijoghpfobdbaaDoorW.PrintLast Go.Proofs.YtaijoghpfobdbaaDoorW.PrintMore
attribute [local go_sem] max2_int min2_int max_two min_two max_three min_three max_four min_four   -- for this text's walks alone
set_option linter.unusedVariables false
set_option linter.unusedSimpArgs false
def errW : Option Int → Value
  | none => .nilIface
  | some c => .iface 0 (.int .i64 c)
theorem errW_none : errW none = .nilIface := rfl
theorem errW_some (c : Int) : errW (some c) = .iface 0 (.int .i64 c) := rfl
end Go.Proofs.YtaijoghpfobdbaaDoor.Y
end
section
namespace Go.Proofs.YtaijoghpfobdbaaDoor.Y
open Go.RowKit Go.Proofs.YtaijoghpfobdbaaDoorW.PrintWords Go.Proofs.YtaijoghpfobdbaaDoorW.PrintLast Go.Proofs.YtaijoghpfobdbaaDoorW.PrintMore
attribute [local go_sem] max2_int min2_int max_two min_two max_three min_three max_four min_four   -- for this text's walks alone
set_option linter.unusedVariables false
set_option linter.unusedSimpArgs false
def lex_isDigit.f (a0 : Int) : Option (Bool) := if a0 ≥ 48 then (some (decide (a0 ≤ 57))) else (some false)
set_option maxHeartbeats 8000000 in
set_option maxRecDepth 100000 in
theorem lex_isDigit.calls (a0 : Int) (r : Bool) (w : World) (h : lex_isDigit.f a0 = some r) :
    Calls Tryd.prog 80 #[.int .u8 a0] w fun e w' => e = .returned (.bool r) ∧ Drawn0 w w' := by
  have H : (if a0 ≥ 48 then (some (decide (a0 ≤ 57))) else (some false)) = some r := h
  clear h
  by_cases c2 : a0 ≥ 48
  · rw [if_pos c2] at H
    have c2b0 : decide (48 ≤ a0) = true := decide_eq_true c2
    clear c2
    obtain rfl := Option.some.inj H
    go_enter Tryd.func80, Tryd.ntmps80
    go_wp2
    go_ret
    exact ⟨by first | rfl | (simp; done) | (simp [*]; done), by repeat (first | exact Drawn0.refl _ | apply Drawn0.step)⟩
  · rw [if_neg c2] at H
    have c2b0 : decide (48 ≤ a0) = false := decide_eq_false c2
    clear c2
    obtain rfl := Option.some.inj H
    go_enter Tryd.func80, Tryd.ntmps80
    go_wp2
    go_ret
    exact ⟨by first | rfl | (simp; done) | (simp [*]; done), by repeat (first | exact Drawn0.refl _ | apply Drawn0.step)⟩
def lex_isLetter.f (a0 : Int) : Option (Bool) := if a0 ≥ 97 then (if a0 ≤ 122 then (some true) else (if a0 ≥ 65 then (if a0 ≤ 90 then (some true) else (some (a0 == 95))) else (some (a0 == 95)))) else (if a0 ≥ 65 then (if a0 ≤ 90 then (some true) else (some (a0 == 95))) else (some (a0 == 95)))
set_option maxHeartbeats 8000000 in
set_option maxRecDepth 100000 in
theorem lex_isLetter.calls (a0 : Int) (r : Bool) (w : World) (h : lex_isLetter.f a0 = some r) :
    Calls Tryd.prog 77 #[.int .u8 a0] w fun e w' => e = .returned (.bool r) ∧ Drawn0 w w' := by
  have H : (if a0 ≥ 97 then (if a0 ≤ 122 then (some true) else (if a0 ≥ 65 then (if a0 ≤ 90 then (some true) else (some (a0 == 95))) else (some (a0 == 95)))) else (if a0 ≥ 65 then (if a0 ≤ 90 then (some true) else (some (a0 == 95))) else (some (a0 == 95)))) = some r := h
  clear h
  by_cases c2 : a0 ≥ 97
  · rw [if_pos c2] at H
    have c2b0 : decide (97 ≤ a0) = true := decide_eq_true c2
    clear c2
    by_cases c3 : a0 ≤ 122
    · rw [if_pos c3] at H
      have c3b0 : decide (a0 ≤ 122) = true := decide_eq_true c3
      clear c3
      obtain rfl := Option.some.inj H
      go_enter Tryd.func77, Tryd.ntmps77
      go_wp2
      go_ret
      exact ⟨by first | rfl | (simp; done) | (simp [*]; done), by repeat (first | exact Drawn0.refl _ | apply Drawn0.step)⟩
    · rw [if_neg c3] at H
      have c3b0 : decide (a0 ≤ 122) = false := decide_eq_false c3
      clear c3
      by_cases c4 : a0 ≥ 65
      · rw [if_pos c4] at H
        have c4b0 : decide (65 ≤ a0) = true := decide_eq_true c4
        clear c4
        by_cases c5 : a0 ≤ 90
        · rw [if_pos c5] at H
          have c5b0 : decide (a0 ≤ 90) = true := decide_eq_true c5
          clear c5
          obtain rfl := Option.some.inj H
          go_enter Tryd.func77, Tryd.ntmps77
          go_wp2
          go_ret
          exact ⟨by first | rfl | (simp; done) | (simp [*]; done), by repeat (first | exact Drawn0.refl _ | apply Drawn0.step)⟩
        · rw [if_neg c5] at H
          have c5b0 : decide (a0 ≤ 90) = false := decide_eq_false c5
          clear c5
          obtain rfl := Option.some.inj H
          go_enter Tryd.func77, Tryd.ntmps77
          go_wp2
          go_ret
          exact ⟨by first | rfl | (simp; done) | (simp [*]; done), by repeat (first | exact Drawn0.refl _ | apply Drawn0.step)⟩
      · rw [if_neg c4] at H
        have c4b0 : decide (65 ≤ a0) = false := decide_eq_false c4
        clear c4
        obtain rfl := Option.some.inj H
        go_enter Tryd.func77, Tryd.ntmps77
        go_wp2
        go_ret
        exact ⟨by first | rfl | (simp; done) | (simp [*]; done), by repeat (first | exact Drawn0.refl _ | apply Drawn0.step)⟩
  · rw [if_neg c2] at H
    have c2b0 : decide (97 ≤ a0) = false := decide_eq_false c2
    clear c2
    by_cases c6 : a0 ≥ 65
    · rw [if_pos c6] at H
      have c6b0 : decide (65 ≤ a0) = true := decide_eq_true c6
      clear c6
      by_cases c7 : a0 ≤ 90
      · rw [if_pos c7] at H
        have c7b0 : decide (a0 ≤ 90) = true := decide_eq_true c7
        clear c7
        obtain rfl := Option.some.inj H
        go_enter Tryd.func77, Tryd.ntmps77
        go_wp2
        go_ret
        exact ⟨by first | rfl | (simp; done) | (simp [*]; done), by repeat (first | exact Drawn0.refl _ | apply Drawn0.step)⟩
      · rw [if_neg c7] at H
        have c7b0 : decide (a0 ≤ 90) = false := decide_eq_false c7
        clear c7
        obtain rfl := Option.some.inj H
        go_enter Tryd.func77, Tryd.ntmps77
        go_wp2
        go_ret
        exact ⟨by first | rfl | (simp; done) | (simp [*]; done), by repeat (first | exact Drawn0.refl _ | apply Drawn0.step)⟩
    · rw [if_neg c6] at H
      have c6b0 : decide (65 ≤ a0) = false := decide_eq_false c6
      clear c6
      obtain rfl := Option.some.inj H
      go_enter Tryd.func77, Tryd.ntmps77
      go_wp2
      go_ret
      exact ⟨by first | rfl | (simp; done) | (simp [*]; done), by repeat (first | exact Drawn0.refl _ | apply Drawn0.step)⟩
end Go.Proofs.YtaijoghpfobdbaaDoor.Y
end
section
set_option linter.unusedVariables false
set_option linter.unusedSimpArgs false
namespace Go.Proofs.YtaijoghpfobdbaaDoor.G
open Go.RowKit Go.Proofs.YtaijoghpfobdbaaDoorW.PrintWords Go.Proofs.YtaijoghpfobdbaaDoorW.PrintLast Go.Proofs.YtaijoghpfobdbaaDoorW.PrintMore
theorem w64 {x : Int} (h0 : 0 ≤ x) (h1 : x ≤ 4611686018427387904) : wrap64 x = x := by unfold wrap64; omega
def dig (c : Int) : Bool := decide (48 ≤ c ∧ c ≤ 57)
def letr (c : Int) : Bool := decide ((97 ≤ c ∧ c ≤ 122) ∨ (65 ≤ c ∧ c ≤ 90) ∨ c = 95)
def okb (n : Nat) (c : Int) : Bool := if n = 80 then dig c else letr c || dig c
theorem dig_eq (c : Int) : Y.lex_isDigit.f c = some (dig c) := by
  unfold Y.lex_isDigit.f dig
  by_cases h : c ≥ 48
  · rw [if_pos h]; congr 2; simp; omega
  · rw [if_neg h]; congr 1; symm; apply decide_eq_false; omega
theorem letr_eq (c : Int) : Y.lex_isLetter.f c = some (letr c) := by
  unfold Y.lex_isLetter.f letr
  have e : ∀ x : Bool, (x = true ↔ ((97 ≤ c ∧ c ≤ 122) ∨ (65 ≤ c ∧ c ≤ 90) ∨ c = 95)) → some x = some (decide ((97 ≤ c ∧ c ≤ 122) ∨ (65 ≤ c ∧ c ≤ 90) ∨ c = 95)) := fun x h => by rw [Option.some.injEq, Bool.eq_iff_iff, decide_eq_true_iff]; exact h
  repeat' split
  all_goals refine e _ ?_
  all_goals first | (simp only [true_iff]; omega) | (rw [beq_iff_eq]; omega)
theorem dig_calls (c : Int) (w : World) : Calls Tryd.prog 80 #[.int .u8 c] w fun e w' => e = .returned (.bool (dig c)) ∧ Drawn0 w w' := Y.lex_isDigit.calls c _ w (dig_eq c)
theorem letr_calls (c : Int) (w : World) : Calls Tryd.prog 77 #[.int .u8 c] w fun e w' => e = .returned (.bool (letr c)) ∧ Drawn0 w w' := Y.lex_isLetter.calls c _ w (letr_eq c)
theorem drawn0_trans {a b c : World} (h : Drawn0 a b) (h2 : Drawn0 b c) : Drawn0 a c := by
  obtain ⟨⟨m, rfl⟩⟩ := h2
  exact h.step m
set_option maxHeartbeats 1000000 in
set_option maxRecDepth 100000 in
theorem ldName (c : Int) (w : World) : Calls Tryd.prog 102 #[.int .u8 c] w fun e w' => e = .returned (.bool (letr c || dig c)) ∧ Drawn0 w w' := by
  have HL := Aside0.mk (letr_calls c w)
  cases hl : letr c with
  | true =>
    rw [hl] at HL
    go_enter Tryd.func102, Tryd.ntmps102
    go_wp2_with (go_at_call 77; refine HL.out.mono ?_; rintro e w1 ⟨rfl, hd1⟩; have HD := Aside0.mk hd1; clear hd1)
    go_ret
    exact ⟨rfl, HD.out⟩
  | false =>
    rw [hl] at HL
    go_enter Tryd.func102, Tryd.ntmps102
    go_wp2_with (first
      | (go_at_call 77; refine HL.out.mono ?_; rintro e w1 ⟨rfl, hd1⟩; have HD := Aside0.mk hd1; have HG := Aside0.mk (dig_calls c w1); clear hd1)
      | (go_at_call 80; refine HG.out.mono ?_; rintro e w2 ⟨rfl, hd2⟩; have HD2 := Aside0.mk (drawn0_trans HD.out hd2); clear hd2))
    go_ret
    exact ⟨by simp, HD2.out⟩
set_option maxHeartbeats 1000000 in
set_option maxRecDepth 100000 in
theorem ldtoken (c : Int) (w : World) : Calls Tryd.prog 79 #[.int .u8 c] w fun e w' => e = .returned (.bool (letr c || dig c)) ∧ Drawn0 w w' := by
  have HL := Aside0.mk (letr_calls c w)
  cases hl : letr c with
  | true =>
    rw [hl] at HL
    go_enter Tryd.func79, Tryd.ntmps79
    go_wp2_with (go_at_call 77; refine HL.out.mono ?_; rintro e w1 ⟨rfl, hd1⟩; have HD := Aside0.mk hd1; clear hd1)
    go_ret
    exact ⟨rfl, HD.out⟩
  | false =>
    rw [hl] at HL
    go_enter Tryd.func79, Tryd.ntmps79
    go_wp2_with (first
      | (go_at_call 77; refine HL.out.mono ?_; rintro e w1 ⟨rfl, hd1⟩; have HD := Aside0.mk hd1; have HG := Aside0.mk (dig_calls c w1); clear hd1)
      | (go_at_call 80; refine HG.out.mono ?_; rintro e w2 ⟨rfl, hd2⟩; have HD2 := Aside0.mk (drawn0_trans HD.out hd2); clear hd2))
    go_ret
    exact ⟨by simp, HD2.out⟩
def tw (n : Nat) (l : List UInt8) : Nat := (l.takeWhile fun b => okb n (b.toNat : Int)).length
theorem tw_cons (n : Nat) (b : UInt8) (l : List UInt8) : tw n (b :: l) = if okb n (b.toNat : Int) = true then tw n l + 1 else 0 := by
  unfold tw; rw [List.takeWhile_cons]; split <;> simp
def left : Value → Nat
  | .int _ i => i.toNat
  | _ => 0
set_option maxHeartbeats 2000000 in
set_option maxRecDepth 100000 in
theorem runDig (s : ByteArray) (i0 : Nat) (w : World) (hi0 : i0 ≤ s.size) (hs : s.size ≤ 2305843009213693952) :
    Calls Tryd.prog 78 #[.string s, .int .i64 (i0 : Int), .func (.func 80) #[] #[]] w fun e w' => e = .returned (.int .i64 ((i0 + tw 80 (s.data.toList.drop i0) : Nat) : Int)) ∧ Drawn0 w w' := by
  have HS := Aside0.mk hs
  have HI := Aside0.mk hi0
  have hsz : s.size = s.data.toList.length := (data_length s).symm
  have HZ := Aside0.mk hsz
  clear hs hi0 hsz
  go_enter Tryd.func78, Tryd.ntmps78
  go_wp2
  go_loopw [1] (fun tv wr => ∃ i : Nat, tv = .int .i64 (i : Int) ∧ Aside0 (i ≤ s.size) ∧ Aside0 (i + tw 80 (s.data.toList.drop i) = i0 + tw 80 (s.data.toList.drop i0)) ∧ Aside0 (Drawn0 w wr)) (fun tv _ => s.size - left tv)
  case atStart => exact ⟨i0, rfl, HI, ⟨rfl⟩, ⟨Drawn0.refl _⟩⟩
  case round =>
    obtain ⟨i, rfl, hi, HX, HD⟩ := hrel
    by_cases c : i < s.size
    · have c1 : decide ((i : Int) < (s.size : Int)) = true := decide_eq_true (by omega)
      have c2 : decide (i < s.size) = true := decide_eq_true c
      have p1 : (0 ≤ (i : Int)) = True := eq_true (by omega)
      have p2 : ((i : Int) < (s.size : Int)) = True := eq_true (by omega)
      have hx := bt_at s (i : Int)
      obtain ⟨b, hb⟩ : ∃ b : Int, b = (((s[i]'c).toNat : Nat) : Int) := ⟨_, rfl⟩
      have HBD : Aside0 (s.data.toList.drop i = (s.data.toList[i]'(by rw [← HZ.out]; exact c)) :: s.data.toList.drop (i + 1)) := ⟨List.drop_eq_getElem_cons _⟩
      have HBB : Aside0 (b = (((s.data.toList[i]'(by rw [← HZ.out]; exact c)).toNat : Nat) : Int)) := ⟨by rw [hb]; rfl⟩
      have hb2 : (((s[i]'c).toNat : Nat) : Int) = b := hb.symm
      clear hb hx
      cases ho : okb 80 b with
      | true =>
        have HC : Aside0 (∀ w1, Calls Tryd.prog 80 #[.int .u8 b] w1 fun e w' => e = .returned (.bool true) ∧ Drawn0 w1 w') := ⟨fun w1 => by have := dig_calls b w1; rw [show dig b = okb 80 b from rfl, ho] at this; exact this⟩
        have HX2 : Aside0 ((i + 1) + tw 80 (s.data.toList.drop (i + 1)) = i0 + tw 80 (s.data.toList.drop i0)) := ⟨by
          rw [← HX.out, HBD.out, tw_cons, ← HBB.out, ho, if_pos rfl]; omega⟩
        have W1 : Aside0 (wrap64 ((i : Int) + 1) = ((i + 1 : Nat) : Int)) := ⟨by have := HS.out; rw [w64 (by omega) (by omega)]; rfl⟩
        have e1 : ∀ [Inhabited Unit], wrap64 ((i : Int) + 1) = ((i + 1 : Nat) : Int) := fun {_} => W1.out
        clear HBD HBB ho HX
        go_wp2_with (go_at_call 80; refine (HC.out _).mono ?_; rintro e w2 ⟨rfl, hd2⟩; have HD2 := Aside0.mk (drawn0_trans HD.out hd2); clear hd2 HD)
        refine ⟨⟨i + 1, by rw [W1.out], ⟨by omega⟩, HX2, HD2⟩, ?_⟩
        show s.size - (wrap64 ((i : Int) + 1)).toNat < s.size - ((i : Nat) : Int).toNat
        rw [W1.out, Int.toNat_natCast, Int.toNat_natCast]
        omega
      | false =>
        have HC : Aside0 (∀ w1, Calls Tryd.prog 80 #[.int .u8 b] w1 fun e w' => e = .returned (.bool false) ∧ Drawn0 w1 w') := ⟨fun w1 => by have := dig_calls b w1; rw [show dig b = okb 80 b from rfl, ho] at this; exact this⟩
        have HX2 : Aside0 (i = i0 + tw 80 (s.data.toList.drop i0)) := ⟨by
          rw [← HX.out, HBD.out, tw_cons, ← HBB.out, ho, if_neg (by decide)]; omega⟩
        clear HBD HBB ho HX
        go_wp2_with (go_at_call 80; refine (HC.out _).mono ?_; rintro e w2 ⟨rfl, hd2⟩; have HD2 := Aside0.mk (drawn0_trans HD.out hd2); clear hd2 HD)
        go_ret
        exact ⟨by rw [← HX2.out]; rfl, HD2.out⟩
    · have c1 : decide ((i : Int) < (s.size : Int)) = false := decide_eq_false (by omega)
      have c2 : decide (i < s.size) = false := decide_eq_false c
      have HX2 : Aside0 (i = i0 + tw 80 (s.data.toList.drop i0)) := ⟨by
        rw [← HX.out, List.drop_of_length_le (by rw [← HZ.out]; omega)]; rfl⟩
      clear HX
      go_wp2
      go_ret
      exact ⟨by rw [← HX2.out]; rfl, HD.out⟩
set_option maxHeartbeats 2000000 in
set_option maxRecDepth 100000 in
theorem runName (s : ByteArray) (i0 : Nat) (w : World) (hi0 : i0 ≤ s.size) (hs : s.size ≤ 2305843009213693952) :
    Calls Tryd.prog 78 #[.string s, .int .i64 (i0 : Int), .func (.func 102) #[] #[]] w fun e w' => e = .returned (.int .i64 ((i0 + tw 102 (s.data.toList.drop i0) : Nat) : Int)) ∧ Drawn0 w w' := by
  have HS := Aside0.mk hs
  have HI := Aside0.mk hi0
  have hsz : s.size = s.data.toList.length := (data_length s).symm
  have HZ := Aside0.mk hsz
  clear hs hi0 hsz
  go_enter Tryd.func78, Tryd.ntmps78
  go_wp2
  go_loopw [1] (fun tv wr => ∃ i : Nat, tv = .int .i64 (i : Int) ∧ Aside0 (i ≤ s.size) ∧ Aside0 (i + tw 102 (s.data.toList.drop i) = i0 + tw 102 (s.data.toList.drop i0)) ∧ Aside0 (Drawn0 w wr)) (fun tv _ => s.size - left tv)
  case atStart => exact ⟨i0, rfl, HI, ⟨rfl⟩, ⟨Drawn0.refl _⟩⟩
  case round =>
    obtain ⟨i, rfl, hi, HX, HD⟩ := hrel
    by_cases c : i < s.size
    · have c1 : decide ((i : Int) < (s.size : Int)) = true := decide_eq_true (by omega)
      have c2 : decide (i < s.size) = true := decide_eq_true c
      have p1 : (0 ≤ (i : Int)) = True := eq_true (by omega)
      have p2 : ((i : Int) < (s.size : Int)) = True := eq_true (by omega)
      have hx := bt_at s (i : Int)
      obtain ⟨b, hb⟩ : ∃ b : Int, b = (((s[i]'c).toNat : Nat) : Int) := ⟨_, rfl⟩
      have HBD : Aside0 (s.data.toList.drop i = (s.data.toList[i]'(by rw [← HZ.out]; exact c)) :: s.data.toList.drop (i + 1)) := ⟨List.drop_eq_getElem_cons _⟩
      have HBB : Aside0 (b = (((s.data.toList[i]'(by rw [← HZ.out]; exact c)).toNat : Nat) : Int)) := ⟨by rw [hb]; rfl⟩
      have hb2 : (((s[i]'c).toNat : Nat) : Int) = b := hb.symm
      clear hb hx
      cases ho : okb 102 b with
      | true =>
        have HC : Aside0 (∀ w1, Calls Tryd.prog 102 #[.int .u8 b] w1 fun e w' => e = .returned (.bool true) ∧ Drawn0 w1 w') := ⟨fun w1 => by have := ldName b w1; rw [show (letr b || dig b) = okb 102 b from rfl, ho] at this; exact this⟩
        have HX2 : Aside0 ((i + 1) + tw 102 (s.data.toList.drop (i + 1)) = i0 + tw 102 (s.data.toList.drop i0)) := ⟨by
          rw [← HX.out, HBD.out, tw_cons, ← HBB.out, ho, if_pos rfl]; omega⟩
        have W1 : Aside0 (wrap64 ((i : Int) + 1) = ((i + 1 : Nat) : Int)) := ⟨by have := HS.out; rw [w64 (by omega) (by omega)]; rfl⟩
        have e1 : ∀ [Inhabited Unit], wrap64 ((i : Int) + 1) = ((i + 1 : Nat) : Int) := fun {_} => W1.out
        clear HBD HBB ho HX
        go_wp2_with (go_at_call 102; refine (HC.out _).mono ?_; rintro e w2 ⟨rfl, hd2⟩; have HD2 := Aside0.mk (drawn0_trans HD.out hd2); clear hd2 HD)
        refine ⟨⟨i + 1, by rw [W1.out], ⟨by omega⟩, HX2, HD2⟩, ?_⟩
        show s.size - (wrap64 ((i : Int) + 1)).toNat < s.size - ((i : Nat) : Int).toNat
        rw [W1.out, Int.toNat_natCast, Int.toNat_natCast]
        omega
      | false =>
        have HC : Aside0 (∀ w1, Calls Tryd.prog 102 #[.int .u8 b] w1 fun e w' => e = .returned (.bool false) ∧ Drawn0 w1 w') := ⟨fun w1 => by have := ldName b w1; rw [show (letr b || dig b) = okb 102 b from rfl, ho] at this; exact this⟩
        have HX2 : Aside0 (i = i0 + tw 102 (s.data.toList.drop i0)) := ⟨by
          rw [← HX.out, HBD.out, tw_cons, ← HBB.out, ho, if_neg (by decide)]; omega⟩
        clear HBD HBB ho HX
        go_wp2_with (go_at_call 102; refine (HC.out _).mono ?_; rintro e w2 ⟨rfl, hd2⟩; have HD2 := Aside0.mk (drawn0_trans HD.out hd2); clear hd2 HD)
        go_ret
        exact ⟨by rw [← HX2.out]; rfl, HD2.out⟩
    · have c1 : decide ((i : Int) < (s.size : Int)) = false := decide_eq_false (by omega)
      have c2 : decide (i < s.size) = false := decide_eq_false c
      have HX2 : Aside0 (i = i0 + tw 102 (s.data.toList.drop i0)) := ⟨by
        rw [← HX.out, List.drop_of_length_le (by rw [← HZ.out]; omega)]; rfl⟩
      clear HX
      go_wp2
      go_ret
      exact ⟨by rw [← HX2.out]; rfl, HD.out⟩
set_option maxHeartbeats 2000000 in
set_option maxRecDepth 100000 in
theorem runToken (s : ByteArray) (i0 : Nat) (w : World) (hi0 : i0 ≤ s.size) (hs : s.size ≤ 2305843009213693952) :
    Calls Tryd.prog 78 #[.string s, .int .i64 (i0 : Int), .func (.func 79) #[] #[]] w fun e w' => e = .returned (.int .i64 ((i0 + tw 79 (s.data.toList.drop i0) : Nat) : Int)) ∧ Drawn0 w w' := by
  have HS := Aside0.mk hs
  have HI := Aside0.mk hi0
  have hsz : s.size = s.data.toList.length := (data_length s).symm
  have HZ := Aside0.mk hsz
  clear hs hi0 hsz
  go_enter Tryd.func78, Tryd.ntmps78
  go_wp2
  go_loopw [1] (fun tv wr => ∃ i : Nat, tv = .int .i64 (i : Int) ∧ Aside0 (i ≤ s.size) ∧ Aside0 (i + tw 79 (s.data.toList.drop i) = i0 + tw 79 (s.data.toList.drop i0)) ∧ Aside0 (Drawn0 w wr)) (fun tv _ => s.size - left tv)
  case atStart => exact ⟨i0, rfl, HI, ⟨rfl⟩, ⟨Drawn0.refl _⟩⟩
  case round =>
    obtain ⟨i, rfl, hi, HX, HD⟩ := hrel
    by_cases c : i < s.size
    · have c1 : decide ((i : Int) < (s.size : Int)) = true := decide_eq_true (by omega)
      have c2 : decide (i < s.size) = true := decide_eq_true c
      have p1 : (0 ≤ (i : Int)) = True := eq_true (by omega)
      have p2 : ((i : Int) < (s.size : Int)) = True := eq_true (by omega)
      have hx := bt_at s (i : Int)
      obtain ⟨b, hb⟩ : ∃ b : Int, b = (((s[i]'c).toNat : Nat) : Int) := ⟨_, rfl⟩
      have HBD : Aside0 (s.data.toList.drop i = (s.data.toList[i]'(by rw [← HZ.out]; exact c)) :: s.data.toList.drop (i + 1)) := ⟨List.drop_eq_getElem_cons _⟩
      have HBB : Aside0 (b = (((s.data.toList[i]'(by rw [← HZ.out]; exact c)).toNat : Nat) : Int)) := ⟨by rw [hb]; rfl⟩
      have hb2 : (((s[i]'c).toNat : Nat) : Int) = b := hb.symm
      clear hb hx
      cases ho : okb 79 b with
      | true =>
        have HC : Aside0 (∀ w1, Calls Tryd.prog 79 #[.int .u8 b] w1 fun e w' => e = .returned (.bool true) ∧ Drawn0 w1 w') := ⟨fun w1 => by have := ldtoken b w1; rw [show (letr b || dig b) = okb 79 b from rfl, ho] at this; exact this⟩
        have HX2 : Aside0 ((i + 1) + tw 79 (s.data.toList.drop (i + 1)) = i0 + tw 79 (s.data.toList.drop i0)) := ⟨by
          rw [← HX.out, HBD.out, tw_cons, ← HBB.out, ho, if_pos rfl]; omega⟩
        have W1 : Aside0 (wrap64 ((i : Int) + 1) = ((i + 1 : Nat) : Int)) := ⟨by have := HS.out; rw [w64 (by omega) (by omega)]; rfl⟩
        have e1 : ∀ [Inhabited Unit], wrap64 ((i : Int) + 1) = ((i + 1 : Nat) : Int) := fun {_} => W1.out
        clear HBD HBB ho HX
        go_wp2_with (go_at_call 79; refine (HC.out _).mono ?_; rintro e w2 ⟨rfl, hd2⟩; have HD2 := Aside0.mk (drawn0_trans HD.out hd2); clear hd2 HD)
        refine ⟨⟨i + 1, by rw [W1.out], ⟨by omega⟩, HX2, HD2⟩, ?_⟩
        show s.size - (wrap64 ((i : Int) + 1)).toNat < s.size - ((i : Nat) : Int).toNat
        rw [W1.out, Int.toNat_natCast, Int.toNat_natCast]
        omega
      | false =>
        have HC : Aside0 (∀ w1, Calls Tryd.prog 79 #[.int .u8 b] w1 fun e w' => e = .returned (.bool false) ∧ Drawn0 w1 w') := ⟨fun w1 => by have := ldtoken b w1; rw [show (letr b || dig b) = okb 79 b from rfl, ho] at this; exact this⟩
        have HX2 : Aside0 (i = i0 + tw 79 (s.data.toList.drop i0)) := ⟨by
          rw [← HX.out, HBD.out, tw_cons, ← HBB.out, ho, if_neg (by decide)]; omega⟩
        clear HBD HBB ho HX
        go_wp2_with (go_at_call 79; refine (HC.out _).mono ?_; rintro e w2 ⟨rfl, hd2⟩; have HD2 := Aside0.mk (drawn0_trans HD.out hd2); clear hd2 HD)
        go_ret
        exact ⟨by rw [← HX2.out]; rfl, HD2.out⟩
    · have c1 : decide ((i : Int) < (s.size : Int)) = false := decide_eq_false (by omega)
      have c2 : decide (i < s.size) = false := decide_eq_false c
      have HX2 : Aside0 (i = i0 + tw 79 (s.data.toList.drop i0)) := ⟨by
        rw [← HX.out, List.drop_of_length_le (by rw [← HZ.out]; omega)]; rfl⟩
      clear HX
      go_wp2
      go_ret
      exact ⟨by rw [← HX2.out]; rfl, HD.out⟩
end Go.Proofs.YtaijoghpfobdbaaDoor.G
end
section
set_option linter.unusedVariables false
set_option linter.unusedSimpArgs false
namespace Go.Proofs.YtaijoghpfobdbaaDoor.G
open Go.RowKit Go.Proofs.YtaijoghpfobdbaaDoorW.PrintWords Go.Proofs.YtaijoghpfobdbaaDoorW.PrintLast Go.Proofs.YtaijoghpfobdbaaDoorW.PrintMore
theorem add64 (x y : Nat) (w : World) : (callFunc 100 #[.int .u64 (x : Int), .int .u64 (y : Int), .int .u64 0]).run Tryd.prog w = .ok (.value (.tuple #[.int .u64 (((x + y) % 18446744073709551616 : Nat) : Int), .int .u64 (((x + y) / 18446744073709551616 : Nat) : Int)])) w := by
  rw [run_callFunc_extern Tryd.func100 (by kernel_rfl) (by kernel_rfl) (by kernel_rfl) (e := add64Entry) (by kernel_rfl), run_add64 x y 0 (by omega) (by omega) (by omega) (by omega)]
  simp only [Result.andThen]
  congr 5 <;> omega
def dval (b : UInt8) : Nat := (b.toNat + 208) % 256
def numv : Nat → List UInt8 → Option Nat
  | x, [] => some x
  | x, b :: t => if x * 10 + dval b < 18446744073709551616 then numv (x * 10 + dval b) t else none
def numOut : Option Nat → Value
  | some x => .tuple #[.int .u64 (x : Int), .bool true]
  | none => .tuple #[.int .u64 0, .bool false]
set_option maxHeartbeats 2000000 in
set_option maxRecDepth 100000 in
theorem number_calls (s : ByteArray) (w : World) (hs : s.size ≤ 2305843009213693952) :
    Calls Tryd.prog 81 #[.string s] w fun e w' => e = .returned (numOut (numv 0 s.data.toList)) ∧ w' = w := by
  have HS := Aside0.mk hs
  have hsz : s.size = s.data.toList.length := (data_length s).symm
  have HZ := Aside0.mk hsz
  clear hs hsz
  obtain ⟨o, ho⟩ : ∃ o, o = numv 0 s.data.toList := ⟨_, rfl⟩
  rw [← ho]
  have HO := Aside0.mk ho
  clear ho
  go_enter Tryd.func81, Tryd.ntmps81
  go_wp2
  go_loopw [4, 12] (fun tx tv wr => ∃ i x : Nat, tv = .int .i64 (i : Int) ∧ tx = .int .u64 (x : Int) ∧ Aside0 (i ≤ s.size) ∧ Aside0 (x < 18446744073709551616) ∧ Aside0 (numv x (s.data.toList.drop i) = o) ∧ wr = w) (fun _ tv _ => s.size - left tv)
  case atStart => exact ⟨0, 0, rfl, rfl, ⟨Nat.zero_le _⟩, ⟨by omega⟩, ⟨HO.out.symm⟩, rfl⟩
  case round =>
    obtain ⟨i, x, rfl, rfl, hi, hx, HX, rfl⟩ := hrel
    by_cases c : i < s.size
    · have c1 : decide ((i : Int) < (s.size : Int)) = true := decide_eq_true (by omega)
      have c2 : decide (i < s.size) = true := decide_eq_true c
      have p1 : (0 ≤ (i : Int)) = True := eq_true (by omega)
      have p2 : ((i : Int) < (s.size : Int)) = True := eq_true (by omega)
      have HBD : Aside0 (s.data.toList.drop i = (s.data.toList[i]'(by rw [← HZ.out]; exact c)) :: s.data.toList.drop (i + 1)) := ⟨List.drop_eq_getElem_cons _⟩
      obtain ⟨u, hu⟩ : ∃ u : UInt8, u = s[i]'c := ⟨_, rfl⟩
      have hu2 : (s[i]'c) = u := hu.symm
      have HU : Aside0 (u = s.data.toList[i]'(by rw [← HZ.out]; exact c)) := ⟨by rw [hu]; rfl⟩
      clear hu
      have d1 : ((u.toNat : Int) - 48) % 256 = ((dval u : Nat) : Int) := by unfold dval; omega
      have d2 : IntKind.u8.wrap ((u.toNat : Int) - 48) = ((dval u : Nat) : Int) := by rw [IntKind.wrap_u8]; exact d1
      have hd : dval u < 256 := Nat.mod_lt _ (by omega)
      have d3 : IntKind.u64.wrap ((dval u : Nat) : Int) = ((dval u : Nat) : Int) := by rw [IntKind.wrap_u64]; omega
      have HM := Aside0.mk (Tryd.bits_Mul64 x 10 hx.out (by omega) wr)
      obtain ⟨q, hq⟩ : ∃ q, q = x * 10 / 18446744073709551616 := ⟨_, rfl⟩
      obtain ⟨r, hr⟩ : ∃ r, r = x * 10 % 18446744073709551616 := ⟨_, rfl⟩
      rw [← hq, ← hr] at HM
      have ha := add64 r (dval u) wr
      obtain ⟨g, hg⟩ : ∃ g, g = (r + dval u) / 18446744073709551616 := ⟨_, rfl⟩
      obtain ⟨z, hz⟩ : ∃ z, z = (r + dval u) % 18446744073709551616 := ⟨_, rfl⟩
      rw [← hg, ← hz] at ha
      have HA := Aside0.mk ha
      have HX2 : Aside0 ((if x * 10 + dval u < 18446744073709551616 then numv (x * 10 + dval u) (s.data.toList.drop (i + 1)) else none) = o) := ⟨by
        have h := HX.out
        rw [HBD.out, ← HU.out] at h; exact h⟩
      have W1 : Aside0 (wrap64 ((i : Int) + 1) = ((i + 1 : Nat) : Int)) := ⟨by have := HS.out; rw [w64 (by omega) (by omega)]; rfl⟩
      have Q := Aside0.mk (And.intro hq (And.intro hr (And.intro hg hz)))
      clear HX HBD HU hq hr hg hz ha
      by_cases k1 : q = 0
      · subst k1
        by_cases k2 : g = 0
        · subst k2
          have hlt : x * 10 + dval u < 18446744073709551616 := by obtain ⟨q1, q2, q3, q4⟩ := Q.out; omega
          have hze : z = x * 10 + dval u := by obtain ⟨q1, q2, q3, q4⟩ := Q.out; omega
          have h := HX2.out
          rw [if_pos hlt, ← hze] at h
          have HX3 := Aside0.mk h
          have HZL : Aside0 (z < 18446744073709551616) := ⟨by omega⟩
          clear h HX2 Q hlt hze
          have e1 : ∀ [Inhabited Unit], wrap64 ((i : Int) + 1) = ((i + 1 : Nat) : Int) := fun {_} => W1.out
          have ha := HA.out
          go_wp2_with (go_at_call 99; refine HM.out.mono ?_; rintro e w1 ⟨rfl, rfl⟩)
          refine ⟨⟨i + 1, z, by rw [W1.out], rfl, ⟨by omega⟩, HZL, HX3, trivial⟩, ?_⟩
          show s.size - (wrap64 ((i : Int) + 1)).toNat < s.size - ((i : Nat) : Int).toNat
          rw [W1.out, Int.toNat_natCast, Int.toNat_natCast]
          omega
        · have hge : ¬ x * 10 + dval u < 18446744073709551616 := by obtain ⟨q1, q2, q3, q4⟩ := Q.out; omega
          have h := HX2.out
          rw [if_neg hge] at h
          have HX3 := Aside0.mk h
          have b1 : ((g : Int) == 0) = false := beq_eq_false_iff_ne.mpr (by omega)
          have b2 : ((g : Int) != 0) = true := bne_iff_ne.mpr (by omega)
          have b3 : ((g : Int) = 0) = False := eq_false (by omega)
          have b4 : (g = 0) = False := eq_false k2
          clear h HX2 Q hge
          have ha := HA.out
          go_wp2_with (go_at_call 99; refine HM.out.mono ?_; rintro e w1 ⟨rfl, rfl⟩)
          go_ret2
          rw [← HX3.out]
          exact ⟨rfl, rfl⟩
      · have hge : ¬ x * 10 + dval u < 18446744073709551616 := by obtain ⟨q1, q2, q3, q4⟩ := Q.out; omega
        have h := HX2.out
        rw [if_neg hge] at h
        have HX3 := Aside0.mk h
        have b1 : ((q : Int) == 0) = false := beq_eq_false_iff_ne.mpr (by omega)
        have b2 : ((q : Int) != 0) = true := bne_iff_ne.mpr (by omega)
        have b3 : ((q : Int) = 0) = False := eq_false (by omega)
        have b4 : (q = 0) = False := eq_false k1
        clear h HX2 Q hge
        have ha := HA.out
        go_wp2_with (go_at_call 99; refine HM.out.mono ?_; rintro e w1 ⟨rfl, rfl⟩)
        go_ret2
        rw [← HX3.out]
        exact ⟨rfl, rfl⟩
    · have c1 : decide ((i : Int) < (s.size : Int)) = false := decide_eq_false (by omega)
      have c2 : decide (i < s.size) = false := decide_eq_false c
      have h := HX.out
      rw [List.drop_of_length_le (by rw [← HZ.out]; omega)] at h
      have HX3 : Aside0 (some x = o) := ⟨h⟩
      clear h HX
      go_wp2
      go_ret2
      rw [← HX3.out]
      exact ⟨rfl, rfl⟩
end Go.Proofs.YtaijoghpfobdbaaDoor.G
end
section
namespace Go.Proofs.YtaijoghpfobdbaaDoor.X
open Go.RowKit Go.Proofs.YtaijoghpfobdbaaDoorW.PrintWords Go.Proofs.YtaijoghpfobdbaaDoorW.PrintLast Go.Proofs.YtaijoghpfobdbaaDoorW.PrintMore
attribute [local go_sem] max2_int min2_int max_two min_two max_three min_three max_four min_four   -- for this text's walks alone
set_option linter.unusedVariables false
set_option linter.unusedSimpArgs false
def errW : Option Int → Value
  | none => .nilIface
  | some c => .iface 0 (.int .i64 c)
theorem errW_none : errW none = .nilIface := rfl
theorem errW_some (c : Int) : errW (some c) = .iface 0 (.int .i64 c) := rfl
theorem info3 : (Tryd.prog.info? 3).map (fun i => (i.zero, i.size, i.bytes)) = some (some (.int .i64 0), 1, 8) := by kernel_rfl
theorem info5 : (Tryd.prog.info? 5).map (fun i => (i.zero, i.size, i.bytes)) = some (some (.int .u8 0), 1, 1) := by kernel_rfl
theorem info63 : (Tryd.prog.info? 63).map (fun i => (i.zero, i.size, i.bytes)) = some (some (.agg #[(.int .i64 0), (.string ⟨#[]⟩), (.int .u64 0), (.int .i64 0), (.int .i64 0)]), 5, 48) := by kernel_rfl
structure S63 where
  f0 : Int
  f1 : ByteArray
  f2 : Int
  f3 : Int
  f4 : Int
def z63 : S63 := ⟨(0 : Int), (⟨#[]⟩ : ByteArray), (0 : Int), (0 : Int), (0 : Int)⟩
def k63 : Kd S63 := Kd.iso (Kd.pair (Kd.int .i64) (Kd.pair Kd.string (Kd.pair (Kd.int .u64) (Kd.pair (Kd.int .i64) (Kd.int .i64))))) (fun x : S63 => (x.f0, x.f1, x.f2, x.f3, x.f4))
theorem k63_open {w : World} {x : S63} {cs : List Value} (h : k63.K w x cs) : cs = [.int .i64 x.f0, .string x.f1, .int .u64 x.f2, .int .i64 x.f3, .int .i64 x.f4] := by
  obtain ⟨_, _, rfl, rfl, ⟨_, _, rfl, rfl, ⟨_, _, rfl, rfl, ⟨_, _, rfl, rfl, rfl⟩⟩⟩⟩ := h
  exact rfl
theorem k63_mkM (w : World) (base : Nat) (ok : Nat → Prop) (x : S63)  : k63.M w base ok x [.int .i64 x.f0, .string x.f1, .int .u64 x.f2, .int .i64 x.f3, .int .i64 x.f4] := ⟨[.int .i64 x.f0], [.string x.f1, .int .u64 x.f2, .int .i64 x.f3, .int .i64 x.f4], rfl, rfl, ⟨[.string x.f1], [.int .u64 x.f2, .int .i64 x.f3, .int .i64 x.f4], rfl, rfl, ⟨[.int .u64 x.f2], [.int .i64 x.f3, .int .i64 x.f4], rfl, rfl, ⟨[.int .i64 x.f3], [.int .i64 x.f4], rfl, rfl, rfl⟩⟩⟩⟩
def rd_T63 (xs : List S63) (i : Int) : S63 := xs.getD i.toNat z63
theorem at_T63 {w : World} {A : Option Addr} {n : Nat} {xs : List S63} (h : Kd.C k63 w A n xs) (i : Int) (h0 : 0 ≤ i) (h1 : i < n) : ∃ ad , A = some ad ∧ w.cell? (ad.add (i.toNat * 5)) = some (.int .i64 (rd_T63 xs i).f0) ∧ w.cell? ⟨(ad.add (i.toNat * 5)).block, (ad.add (i.toNat * 5)).off + 1, none⟩ = some (.string (rd_T63 xs i).f1) ∧ w.cell? ⟨(ad.add (i.toNat * 5)).block, (ad.add (i.toNat * 5)).off + 2, none⟩ = some (.int .u64 (rd_T63 xs i).f2) ∧ w.cell? ⟨(ad.add (i.toNat * 5)).block, (ad.add (i.toNat * 5)).off + 3, none⟩ = some (.int .i64 (rd_T63 xs i).f3) ∧ w.cell? ⟨(ad.add (i.toNat * 5)).block, (ad.add (i.toNat * 5)).off + 4, none⟩ = some (.int .i64 (rd_T63 xs i).f4) := by
  obtain ⟨ad, c, e, _, hK, hc0⟩ := Kd.C_get h z63 i h0 h1
  have hc : ∀ j u, c[j]? = some u → w.cell? (ad.add (i.toNat * 5 + j)) = some u := hc0
  obtain rfl := k63_open hK
  exact ⟨ad, e, hc 0 _ rfl, by rw [← add_field _ _ 1 (by omega)]; exact hc 1 _ rfl, by rw [← add_field _ _ 2 (by omega)]; exact hc 2 _ rfl, by rw [← add_field _ _ 3 (by omega)]; exact hc 3 _ rfl, by rw [← add_field _ _ 4 (by omega)]; exact hc 4 _ rfl⟩
structure S46 where
  f0 : Int
  f1 : Int
  f2 : Int
  f3 : ByteArray
  f4 : Int
def z46 : S46 := ⟨(0 : Int), (0 : Int), (0 : Int), (⟨#[]⟩ : ByteArray), (0 : Int)⟩
def k46 : Kd S46 := Kd.iso (Kd.pair (Kd.int .i64) (Kd.pair (Kd.int .i64) (Kd.pair (Kd.int .u64) (Kd.pair Kd.string (Kd.int .i64))))) (fun x : S46 => (x.f0, x.f1, x.f2, x.f3, x.f4))
theorem k46_open {w : World} {x : S46} {cs : List Value} (h : k46.K w x cs) : cs = [.int .i64 x.f0, .int .i64 x.f1, .int .u64 x.f2, .string x.f3, .int .i64 x.f4] := by
  obtain ⟨_, _, rfl, rfl, ⟨_, _, rfl, rfl, ⟨_, _, rfl, rfl, ⟨_, _, rfl, rfl, rfl⟩⟩⟩⟩ := h
  exact rfl
theorem k46_mk (w : World) (x : S46)  : k46.K w x [.int .i64 x.f0, .int .i64 x.f1, .int .u64 x.f2, .string x.f3, .int .i64 x.f4] := ⟨[.int .i64 x.f0], [.int .i64 x.f1, .int .u64 x.f2, .string x.f3, .int .i64 x.f4], rfl, rfl, ⟨[.int .i64 x.f1], [.int .u64 x.f2, .string x.f3, .int .i64 x.f4], rfl, rfl, ⟨[.int .u64 x.f2], [.string x.f3, .int .i64 x.f4], rfl, rfl, ⟨[.string x.f3], [.int .i64 x.f4], rfl, rfl, rfl⟩⟩⟩⟩
def rd_T46 (xs : List S46) (i : Int) : S46 := xs.getD i.toNat z46
theorem at_T46 {w : World} {A : Option Addr} {n : Nat} {xs : List S46} (h : Kd.C k46 w A n xs) (i : Int) (h0 : 0 ≤ i) (h1 : i < n) : ∃ ad , A = some ad ∧ w.cell? (ad.add (i.toNat * 5)) = some (.int .i64 (rd_T46 xs i).f0) ∧ w.cell? ⟨(ad.add (i.toNat * 5)).block, (ad.add (i.toNat * 5)).off + 1, none⟩ = some (.int .i64 (rd_T46 xs i).f1) ∧ w.cell? ⟨(ad.add (i.toNat * 5)).block, (ad.add (i.toNat * 5)).off + 2, none⟩ = some (.int .u64 (rd_T46 xs i).f2) ∧ w.cell? ⟨(ad.add (i.toNat * 5)).block, (ad.add (i.toNat * 5)).off + 3, none⟩ = some (.string (rd_T46 xs i).f3) ∧ w.cell? ⟨(ad.add (i.toNat * 5)).block, (ad.add (i.toNat * 5)).off + 4, none⟩ = some (.int .i64 (rd_T46 xs i).f4) := by
  obtain ⟨ad, c, e, _, hK, hc0⟩ := Kd.C_get h z46 i h0 h1
  have hc : ∀ j u, c[j]? = some u → w.cell? (ad.add (i.toNat * 5 + j)) = some u := hc0
  obtain rfl := k46_open hK
  exact ⟨ad, e, hc 0 _ rfl, by rw [← add_field _ _ 1 (by omega)]; exact hc 1 _ rfl, by rw [← add_field _ _ 2 (by omega)]; exact hc 2 _ rfl, by rw [← add_field _ _ 3 (by omega)]; exact hc 3 _ rfl, by rw [← add_field _ _ 4 (by omega)]; exact hc 4 _ rfl⟩
end Go.Proofs.YtaijoghpfobdbaaDoor.X
end
section
set_option linter.unusedVariables false
set_option linter.unusedSimpArgs false
namespace Go.Proofs.YtaijoghpfobdbaaDoor.P
open Go.Proofs.YtaijoghpfobdbaaDoor.X
abbrev Nd := S46
inductive Tr where
  | mk (n : Nd) (ks : List Tr)
def Tr.n : Tr → Nd
  | .mk n _ => n
def Tr.ks : Tr → List Tr
  | .mk _ ks => ks
abbrev M : Nat := 1048576
def put (bs p : List UInt8) : List UInt8 := if bs.length ≤ M then bs ++ p else bs
def Wrote (bs s r : List UInt8) : Prop := ((bs ++ s).length ≤ M ∧ r = bs ++ s) ∨ (M < (bs ++ s).length ∧ M < r.length)
theorem Wrote.refl (bs : List UInt8) : Wrote bs [] bs := by
  unfold Wrote
  rw [List.append_nil]
  by_cases h : bs.length ≤ M
  · exact .inl ⟨h, rfl⟩
  · exact .inr ⟨by omega, by omega⟩
theorem Wrote.put (bs p : List UInt8) : Wrote bs p (P.put bs p) := by
  unfold Wrote P.put
  by_cases h : bs.length ≤ M
  · rw [if_pos h]
    by_cases h2 : (bs ++ p).length ≤ M
    · exact .inl ⟨h2, rfl⟩
    · exact .inr ⟨by omega, by omega⟩
  · rw [if_neg h]
    exact .inr ⟨by rw [List.length_append]; omega, by omega⟩
theorem Wrote.trans {a s b t c : List UInt8} (h : Wrote a s b) (k : Wrote b t c) : Wrote a (s ++ t) c := by
  unfold Wrote at *
  rw [← List.append_assoc]
  rcases h with ⟨h1, rfl⟩ | ⟨h1, h2⟩
  · exact k
  · refine .inr ⟨by rw [List.length_append]; omega, ?_⟩
    rcases k with ⟨k1, rfl⟩ | ⟨_, k2⟩
    · rw [List.length_append]; omega
    · exact k2
theorem Wrote.over {a s r : List UInt8} (h : M < a.length) (k : M < r.length) : Wrote a s r := .inr ⟨by rw [List.length_append]; omega, k⟩
theorem Wrote.long {a s s' r : List UInt8} (h : Wrote a s r) (h1 : M < s.length) (h2 : M < s'.length) : Wrote a s' r := by
  rcases h with ⟨h, _⟩ | ⟨_, h⟩
  · rw [List.length_append] at h; omega
  · exact .inr ⟨by rw [List.length_append]; omega, h⟩
def puts (bs : List UInt8) (ps : List ByteArray) : List UInt8 := ps.foldl (fun b p => put b p.data.toList) bs
theorem Wrote.puts (bs : List UInt8) : ∀ ps : List ByteArray, Wrote bs (ps.flatMap fun p => p.data.toList) (P.puts bs ps)
  | [] => Wrote.refl bs
  | p :: ps => by
    rw [List.flatMap_cons]
    exact (Wrote.put bs p.data.toList).trans (Wrote.puts _ ps)
def fin (r : List UInt8) : ByteArray × Int := if M < r.length then (⟨#[]⟩, 2) else (⟨r.toArray⟩, 0)
end Go.Proofs.YtaijoghpfobdbaaDoor.P
end
section
namespace Go.Proofs.YtaijoghpfobdbaaDoor.X
open Go.RowKit Go.Proofs.YtaijoghpfobdbaaDoorW.PrintWords Go.Proofs.YtaijoghpfobdbaaDoorW.PrintLast Go.Proofs.YtaijoghpfobdbaaDoorW.PrintMore
attribute [local go_sem] max2_int min2_int max_two min_two max_three min_three max_four min_four   -- for this text's walks alone
set_option linter.unusedVariables false
set_option linter.unusedSimpArgs false
mutual
def print_kids.j0 : Nat → Bool → Int → Int → Int → ByteArray → Int → Option (Int × Bool)
  | 0, _, _, _, _, _, _ => none
  | k + 1, x31, x272000, x272001, x272002, x272003, x272004 => if x31 = true then (some (0, false)) else (if x272000 = 1 then (print_kids.j1 k x272000 (x272000 == 1) x272000 x272001 x272002 x272003 x272004) else (if x272000 = 2 then (print_kids.j1 k x272000 (x272000 == 2) x272000 x272001 x272002 x272003 x272004) else (if x272000 = 3 then (print_kids.j1 k x272000 (x272000 == 3) x272000 x272001 x272002 x272003 x272004) else (print_kids.j1 k x272000 (x272000 == 4) x272000 x272001 x272002 x272003 x272004))))
def print_kids.j1 : Nat → Int → Bool → Int → Int → Int → ByteArray → Int → Option (Int × Bool)
  | 0, _, _, _, _, _, _, _ => none
  | k + 1, x33, x34, x272000, x272001, x272002, x272003, x272004 => if x34 = true then (some (0, true)) else (if x33 = 5 then (print_kids.j2 k x33 (x33 == 5) x272000 x272001 x272002 x272003 x272004) else (if x33 = 11 then (print_kids.j2 k x33 (x33 == 11) x272000 x272001 x272002 x272003 x272004) else (print_kids.j2 k x33 (x33 == 12) x272000 x272001 x272002 x272003 x272004)))
def print_kids.j2 : Nat → Int → Bool → Int → Int → Int → ByteArray → Int → Option (Int × Bool)
  | 0, _, _, _, _, _, _, _ => none
  | k + 1, x33, x39, x272000, x272001, x272002, x272003, x272004 => if x39 = true then (some (1, true)) else (if x33 = 6 then (print_kids.j3 k x33 (x33 == 6) x272000 x272001 x272002 x272003 x272004) else (if x33 = 7 then (print_kids.j3 k x33 (x33 == 7) x272000 x272001 x272002 x272003 x272004) else (if x33 = 8 then (print_kids.j3 k x33 (x33 == 8) x272000 x272001 x272002 x272003 x272004) else (print_kids.j3 k x33 (x33 == 10) x272000 x272001 x272002 x272003 x272004))))
def print_kids.j3 : Nat → Int → Bool → Int → Int → Int → ByteArray → Int → Option (Int × Bool)
  | 0, _, _, _, _, _, _, _ => none
  | k + 1, x33, x43, x272000, x272001, x272002, x272003, x272004 => if x43 = true then (some (2, true)) else (if x33 = 9 then (some (x272001, decide (x272001 ≥ 1))) else (some (0, false)))
end
def print_kids.f (k : Nat) (a0_0 : Int) (a0_1 : Int) (a0_2 : Int) (a0_3 : ByteArray) (a0_4 : Int) : Option (Int × Bool) := if a0_1 = 0 then (if a0_2 = 0 then (if a0_3.toList = ([] : List UInt8) then (print_kids.j0 k false a0_0 a0_1 a0_2 a0_3 a0_4) else (print_kids.j0 k (a0_0 != 2) a0_0 a0_1 a0_2 a0_3 a0_4)) else (if a0_0 = 1 then (if a0_3.toList = ([] : List UInt8) then (print_kids.j0 k false a0_0 a0_1 a0_2 a0_3 a0_4) else (print_kids.j0 k (a0_0 != 2) a0_0 a0_1 a0_2 a0_3 a0_4)) else (print_kids.j0 k true a0_0 a0_1 a0_2 a0_3 a0_4))) else (if a0_0 = 9 then (if a0_2 = 0 then (if a0_3.toList = ([] : List UInt8) then (print_kids.j0 k false a0_0 a0_1 a0_2 a0_3 a0_4) else (print_kids.j0 k (a0_0 != 2) a0_0 a0_1 a0_2 a0_3 a0_4)) else (if a0_0 = 1 then (if a0_3.toList = ([] : List UInt8) then (print_kids.j0 k false a0_0 a0_1 a0_2 a0_3 a0_4) else (print_kids.j0 k (a0_0 != 2) a0_0 a0_1 a0_2 a0_3 a0_4)) else (print_kids.j0 k true a0_0 a0_1 a0_2 a0_3 a0_4))) else (print_kids.j0 k true a0_0 a0_1 a0_2 a0_3 a0_4))
set_option maxHeartbeats 8000000 in
set_option maxRecDepth 100000 in
theorem print_kids.calls (k : Nat) (a0_0 : Int) (a0_1 : Int) (a0_2 : Int) (a0_3 : ByteArray) (a0_4 : Int) (r1 : Int) (r2 : Bool) (w : World) (h : print_kids.f k a0_0 a0_1 a0_2 a0_3 a0_4 = some (r1, r2)) :
    Calls Tryd.prog 61 #[.agg #[.int .i64 a0_0, .int .i64 a0_1, .int .u64 a0_2, .string a0_3, .int .i64 a0_4]] w fun e w' => e = .returned (.tuple #[.int .i64 r1, .bool r2]) ∧ Below w.heap.size w w' := by
  have hu46 := Tryd.underlying46
  have HB := Aside0.mk (Below.refl w.heap.size w)
  have H : (if a0_1 = 0 then (if a0_2 = 0 then (if a0_3.toList = ([] : List UInt8) then (print_kids.j0 k false a0_0 a0_1 a0_2 a0_3 a0_4) else (print_kids.j0 k (a0_0 != 2) a0_0 a0_1 a0_2 a0_3 a0_4)) else (if a0_0 = 1 then (if a0_3.toList = ([] : List UInt8) then (print_kids.j0 k false a0_0 a0_1 a0_2 a0_3 a0_4) else (print_kids.j0 k (a0_0 != 2) a0_0 a0_1 a0_2 a0_3 a0_4)) else (print_kids.j0 k true a0_0 a0_1 a0_2 a0_3 a0_4))) else (if a0_0 = 9 then (if a0_2 = 0 then (if a0_3.toList = ([] : List UInt8) then (print_kids.j0 k false a0_0 a0_1 a0_2 a0_3 a0_4) else (print_kids.j0 k (a0_0 != 2) a0_0 a0_1 a0_2 a0_3 a0_4)) else (if a0_0 = 1 then (if a0_3.toList = ([] : List UInt8) then (print_kids.j0 k false a0_0 a0_1 a0_2 a0_3 a0_4) else (print_kids.j0 k (a0_0 != 2) a0_0 a0_1 a0_2 a0_3 a0_4)) else (print_kids.j0 k true a0_0 a0_1 a0_2 a0_3 a0_4))) else (print_kids.j0 k true a0_0 a0_1 a0_2 a0_3 a0_4))) = some (r1, r2) := h
  clear h
  have HC2 := Aside0.mk H
  clear H
  go_enter Tryd.func61, Tryd.ntmps61
  go_upto_region 1 with (first | ((with_reducible refine gate_dst (N := 1) rfl ?_); refine box_event ?hg (N := 1) ?hd (cs := #[.int .i64 a0_0, .int .i64 a0_1, .int .u64 a0_2, .string a0_3, .int .i64 a0_4]) (t := 46) ?hr ?_; (case hd => rfl); (case hg => rfl); (case hr => first | (go_simp; done) | (go_simp; rfl)); intro gb271 hg w3 hbox hb; have n0_ := Aside0.mk (below_step (by repeat (first | (with_reducible first | exact HB.out | apply below_alloc | apply pw_below_drewN | apply below_drew1) | exact HB.out)) hb); have n1_ := Aside0.mk (hbox); have n2_ := Aside0.mk ((by rw [hg]; exact (below_size (by repeat (first | (with_reducible first | exact HB.out | apply below_alloc | apply pw_below_drewN | apply below_drew1) | exact HB.out))) : w.heap.size ≤ gb271)); have n3_ := Aside0.mk ((by rw [hg]; exact (below_size (by repeat (first | (with_reducible first | exact HB.out | apply below_alloc | apply pw_below_drewN | apply below_drew1) | exact HB.out))) : w.heap.size ≤ gb271)); clear HB; have HB := n0_; have BK271 := n1_; have GW271 := n2_; have GE271 := n3_; clear n0_ n1_ n2_ n3_; clear hb hbox hg))
  repeat (go_quiet (first | ((with_reducible refine gate_dst (N := 1) rfl ?_); refine box_event ?hg (N := 1) ?hd (cs := #[.int .i64 a0_0, .int .i64 a0_1, .int .u64 a0_2, .string a0_3, .int .i64 a0_4]) (t := 46) ?hr ?_; (case hd => rfl); (case hg => rfl); (case hr => first | (go_simp; done) | (go_simp; rfl)); intro gb271 hg w3 hbox hb; have n0_ := Aside0.mk (below_step (by repeat (first | (with_reducible first | exact HB.out | apply below_alloc | apply pw_below_drewN | apply below_drew1) | exact HB.out)) hb); have n1_ := Aside0.mk (hbox); have n2_ := Aside0.mk ((by rw [hg]; exact (below_size (by repeat (first | (with_reducible first | exact HB.out | apply below_alloc | apply pw_below_drewN | apply below_drew1) | exact HB.out))) : w.heap.size ≤ gb271)); have n3_ := Aside0.mk ((by rw [hg]; exact (below_size (by repeat (first | (with_reducible first | exact HB.out | apply below_alloc | apply pw_below_drewN | apply below_drew1) | exact HB.out))) : w.heap.size ≤ gb271)); clear HB; have HB := n0_; have BK271 := n1_; have GW271 := n2_; have GE271 := n3_; clear n0_ n1_ n2_ n3_; clear hb hbox hg)); go_upto_region 1 with (first | ((with_reducible refine gate_dst (N := 1) rfl ?_); refine box_event ?hg (N := 1) ?hd (cs := #[.int .i64 a0_0, .int .i64 a0_1, .int .u64 a0_2, .string a0_3, .int .i64 a0_4]) (t := 46) ?hr ?_; (case hd => rfl); (case hg => rfl); (case hr => first | (go_simp; done) | (go_simp; rfl)); intro gb271 hg w3 hbox hb; have n0_ := Aside0.mk (below_step (by repeat (first | (with_reducible first | exact HB.out | apply below_alloc | apply pw_below_drewN | apply below_drew1) | exact HB.out)) hb); have n1_ := Aside0.mk (hbox); have n2_ := Aside0.mk ((by rw [hg]; exact (below_size (by repeat (first | (with_reducible first | exact HB.out | apply below_alloc | apply pw_below_drewN | apply below_drew1) | exact HB.out))) : w.heap.size ≤ gb271)); have n3_ := Aside0.mk ((by rw [hg]; exact (below_size (by repeat (first | (with_reducible first | exact HB.out | apply below_alloc | apply pw_below_drewN | apply below_drew1) | exact HB.out))) : w.heap.size ≤ gb271)); clear HB; have HB := n0_; have BK271 := n1_; have GW271 := n2_; have GE271 := n3_; clear n0_ n1_ n2_ n3_; clear hb hbox hg)))
  (try simp only [Act.put, List.setIfInBounds_toArray, List.set_cons_zero, List.set_cons_succ])
  go_cut [31] (fun v31 wc => ∃ (kq : Nat) (x31_1 : Bool), v31 = .bool x31_1 ∧ Aside0 (print_kids.j0 kq x31_1 a0_0 a0_1 a0_2 a0_3 a0_4 = some (r1, r2)) ∧ Aside0 (kq ≤ k) ∧ Aside0 (wc.heap[gb271]? = some (.cells #[.int .i64 a0_0, .int .i64 a0_1, .int .u64 a0_2, .string a0_3, .int .i64 a0_4] 46 (0, 0))) ∧ Aside0 (Below w.heap.size w wc))
  case first =>
    have H := HC2.out
    clear HC2
    by_cases c4 : a0_1 = 0
    · rw [if_pos c4] at H
      have c4b0 : (a0_1 == 0) = true := beq_iff_eq.mpr c4
      have c4b1 : (a0_1 != 0) = false := bne_eq_false_iff_eq.mpr c4
      clear c4
      (first | rw [c4b0] | (simp only [i64_w, i32_w]; rw [c4b0]) | skip)
      by_cases c5 : a0_2 = 0
      · rw [if_pos c5] at H
        have c5b0 : (a0_2 == 0) = true := beq_iff_eq.mpr c5
        have c5b1 : (a0_2 != 0) = false := bne_eq_false_iff_eq.mpr c5
        clear c5
        by_cases c6 : a0_3.toList = ([] : List UInt8)
        · rw [if_pos c6] at H
          have c6b0 : (a0_3.toList == ([] : List UInt8)) = true := beq_iff_eq.mpr c6
          have c6b1 : (a0_3.toList != ([] : List UInt8)) = false := bne_eq_false_iff_eq.mpr c6
          clear c6
          have H' := Aside0.mk H
          clear H
          have hcz7_0 : w3.cell? ⟨gb271, 0, none⟩ = some (.int .i64 a0_0) := (blk_cell BK271.out 0).trans rfl
          have hcz7_1 : w3.cell? ⟨gb271, 1, none⟩ = some (.int .i64 a0_1) := (blk_cell BK271.out 1).trans rfl
          have hcz7_2 : w3.cell? ⟨gb271, 2, none⟩ = some (.int .u64 a0_2) := (blk_cell BK271.out 2).trans rfl
          have hcz7_3 : w3.cell? ⟨gb271, 3, none⟩ = some (.string a0_3) := (blk_cell BK271.out 3).trans rfl
          have hcz7_4 : w3.cell? ⟨gb271, 4, none⟩ = some (.int .i64 a0_4) := (blk_cell BK271.out 4).trans rfl
          have hfz7_0 := blk_frozen BK271.out 0
          have hfz7_1 := blk_frozen BK271.out 1
          have hfz7_2 := blk_frozen BK271.out 2
          have hfz7_3 := blk_frozen BK271.out 3
          have hfz7_4 := blk_frozen BK271.out 4
          go_wp2
          repeat (go_quiet (fail); try go_wp2)
          go_meet
          case rel => exact ⟨_, (false), (by first | rfl | (simp; done) | (simp [*]; done)), H', ⟨by first | omega | exact Nat.le_refl _⟩, ⟨by (with_reducible repeat (first | refine blk_drewN ?_ _ | refine blk_drew ?_ | refine blk_alloc ?_ _)); exact BK271.out⟩, ⟨by repeat (first | (with_reducible first | exact HB.out | apply below_alloc | apply pw_below_drewN | apply below_drew1 | refine below_set ?_ GE271.out) | exact HB.out)⟩⟩
        · rw [if_neg c6] at H
          have c6b0 : (a0_3.toList == ([] : List UInt8)) = false := beq_eq_false_iff_ne.mpr c6
          have c6b1 : (a0_3.toList != ([] : List UInt8)) = true := bne_iff_ne.mpr c6
          have H' := Aside0.mk H
          clear H
          have hcz8_0 : w3.cell? ⟨gb271, 0, none⟩ = some (.int .i64 a0_0) := (blk_cell BK271.out 0).trans rfl
          have hcz8_1 : w3.cell? ⟨gb271, 1, none⟩ = some (.int .i64 a0_1) := (blk_cell BK271.out 1).trans rfl
          have hcz8_2 : w3.cell? ⟨gb271, 2, none⟩ = some (.int .u64 a0_2) := (blk_cell BK271.out 2).trans rfl
          have hcz8_3 : w3.cell? ⟨gb271, 3, none⟩ = some (.string a0_3) := (blk_cell BK271.out 3).trans rfl
          have hcz8_4 : w3.cell? ⟨gb271, 4, none⟩ = some (.int .i64 a0_4) := (blk_cell BK271.out 4).trans rfl
          have hfz8_0 := blk_frozen BK271.out 0
          have hfz8_1 := blk_frozen BK271.out 1
          have hfz8_2 := blk_frozen BK271.out 2
          have hfz8_3 := blk_frozen BK271.out 3
          have hfz8_4 := blk_frozen BK271.out 4
          go_wp2
          repeat (go_quiet (fail); try go_wp2)
          go_meet
          case rel => exact ⟨_, ((a0_0 != 2)), (by first | rfl | (simp; done) | (simp [*]; done)), H', ⟨by first | omega | exact Nat.le_refl _⟩, ⟨by (with_reducible repeat (first | refine blk_drewN ?_ _ | refine blk_drew ?_ | refine blk_alloc ?_ _)); exact BK271.out⟩, ⟨by repeat (first | (with_reducible first | exact HB.out | apply below_alloc | apply pw_below_drewN | apply below_drew1 | refine below_set ?_ GE271.out) | exact HB.out)⟩⟩
      · rw [if_neg c5] at H
        have c5b0 : (a0_2 == 0) = false := beq_eq_false_iff_ne.mpr c5
        have c5b1 : (a0_2 != 0) = true := bne_iff_ne.mpr c5
        by_cases c9 : a0_0 = 1
        · rw [if_pos c9] at H
          have c9b0 : (a0_0 == 1) = true := beq_iff_eq.mpr c9
          have c9b1 : (a0_0 != 1) = false := bne_eq_false_iff_eq.mpr c9
          clear c9
          by_cases c10 : a0_3.toList = ([] : List UInt8)
          · rw [if_pos c10] at H
            have c10b0 : (a0_3.toList == ([] : List UInt8)) = true := beq_iff_eq.mpr c10
            have c10b1 : (a0_3.toList != ([] : List UInt8)) = false := bne_eq_false_iff_eq.mpr c10
            clear c10
            have H' := Aside0.mk H
            clear H
            have hcz11_0 : w3.cell? ⟨gb271, 0, none⟩ = some (.int .i64 a0_0) := (blk_cell BK271.out 0).trans rfl
            have hcz11_1 : w3.cell? ⟨gb271, 1, none⟩ = some (.int .i64 a0_1) := (blk_cell BK271.out 1).trans rfl
            have hcz11_2 : w3.cell? ⟨gb271, 2, none⟩ = some (.int .u64 a0_2) := (blk_cell BK271.out 2).trans rfl
            have hcz11_3 : w3.cell? ⟨gb271, 3, none⟩ = some (.string a0_3) := (blk_cell BK271.out 3).trans rfl
            have hcz11_4 : w3.cell? ⟨gb271, 4, none⟩ = some (.int .i64 a0_4) := (blk_cell BK271.out 4).trans rfl
            have hfz11_0 := blk_frozen BK271.out 0
            have hfz11_1 := blk_frozen BK271.out 1
            have hfz11_2 := blk_frozen BK271.out 2
            have hfz11_3 := blk_frozen BK271.out 3
            have hfz11_4 := blk_frozen BK271.out 4
            go_wp2
            repeat (go_quiet (fail); try go_wp2)
            go_meet
            case rel => exact ⟨_, (false), (by first | rfl | (simp; done) | (simp [*]; done)), H', ⟨by first | omega | exact Nat.le_refl _⟩, ⟨by (with_reducible repeat (first | refine blk_drewN ?_ _ | refine blk_drew ?_ | refine blk_alloc ?_ _)); exact BK271.out⟩, ⟨by repeat (first | (with_reducible first | exact HB.out | apply below_alloc | apply pw_below_drewN | apply below_drew1 | refine below_set ?_ GE271.out) | exact HB.out)⟩⟩
          · rw [if_neg c10] at H
            have c10b0 : (a0_3.toList == ([] : List UInt8)) = false := beq_eq_false_iff_ne.mpr c10
            have c10b1 : (a0_3.toList != ([] : List UInt8)) = true := bne_iff_ne.mpr c10
            have H' := Aside0.mk H
            clear H
            have hcz12_0 : w3.cell? ⟨gb271, 0, none⟩ = some (.int .i64 a0_0) := (blk_cell BK271.out 0).trans rfl
            have hcz12_1 : w3.cell? ⟨gb271, 1, none⟩ = some (.int .i64 a0_1) := (blk_cell BK271.out 1).trans rfl
            have hcz12_2 : w3.cell? ⟨gb271, 2, none⟩ = some (.int .u64 a0_2) := (blk_cell BK271.out 2).trans rfl
            have hcz12_3 : w3.cell? ⟨gb271, 3, none⟩ = some (.string a0_3) := (blk_cell BK271.out 3).trans rfl
            have hcz12_4 : w3.cell? ⟨gb271, 4, none⟩ = some (.int .i64 a0_4) := (blk_cell BK271.out 4).trans rfl
            have hfz12_0 := blk_frozen BK271.out 0
            have hfz12_1 := blk_frozen BK271.out 1
            have hfz12_2 := blk_frozen BK271.out 2
            have hfz12_3 := blk_frozen BK271.out 3
            have hfz12_4 := blk_frozen BK271.out 4
            go_wp2
            repeat (go_quiet (fail); try go_wp2)
            go_meet
            case rel => exact ⟨_, ((a0_0 != 2)), (by first | rfl | (simp; done) | (simp [*]; done)), H', ⟨by first | omega | exact Nat.le_refl _⟩, ⟨by (with_reducible repeat (first | refine blk_drewN ?_ _ | refine blk_drew ?_ | refine blk_alloc ?_ _)); exact BK271.out⟩, ⟨by repeat (first | (with_reducible first | exact HB.out | apply below_alloc | apply pw_below_drewN | apply below_drew1 | refine below_set ?_ GE271.out) | exact HB.out)⟩⟩
        · rw [if_neg c9] at H
          have c9b0 : (a0_0 == 1) = false := beq_eq_false_iff_ne.mpr c9
          have c9b1 : (a0_0 != 1) = true := bne_iff_ne.mpr c9
          have H' := Aside0.mk H
          clear H
          have hcz13_0 : w3.cell? ⟨gb271, 0, none⟩ = some (.int .i64 a0_0) := (blk_cell BK271.out 0).trans rfl
          have hcz13_1 : w3.cell? ⟨gb271, 1, none⟩ = some (.int .i64 a0_1) := (blk_cell BK271.out 1).trans rfl
          have hcz13_2 : w3.cell? ⟨gb271, 2, none⟩ = some (.int .u64 a0_2) := (blk_cell BK271.out 2).trans rfl
          have hcz13_3 : w3.cell? ⟨gb271, 3, none⟩ = some (.string a0_3) := (blk_cell BK271.out 3).trans rfl
          have hcz13_4 : w3.cell? ⟨gb271, 4, none⟩ = some (.int .i64 a0_4) := (blk_cell BK271.out 4).trans rfl
          have hfz13_0 := blk_frozen BK271.out 0
          have hfz13_1 := blk_frozen BK271.out 1
          have hfz13_2 := blk_frozen BK271.out 2
          have hfz13_3 := blk_frozen BK271.out 3
          have hfz13_4 := blk_frozen BK271.out 4
          go_wp2
          repeat (go_quiet (fail); try go_wp2)
          go_meet
          case rel => exact ⟨_, (true), (by first | rfl | (simp; done) | (simp [*]; done)), H', ⟨by first | omega | exact Nat.le_refl _⟩, ⟨by (with_reducible repeat (first | refine blk_drewN ?_ _ | refine blk_drew ?_ | refine blk_alloc ?_ _)); exact BK271.out⟩, ⟨by repeat (first | (with_reducible first | exact HB.out | apply below_alloc | apply pw_below_drewN | apply below_drew1 | refine below_set ?_ GE271.out) | exact HB.out)⟩⟩
    · rw [if_neg c4] at H
      have c4b0 : (a0_1 == 0) = false := beq_eq_false_iff_ne.mpr c4
      have c4b1 : (a0_1 != 0) = true := bne_iff_ne.mpr c4
      (first | rw [c4b0] | (simp only [i64_w, i32_w]; rw [c4b0]) | skip)
      by_cases c14 : a0_0 = 9
      · rw [if_pos c14] at H
        have c14b0 : (a0_0 == 9) = true := beq_iff_eq.mpr c14
        have c14b1 : (a0_0 != 9) = false := bne_eq_false_iff_eq.mpr c14
        clear c14
        by_cases c15 : a0_2 = 0
        · rw [if_pos c15] at H
          have c15b0 : (a0_2 == 0) = true := beq_iff_eq.mpr c15
          have c15b1 : (a0_2 != 0) = false := bne_eq_false_iff_eq.mpr c15
          clear c15
          by_cases c16 : a0_3.toList = ([] : List UInt8)
          · rw [if_pos c16] at H
            have c16b0 : (a0_3.toList == ([] : List UInt8)) = true := beq_iff_eq.mpr c16
            have c16b1 : (a0_3.toList != ([] : List UInt8)) = false := bne_eq_false_iff_eq.mpr c16
            clear c16
            have H' := Aside0.mk H
            clear H
            have hcz17_0 : w3.cell? ⟨gb271, 0, none⟩ = some (.int .i64 a0_0) := (blk_cell BK271.out 0).trans rfl
            have hcz17_1 : w3.cell? ⟨gb271, 1, none⟩ = some (.int .i64 a0_1) := (blk_cell BK271.out 1).trans rfl
            have hcz17_2 : w3.cell? ⟨gb271, 2, none⟩ = some (.int .u64 a0_2) := (blk_cell BK271.out 2).trans rfl
            have hcz17_3 : w3.cell? ⟨gb271, 3, none⟩ = some (.string a0_3) := (blk_cell BK271.out 3).trans rfl
            have hcz17_4 : w3.cell? ⟨gb271, 4, none⟩ = some (.int .i64 a0_4) := (blk_cell BK271.out 4).trans rfl
            have hfz17_0 := blk_frozen BK271.out 0
            have hfz17_1 := blk_frozen BK271.out 1
            have hfz17_2 := blk_frozen BK271.out 2
            have hfz17_3 := blk_frozen BK271.out 3
            have hfz17_4 := blk_frozen BK271.out 4
            go_wp2
            repeat (go_quiet (fail); try go_wp2)
            go_meet
            case rel => exact ⟨_, (false), (by first | rfl | (simp; done) | (simp [*]; done)), H', ⟨by first | omega | exact Nat.le_refl _⟩, ⟨by (with_reducible repeat (first | refine blk_drewN ?_ _ | refine blk_drew ?_ | refine blk_alloc ?_ _)); exact BK271.out⟩, ⟨by repeat (first | (with_reducible first | exact HB.out | apply below_alloc | apply pw_below_drewN | apply below_drew1 | refine below_set ?_ GE271.out) | exact HB.out)⟩⟩
          · rw [if_neg c16] at H
            have c16b0 : (a0_3.toList == ([] : List UInt8)) = false := beq_eq_false_iff_ne.mpr c16
            have c16b1 : (a0_3.toList != ([] : List UInt8)) = true := bne_iff_ne.mpr c16
            have H' := Aside0.mk H
            clear H
            have hcz18_0 : w3.cell? ⟨gb271, 0, none⟩ = some (.int .i64 a0_0) := (blk_cell BK271.out 0).trans rfl
            have hcz18_1 : w3.cell? ⟨gb271, 1, none⟩ = some (.int .i64 a0_1) := (blk_cell BK271.out 1).trans rfl
            have hcz18_2 : w3.cell? ⟨gb271, 2, none⟩ = some (.int .u64 a0_2) := (blk_cell BK271.out 2).trans rfl
            have hcz18_3 : w3.cell? ⟨gb271, 3, none⟩ = some (.string a0_3) := (blk_cell BK271.out 3).trans rfl
            have hcz18_4 : w3.cell? ⟨gb271, 4, none⟩ = some (.int .i64 a0_4) := (blk_cell BK271.out 4).trans rfl
            have hfz18_0 := blk_frozen BK271.out 0
            have hfz18_1 := blk_frozen BK271.out 1
            have hfz18_2 := blk_frozen BK271.out 2
            have hfz18_3 := blk_frozen BK271.out 3
            have hfz18_4 := blk_frozen BK271.out 4
            go_wp2
            repeat (go_quiet (fail); try go_wp2)
            go_meet
            case rel => exact ⟨_, ((a0_0 != 2)), (by first | rfl | (simp; done) | (simp [*]; done)), H', ⟨by first | omega | exact Nat.le_refl _⟩, ⟨by (with_reducible repeat (first | refine blk_drewN ?_ _ | refine blk_drew ?_ | refine blk_alloc ?_ _)); exact BK271.out⟩, ⟨by repeat (first | (with_reducible first | exact HB.out | apply below_alloc | apply pw_below_drewN | apply below_drew1 | refine below_set ?_ GE271.out) | exact HB.out)⟩⟩
        · rw [if_neg c15] at H
          have c15b0 : (a0_2 == 0) = false := beq_eq_false_iff_ne.mpr c15
          have c15b1 : (a0_2 != 0) = true := bne_iff_ne.mpr c15
          by_cases c19 : a0_0 = 1
          · rw [if_pos c19] at H
            have c19b0 : (a0_0 == 1) = true := beq_iff_eq.mpr c19
            have c19b1 : (a0_0 != 1) = false := bne_eq_false_iff_eq.mpr c19
            clear c19
            by_cases c20 : a0_3.toList = ([] : List UInt8)
            · rw [if_pos c20] at H
              have c20b0 : (a0_3.toList == ([] : List UInt8)) = true := beq_iff_eq.mpr c20
              have c20b1 : (a0_3.toList != ([] : List UInt8)) = false := bne_eq_false_iff_eq.mpr c20
              clear c20
              have H' := Aside0.mk H
              clear H
              have hcz21_0 : w3.cell? ⟨gb271, 0, none⟩ = some (.int .i64 a0_0) := (blk_cell BK271.out 0).trans rfl
              have hcz21_1 : w3.cell? ⟨gb271, 1, none⟩ = some (.int .i64 a0_1) := (blk_cell BK271.out 1).trans rfl
              have hcz21_2 : w3.cell? ⟨gb271, 2, none⟩ = some (.int .u64 a0_2) := (blk_cell BK271.out 2).trans rfl
              have hcz21_3 : w3.cell? ⟨gb271, 3, none⟩ = some (.string a0_3) := (blk_cell BK271.out 3).trans rfl
              have hcz21_4 : w3.cell? ⟨gb271, 4, none⟩ = some (.int .i64 a0_4) := (blk_cell BK271.out 4).trans rfl
              have hfz21_0 := blk_frozen BK271.out 0
              have hfz21_1 := blk_frozen BK271.out 1
              have hfz21_2 := blk_frozen BK271.out 2
              have hfz21_3 := blk_frozen BK271.out 3
              have hfz21_4 := blk_frozen BK271.out 4
              go_wp2
              repeat (go_quiet (fail); try go_wp2)
              go_meet
              case rel => exact ⟨_, (false), (by first | rfl | (simp; done) | (simp [*]; done)), H', ⟨by first | omega | exact Nat.le_refl _⟩, ⟨by (with_reducible repeat (first | refine blk_drewN ?_ _ | refine blk_drew ?_ | refine blk_alloc ?_ _)); exact BK271.out⟩, ⟨by repeat (first | (with_reducible first | exact HB.out | apply below_alloc | apply pw_below_drewN | apply below_drew1 | refine below_set ?_ GE271.out) | exact HB.out)⟩⟩
            · rw [if_neg c20] at H
              have c20b0 : (a0_3.toList == ([] : List UInt8)) = false := beq_eq_false_iff_ne.mpr c20
              have c20b1 : (a0_3.toList != ([] : List UInt8)) = true := bne_iff_ne.mpr c20
              have H' := Aside0.mk H
              clear H
              have hcz22_0 : w3.cell? ⟨gb271, 0, none⟩ = some (.int .i64 a0_0) := (blk_cell BK271.out 0).trans rfl
              have hcz22_1 : w3.cell? ⟨gb271, 1, none⟩ = some (.int .i64 a0_1) := (blk_cell BK271.out 1).trans rfl
              have hcz22_2 : w3.cell? ⟨gb271, 2, none⟩ = some (.int .u64 a0_2) := (blk_cell BK271.out 2).trans rfl
              have hcz22_3 : w3.cell? ⟨gb271, 3, none⟩ = some (.string a0_3) := (blk_cell BK271.out 3).trans rfl
              have hcz22_4 : w3.cell? ⟨gb271, 4, none⟩ = some (.int .i64 a0_4) := (blk_cell BK271.out 4).trans rfl
              have hfz22_0 := blk_frozen BK271.out 0
              have hfz22_1 := blk_frozen BK271.out 1
              have hfz22_2 := blk_frozen BK271.out 2
              have hfz22_3 := blk_frozen BK271.out 3
              have hfz22_4 := blk_frozen BK271.out 4
              go_wp2
              repeat (go_quiet (fail); try go_wp2)
              go_meet
              case rel => exact ⟨_, ((a0_0 != 2)), (by first | rfl | (simp; done) | (simp [*]; done)), H', ⟨by first | omega | exact Nat.le_refl _⟩, ⟨by (with_reducible repeat (first | refine blk_drewN ?_ _ | refine blk_drew ?_ | refine blk_alloc ?_ _)); exact BK271.out⟩, ⟨by repeat (first | (with_reducible first | exact HB.out | apply below_alloc | apply pw_below_drewN | apply below_drew1 | refine below_set ?_ GE271.out) | exact HB.out)⟩⟩
          · rw [if_neg c19] at H
            have c19b0 : (a0_0 == 1) = false := beq_eq_false_iff_ne.mpr c19
            have c19b1 : (a0_0 != 1) = true := bne_iff_ne.mpr c19
            have H' := Aside0.mk H
            clear H
            have hcz23_0 : w3.cell? ⟨gb271, 0, none⟩ = some (.int .i64 a0_0) := (blk_cell BK271.out 0).trans rfl
            have hcz23_1 : w3.cell? ⟨gb271, 1, none⟩ = some (.int .i64 a0_1) := (blk_cell BK271.out 1).trans rfl
            have hcz23_2 : w3.cell? ⟨gb271, 2, none⟩ = some (.int .u64 a0_2) := (blk_cell BK271.out 2).trans rfl
            have hcz23_3 : w3.cell? ⟨gb271, 3, none⟩ = some (.string a0_3) := (blk_cell BK271.out 3).trans rfl
            have hcz23_4 : w3.cell? ⟨gb271, 4, none⟩ = some (.int .i64 a0_4) := (blk_cell BK271.out 4).trans rfl
            have hfz23_0 := blk_frozen BK271.out 0
            have hfz23_1 := blk_frozen BK271.out 1
            have hfz23_2 := blk_frozen BK271.out 2
            have hfz23_3 := blk_frozen BK271.out 3
            have hfz23_4 := blk_frozen BK271.out 4
            go_wp2
            repeat (go_quiet (fail); try go_wp2)
            go_meet
            case rel => exact ⟨_, (true), (by first | rfl | (simp; done) | (simp [*]; done)), H', ⟨by first | omega | exact Nat.le_refl _⟩, ⟨by (with_reducible repeat (first | refine blk_drewN ?_ _ | refine blk_drew ?_ | refine blk_alloc ?_ _)); exact BK271.out⟩, ⟨by repeat (first | (with_reducible first | exact HB.out | apply below_alloc | apply pw_below_drewN | apply below_drew1 | refine below_set ?_ GE271.out) | exact HB.out)⟩⟩
      · rw [if_neg c14] at H
        have c14b0 : (a0_0 == 9) = false := beq_eq_false_iff_ne.mpr c14
        have c14b1 : (a0_0 != 9) = true := bne_iff_ne.mpr c14
        have H' := Aside0.mk H
        clear H
        have hcz24_0 : w3.cell? ⟨gb271, 0, none⟩ = some (.int .i64 a0_0) := (blk_cell BK271.out 0).trans rfl
        have hcz24_1 : w3.cell? ⟨gb271, 1, none⟩ = some (.int .i64 a0_1) := (blk_cell BK271.out 1).trans rfl
        have hcz24_2 : w3.cell? ⟨gb271, 2, none⟩ = some (.int .u64 a0_2) := (blk_cell BK271.out 2).trans rfl
        have hcz24_3 : w3.cell? ⟨gb271, 3, none⟩ = some (.string a0_3) := (blk_cell BK271.out 3).trans rfl
        have hcz24_4 : w3.cell? ⟨gb271, 4, none⟩ = some (.int .i64 a0_4) := (blk_cell BK271.out 4).trans rfl
        have hfz24_0 := blk_frozen BK271.out 0
        have hfz24_1 := blk_frozen BK271.out 1
        have hfz24_2 := blk_frozen BK271.out 2
        have hfz24_3 := blk_frozen BK271.out 3
        have hfz24_4 := blk_frozen BK271.out 4
        go_wp2
        repeat (go_quiet (fail); try go_wp2)
        go_meet
        case rel => exact ⟨_, (true), (by first | rfl | (simp; done) | (simp [*]; done)), H', ⟨by first | omega | exact Nat.le_refl _⟩, ⟨by (with_reducible repeat (first | refine blk_drewN ?_ _ | refine blk_drew ?_ | refine blk_alloc ?_ _)); exact BK271.out⟩, ⟨by repeat (first | (with_reducible first | exact HB.out | apply below_alloc | apply pw_below_drewN | apply below_drew1 | refine below_set ?_ GE271.out) | exact HB.out)⟩⟩
  case rest =>
    clear HC2
    try clear c1
    try clear c2
    try clear p2
    try clear c4
    try clear c4b0
    try clear c4b1
    try clear c5
    try clear c5b0
    try clear c5b1
    try clear c6
    try clear c6b0
    try clear c6b1
    try clear c9
    try clear c9b0
    try clear c9b1
    try clear c10
    try clear c10b0
    try clear c10b1
    try clear c14
    try clear c14b0
    try clear c14b1
    try clear c15
    try clear c15b0
    try clear c15b1
    try clear c16
    try clear c16b0
    try clear c16b1
    try clear c19
    try clear c19b0
    try clear c19b1
    try clear c20
    try clear c20b0
    try clear c20b1
    try clear hcz11_0
    try clear hcz11_1
    try clear hcz11_2
    try clear hcz11_3
    try clear hcz11_4
    try clear hcz12_0
    try clear hcz12_1
    try clear hcz12_2
    try clear hcz12_3
    try clear hcz12_4
    try clear hcz13_0
    try clear hcz13_1
    try clear hcz13_2
    try clear hcz13_3
    try clear hcz13_4
    try clear hcz17_0
    try clear hcz17_1
    try clear hcz17_2
    try clear hcz17_3
    try clear hcz17_4
    try clear hcz18_0
    try clear hcz18_1
    try clear hcz18_2
    try clear hcz18_3
    try clear hcz18_4
    try clear hcz21_0
    try clear hcz21_1
    try clear hcz21_2
    try clear hcz21_3
    try clear hcz21_4
    try clear hcz22_0
    try clear hcz22_1
    try clear hcz22_2
    try clear hcz22_3
    try clear hcz22_4
    try clear hcz23_0
    try clear hcz23_1
    try clear hcz23_2
    try clear hcz23_3
    try clear hcz23_4
    try clear hcz24_0
    try clear hcz24_1
    try clear hcz24_2
    try clear hcz24_3
    try clear hcz24_4
    try clear hcz7_0
    try clear hcz7_1
    try clear hcz7_2
    try clear hcz7_3
    try clear hcz7_4
    try clear hcz8_0
    try clear hcz8_1
    try clear hcz8_2
    try clear hcz8_3
    try clear hcz8_4
    try clear hfz11_0
    try clear hfz11_1
    try clear hfz11_2
    try clear hfz11_3
    try clear hfz11_4
    try clear hfz12_0
    try clear hfz12_1
    try clear hfz12_2
    try clear hfz12_3
    try clear hfz12_4
    try clear hfz13_0
    try clear hfz13_1
    try clear hfz13_2
    try clear hfz13_3
    try clear hfz13_4
    try clear hfz17_0
    try clear hfz17_1
    try clear hfz17_2
    try clear hfz17_3
    try clear hfz17_4
    try clear hfz18_0
    try clear hfz18_1
    try clear hfz18_2
    try clear hfz18_3
    try clear hfz18_4
    try clear hfz21_0
    try clear hfz21_1
    try clear hfz21_2
    try clear hfz21_3
    try clear hfz21_4
    try clear hfz22_0
    try clear hfz22_1
    try clear hfz22_2
    try clear hfz22_3
    try clear hfz22_4
    try clear hfz23_0
    try clear hfz23_1
    try clear hfz23_2
    try clear hfz23_3
    try clear hfz23_4
    try clear hfz24_0
    try clear hfz24_1
    try clear hfz24_2
    try clear hfz24_3
    try clear hfz24_4
    try clear hfz7_0
    try clear hfz7_1
    try clear hfz7_2
    try clear hfz7_3
    try clear hfz7_4
    try clear hfz8_0
    try clear hfz8_1
    try clear hfz8_2
    try clear hfz8_3
    try clear hfz8_4
    obtain ⟨kq, x31_1, rfl, HA, HJ1, BK271, HB⟩ := hcut
    cases kq with
    | zero => exact absurd HA.out (by simp [print_kids.j0])
    | succ kj1 =>
      have H := HA.out
      clear HA
      simp only [print_kids.j0] at H
      by_cases c25 : x31_1 = true
      · subst c25
        have H1 : (some (0, false)) = some (r1, r2) := by rw [if_pos rfl] at H; exact H
        clear H
        have H := H1
        clear H1
        simp only [Option.some.injEq, Prod.mk.injEq] at H
        obtain ⟨rfl, rfl⟩ := H
        go_wp2
        repeat (go_quiet (fail); try go_wp2)
        go_ret2
        exact ⟨by first | rfl | (simp [errW_none, errW_some] <;> rfl) | (simp [*, errW_none, errW_some] <;> rfl), by repeat (first | (with_reducible first | exact HB.out | apply below_alloc | apply pw_below_drewN | apply below_drew1 | refine below_set ?_ GE271.out) | exact HB.out)⟩
      · replace c25 := Bool.eq_false_iff.mpr c25
        subst c25
        have H1 : (if a0_0 = 1 then (print_kids.j1 kj1 a0_0 (a0_0 == 1) a0_0 a0_1 a0_2 a0_3 a0_4) else (if a0_0 = 2 then (print_kids.j1 kj1 a0_0 (a0_0 == 2) a0_0 a0_1 a0_2 a0_3 a0_4) else (if a0_0 = 3 then (print_kids.j1 kj1 a0_0 (a0_0 == 3) a0_0 a0_1 a0_2 a0_3 a0_4) else (print_kids.j1 kj1 a0_0 (a0_0 == 4) a0_0 a0_1 a0_2 a0_3 a0_4)))) = some (r1, r2) := by rw [if_neg (show ¬ (false = true) by decide)] at H; exact H
        clear H
        have H := H1
        clear H1
        have HC26 := Aside0.mk H
        clear H
        have hcz27_0 : wc.cell? ⟨gb271, 0, none⟩ = some (.int .i64 a0_0) := (blk_cell BK271.out 0).trans rfl
        have hcz27_1 : wc.cell? ⟨gb271, 1, none⟩ = some (.int .i64 a0_1) := (blk_cell BK271.out 1).trans rfl
        have hcz27_2 : wc.cell? ⟨gb271, 2, none⟩ = some (.int .u64 a0_2) := (blk_cell BK271.out 2).trans rfl
        have hcz27_3 : wc.cell? ⟨gb271, 3, none⟩ = some (.string a0_3) := (blk_cell BK271.out 3).trans rfl
        have hcz27_4 : wc.cell? ⟨gb271, 4, none⟩ = some (.int .i64 a0_4) := (blk_cell BK271.out 4).trans rfl
        have hfz27_0 := blk_frozen BK271.out 0
        have hfz27_1 := blk_frozen BK271.out 1
        have hfz27_2 := blk_frozen BK271.out 2
        have hfz27_3 := blk_frozen BK271.out 3
        have hfz27_4 := blk_frozen BK271.out 4
        go_upto_if 34 with (fail)
        repeat (go_quiet (fail); go_upto_if 34 with (fail))
        go_cut [34] (fun v34 wc => ∃ (kq : Nat) (x34_25 : Bool), v34 = .bool x34_25 ∧ Aside0 (print_kids.j1 kq a0_0 x34_25 a0_0 a0_1 a0_2 a0_3 a0_4 = some (r1, r2)) ∧ Aside0 (kq ≤ kj1) ∧ Aside0 (wc.heap[gb271]? = some (.cells #[.int .i64 a0_0, .int .i64 a0_1, .int .u64 a0_2, .string a0_3, .int .i64 a0_4] 46 (0, 0))) ∧ Aside0 (Below w.heap.size w wc))
        case first =>
          have H := HC26.out
          clear HC26
          by_cases c28 : a0_0 = 1
          · rw [if_pos c28] at H
            have c28b0 : (a0_0 == 1) = true := beq_iff_eq.mpr c28
            have c28b1 : (a0_0 != 1) = false := bne_eq_false_iff_eq.mpr c28
            clear c28
            (first | rw [c28b0] | (simp only [i64_w, i32_w]; rw [c28b0]) | skip)
            have H' := Aside0.mk H
            clear H
            go_wp2
            repeat (go_quiet (fail); try go_wp2)
            go_meet
            case rel => exact ⟨_, ((a0_0 == 1)), (by first | rfl | (simp; done) | (simp [*]; done)), H', ⟨by have := HJ1.out; first | omega | exact Nat.le_refl _⟩, ⟨by (with_reducible repeat (first | refine blk_drewN ?_ _ | refine blk_drew ?_ | refine blk_alloc ?_ _)); exact BK271.out⟩, ⟨by repeat (first | (with_reducible first | exact HB.out | apply below_alloc | apply pw_below_drewN | apply below_drew1 | refine below_set ?_ GE271.out) | exact HB.out)⟩⟩
          · rw [if_neg c28] at H
            have c28b0 : (a0_0 == 1) = false := beq_eq_false_iff_ne.mpr c28
            have c28b1 : (a0_0 != 1) = true := bne_iff_ne.mpr c28
            (first | rw [c28b0] | (simp only [i64_w, i32_w]; rw [c28b0]) | skip)
            by_cases c29 : a0_0 = 2
            · rw [if_pos c29] at H
              have c29b0 : (a0_0 == 2) = true := beq_iff_eq.mpr c29
              have c29b1 : (a0_0 != 2) = false := bne_eq_false_iff_eq.mpr c29
              clear c29
              have H' := Aside0.mk H
              clear H
              go_wp2
              repeat (go_quiet (fail); try go_wp2)
              go_meet
              case rel => exact ⟨_, ((a0_0 == 2)), (by first | rfl | (simp; done) | (simp [*]; done)), H', ⟨by have := HJ1.out; first | omega | exact Nat.le_refl _⟩, ⟨by (with_reducible repeat (first | refine blk_drewN ?_ _ | refine blk_drew ?_ | refine blk_alloc ?_ _)); exact BK271.out⟩, ⟨by repeat (first | (with_reducible first | exact HB.out | apply below_alloc | apply pw_below_drewN | apply below_drew1 | refine below_set ?_ GE271.out) | exact HB.out)⟩⟩
            · rw [if_neg c29] at H
              have c29b0 : (a0_0 == 2) = false := beq_eq_false_iff_ne.mpr c29
              have c29b1 : (a0_0 != 2) = true := bne_iff_ne.mpr c29
              by_cases c30 : a0_0 = 3
              · rw [if_pos c30] at H
                have c30b0 : (a0_0 == 3) = true := beq_iff_eq.mpr c30
                have c30b1 : (a0_0 != 3) = false := bne_eq_false_iff_eq.mpr c30
                clear c30
                have H' := Aside0.mk H
                clear H
                go_wp2
                repeat (go_quiet (fail); try go_wp2)
                go_meet
                case rel => exact ⟨_, ((a0_0 == 3)), (by first | rfl | (simp; done) | (simp [*]; done)), H', ⟨by have := HJ1.out; first | omega | exact Nat.le_refl _⟩, ⟨by (with_reducible repeat (first | refine blk_drewN ?_ _ | refine blk_drew ?_ | refine blk_alloc ?_ _)); exact BK271.out⟩, ⟨by repeat (first | (with_reducible first | exact HB.out | apply below_alloc | apply pw_below_drewN | apply below_drew1 | refine below_set ?_ GE271.out) | exact HB.out)⟩⟩
              · rw [if_neg c30] at H
                have c30b0 : (a0_0 == 3) = false := beq_eq_false_iff_ne.mpr c30
                have c30b1 : (a0_0 != 3) = true := bne_iff_ne.mpr c30
                have H' := Aside0.mk H
                clear H
                go_wp2
                repeat (go_quiet (fail); try go_wp2)
                go_meet
                case rel => exact ⟨_, ((a0_0 == 4)), (by first | rfl | (simp; done) | (simp [*]; done)), H', ⟨by have := HJ1.out; first | omega | exact Nat.le_refl _⟩, ⟨by (with_reducible repeat (first | refine blk_drewN ?_ _ | refine blk_drew ?_ | refine blk_alloc ?_ _)); exact BK271.out⟩, ⟨by repeat (first | (with_reducible first | exact HB.out | apply below_alloc | apply pw_below_drewN | apply below_drew1 | refine below_set ?_ GE271.out) | exact HB.out)⟩⟩
        case rest =>
          clear HC26
          try clear c1
          try clear c2
          try clear p2
          try clear c3
          try clear c4
          try clear c4b0
          try clear c4b1
          try clear c5
          try clear c5b0
          try clear c5b1
          try clear c6
          try clear c6b0
          try clear c6b1
          try clear c9
          try clear c9b0
          try clear c9b1
          try clear c10
          try clear c10b0
          try clear c10b1
          try clear c14
          try clear c14b0
          try clear c14b1
          try clear c15
          try clear c15b0
          try clear c15b1
          try clear c16
          try clear c16b0
          try clear c16b1
          try clear c19
          try clear c19b0
          try clear c19b1
          try clear c20
          try clear c20b0
          try clear c20b1
          try clear c25
          try clear c28
          try clear c28b0
          try clear c28b1
          try clear c29
          try clear c29b0
          try clear c29b1
          try clear c30
          try clear c30b0
          try clear c30b1
          try clear hcz11_0
          try clear hcz11_1
          try clear hcz11_2
          try clear hcz11_3
          try clear hcz11_4
          try clear hcz12_0
          try clear hcz12_1
          try clear hcz12_2
          try clear hcz12_3
          try clear hcz12_4
          try clear hcz13_0
          try clear hcz13_1
          try clear hcz13_2
          try clear hcz13_3
          try clear hcz13_4
          try clear hcz17_0
          try clear hcz17_1
          try clear hcz17_2
          try clear hcz17_3
          try clear hcz17_4
          try clear hcz18_0
          try clear hcz18_1
          try clear hcz18_2
          try clear hcz18_3
          try clear hcz18_4
          try clear hcz21_0
          try clear hcz21_1
          try clear hcz21_2
          try clear hcz21_3
          try clear hcz21_4
          try clear hcz22_0
          try clear hcz22_1
          try clear hcz22_2
          try clear hcz22_3
          try clear hcz22_4
          try clear hcz23_0
          try clear hcz23_1
          try clear hcz23_2
          try clear hcz23_3
          try clear hcz23_4
          try clear hcz24_0
          try clear hcz24_1
          try clear hcz24_2
          try clear hcz24_3
          try clear hcz24_4
          try clear hcz27_0
          try clear hcz27_1
          try clear hcz27_2
          try clear hcz27_3
          try clear hcz27_4
          try clear hcz7_0
          try clear hcz7_1
          try clear hcz7_2
          try clear hcz7_3
          try clear hcz7_4
          try clear hcz8_0
          try clear hcz8_1
          try clear hcz8_2
          try clear hcz8_3
          try clear hcz8_4
          try clear hfz11_0
          try clear hfz11_1
          try clear hfz11_2
          try clear hfz11_3
          try clear hfz11_4
          try clear hfz12_0
          try clear hfz12_1
          try clear hfz12_2
          try clear hfz12_3
          try clear hfz12_4
          try clear hfz13_0
          try clear hfz13_1
          try clear hfz13_2
          try clear hfz13_3
          try clear hfz13_4
          try clear hfz17_0
          try clear hfz17_1
          try clear hfz17_2
          try clear hfz17_3
          try clear hfz17_4
          try clear hfz18_0
          try clear hfz18_1
          try clear hfz18_2
          try clear hfz18_3
          try clear hfz18_4
          try clear hfz21_0
          try clear hfz21_1
          try clear hfz21_2
          try clear hfz21_3
          try clear hfz21_4
          try clear hfz22_0
          try clear hfz22_1
          try clear hfz22_2
          try clear hfz22_3
          try clear hfz22_4
          try clear hfz23_0
          try clear hfz23_1
          try clear hfz23_2
          try clear hfz23_3
          try clear hfz23_4
          try clear hfz24_0
          try clear hfz24_1
          try clear hfz24_2
          try clear hfz24_3
          try clear hfz24_4
          try clear hfz27_0
          try clear hfz27_1
          try clear hfz27_2
          try clear hfz27_3
          try clear hfz27_4
          try clear hfz7_0
          try clear hfz7_1
          try clear hfz7_2
          try clear hfz7_3
          try clear hfz7_4
          try clear hfz8_0
          try clear hfz8_1
          try clear hfz8_2
          try clear hfz8_3
          try clear hfz8_4
          try clear p2
          obtain ⟨kq, x34_25, rfl, HA, HJ25, BK271, HB⟩ := hcut
          cases kq with
          | zero => exact absurd HA.out (by simp [print_kids.j1])
          | succ kj25 =>
            have H := HA.out
            clear HA
            simp only [print_kids.j1] at H
            by_cases c31 : x34_25 = true
            · subst c31
              have H1 : (some (0, true)) = some (r1, r2) := by rw [if_pos rfl] at H; exact H
              clear H
              have H := H1
              clear H1
              simp only [Option.some.injEq, Prod.mk.injEq] at H
              obtain ⟨rfl, rfl⟩ := H
              go_wp2
              repeat (go_quiet (fail); try go_wp2)
              go_ret2
              exact ⟨by first | rfl | (simp [errW_none, errW_some] <;> rfl) | (simp [*, errW_none, errW_some] <;> rfl), by repeat (first | (with_reducible first | exact HB.out | apply below_alloc | apply pw_below_drewN | apply below_drew1 | refine below_set ?_ GE271.out) | exact HB.out)⟩
            · replace c31 := Bool.eq_false_iff.mpr c31
              subst c31
              have H1 : (if a0_0 = 5 then (print_kids.j2 kj25 a0_0 (a0_0 == 5) a0_0 a0_1 a0_2 a0_3 a0_4) else (if a0_0 = 11 then (print_kids.j2 kj25 a0_0 (a0_0 == 11) a0_0 a0_1 a0_2 a0_3 a0_4) else (print_kids.j2 kj25 a0_0 (a0_0 == 12) a0_0 a0_1 a0_2 a0_3 a0_4))) = some (r1, r2) := by rw [if_neg (show ¬ (false = true) by decide)] at H; exact H
              clear H
              have H := H1
              clear H1
              have HC32 := Aside0.mk H
              clear H
              go_upto_if 39 with (fail)
              repeat (go_quiet (fail); go_upto_if 39 with (fail))
              go_cut [39] (fun v39 wc => ∃ (kq : Nat) (x39_31 : Bool), v39 = .bool x39_31 ∧ Aside0 (print_kids.j2 kq a0_0 x39_31 a0_0 a0_1 a0_2 a0_3 a0_4 = some (r1, r2)) ∧ Aside0 (kq ≤ kj25) ∧ Aside0 (wc.heap[gb271]? = some (.cells #[.int .i64 a0_0, .int .i64 a0_1, .int .u64 a0_2, .string a0_3, .int .i64 a0_4] 46 (0, 0))) ∧ Aside0 (Below w.heap.size w wc))
              case first =>
                have H := HC32.out
                clear HC32
                by_cases c33 : a0_0 = 5
                · rw [if_pos c33] at H
                  have c33b0 : (a0_0 == 5) = true := beq_iff_eq.mpr c33
                  have c33b1 : (a0_0 != 5) = false := bne_eq_false_iff_eq.mpr c33
                  clear c33
                  (first | rw [c33b0] | (simp only [i64_w, i32_w]; rw [c33b0]) | skip)
                  have H' := Aside0.mk H
                  clear H
                  go_wp2
                  repeat (go_quiet (fail); try go_wp2)
                  go_meet
                  case rel => exact ⟨_, ((a0_0 == 5)), (by first | rfl | (simp; done) | (simp [*]; done)), H', ⟨by have := HJ1.out; have := HJ25.out; first | omega | exact Nat.le_refl _⟩, ⟨by (with_reducible repeat (first | refine blk_drewN ?_ _ | refine blk_drew ?_ | refine blk_alloc ?_ _)); exact BK271.out⟩, ⟨by repeat (first | (with_reducible first | exact HB.out | apply below_alloc | apply pw_below_drewN | apply below_drew1 | refine below_set ?_ GE271.out) | exact HB.out)⟩⟩
                · rw [if_neg c33] at H
                  have c33b0 : (a0_0 == 5) = false := beq_eq_false_iff_ne.mpr c33
                  have c33b1 : (a0_0 != 5) = true := bne_iff_ne.mpr c33
                  (first | rw [c33b0] | (simp only [i64_w, i32_w]; rw [c33b0]) | skip)
                  by_cases c34 : a0_0 = 11
                  · rw [if_pos c34] at H
                    have c34b0 : (a0_0 == 11) = true := beq_iff_eq.mpr c34
                    have c34b1 : (a0_0 != 11) = false := bne_eq_false_iff_eq.mpr c34
                    clear c34
                    have H' := Aside0.mk H
                    clear H
                    go_wp2
                    repeat (go_quiet (fail); try go_wp2)
                    go_meet
                    case rel => exact ⟨_, ((a0_0 == 11)), (by first | rfl | (simp; done) | (simp [*]; done)), H', ⟨by have := HJ1.out; have := HJ25.out; first | omega | exact Nat.le_refl _⟩, ⟨by (with_reducible repeat (first | refine blk_drewN ?_ _ | refine blk_drew ?_ | refine blk_alloc ?_ _)); exact BK271.out⟩, ⟨by repeat (first | (with_reducible first | exact HB.out | apply below_alloc | apply pw_below_drewN | apply below_drew1 | refine below_set ?_ GE271.out) | exact HB.out)⟩⟩
                  · rw [if_neg c34] at H
                    have c34b0 : (a0_0 == 11) = false := beq_eq_false_iff_ne.mpr c34
                    have c34b1 : (a0_0 != 11) = true := bne_iff_ne.mpr c34
                    have H' := Aside0.mk H
                    clear H
                    go_wp2
                    repeat (go_quiet (fail); try go_wp2)
                    go_meet
                    case rel => exact ⟨_, ((a0_0 == 12)), (by first | rfl | (simp; done) | (simp [*]; done)), H', ⟨by have := HJ1.out; have := HJ25.out; first | omega | exact Nat.le_refl _⟩, ⟨by (with_reducible repeat (first | refine blk_drewN ?_ _ | refine blk_drew ?_ | refine blk_alloc ?_ _)); exact BK271.out⟩, ⟨by repeat (first | (with_reducible first | exact HB.out | apply below_alloc | apply pw_below_drewN | apply below_drew1 | refine below_set ?_ GE271.out) | exact HB.out)⟩⟩
              case rest =>
                clear HC32
                try clear c1
                try clear c2
                try clear p2
                try clear c3
                try clear c4
                try clear c4b0
                try clear c4b1
                try clear c5
                try clear c5b0
                try clear c5b1
                try clear c6
                try clear c6b0
                try clear c6b1
                try clear c9
                try clear c9b0
                try clear c9b1
                try clear c10
                try clear c10b0
                try clear c10b1
                try clear c14
                try clear c14b0
                try clear c14b1
                try clear c15
                try clear c15b0
                try clear c15b1
                try clear c16
                try clear c16b0
                try clear c16b1
                try clear c19
                try clear c19b0
                try clear c19b1
                try clear c20
                try clear c20b0
                try clear c20b1
                try clear c25
                try clear c28
                try clear c28b0
                try clear c28b1
                try clear c29
                try clear c29b0
                try clear c29b1
                try clear c30
                try clear c30b0
                try clear c30b1
                try clear c31
                try clear c33
                try clear c33b0
                try clear c33b1
                try clear c34
                try clear c34b0
                try clear c34b1
                try clear hcz11_0
                try clear hcz11_1
                try clear hcz11_2
                try clear hcz11_3
                try clear hcz11_4
                try clear hcz12_0
                try clear hcz12_1
                try clear hcz12_2
                try clear hcz12_3
                try clear hcz12_4
                try clear hcz13_0
                try clear hcz13_1
                try clear hcz13_2
                try clear hcz13_3
                try clear hcz13_4
                try clear hcz17_0
                try clear hcz17_1
                try clear hcz17_2
                try clear hcz17_3
                try clear hcz17_4
                try clear hcz18_0
                try clear hcz18_1
                try clear hcz18_2
                try clear hcz18_3
                try clear hcz18_4
                try clear hcz21_0
                try clear hcz21_1
                try clear hcz21_2
                try clear hcz21_3
                try clear hcz21_4
                try clear hcz22_0
                try clear hcz22_1
                try clear hcz22_2
                try clear hcz22_3
                try clear hcz22_4
                try clear hcz23_0
                try clear hcz23_1
                try clear hcz23_2
                try clear hcz23_3
                try clear hcz23_4
                try clear hcz24_0
                try clear hcz24_1
                try clear hcz24_2
                try clear hcz24_3
                try clear hcz24_4
                try clear hcz27_0
                try clear hcz27_1
                try clear hcz27_2
                try clear hcz27_3
                try clear hcz27_4
                try clear hcz7_0
                try clear hcz7_1
                try clear hcz7_2
                try clear hcz7_3
                try clear hcz7_4
                try clear hcz8_0
                try clear hcz8_1
                try clear hcz8_2
                try clear hcz8_3
                try clear hcz8_4
                try clear hfz11_0
                try clear hfz11_1
                try clear hfz11_2
                try clear hfz11_3
                try clear hfz11_4
                try clear hfz12_0
                try clear hfz12_1
                try clear hfz12_2
                try clear hfz12_3
                try clear hfz12_4
                try clear hfz13_0
                try clear hfz13_1
                try clear hfz13_2
                try clear hfz13_3
                try clear hfz13_4
                try clear hfz17_0
                try clear hfz17_1
                try clear hfz17_2
                try clear hfz17_3
                try clear hfz17_4
                try clear hfz18_0
                try clear hfz18_1
                try clear hfz18_2
                try clear hfz18_3
                try clear hfz18_4
                try clear hfz21_0
                try clear hfz21_1
                try clear hfz21_2
                try clear hfz21_3
                try clear hfz21_4
                try clear hfz22_0
                try clear hfz22_1
                try clear hfz22_2
                try clear hfz22_3
                try clear hfz22_4
                try clear hfz23_0
                try clear hfz23_1
                try clear hfz23_2
                try clear hfz23_3
                try clear hfz23_4
                try clear hfz24_0
                try clear hfz24_1
                try clear hfz24_2
                try clear hfz24_3
                try clear hfz24_4
                try clear hfz27_0
                try clear hfz27_1
                try clear hfz27_2
                try clear hfz27_3
                try clear hfz27_4
                try clear hfz7_0
                try clear hfz7_1
                try clear hfz7_2
                try clear hfz7_3
                try clear hfz7_4
                try clear hfz8_0
                try clear hfz8_1
                try clear hfz8_2
                try clear hfz8_3
                try clear hfz8_4
                try clear p2
                obtain ⟨kq, x39_31, rfl, HA, HJ31, BK271, HB⟩ := hcut
                cases kq with
                | zero => exact absurd HA.out (by simp [print_kids.j2])
                | succ kj31 =>
                  have H := HA.out
                  clear HA
                  simp only [print_kids.j2] at H
                  by_cases c35 : x39_31 = true
                  · subst c35
                    have H1 : (some (1, true)) = some (r1, r2) := by rw [if_pos rfl] at H; exact H
                    clear H
                    have H := H1
                    clear H1
                    simp only [Option.some.injEq, Prod.mk.injEq] at H
                    obtain ⟨rfl, rfl⟩ := H
                    go_wp2
                    repeat (go_quiet (fail); try go_wp2)
                    go_ret2
                    exact ⟨by first | rfl | (simp [errW_none, errW_some] <;> rfl) | (simp [*, errW_none, errW_some] <;> rfl), by repeat (first | (with_reducible first | exact HB.out | apply below_alloc | apply pw_below_drewN | apply below_drew1 | refine below_set ?_ GE271.out) | exact HB.out)⟩
                  · replace c35 := Bool.eq_false_iff.mpr c35
                    subst c35
                    have H1 : (if a0_0 = 6 then (print_kids.j3 kj31 a0_0 (a0_0 == 6) a0_0 a0_1 a0_2 a0_3 a0_4) else (if a0_0 = 7 then (print_kids.j3 kj31 a0_0 (a0_0 == 7) a0_0 a0_1 a0_2 a0_3 a0_4) else (if a0_0 = 8 then (print_kids.j3 kj31 a0_0 (a0_0 == 8) a0_0 a0_1 a0_2 a0_3 a0_4) else (print_kids.j3 kj31 a0_0 (a0_0 == 10) a0_0 a0_1 a0_2 a0_3 a0_4)))) = some (r1, r2) := by rw [if_neg (show ¬ (false = true) by decide)] at H; exact H
                    clear H
                    have H := H1
                    clear H1
                    have HC36 := Aside0.mk H
                    clear H
                    go_upto_if 43 with (fail)
                    repeat (go_quiet (fail); go_upto_if 43 with (fail))
                    go_cut [43] (fun v43 wc => ∃ (kq : Nat) (x43_35 : Bool), v43 = .bool x43_35 ∧ Aside0 (print_kids.j3 kq a0_0 x43_35 a0_0 a0_1 a0_2 a0_3 a0_4 = some (r1, r2)) ∧ Aside0 (kq ≤ kj31) ∧ Aside0 (wc.heap[gb271]? = some (.cells #[.int .i64 a0_0, .int .i64 a0_1, .int .u64 a0_2, .string a0_3, .int .i64 a0_4] 46 (0, 0))) ∧ Aside0 (Below w.heap.size w wc))
                    case first =>
                      have H := HC36.out
                      clear HC36
                      by_cases c37 : a0_0 = 6
                      · rw [if_pos c37] at H
                        have c37b0 : (a0_0 == 6) = true := beq_iff_eq.mpr c37
                        have c37b1 : (a0_0 != 6) = false := bne_eq_false_iff_eq.mpr c37
                        clear c37
                        (first | rw [c37b0] | (simp only [i64_w, i32_w]; rw [c37b0]) | skip)
                        have H' := Aside0.mk H
                        clear H
                        go_wp2
                        repeat (go_quiet (fail); try go_wp2)
                        go_meet
                        case rel => exact ⟨_, ((a0_0 == 6)), (by first | rfl | (simp; done) | (simp [*]; done)), H', ⟨by have := HJ1.out; have := HJ25.out; have := HJ31.out; first | omega | exact Nat.le_refl _⟩, ⟨by (with_reducible repeat (first | refine blk_drewN ?_ _ | refine blk_drew ?_ | refine blk_alloc ?_ _)); exact BK271.out⟩, ⟨by repeat (first | (with_reducible first | exact HB.out | apply below_alloc | apply pw_below_drewN | apply below_drew1 | refine below_set ?_ GE271.out) | exact HB.out)⟩⟩
                      · rw [if_neg c37] at H
                        have c37b0 : (a0_0 == 6) = false := beq_eq_false_iff_ne.mpr c37
                        have c37b1 : (a0_0 != 6) = true := bne_iff_ne.mpr c37
                        (first | rw [c37b0] | (simp only [i64_w, i32_w]; rw [c37b0]) | skip)
                        by_cases c38 : a0_0 = 7
                        · rw [if_pos c38] at H
                          have c38b0 : (a0_0 == 7) = true := beq_iff_eq.mpr c38
                          have c38b1 : (a0_0 != 7) = false := bne_eq_false_iff_eq.mpr c38
                          clear c38
                          have H' := Aside0.mk H
                          clear H
                          go_wp2
                          repeat (go_quiet (fail); try go_wp2)
                          go_meet
                          case rel => exact ⟨_, ((a0_0 == 7)), (by first | rfl | (simp; done) | (simp [*]; done)), H', ⟨by have := HJ1.out; have := HJ25.out; have := HJ31.out; first | omega | exact Nat.le_refl _⟩, ⟨by (with_reducible repeat (first | refine blk_drewN ?_ _ | refine blk_drew ?_ | refine blk_alloc ?_ _)); exact BK271.out⟩, ⟨by repeat (first | (with_reducible first | exact HB.out | apply below_alloc | apply pw_below_drewN | apply below_drew1 | refine below_set ?_ GE271.out) | exact HB.out)⟩⟩
                        · rw [if_neg c38] at H
                          have c38b0 : (a0_0 == 7) = false := beq_eq_false_iff_ne.mpr c38
                          have c38b1 : (a0_0 != 7) = true := bne_iff_ne.mpr c38
                          by_cases c39 : a0_0 = 8
                          · rw [if_pos c39] at H
                            have c39b0 : (a0_0 == 8) = true := beq_iff_eq.mpr c39
                            have c39b1 : (a0_0 != 8) = false := bne_eq_false_iff_eq.mpr c39
                            clear c39
                            have H' := Aside0.mk H
                            clear H
                            go_wp2
                            repeat (go_quiet (fail); try go_wp2)
                            go_meet
                            case rel => exact ⟨_, ((a0_0 == 8)), (by first | rfl | (simp; done) | (simp [*]; done)), H', ⟨by have := HJ1.out; have := HJ25.out; have := HJ31.out; first | omega | exact Nat.le_refl _⟩, ⟨by (with_reducible repeat (first | refine blk_drewN ?_ _ | refine blk_drew ?_ | refine blk_alloc ?_ _)); exact BK271.out⟩, ⟨by repeat (first | (with_reducible first | exact HB.out | apply below_alloc | apply pw_below_drewN | apply below_drew1 | refine below_set ?_ GE271.out) | exact HB.out)⟩⟩
                          · rw [if_neg c39] at H
                            have c39b0 : (a0_0 == 8) = false := beq_eq_false_iff_ne.mpr c39
                            have c39b1 : (a0_0 != 8) = true := bne_iff_ne.mpr c39
                            have H' := Aside0.mk H
                            clear H
                            go_wp2
                            repeat (go_quiet (fail); try go_wp2)
                            go_meet
                            case rel => exact ⟨_, ((a0_0 == 10)), (by first | rfl | (simp; done) | (simp [*]; done)), H', ⟨by have := HJ1.out; have := HJ25.out; have := HJ31.out; first | omega | exact Nat.le_refl _⟩, ⟨by (with_reducible repeat (first | refine blk_drewN ?_ _ | refine blk_drew ?_ | refine blk_alloc ?_ _)); exact BK271.out⟩, ⟨by repeat (first | (with_reducible first | exact HB.out | apply below_alloc | apply pw_below_drewN | apply below_drew1 | refine below_set ?_ GE271.out) | exact HB.out)⟩⟩
                    case rest =>
                      clear HC36
                      try clear c1
                      try clear c2
                      try clear p2
                      try clear c3
                      try clear c4
                      try clear c4b0
                      try clear c4b1
                      try clear c5
                      try clear c5b0
                      try clear c5b1
                      try clear c6
                      try clear c6b0
                      try clear c6b1
                      try clear c9
                      try clear c9b0
                      try clear c9b1
                      try clear c10
                      try clear c10b0
                      try clear c10b1
                      try clear c14
                      try clear c14b0
                      try clear c14b1
                      try clear c15
                      try clear c15b0
                      try clear c15b1
                      try clear c16
                      try clear c16b0
                      try clear c16b1
                      try clear c19
                      try clear c19b0
                      try clear c19b1
                      try clear c20
                      try clear c20b0
                      try clear c20b1
                      try clear c25
                      try clear c28
                      try clear c28b0
                      try clear c28b1
                      try clear c29
                      try clear c29b0
                      try clear c29b1
                      try clear c30
                      try clear c30b0
                      try clear c30b1
                      try clear c31
                      try clear c33
                      try clear c33b0
                      try clear c33b1
                      try clear c34
                      try clear c34b0
                      try clear c34b1
                      try clear c35
                      try clear c37
                      try clear c37b0
                      try clear c37b1
                      try clear c38
                      try clear c38b0
                      try clear c38b1
                      try clear c39
                      try clear c39b0
                      try clear c39b1
                      try clear hcz11_0
                      try clear hcz11_1
                      try clear hcz11_2
                      try clear hcz11_3
                      try clear hcz11_4
                      try clear hcz12_0
                      try clear hcz12_1
                      try clear hcz12_2
                      try clear hcz12_3
                      try clear hcz12_4
                      try clear hcz13_0
                      try clear hcz13_1
                      try clear hcz13_2
                      try clear hcz13_3
                      try clear hcz13_4
                      try clear hcz17_0
                      try clear hcz17_1
                      try clear hcz17_2
                      try clear hcz17_3
                      try clear hcz17_4
                      try clear hcz18_0
                      try clear hcz18_1
                      try clear hcz18_2
                      try clear hcz18_3
                      try clear hcz18_4
                      try clear hcz21_0
                      try clear hcz21_1
                      try clear hcz21_2
                      try clear hcz21_3
                      try clear hcz21_4
                      try clear hcz22_0
                      try clear hcz22_1
                      try clear hcz22_2
                      try clear hcz22_3
                      try clear hcz22_4
                      try clear hcz23_0
                      try clear hcz23_1
                      try clear hcz23_2
                      try clear hcz23_3
                      try clear hcz23_4
                      try clear hcz24_0
                      try clear hcz24_1
                      try clear hcz24_2
                      try clear hcz24_3
                      try clear hcz24_4
                      try clear hcz27_0
                      try clear hcz27_1
                      try clear hcz27_2
                      try clear hcz27_3
                      try clear hcz27_4
                      try clear hcz7_0
                      try clear hcz7_1
                      try clear hcz7_2
                      try clear hcz7_3
                      try clear hcz7_4
                      try clear hcz8_0
                      try clear hcz8_1
                      try clear hcz8_2
                      try clear hcz8_3
                      try clear hcz8_4
                      try clear hfz11_0
                      try clear hfz11_1
                      try clear hfz11_2
                      try clear hfz11_3
                      try clear hfz11_4
                      try clear hfz12_0
                      try clear hfz12_1
                      try clear hfz12_2
                      try clear hfz12_3
                      try clear hfz12_4
                      try clear hfz13_0
                      try clear hfz13_1
                      try clear hfz13_2
                      try clear hfz13_3
                      try clear hfz13_4
                      try clear hfz17_0
                      try clear hfz17_1
                      try clear hfz17_2
                      try clear hfz17_3
                      try clear hfz17_4
                      try clear hfz18_0
                      try clear hfz18_1
                      try clear hfz18_2
                      try clear hfz18_3
                      try clear hfz18_4
                      try clear hfz21_0
                      try clear hfz21_1
                      try clear hfz21_2
                      try clear hfz21_3
                      try clear hfz21_4
                      try clear hfz22_0
                      try clear hfz22_1
                      try clear hfz22_2
                      try clear hfz22_3
                      try clear hfz22_4
                      try clear hfz23_0
                      try clear hfz23_1
                      try clear hfz23_2
                      try clear hfz23_3
                      try clear hfz23_4
                      try clear hfz24_0
                      try clear hfz24_1
                      try clear hfz24_2
                      try clear hfz24_3
                      try clear hfz24_4
                      try clear hfz27_0
                      try clear hfz27_1
                      try clear hfz27_2
                      try clear hfz27_3
                      try clear hfz27_4
                      try clear hfz7_0
                      try clear hfz7_1
                      try clear hfz7_2
                      try clear hfz7_3
                      try clear hfz7_4
                      try clear hfz8_0
                      try clear hfz8_1
                      try clear hfz8_2
                      try clear hfz8_3
                      try clear hfz8_4
                      try clear p2
                      obtain ⟨kq, x43_35, rfl, HA, HJ35, BK271, HB⟩ := hcut
                      cases kq with
                      | zero => exact absurd HA.out (by simp [print_kids.j3])
                      | succ kj35 =>
                        have H := HA.out
                        clear HA
                        simp only [print_kids.j3] at H
                        by_cases c40 : x43_35 = true
                        · subst c40
                          have H1 : (some (2, true)) = some (r1, r2) := by rw [if_pos rfl] at H; exact H
                          clear H
                          have H := H1
                          clear H1
                          simp only [Option.some.injEq, Prod.mk.injEq] at H
                          obtain ⟨rfl, rfl⟩ := H
                          go_wp2
                          repeat (go_quiet (fail); try go_wp2)
                          go_ret2
                          exact ⟨by first | rfl | (simp [errW_none, errW_some] <;> rfl) | (simp [*, errW_none, errW_some] <;> rfl), by repeat (first | (with_reducible first | exact HB.out | apply below_alloc | apply pw_below_drewN | apply below_drew1 | refine below_set ?_ GE271.out) | exact HB.out)⟩
                        · replace c40 := Bool.eq_false_iff.mpr c40
                          subst c40
                          have H1 : (if a0_0 = 9 then (some (a0_1, decide (a0_1 ≥ 1))) else (some (0, false))) = some (r1, r2) := by rw [if_neg (show ¬ (false = true) by decide)] at H; exact H
                          clear H
                          have H := H1
                          clear H1
                          by_cases c41 : a0_0 = 9
                          · rw [if_pos c41] at H
                            have c41b0 : (a0_0 == 9) = true := beq_iff_eq.mpr c41
                            have c41b1 : (a0_0 != 9) = false := bne_eq_false_iff_eq.mpr c41
                            clear c41
                            simp only [Option.some.injEq, Prod.mk.injEq] at H
                            obtain ⟨rfl, rfl⟩ := H
                            have hcz42_0 : wc.cell? ⟨gb271, 0, none⟩ = some (.int .i64 a0_0) := (blk_cell BK271.out 0).trans rfl
                            have hcz42_1 : wc.cell? ⟨gb271, 1, none⟩ = some (.int .i64 a0_1) := (blk_cell BK271.out 1).trans rfl
                            have hcz42_2 : wc.cell? ⟨gb271, 2, none⟩ = some (.int .u64 a0_2) := (blk_cell BK271.out 2).trans rfl
                            have hcz42_3 : wc.cell? ⟨gb271, 3, none⟩ = some (.string a0_3) := (blk_cell BK271.out 3).trans rfl
                            have hcz42_4 : wc.cell? ⟨gb271, 4, none⟩ = some (.int .i64 a0_4) := (blk_cell BK271.out 4).trans rfl
                            have hfz42_0 := blk_frozen BK271.out 0
                            have hfz42_1 := blk_frozen BK271.out 1
                            have hfz42_2 := blk_frozen BK271.out 2
                            have hfz42_3 := blk_frozen BK271.out 3
                            have hfz42_4 := blk_frozen BK271.out 4
                            go_wp2
                            repeat (go_quiet (fail); try go_wp2)
                            go_ret2
                            exact ⟨by first | rfl | (simp [errW_none, errW_some] <;> rfl) | (simp [*, errW_none, errW_some] <;> rfl), by repeat (first | (with_reducible first | exact HB.out | apply below_alloc | apply pw_below_drewN | apply below_drew1 | refine below_set ?_ GE271.out) | exact HB.out)⟩
                          · rw [if_neg c41] at H
                            have c41b0 : (a0_0 == 9) = false := beq_eq_false_iff_ne.mpr c41
                            have c41b1 : (a0_0 != 9) = true := bne_iff_ne.mpr c41
                            simp only [Option.some.injEq, Prod.mk.injEq] at H
                            obtain ⟨rfl, rfl⟩ := H
                            go_wp2
                            repeat (go_quiet (fail); try go_wp2)
                            go_ret2
                            exact ⟨by first | rfl | (simp [errW_none, errW_some] <;> rfl) | (simp [*, errW_none, errW_some] <;> rfl), by repeat (first | (with_reducible first | exact HB.out | apply below_alloc | apply pw_below_drewN | apply below_drew1 | refine below_set ?_ GE271.out) | exact HB.out)⟩
end Go.Proofs.YtaijoghpfobdbaaDoor.X
end
section
namespace Go.Proofs.YtaijoghpfobdbaaDoor.X
open Go.RowKit Go.Proofs.YtaijoghpfobdbaaDoorW.PrintWords Go.Proofs.YtaijoghpfobdbaaDoorW.PrintLast Go.Proofs.YtaijoghpfobdbaaDoorW.PrintMore
attribute [local go_sem] max2_int min2_int max_two min_two max_three min_three max_four min_four   -- for this text's walks alone
set_option linter.unusedVariables false
set_option linter.unusedSimpArgs false
end Go.Proofs.YtaijoghpfobdbaaDoor.X
end
section
namespace Go.Proofs.YtaijoghpfobdbaaDoor.X
open Go.RowKit Go.Proofs.YtaijoghpfobdbaaDoorW.PrintWords Go.Proofs.YtaijoghpfobdbaaDoorW.PrintLast Go.Proofs.YtaijoghpfobdbaaDoorW.PrintMore
attribute [local go_sem] max2_int min2_int max_two min_two max_three min_three max_four min_four   -- for this text's walks alone
set_option linter.unusedVariables false
set_option linter.unusedSimpArgs false
end Go.Proofs.YtaijoghpfobdbaaDoor.X
end
section
set_option linter.unusedVariables false
set_option linter.unusedSimpArgs false
namespace Go.Proofs.YtaijoghpfobdbaaDoor.P
open Go.RowKit Go.Proofs.YtaijoghpfobdbaaDoor.X Go.Proofs.YtaijoghpfobdbaaDoorW.PrintWords Go.Proofs.YtaijoghpfobdbaaDoorW.PrintLast
def badF (n : Nd) : Prop := (n.f1 ≠ 0 ∧ n.f0 ≠ 9) ∨ (n.f2 ≠ 0 ∧ n.f0 ≠ 1) ∨ (n.f3.toList ≠ [] ∧ n.f0 ≠ 2)
instance (n : Nd) : Decidable (badF n) := by unfold badF; infer_instance
def kv (n : Nd) : Int × Bool :=
  if badF n then (0, false) else if n.f0 = 1 ∨ n.f0 = 2 ∨ n.f0 = 3 ∨ n.f0 = 4 then (0, true) else if n.f0 = 5 ∨ n.f0 = 11 ∨ n.f0 = 12 then (1, true)
  else if n.f0 = 6 ∨ n.f0 = 7 ∨ n.f0 = 8 ∨ n.f0 = 10 then (2, true) else if n.f0 = 9 then (n.f1, decide (n.f1 ≥ 1)) else (0, false)
def kd (n : Nd) : Option Nat := if (kv n).2 = true then some (kv n).1.toNat else none
theorem kv_nn (n : Nd) (h : (kv n).2 = true) : 0 ≤ (kv n).1 := by
  unfold kv at *
  split at h
  · simp at h
  · split at h
    · simp_all
    · split at h
      · simp_all
      · split at h
        · simp_all
        · split at h
          · simp at h
            simp_all
            omega
          · simp at h
theorem j3_ev (x : Int) (b : Bool) (a0 a1 a2 : Int) (a3 : ByteArray) (a4 : Int) : Ev (fun k => print_kids.j3 k x b a0 a1 a2 a3 a4) (if b = true then (2, true) else if x = 9 then (a1, decide (a1 ≥ 1)) else (0, false)) := by
  refine Ev.step (fun k => by simp only [print_kids.j3]; rfl) ?_
  by_cases h : b = true
  · simp only [if_pos h]; exact Ev.now _
  · by_cases h2 : x = 9
    · simp only [if_neg h, if_pos h2]; exact Ev.now _
    · simp only [if_neg h, if_neg h2]; exact Ev.now _
theorem j2_ev (x : Int) (b : Bool) (a0 a1 a2 : Int) (a3 : ByteArray) (a4 : Int) : Ev (fun k => print_kids.j2 k x b a0 a1 a2 a3 a4) (if b = true then (1, true) else if x = 6 ∨ x = 7 ∨ x = 8 ∨ x = 10 then (2, true) else if x = 9 then (a1, decide (a1 ≥ 1)) else (0, false)) := by
  refine Ev.step (fun k => by simp only [print_kids.j2]; rfl) ?_
  by_cases h : b = true
  · simp only [if_pos h]; exact Ev.now _
  simp only [if_neg h]
  have key : ∀ c : Bool, (c = true ↔ (x = 6 ∨ x = 7 ∨ x = 8 ∨ x = 10)) → Ev (fun k => print_kids.j3 k x c a0 a1 a2 a3 a4) (if x = 6 ∨ x = 7 ∨ x = 8 ∨ x = 10 then (2, true) else if x = 9 then (a1, decide (a1 ≥ 1)) else (0, false)) := by
    intro c hc
    have := j3_ev x c a0 a1 a2 a3 a4
    by_cases hx : x = 6 ∨ x = 7 ∨ x = 8 ∨ x = 10
    · rw [if_pos (hc.2 hx)] at this; rw [if_pos hx]; exact this
    · rw [if_neg (fun e => hx (hc.1 e))] at this; rw [if_neg hx]; exact this
  by_cases h6 : x = 6
  · simp only [if_pos h6]; exact key _ (by simp [h6])
  by_cases h7 : x = 7
  · simp only [if_neg h6, if_pos h7]; exact key _ (by simp [h7])
  by_cases h8 : x = 8
  · simp only [if_neg h6, if_neg h7, if_pos h8]; exact key _ (by simp [h8])
  · simp only [if_neg h6, if_neg h7, if_neg h8]; exact key _ (by simp [h6, h7, h8])
theorem j1_ev (x : Int) (b : Bool) (a0 a1 a2 : Int) (a3 : ByteArray) (a4 : Int) : Ev (fun k => print_kids.j1 k x b a0 a1 a2 a3 a4) (if b = true then (0, true) else if x = 5 ∨ x = 11 ∨ x = 12 then (1, true) else if x = 6 ∨ x = 7 ∨ x = 8 ∨ x = 10 then (2, true) else if x = 9 then (a1, decide (a1 ≥ 1)) else (0, false)) := by
  refine Ev.step (fun k => by simp only [print_kids.j1]; rfl) ?_
  by_cases h : b = true
  · simp only [if_pos h]; exact Ev.now _
  simp only [if_neg h]
  have key : ∀ c : Bool, (c = true ↔ (x = 5 ∨ x = 11 ∨ x = 12)) → Ev (fun k => print_kids.j2 k x c a0 a1 a2 a3 a4) (if x = 5 ∨ x = 11 ∨ x = 12 then (1, true) else if x = 6 ∨ x = 7 ∨ x = 8 ∨ x = 10 then (2, true) else if x = 9 then (a1, decide (a1 ≥ 1)) else (0, false)) := by
    intro c hc
    have := j2_ev x c a0 a1 a2 a3 a4
    by_cases hx : x = 5 ∨ x = 11 ∨ x = 12
    · rw [if_pos (hc.2 hx)] at this; rw [if_pos hx]; exact this
    · rw [if_neg (fun e => hx (hc.1 e))] at this; rw [if_neg hx]; exact this
  by_cases h5 : x = 5
  · simp only [if_pos h5]; exact key _ (by simp [h5])
  by_cases h11 : x = 11
  · simp only [if_neg h5, if_pos h11]; exact key _ (by simp [h11])
  · simp only [if_neg h5, if_neg h11]; exact key _ (by simp [h5, h11])
theorem j0_ev (b : Bool) (a0 a1 a2 : Int) (a3 : ByteArray) (a4 : Int) : Ev (fun k => print_kids.j0 k b a0 a1 a2 a3 a4) (if b = true then (0, false) else if a0 = 1 ∨ a0 = 2 ∨ a0 = 3 ∨ a0 = 4 then (0, true) else if a0 = 5 ∨ a0 = 11 ∨ a0 = 12 then (1, true) else if a0 = 6 ∨ a0 = 7 ∨ a0 = 8 ∨ a0 = 10 then (2, true) else if a0 = 9 then (a1, decide (a1 ≥ 1)) else (0, false)) := by
  refine Ev.step (fun k => by simp only [print_kids.j0]; rfl) ?_
  by_cases h : b = true
  · simp only [if_pos h]; exact Ev.now _
  simp only [if_neg h]
  have key : ∀ c : Bool, (c = true ↔ (a0 = 1 ∨ a0 = 2 ∨ a0 = 3 ∨ a0 = 4)) → Ev (fun k => print_kids.j1 k a0 c a0 a1 a2 a3 a4) (if a0 = 1 ∨ a0 = 2 ∨ a0 = 3 ∨ a0 = 4 then (0, true) else if a0 = 5 ∨ a0 = 11 ∨ a0 = 12 then (1, true) else if a0 = 6 ∨ a0 = 7 ∨ a0 = 8 ∨ a0 = 10 then (2, true) else if a0 = 9 then (a1, decide (a1 ≥ 1)) else (0, false)) := by
    intro c hc
    have := j1_ev a0 c a0 a1 a2 a3 a4
    by_cases hx : a0 = 1 ∨ a0 = 2 ∨ a0 = 3 ∨ a0 = 4
    · rw [if_pos (hc.2 hx)] at this; rw [if_pos hx]; exact this
    · rw [if_neg (fun e => hx (hc.1 e))] at this; rw [if_neg hx]; exact this
  by_cases h5 : a0 = 1
  · simp only [if_pos h5]; exact key _ (by simp [h5])
  by_cases h6 : a0 = 2
  · simp only [if_neg h5, if_pos h6]; exact key _ (by simp [h6])
  by_cases h7 : a0 = 3
  · simp only [if_neg h5, if_neg h6, if_pos h7]; exact key _ (by simp [h7])
  · simp only [if_neg h5, if_neg h6, if_neg h7]; exact key _ (by simp [h5, h6, h7])
theorem kids_ev (n : Nd) : Ev (fun k => print_kids.f k n.f0 n.f1 n.f2 n.f3 n.f4) (kv n) := by
  have key : ∀ c : Bool, (c = true ↔ badF n) → Ev (fun k => print_kids.j0 k c n.f0 n.f1 n.f2 n.f3 n.f4) (kv n) := by
    intro c hc
    have := j0_ev c n.f0 n.f1 n.f2 n.f3 n.f4
    unfold kv
    by_cases hx : badF n
    · rw [if_pos (hc.2 hx)] at this; rw [if_pos hx]; exact this
    · rw [if_neg (fun e => hx (hc.1 e))] at this; rw [if_neg hx]; exact this
  unfold print_kids.f
  unfold badF at key
  by_cases h1 : n.f1 = 0 <;> by_cases h9 : n.f0 = 9 <;> by_cases h2 : n.f2 = 0 <;> by_cases hn : n.f0 = 1 <;> by_cases h3 : n.f3.toList = []
  all_goals first | (exfalso; omega) | skip
  all_goals first | simp only [if_pos h1] | simp only [if_neg h1] | skip
  all_goals first | simp only [if_pos h9] | simp only [if_neg h9] | skip
  all_goals first | simp only [if_pos h2] | simp only [if_neg h2] | skip
  all_goals first | simp only [if_pos hn] | simp only [if_neg hn] | skip
  all_goals first | simp only [if_pos h3] | simp only [if_neg h3] | skip
  all_goals exact key _ (by simp [h1, h2, h3, h9, hn])
end Go.Proofs.YtaijoghpfobdbaaDoor.P
end
section
namespace Go.Proofs.YtaijoghpfobdbaaDoor.X
open Go.RowKit Go.Proofs.YtaijoghpfobdbaaDoorW.PrintWords Go.Proofs.YtaijoghpfobdbaaDoorW.PrintLast Go.Proofs.YtaijoghpfobdbaaDoorW.PrintMore
attribute [local go_sem] max2_int min2_int max_two min_two max_three min_three max_four min_four   -- for this text's walks alone
set_option linter.unusedVariables false
set_option linter.unusedSimpArgs false
def strings_IndexByte.f (a0 : ByteArray) (a1 : Int) : Option Int := some (Lib.indexByte a0.data.toList a1.toNat.toUInt8)
theorem strings_IndexByte.calls (a0 : ByteArray) (a1 : Int) (r : Int) (w : World) (h : strings_IndexByte.f a0 a1 = some r) :
    Calls Tryd.prog 76 #[.string a0, .int .u8 a1] w fun e w' => e = .returned (.int .i64 r) ∧ Drawn0 w w' := by
  obtain rfl := Option.some.inj h
  refine (Tryd.strings_IndexByte a0 a1 w).mono ?_
  rintro e w' ⟨rfl, rfl⟩
  exact ⟨rfl, Drawn0.refl _⟩
mutual
def lex_skip.l0 : Nat → ByteArray → Int → Option (Int)
  | 0, _, _ => none
  | k + 1, x0, x1 => if x1 < (x0.size : Int) then (if 0 ≤ x1 then (if (bt x0 x1) = 32 then (lex_skip.j1 k x0 x1 (bt x0 x1) ((bt x0 x1) == 32)) else (if (bt x0 x1) = 9 then (lex_skip.j1 k x0 x1 (bt x0 x1) ((bt x0 x1) == 9)) else (if (bt x0 x1) = 10 then (lex_skip.j1 k x0 x1 (bt x0 x1) ((bt x0 x1) == 10)) else (lex_skip.j1 k x0 x1 (bt x0 x1) ((bt x0 x1) == 13))))) else (none)) else (some x1)
def lex_skip.j1 : Nat → ByteArray → Int → Int → Bool → Option (Int)
  | 0, _, _, _, _ => none
  | k + 1, x0, x1, x12, x14 => if x14 = true then (lex_skip.l0 k x0 (wrap64 (x1 + 1))) else (if x12 = 35 then (if 0 ≤ x1 then (if x1 ≤ (x0.size : Int) then ((strings_IndexByte.f (x0.extract (x1 : Int).toNat x0.size) 10).bind fun t101 => (if t101 < 0 then (some (x0.size : Int)) else (lex_skip.l0 k x0 (wrap64 (x1 + t101))))) else (none)) else (none)) else (some x1))
end
def lex_skip.f (k : Nat) (a0 : ByteArray) (a1 : Int) : Option (Int) := lex_skip.l0 k a0 a1
set_option maxHeartbeats 8000000 in
set_option maxRecDepth 100000 in
theorem lex_skip.calls (k : Nat) (a0 : ByteArray) (a1 : Int) (r : Int) (w : World) (h : lex_skip.f k a0 a1 = some r) :
    Calls Tryd.prog 45 #[.string a0, .int .i64 a1] w fun e w' => e = .returned (.int .i64 r) ∧ Drawn0 w w' := by
  have H : (lex_skip.l0 k a0 a1) = some r := h
  clear h
  have H' := Aside0.mk H
  clear H
  go_enter Tryd.func45, Tryd.ntmps45
  go_wp2
  go_loopg [1] k (fun kq v1 w' => ∃ (x1_1 : Int), v1 = .int .i64 x1_1 ∧ Aside0 (lex_skip.l0 kq a0 x1_1 = some r) ∧ Aside0 (kq ≤ k) ∧ Drawn0 w w')
  case atStart => exact ⟨(a1), (by first | rfl | (simp; done) | (simp [*]; done)), H', ⟨Nat.le_refl _⟩, by repeat (first | exact Drawn0.refl _ | apply Drawn0.step)⟩
  case round =>
    clear H'
    try clear p2
    obtain ⟨x1_1, rfl, HA, HK1, ⟨m1, rfl⟩⟩ := hrel
    cases gk with
    | zero => exact absurd HA.out (by simp [lex_skip.l0])
    | succ k1 =>
      have H := HA.out
      clear HA
      simp only [lex_skip.l0] at H
      by_cases c3 : x1_1 < (a0.size : Int)
      · rw [if_pos c3] at H
        have c3b0 : decide (x1_1 < (a0.size : Int)) = true := decide_eq_true c3
        clear c3
        by_cases c4 : 0 ≤ x1_1
        · rw [if_pos c4] at H
          have c4b0 : decide (0 ≤ x1_1) = true := decide_eq_true c4
          clear c4
          have HC6 := Aside0.mk H
          clear H
          have p5 : 0 ≤ (x1_1 : Int) := of_decide_eq_true (by first | (with_reducible assumption) | assumption)
          have q5 : x1_1 < (a0.size : Int) := of_decide_eq_true (by first | (with_reducible assumption) | assumption)
          have hx5 := bt_at a0 x1_1
          replace p5 := eq_true p5
          replace q5 := eq_true q5
          go_upto_if 14 with (fail)
          go_cut [14] (fun v14 wc => ∃ (kq : Nat) (x14_5 : Bool), v14 = .bool x14_5 ∧ Aside0 (lex_skip.j1 kq a0 x1_1 (bt a0 x1_1) x14_5 = some r) ∧ Aside0 (kq ≤ k1) ∧ Drawn0 w wc)
          case first =>
            have H := HC6.out
            clear HC6
            by_cases c7 : (bt a0 x1_1) = 32
            · rw [if_pos c7] at H
              have c7b0 : ((bt a0 x1_1) == 32) = true := beq_iff_eq.mpr c7
              have c7b1 : ((bt a0 x1_1) != 32) = false := bne_eq_false_iff_eq.mpr c7
              clear c7
              (first | rw [c7b0] | (simp only [i64_w, i32_w]; rw [c7b0]) | skip)
              have H' := Aside0.mk H
              clear H
              go_wp2
              go_meet
              case rel => exact ⟨_, (((bt a0 x1_1) == 32)), (by first | rfl | (simp; done) | (simp [*]; done)), H', ⟨by have := HK1.out; first | omega | exact Nat.le_refl _⟩, by repeat (first | exact Drawn0.refl _ | apply Drawn0.step)⟩
            · rw [if_neg c7] at H
              have c7b0 : ((bt a0 x1_1) == 32) = false := beq_eq_false_iff_ne.mpr c7
              have c7b1 : ((bt a0 x1_1) != 32) = true := bne_iff_ne.mpr c7
              (first | rw [c7b0] | (simp only [i64_w, i32_w]; rw [c7b0]) | skip)
              by_cases c8 : (bt a0 x1_1) = 9
              · rw [if_pos c8] at H
                have c8b0 : ((bt a0 x1_1) == 9) = true := beq_iff_eq.mpr c8
                have c8b1 : ((bt a0 x1_1) != 9) = false := bne_eq_false_iff_eq.mpr c8
                clear c8
                have H' := Aside0.mk H
                clear H
                go_wp2
                go_meet
                case rel => exact ⟨_, (((bt a0 x1_1) == 9)), (by first | rfl | (simp; done) | (simp [*]; done)), H', ⟨by have := HK1.out; first | omega | exact Nat.le_refl _⟩, by repeat (first | exact Drawn0.refl _ | apply Drawn0.step)⟩
              · rw [if_neg c8] at H
                have c8b0 : ((bt a0 x1_1) == 9) = false := beq_eq_false_iff_ne.mpr c8
                have c8b1 : ((bt a0 x1_1) != 9) = true := bne_iff_ne.mpr c8
                by_cases c9 : (bt a0 x1_1) = 10
                · rw [if_pos c9] at H
                  have c9b0 : ((bt a0 x1_1) == 10) = true := beq_iff_eq.mpr c9
                  have c9b1 : ((bt a0 x1_1) != 10) = false := bne_eq_false_iff_eq.mpr c9
                  clear c9
                  have H' := Aside0.mk H
                  clear H
                  go_wp2
                  go_meet
                  case rel => exact ⟨_, (((bt a0 x1_1) == 10)), (by first | rfl | (simp; done) | (simp [*]; done)), H', ⟨by have := HK1.out; first | omega | exact Nat.le_refl _⟩, by repeat (first | exact Drawn0.refl _ | apply Drawn0.step)⟩
                · rw [if_neg c9] at H
                  have c9b0 : ((bt a0 x1_1) == 10) = false := beq_eq_false_iff_ne.mpr c9
                  have c9b1 : ((bt a0 x1_1) != 10) = true := bne_iff_ne.mpr c9
                  have H' := Aside0.mk H
                  clear H
                  go_wp2
                  go_meet
                  case rel => exact ⟨_, (((bt a0 x1_1) == 13)), (by first | rfl | (simp; done) | (simp [*]; done)), H', ⟨by have := HK1.out; first | omega | exact Nat.le_refl _⟩, by repeat (first | exact Drawn0.refl _ | apply Drawn0.step)⟩
          case rest =>
            clear HC6
            try clear p2
            try clear c3
            try clear c3b0
            try clear c4
            try clear c4b0
            try clear p5
            try clear q5
            try clear hx5
            try clear c7
            try clear c7b0
            try clear c7b1
            try clear c8
            try clear c8b0
            try clear c8b1
            try clear c9
            try clear c9b0
            try clear c9b1
            try clear p2
            try clear p5
            try clear q5
            obtain ⟨kq, x14_5, rfl, HA, HJ5, ⟨mc5, rfl⟩⟩ := hcut
            cases kq with
            | zero => exact absurd HA.out (by simp [lex_skip.j1])
            | succ kj5 =>
              have H := HA.out
              clear HA
              simp only [lex_skip.j1] at H
              by_cases c10 : x14_5 = true
              · subst c10
                have H1 : (lex_skip.l0 kj5 a0 (wrap64 (x1_1 + 1))) = some r := by rw [if_pos rfl] at H; exact H
                clear H
                have H := H1
                clear H1
                have H' := Aside0.mk H
                clear H
                go_wp2
                go_roundg kj5
                case measure => have := HK1.out; have := HJ5.out; omega
                case rel => exact ⟨(wrap64 (x1_1 + 1)), (by first | rfl | (simp; done) | (simp [*]; done)), H', ⟨by have := HK1.out; have := HJ5.out; omega⟩, by repeat (first | exact Drawn0.refl _ | apply Drawn0.step)⟩
              · replace c10 := Bool.eq_false_iff.mpr c10
                subst c10
                have H1 : (if (bt a0 x1_1) = 35 then (if 0 ≤ x1_1 then (if x1_1 ≤ (a0.size : Int) then ((strings_IndexByte.f (a0.extract (x1_1 : Int).toNat a0.size) 10).bind fun t101 => (if t101 < 0 then (some (a0.size : Int)) else (lex_skip.l0 kj5 a0 (wrap64 (x1_1 + t101))))) else (none)) else (none)) else (some x1_1)) = some r := by rw [if_neg (show ¬ (false = true) by decide)] at H; exact H
                clear H
                have H := H1
                clear H1
                by_cases c11 : (bt a0 x1_1) = 35
                · rw [if_pos c11] at H
                  have c11b0 : ((bt a0 x1_1) == 35) = true := beq_iff_eq.mpr c11
                  have c11b1 : ((bt a0 x1_1) != 35) = false := bne_eq_false_iff_eq.mpr c11
                  clear c11
                  by_cases c12 : 0 ≤ x1_1
                  · rw [if_pos c12] at H
                    have c12b0 := eq_true c12
                    have c12b1 : decide (0 ≤ x1_1) = true := decide_eq_true c12
                    clear c12
                    by_cases c13 : x1_1 ≤ (a0.size : Int)
                    · rw [if_pos c13] at H
                      have c13b0 := eq_true c13
                      have c13b1 : decide (x1_1 ≤ (a0.size : Int)) = true := decide_eq_true c13
                      clear c13
                      replace H := Option.bind_eq_some_iff.mp H
                      obtain ⟨t101, A140, H⟩ := H
                      replace H : (if t101 < 0 then (some (a0.size : Int)) else (lex_skip.l0 kj5 a0 (wrap64 (x1_1 + t101)))) = some r := H
                      have A14 := Aside0.mk A140
                      clear A140
                      by_cases c15 : t101 < 0
                      · rw [if_pos c15] at H
                        have c15b0 : decide (t101 < 0) = true := decide_eq_true c15
                        clear c15
                        obtain rfl := Option.some.inj H
                        go_wp2_with (first | ((with_reducible refine gate_callee (f := 76) rfl ?_); refine goesL_ (some 26) rfl rfl Tryd.func76 (by kernel_rfl) rfl #[.string (a0.extract (x1_1 : Int).toNat a0.size), .int .u8 10] rfl (by (try simp only [List.map_toArray, List.map_cons, List.map_nil]); first | done | rfl | (simp only [List.length_drop, List.length_take]; rfl)) ?_; (with_reducible refine (strings_IndexByte.calls (a0.extract (x1_1 : Int).toNat a0.size) 10 t101 _ A14.out).mono ?_); rintro e w' ⟨rfl, ⟨nd, rfl⟩⟩; refine ⟨_, rfl, ?_⟩))
                        go_ret
                        exact ⟨by first | rfl | (simp; done) | (simp [*]; done), by repeat (first | exact Drawn0.refl _ | apply Drawn0.step)⟩
                      · rw [if_neg c15] at H
                        have c15b0 : decide (t101 < 0) = false := decide_eq_false c15
                        clear c15
                        have H' := Aside0.mk H
                        clear H
                        go_wp2_with (first | ((with_reducible refine gate_callee (f := 76) rfl ?_); refine goesL_ (some 26) rfl rfl Tryd.func76 (by kernel_rfl) rfl #[.string (a0.extract (x1_1 : Int).toNat a0.size), .int .u8 10] rfl (by (try simp only [List.map_toArray, List.map_cons, List.map_nil]); first | done | rfl | (simp only [List.length_drop, List.length_take]; rfl)) ?_; (with_reducible refine (strings_IndexByte.calls (a0.extract (x1_1 : Int).toNat a0.size) 10 t101 _ A14.out).mono ?_); rintro e w' ⟨rfl, ⟨nd, rfl⟩⟩; refine ⟨_, rfl, ?_⟩))
                        go_roundg kj5
                        case measure => have := HK1.out; have := HJ5.out; omega
                        case rel => exact ⟨(wrap64 (x1_1 + t101)), (by first | rfl | (simp; done) | (simp [*]; done)), H', ⟨by have := HK1.out; have := HJ5.out; omega⟩, by repeat (first | exact Drawn0.refl _ | apply Drawn0.step)⟩
                    · rw [if_neg c13] at H
                      exact absurd H (by simp)
                  · rw [if_neg c12] at H
                    exact absurd H (by simp)
                · rw [if_neg c11] at H
                  have c11b0 : ((bt a0 x1_1) == 35) = false := beq_eq_false_iff_ne.mpr c11
                  have c11b1 : ((bt a0 x1_1) != 35) = true := bne_iff_ne.mpr c11
                  obtain rfl := Option.some.inj H
                  go_wp2
                  go_ret
                  exact ⟨by first | rfl | (simp; done) | (simp [*]; done), by repeat (first | exact Drawn0.refl _ | apply Drawn0.step)⟩
        · rw [if_neg c4] at H
          exact absurd H (by simp)
      · rw [if_neg c3] at H
        have c3b0 : decide (x1_1 < (a0.size : Int)) = false := decide_eq_false c3
        clear c3
        obtain rfl := Option.some.inj H
        go_wp2
        go_ret
        exact ⟨by first | rfl | (simp; done) | (simp [*]; done), by repeat (first | exact Drawn0.refl _ | apply Drawn0.step)⟩
def lex_isLetter.f (a0 : Int) : Option (Bool) := if a0 ≥ 97 then (if a0 ≤ 122 then (some true) else (if a0 ≥ 65 then (if a0 ≤ 90 then (some true) else (some (a0 == 95))) else (some (a0 == 95)))) else (if a0 ≥ 65 then (if a0 ≤ 90 then (some true) else (some (a0 == 95))) else (some (a0 == 95)))
set_option maxHeartbeats 8000000 in
set_option maxRecDepth 100000 in
theorem lex_isLetter.calls (a0 : Int) (r : Bool) (w : World) (h : lex_isLetter.f a0 = some r) :
    Calls Tryd.prog 77 #[.int .u8 a0] w fun e w' => e = .returned (.bool r) ∧ Drawn0 w w' := by
  have H : (if a0 ≥ 97 then (if a0 ≤ 122 then (some true) else (if a0 ≥ 65 then (if a0 ≤ 90 then (some true) else (some (a0 == 95))) else (some (a0 == 95)))) else (if a0 ≥ 65 then (if a0 ≤ 90 then (some true) else (some (a0 == 95))) else (some (a0 == 95)))) = some r := h
  clear h
  by_cases c2 : a0 ≥ 97
  · rw [if_pos c2] at H
    have c2b0 : decide (97 ≤ a0) = true := decide_eq_true c2
    clear c2
    by_cases c3 : a0 ≤ 122
    · rw [if_pos c3] at H
      have c3b0 : decide (a0 ≤ 122) = true := decide_eq_true c3
      clear c3
      obtain rfl := Option.some.inj H
      go_enter Tryd.func77, Tryd.ntmps77
      go_wp2
      go_ret
      exact ⟨by first | rfl | (simp; done) | (simp [*]; done), by repeat (first | exact Drawn0.refl _ | apply Drawn0.step)⟩
    · rw [if_neg c3] at H
      have c3b0 : decide (a0 ≤ 122) = false := decide_eq_false c3
      clear c3
      by_cases c4 : a0 ≥ 65
      · rw [if_pos c4] at H
        have c4b0 : decide (65 ≤ a0) = true := decide_eq_true c4
        clear c4
        by_cases c5 : a0 ≤ 90
        · rw [if_pos c5] at H
          have c5b0 : decide (a0 ≤ 90) = true := decide_eq_true c5
          clear c5
          obtain rfl := Option.some.inj H
          go_enter Tryd.func77, Tryd.ntmps77
          go_wp2
          go_ret
          exact ⟨by first | rfl | (simp; done) | (simp [*]; done), by repeat (first | exact Drawn0.refl _ | apply Drawn0.step)⟩
        · rw [if_neg c5] at H
          have c5b0 : decide (a0 ≤ 90) = false := decide_eq_false c5
          clear c5
          obtain rfl := Option.some.inj H
          go_enter Tryd.func77, Tryd.ntmps77
          go_wp2
          go_ret
          exact ⟨by first | rfl | (simp; done) | (simp [*]; done), by repeat (first | exact Drawn0.refl _ | apply Drawn0.step)⟩
      · rw [if_neg c4] at H
        have c4b0 : decide (65 ≤ a0) = false := decide_eq_false c4
        clear c4
        obtain rfl := Option.some.inj H
        go_enter Tryd.func77, Tryd.ntmps77
        go_wp2
        go_ret
        exact ⟨by first | rfl | (simp; done) | (simp [*]; done), by repeat (first | exact Drawn0.refl _ | apply Drawn0.step)⟩
  · rw [if_neg c2] at H
    have c2b0 : decide (97 ≤ a0) = false := decide_eq_false c2
    clear c2
    by_cases c6 : a0 ≥ 65
    · rw [if_pos c6] at H
      have c6b0 : decide (65 ≤ a0) = true := decide_eq_true c6
      clear c6
      by_cases c7 : a0 ≤ 90
      · rw [if_pos c7] at H
        have c7b0 : decide (a0 ≤ 90) = true := decide_eq_true c7
        clear c7
        obtain rfl := Option.some.inj H
        go_enter Tryd.func77, Tryd.ntmps77
        go_wp2
        go_ret
        exact ⟨by first | rfl | (simp; done) | (simp [*]; done), by repeat (first | exact Drawn0.refl _ | apply Drawn0.step)⟩
      · rw [if_neg c7] at H
        have c7b0 : decide (a0 ≤ 90) = false := decide_eq_false c7
        clear c7
        obtain rfl := Option.some.inj H
        go_enter Tryd.func77, Tryd.ntmps77
        go_wp2
        go_ret
        exact ⟨by first | rfl | (simp; done) | (simp [*]; done), by repeat (first | exact Drawn0.refl _ | apply Drawn0.step)⟩
    · rw [if_neg c6] at H
      have c6b0 : decide (65 ≤ a0) = false := decide_eq_false c6
      clear c6
      obtain rfl := Option.some.inj H
      go_enter Tryd.func77, Tryd.ntmps77
      go_wp2
      go_ret
      exact ⟨by first | rfl | (simp; done) | (simp [*]; done), by repeat (first | exact Drawn0.refl _ | apply Drawn0.step)⟩
def lex_run.f (a0 : ByteArray) (a1 : Int) (a2 : Nat) : Option Int := if 0 ≤ a1 ∧ a1 ≤ (a0.size : Int) ∧ a0.size ≤ 2305843009213693952 ∧ (a2 = 80 ∨ a2 = 102 ∨ a2 = 79) then some ((a1.toNat + G.tw a2 (a0.data.toList.drop a1.toNat) : Nat) : Int) else none
theorem lex_run.calls (a0 : ByteArray) (a1 : Int) (a2 : Nat) (r : Int) (w : World) (h : lex_run.f a0 a1 a2 = some r) :
    Calls Tryd.prog 78 #[.string a0, .int .i64 a1, .func (.func a2) #[] #[]] w fun e w' => e = .returned (.int .i64 r) ∧ Drawn0 w w' := by
  unfold lex_run.f at h
  split at h
  · rename_i hs
    obtain ⟨h0, h1, h2, h3⟩ := hs
    obtain rfl := Option.some.inj h
    obtain ⟨n, rfl⟩ := Int.eq_ofNat_of_zero_le h0
    rw [Int.toNat_natCast]
    rcases h3 with rfl | rfl | rfl
    · exact G.runDig a0 n w (by omega) h2
    · exact G.runName a0 n w (by omega) h2
    · exact G.runToken a0 n w (by omega) h2
  · cases h
def lex_isDigit.f (a0 : Int) : Option (Bool) := if a0 ≥ 48 then (some (decide (a0 ≤ 57))) else (some false)
set_option maxHeartbeats 8000000 in
set_option maxRecDepth 100000 in
theorem lex_isDigit.calls (a0 : Int) (r : Bool) (w : World) (h : lex_isDigit.f a0 = some r) :
    Calls Tryd.prog 80 #[.int .u8 a0] w fun e w' => e = .returned (.bool r) ∧ Drawn0 w w' := by
  have H : (if a0 ≥ 48 then (some (decide (a0 ≤ 57))) else (some false)) = some r := h
  clear h
  by_cases c2 : a0 ≥ 48
  · rw [if_pos c2] at H
    have c2b0 : decide (48 ≤ a0) = true := decide_eq_true c2
    clear c2
    obtain rfl := Option.some.inj H
    go_enter Tryd.func80, Tryd.ntmps80
    go_wp2
    go_ret
    exact ⟨by first | rfl | (simp; done) | (simp [*]; done), by repeat (first | exact Drawn0.refl _ | apply Drawn0.step)⟩
  · rw [if_neg c2] at H
    have c2b0 : decide (48 ≤ a0) = false := decide_eq_false c2
    clear c2
    obtain rfl := Option.some.inj H
    go_enter Tryd.func80, Tryd.ntmps80
    go_wp2
    go_ret
    exact ⟨by first | rfl | (simp; done) | (simp [*]; done), by repeat (first | exact Drawn0.refl _ | apply Drawn0.step)⟩
def lex_number.f (a0 : ByteArray) : Option (Int × Bool) := if a0.size ≤ 2305843009213693952 then some (match G.numv 0 a0.data.toList with | some x => ((x : Int), true) | none => (0, false)) else none
theorem lex_number.calls (a0 : ByteArray) (r1 : Int) (r2 : Bool) (w : World) (h : lex_number.f a0 = some (r1, r2)) :
    Calls Tryd.prog 81 #[.string a0] w fun e w' => e = .returned (.tuple #[.int .u64 r1, .bool r2]) ∧ Drawn0 w w' := by
  unfold lex_number.f at h
  split at h
  · rename_i hs
    refine (G.number_calls a0 w hs).mono ?_
    rintro e w' ⟨rfl, rfl⟩
    refine ⟨?_, Drawn0.refl _⟩
    have h2 := Option.some.inj h
    revert h2
    cases G.numv 0 a0.data.toList with
    | none => intro h2; rw [Prod.mk.injEq] at h2; obtain ⟨rfl, rfl⟩ := h2; rfl
    | some x => intro h2; rw [Prod.mk.injEq] at h2; obtain ⟨rfl, rfl⟩ := h2; rfl
  · cases h
def lex_hex.j0 : Nat → Int → Bool → Option (Int)
  | 0, _, _ => none
  | k + 1, x0, x9 => if x9 = true then (some (((x0 - 97) % 256) + 10)) else (if x0 ≥ 65 then (if x0 ≤ 70 then (some (((x0 - 65) % 256) + 10)) else (some (-1))) else (some (-1)))
def lex_hex.f (k : Nat) (a0 : Int) : Option (Int) := (lex_isDigit.f a0).bind fun t102 => (if t102 = true then (some ((a0 - 48) % 256)) else (if a0 ≥ 97 then (lex_hex.j0 k a0 (decide (a0 ≤ 102))) else (lex_hex.j0 k a0 false)))
set_option maxHeartbeats 8000000 in
set_option maxRecDepth 100000 in
theorem lex_hex.calls (k : Nat) (a0 : Int) (r : Int) (w : World) (h : lex_hex.f k a0 = some r) :
    Calls Tryd.prog 114 #[.int .u8 a0] w fun e w' => e = .returned (.int .i64 r) ∧ Drawn0 w w' := by
  have H : ((lex_isDigit.f a0).bind fun t102 => (if t102 = true then (some ((a0 - 48) % 256)) else (if a0 ≥ 97 then (lex_hex.j0 k a0 (decide (a0 ≤ 102))) else (lex_hex.j0 k a0 false)))) = some r := h
  clear h
  replace H := Option.bind_eq_some_iff.mp H
  obtain ⟨t102, A20, H⟩ := H
  replace H : (if t102 = true then (some ((a0 - 48) % 256)) else (if a0 ≥ 97 then (lex_hex.j0 k a0 (decide (a0 ≤ 102))) else (lex_hex.j0 k a0 false))) = some r := H
  have A2 := Aside0.mk A20
  clear A20
  by_cases c3 : t102 = true
  · subst c3
    have H1 : (some ((a0 - 48) % 256)) = some r := by rw [if_pos rfl] at H; exact H
    clear H
    have H := H1
    clear H1
    obtain rfl := Option.some.inj H
    go_enter Tryd.func114, Tryd.ntmps114
    go_wp2_with (first | ((with_reducible refine gate_callee (f := 80) rfl ?_); refine goesL_ (some 5) rfl rfl Tryd.func80 (by kernel_rfl) rfl #[.int .u8 a0] rfl (by (try simp only [List.map_toArray, List.map_cons, List.map_nil]); first | done | rfl | (simp only [List.length_drop, List.length_take]; rfl)) ?_; (with_reducible refine (lex_isDigit.calls a0 true _ A2.out).mono ?_); rintro e w' ⟨rfl, ⟨nd, rfl⟩⟩; refine ⟨_, rfl, ?_⟩))
    go_ret
    exact ⟨by first | rfl | (simp; done) | (simp [*]; done), by repeat (first | exact Drawn0.refl _ | apply Drawn0.step)⟩
  · replace c3 := Bool.eq_false_iff.mpr c3
    subst c3
    have H1 : (if a0 ≥ 97 then (lex_hex.j0 k a0 (decide (a0 ≤ 102))) else (lex_hex.j0 k a0 false)) = some r := by rw [if_neg (show ¬ (false = true) by decide)] at H; exact H
    clear H
    have H := H1
    clear H1
    have HC4 := Aside0.mk H
    clear H
    go_enter Tryd.func114, Tryd.ntmps114
    go_upto_region 3 with (first | ((with_reducible refine gate_callee (f := 80) rfl ?_); refine goesL_ (some 5) rfl rfl Tryd.func80 (by kernel_rfl) rfl #[.int .u8 a0] rfl (by (try simp only [List.map_toArray, List.map_cons, List.map_nil]); first | done | rfl | (simp only [List.length_drop, List.length_take]; rfl)) ?_; (with_reducible refine (lex_isDigit.calls a0 false _ A2.out).mono ?_); rintro e w' ⟨rfl, ⟨nd, rfl⟩⟩; refine ⟨_, rfl, ?_⟩))
    (try simp only [Act.put, List.setIfInBounds_toArray, List.set_cons_zero, List.set_cons_succ])
    go_cut [9] (fun v9 wc => ∃ (kq : Nat) (x9_3 : Bool), v9 = .bool x9_3 ∧ Aside0 (lex_hex.j0 kq a0 x9_3 = some r) ∧ Aside0 (kq ≤ k) ∧ Drawn0 w wc)
    case first =>
      have H := HC4.out
      clear HC4
      by_cases c5 : a0 ≥ 97
      · rw [if_pos c5] at H
        have c5b0 : decide (97 ≤ a0) = true := decide_eq_true c5
        clear c5
        (first | rw [c5b0] | (simp only [i64_w, i32_w]; rw [c5b0]) | skip)
        have H' := Aside0.mk H
        clear H
        go_wp2
        go_meet
        case rel => exact ⟨_, (decide (a0 ≤ 102)), (by first | rfl | (simp; done) | (simp [*]; done)), H', ⟨by first | omega | exact Nat.le_refl _⟩, by repeat (first | exact Drawn0.refl _ | apply Drawn0.step)⟩
      · rw [if_neg c5] at H
        have c5b0 : decide (97 ≤ a0) = false := decide_eq_false c5
        clear c5
        (first | rw [c5b0] | (simp only [i64_w, i32_w]; rw [c5b0]) | skip)
        have H' := Aside0.mk H
        clear H
        go_wp2
        go_meet
        case rel => exact ⟨_, (false), (by first | rfl | (simp; done) | (simp [*]; done)), H', ⟨by first | omega | exact Nat.le_refl _⟩, by repeat (first | exact Drawn0.refl _ | apply Drawn0.step)⟩
    case rest =>
      clear HC4
      try clear c1
      try clear p2
      try clear c3
      try clear c5
      try clear c5b0
      obtain ⟨kq, x9_3, rfl, HA, HJ3, ⟨mc3, rfl⟩⟩ := hcut
      cases kq with
      | zero => exact absurd HA.out (by simp [lex_hex.j0])
      | succ kj3 =>
        have H := HA.out
        clear HA
        simp only [lex_hex.j0] at H
        by_cases c6 : x9_3 = true
        · subst c6
          have H1 : (some (((a0 - 97) % 256) + 10)) = some r := by rw [if_pos rfl] at H; exact H
          clear H
          have H := H1
          clear H1
          obtain rfl := Option.some.inj H
          go_wp2
          go_ret
          exact ⟨by first | rfl | (simp; done) | (simp [*]; done), by repeat (first | exact Drawn0.refl _ | apply Drawn0.step)⟩
        · replace c6 := Bool.eq_false_iff.mpr c6
          subst c6
          have H1 : (if a0 ≥ 65 then (if a0 ≤ 70 then (some (((a0 - 65) % 256) + 10)) else (some (-1))) else (some (-1))) = some r := by rw [if_neg (show ¬ (false = true) by decide)] at H; exact H
          clear H
          have H := H1
          clear H1
          by_cases c7 : a0 ≥ 65
          · rw [if_pos c7] at H
            have c7b0 : decide (65 ≤ a0) = true := decide_eq_true c7
            clear c7
            by_cases c8 : a0 ≤ 70
            · rw [if_pos c8] at H
              have c8b0 : decide (a0 ≤ 70) = true := decide_eq_true c8
              clear c8
              obtain rfl := Option.some.inj H
              go_wp2
              go_ret
              exact ⟨by first | rfl | (simp; done) | (simp [*]; done), by repeat (first | exact Drawn0.refl _ | apply Drawn0.step)⟩
            · rw [if_neg c8] at H
              have c8b0 : decide (a0 ≤ 70) = false := decide_eq_false c8
              clear c8
              obtain rfl := Option.some.inj H
              go_wp2
              go_ret
              exact ⟨by first | rfl | (simp; done) | (simp [*]; done), by repeat (first | exact Drawn0.refl _ | apply Drawn0.step)⟩
          · rw [if_neg c7] at H
            have c7b0 : decide (65 ≤ a0) = false := decide_eq_false c7
            clear c7
            obtain rfl := Option.some.inj H
            go_wp2
            go_ret
            exact ⟨by first | rfl | (simp; done) | (simp [*]; done), by repeat (first | exact Drawn0.refl _ | apply Drawn0.step)⟩
end Go.Proofs.YtaijoghpfobdbaaDoor.X
end
section
namespace Go.Proofs.YtaijoghpfobdbaaDoor.X
open Go.RowKit Go.Proofs.YtaijoghpfobdbaaDoorW.PrintWords Go.Proofs.YtaijoghpfobdbaaDoorW.PrintLast Go.Proofs.YtaijoghpfobdbaaDoorW.PrintMore
attribute [local go_sem] max2_int min2_int max_two min_two max_three min_three max_four min_four   -- for this text's walks alone
set_option linter.unusedVariables false
set_option linter.unusedSimpArgs false
mutual
def lex_escape.j0 : Nat → ByteArray → Int → Int → Bool → Option (Int × Int)
  | 0, _, _, _, _ => none
  | k + 1, x0, x1, x14, x15 => if x15 = true then (if 0 ≤ (wrap64 (x1 + 1)) then (if (wrap64 (x1 + 1)) < (x0.size : Int) then (some (bt x0 (wrap64 (x1 + 1)), wrap64 (x1 + 2))) else (none)) else (none)) else (if x14 = 110 then (some (10, wrap64 (x1 + 2))) else (if x14 = 116 then (some (9, wrap64 (x1 + 2))) else (if x14 = 120 then (if (wrap64 (x1 + 3)) < (x0.size : Int) then (if 0 ≤ (wrap64 (x1 + 2)) then (if (wrap64 (x1 + 2)) < (x0.size : Int) then ((lex_hex.f k (bt x0 (wrap64 (x1 + 2)))).bind fun t103 => (if t103 ≥ 0 then (if 0 ≤ (wrap64 (x1 + 3)) then ((lex_hex.f k (bt x0 (wrap64 (x1 + 3)))).bind fun t104 => (lex_escape.j1 k x0 x1 (decide (t104 ≥ 0)))) else (none)) else (lex_escape.j1 k x0 x1 false))) else (none)) else (none)) else (lex_escape.j1 k x0 x1 false)) else (some (0, 0)))))
def lex_escape.j1 : Nat → ByteArray → Int → Bool → Option (Int × Int)
  | 0, _, _, _ => none
  | k + 1, x0, x1, x54 => if x54 = true then (if 0 ≤ (wrap64 (x1 + 2)) then (if (wrap64 (x1 + 2)) < (x0.size : Int) then ((lex_hex.f k (bt x0 (wrap64 (x1 + 2)))).bind fun t105 => (if 0 ≤ (wrap64 (x1 + 3)) then (if (wrap64 (x1 + 3)) < (x0.size : Int) then ((lex_hex.f k (bt x0 (wrap64 (x1 + 3)))).bind fun t106 => (some ((wrap64 ((wrap64 (16 * t105)) + t106)) % 256, wrap64 (x1 + 4)))) else (none)) else (none))) else (none)) else (none)) else (some (0, 0))
end
def lex_escape.f (k : Nat) (a0 : ByteArray) (a1 : Int) : Option (Int × Int) := if (wrap64 (a1 + 1)) ≥ (a0.size : Int) then (some (0, 0)) else (if 0 ≤ (wrap64 (a1 + 1)) then (if (wrap64 (a1 + 1)) < (a0.size : Int) then (if (bt a0 (wrap64 (a1 + 1))) = 92 then (lex_escape.j0 k a0 a1 (bt a0 (wrap64 (a1 + 1))) ((bt a0 (wrap64 (a1 + 1))) == 92)) else (lex_escape.j0 k a0 a1 (bt a0 (wrap64 (a1 + 1))) ((bt a0 (wrap64 (a1 + 1))) == 34))) else (none)) else (none))
set_option maxHeartbeats 8000000 in
set_option maxRecDepth 100000 in
theorem lex_escape.calls (k : Nat) (a0 : ByteArray) (a1 : Int) (r1 : Int) (r2 : Int) (w : World) (h : lex_escape.f k a0 a1 = some (r1, r2)) :
    Calls Tryd.prog 101 #[.string a0, .int .i64 a1] w fun e w' => e = .returned (.tuple #[.int .u8 r1, .int .i64 r2]) ∧ Drawn0 w w' := by
  have H : (if (wrap64 (a1 + 1)) ≥ (a0.size : Int) then (some (0, 0)) else (if 0 ≤ (wrap64 (a1 + 1)) then (if (wrap64 (a1 + 1)) < (a0.size : Int) then (if (bt a0 (wrap64 (a1 + 1))) = 92 then (lex_escape.j0 k a0 a1 (bt a0 (wrap64 (a1 + 1))) ((bt a0 (wrap64 (a1 + 1))) == 92)) else (lex_escape.j0 k a0 a1 (bt a0 (wrap64 (a1 + 1))) ((bt a0 (wrap64 (a1 + 1))) == 34))) else (none)) else (none))) = some (r1, r2) := h
  clear h
  by_cases c3 : (wrap64 (a1 + 1)) ≥ (a0.size : Int)
  · rw [if_pos c3] at H
    have c3b0 : decide ((a0.size : Int) ≤ (wrap64 (a1 + 1))) = true := decide_eq_true c3
    clear c3
    simp only [Option.some.injEq, Prod.mk.injEq] at H
    obtain ⟨rfl, rfl⟩ := H
    go_enter Tryd.func101, Tryd.ntmps101
    go_wp2
    repeat (go_quiet (fail); try go_wp2)
    go_ret2
    exact ⟨by first | rfl | (simp; done) | (simp [*]; done), by repeat (first | exact Drawn0.refl _ | apply Drawn0.step)⟩
  · rw [if_neg c3] at H
    have c3b0 : decide ((a0.size : Int) ≤ (wrap64 (a1 + 1))) = false := decide_eq_false c3
    clear c3
    obtain ⟨ji4, hji4⟩ : ∃ j_ : Int, (wrap64 (a1 + 1)) = j_ := ⟨_, rfl⟩
    replace H : (if 0 ≤ (ji4) then (if (ji4) < (a0.size : Int) then (if (bt a0 (ji4)) = 92 then (lex_escape.j0 k a0 a1 (bt a0 (ji4)) ((bt a0 (ji4)) == 92)) else (lex_escape.j0 k a0 a1 (bt a0 (ji4)) ((bt a0 (ji4)) == 34))) else (none)) else (none)) = some (r1, r2) := by first | (rw [hji4] at H; exact H) | (simp only [hji4] at H ⊢; exact H)
    (try rw [hji4] at c3b0)
    have hji4w : (IntKind.i64.wrap (a1 + 1)) = ji4 := (i64_w _).trans hji4
    by_cases c5 : 0 ≤ (ji4)
    · rw [if_pos c5] at H
      have c5b0 : decide (0 ≤ (ji4)) = true := decide_eq_true c5
      clear c5
      by_cases c6 : (ji4) < (a0.size : Int)
      · rw [if_pos c6] at H
        have c6b0 : decide ((ji4) < (a0.size : Int)) = true := decide_eq_true c6
        clear c6
        have HC8 := Aside0.mk H
        clear H
        have p7 : 0 ≤ ((ji4) : Int) := of_decide_eq_true (by first | (with_reducible assumption) | assumption)
        have q7 : (ji4) < (a0.size : Int) := of_decide_eq_true (by first | (with_reducible assumption) | assumption)
        have hx7 := bt_at a0 (ji4)
        replace p7 := eq_true p7
        replace q7 := eq_true q7
        go_enter Tryd.func101, Tryd.ntmps101
        go_upto_if 15 with (fail)
        repeat (go_quiet (fail); go_upto_if 15 with (fail))
        go_cut [15] (fun v15 wc => ∃ (kq : Nat) (x15_7 : Bool), v15 = .bool x15_7 ∧ Aside0 (lex_escape.j0 kq a0 a1 (bt a0 (ji4)) x15_7 = some (r1, r2)) ∧ Aside0 (kq ≤ k) ∧ Drawn0 w wc)
        case first =>
          have H := HC8.out
          clear HC8
          by_cases c9 : (bt a0 (ji4)) = 92
          · rw [if_pos c9] at H
            have c9b0 : ((bt a0 (ji4)) == 92) = true := beq_iff_eq.mpr c9
            have c9b1 : ((bt a0 (ji4)) != 92) = false := bne_eq_false_iff_eq.mpr c9
            clear c9
            (first | rw [c9b0] | (simp only [i64_w, i32_w]; rw [c9b0]) | skip)
            have H' := Aside0.mk H
            clear H
            go_wp2
            repeat (go_quiet (fail); try go_wp2)
            go_meet
            case rel => exact ⟨_, (((bt a0 (ji4)) == 92)), (by first | rfl | (simp; done) | (simp [*]; done) | (simp [i64_w, IntKind.wrap_u8]; done) | ((try simp only [← hji4]); (first | rfl | (simp; done))) | (simp [*]; done)), H', ⟨by first | omega | exact Nat.le_refl _⟩, by repeat (first | exact Drawn0.refl _ | apply Drawn0.step)⟩
          · rw [if_neg c9] at H
            have c9b0 : ((bt a0 (ji4)) == 92) = false := beq_eq_false_iff_ne.mpr c9
            have c9b1 : ((bt a0 (ji4)) != 92) = true := bne_iff_ne.mpr c9
            (first | rw [c9b0] | (simp only [i64_w, i32_w]; rw [c9b0]) | skip)
            have H' := Aside0.mk H
            clear H
            go_wp2
            repeat (go_quiet (fail); try go_wp2)
            go_meet
            case rel => exact ⟨_, (((bt a0 (ji4)) == 34)), (by first | rfl | (simp; done) | (simp [*]; done) | (simp [i64_w, IntKind.wrap_u8]; done) | ((try simp only [← hji4]); (first | rfl | (simp; done))) | (simp [*]; done)), H', ⟨by first | omega | exact Nat.le_refl _⟩, by repeat (first | exact Drawn0.refl _ | apply Drawn0.step)⟩
        case rest =>
          clear HC8
          try clear c1
          try clear p2
          try clear c3
          try clear c3b0
          try clear c5
          try clear c5b0
          try clear c6
          try clear c6b0
          try clear p6
          try clear p7
          try clear q7
          try clear hx7
          try clear c9
          try clear c9b0
          try clear c9b1
          try clear p7
          try clear q7
          obtain ⟨kq, x15_7, rfl, HA, HJ7, ⟨mc7, rfl⟩⟩ := hcut
          cases kq with
          | zero => exact absurd HA.out (by simp [lex_escape.j0])
          | succ kj7 =>
            have H := HA.out
            clear HA
            simp only [lex_escape.j0] at H
            by_cases c10 : x15_7 = true
            · subst c10
              have H1 : (if 0 ≤ (wrap64 (a1 + 1)) then (if (wrap64 (a1 + 1)) < (a0.size : Int) then (some (bt a0 (wrap64 (a1 + 1)), wrap64 (a1 + 2))) else (none)) else (none)) = some (r1, r2) := by rw [if_pos rfl] at H; exact H
              clear H
              have H := H1
              clear H1
              try clear hji4
              try clear hji4w
              obtain ⟨ji11, hji11⟩ : ∃ j_ : Int, (wrap64 (a1 + 1)) = j_ := ⟨_, rfl⟩
              replace H : (if 0 ≤ (ji11) then (if (ji11) < (a0.size : Int) then (some (bt a0 (ji11), wrap64 (a1 + 2))) else (none)) else (none)) = some (r1, r2) := by first | (rw [hji11] at H; exact H) | (simp only [hji11] at H ⊢; exact H)
              (try rw [hji11] at c3b0)
              have hji11w : (IntKind.i64.wrap (a1 + 1)) = ji11 := (i64_w _).trans hji11
              by_cases c12 : 0 ≤ (ji11)
              · rw [if_pos c12] at H
                have c12b0 : decide (0 ≤ (ji11)) = true := decide_eq_true c12
                clear c12
                by_cases c13 : (ji11) < (a0.size : Int)
                · rw [if_pos c13] at H
                  have c13b0 : decide ((ji11) < (a0.size : Int)) = true := decide_eq_true c13
                  clear c13
                  simp only [Option.some.injEq, Prod.mk.injEq] at H
                  obtain ⟨rfl, rfl⟩ := H
                  have p14 : 0 ≤ ((ji11) : Int) := of_decide_eq_true (by first | (with_reducible assumption) | assumption)
                  have q14 : (ji11) < (a0.size : Int) := of_decide_eq_true (by first | (with_reducible assumption) | assumption)
                  have hx14 := bt_at a0 (ji11)
                  replace p14 := eq_true p14
                  replace q14 := eq_true q14
                  go_wp2
                  repeat (go_quiet (fail); try go_wp2)
                  go_ret2
                  exact ⟨by first | rfl | (simp; done) | (simp [*]; done) | (simp [i64_w, IntKind.wrap_u8]; done) | ((try simp only [← hji4]); (try simp only [← hji11]); (first | rfl | (simp; done))) | (simp [*]; done), by repeat (first | exact Drawn0.refl _ | apply Drawn0.step)⟩
                · rw [if_neg c13] at H
                  exact absurd H (by simp)
              · rw [if_neg c12] at H
                exact absurd H (by simp)
            · replace c10 := Bool.eq_false_iff.mpr c10
              subst c10
              have H1 : (if (bt a0 (ji4)) = 110 then (some (10, wrap64 (a1 + 2))) else (if (bt a0 (ji4)) = 116 then (some (9, wrap64 (a1 + 2))) else (if (bt a0 (ji4)) = 120 then (if (wrap64 (a1 + 3)) < (a0.size : Int) then (if 0 ≤ (wrap64 (a1 + 2)) then (if (wrap64 (a1 + 2)) < (a0.size : Int) then ((lex_hex.f kj7 (bt a0 (wrap64 (a1 + 2)))).bind fun t103 => (if t103 ≥ 0 then (if 0 ≤ (wrap64 (a1 + 3)) then ((lex_hex.f kj7 (bt a0 (wrap64 (a1 + 3)))).bind fun t104 => (lex_escape.j1 kj7 a0 a1 (decide (t104 ≥ 0)))) else (none)) else (lex_escape.j1 kj7 a0 a1 false))) else (none)) else (none)) else (lex_escape.j1 kj7 a0 a1 false)) else (some (0, 0))))) = some (r1, r2) := by rw [if_neg (show ¬ (false = true) by decide)] at H; exact H
              clear H
              have H := H1
              clear H1
              by_cases c15 : (bt a0 (ji4)) = 110
              · rw [if_pos c15] at H
                have c15b0 : ((bt a0 (ji4)) == 110) = true := beq_iff_eq.mpr c15
                have c15b1 : ((bt a0 (ji4)) != 110) = false := bne_eq_false_iff_eq.mpr c15
                clear c15
                simp only [Option.some.injEq, Prod.mk.injEq] at H
                obtain ⟨rfl, rfl⟩ := H
                go_wp2
                repeat (go_quiet (fail); try go_wp2)
                go_ret2
                exact ⟨by first | rfl | (simp; done) | (simp [*]; done) | (simp [i64_w, IntKind.wrap_u8]; done) | ((try simp only [← hji4]); (first | rfl | (simp; done))) | (simp [*]; done), by repeat (first | exact Drawn0.refl _ | apply Drawn0.step)⟩
              · rw [if_neg c15] at H
                have c15b0 : ((bt a0 (ji4)) == 110) = false := beq_eq_false_iff_ne.mpr c15
                have c15b1 : ((bt a0 (ji4)) != 110) = true := bne_iff_ne.mpr c15
                by_cases c16 : (bt a0 (ji4)) = 116
                · rw [if_pos c16] at H
                  have c16b0 : ((bt a0 (ji4)) == 116) = true := beq_iff_eq.mpr c16
                  have c16b1 : ((bt a0 (ji4)) != 116) = false := bne_eq_false_iff_eq.mpr c16
                  clear c16
                  simp only [Option.some.injEq, Prod.mk.injEq] at H
                  obtain ⟨rfl, rfl⟩ := H
                  go_wp2
                  repeat (go_quiet (fail); try go_wp2)
                  go_ret2
                  exact ⟨by first | rfl | (simp; done) | (simp [*]; done) | (simp [i64_w, IntKind.wrap_u8]; done) | ((try simp only [← hji4]); (first | rfl | (simp; done))) | (simp [*]; done), by repeat (first | exact Drawn0.refl _ | apply Drawn0.step)⟩
                · rw [if_neg c16] at H
                  have c16b0 : ((bt a0 (ji4)) == 116) = false := beq_eq_false_iff_ne.mpr c16
                  have c16b1 : ((bt a0 (ji4)) != 116) = true := bne_iff_ne.mpr c16
                  by_cases c17 : (bt a0 (ji4)) = 120
                  · rw [if_pos c17] at H
                    have c17b0 : ((bt a0 (ji4)) == 120) = true := beq_iff_eq.mpr c17
                    have c17b1 : ((bt a0 (ji4)) != 120) = false := bne_eq_false_iff_eq.mpr c17
                    clear c17
                    have HC18 := Aside0.mk H
                    clear H
                    go_upto_region 12 with (fail)
                    repeat (go_quiet (fail); go_upto_region 12 with (fail))
                    go_cut [54] (fun v54 wc => ∃ (kq : Nat) (x54_17 : Bool), v54 = .bool x54_17 ∧ Aside0 (lex_escape.j1 kq a0 a1 x54_17 = some (r1, r2)) ∧ Aside0 (kq ≤ kj7) ∧ Drawn0 w wc)
                    case first =>
                      have H := HC18.out
                      clear HC18
                      by_cases c19 : (wrap64 (a1 + 3)) < (a0.size : Int)
                      · rw [if_pos c19] at H
                        have c19b0 : decide ((wrap64 (a1 + 3)) < (a0.size : Int)) = true := decide_eq_true c19
                        clear c19
                        (first | rw [c19b0] | (simp only [i64_w, i32_w]; rw [c19b0]) | skip)
                        obtain ⟨ji20, hji20⟩ : ∃ j_ : Int, (wrap64 (a1 + 2)) = j_ := ⟨_, rfl⟩
                        replace H : (if 0 ≤ (ji20) then (if (ji20) < (a0.size : Int) then ((lex_hex.f kj7 (bt a0 (ji20))).bind fun t103 => (if t103 ≥ 0 then (if 0 ≤ (wrap64 (a1 + 3)) then ((lex_hex.f kj7 (bt a0 (wrap64 (a1 + 3)))).bind fun t104 => (lex_escape.j1 kj7 a0 a1 (decide (t104 ≥ 0)))) else (none)) else (lex_escape.j1 kj7 a0 a1 false))) else (none)) else (none)) = some (r1, r2) := by first | (rw [hji20] at H; exact H) | (simp only [hji20] at H ⊢; exact H)
                        have hji20w : (IntKind.i64.wrap (a1 + 2)) = ji20 := (i64_w _).trans hji20
                        by_cases c21 : 0 ≤ (ji20)
                        · rw [if_pos c21] at H
                          have c21b0 : decide (0 ≤ (ji20)) = true := decide_eq_true c21
                          clear c21
                          by_cases c22 : (ji20) < (a0.size : Int)
                          · rw [if_pos c22] at H
                            have c22b0 : decide ((ji20) < (a0.size : Int)) = true := decide_eq_true c22
                            clear c22
                            replace H := Option.bind_eq_some_iff.mp H
                            obtain ⟨t103, A240, H⟩ := H
                            replace H : (if t103 ≥ 0 then (if 0 ≤ (wrap64 (a1 + 3)) then ((lex_hex.f kj7 (bt a0 (wrap64 (a1 + 3)))).bind fun t104 => (lex_escape.j1 kj7 a0 a1 (decide (t104 ≥ 0)))) else (none)) else (lex_escape.j1 kj7 a0 a1 false)) = some (r1, r2) := H
                            have A24 := Aside0.mk A240
                            clear A240
                            by_cases c25 : t103 ≥ 0
                            · rw [if_pos c25] at H
                              have c25b0 : decide (0 ≤ t103) = true := decide_eq_true c25
                              clear c25
                              obtain ⟨ji26, hji26⟩ : ∃ j_ : Int, (wrap64 (a1 + 3)) = j_ := ⟨_, rfl⟩
                              replace H : (if 0 ≤ (ji26) then ((lex_hex.f kj7 (bt a0 (ji26))).bind fun t104 => (lex_escape.j1 kj7 a0 a1 (decide (t104 ≥ 0)))) else (none)) = some (r1, r2) := by first | (rw [hji26] at H; exact H) | (simp only [hji26] at H ⊢; exact H)
                              (try rw [hji26] at c19b0)
                              (try rw [hji26] at A24)
                              have hji26w : (IntKind.i64.wrap (a1 + 3)) = ji26 := (i64_w _).trans hji26
                              by_cases c27 : 0 ≤ (ji26)
                              · rw [if_pos c27] at H
                                have c27b0 : decide (0 ≤ (ji26)) = true := decide_eq_true c27
                                clear c27
                                replace H := Option.bind_eq_some_iff.mp H
                                obtain ⟨t104, A290, H⟩ := H
                                replace H : (lex_escape.j1 kj7 a0 a1 (decide (t104 ≥ 0))) = some (r1, r2) := H
                                have A29 := Aside0.mk A290
                                clear A290
                                have H' := Aside0.mk H
                                clear H
                                have p23 : 0 ≤ ((ji20) : Int) := of_decide_eq_true (by first | (with_reducible assumption) | assumption)
                                have q23 : (ji20) < (a0.size : Int) := of_decide_eq_true (by first | (with_reducible assumption) | assumption)
                                have hx23 := bt_at a0 (ji20)
                                replace p23 := eq_true p23
                                replace q23 := eq_true q23
                                go_wp2_with (first | (go_at_call 114; (with_reducible refine (lex_hex.calls kj7 (bt a0 (ji20)) t103 _ A24.out).mono ?_); rintro e w' ⟨rfl, ⟨nd, rfl⟩⟩; (try first | exact ⟨rfl, _, World.drewN_drewN _ _ _⟩ | exact ⟨rfl, _, Eq.trans (World.drewN_drewN _ _ _) (congrArg (World.drewN _) (Nat.add_assoc _ _ _))⟩); have p28 : 0 ≤ ((ji26) : Int) := of_decide_eq_true (by first | (with_reducible assumption) | assumption); have q28 : (ji26) < (a0.size : Int) := of_decide_eq_true (by first | (with_reducible assumption) | assumption); have hx28 := bt_at a0 (ji26); replace p28 := eq_true p28; replace q28 := eq_true q28) | (go_at_call 114; (with_reducible refine (lex_hex.calls kj7 (bt a0 (ji26)) t104 _ A29.out).mono ?_); rintro e w' ⟨rfl, ⟨nd, rfl⟩⟩; (try first | exact ⟨rfl, _, World.drewN_drewN _ _ _⟩ | exact ⟨rfl, _, Eq.trans (World.drewN_drewN _ _ _) (congrArg (World.drewN _) (Nat.add_assoc _ _ _))⟩)))
                                repeat (go_quiet (first | (go_at_call 114; (with_reducible refine (lex_hex.calls kj7 (bt a0 (ji20)) t103 _ A24.out).mono ?_); rintro e w' ⟨rfl, ⟨nd, rfl⟩⟩; (try first | exact ⟨rfl, _, World.drewN_drewN _ _ _⟩ | exact ⟨rfl, _, Eq.trans (World.drewN_drewN _ _ _) (congrArg (World.drewN _) (Nat.add_assoc _ _ _))⟩); have p28 : 0 ≤ ((ji26) : Int) := of_decide_eq_true (by first | (with_reducible assumption) | assumption); have q28 : (ji26) < (a0.size : Int) := of_decide_eq_true (by first | (with_reducible assumption) | assumption); have hx28 := bt_at a0 (ji26); replace p28 := eq_true p28; replace q28 := eq_true q28) | (go_at_call 114; (with_reducible refine (lex_hex.calls kj7 (bt a0 (ji26)) t104 _ A29.out).mono ?_); rintro e w' ⟨rfl, ⟨nd, rfl⟩⟩; (try first | exact ⟨rfl, _, World.drewN_drewN _ _ _⟩ | exact ⟨rfl, _, Eq.trans (World.drewN_drewN _ _ _) (congrArg (World.drewN _) (Nat.add_assoc _ _ _))⟩))); try go_wp2_with (first | (go_at_call 114; (with_reducible refine (lex_hex.calls kj7 (bt a0 (ji20)) t103 _ A24.out).mono ?_); rintro e w' ⟨rfl, ⟨nd, rfl⟩⟩; (try first | exact ⟨rfl, _, World.drewN_drewN _ _ _⟩ | exact ⟨rfl, _, Eq.trans (World.drewN_drewN _ _ _) (congrArg (World.drewN _) (Nat.add_assoc _ _ _))⟩); have p28 : 0 ≤ ((ji26) : Int) := of_decide_eq_true (by first | (with_reducible assumption) | assumption); have q28 : (ji26) < (a0.size : Int) := of_decide_eq_true (by first | (with_reducible assumption) | assumption); have hx28 := bt_at a0 (ji26); replace p28 := eq_true p28; replace q28 := eq_true q28) | (go_at_call 114; (with_reducible refine (lex_hex.calls kj7 (bt a0 (ji26)) t104 _ A29.out).mono ?_); rintro e w' ⟨rfl, ⟨nd, rfl⟩⟩; (try first | exact ⟨rfl, _, World.drewN_drewN _ _ _⟩ | exact ⟨rfl, _, Eq.trans (World.drewN_drewN _ _ _) (congrArg (World.drewN _) (Nat.add_assoc _ _ _))⟩))))
                                go_meet
                                case rel => exact ⟨_, (decide (t104 ≥ 0)), (by first | rfl | (simp; done) | (simp [*]; done)), H', ⟨by have := HJ7.out; first | omega | exact Nat.le_refl _⟩, by repeat (first | exact Drawn0.refl _ | apply Drawn0.step)⟩
                              · rw [if_neg c27] at H
                                exact absurd H (by simp)
                            · rw [if_neg c25] at H
                              have c25b0 : decide (0 ≤ t103) = false := decide_eq_false c25
                              clear c25
                              have H' := Aside0.mk H
                              clear H
                              have p23 : 0 ≤ ((ji20) : Int) := of_decide_eq_true (by first | (with_reducible assumption) | assumption)
                              have q23 : (ji20) < (a0.size : Int) := of_decide_eq_true (by first | (with_reducible assumption) | assumption)
                              have hx23 := bt_at a0 (ji20)
                              replace p23 := eq_true p23
                              replace q23 := eq_true q23
                              go_wp2_with (first | (go_at_call 114; (with_reducible refine (lex_hex.calls kj7 (bt a0 (ji20)) t103 _ A24.out).mono ?_); rintro e w' ⟨rfl, ⟨nd, rfl⟩⟩; (try first | exact ⟨rfl, _, World.drewN_drewN _ _ _⟩ | exact ⟨rfl, _, Eq.trans (World.drewN_drewN _ _ _) (congrArg (World.drewN _) (Nat.add_assoc _ _ _))⟩)))
                              repeat (go_quiet (first | (go_at_call 114; (with_reducible refine (lex_hex.calls kj7 (bt a0 (ji20)) t103 _ A24.out).mono ?_); rintro e w' ⟨rfl, ⟨nd, rfl⟩⟩; (try first | exact ⟨rfl, _, World.drewN_drewN _ _ _⟩ | exact ⟨rfl, _, Eq.trans (World.drewN_drewN _ _ _) (congrArg (World.drewN _) (Nat.add_assoc _ _ _))⟩))); try go_wp2_with (first | (go_at_call 114; (with_reducible refine (lex_hex.calls kj7 (bt a0 (ji20)) t103 _ A24.out).mono ?_); rintro e w' ⟨rfl, ⟨nd, rfl⟩⟩; (try first | exact ⟨rfl, _, World.drewN_drewN _ _ _⟩ | exact ⟨rfl, _, Eq.trans (World.drewN_drewN _ _ _) (congrArg (World.drewN _) (Nat.add_assoc _ _ _))⟩))))
                              go_meet
                              case rel => exact ⟨_, (false), (by first | rfl | (simp; done) | (simp [*]; done)), H', ⟨by have := HJ7.out; first | omega | exact Nat.le_refl _⟩, by repeat (first | exact Drawn0.refl _ | apply Drawn0.step)⟩
                          · rw [if_neg c22] at H
                            exact absurd H (by simp)
                        · rw [if_neg c21] at H
                          exact absurd H (by simp)
                      · rw [if_neg c19] at H
                        have c19b0 : decide ((wrap64 (a1 + 3)) < (a0.size : Int)) = false := decide_eq_false c19
                        clear c19
                        (first | rw [c19b0] | (simp only [i64_w, i32_w]; rw [c19b0]) | skip)
                        have H' := Aside0.mk H
                        clear H
                        go_wp2
                        repeat (go_quiet (fail); try go_wp2)
                        go_meet
                        case rel => exact ⟨_, (false), (by first | rfl | (simp; done) | (simp [*]; done)), H', ⟨by have := HJ7.out; first | omega | exact Nat.le_refl _⟩, by repeat (first | exact Drawn0.refl _ | apply Drawn0.step)⟩
                    case rest =>
                      clear HC18
                      try clear c1
                      try clear p1
                      try clear q1
                      try clear hx1
                      try clear c2
                      try clear p2
                      try clear q2
                      try clear hx2
                      try clear c3
                      try clear c3b0
                      try clear c5
                      try clear c5b0
                      try clear c6
                      try clear c6b0
                      try clear p6
                      try clear c7
                      try clear p7
                      try clear q7
                      try clear hx7
                      try clear c9
                      try clear c9b0
                      try clear c9b1
                      try clear c10
                      try clear c12
                      try clear c12b0
                      try clear c13
                      try clear c13b0
                      try clear p14
                      try clear q14
                      try clear hx14
                      try clear c15
                      try clear c15b0
                      try clear c15b1
                      try clear c16
                      try clear c16b0
                      try clear c16b1
                      try clear c17
                      try clear c17b0
                      try clear c17b1
                      try clear c19
                      try clear c19b0
                      try clear c21
                      try clear c21b0
                      try clear c22
                      try clear c22b0
                      try clear p23
                      try clear q23
                      try clear hx23
                      try clear c25
                      try clear c25b0
                      try clear c27
                      try clear c27b0
                      try clear p28
                      try clear q28
                      try clear hx28
                      try clear p14
                      try clear p2
                      try clear p23
                      try clear p28
                      try clear p6
                      try clear p7
                      try clear q14
                      try clear q23
                      try clear q28
                      try clear q7
                      obtain ⟨kq, x54_17, rfl, HA, HJ17, ⟨mc17, rfl⟩⟩ := hcut
                      cases kq with
                      | zero => exact absurd HA.out (by simp [lex_escape.j1])
                      | succ kj17 =>
                        have H := HA.out
                        clear HA
                        simp only [lex_escape.j1] at H
                        by_cases c30 : x54_17 = true
                        · subst c30
                          have H1 : (if 0 ≤ (wrap64 (a1 + 2)) then (if (wrap64 (a1 + 2)) < (a0.size : Int) then ((lex_hex.f kj17 (bt a0 (wrap64 (a1 + 2)))).bind fun t105 => (if 0 ≤ (wrap64 (a1 + 3)) then (if (wrap64 (a1 + 3)) < (a0.size : Int) then ((lex_hex.f kj17 (bt a0 (wrap64 (a1 + 3)))).bind fun t106 => (some ((wrap64 ((wrap64 (16 * t105)) + t106)) % 256, wrap64 (a1 + 4)))) else (none)) else (none))) else (none)) else (none)) = some (r1, r2) := by rw [if_pos rfl] at H; exact H
                          clear H
                          have H := H1
                          clear H1
                          try clear hji20
                          try clear hji20w
                          obtain ⟨ji31, hji31⟩ : ∃ j_ : Int, (wrap64 (a1 + 2)) = j_ := ⟨_, rfl⟩
                          replace H : (if 0 ≤ (ji31) then (if (ji31) < (a0.size : Int) then ((lex_hex.f kj17 (bt a0 (ji31))).bind fun t105 => (if 0 ≤ (wrap64 (a1 + 3)) then (if (wrap64 (a1 + 3)) < (a0.size : Int) then ((lex_hex.f kj17 (bt a0 (wrap64 (a1 + 3)))).bind fun t106 => (some ((wrap64 ((wrap64 (16 * t105)) + t106)) % 256, wrap64 (a1 + 4)))) else (none)) else (none))) else (none)) else (none)) = some (r1, r2) := by first | (rw [hji31] at H; exact H) | (simp only [hji31] at H ⊢; exact H)
                          have hji31w : (IntKind.i64.wrap (a1 + 2)) = ji31 := (i64_w _).trans hji31
                          by_cases c32 : 0 ≤ (ji31)
                          · rw [if_pos c32] at H
                            have c32b0 : decide (0 ≤ (ji31)) = true := decide_eq_true c32
                            clear c32
                            by_cases c33 : (ji31) < (a0.size : Int)
                            · rw [if_pos c33] at H
                              have c33b0 : decide ((ji31) < (a0.size : Int)) = true := decide_eq_true c33
                              clear c33
                              replace H := Option.bind_eq_some_iff.mp H
                              obtain ⟨t105, A350, H⟩ := H
                              replace H : (if 0 ≤ (wrap64 (a1 + 3)) then (if (wrap64 (a1 + 3)) < (a0.size : Int) then ((lex_hex.f kj17 (bt a0 (wrap64 (a1 + 3)))).bind fun t106 => (some ((wrap64 ((wrap64 (16 * t105)) + t106)) % 256, wrap64 (a1 + 4)))) else (none)) else (none)) = some (r1, r2) := H
                              have A35 := Aside0.mk A350
                              clear A350
                              try clear hji26
                              try clear hji26w
                              obtain ⟨ji36, hji36⟩ : ∃ j_ : Int, (wrap64 (a1 + 3)) = j_ := ⟨_, rfl⟩
                              replace H : (if 0 ≤ (ji36) then (if (ji36) < (a0.size : Int) then ((lex_hex.f kj17 (bt a0 (ji36))).bind fun t106 => (some ((wrap64 ((wrap64 (16 * t105)) + t106)) % 256, wrap64 (a1 + 4)))) else (none)) else (none)) = some (r1, r2) := by first | (rw [hji36] at H; exact H) | (simp only [hji36] at H ⊢; exact H)
                              (try rw [hji36] at A35)
                              have hji36w : (IntKind.i64.wrap (a1 + 3)) = ji36 := (i64_w _).trans hji36
                              by_cases c37 : 0 ≤ (ji36)
                              · rw [if_pos c37] at H
                                have c37b0 : decide (0 ≤ (ji36)) = true := decide_eq_true c37
                                clear c37
                                by_cases c38 : (ji36) < (a0.size : Int)
                                · rw [if_pos c38] at H
                                  have c38b0 : decide ((ji36) < (a0.size : Int)) = true := decide_eq_true c38
                                  clear c38
                                  replace H := Option.bind_eq_some_iff.mp H
                                  obtain ⟨t106, A400, H⟩ := H
                                  replace H : (some ((wrap64 ((wrap64 (16 * t105)) + t106)) % 256, wrap64 (a1 + 4))) = some (r1, r2) := H
                                  have A40 := Aside0.mk A400
                                  clear A400
                                  simp only [Option.some.injEq, Prod.mk.injEq] at H
                                  obtain ⟨rfl, rfl⟩ := H
                                  have p34 : 0 ≤ ((ji31) : Int) := of_decide_eq_true (by first | (with_reducible assumption) | assumption)
                                  have q34 : (ji31) < (a0.size : Int) := of_decide_eq_true (by first | (with_reducible assumption) | assumption)
                                  have hx34 := bt_at a0 (ji31)
                                  replace p34 := eq_true p34
                                  replace q34 := eq_true q34
                                  go_wp2_with (first | (go_at_call 114; (with_reducible refine (lex_hex.calls kj17 (bt a0 (ji31)) t105 _ A35.out).mono ?_); rintro e w' ⟨rfl, ⟨nd, rfl⟩⟩; (try first | exact ⟨rfl, _, World.drewN_drewN _ _ _⟩ | exact ⟨rfl, _, Eq.trans (World.drewN_drewN _ _ _) (congrArg (World.drewN _) (Nat.add_assoc _ _ _))⟩); have p39 : 0 ≤ ((ji36) : Int) := of_decide_eq_true (by first | (with_reducible assumption) | assumption); have q39 : (ji36) < (a0.size : Int) := of_decide_eq_true (by first | (with_reducible assumption) | assumption); have hx39 := bt_at a0 (ji36); replace p39 := eq_true p39; replace q39 := eq_true q39) | (go_at_call 114; (with_reducible refine (lex_hex.calls kj17 (bt a0 (ji36)) t106 _ A40.out).mono ?_); rintro e w' ⟨rfl, ⟨nd, rfl⟩⟩; (try first | exact ⟨rfl, _, World.drewN_drewN _ _ _⟩ | exact ⟨rfl, _, Eq.trans (World.drewN_drewN _ _ _) (congrArg (World.drewN _) (Nat.add_assoc _ _ _))⟩)))
                                  repeat (go_quiet (first | (go_at_call 114; (with_reducible refine (lex_hex.calls kj17 (bt a0 (ji31)) t105 _ A35.out).mono ?_); rintro e w' ⟨rfl, ⟨nd, rfl⟩⟩; (try first | exact ⟨rfl, _, World.drewN_drewN _ _ _⟩ | exact ⟨rfl, _, Eq.trans (World.drewN_drewN _ _ _) (congrArg (World.drewN _) (Nat.add_assoc _ _ _))⟩); have p39 : 0 ≤ ((ji36) : Int) := of_decide_eq_true (by first | (with_reducible assumption) | assumption); have q39 : (ji36) < (a0.size : Int) := of_decide_eq_true (by first | (with_reducible assumption) | assumption); have hx39 := bt_at a0 (ji36); replace p39 := eq_true p39; replace q39 := eq_true q39) | (go_at_call 114; (with_reducible refine (lex_hex.calls kj17 (bt a0 (ji36)) t106 _ A40.out).mono ?_); rintro e w' ⟨rfl, ⟨nd, rfl⟩⟩; (try first | exact ⟨rfl, _, World.drewN_drewN _ _ _⟩ | exact ⟨rfl, _, Eq.trans (World.drewN_drewN _ _ _) (congrArg (World.drewN _) (Nat.add_assoc _ _ _))⟩))); try go_wp2_with (first | (go_at_call 114; (with_reducible refine (lex_hex.calls kj17 (bt a0 (ji31)) t105 _ A35.out).mono ?_); rintro e w' ⟨rfl, ⟨nd, rfl⟩⟩; (try first | exact ⟨rfl, _, World.drewN_drewN _ _ _⟩ | exact ⟨rfl, _, Eq.trans (World.drewN_drewN _ _ _) (congrArg (World.drewN _) (Nat.add_assoc _ _ _))⟩); have p39 : 0 ≤ ((ji36) : Int) := of_decide_eq_true (by first | (with_reducible assumption) | assumption); have q39 : (ji36) < (a0.size : Int) := of_decide_eq_true (by first | (with_reducible assumption) | assumption); have hx39 := bt_at a0 (ji36); replace p39 := eq_true p39; replace q39 := eq_true q39) | (go_at_call 114; (with_reducible refine (lex_hex.calls kj17 (bt a0 (ji36)) t106 _ A40.out).mono ?_); rintro e w' ⟨rfl, ⟨nd, rfl⟩⟩; (try first | exact ⟨rfl, _, World.drewN_drewN _ _ _⟩ | exact ⟨rfl, _, Eq.trans (World.drewN_drewN _ _ _) (congrArg (World.drewN _) (Nat.add_assoc _ _ _))⟩))))
                                  go_ret2
                                  exact ⟨by first | rfl | (simp; done) | (simp [*]; done) | (simp [i64_w, IntKind.wrap_u8]; done) | ((try simp only [← hji4]); (try simp only [← hji31]); (try simp only [← hji36]); (first | rfl | (simp; done))) | (simp [*]; done), by repeat (first | exact Drawn0.refl _ | apply Drawn0.step)⟩
                                · rw [if_neg c38] at H
                                  exact absurd H (by simp)
                              · rw [if_neg c37] at H
                                exact absurd H (by simp)
                            · rw [if_neg c33] at H
                              exact absurd H (by simp)
                          · rw [if_neg c32] at H
                            exact absurd H (by simp)
                        · replace c30 := Bool.eq_false_iff.mpr c30
                          subst c30
                          have H1 : (some (0, 0)) = some (r1, r2) := by rw [if_neg (show ¬ (false = true) by decide)] at H; exact H
                          clear H
                          have H := H1
                          clear H1
                          simp only [Option.some.injEq, Prod.mk.injEq] at H
                          obtain ⟨rfl, rfl⟩ := H
                          go_wp2
                          repeat (go_quiet (fail); try go_wp2)
                          go_ret2
                          exact ⟨by first | rfl | (simp; done) | (simp [*]; done) | (simp [i64_w, IntKind.wrap_u8]; done) | ((try simp only [← hji4]); (first | rfl | (simp; done))) | (simp [*]; done), by repeat (first | exact Drawn0.refl _ | apply Drawn0.step)⟩
                  · rw [if_neg c17] at H
                    have c17b0 : ((bt a0 (ji4)) == 120) = false := beq_eq_false_iff_ne.mpr c17
                    have c17b1 : ((bt a0 (ji4)) != 120) = true := bne_iff_ne.mpr c17
                    simp only [Option.some.injEq, Prod.mk.injEq] at H
                    obtain ⟨rfl, rfl⟩ := H
                    go_wp2
                    repeat (go_quiet (fail); try go_wp2)
                    go_ret2
                    exact ⟨by first | rfl | (simp; done) | (simp [*]; done) | (simp [i64_w, IntKind.wrap_u8]; done) | ((try simp only [← hji4]); (first | rfl | (simp; done))) | (simp [*]; done), by repeat (first | exact Drawn0.refl _ | apply Drawn0.step)⟩
      · rw [if_neg c6] at H
        exact absurd H (by simp)
    · rw [if_neg c5] at H
      exact absurd H (by simp)
mutual
def lex_text.l0 : Nat → ByteArray → Int → List Int → Int → Option (Int × ByteArray × Int × Int × Int × Int × Int)
  | 0, _, _, _, _ => none
  | k + 1, x0, x1, x7, x8 => if x8 < (x0.size : Int) then (if 0 ≤ x8 then (lex_text.j1 k x0 x1 x7 x8 ((bt x0 x8) != 10)) else (none)) else (lex_text.j1 k x0 x1 x7 x8 false)
def lex_text.j1 : Nat → ByteArray → Int → List Int → Int → Bool → Option (Int × ByteArray × Int × Int × Int × Int × Int)
  | 0, _, _, _, _, _ => none
  | k + 1, x0, x1, x7, x8, x22 => if x22 = true then (if 0 ≤ x8 then (if x8 < (x0.size : Int) then (if (bt x0 x8) = 34 then (some (3, strOfNums x7, 0, x1, wrap64 (x8 + 1), 0, 0)) else (if (bt x0 x8) = 92 then ((lex_escape.f k x0 x8).bind fun bt108 => (if bt108.2 = 0 then (some (0, (⟨#[]⟩ : ByteArray), 0, 0, 0, x8, 82)) else (if x7.length < 140737488355328 then (lex_text.l0 k x0 x1 (x7 ++ [bt108.1]) bt108.2) else (none)))) else (if x7.length < 140737488355328 then (lex_text.l0 k x0 x1 (x7 ++ [bt x0 x8]) (wrap64 (x8 + 1))) else (none)))) else (none)) else (none)) else (some (0, (⟨#[]⟩ : ByteArray), 0, 0, 0, x1, 81))
end
def lex_text.f (k : Nat) (a0 : ByteArray) (a1 : Int) : Option (Int × ByteArray × Int × Int × Int × Int × Int) := lex_text.l0 k a0 a1 ([] : List Int) (wrap64 (a1 + 1))
set_option maxHeartbeats 8000000 in
set_option maxRecDepth 100000 in
theorem lex_text.calls (k : Nat) (a0 : ByteArray) (a1 : Int) (r1 : Int) (r2 : ByteArray) (r3 : Int) (r4 : Int) (r5 : Int) (r6 : Int) (r7 : Int) (w : World) (h : lex_text.f k a0 a1 = some (r1, r2, r3, r4, r5, r6, r7)) :
    Calls Tryd.prog 82 #[.string a0, .int .i64 a1] w fun e w' => e = .returned (.tuple #[.agg #[.int .i64 r1, .string r2, .int .u64 r3, .int .i64 r4, .int .i64 r5], .int .i64 r6, .int .i64 r7]) ∧ Below w.heap.size w w' := by
  have hu63 := Tryd.underlying63
  have HB := Aside0.mk (Below.refl w.heap.size w)
  have H : (lex_text.l0 k a0 a1 ([] : List Int) (wrap64 (a1 + 1))) = some (r1, r2, r3, r4, r5, r6, r7) := h
  clear h
  have H' := Aside0.mk H
  clear H
  go_enter Tryd.func82, Tryd.ntmps82
  go_wp2_with (first | ((with_reducible refine gate_dst (N := 4) rfl ?_); refine box_event ?hg (N := 4) ?hd (cs := #[.int .i64 0, .string (⟨#[]⟩ : ByteArray), .int .u64 0, .int .i64 0, .int .i64 0]) (t := 63) ?hr ?_; (case hd => rfl); (case hg => rfl); (case hr => first | (go_simp; done) | (go_simp; rfl)); intro gb107 hg w3 hbox hb; have n0_ := Aside0.mk (below_step (by repeat (first | (with_reducible first | exact HB.out | apply below_alloc | apply pw_below_drewN | apply below_drew1) | exact HB.out)) hb); have n1_ := Aside0.mk (hbox); have n2_ := Aside0.mk ((by rw [hg]; exact (below_size (by repeat (first | (with_reducible first | exact HB.out | apply below_alloc | apply pw_below_drewN | apply below_drew1) | exact HB.out))) : w.heap.size ≤ gb107)); have n3_ := Aside0.mk ((by rw [hg]; exact (below_size (by repeat (first | (with_reducible first | exact HB.out | apply below_alloc | apply pw_below_drewN | apply below_drew1) | exact HB.out))) : w.heap.size ≤ gb107)); clear HB; have HB := n0_; have BK107 := n1_; have GW107 := n2_; have GE107 := n3_; clear n0_ n1_ n2_ n3_; clear hb hbox hg))
  go_loopg [7, 8] k (fun kq v7 v8 w' => ∃ (x7_1 : List Int) (x8_1 : Int) (x108000_1 : Int) (x108001_1 : ByteArray) (x108002_1 : Int) (x108003_1 : Int) (x108004_1 : Int), v8 = .int .i64 x8_1 ∧ Aside0 (lex_text.l0 kq a0 a1 x7_1 x8_1 = some (r1, r2, r3, r4, r5, r6, r7)) ∧ Aside0 (kq ≤ k) ∧ Aside0 (Kd.R (Kd.int .u8) 5 w' w.heap.size (fun _ => True) v7 x7_1) ∧ Aside0 (w'.heap[gb107]? = some (.cells #[.int .i64 x108000_1, .string x108001_1, .int .u64 x108002_1, .int .i64 x108003_1, .int .i64 x108004_1] 63 (0, 0))) ∧ Aside0 (Below w.heap.size w w'))
  case atStart => exact ⟨(([] : List Int)), (wrap64 (a1 + 1)), (0), ((⟨#[]⟩ : ByteArray)), (0), (0), (0), (by first | rfl | (simp; done) | (simp [*]; done)), H', ⟨Nat.le_refl _⟩, ⟨by first | exact Kd.R_nil _ _ _ _ _ | exact Kd.N_nil _ _ _ _ _ | exact Kd.V_nil _ _ _ _ _ | exact Kd.Q_nil _ _ _ _ _ | exact Kd.S_nil _ _ _ _ _⟩, ⟨by (with_reducible repeat (first | refine blk_drewN ?_ _ | refine blk_drew ?_ | refine blk_alloc ?_ _)); exact BK107.out⟩, ⟨by repeat (first | (with_reducible first | exact HB.out | apply below_alloc | apply pw_below_drewN | apply below_drew1 | refine below_set ?_ GE107.out) | exact HB.out)⟩⟩
  case round =>
    clear H'
    try clear p2
    obtain ⟨x7_1, x8_1, x108000_1, x108001_1, x108002_1, x108003_1, x108004_1, rfl, HA, HK1, HO_7, BK107, HB⟩ := hrel
    cases gk with
    | zero => exact absurd HA.out (by simp [lex_text.l0])
    | succ k1 =>
      have H := HA.out
      clear HA
      simp only [lex_text.l0] at H
      have HC4 := Aside0.mk H
      clear H
      go_upto_region 3 with (fail)
      go_cut [22] (fun v22 wc => ∃ (kq : Nat) (x22_3 : Bool), v22 = .bool x22_3 ∧ Aside0 (lex_text.j1 kq a0 a1 x7_1 x8_1 x22_3 = some (r1, r2, r3, r4, r5, r6, r7)) ∧ Aside0 (kq ≤ k1) ∧ Aside0 (Kd.R (Kd.int .u8) 5 wc w.heap.size (fun _ => True) u7 x7_1) ∧ Aside0 (wc.heap[gb107]? = some (.cells #[.int .i64 x108000_1, .string x108001_1, .int .u64 x108002_1, .int .i64 x108003_1, .int .i64 x108004_1] 63 (0, 0))) ∧ Aside0 (Below w.heap.size w wc))
      case first =>
        have H := HC4.out
        clear HC4
        by_cases c5 : x8_1 < (a0.size : Int)
        · rw [if_pos c5] at H
          have c5b0 : decide (x8_1 < (a0.size : Int)) = true := decide_eq_true c5
          clear c5
          (first | rw [c5b0] | (simp only [i64_w, i32_w]; rw [c5b0]) | skip)
          by_cases c6 : 0 ≤ x8_1
          · rw [if_pos c6] at H
            have c6b0 : decide (0 ≤ x8_1) = true := decide_eq_true c6
            clear c6
            have H' := Aside0.mk H
            clear H
            have p7 : 0 ≤ (x8_1 : Int) := of_decide_eq_true (by first | (with_reducible assumption) | assumption)
            have q7 : x8_1 < (a0.size : Int) := of_decide_eq_true (by first | (with_reducible assumption) | assumption)
            have hx7 := bt_at a0 x8_1
            replace p7 := eq_true p7
            replace q7 := eq_true q7
            go_wp2
            go_meet
            case rel => exact ⟨_, (((bt a0 x8_1) != 10)), (by first | rfl | (simp; done) | (simp [*]; done)), H', ⟨by have := HK1.out; first | omega | exact Nat.le_refl _⟩, ⟨by (with_reducible repeat (first | apply Kd.R_alloc | apply Kd.R_drewN | apply Kd.R_drew)); exact HO_7.out⟩, ⟨by (with_reducible repeat (first | refine blk_drewN ?_ _ | refine blk_drew ?_ | refine blk_alloc ?_ _)); exact BK107.out⟩, ⟨by repeat (first | (with_reducible first | exact HB.out | apply below_alloc | apply pw_below_drewN | apply below_drew1 | refine below_set ?_ GE107.out) | exact HB.out)⟩⟩
          · rw [if_neg c6] at H
            exact absurd H (by simp)
        · rw [if_neg c5] at H
          have c5b0 : decide (x8_1 < (a0.size : Int)) = false := decide_eq_false c5
          clear c5
          (first | rw [c5b0] | (simp only [i64_w, i32_w]; rw [c5b0]) | skip)
          have H' := Aside0.mk H
          clear H
          go_wp2
          go_meet
          case rel => exact ⟨_, (false), (by first | rfl | (simp; done) | (simp [*]; done)), H', ⟨by have := HK1.out; first | omega | exact Nat.le_refl _⟩, ⟨by (with_reducible repeat (first | apply Kd.R_alloc | apply Kd.R_drewN | apply Kd.R_drew)); exact HO_7.out⟩, ⟨by (with_reducible repeat (first | refine blk_drewN ?_ _ | refine blk_drew ?_ | refine blk_alloc ?_ _)); exact BK107.out⟩, ⟨by repeat (first | (with_reducible first | exact HB.out | apply below_alloc | apply pw_below_drewN | apply below_drew1 | refine below_set ?_ GE107.out) | exact HB.out)⟩⟩
      case rest =>
        clear HC4
        try clear p2
        try clear c5
        try clear c5b0
        try clear c6
        try clear c6b0
        try clear p6
        try clear p7
        try clear q7
        try clear hx7
        try clear p2
        try clear p7
        try clear q7
        obtain ⟨kq, x22_3, rfl, HA, HJ3, HO_7, BK107, HB⟩ := hcut
        cases kq with
        | zero => exact absurd HA.out (by simp [lex_text.j1])
        | succ kj3 =>
          have H := HA.out
          clear HA
          simp only [lex_text.j1] at H
          by_cases c8 : x22_3 = true
          · subst c8
            have H1 : (if 0 ≤ x8_1 then (if x8_1 < (a0.size : Int) then (if (bt a0 x8_1) = 34 then (some (3, strOfNums x7_1, 0, a1, wrap64 (x8_1 + 1), 0, 0)) else (if (bt a0 x8_1) = 92 then ((lex_escape.f kj3 a0 x8_1).bind fun bt108 => (if bt108.2 = 0 then (some (0, (⟨#[]⟩ : ByteArray), 0, 0, 0, x8_1, 82)) else (if x7_1.length < 140737488355328 then (lex_text.l0 kj3 a0 a1 (x7_1 ++ [bt108.1]) bt108.2) else (none)))) else (if x7_1.length < 140737488355328 then (lex_text.l0 kj3 a0 a1 (x7_1 ++ [bt a0 x8_1]) (wrap64 (x8_1 + 1))) else (none)))) else (none)) else (none)) = some (r1, r2, r3, r4, r5, r6, r7) := by rw [if_pos rfl] at H; exact H
            clear H
            have H := H1
            clear H1
            by_cases c9 : 0 ≤ x8_1
            · rw [if_pos c9] at H
              have c9b0 : decide (0 ≤ x8_1) = true := decide_eq_true c9
              clear c9
              by_cases c10 : x8_1 < (a0.size : Int)
              · rw [if_pos c10] at H
                have c10b0 : decide (x8_1 < (a0.size : Int)) = true := decide_eq_true c10
                clear c10
                by_cases c12 : (bt a0 x8_1) = 34
                · rw [if_pos c12] at H
                  have c12b0 : ((bt a0 x8_1) == 34) = true := beq_iff_eq.mpr c12
                  have c12b1 : ((bt a0 x8_1) != 34) = false := bne_eq_false_iff_eq.mpr c12
                  clear c12
                  simp only [Option.some.injEq, Prod.mk.injEq] at H
                  obtain ⟨rfl, rfl, rfl, rfl, rfl, rfl, rfl⟩ := H
                  have p11 : 0 ≤ (x8_1 : Int) := of_decide_eq_true (by first | (with_reducible assumption) | assumption)
                  have q11 : x8_1 < (a0.size : Int) := of_decide_eq_true (by first | (with_reducible assumption) | assumption)
                  have hx11 := bt_at a0 x8_1
                  replace p11 := eq_true p11
                  replace q11 := eq_true q11
                  have hcv13 := own_string (P := Tryd.prog) Tryd.underlying70 Tryd.underlying5 Tryd.underlying9 (Kd.own_of_R HO_7.out)
                  have hcz14_0 : wc.cell? ⟨gb107, 0, none⟩ = some (.int .i64 x108000_1) := (blk_cell BK107.out 0).trans rfl
                  have hcz14_1 : wc.cell? ⟨gb107, 1, none⟩ = some (.string x108001_1) := (blk_cell BK107.out 1).trans rfl
                  have hcz14_2 : wc.cell? ⟨gb107, 2, none⟩ = some (.int .u64 x108002_1) := (blk_cell BK107.out 2).trans rfl
                  have hcz14_3 : wc.cell? ⟨gb107, 3, none⟩ = some (.int .i64 x108003_1) := (blk_cell BK107.out 3).trans rfl
                  have hcz14_4 : wc.cell? ⟨gb107, 4, none⟩ = some (.int .i64 x108004_1) := (blk_cell BK107.out 4).trans rfl
                  have hfz14_0 := blk_frozen BK107.out 0
                  have hfz14_1 := blk_frozen BK107.out 1
                  have hfz14_2 := blk_frozen BK107.out 2
                  have hfz14_3 := blk_frozen BK107.out 3
                  have hfz14_4 := blk_frozen BK107.out 4
                  go_wp2
                  refine bodyPost_ret (results_ctt rfl _ _ gb107 63 #[.int .i64 3, .string (strOfNums x7_1), .int .u64 0, .int .i64 a1, .int .i64 (wrap64 (x8_1 + 1))] (0, 0) _ rfl (by (with_reducible repeat (first | refine blk_drewN ?_ _ | refine blk_drew ?_ | refine blk_alloc ?_ _)); refine blk_put (cs := #[.int .i64 3, .string (strOfNums x7_1), .int .u64 0, .int .i64 a1, .int .i64 x108004_1]) ?_ 4 _ rfl; (with_reducible repeat (first | refine blk_drewN ?_ _ | refine blk_drew ?_ | refine blk_alloc ?_ _)); refine blk_put (cs := #[.int .i64 3, .string (strOfNums x7_1), .int .u64 0, .int .i64 x108003_1, .int .i64 x108004_1]) ?_ 3 _ rfl; (with_reducible repeat (first | refine blk_drewN ?_ _ | refine blk_drew ?_ | refine blk_alloc ?_ _)); refine blk_put (cs := #[.int .i64 3, .string (strOfNums x7_1), .int .u64 x108002_1, .int .i64 x108003_1, .int .i64 x108004_1]) ?_ 2 _ rfl; (with_reducible repeat (first | refine blk_drewN ?_ _ | refine blk_drew ?_ | refine blk_alloc ?_ _)); refine blk_put (cs := #[.int .i64 3, .string x108001_1, .int .u64 x108002_1, .int .i64 x108003_1, .int .i64 x108004_1]) ?_ 1 _ rfl; (with_reducible repeat (first | refine blk_drewN ?_ _ | refine blk_drew ?_ | refine blk_alloc ?_ _)); refine blk_put (cs := #[.int .i64 x108000_1, .string x108001_1, .int .u64 x108002_1, .int .i64 x108003_1, .int .i64 x108004_1]) ?_ 0 _ rfl; (with_reducible repeat (first | refine blk_drewN ?_ _ | refine blk_drew ?_ | refine blk_alloc ?_ _)); exact BK107.out) Tryd.underlying63 rfl (by kernel_rfl)) rfl ?_
                  exact ⟨by first | rfl | (simp [errW_none, errW_some] <;> rfl) | (simp [*, errW_none, errW_some] <;> rfl), by repeat (first | (with_reducible first | exact HB.out | apply below_alloc | apply pw_below_drewN | apply below_drew1 | refine below_set ?_ GE107.out) | exact HB.out)⟩
                · rw [if_neg c12] at H
                  have c12b0 : ((bt a0 x8_1) == 34) = false := beq_eq_false_iff_ne.mpr c12
                  have c12b1 : ((bt a0 x8_1) != 34) = true := bne_iff_ne.mpr c12
                  by_cases c15 : (bt a0 x8_1) = 92
                  · rw [if_pos c15] at H
                    have c15b0 : ((bt a0 x8_1) == 92) = true := beq_iff_eq.mpr c15
                    have c15b1 : ((bt a0 x8_1) != 92) = false := bne_eq_false_iff_eq.mpr c15
                    clear c15
                    replace H := Option.bind_eq_some_iff.mp H
                    obtain ⟨⟨t108, t109⟩, A160, H⟩ := H
                    replace H : (if t109 = 0 then (some (0, (⟨#[]⟩ : ByteArray), 0, 0, 0, x8_1, 82)) else (if x7_1.length < 140737488355328 then (lex_text.l0 kj3 a0 a1 (x7_1 ++ [t108]) t109) else (none))) = some (r1, r2, r3, r4, r5, r6, r7) := H
                    have A16 := Aside0.mk A160
                    clear A160
                    by_cases c17 : t109 = 0
                    · rw [if_pos c17] at H
                      have c17b0 : (t109 == 0) = true := beq_iff_eq.mpr c17
                      have c17b1 : (t109 != 0) = false := bne_eq_false_iff_eq.mpr c17
                      clear c17
                      simp only [Option.some.injEq, Prod.mk.injEq] at H
                      obtain ⟨rfl, rfl, rfl, rfl, rfl, rfl, rfl⟩ := H
                      have p11 : 0 ≤ (x8_1 : Int) := of_decide_eq_true (by first | (with_reducible assumption) | assumption)
                      have q11 : x8_1 < (a0.size : Int) := of_decide_eq_true (by first | (with_reducible assumption) | assumption)
                      have hx11 := bt_at a0 x8_1
                      replace p11 := eq_true p11
                      replace q11 := eq_true q11
                      go_wp2_with (first | ((with_reducible refine gate_callee (f := 101) rfl ?_); refine goesL_ (some 47) rfl rfl Tryd.func101 (by kernel_rfl) rfl #[.string a0, .int .i64 x8_1] rfl (by (try simp only [List.map_toArray, List.map_cons, List.map_nil]); first | done | rfl | (simp only [List.length_drop, List.length_take]; rfl)) ?_; (with_reducible refine (lex_escape.calls kj3 a0 x8_1 t108 t109 _ A16.out).mono ?_); rintro e w' ⟨rfl, ⟨nd, rfl⟩⟩; refine ⟨_, rfl, ?_⟩; (try (rw [drewN_self wc]; generalize hq_ : World.drewN wc _ = wc; have n0_ : Aside0 (Kd.R (Kd.int .u8) 5 wc w.heap.size (fun _ => True) u7 x7_1) := ⟨by rw [← hq_]; exact (by (with_reducible repeat (first | apply Kd.R_alloc | apply Kd.R_drewN | apply Kd.R_drew)); exact HO_7.out)⟩; have n1_ : Aside0 (wc.heap[gb107]? = some (.cells #[.int .i64 x108000_1, .string x108001_1, .int .u64 x108002_1, .int .i64 x108003_1, .int .i64 x108004_1] 63 (0, 0))) := ⟨by rw [← hq_]; exact (by (with_reducible repeat (first | refine blk_drewN ?_ _ | refine blk_drew ?_ | refine blk_alloc ?_ _)); exact BK107.out)⟩; have n2_ : Aside0 (Below w.heap.size w wc) := ⟨by rw [← hq_]; exact (by repeat (first | (with_reducible first | exact HB.out | apply below_alloc | apply pw_below_drewN | apply below_drew1 | refine below_set ?_ GE107.out) | exact HB.out))⟩; clear HO_7 BK107 HB hq_; have HO_7 := n0_; have BK107 := n1_; have HB := n2_; clear n0_ n1_ n2_)); have hcz18_0 : wc.cell? ⟨gb107, 0, none⟩ = some (.int .i64 x108000_1) := (blk_cell BK107.out 0).trans rfl; have hcz18_1 : wc.cell? ⟨gb107, 1, none⟩ = some (.string x108001_1) := (blk_cell BK107.out 1).trans rfl; have hcz18_2 : wc.cell? ⟨gb107, 2, none⟩ = some (.int .u64 x108002_1) := (blk_cell BK107.out 2).trans rfl; have hcz18_3 : wc.cell? ⟨gb107, 3, none⟩ = some (.int .i64 x108003_1) := (blk_cell BK107.out 3).trans rfl; have hcz18_4 : wc.cell? ⟨gb107, 4, none⟩ = some (.int .i64 x108004_1) := (blk_cell BK107.out 4).trans rfl; have hfz18_0 := blk_frozen BK107.out 0; have hfz18_1 := blk_frozen BK107.out 1; have hfz18_2 := blk_frozen BK107.out 2; have hfz18_3 := blk_frozen BK107.out 3; have hfz18_4 := blk_frozen BK107.out 4))
                      refine bodyPost_ret (results_ctt rfl _ _ gb107 63 #[.int .i64 0, .string (⟨#[]⟩ : ByteArray), .int .u64 0, .int .i64 0, .int .i64 0] (0, 0) _ rfl (by (with_reducible repeat (first | refine blk_drewN ?_ _ | refine blk_drew ?_ | refine blk_alloc ?_ _)); refine blk_put (cs := #[.int .i64 0, .string (⟨#[]⟩ : ByteArray), .int .u64 0, .int .i64 0, .int .i64 x108004_1]) ?_ 4 _ rfl; (with_reducible repeat (first | refine blk_drewN ?_ _ | refine blk_drew ?_ | refine blk_alloc ?_ _)); refine blk_put (cs := #[.int .i64 0, .string (⟨#[]⟩ : ByteArray), .int .u64 0, .int .i64 x108003_1, .int .i64 x108004_1]) ?_ 3 _ rfl; (with_reducible repeat (first | refine blk_drewN ?_ _ | refine blk_drew ?_ | refine blk_alloc ?_ _)); refine blk_put (cs := #[.int .i64 0, .string (⟨#[]⟩ : ByteArray), .int .u64 x108002_1, .int .i64 x108003_1, .int .i64 x108004_1]) ?_ 2 _ rfl; (with_reducible repeat (first | refine blk_drewN ?_ _ | refine blk_drew ?_ | refine blk_alloc ?_ _)); refine blk_put (cs := #[.int .i64 0, .string x108001_1, .int .u64 x108002_1, .int .i64 x108003_1, .int .i64 x108004_1]) ?_ 1 _ rfl; (with_reducible repeat (first | refine blk_drewN ?_ _ | refine blk_drew ?_ | refine blk_alloc ?_ _)); refine blk_put (cs := #[.int .i64 x108000_1, .string x108001_1, .int .u64 x108002_1, .int .i64 x108003_1, .int .i64 x108004_1]) ?_ 0 _ rfl; (with_reducible repeat (first | refine blk_drewN ?_ _ | refine blk_drew ?_ | refine blk_alloc ?_ _)); exact BK107.out) Tryd.underlying63 rfl (by kernel_rfl)) rfl ?_
                      exact ⟨by first | rfl | (simp [errW_none, errW_some] <;> rfl) | (simp [*, errW_none, errW_some] <;> rfl), by repeat (first | (with_reducible first | exact HB.out | apply below_alloc | apply pw_below_drewN | apply below_drew1 | refine below_set ?_ GE107.out) | exact HB.out)⟩
                    · rw [if_neg c17] at H
                      have c17b0 : (t109 == 0) = false := beq_eq_false_iff_ne.mpr c17
                      have c17b1 : (t109 != 0) = true := bne_iff_ne.mpr c17
                      by_cases c19 : x7_1.length < 140737488355328
                      · rw [if_pos c19] at H
                        have LMc19 := Aside0.mk c19
                        clear c19
                        obtain ⟨y110, hy110⟩ : ∃ y_ : List Int, y_ = (x7_1 ++ [t108]) := ⟨_, rfl⟩
                        replace H : (lex_text.l0 kj3 a0 a1 y110 t109) = some (r1, r2, r3, r4, r5, r6, r7) := by first | (rw [hy110]; with_reducible exact H) | (have H2_ := (Option.bind_some _ _).symm.trans H; rw [hy110]; with_reducible exact H2_) | (have H2_ := (Option.bind_some _ _).symm.trans H; with_reducible exact H2_) | with_reducible exact H | (rw [hy110]; exact H) | exact H
                        have Ny110 := Aside0.mk hy110
                        clear hy110
                        have H' := Aside0.mk H
                        clear H
                        have p11 : 0 ≤ (x8_1 : Int) := of_decide_eq_true (by first | (with_reducible assumption) | assumption)
                        have q11 : x8_1 < (a0.size : Int) := of_decide_eq_true (by first | (with_reducible assumption) | assumption)
                        have hx11 := bt_at a0 x8_1
                        replace p11 := eq_true p11
                        replace q11 := eq_true q11
                        go_wp2_with (first | ((with_reducible refine gate_callee (f := 101) rfl ?_); refine goesL_ (some 47) rfl rfl Tryd.func101 (by kernel_rfl) rfl #[.string a0, .int .i64 x8_1] rfl (by (try simp only [List.map_toArray, List.map_cons, List.map_nil]); first | done | rfl | (simp only [List.length_drop, List.length_take]; rfl)) ?_; (with_reducible refine (lex_escape.calls kj3 a0 x8_1 t108 t109 _ A16.out).mono ?_); rintro e w' ⟨rfl, ⟨nd, rfl⟩⟩; refine ⟨_, rfl, ?_⟩) | ((with_reducible refine gate_builtin (b := .append) (xs := #[.tmp 54, .tmp 56]) rfl ?_); at_builtin; refine Kd.R_append (Kd.int .u8) (w0 := w) w.heap.size rfl (.tmp 54) (.tmp 56) 70 5 (.int .u8 0) 1 rfl Tryd.underlying70 info5 rfl (by decide) (by omega) u7 x7_1 t108 [.int .u8 t108] (fun _ => True) (fun _ => False) rfl rfl ?aP (fun _ hk => hk.elim) ?aF ?aO ?aB ?aS ?aL ?_; (case aP => exact rfl); (case aB => exact (by repeat (first | (with_reducible first | exact HB.out | apply below_alloc | apply pw_below_drewN | apply below_drew1 | refine below_set ?_ GE107.out) | exact HB.out))); (case aF => exact (fun _ _ => trivial)); (case aO => exact (by (with_reducible repeat (first | apply Kd.R_alloc | apply Kd.R_drewN | apply Kd.R_drew)); exact HO_7.out)); (case aS => exact (below_size (by repeat (first | (with_reducible first | exact HB.out | apply below_alloc | apply pw_below_drewN | apply below_drew1 | refine below_set ?_ GE107.out) | exact HB.out)))); (case aL => have := LMc19.out; omega); intro v111 w20 ho hb hg hat; rw [← Ny110.out] at ho; have n0_ := Aside0.mk (blk_grown (g := gb107) (o := .cells #[.int .i64 x108000_1, .string x108001_1, .int .u64 x108002_1, .int .i64 x108003_1, .int .i64 x108004_1] 63 (0, 0)) (by (with_reducible repeat (first | refine blk_drewN ?_ _ | refine blk_drew ?_ | refine blk_alloc ?_ _)); exact BK107.out) hg (Kd.R_ne HO_7.out BK107.out (by decide))); have n1_ := Aside0.mk (hb); have n2_ := Aside0.mk (ho); clear BK107; clear HB; clear HO_7; have BK107 := n0_; have HB := n1_; have HO112 := n2_; clear n0_ n1_ n2_; clear ho hb hg hat))
                        go_roundg kj3
                        case measure => have := HK1.out; have := HJ3.out; omega
                        case rel => exact ⟨(y110), (t109), (x108000_1), (x108001_1), (x108002_1), (x108003_1), (x108004_1), (by first | rfl | (simp; done) | (simp [*]; done)), H', ⟨by have := HK1.out; have := HJ3.out; omega⟩, ⟨by (with_reducible repeat (first | apply Kd.R_alloc | apply Kd.R_drewN | apply Kd.R_drew)); exact HO112.out⟩, ⟨by (with_reducible repeat (first | refine blk_drewN ?_ _ | refine blk_drew ?_ | refine blk_alloc ?_ _)); exact BK107.out⟩, ⟨by repeat (first | (with_reducible first | exact HB.out | apply below_alloc | apply pw_below_drewN | apply below_drew1 | refine below_set ?_ GE107.out) | exact HB.out)⟩⟩
                      · rw [if_neg c19] at H
                        exact absurd H (by simp)
                  · rw [if_neg c15] at H
                    have c15b0 : ((bt a0 x8_1) == 92) = false := beq_eq_false_iff_ne.mpr c15
                    have c15b1 : ((bt a0 x8_1) != 92) = true := bne_iff_ne.mpr c15
                    by_cases c22 : x7_1.length < 140737488355328
                    · rw [if_pos c22] at H
                      have LMc22 := Aside0.mk c22
                      clear c22
                      obtain ⟨y113, hy113⟩ : ∃ y_ : List Int, y_ = (x7_1 ++ [bt a0 x8_1]) := ⟨_, rfl⟩
                      replace H : (lex_text.l0 kj3 a0 a1 y113 (wrap64 (x8_1 + 1))) = some (r1, r2, r3, r4, r5, r6, r7) := by first | (rw [hy113]; with_reducible exact H) | (have H2_ := (Option.bind_some _ _).symm.trans H; rw [hy113]; with_reducible exact H2_) | (have H2_ := (Option.bind_some _ _).symm.trans H; with_reducible exact H2_) | with_reducible exact H | (rw [hy113]; exact H) | exact H
                      have Ny113 := Aside0.mk hy113
                      clear hy113
                      have H' := Aside0.mk H
                      clear H
                      have p11 : 0 ≤ (x8_1 : Int) := of_decide_eq_true (by first | (with_reducible assumption) | assumption)
                      have q11 : x8_1 < (a0.size : Int) := of_decide_eq_true (by first | (with_reducible assumption) | assumption)
                      have hx11 := bt_at a0 x8_1
                      replace p11 := eq_true p11
                      replace q11 := eq_true q11
                      have p21 : 0 ≤ (x8_1 : Int) := of_decide_eq_true (by first | (with_reducible assumption) | assumption)
                      have q21 : x8_1 < (a0.size : Int) := of_decide_eq_true (by first | (with_reducible assumption) | assumption)
                      have hx21 := bt_at a0 x8_1
                      replace p21 := eq_true p21
                      replace q21 := eq_true q21
                      go_wp2_with (first | ((with_reducible refine gate_builtin (b := .append) (xs := #[.tmp 26, .tmp 30]) rfl ?_); at_builtin; refine Kd.R_append (Kd.int .u8) (w0 := w) w.heap.size rfl (.tmp 26) (.tmp 30) 70 5 (.int .u8 0) 1 rfl Tryd.underlying70 info5 rfl (by decide) (by omega) u7 x7_1 (bt a0 x8_1) [.int .u8 (bt a0 x8_1)] (fun _ => True) (fun _ => False) rfl rfl ?aP (fun _ hk => hk.elim) ?aF ?aO ?aB ?aS ?aL ?_; (case aP => exact rfl); (case aB => exact (by repeat (first | (with_reducible first | exact HB.out | apply below_alloc | apply pw_below_drewN | apply below_drew1 | refine below_set ?_ GE107.out) | exact HB.out))); (case aF => exact (fun _ _ => trivial)); (case aO => exact (by (with_reducible repeat (first | apply Kd.R_alloc | apply Kd.R_drewN | apply Kd.R_drew)); exact HO_7.out)); (case aS => exact (below_size (by repeat (first | (with_reducible first | exact HB.out | apply below_alloc | apply pw_below_drewN | apply below_drew1 | refine below_set ?_ GE107.out) | exact HB.out)))); (case aL => have := LMc22.out; omega); intro v114 w23 ho hb hg hat; rw [← Ny113.out] at ho; have n0_ := Aside0.mk (blk_grown (g := gb107) (o := .cells #[.int .i64 x108000_1, .string x108001_1, .int .u64 x108002_1, .int .i64 x108003_1, .int .i64 x108004_1] 63 (0, 0)) (by (with_reducible repeat (first | refine blk_drewN ?_ _ | refine blk_drew ?_ | refine blk_alloc ?_ _)); exact BK107.out) hg (Kd.R_ne HO_7.out BK107.out (by decide))); have n1_ := Aside0.mk (hb); have n2_ := Aside0.mk (ho); clear BK107; clear HB; clear HO_7; have BK107 := n0_; have HB := n1_; have HO115 := n2_; clear n0_ n1_ n2_; clear ho hb hg hat))
                      go_roundg kj3
                      case measure => have := HK1.out; have := HJ3.out; omega
                      case rel => exact ⟨(y113), (wrap64 (x8_1 + 1)), (x108000_1), (x108001_1), (x108002_1), (x108003_1), (x108004_1), (by first | rfl | (simp; done) | (simp [*]; done)), H', ⟨by have := HK1.out; have := HJ3.out; omega⟩, ⟨by (with_reducible repeat (first | apply Kd.R_alloc | apply Kd.R_drewN | apply Kd.R_drew)); exact HO115.out⟩, ⟨by (with_reducible repeat (first | refine blk_drewN ?_ _ | refine blk_drew ?_ | refine blk_alloc ?_ _)); exact BK107.out⟩, ⟨by repeat (first | (with_reducible first | exact HB.out | apply below_alloc | apply pw_below_drewN | apply below_drew1 | refine below_set ?_ GE107.out) | exact HB.out)⟩⟩
                    · rw [if_neg c22] at H
                      exact absurd H (by simp)
              · rw [if_neg c10] at H
                exact absurd H (by simp)
            · rw [if_neg c9] at H
              exact absurd H (by simp)
          · replace c8 := Bool.eq_false_iff.mpr c8
            subst c8
            have H1 : (some (0, (⟨#[]⟩ : ByteArray), 0, 0, 0, a1, 81)) = some (r1, r2, r3, r4, r5, r6, r7) := by rw [if_neg (show ¬ (false = true) by decide)] at H; exact H
            clear H
            have H := H1
            clear H1
            simp only [Option.some.injEq, Prod.mk.injEq] at H
            obtain ⟨rfl, rfl, rfl, rfl, rfl, rfl, rfl⟩ := H
            have hcz24_0 : wc.cell? ⟨gb107, 0, none⟩ = some (.int .i64 x108000_1) := (blk_cell BK107.out 0).trans rfl
            have hcz24_1 : wc.cell? ⟨gb107, 1, none⟩ = some (.string x108001_1) := (blk_cell BK107.out 1).trans rfl
            have hcz24_2 : wc.cell? ⟨gb107, 2, none⟩ = some (.int .u64 x108002_1) := (blk_cell BK107.out 2).trans rfl
            have hcz24_3 : wc.cell? ⟨gb107, 3, none⟩ = some (.int .i64 x108003_1) := (blk_cell BK107.out 3).trans rfl
            have hcz24_4 : wc.cell? ⟨gb107, 4, none⟩ = some (.int .i64 x108004_1) := (blk_cell BK107.out 4).trans rfl
            have hfz24_0 := blk_frozen BK107.out 0
            have hfz24_1 := blk_frozen BK107.out 1
            have hfz24_2 := blk_frozen BK107.out 2
            have hfz24_3 := blk_frozen BK107.out 3
            have hfz24_4 := blk_frozen BK107.out 4
            go_wp2
            refine bodyPost_ret (results_ctt rfl _ _ gb107 63 #[.int .i64 0, .string (⟨#[]⟩ : ByteArray), .int .u64 0, .int .i64 0, .int .i64 0] (0, 0) _ rfl (by (with_reducible repeat (first | refine blk_drewN ?_ _ | refine blk_drew ?_ | refine blk_alloc ?_ _)); refine blk_put (cs := #[.int .i64 0, .string (⟨#[]⟩ : ByteArray), .int .u64 0, .int .i64 0, .int .i64 x108004_1]) ?_ 4 _ rfl; (with_reducible repeat (first | refine blk_drewN ?_ _ | refine blk_drew ?_ | refine blk_alloc ?_ _)); refine blk_put (cs := #[.int .i64 0, .string (⟨#[]⟩ : ByteArray), .int .u64 0, .int .i64 x108003_1, .int .i64 x108004_1]) ?_ 3 _ rfl; (with_reducible repeat (first | refine blk_drewN ?_ _ | refine blk_drew ?_ | refine blk_alloc ?_ _)); refine blk_put (cs := #[.int .i64 0, .string (⟨#[]⟩ : ByteArray), .int .u64 x108002_1, .int .i64 x108003_1, .int .i64 x108004_1]) ?_ 2 _ rfl; (with_reducible repeat (first | refine blk_drewN ?_ _ | refine blk_drew ?_ | refine blk_alloc ?_ _)); refine blk_put (cs := #[.int .i64 0, .string x108001_1, .int .u64 x108002_1, .int .i64 x108003_1, .int .i64 x108004_1]) ?_ 1 _ rfl; (with_reducible repeat (first | refine blk_drewN ?_ _ | refine blk_drew ?_ | refine blk_alloc ?_ _)); refine blk_put (cs := #[.int .i64 x108000_1, .string x108001_1, .int .u64 x108002_1, .int .i64 x108003_1, .int .i64 x108004_1]) ?_ 0 _ rfl; (with_reducible repeat (first | refine blk_drewN ?_ _ | refine blk_drew ?_ | refine blk_alloc ?_ _)); exact BK107.out) Tryd.underlying63 rfl (by kernel_rfl)) rfl ?_
            exact ⟨by first | rfl | (simp [errW_none, errW_some] <;> rfl) | (simp [*, errW_none, errW_some] <;> rfl), by repeat (first | (with_reducible first | exact HB.out | apply below_alloc | apply pw_below_drewN | apply below_drew1 | refine below_set ?_ GE107.out) | exact HB.out)⟩
end Go.Proofs.YtaijoghpfobdbaaDoor.X
end
