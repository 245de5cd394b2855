/- The texts of the law PrintPlaces, put together by a program of this workplace out of its own texts and of what the kit's print has written: walks of the functions, plain laws. No condition but those in the theorems. -/
import Derived.Test.YtaijoghpfobdbaaDoorProg
import Derived.Below
import Derived.Deep.Draws
import Derived.Deep.AppendLies
import Derived.Maps.AppendAt
import Derived.OwnWalk
import Derived.Laws.BytesArg
import Derived.Laws.MakeOwn
import Derived.Laws.OwnMore
import Derived.Deep.OwnRows
import Derived.Tactics
import Derived.Lib.ConvBytes
import Derived.Laws.Slices
import Derived.WalkKit
import Derived.KernelRfl
import Derived.RowKit3
import Derived.Deep.LoopGhost
import Derived.Deep.QuietTactic
import Derived.BigQuiet
import Derived.WideLaws
import Derived.Deep.DeepCutAuto
import Derived.Deep.CutBlock
import Derived.Deep.RegionHeld3
import Derived.Laws.Rows
import Derived.Lib.AppendStr
import Derived.ArgAppend
import Derived.Laws.IdiomCopy
import Derived.OrdersHeld
import Derived.Laws.BitsLemmas
import Derived.RowKit
import Derived.Test.YtaijoghpfobdbaaDoorShelf
import Derived.BigCall
import Derived.Laws.Externs
import Derived.Lib.Bytealg
import Derived.Lib.Strings
import Derived.Lib.Slices
import Derived.Lib.Walk
import Derived.Lib.Builder
import Derived.Lib.UnsafeStr
import Derived.Lib.OthersKept
import Derived.Shelf.RegionOpenPlain
import Derived.Shelf.LaysM
import Derived.Shelf.Strconv.Itoa1
import Derived.Shelf.Strconv.Itoa2
import Derived.Lib.ItoaMem
import Derived.BigGuard
import Derived.Deep.DeepMust
import Derived.Lib.LazyBuf
import Derived.Test.YtaijoghpfobdbaaDoorBPrintPlaces0
section
namespace Go.Proofs.YtaijoghpfobdbaaDoor.Y
open Go.RowKit Go.Proofs.YtaijoghpfobdbaaDoorW.PrintWords Go.Proofs.YtaijoghpfobdbaaDoorW.PrintLast Go.Proofs.YtaijoghpfobdbaaDoorW.PrintMore
attribute [local go_sem] max2_int min2_int max_two min_two max_three min_three max_four min_four   -- for this text's walks alone
set_option linter.unusedVariables false
set_option linter.unusedSimpArgs false
def errW : Option Int → Value
  | none => .nilIface
  | some c => .iface 0 (.int .i64 c)
theorem errW_none : errW none = .nilIface := rfl
theorem errW_some (c : Int) : errW (some c) = .iface 0 (.int .i64 c) := rfl
end Go.Proofs.YtaijoghpfobdbaaDoor.Y
end
section
namespace Go.Proofs.YtaijoghpfobdbaaDoor.Y
open Go.RowKit Go.Proofs.YtaijoghpfobdbaaDoorW.PrintWords Go.Proofs.YtaijoghpfobdbaaDoorW.PrintLast Go.Proofs.YtaijoghpfobdbaaDoorW.PrintMore
attribute [local go_sem] max2_int min2_int max_two min_two max_three min_three max_four min_four   -- for this text's walks alone
set_option linter.unusedVariables false
set_option linter.unusedSimpArgs false
def lex_isDigit.f (a0 : Int) : Option (Bool) := if a0 ≥ 48 then (some (decide (a0 ≤ 57))) else (some false)
set_option maxHeartbeats 8000000 in
set_option maxRecDepth 100000 in
theorem lex_isDigit.calls (a0 : Int) (r : Bool) (w : World) (h : lex_isDigit.f a0 = some r) :
    Calls Tryd.prog 80 #[.int .u8 a0] w fun e w' => e = .returned (.bool r) ∧ Drawn0 w w' := by
  have H : (if a0 ≥ 48 then (some (decide (a0 ≤ 57))) else (some false)) = some r := h
  clear h
  by_cases c2 : a0 ≥ 48
  · rw [if_pos c2] at H
    have c2b0 : decide (48 ≤ a0) = true := decide_eq_true c2
    clear c2
    obtain rfl := Option.some.inj H
    go_enter Tryd.func80, Tryd.ntmps80
    go_wp2
    go_ret
    exact ⟨by first | rfl | (simp; done) | (simp [*]; done), by repeat (first | exact Drawn0.refl _ | apply Drawn0.step)⟩
  · rw [if_neg c2] at H
    have c2b0 : decide (48 ≤ a0) = false := decide_eq_false c2
    clear c2
    obtain rfl := Option.some.inj H
    go_enter Tryd.func80, Tryd.ntmps80
    go_wp2
    go_ret
    exact ⟨by first | rfl | (simp; done) | (simp [*]; done), by repeat (first | exact Drawn0.refl _ | apply Drawn0.step)⟩
def lex_isLetter.f (a0 : Int) : Option (Bool) := if a0 ≥ 97 then (if a0 ≤ 122 then (some true) else (if a0 ≥ 65 then (if a0 ≤ 90 then (some true) else (some (a0 == 95))) else (some (a0 == 95)))) else (if a0 ≥ 65 then (if a0 ≤ 90 then (some true) else (some (a0 == 95))) else (some (a0 == 95)))
set_option maxHeartbeats 8000000 in
set_option maxRecDepth 100000 in
theorem lex_isLetter.calls (a0 : Int) (r : Bool) (w : World) (h : lex_isLetter.f a0 = some r) :
    Calls Tryd.prog 77 #[.int .u8 a0] w fun e w' => e = .returned (.bool r) ∧ Drawn0 w w' := by
  have H : (if a0 ≥ 97 then (if a0 ≤ 122 then (some true) else (if a0 ≥ 65 then (if a0 ≤ 90 then (some true) else (some (a0 == 95))) else (some (a0 == 95)))) else (if a0 ≥ 65 then (if a0 ≤ 90 then (some true) else (some (a0 == 95))) else (some (a0 == 95)))) = some r := h
  clear h
  by_cases c2 : a0 ≥ 97
  · rw [if_pos c2] at H
    have c2b0 : decide (97 ≤ a0) = true := decide_eq_true c2
    clear c2
    by_cases c3 : a0 ≤ 122
    · rw [if_pos c3] at H
      have c3b0 : decide (a0 ≤ 122) = true := decide_eq_true c3
      clear c3
      obtain rfl := Option.some.inj H
      go_enter Tryd.func77, Tryd.ntmps77
      go_wp2
      go_ret
      exact ⟨by first | rfl | (simp; done) | (simp [*]; done), by repeat (first | exact Drawn0.refl _ | apply Drawn0.step)⟩
    · rw [if_neg c3] at H
      have c3b0 : decide (a0 ≤ 122) = false := decide_eq_false c3
      clear c3
      by_cases c4 : a0 ≥ 65
      · rw [if_pos c4] at H
        have c4b0 : decide (65 ≤ a0) = true := decide_eq_true c4
        clear c4
        by_cases c5 : a0 ≤ 90
        · rw [if_pos c5] at H
          have c5b0 : decide (a0 ≤ 90) = true := decide_eq_true c5
          clear c5
          obtain rfl := Option.some.inj H
          go_enter Tryd.func77, Tryd.ntmps77
          go_wp2
          go_ret
          exact ⟨by first | rfl | (simp; done) | (simp [*]; done), by repeat (first | exact Drawn0.refl _ | apply Drawn0.step)⟩
        · rw [if_neg c5] at H
          have c5b0 : decide (a0 ≤ 90) = false := decide_eq_false c5
          clear c5
          obtain rfl := Option.some.inj H
          go_enter Tryd.func77, Tryd.ntmps77
          go_wp2
          go_ret
          exact ⟨by first | rfl | (simp; done) | (simp [*]; done), by repeat (first | exact Drawn0.refl _ | apply Drawn0.step)⟩
      · rw [if_neg c4] at H
        have c4b0 : decide (65 ≤ a0) = false := decide_eq_false c4
        clear c4
        obtain rfl := Option.some.inj H
        go_enter Tryd.func77, Tryd.ntmps77
        go_wp2
        go_ret
        exact ⟨by first | rfl | (simp; done) | (simp [*]; done), by repeat (first | exact Drawn0.refl _ | apply Drawn0.step)⟩
  · rw [if_neg c2] at H
    have c2b0 : decide (97 ≤ a0) = false := decide_eq_false c2
    clear c2
    by_cases c6 : a0 ≥ 65
    · rw [if_pos c6] at H
      have c6b0 : decide (65 ≤ a0) = true := decide_eq_true c6
      clear c6
      by_cases c7 : a0 ≤ 90
      · rw [if_pos c7] at H
        have c7b0 : decide (a0 ≤ 90) = true := decide_eq_true c7
        clear c7
        obtain rfl := Option.some.inj H
        go_enter Tryd.func77, Tryd.ntmps77
        go_wp2
        go_ret
        exact ⟨by first | rfl | (simp; done) | (simp [*]; done), by repeat (first | exact Drawn0.refl _ | apply Drawn0.step)⟩
      · rw [if_neg c7] at H
        have c7b0 : decide (a0 ≤ 90) = false := decide_eq_false c7
        clear c7
        obtain rfl := Option.some.inj H
        go_enter Tryd.func77, Tryd.ntmps77
        go_wp2
        go_ret
        exact ⟨by first | rfl | (simp; done) | (simp [*]; done), by repeat (first | exact Drawn0.refl _ | apply Drawn0.step)⟩
    · rw [if_neg c6] at H
      have c6b0 : decide (65 ≤ a0) = false := decide_eq_false c6
      clear c6
      obtain rfl := Option.some.inj H
      go_enter Tryd.func77, Tryd.ntmps77
      go_wp2
      go_ret
      exact ⟨by first | rfl | (simp; done) | (simp [*]; done), by repeat (first | exact Drawn0.refl _ | apply Drawn0.step)⟩
end Go.Proofs.YtaijoghpfobdbaaDoor.Y
end
section
set_option linter.unusedVariables false
set_option linter.unusedSimpArgs false
namespace Go.Proofs.YtaijoghpfobdbaaDoor.G
open Go.RowKit Go.Proofs.YtaijoghpfobdbaaDoorW.PrintWords Go.Proofs.YtaijoghpfobdbaaDoorW.PrintLast Go.Proofs.YtaijoghpfobdbaaDoorW.PrintMore
theorem w64 {x : Int} (h0 : 0 ≤ x) (h1 : x ≤ 4611686018427387904) : wrap64 x = x := by unfold wrap64; omega
def dig (c : Int) : Bool := decide (48 ≤ c ∧ c ≤ 57)
def letr (c : Int) : Bool := decide ((97 ≤ c ∧ c ≤ 122) ∨ (65 ≤ c ∧ c ≤ 90) ∨ c = 95)
def okb (n : Nat) (c : Int) : Bool := if n = 80 then dig c else letr c || dig c
theorem dig_eq (c : Int) : Y.lex_isDigit.f c = some (dig c) := by
  unfold Y.lex_isDigit.f dig
  by_cases h : c ≥ 48
  · rw [if_pos h]; congr 2; simp; omega
  · rw [if_neg h]; congr 1; symm; apply decide_eq_false; omega
theorem letr_eq (c : Int) : Y.lex_isLetter.f c = some (letr c) := by
  unfold Y.lex_isLetter.f letr
  have e : ∀ x : Bool, (x = true ↔ ((97 ≤ c ∧ c ≤ 122) ∨ (65 ≤ c ∧ c ≤ 90) ∨ c = 95)) → some x = some (decide ((97 ≤ c ∧ c ≤ 122) ∨ (65 ≤ c ∧ c ≤ 90) ∨ c = 95)) := fun x h => by rw [Option.some.injEq, Bool.eq_iff_iff, decide_eq_true_iff]; exact h
  repeat' split
  all_goals refine e _ ?_
  all_goals first | (simp only [true_iff]; omega) | (rw [beq_iff_eq]; omega)
theorem dig_calls (c : Int) (w : World) : Calls Tryd.prog 80 #[.int .u8 c] w fun e w' => e = .returned (.bool (dig c)) ∧ Drawn0 w w' := Y.lex_isDigit.calls c _ w (dig_eq c)
theorem letr_calls (c : Int) (w : World) : Calls Tryd.prog 77 #[.int .u8 c] w fun e w' => e = .returned (.bool (letr c)) ∧ Drawn0 w w' := Y.lex_isLetter.calls c _ w (letr_eq c)
theorem drawn0_trans {a b c : World} (h : Drawn0 a b) (h2 : Drawn0 b c) : Drawn0 a c := by
  obtain ⟨⟨m, rfl⟩⟩ := h2
  exact h.step m
set_option maxHeartbeats 1000000 in
set_option maxRecDepth 100000 in
theorem ldName (c : Int) (w : World) : Calls Tryd.prog 102 #[.int .u8 c] w fun e w' => e = .returned (.bool (letr c || dig c)) ∧ Drawn0 w w' := by
  have HL := Aside0.mk (letr_calls c w)
  cases hl : letr c with
  | true =>
    rw [hl] at HL
    go_enter Tryd.func102, Tryd.ntmps102
    go_wp2_with (go_at_call 77; refine HL.out.mono ?_; rintro e w1 ⟨rfl, hd1⟩; have HD := Aside0.mk hd1; clear hd1)
    go_ret
    exact ⟨rfl, HD.out⟩
  | false =>
    rw [hl] at HL
    go_enter Tryd.func102, Tryd.ntmps102
    go_wp2_with (first
      | (go_at_call 77; refine HL.out.mono ?_; rintro e w1 ⟨rfl, hd1⟩; have HD := Aside0.mk hd1; have HG := Aside0.mk (dig_calls c w1); clear hd1)
      | (go_at_call 80; refine HG.out.mono ?_; rintro e w2 ⟨rfl, hd2⟩; have HD2 := Aside0.mk (drawn0_trans HD.out hd2); clear hd2))
    go_ret
    exact ⟨by simp, HD2.out⟩
set_option maxHeartbeats 1000000 in
set_option maxRecDepth 100000 in
theorem ldtoken (c : Int) (w : World) : Calls Tryd.prog 79 #[.int .u8 c] w fun e w' => e = .returned (.bool (letr c || dig c)) ∧ Drawn0 w w' := by
  have HL := Aside0.mk (letr_calls c w)
  cases hl : letr c with
  | true =>
    rw [hl] at HL
    go_enter Tryd.func79, Tryd.ntmps79
    go_wp2_with (go_at_call 77; refine HL.out.mono ?_; rintro e w1 ⟨rfl, hd1⟩; have HD := Aside0.mk hd1; clear hd1)
    go_ret
    exact ⟨rfl, HD.out⟩
  | false =>
    rw [hl] at HL
    go_enter Tryd.func79, Tryd.ntmps79
    go_wp2_with (first
      | (go_at_call 77; refine HL.out.mono ?_; rintro e w1 ⟨rfl, hd1⟩; have HD := Aside0.mk hd1; have HG := Aside0.mk (dig_calls c w1); clear hd1)
      | (go_at_call 80; refine HG.out.mono ?_; rintro e w2 ⟨rfl, hd2⟩; have HD2 := Aside0.mk (drawn0_trans HD.out hd2); clear hd2))
    go_ret
    exact ⟨by simp, HD2.out⟩
def tw (n : Nat) (l : List UInt8) : Nat := (l.takeWhile fun b => okb n (b.toNat : Int)).length
theorem tw_cons (n : Nat) (b : UInt8) (l : List UInt8) : tw n (b :: l) = if okb n (b.toNat : Int) = true then tw n l + 1 else 0 := by
  unfold tw; rw [List.takeWhile_cons]; split <;> simp
def left : Value → Nat
  | .int _ i => i.toNat
  | _ => 0
set_option maxHeartbeats 2000000 in
set_option maxRecDepth 100000 in
theorem runDig (s : ByteArray) (i0 : Nat) (w : World) (hi0 : i0 ≤ s.size) (hs : s.size ≤ 2305843009213693952) :
    Calls Tryd.prog 78 #[.string s, .int .i64 (i0 : Int), .func (.func 80) #[] #[]] w fun e w' => e = .returned (.int .i64 ((i0 + tw 80 (s.data.toList.drop i0) : Nat) : Int)) ∧ Drawn0 w w' := by
  have HS := Aside0.mk hs
  have HI := Aside0.mk hi0
  have hsz : s.size = s.data.toList.length := (data_length s).symm
  have HZ := Aside0.mk hsz
  clear hs hi0 hsz
  go_enter Tryd.func78, Tryd.ntmps78
  go_wp2
  go_loopw [1] (fun tv wr => ∃ i : Nat, tv = .int .i64 (i : Int) ∧ Aside0 (i ≤ s.size) ∧ Aside0 (i + tw 80 (s.data.toList.drop i) = i0 + tw 80 (s.data.toList.drop i0)) ∧ Aside0 (Drawn0 w wr)) (fun tv _ => s.size - left tv)
  case atStart => exact ⟨i0, rfl, HI, ⟨rfl⟩, ⟨Drawn0.refl _⟩⟩
  case round =>
    obtain ⟨i, rfl, hi, HX, HD⟩ := hrel
    by_cases c : i < s.size
    · have c1 : decide ((i : Int) < (s.size : Int)) = true := decide_eq_true (by omega)
      have c2 : decide (i < s.size) = true := decide_eq_true c
      have p1 : (0 ≤ (i : Int)) = True := eq_true (by omega)
      have p2 : ((i : Int) < (s.size : Int)) = True := eq_true (by omega)
      have hx := bt_at s (i : Int)
      obtain ⟨b, hb⟩ : ∃ b : Int, b = (((s[i]'c).toNat : Nat) : Int) := ⟨_, rfl⟩
      have HBD : Aside0 (s.data.toList.drop i = (s.data.toList[i]'(by rw [← HZ.out]; exact c)) :: s.data.toList.drop (i + 1)) := ⟨List.drop_eq_getElem_cons _⟩
      have HBB : Aside0 (b = (((s.data.toList[i]'(by rw [← HZ.out]; exact c)).toNat : Nat) : Int)) := ⟨by rw [hb]; rfl⟩
      have hb2 : (((s[i]'c).toNat : Nat) : Int) = b := hb.symm
      clear hb hx
      cases ho : okb 80 b with
      | true =>
        have HC : Aside0 (∀ w1, Calls Tryd.prog 80 #[.int .u8 b] w1 fun e w' => e = .returned (.bool true) ∧ Drawn0 w1 w') := ⟨fun w1 => by have := dig_calls b w1; rw [show dig b = okb 80 b from rfl, ho] at this; exact this⟩
        have HX2 : Aside0 ((i + 1) + tw 80 (s.data.toList.drop (i + 1)) = i0 + tw 80 (s.data.toList.drop i0)) := ⟨by
          rw [← HX.out, HBD.out, tw_cons, ← HBB.out, ho, if_pos rfl]; omega⟩
        have W1 : Aside0 (wrap64 ((i : Int) + 1) = ((i + 1 : Nat) : Int)) := ⟨by have := HS.out; rw [w64 (by omega) (by omega)]; rfl⟩
        have e1 : ∀ [Inhabited Unit], wrap64 ((i : Int) + 1) = ((i + 1 : Nat) : Int) := fun {_} => W1.out
        clear HBD HBB ho HX
        go_wp2_with (go_at_call 80; refine (HC.out _).mono ?_; rintro e w2 ⟨rfl, hd2⟩; have HD2 := Aside0.mk (drawn0_trans HD.out hd2); clear hd2 HD)
        refine ⟨⟨i + 1, by rw [W1.out], ⟨by omega⟩, HX2, HD2⟩, ?_⟩
        show s.size - (wrap64 ((i : Int) + 1)).toNat < s.size - ((i : Nat) : Int).toNat
        rw [W1.out, Int.toNat_natCast, Int.toNat_natCast]
        omega
      | false =>
        have HC : Aside0 (∀ w1, Calls Tryd.prog 80 #[.int .u8 b] w1 fun e w' => e = .returned (.bool false) ∧ Drawn0 w1 w') := ⟨fun w1 => by have := dig_calls b w1; rw [show dig b = okb 80 b from rfl, ho] at this; exact this⟩
        have HX2 : Aside0 (i = i0 + tw 80 (s.data.toList.drop i0)) := ⟨by
          rw [← HX.out, HBD.out, tw_cons, ← HBB.out, ho, if_neg (by decide)]; omega⟩
        clear HBD HBB ho HX
        go_wp2_with (go_at_call 80; refine (HC.out _).mono ?_; rintro e w2 ⟨rfl, hd2⟩; have HD2 := Aside0.mk (drawn0_trans HD.out hd2); clear hd2 HD)
        go_ret
        exact ⟨by rw [← HX2.out]; rfl, HD2.out⟩
    · have c1 : decide ((i : Int) < (s.size : Int)) = false := decide_eq_false (by omega)
      have c2 : decide (i < s.size) = false := decide_eq_false c
      have HX2 : Aside0 (i = i0 + tw 80 (s.data.toList.drop i0)) := ⟨by
        rw [← HX.out, List.drop_of_length_le (by rw [← HZ.out]; omega)]; rfl⟩
      clear HX
      go_wp2
      go_ret
      exact ⟨by rw [← HX2.out]; rfl, HD.out⟩
set_option maxHeartbeats 2000000 in
set_option maxRecDepth 100000 in
theorem runName (s : ByteArray) (i0 : Nat) (w : World) (hi0 : i0 ≤ s.size) (hs : s.size ≤ 2305843009213693952) :
    Calls Tryd.prog 78 #[.string s, .int .i64 (i0 : Int), .func (.func 102) #[] #[]] w fun e w' => e = .returned (.int .i64 ((i0 + tw 102 (s.data.toList.drop i0) : Nat) : Int)) ∧ Drawn0 w w' := by
  have HS := Aside0.mk hs
  have HI := Aside0.mk hi0
  have hsz : s.size = s.data.toList.length := (data_length s).symm
  have HZ := Aside0.mk hsz
  clear hs hi0 hsz
  go_enter Tryd.func78, Tryd.ntmps78
  go_wp2
  go_loopw [1] (fun tv wr => ∃ i : Nat, tv = .int .i64 (i : Int) ∧ Aside0 (i ≤ s.size) ∧ Aside0 (i + tw 102 (s.data.toList.drop i) = i0 + tw 102 (s.data.toList.drop i0)) ∧ Aside0 (Drawn0 w wr)) (fun tv _ => s.size - left tv)
  case atStart => exact ⟨i0, rfl, HI, ⟨rfl⟩, ⟨Drawn0.refl _⟩⟩
  case round =>
    obtain ⟨i, rfl, hi, HX, HD⟩ := hrel
    by_cases c : i < s.size
    · have c1 : decide ((i : Int) < (s.size : Int)) = true := decide_eq_true (by omega)
      have c2 : decide (i < s.size) = true := decide_eq_true c
      have p1 : (0 ≤ (i : Int)) = True := eq_true (by omega)
      have p2 : ((i : Int) < (s.size : Int)) = True := eq_true (by omega)
      have hx := bt_at s (i : Int)
      obtain ⟨b, hb⟩ : ∃ b : Int, b = (((s[i]'c).toNat : Nat) : Int) := ⟨_, rfl⟩
      have HBD : Aside0 (s.data.toList.drop i = (s.data.toList[i]'(by rw [← HZ.out]; exact c)) :: s.data.toList.drop (i + 1)) := ⟨List.drop_eq_getElem_cons _⟩
      have HBB : Aside0 (b = (((s.data.toList[i]'(by rw [← HZ.out]; exact c)).toNat : Nat) : Int)) := ⟨by rw [hb]; rfl⟩
      have hb2 : (((s[i]'c).toNat : Nat) : Int) = b := hb.symm
      clear hb hx
      cases ho : okb 102 b with
      | true =>
        have HC : Aside0 (∀ w1, Calls Tryd.prog 102 #[.int .u8 b] w1 fun e w' => e = .returned (.bool true) ∧ Drawn0 w1 w') := ⟨fun w1 => by have := ldName b w1; rw [show (letr b || dig b) = okb 102 b from rfl, ho] at this; exact this⟩
        have HX2 : Aside0 ((i + 1) + tw 102 (s.data.toList.drop (i + 1)) = i0 + tw 102 (s.data.toList.drop i0)) := ⟨by
          rw [← HX.out, HBD.out, tw_cons, ← HBB.out, ho, if_pos rfl]; omega⟩
        have W1 : Aside0 (wrap64 ((i : Int) + 1) = ((i + 1 : Nat) : Int)) := ⟨by have := HS.out; rw [w64 (by omega) (by omega)]; rfl⟩
        have e1 : ∀ [Inhabited Unit], wrap64 ((i : Int) + 1) = ((i + 1 : Nat) : Int) := fun {_} => W1.out
        clear HBD HBB ho HX
        go_wp2_with (go_at_call 102; refine (HC.out _).mono ?_; rintro e w2 ⟨rfl, hd2⟩; have HD2 := Aside0.mk (drawn0_trans HD.out hd2); clear hd2 HD)
        refine ⟨⟨i + 1, by rw [W1.out], ⟨by omega⟩, HX2, HD2⟩, ?_⟩
        show s.size - (wrap64 ((i : Int) + 1)).toNat < s.size - ((i : Nat) : Int).toNat
        rw [W1.out, Int.toNat_natCast, Int.toNat_natCast]
        omega
      | false =>
        have HC : Aside0 (∀ w1, Calls Tryd.prog 102 #[.int .u8 b] w1 fun e w' => e = .returned (.bool false) ∧ Drawn0 w1 w') := ⟨fun w1 => by have := ldName b w1; rw [show (letr b || dig b) = okb 102 b from rfl, ho] at this; exact this⟩
        have HX2 : Aside0 (i = i0 + tw 102 (s.data.toList.drop i0)) := ⟨by
          rw [← HX.out, HBD.out, tw_cons, ← HBB.out, ho, if_neg (by decide)]; omega⟩
        clear HBD HBB ho HX
        go_wp2_with (go_at_call 102; refine (HC.out _).mono ?_; rintro e w2 ⟨rfl, hd2⟩; have HD2 := Aside0.mk (drawn0_trans HD.out hd2); clear hd2 HD)
        go_ret
        exact ⟨by rw [← HX2.out]; rfl, HD2.out⟩
    · have c1 : decide ((i : Int) < (s.size : Int)) = false := decide_eq_false (by omega)
      have c2 : decide (i < s.size) = false := decide_eq_false c
      have HX2 : Aside0 (i = i0 + tw 102 (s.data.toList.drop i0)) := ⟨by
        rw [← HX.out, List.drop_of_length_le (by rw [← HZ.out]; omega)]; rfl⟩
      clear HX
      go_wp2
      go_ret
      exact ⟨by rw [← HX2.out]; rfl, HD.out⟩
set_option maxHeartbeats 2000000 in
set_option maxRecDepth 100000 in
theorem runToken (s : ByteArray) (i0 : Nat) (w : World) (hi0 : i0 ≤ s.size) (hs : s.size ≤ 2305843009213693952) :
    Calls Tryd.prog 78 #[.string s, .int .i64 (i0 : Int), .func (.func 79) #[] #[]] w fun e w' => e = .returned (.int .i64 ((i0 + tw 79 (s.data.toList.drop i0) : Nat) : Int)) ∧ Drawn0 w w' := by
  have HS := Aside0.mk hs
  have HI := Aside0.mk hi0
  have hsz : s.size = s.data.toList.length := (data_length s).symm
  have HZ := Aside0.mk hsz
  clear hs hi0 hsz
  go_enter Tryd.func78, Tryd.ntmps78
  go_wp2
  go_loopw [1] (fun tv wr => ∃ i : Nat, tv = .int .i64 (i : Int) ∧ Aside0 (i ≤ s.size) ∧ Aside0 (i + tw 79 (s.data.toList.drop i) = i0 + tw 79 (s.data.toList.drop i0)) ∧ Aside0 (Drawn0 w wr)) (fun tv _ => s.size - left tv)
  case atStart => exact ⟨i0, rfl, HI, ⟨rfl⟩, ⟨Drawn0.refl _⟩⟩
  case round =>
    obtain ⟨i, rfl, hi, HX, HD⟩ := hrel
    by_cases c : i < s.size
    · have c1 : decide ((i : Int) < (s.size : Int)) = true := decide_eq_true (by omega)
      have c2 : decide (i < s.size) = true := decide_eq_true c
      have p1 : (0 ≤ (i : Int)) = True := eq_true (by omega)
      have p2 : ((i : Int) < (s.size : Int)) = True := eq_true (by omega)
      have hx := bt_at s (i : Int)
      obtain ⟨b, hb⟩ : ∃ b : Int, b = (((s[i]'c).toNat : Nat) : Int) := ⟨_, rfl⟩
      have HBD : Aside0 (s.data.toList.drop i = (s.data.toList[i]'(by rw [← HZ.out]; exact c)) :: s.data.toList.drop (i + 1)) := ⟨List.drop_eq_getElem_cons _⟩
      have HBB : Aside0 (b = (((s.data.toList[i]'(by rw [← HZ.out]; exact c)).toNat : Nat) : Int)) := ⟨by rw [hb]; rfl⟩
      have hb2 : (((s[i]'c).toNat : Nat) : Int) = b := hb.symm
      clear hb hx
      cases ho : okb 79 b with
      | true =>
        have HC : Aside0 (∀ w1, Calls Tryd.prog 79 #[.int .u8 b] w1 fun e w' => e = .returned (.bool true) ∧ Drawn0 w1 w') := ⟨fun w1 => by have := ldtoken b w1; rw [show (letr b || dig b) = okb 79 b from rfl, ho] at this; exact this⟩
        have HX2 : Aside0 ((i + 1) + tw 79 (s.data.toList.drop (i + 1)) = i0 + tw 79 (s.data.toList.drop i0)) := ⟨by
          rw [← HX.out, HBD.out, tw_cons, ← HBB.out, ho, if_pos rfl]; omega⟩
        have W1 : Aside0 (wrap64 ((i : Int) + 1) = ((i + 1 : Nat) : Int)) := ⟨by have := HS.out; rw [w64 (by omega) (by omega)]; rfl⟩
        have e1 : ∀ [Inhabited Unit], wrap64 ((i : Int) + 1) = ((i + 1 : Nat) : Int) := fun {_} => W1.out
        clear HBD HBB ho HX
        go_wp2_with (go_at_call 79; refine (HC.out _).mono ?_; rintro e w2 ⟨rfl, hd2⟩; have HD2 := Aside0.mk (drawn0_trans HD.out hd2); clear hd2 HD)
        refine ⟨⟨i + 1, by rw [W1.out], ⟨by omega⟩, HX2, HD2⟩, ?_⟩
        show s.size - (wrap64 ((i : Int) + 1)).toNat < s.size - ((i : Nat) : Int).toNat
        rw [W1.out, Int.toNat_natCast, Int.toNat_natCast]
        omega
      | false =>
        have HC : Aside0 (∀ w1, Calls Tryd.prog 79 #[.int .u8 b] w1 fun e w' => e = .returned (.bool false) ∧ Drawn0 w1 w') := ⟨fun w1 => by have := ldtoken b w1; rw [show (letr b || dig b) = okb 79 b from rfl, ho] at this; exact this⟩
        have HX2 : Aside0 (i = i0 + tw 79 (s.data.toList.drop i0)) := ⟨by
          rw [← HX.out, HBD.out, tw_cons, ← HBB.out, ho, if_neg (by decide)]; omega⟩
        clear HBD HBB ho HX
        go_wp2_with (go_at_call 79; refine (HC.out _).mono ?_; rintro e w2 ⟨rfl, hd2⟩; have HD2 := Aside0.mk (drawn0_trans HD.out hd2); clear hd2 HD)
        go_ret
        exact ⟨by rw [← HX2.out]; rfl, HD2.out⟩
    · have c1 : decide ((i : Int) < (s.size : Int)) = false := decide_eq_false (by omega)
      have c2 : decide (i < s.size) = false := decide_eq_false c
      have HX2 : Aside0 (i = i0 + tw 79 (s.data.toList.drop i0)) := ⟨by
        rw [← HX.out, List.drop_of_length_le (by rw [← HZ.out]; omega)]; rfl⟩
      clear HX
      go_wp2
      go_ret
      exact ⟨by rw [← HX2.out]; rfl, HD.out⟩
end Go.Proofs.YtaijoghpfobdbaaDoor.G
end
section
set_option linter.unusedVariables false
set_option linter.unusedSimpArgs false
namespace Go.Proofs.YtaijoghpfobdbaaDoor.G
open Go.RowKit Go.Proofs.YtaijoghpfobdbaaDoorW.PrintWords Go.Proofs.YtaijoghpfobdbaaDoorW.PrintLast Go.Proofs.YtaijoghpfobdbaaDoorW.PrintMore
end Go.Proofs.YtaijoghpfobdbaaDoor.G
end
section
namespace Go.Proofs.YtaijoghpfobdbaaDoor.X
open Go.RowKit Go.Proofs.YtaijoghpfobdbaaDoorW.PrintWords Go.Proofs.YtaijoghpfobdbaaDoorW.PrintLast Go.Proofs.YtaijoghpfobdbaaDoorW.PrintMore
attribute [local go_sem] max2_int min2_int max_two min_two max_three min_three max_four min_four   -- for this text's walks alone
set_option linter.unusedVariables false
set_option linter.unusedSimpArgs false
def errW : Option Int → Value
  | none => .nilIface
  | some c => .iface 0 (.int .i64 c)
theorem errW_none : errW none = .nilIface := rfl
theorem errW_some (c : Int) : errW (some c) = .iface 0 (.int .i64 c) := rfl
theorem info3 : (Tryd.prog.info? 3).map (fun i => (i.zero, i.size, i.bytes)) = some (some (.int .i64 0), 1, 8) := by kernel_rfl
theorem info5 : (Tryd.prog.info? 5).map (fun i => (i.zero, i.size, i.bytes)) = some (some (.int .u8 0), 1, 1) := by kernel_rfl
structure S46 where
  f0 : Int
  f1 : Int
  f2 : Int
  f3 : ByteArray
  f4 : Int
def z46 : S46 := ⟨(0 : Int), (0 : Int), (0 : Int), (⟨#[]⟩ : ByteArray), (0 : Int)⟩
def k46 : Kd S46 := Kd.iso (Kd.pair (Kd.int .i64) (Kd.pair (Kd.int .i64) (Kd.pair (Kd.int .u64) (Kd.pair Kd.string (Kd.int .i64))))) (fun x : S46 => (x.f0, x.f1, x.f2, x.f3, x.f4))
theorem k46_open {w : World} {x : S46} {cs : List Value} (h : k46.K w x cs) : cs = [.int .i64 x.f0, .int .i64 x.f1, .int .u64 x.f2, .string x.f3, .int .i64 x.f4] := by
  obtain ⟨_, _, rfl, rfl, ⟨_, _, rfl, rfl, ⟨_, _, rfl, rfl, ⟨_, _, rfl, rfl, rfl⟩⟩⟩⟩ := h
  exact rfl
theorem k46_openM {w : World} {base : Nat} {ok : Nat → Prop} {x : S46} {cs : List Value} (h : k46.M w base ok x cs) : cs = [.int .i64 x.f0, .int .i64 x.f1, .int .u64 x.f2, .string x.f3, .int .i64 x.f4] := by
  obtain ⟨_, _, rfl, rfl, ⟨_, _, rfl, rfl, ⟨_, _, rfl, rfl, ⟨_, _, rfl, rfl, rfl⟩⟩⟩⟩ := h
  exact rfl
theorem k46_mk (w : World) (x : S46)  : k46.K w x [.int .i64 x.f0, .int .i64 x.f1, .int .u64 x.f2, .string x.f3, .int .i64 x.f4] := ⟨[.int .i64 x.f0], [.int .i64 x.f1, .int .u64 x.f2, .string x.f3, .int .i64 x.f4], rfl, rfl, ⟨[.int .i64 x.f1], [.int .u64 x.f2, .string x.f3, .int .i64 x.f4], rfl, rfl, ⟨[.int .u64 x.f2], [.string x.f3, .int .i64 x.f4], rfl, rfl, ⟨[.string x.f3], [.int .i64 x.f4], rfl, rfl, rfl⟩⟩⟩⟩
theorem k46_mkM (w : World) (base : Nat) (ok : Nat → Prop) (x : S46)  : k46.M w base ok x [.int .i64 x.f0, .int .i64 x.f1, .int .u64 x.f2, .string x.f3, .int .i64 x.f4] := ⟨[.int .i64 x.f0], [.int .i64 x.f1, .int .u64 x.f2, .string x.f3, .int .i64 x.f4], rfl, rfl, ⟨[.int .i64 x.f1], [.int .u64 x.f2, .string x.f3, .int .i64 x.f4], rfl, rfl, ⟨[.int .u64 x.f2], [.string x.f3, .int .i64 x.f4], rfl, rfl, ⟨[.string x.f3], [.int .i64 x.f4], rfl, rfl, rfl⟩⟩⟩⟩
def rd_T46 (xs : List S46) (i : Int) : S46 := xs.getD i.toNat z46
theorem at_T46 {w : World} {A : Option Addr} {n : Nat} {xs : List S46} (h : Kd.C k46 w A n xs) (i : Int) (h0 : 0 ≤ i) (h1 : i < n) : ∃ ad , A = some ad ∧ w.cell? (ad.add (i.toNat * 5)) = some (.int .i64 (rd_T46 xs i).f0) ∧ w.cell? ⟨(ad.add (i.toNat * 5)).block, (ad.add (i.toNat * 5)).off + 1, none⟩ = some (.int .i64 (rd_T46 xs i).f1) ∧ w.cell? ⟨(ad.add (i.toNat * 5)).block, (ad.add (i.toNat * 5)).off + 2, none⟩ = some (.int .u64 (rd_T46 xs i).f2) ∧ w.cell? ⟨(ad.add (i.toNat * 5)).block, (ad.add (i.toNat * 5)).off + 3, none⟩ = some (.string (rd_T46 xs i).f3) ∧ w.cell? ⟨(ad.add (i.toNat * 5)).block, (ad.add (i.toNat * 5)).off + 4, none⟩ = some (.int .i64 (rd_T46 xs i).f4) := by
  obtain ⟨ad, c, e, _, hK, hc0⟩ := Kd.C_get h z46 i h0 h1
  have hc : ∀ j u, c[j]? = some u → w.cell? (ad.add (i.toNat * 5 + j)) = some u := hc0
  obtain rfl := k46_open hK
  exact ⟨ad, e, hc 0 _ rfl, by rw [← add_field _ _ 1 (by omega)]; exact hc 1 _ rfl, by rw [← add_field _ _ 2 (by omega)]; exact hc 2 _ rfl, by rw [← add_field _ _ 3 (by omega)]; exact hc 3 _ rfl, by rw [← add_field _ _ 4 (by omega)]; exact hc 4 _ rfl⟩
end Go.Proofs.YtaijoghpfobdbaaDoor.X
end
section
set_option linter.unusedVariables false
set_option linter.unusedSimpArgs false
namespace Go.Proofs.YtaijoghpfobdbaaDoor.P
open Go.Proofs.YtaijoghpfobdbaaDoor.X
abbrev Nd := S46
inductive Tr where
  | mk (n : Nd) (ks : List Tr)
def Tr.n : Tr → Nd
  | .mk n _ => n
def Tr.ks : Tr → List Tr
  | .mk _ ks => ks
abbrev M : Nat := 1048576
def put (bs p : List UInt8) : List UInt8 := if bs.length ≤ M then bs ++ p else bs
def Wrote (bs s r : List UInt8) : Prop := ((bs ++ s).length ≤ M ∧ r = bs ++ s) ∨ (M < (bs ++ s).length ∧ M < r.length)
theorem Wrote.refl (bs : List UInt8) : Wrote bs [] bs := by
  unfold Wrote
  rw [List.append_nil]
  by_cases h : bs.length ≤ M
  · exact .inl ⟨h, rfl⟩
  · exact .inr ⟨by omega, by omega⟩
theorem Wrote.put (bs p : List UInt8) : Wrote bs p (P.put bs p) := by
  unfold Wrote P.put
  by_cases h : bs.length ≤ M
  · rw [if_pos h]
    by_cases h2 : (bs ++ p).length ≤ M
    · exact .inl ⟨h2, rfl⟩
    · exact .inr ⟨by omega, by omega⟩
  · rw [if_neg h]
    exact .inr ⟨by rw [List.length_append]; omega, by omega⟩
theorem Wrote.trans {a s b t c : List UInt8} (h : Wrote a s b) (k : Wrote b t c) : Wrote a (s ++ t) c := by
  unfold Wrote at *
  rw [← List.append_assoc]
  rcases h with ⟨h1, rfl⟩ | ⟨h1, h2⟩
  · exact k
  · refine .inr ⟨by rw [List.length_append]; omega, ?_⟩
    rcases k with ⟨k1, rfl⟩ | ⟨_, k2⟩
    · rw [List.length_append]; omega
    · exact k2
theorem Wrote.over {a s r : List UInt8} (h : M < a.length) (k : M < r.length) : Wrote a s r := .inr ⟨by rw [List.length_append]; omega, k⟩
theorem Wrote.long {a s s' r : List UInt8} (h : Wrote a s r) (h1 : M < s.length) (h2 : M < s'.length) : Wrote a s' r := by
  rcases h with ⟨h, _⟩ | ⟨_, h⟩
  · rw [List.length_append] at h; omega
  · exact .inr ⟨by rw [List.length_append]; omega, h⟩
def puts (bs : List UInt8) (ps : List ByteArray) : List UInt8 := ps.foldl (fun b p => put b p.data.toList) bs
theorem Wrote.puts (bs : List UInt8) : ∀ ps : List ByteArray, Wrote bs (ps.flatMap fun p => p.data.toList) (P.puts bs ps)
  | [] => Wrote.refl bs
  | p :: ps => by
    rw [List.flatMap_cons]
    exact (Wrote.put bs p.data.toList).trans (Wrote.puts _ ps)
def fin (r : List UInt8) : ByteArray × Int := if M < r.length then (⟨#[]⟩, 2) else (⟨r.toArray⟩, 0)
end Go.Proofs.YtaijoghpfobdbaaDoor.P
end
section
namespace Go.Proofs.YtaijoghpfobdbaaDoor.X
open Go.RowKit Go.Proofs.YtaijoghpfobdbaaDoorW.PrintWords Go.Proofs.YtaijoghpfobdbaaDoorW.PrintLast Go.Proofs.YtaijoghpfobdbaaDoorW.PrintMore
attribute [local go_sem] max2_int min2_int max_two min_two max_three min_three max_four min_four   -- for this text's walks alone
set_option linter.unusedVariables false
set_option linter.unusedSimpArgs false
mutual
def print_kids.j0 : Nat → Bool → Int → Int → Int → ByteArray → Int → Option (Int × Bool)
  | 0, _, _, _, _, _, _ => none
  | k + 1, x31, x272000, x272001, x272002, x272003, x272004 => if x31 = true then (some (0, false)) else (if x272000 = 1 then (print_kids.j1 k x272000 (x272000 == 1) x272000 x272001 x272002 x272003 x272004) else (if x272000 = 2 then (print_kids.j1 k x272000 (x272000 == 2) x272000 x272001 x272002 x272003 x272004) else (if x272000 = 3 then (print_kids.j1 k x272000 (x272000 == 3) x272000 x272001 x272002 x272003 x272004) else (print_kids.j1 k x272000 (x272000 == 4) x272000 x272001 x272002 x272003 x272004))))
def print_kids.j1 : Nat → Int → Bool → Int → Int → Int → ByteArray → Int → Option (Int × Bool)
  | 0, _, _, _, _, _, _, _ => none
  | k + 1, x33, x34, x272000, x272001, x272002, x272003, x272004 => if x34 = true then (some (0, true)) else (if x33 = 5 then (print_kids.j2 k x33 (x33 == 5) x272000 x272001 x272002 x272003 x272004) else (if x33 = 11 then (print_kids.j2 k x33 (x33 == 11) x272000 x272001 x272002 x272003 x272004) else (print_kids.j2 k x33 (x33 == 12) x272000 x272001 x272002 x272003 x272004)))
def print_kids.j2 : Nat → Int → Bool → Int → Int → Int → ByteArray → Int → Option (Int × Bool)
  | 0, _, _, _, _, _, _, _ => none
  | k + 1, x33, x39, x272000, x272001, x272002, x272003, x272004 => if x39 = true then (some (1, true)) else (if x33 = 6 then (print_kids.j3 k x33 (x33 == 6) x272000 x272001 x272002 x272003 x272004) else (if x33 = 7 then (print_kids.j3 k x33 (x33 == 7) x272000 x272001 x272002 x272003 x272004) else (if x33 = 8 then (print_kids.j3 k x33 (x33 == 8) x272000 x272001 x272002 x272003 x272004) else (print_kids.j3 k x33 (x33 == 10) x272000 x272001 x272002 x272003 x272004))))
def print_kids.j3 : Nat → Int → Bool → Int → Int → Int → ByteArray → Int → Option (Int × Bool)
  | 0, _, _, _, _, _, _, _ => none
  | k + 1, x33, x43, x272000, x272001, x272002, x272003, x272004 => if x43 = true then (some (2, true)) else (if x33 = 9 then (some (x272001, decide (x272001 ≥ 1))) else (some (0, false)))
end
def print_kids.f (k : Nat) (a0_0 : Int) (a0_1 : Int) (a0_2 : Int) (a0_3 : ByteArray) (a0_4 : Int) : Option (Int × Bool) := if a0_1 = 0 then (if a0_2 = 0 then (if a0_3.toList = ([] : List UInt8) then (print_kids.j0 k false a0_0 a0_1 a0_2 a0_3 a0_4) else (print_kids.j0 k (a0_0 != 2) a0_0 a0_1 a0_2 a0_3 a0_4)) else (if a0_0 = 1 then (if a0_3.toList = ([] : List UInt8) then (print_kids.j0 k false a0_0 a0_1 a0_2 a0_3 a0_4) else (print_kids.j0 k (a0_0 != 2) a0_0 a0_1 a0_2 a0_3 a0_4)) else (print_kids.j0 k true a0_0 a0_1 a0_2 a0_3 a0_4))) else (if a0_0 = 9 then (if a0_2 = 0 then (if a0_3.toList = ([] : List UInt8) then (print_kids.j0 k false a0_0 a0_1 a0_2 a0_3 a0_4) else (print_kids.j0 k (a0_0 != 2) a0_0 a0_1 a0_2 a0_3 a0_4)) else (if a0_0 = 1 then (if a0_3.toList = ([] : List UInt8) then (print_kids.j0 k false a0_0 a0_1 a0_2 a0_3 a0_4) else (print_kids.j0 k (a0_0 != 2) a0_0 a0_1 a0_2 a0_3 a0_4)) else (print_kids.j0 k true a0_0 a0_1 a0_2 a0_3 a0_4))) else (print_kids.j0 k true a0_0 a0_1 a0_2 a0_3 a0_4))
set_option maxHeartbeats 8000000 in
set_option maxRecDepth 100000 in
theorem print_kids.calls (k : Nat) (a0_0 : Int) (a0_1 : Int) (a0_2 : Int) (a0_3 : ByteArray) (a0_4 : Int) (r1 : Int) (r2 : Bool) (w : World) (h : print_kids.f k a0_0 a0_1 a0_2 a0_3 a0_4 = some (r1, r2)) :
    Calls Tryd.prog 61 #[.agg #[.int .i64 a0_0, .int .i64 a0_1, .int .u64 a0_2, .string a0_3, .int .i64 a0_4]] w fun e w' => e = .returned (.tuple #[.int .i64 r1, .bool r2]) ∧ Below w.heap.size w w' := by
  have hu46 := Tryd.underlying46
  have HB := Aside0.mk (Below.refl w.heap.size w)
  have H : (if a0_1 = 0 then (if a0_2 = 0 then (if a0_3.toList = ([] : List UInt8) then (print_kids.j0 k false a0_0 a0_1 a0_2 a0_3 a0_4) else (print_kids.j0 k (a0_0 != 2) a0_0 a0_1 a0_2 a0_3 a0_4)) else (if a0_0 = 1 then (if a0_3.toList = ([] : List UInt8) then (print_kids.j0 k false a0_0 a0_1 a0_2 a0_3 a0_4) else (print_kids.j0 k (a0_0 != 2) a0_0 a0_1 a0_2 a0_3 a0_4)) else (print_kids.j0 k true a0_0 a0_1 a0_2 a0_3 a0_4))) else (if a0_0 = 9 then (if a0_2 = 0 then (if a0_3.toList = ([] : List UInt8) then (print_kids.j0 k false a0_0 a0_1 a0_2 a0_3 a0_4) else (print_kids.j0 k (a0_0 != 2) a0_0 a0_1 a0_2 a0_3 a0_4)) else (if a0_0 = 1 then (if a0_3.toList = ([] : List UInt8) then (print_kids.j0 k false a0_0 a0_1 a0_2 a0_3 a0_4) else (print_kids.j0 k (a0_0 != 2) a0_0 a0_1 a0_2 a0_3 a0_4)) else (print_kids.j0 k true a0_0 a0_1 a0_2 a0_3 a0_4))) else (print_kids.j0 k true a0_0 a0_1 a0_2 a0_3 a0_4))) = some (r1, r2) := h
  clear h
  have HC2 := Aside0.mk H
  clear H
  go_enter Tryd.func61, Tryd.ntmps61
  go_upto_region 1 with (first | ((with_reducible refine gate_dst (N := 1) rfl ?_); refine box_event ?hg (N := 1) ?hd (cs := #[.int .i64 a0_0, .int .i64 a0_1, .int .u64 a0_2, .string a0_3, .int .i64 a0_4]) (t := 46) ?hr ?_; (case hd => rfl); (case hg => rfl); (case hr => first | (go_simp; done) | (go_simp; rfl)); intro gb271 hg w3 hbox hb; have n0_ := Aside0.mk (below_step (by repeat (first | (with_reducible first | exact HB.out | apply below_alloc | apply pw_below_drewN | apply below_drew1) | exact HB.out)) hb); have n1_ := Aside0.mk (hbox); have n2_ := Aside0.mk ((by rw [hg]; exact (below_size (by repeat (first | (with_reducible first | exact HB.out | apply below_alloc | apply pw_below_drewN | apply below_drew1) | exact HB.out))) : w.heap.size ≤ gb271)); have n3_ := Aside0.mk ((by rw [hg]; exact (below_size (by repeat (first | (with_reducible first | exact HB.out | apply below_alloc | apply pw_below_drewN | apply below_drew1) | exact HB.out))) : w.heap.size ≤ gb271)); clear HB; have HB := n0_; have BK271 := n1_; have GW271 := n2_; have GE271 := n3_; clear n0_ n1_ n2_ n3_; clear hb hbox hg))
  repeat (go_quiet (first | ((with_reducible refine gate_dst (N := 1) rfl ?_); refine box_event ?hg (N := 1) ?hd (cs := #[.int .i64 a0_0, .int .i64 a0_1, .int .u64 a0_2, .string a0_3, .int .i64 a0_4]) (t := 46) ?hr ?_; (case hd => rfl); (case hg => rfl); (case hr => first | (go_simp; done) | (go_simp; rfl)); intro gb271 hg w3 hbox hb; have n0_ := Aside0.mk (below_step (by repeat (first | (with_reducible first | exact HB.out | apply below_alloc | apply pw_below_drewN | apply below_drew1) | exact HB.out)) hb); have n1_ := Aside0.mk (hbox); have n2_ := Aside0.mk ((by rw [hg]; exact (below_size (by repeat (first | (with_reducible first | exact HB.out | apply below_alloc | apply pw_below_drewN | apply below_drew1) | exact HB.out))) : w.heap.size ≤ gb271)); have n3_ := Aside0.mk ((by rw [hg]; exact (below_size (by repeat (first | (with_reducible first | exact HB.out | apply below_alloc | apply pw_below_drewN | apply below_drew1) | exact HB.out))) : w.heap.size ≤ gb271)); clear HB; have HB := n0_; have BK271 := n1_; have GW271 := n2_; have GE271 := n3_; clear n0_ n1_ n2_ n3_; clear hb hbox hg)); go_upto_region 1 with (first | ((with_reducible refine gate_dst (N := 1) rfl ?_); refine box_event ?hg (N := 1) ?hd (cs := #[.int .i64 a0_0, .int .i64 a0_1, .int .u64 a0_2, .string a0_3, .int .i64 a0_4]) (t := 46) ?hr ?_; (case hd => rfl); (case hg => rfl); (case hr => first | (go_simp; done) | (go_simp; rfl)); intro gb271 hg w3 hbox hb; have n0_ := Aside0.mk (below_step (by repeat (first | (with_reducible first | exact HB.out | apply below_alloc | apply pw_below_drewN | apply below_drew1) | exact HB.out)) hb); have n1_ := Aside0.mk (hbox); have n2_ := Aside0.mk ((by rw [hg]; exact (below_size (by repeat (first | (with_reducible first | exact HB.out | apply below_alloc | apply pw_below_drewN | apply below_drew1) | exact HB.out))) : w.heap.size ≤ gb271)); have n3_ := Aside0.mk ((by rw [hg]; exact (below_size (by repeat (first | (with_reducible first | exact HB.out | apply below_alloc | apply pw_below_drewN | apply below_drew1) | exact HB.out))) : w.heap.size ≤ gb271)); clear HB; have HB := n0_; have BK271 := n1_; have GW271 := n2_; have GE271 := n3_; clear n0_ n1_ n2_ n3_; clear hb hbox hg)))
  (try simp only [Act.put, List.setIfInBounds_toArray, List.set_cons_zero, List.set_cons_succ])
  go_cut [31] (fun v31 wc => ∃ (kq : Nat) (x31_1 : Bool), v31 = .bool x31_1 ∧ Aside0 (print_kids.j0 kq x31_1 a0_0 a0_1 a0_2 a0_3 a0_4 = some (r1, r2)) ∧ Aside0 (kq ≤ k) ∧ Aside0 (wc.heap[gb271]? = some (.cells #[.int .i64 a0_0, .int .i64 a0_1, .int .u64 a0_2, .string a0_3, .int .i64 a0_4] 46 (0, 0))) ∧ Aside0 (Below w.heap.size w wc))
  case first =>
    have H := HC2.out
    clear HC2
    by_cases c4 : a0_1 = 0
    · rw [if_pos c4] at H
      have c4b0 : (a0_1 == 0) = true := beq_iff_eq.mpr c4
      have c4b1 : (a0_1 != 0) = false := bne_eq_false_iff_eq.mpr c4
      clear c4
      (first | rw [c4b0] | (simp only [i64_w, i32_w]; rw [c4b0]) | skip)
      by_cases c5 : a0_2 = 0
      · rw [if_pos c5] at H
        have c5b0 : (a0_2 == 0) = true := beq_iff_eq.mpr c5
        have c5b1 : (a0_2 != 0) = false := bne_eq_false_iff_eq.mpr c5
        clear c5
        by_cases c6 : a0_3.toList = ([] : List UInt8)
        · rw [if_pos c6] at H
          have c6b0 : (a0_3.toList == ([] : List UInt8)) = true := beq_iff_eq.mpr c6
          have c6b1 : (a0_3.toList != ([] : List UInt8)) = false := bne_eq_false_iff_eq.mpr c6
          clear c6
          have H' := Aside0.mk H
          clear H
          have hcz7_0 : w3.cell? ⟨gb271, 0, none⟩ = some (.int .i64 a0_0) := (blk_cell BK271.out 0).trans rfl
          have hcz7_1 : w3.cell? ⟨gb271, 1, none⟩ = some (.int .i64 a0_1) := (blk_cell BK271.out 1).trans rfl
          have hcz7_2 : w3.cell? ⟨gb271, 2, none⟩ = some (.int .u64 a0_2) := (blk_cell BK271.out 2).trans rfl
          have hcz7_3 : w3.cell? ⟨gb271, 3, none⟩ = some (.string a0_3) := (blk_cell BK271.out 3).trans rfl
          have hcz7_4 : w3.cell? ⟨gb271, 4, none⟩ = some (.int .i64 a0_4) := (blk_cell BK271.out 4).trans rfl
          have hfz7_0 := blk_frozen BK271.out 0
          have hfz7_1 := blk_frozen BK271.out 1
          have hfz7_2 := blk_frozen BK271.out 2
          have hfz7_3 := blk_frozen BK271.out 3
          have hfz7_4 := blk_frozen BK271.out 4
          go_wp2
          repeat (go_quiet (fail); try go_wp2)
          go_meet
          case rel => exact ⟨_, (false), (by first | rfl | (simp; done) | (simp [*]; done)), H', ⟨by first | omega | exact Nat.le_refl _⟩, ⟨by (with_reducible repeat (first | refine blk_drewN ?_ _ | refine blk_drew ?_ | refine blk_alloc ?_ _)); exact BK271.out⟩, ⟨by repeat (first | (with_reducible first | exact HB.out | apply below_alloc | apply pw_below_drewN | apply below_drew1 | refine below_set ?_ GE271.out) | exact HB.out)⟩⟩
        · rw [if_neg c6] at H
          have c6b0 : (a0_3.toList == ([] : List UInt8)) = false := beq_eq_false_iff_ne.mpr c6
          have c6b1 : (a0_3.toList != ([] : List UInt8)) = true := bne_iff_ne.mpr c6
          have H' := Aside0.mk H
          clear H
          have hcz8_0 : w3.cell? ⟨gb271, 0, none⟩ = some (.int .i64 a0_0) := (blk_cell BK271.out 0).trans rfl
          have hcz8_1 : w3.cell? ⟨gb271, 1, none⟩ = some (.int .i64 a0_1) := (blk_cell BK271.out 1).trans rfl
          have hcz8_2 : w3.cell? ⟨gb271, 2, none⟩ = some (.int .u64 a0_2) := (blk_cell BK271.out 2).trans rfl
          have hcz8_3 : w3.cell? ⟨gb271, 3, none⟩ = some (.string a0_3) := (blk_cell BK271.out 3).trans rfl
          have hcz8_4 : w3.cell? ⟨gb271, 4, none⟩ = some (.int .i64 a0_4) := (blk_cell BK271.out 4).trans rfl
          have hfz8_0 := blk_frozen BK271.out 0
          have hfz8_1 := blk_frozen BK271.out 1
          have hfz8_2 := blk_frozen BK271.out 2
          have hfz8_3 := blk_frozen BK271.out 3
          have hfz8_4 := blk_frozen BK271.out 4
          go_wp2
          repeat (go_quiet (fail); try go_wp2)
          go_meet
          case rel => exact ⟨_, ((a0_0 != 2)), (by first | rfl | (simp; done) | (simp [*]; done)), H', ⟨by first | omega | exact Nat.le_refl _⟩, ⟨by (with_reducible repeat (first | refine blk_drewN ?_ _ | refine blk_drew ?_ | refine blk_alloc ?_ _)); exact BK271.out⟩, ⟨by repeat (first | (with_reducible first | exact HB.out | apply below_alloc | apply pw_below_drewN | apply below_drew1 | refine below_set ?_ GE271.out) | exact HB.out)⟩⟩
      · rw [if_neg c5] at H
        have c5b0 : (a0_2 == 0) = false := beq_eq_false_iff_ne.mpr c5
        have c5b1 : (a0_2 != 0) = true := bne_iff_ne.mpr c5
        by_cases c9 : a0_0 = 1
        · rw [if_pos c9] at H
          have c9b0 : (a0_0 == 1) = true := beq_iff_eq.mpr c9
          have c9b1 : (a0_0 != 1) = false := bne_eq_false_iff_eq.mpr c9
          clear c9
          by_cases c10 : a0_3.toList = ([] : List UInt8)
          · rw [if_pos c10] at H
            have c10b0 : (a0_3.toList == ([] : List UInt8)) = true := beq_iff_eq.mpr c10
            have c10b1 : (a0_3.toList != ([] : List UInt8)) = false := bne_eq_false_iff_eq.mpr c10
            clear c10
            have H' := Aside0.mk H
            clear H
            have hcz11_0 : w3.cell? ⟨gb271, 0, none⟩ = some (.int .i64 a0_0) := (blk_cell BK271.out 0).trans rfl
            have hcz11_1 : w3.cell? ⟨gb271, 1, none⟩ = some (.int .i64 a0_1) := (blk_cell BK271.out 1).trans rfl
            have hcz11_2 : w3.cell? ⟨gb271, 2, none⟩ = some (.int .u64 a0_2) := (blk_cell BK271.out 2).trans rfl
            have hcz11_3 : w3.cell? ⟨gb271, 3, none⟩ = some (.string a0_3) := (blk_cell BK271.out 3).trans rfl
            have hcz11_4 : w3.cell? ⟨gb271, 4, none⟩ = some (.int .i64 a0_4) := (blk_cell BK271.out 4).trans rfl
            have hfz11_0 := blk_frozen BK271.out 0
            have hfz11_1 := blk_frozen BK271.out 1
            have hfz11_2 := blk_frozen BK271.out 2
            have hfz11_3 := blk_frozen BK271.out 3
            have hfz11_4 := blk_frozen BK271.out 4
            go_wp2
            repeat (go_quiet (fail); try go_wp2)
            go_meet
            case rel => exact ⟨_, (false), (by first | rfl | (simp; done) | (simp [*]; done)), H', ⟨by first | omega | exact Nat.le_refl _⟩, ⟨by (with_reducible repeat (first | refine blk_drewN ?_ _ | refine blk_drew ?_ | refine blk_alloc ?_ _)); exact BK271.out⟩, ⟨by repeat (first | (with_reducible first | exact HB.out | apply below_alloc | apply pw_below_drewN | apply below_drew1 | refine below_set ?_ GE271.out) | exact HB.out)⟩⟩
          · rw [if_neg c10] at H
            have c10b0 : (a0_3.toList == ([] : List UInt8)) = false := beq_eq_false_iff_ne.mpr c10
            have c10b1 : (a0_3.toList != ([] : List UInt8)) = true := bne_iff_ne.mpr c10
            have H' := Aside0.mk H
            clear H
            have hcz12_0 : w3.cell? ⟨gb271, 0, none⟩ = some (.int .i64 a0_0) := (blk_cell BK271.out 0).trans rfl
            have hcz12_1 : w3.cell? ⟨gb271, 1, none⟩ = some (.int .i64 a0_1) := (blk_cell BK271.out 1).trans rfl
            have hcz12_2 : w3.cell? ⟨gb271, 2, none⟩ = some (.int .u64 a0_2) := (blk_cell BK271.out 2).trans rfl
            have hcz12_3 : w3.cell? ⟨gb271, 3, none⟩ = some (.string a0_3) := (blk_cell BK271.out 3).trans rfl
            have hcz12_4 : w3.cell? ⟨gb271, 4, none⟩ = some (.int .i64 a0_4) := (blk_cell BK271.out 4).trans rfl
            have hfz12_0 := blk_frozen BK271.out 0
            have hfz12_1 := blk_frozen BK271.out 1
            have hfz12_2 := blk_frozen BK271.out 2
            have hfz12_3 := blk_frozen BK271.out 3
            have hfz12_4 := blk_frozen BK271.out 4
            go_wp2
            repeat (go_quiet (fail); try go_wp2)
            go_meet
            case rel => exact ⟨_, ((a0_0 != 2)), (by first | rfl | (simp; done) | (simp [*]; done)), H', ⟨by first | omega | exact Nat.le_refl _⟩, ⟨by (with_reducible repeat (first | refine blk_drewN ?_ _ | refine blk_drew ?_ | refine blk_alloc ?_ _)); exact BK271.out⟩, ⟨by repeat (first | (with_reducible first | exact HB.out | apply below_alloc | apply pw_below_drewN | apply below_drew1 | refine below_set ?_ GE271.out) | exact HB.out)⟩⟩
        · rw [if_neg c9] at H
          have c9b0 : (a0_0 == 1) = false := beq_eq_false_iff_ne.mpr c9
          have c9b1 : (a0_0 != 1) = true := bne_iff_ne.mpr c9
          have H' := Aside0.mk H
          clear H
          have hcz13_0 : w3.cell? ⟨gb271, 0, none⟩ = some (.int .i64 a0_0) := (blk_cell BK271.out 0).trans rfl
          have hcz13_1 : w3.cell? ⟨gb271, 1, none⟩ = some (.int .i64 a0_1) := (blk_cell BK271.out 1).trans rfl
          have hcz13_2 : w3.cell? ⟨gb271, 2, none⟩ = some (.int .u64 a0_2) := (blk_cell BK271.out 2).trans rfl
          have hcz13_3 : w3.cell? ⟨gb271, 3, none⟩ = some (.string a0_3) := (blk_cell BK271.out 3).trans rfl
          have hcz13_4 : w3.cell? ⟨gb271, 4, none⟩ = some (.int .i64 a0_4) := (blk_cell BK271.out 4).trans rfl
          have hfz13_0 := blk_frozen BK271.out 0
          have hfz13_1 := blk_frozen BK271.out 1
          have hfz13_2 := blk_frozen BK271.out 2
          have hfz13_3 := blk_frozen BK271.out 3
          have hfz13_4 := blk_frozen BK271.out 4
          go_wp2
          repeat (go_quiet (fail); try go_wp2)
          go_meet
          case rel => exact ⟨_, (true), (by first | rfl | (simp; done) | (simp [*]; done)), H', ⟨by first | omega | exact Nat.le_refl _⟩, ⟨by (with_reducible repeat (first | refine blk_drewN ?_ _ | refine blk_drew ?_ | refine blk_alloc ?_ _)); exact BK271.out⟩, ⟨by repeat (first | (with_reducible first | exact HB.out | apply below_alloc | apply pw_below_drewN | apply below_drew1 | refine below_set ?_ GE271.out) | exact HB.out)⟩⟩
    · rw [if_neg c4] at H
      have c4b0 : (a0_1 == 0) = false := beq_eq_false_iff_ne.mpr c4
      have c4b1 : (a0_1 != 0) = true := bne_iff_ne.mpr c4
      (first | rw [c4b0] | (simp only [i64_w, i32_w]; rw [c4b0]) | skip)
      by_cases c14 : a0_0 = 9
      · rw [if_pos c14] at H
        have c14b0 : (a0_0 == 9) = true := beq_iff_eq.mpr c14
        have c14b1 : (a0_0 != 9) = false := bne_eq_false_iff_eq.mpr c14
        clear c14
        by_cases c15 : a0_2 = 0
        · rw [if_pos c15] at H
          have c15b0 : (a0_2 == 0) = true := beq_iff_eq.mpr c15
          have c15b1 : (a0_2 != 0) = false := bne_eq_false_iff_eq.mpr c15
          clear c15
          by_cases c16 : a0_3.toList = ([] : List UInt8)
          · rw [if_pos c16] at H
            have c16b0 : (a0_3.toList == ([] : List UInt8)) = true := beq_iff_eq.mpr c16
            have c16b1 : (a0_3.toList != ([] : List UInt8)) = false := bne_eq_false_iff_eq.mpr c16
            clear c16
            have H' := Aside0.mk H
            clear H
            have hcz17_0 : w3.cell? ⟨gb271, 0, none⟩ = some (.int .i64 a0_0) := (blk_cell BK271.out 0).trans rfl
            have hcz17_1 : w3.cell? ⟨gb271, 1, none⟩ = some (.int .i64 a0_1) := (blk_cell BK271.out 1).trans rfl
            have hcz17_2 : w3.cell? ⟨gb271, 2, none⟩ = some (.int .u64 a0_2) := (blk_cell BK271.out 2).trans rfl
            have hcz17_3 : w3.cell? ⟨gb271, 3, none⟩ = some (.string a0_3) := (blk_cell BK271.out 3).trans rfl
            have hcz17_4 : w3.cell? ⟨gb271, 4, none⟩ = some (.int .i64 a0_4) := (blk_cell BK271.out 4).trans rfl
            have hfz17_0 := blk_frozen BK271.out 0
            have hfz17_1 := blk_frozen BK271.out 1
            have hfz17_2 := blk_frozen BK271.out 2
            have hfz17_3 := blk_frozen BK271.out 3
            have hfz17_4 := blk_frozen BK271.out 4
            go_wp2
            repeat (go_quiet (fail); try go_wp2)
            go_meet
            case rel => exact ⟨_, (false), (by first | rfl | (simp; done) | (simp [*]; done)), H', ⟨by first | omega | exact Nat.le_refl _⟩, ⟨by (with_reducible repeat (first | refine blk_drewN ?_ _ | refine blk_drew ?_ | refine blk_alloc ?_ _)); exact BK271.out⟩, ⟨by repeat (first | (with_reducible first | exact HB.out | apply below_alloc | apply pw_below_drewN | apply below_drew1 | refine below_set ?_ GE271.out) | exact HB.out)⟩⟩
          · rw [if_neg c16] at H
            have c16b0 : (a0_3.toList == ([] : List UInt8)) = false := beq_eq_false_iff_ne.mpr c16
            have c16b1 : (a0_3.toList != ([] : List UInt8)) = true := bne_iff_ne.mpr c16
            have H' := Aside0.mk H
            clear H
            have hcz18_0 : w3.cell? ⟨gb271, 0, none⟩ = some (.int .i64 a0_0) := (blk_cell BK271.out 0).trans rfl
            have hcz18_1 : w3.cell? ⟨gb271, 1, none⟩ = some (.int .i64 a0_1) := (blk_cell BK271.out 1).trans rfl
            have hcz18_2 : w3.cell? ⟨gb271, 2, none⟩ = some (.int .u64 a0_2) := (blk_cell BK271.out 2).trans rfl
            have hcz18_3 : w3.cell? ⟨gb271, 3, none⟩ = some (.string a0_3) := (blk_cell BK271.out 3).trans rfl
            have hcz18_4 : w3.cell? ⟨gb271, 4, none⟩ = some (.int .i64 a0_4) := (blk_cell BK271.out 4).trans rfl
            have hfz18_0 := blk_frozen BK271.out 0
            have hfz18_1 := blk_frozen BK271.out 1
            have hfz18_2 := blk_frozen BK271.out 2
            have hfz18_3 := blk_frozen BK271.out 3
            have hfz18_4 := blk_frozen BK271.out 4
            go_wp2
            repeat (go_quiet (fail); try go_wp2)
            go_meet
            case rel => exact ⟨_, ((a0_0 != 2)), (by first | rfl | (simp; done) | (simp [*]; done)), H', ⟨by first | omega | exact Nat.le_refl _⟩, ⟨by (with_reducible repeat (first | refine blk_drewN ?_ _ | refine blk_drew ?_ | refine blk_alloc ?_ _)); exact BK271.out⟩, ⟨by repeat (first | (with_reducible first | exact HB.out | apply below_alloc | apply pw_below_drewN | apply below_drew1 | refine below_set ?_ GE271.out) | exact HB.out)⟩⟩
        · rw [if_neg c15] at H
          have c15b0 : (a0_2 == 0) = false := beq_eq_false_iff_ne.mpr c15
          have c15b1 : (a0_2 != 0) = true := bne_iff_ne.mpr c15
          by_cases c19 : a0_0 = 1
          · rw [if_pos c19] at H
            have c19b0 : (a0_0 == 1) = true := beq_iff_eq.mpr c19
            have c19b1 : (a0_0 != 1) = false := bne_eq_false_iff_eq.mpr c19
            clear c19
            by_cases c20 : a0_3.toList = ([] : List UInt8)
            · rw [if_pos c20] at H
              have c20b0 : (a0_3.toList == ([] : List UInt8)) = true := beq_iff_eq.mpr c20
              have c20b1 : (a0_3.toList != ([] : List UInt8)) = false := bne_eq_false_iff_eq.mpr c20
              clear c20
              have H' := Aside0.mk H
              clear H
              have hcz21_0 : w3.cell? ⟨gb271, 0, none⟩ = some (.int .i64 a0_0) := (blk_cell BK271.out 0).trans rfl
              have hcz21_1 : w3.cell? ⟨gb271, 1, none⟩ = some (.int .i64 a0_1) := (blk_cell BK271.out 1).trans rfl
              have hcz21_2 : w3.cell? ⟨gb271, 2, none⟩ = some (.int .u64 a0_2) := (blk_cell BK271.out 2).trans rfl
              have hcz21_3 : w3.cell? ⟨gb271, 3, none⟩ = some (.string a0_3) := (blk_cell BK271.out 3).trans rfl
              have hcz21_4 : w3.cell? ⟨gb271, 4, none⟩ = some (.int .i64 a0_4) := (blk_cell BK271.out 4).trans rfl
              have hfz21_0 := blk_frozen BK271.out 0
              have hfz21_1 := blk_frozen BK271.out 1
              have hfz21_2 := blk_frozen BK271.out 2
              have hfz21_3 := blk_frozen BK271.out 3
              have hfz21_4 := blk_frozen BK271.out 4
              go_wp2
              repeat (go_quiet (fail); try go_wp2)
              go_meet
              case rel => exact ⟨_, (false), (by first | rfl | (simp; done) | (simp [*]; done)), H', ⟨by first | omega | exact Nat.le_refl _⟩, ⟨by (with_reducible repeat (first | refine blk_drewN ?_ _ | refine blk_drew ?_ | refine blk_alloc ?_ _)); exact BK271.out⟩, ⟨by repeat (first | (with_reducible first | exact HB.out | apply below_alloc | apply pw_below_drewN | apply below_drew1 | refine below_set ?_ GE271.out) | exact HB.out)⟩⟩
            · rw [if_neg c20] at H
              have c20b0 : (a0_3.toList == ([] : List UInt8)) = false := beq_eq_false_iff_ne.mpr c20
              have c20b1 : (a0_3.toList != ([] : List UInt8)) = true := bne_iff_ne.mpr c20
              have H' := Aside0.mk H
              clear H
              have hcz22_0 : w3.cell? ⟨gb271, 0, none⟩ = some (.int .i64 a0_0) := (blk_cell BK271.out 0).trans rfl
              have hcz22_1 : w3.cell? ⟨gb271, 1, none⟩ = some (.int .i64 a0_1) := (blk_cell BK271.out 1).trans rfl
              have hcz22_2 : w3.cell? ⟨gb271, 2, none⟩ = some (.int .u64 a0_2) := (blk_cell BK271.out 2).trans rfl
              have hcz22_3 : w3.cell? ⟨gb271, 3, none⟩ = some (.string a0_3) := (blk_cell BK271.out 3).trans rfl
              have hcz22_4 : w3.cell? ⟨gb271, 4, none⟩ = some (.int .i64 a0_4) := (blk_cell BK271.out 4).trans rfl
              have hfz22_0 := blk_frozen BK271.out 0
              have hfz22_1 := blk_frozen BK271.out 1
              have hfz22_2 := blk_frozen BK271.out 2
              have hfz22_3 := blk_frozen BK271.out 3
              have hfz22_4 := blk_frozen BK271.out 4
              go_wp2
              repeat (go_quiet (fail); try go_wp2)
              go_meet
              case rel => exact ⟨_, ((a0_0 != 2)), (by first | rfl | (simp; done) | (simp [*]; done)), H', ⟨by first | omega | exact Nat.le_refl _⟩, ⟨by (with_reducible repeat (first | refine blk_drewN ?_ _ | refine blk_drew ?_ | refine blk_alloc ?_ _)); exact BK271.out⟩, ⟨by repeat (first | (with_reducible first | exact HB.out | apply below_alloc | apply pw_below_drewN | apply below_drew1 | refine below_set ?_ GE271.out) | exact HB.out)⟩⟩
          · rw [if_neg c19] at H
            have c19b0 : (a0_0 == 1) = false := beq_eq_false_iff_ne.mpr c19
            have c19b1 : (a0_0 != 1) = true := bne_iff_ne.mpr c19
            have H' := Aside0.mk H
            clear H
            have hcz23_0 : w3.cell? ⟨gb271, 0, none⟩ = some (.int .i64 a0_0) := (blk_cell BK271.out 0).trans rfl
            have hcz23_1 : w3.cell? ⟨gb271, 1, none⟩ = some (.int .i64 a0_1) := (blk_cell BK271.out 1).trans rfl
            have hcz23_2 : w3.cell? ⟨gb271, 2, none⟩ = some (.int .u64 a0_2) := (blk_cell BK271.out 2).trans rfl
            have hcz23_3 : w3.cell? ⟨gb271, 3, none⟩ = some (.string a0_3) := (blk_cell BK271.out 3).trans rfl
            have hcz23_4 : w3.cell? ⟨gb271, 4, none⟩ = some (.int .i64 a0_4) := (blk_cell BK271.out 4).trans rfl
            have hfz23_0 := blk_frozen BK271.out 0
            have hfz23_1 := blk_frozen BK271.out 1
            have hfz23_2 := blk_frozen BK271.out 2
            have hfz23_3 := blk_frozen BK271.out 3
            have hfz23_4 := blk_frozen BK271.out 4
            go_wp2
            repeat (go_quiet (fail); try go_wp2)
            go_meet
            case rel => exact ⟨_, (true), (by first | rfl | (simp; done) | (simp [*]; done)), H', ⟨by first | omega | exact Nat.le_refl _⟩, ⟨by (with_reducible repeat (first | refine blk_drewN ?_ _ | refine blk_drew ?_ | refine blk_alloc ?_ _)); exact BK271.out⟩, ⟨by repeat (first | (with_reducible first | exact HB.out | apply below_alloc | apply pw_below_drewN | apply below_drew1 | refine below_set ?_ GE271.out) | exact HB.out)⟩⟩
      · rw [if_neg c14] at H
        have c14b0 : (a0_0 == 9) = false := beq_eq_false_iff_ne.mpr c14
        have c14b1 : (a0_0 != 9) = true := bne_iff_ne.mpr c14
        have H' := Aside0.mk H
        clear H
        have hcz24_0 : w3.cell? ⟨gb271, 0, none⟩ = some (.int .i64 a0_0) := (blk_cell BK271.out 0).trans rfl
        have hcz24_1 : w3.cell? ⟨gb271, 1, none⟩ = some (.int .i64 a0_1) := (blk_cell BK271.out 1).trans rfl
        have hcz24_2 : w3.cell? ⟨gb271, 2, none⟩ = some (.int .u64 a0_2) := (blk_cell BK271.out 2).trans rfl
        have hcz24_3 : w3.cell? ⟨gb271, 3, none⟩ = some (.string a0_3) := (blk_cell BK271.out 3).trans rfl
        have hcz24_4 : w3.cell? ⟨gb271, 4, none⟩ = some (.int .i64 a0_4) := (blk_cell BK271.out 4).trans rfl
        have hfz24_0 := blk_frozen BK271.out 0
        have hfz24_1 := blk_frozen BK271.out 1
        have hfz24_2 := blk_frozen BK271.out 2
        have hfz24_3 := blk_frozen BK271.out 3
        have hfz24_4 := blk_frozen BK271.out 4
        go_wp2
        repeat (go_quiet (fail); try go_wp2)
        go_meet
        case rel => exact ⟨_, (true), (by first | rfl | (simp; done) | (simp [*]; done)), H', ⟨by first | omega | exact Nat.le_refl _⟩, ⟨by (with_reducible repeat (first | refine blk_drewN ?_ _ | refine blk_drew ?_ | refine blk_alloc ?_ _)); exact BK271.out⟩, ⟨by repeat (first | (with_reducible first | exact HB.out | apply below_alloc | apply pw_below_drewN | apply below_drew1 | refine below_set ?_ GE271.out) | exact HB.out)⟩⟩
  case rest =>
    clear HC2
    try clear c1
    try clear c2
    try clear p2
    try clear c4
    try clear c4b0
    try clear c4b1
    try clear c5
    try clear c5b0
    try clear c5b1
    try clear c6
    try clear c6b0
    try clear c6b1
    try clear c9
    try clear c9b0
    try clear c9b1
    try clear c10
    try clear c10b0
    try clear c10b1
    try clear c14
    try clear c14b0
    try clear c14b1
    try clear c15
    try clear c15b0
    try clear c15b1
    try clear c16
    try clear c16b0
    try clear c16b1
    try clear c19
    try clear c19b0
    try clear c19b1
    try clear c20
    try clear c20b0
    try clear c20b1
    try clear hcz11_0
    try clear hcz11_1
    try clear hcz11_2
    try clear hcz11_3
    try clear hcz11_4
    try clear hcz12_0
    try clear hcz12_1
    try clear hcz12_2
    try clear hcz12_3
    try clear hcz12_4
    try clear hcz13_0
    try clear hcz13_1
    try clear hcz13_2
    try clear hcz13_3
    try clear hcz13_4
    try clear hcz17_0
    try clear hcz17_1
    try clear hcz17_2
    try clear hcz17_3
    try clear hcz17_4
    try clear hcz18_0
    try clear hcz18_1
    try clear hcz18_2
    try clear hcz18_3
    try clear hcz18_4
    try clear hcz21_0
    try clear hcz21_1
    try clear hcz21_2
    try clear hcz21_3
    try clear hcz21_4
    try clear hcz22_0
    try clear hcz22_1
    try clear hcz22_2
    try clear hcz22_3
    try clear hcz22_4
    try clear hcz23_0
    try clear hcz23_1
    try clear hcz23_2
    try clear hcz23_3
    try clear hcz23_4
    try clear hcz24_0
    try clear hcz24_1
    try clear hcz24_2
    try clear hcz24_3
    try clear hcz24_4
    try clear hcz7_0
    try clear hcz7_1
    try clear hcz7_2
    try clear hcz7_3
    try clear hcz7_4
    try clear hcz8_0
    try clear hcz8_1
    try clear hcz8_2
    try clear hcz8_3
    try clear hcz8_4
    try clear hfz11_0
    try clear hfz11_1
    try clear hfz11_2
    try clear hfz11_3
    try clear hfz11_4
    try clear hfz12_0
    try clear hfz12_1
    try clear hfz12_2
    try clear hfz12_3
    try clear hfz12_4
    try clear hfz13_0
    try clear hfz13_1
    try clear hfz13_2
    try clear hfz13_3
    try clear hfz13_4
    try clear hfz17_0
    try clear hfz17_1
    try clear hfz17_2
    try clear hfz17_3
    try clear hfz17_4
    try clear hfz18_0
    try clear hfz18_1
    try clear hfz18_2
    try clear hfz18_3
    try clear hfz18_4
    try clear hfz21_0
    try clear hfz21_1
    try clear hfz21_2
    try clear hfz21_3
    try clear hfz21_4
    try clear hfz22_0
    try clear hfz22_1
    try clear hfz22_2
    try clear hfz22_3
    try clear hfz22_4
    try clear hfz23_0
    try clear hfz23_1
    try clear hfz23_2
    try clear hfz23_3
    try clear hfz23_4
    try clear hfz24_0
    try clear hfz24_1
    try clear hfz24_2
    try clear hfz24_3
    try clear hfz24_4
    try clear hfz7_0
    try clear hfz7_1
    try clear hfz7_2
    try clear hfz7_3
    try clear hfz7_4
    try clear hfz8_0
    try clear hfz8_1
    try clear hfz8_2
    try clear hfz8_3
    try clear hfz8_4
    obtain ⟨kq, x31_1, rfl, HA, HJ1, BK271, HB⟩ := hcut
    cases kq with
    | zero => exact absurd HA.out (by simp [print_kids.j0])
    | succ kj1 =>
      have H := HA.out
      clear HA
      simp only [print_kids.j0] at H
      by_cases c25 : x31_1 = true
      · subst c25
        have H1 : (some (0, false)) = some (r1, r2) := by rw [if_pos rfl] at H; exact H
        clear H
        have H := H1
        clear H1
        simp only [Option.some.injEq, Prod.mk.injEq] at H
        obtain ⟨rfl, rfl⟩ := H
        go_wp2
        repeat (go_quiet (fail); try go_wp2)
        go_ret2
        exact ⟨by first | rfl | (simp [errW_none, errW_some] <;> rfl) | (simp [*, errW_none, errW_some] <;> rfl), by repeat (first | (with_reducible first | exact HB.out | apply below_alloc | apply pw_below_drewN | apply below_drew1 | refine below_set ?_ GE271.out) | exact HB.out)⟩
      · replace c25 := Bool.eq_false_iff.mpr c25
        subst c25
        have H1 : (if a0_0 = 1 then (print_kids.j1 kj1 a0_0 (a0_0 == 1) a0_0 a0_1 a0_2 a0_3 a0_4) else (if a0_0 = 2 then (print_kids.j1 kj1 a0_0 (a0_0 == 2) a0_0 a0_1 a0_2 a0_3 a0_4) else (if a0_0 = 3 then (print_kids.j1 kj1 a0_0 (a0_0 == 3) a0_0 a0_1 a0_2 a0_3 a0_4) else (print_kids.j1 kj1 a0_0 (a0_0 == 4) a0_0 a0_1 a0_2 a0_3 a0_4)))) = some (r1, r2) := by rw [if_neg (show ¬ (false = true) by decide)] at H; exact H
        clear H
        have H := H1
        clear H1
        have HC26 := Aside0.mk H
        clear H
        have hcz27_0 : wc.cell? ⟨gb271, 0, none⟩ = some (.int .i64 a0_0) := (blk_cell BK271.out 0).trans rfl
        have hcz27_1 : wc.cell? ⟨gb271, 1, none⟩ = some (.int .i64 a0_1) := (blk_cell BK271.out 1).trans rfl
        have hcz27_2 : wc.cell? ⟨gb271, 2, none⟩ = some (.int .u64 a0_2) := (blk_cell BK271.out 2).trans rfl
        have hcz27_3 : wc.cell? ⟨gb271, 3, none⟩ = some (.string a0_3) := (blk_cell BK271.out 3).trans rfl
        have hcz27_4 : wc.cell? ⟨gb271, 4, none⟩ = some (.int .i64 a0_4) := (blk_cell BK271.out 4).trans rfl
        have hfz27_0 := blk_frozen BK271.out 0
        have hfz27_1 := blk_frozen BK271.out 1
        have hfz27_2 := blk_frozen BK271.out 2
        have hfz27_3 := blk_frozen BK271.out 3
        have hfz27_4 := blk_frozen BK271.out 4
        go_upto_if 34 with (fail)
        repeat (go_quiet (fail); go_upto_if 34 with (fail))
        go_cut [34] (fun v34 wc => ∃ (kq : Nat) (x34_25 : Bool), v34 = .bool x34_25 ∧ Aside0 (print_kids.j1 kq a0_0 x34_25 a0_0 a0_1 a0_2 a0_3 a0_4 = some (r1, r2)) ∧ Aside0 (kq ≤ kj1) ∧ Aside0 (wc.heap[gb271]? = some (.cells #[.int .i64 a0_0, .int .i64 a0_1, .int .u64 a0_2, .string a0_3, .int .i64 a0_4] 46 (0, 0))) ∧ Aside0 (Below w.heap.size w wc))
        case first =>
          have H := HC26.out
          clear HC26
          by_cases c28 : a0_0 = 1
          · rw [if_pos c28] at H
            have c28b0 : (a0_0 == 1) = true := beq_iff_eq.mpr c28
            have c28b1 : (a0_0 != 1) = false := bne_eq_false_iff_eq.mpr c28
            clear c28
            (first | rw [c28b0] | (simp only [i64_w, i32_w]; rw [c28b0]) | skip)
            have H' := Aside0.mk H
            clear H
            go_wp2
            repeat (go_quiet (fail); try go_wp2)
            go_meet
            case rel => exact ⟨_, ((a0_0 == 1)), (by first | rfl | (simp; done) | (simp [*]; done)), H', ⟨by have := HJ1.out; first | omega | exact Nat.le_refl _⟩, ⟨by (with_reducible repeat (first | refine blk_drewN ?_ _ | refine blk_drew ?_ | refine blk_alloc ?_ _)); exact BK271.out⟩, ⟨by repeat (first | (with_reducible first | exact HB.out | apply below_alloc | apply pw_below_drewN | apply below_drew1 | refine below_set ?_ GE271.out) | exact HB.out)⟩⟩
          · rw [if_neg c28] at H
            have c28b0 : (a0_0 == 1) = false := beq_eq_false_iff_ne.mpr c28
            have c28b1 : (a0_0 != 1) = true := bne_iff_ne.mpr c28
            (first | rw [c28b0] | (simp only [i64_w, i32_w]; rw [c28b0]) | skip)
            by_cases c29 : a0_0 = 2
            · rw [if_pos c29] at H
              have c29b0 : (a0_0 == 2) = true := beq_iff_eq.mpr c29
              have c29b1 : (a0_0 != 2) = false := bne_eq_false_iff_eq.mpr c29
              clear c29
              have H' := Aside0.mk H
              clear H
              go_wp2
              repeat (go_quiet (fail); try go_wp2)
              go_meet
              case rel => exact ⟨_, ((a0_0 == 2)), (by first | rfl | (simp; done) | (simp [*]; done)), H', ⟨by have := HJ1.out; first | omega | exact Nat.le_refl _⟩, ⟨by (with_reducible repeat (first | refine blk_drewN ?_ _ | refine blk_drew ?_ | refine blk_alloc ?_ _)); exact BK271.out⟩, ⟨by repeat (first | (with_reducible first | exact HB.out | apply below_alloc | apply pw_below_drewN | apply below_drew1 | refine below_set ?_ GE271.out) | exact HB.out)⟩⟩
            · rw [if_neg c29] at H
              have c29b0 : (a0_0 == 2) = false := beq_eq_false_iff_ne.mpr c29
              have c29b1 : (a0_0 != 2) = true := bne_iff_ne.mpr c29
              by_cases c30 : a0_0 = 3
              · rw [if_pos c30] at H
                have c30b0 : (a0_0 == 3) = true := beq_iff_eq.mpr c30
                have c30b1 : (a0_0 != 3) = false := bne_eq_false_iff_eq.mpr c30
                clear c30
                have H' := Aside0.mk H
                clear H
                go_wp2
                repeat (go_quiet (fail); try go_wp2)
                go_meet
                case rel => exact ⟨_, ((a0_0 == 3)), (by first | rfl | (simp; done) | (simp [*]; done)), H', ⟨by have := HJ1.out; first | omega | exact Nat.le_refl _⟩, ⟨by (with_reducible repeat (first | refine blk_drewN ?_ _ | refine blk_drew ?_ | refine blk_alloc ?_ _)); exact BK271.out⟩, ⟨by repeat (first | (with_reducible first | exact HB.out | apply below_alloc | apply pw_below_drewN | apply below_drew1 | refine below_set ?_ GE271.out) | exact HB.out)⟩⟩
              · rw [if_neg c30] at H
                have c30b0 : (a0_0 == 3) = false := beq_eq_false_iff_ne.mpr c30
                have c30b1 : (a0_0 != 3) = true := bne_iff_ne.mpr c30
                have H' := Aside0.mk H
                clear H
                go_wp2
                repeat (go_quiet (fail); try go_wp2)
                go_meet
                case rel => exact ⟨_, ((a0_0 == 4)), (by first | rfl | (simp; done) | (simp [*]; done)), H', ⟨by have := HJ1.out; first | omega | exact Nat.le_refl _⟩, ⟨by (with_reducible repeat (first | refine blk_drewN ?_ _ | refine blk_drew ?_ | refine blk_alloc ?_ _)); exact BK271.out⟩, ⟨by repeat (first | (with_reducible first | exact HB.out | apply below_alloc | apply pw_below_drewN | apply below_drew1 | refine below_set ?_ GE271.out) | exact HB.out)⟩⟩
        case rest =>
          clear HC26
          try clear c1
          try clear c2
          try clear p2
          try clear c3
          try clear c4
          try clear c4b0
          try clear c4b1
          try clear c5
          try clear c5b0
          try clear c5b1
          try clear c6
          try clear c6b0
          try clear c6b1
          try clear c9
          try clear c9b0
          try clear c9b1
          try clear c10
          try clear c10b0
          try clear c10b1
          try clear c14
          try clear c14b0
          try clear c14b1
          try clear c15
          try clear c15b0
          try clear c15b1
          try clear c16
          try clear c16b0
          try clear c16b1
          try clear c19
          try clear c19b0
          try clear c19b1
          try clear c20
          try clear c20b0
          try clear c20b1
          try clear c25
          try clear c28
          try clear c28b0
          try clear c28b1
          try clear c29
          try clear c29b0
          try clear c29b1
          try clear c30
          try clear c30b0
          try clear c30b1
          try clear hcz11_0
          try clear hcz11_1
          try clear hcz11_2
          try clear hcz11_3
          try clear hcz11_4
          try clear hcz12_0
          try clear hcz12_1
          try clear hcz12_2
          try clear hcz12_3
          try clear hcz12_4
          try clear hcz13_0
          try clear hcz13_1
          try clear hcz13_2
          try clear hcz13_3
          try clear hcz13_4
          try clear hcz17_0
          try clear hcz17_1
          try clear hcz17_2
          try clear hcz17_3
          try clear hcz17_4
          try clear hcz18_0
          try clear hcz18_1
          try clear hcz18_2
          try clear hcz18_3
          try clear hcz18_4
          try clear hcz21_0
          try clear hcz21_1
          try clear hcz21_2
          try clear hcz21_3
          try clear hcz21_4
          try clear hcz22_0
          try clear hcz22_1
          try clear hcz22_2
          try clear hcz22_3
          try clear hcz22_4
          try clear hcz23_0
          try clear hcz23_1
          try clear hcz23_2
          try clear hcz23_3
          try clear hcz23_4
          try clear hcz24_0
          try clear hcz24_1
          try clear hcz24_2
          try clear hcz24_3
          try clear hcz24_4
          try clear hcz27_0
          try clear hcz27_1
          try clear hcz27_2
          try clear hcz27_3
          try clear hcz27_4
          try clear hcz7_0
          try clear hcz7_1
          try clear hcz7_2
          try clear hcz7_3
          try clear hcz7_4
          try clear hcz8_0
          try clear hcz8_1
          try clear hcz8_2
          try clear hcz8_3
          try clear hcz8_4
          try clear hfz11_0
          try clear hfz11_1
          try clear hfz11_2
          try clear hfz11_3
          try clear hfz11_4
          try clear hfz12_0
          try clear hfz12_1
          try clear hfz12_2
          try clear hfz12_3
          try clear hfz12_4
          try clear hfz13_0
          try clear hfz13_1
          try clear hfz13_2
          try clear hfz13_3
          try clear hfz13_4
          try clear hfz17_0
          try clear hfz17_1
          try clear hfz17_2
          try clear hfz17_3
          try clear hfz17_4
          try clear hfz18_0
          try clear hfz18_1
          try clear hfz18_2
          try clear hfz18_3
          try clear hfz18_4
          try clear hfz21_0
          try clear hfz21_1
          try clear hfz21_2
          try clear hfz21_3
          try clear hfz21_4
          try clear hfz22_0
          try clear hfz22_1
          try clear hfz22_2
          try clear hfz22_3
          try clear hfz22_4
          try clear hfz23_0
          try clear hfz23_1
          try clear hfz23_2
          try clear hfz23_3
          try clear hfz23_4
          try clear hfz24_0
          try clear hfz24_1
          try clear hfz24_2
          try clear hfz24_3
          try clear hfz24_4
          try clear hfz27_0
          try clear hfz27_1
          try clear hfz27_2
          try clear hfz27_3
          try clear hfz27_4
          try clear hfz7_0
          try clear hfz7_1
          try clear hfz7_2
          try clear hfz7_3
          try clear hfz7_4
          try clear hfz8_0
          try clear hfz8_1
          try clear hfz8_2
          try clear hfz8_3
          try clear hfz8_4
          try clear p2
          obtain ⟨kq, x34_25, rfl, HA, HJ25, BK271, HB⟩ := hcut
          cases kq with
          | zero => exact absurd HA.out (by simp [print_kids.j1])
          | succ kj25 =>
            have H := HA.out
            clear HA
            simp only [print_kids.j1] at H
            by_cases c31 : x34_25 = true
            · subst c31
              have H1 : (some (0, true)) = some (r1, r2) := by rw [if_pos rfl] at H; exact H
              clear H
              have H := H1
              clear H1
              simp only [Option.some.injEq, Prod.mk.injEq] at H
              obtain ⟨rfl, rfl⟩ := H
              go_wp2
              repeat (go_quiet (fail); try go_wp2)
              go_ret2
              exact ⟨by first | rfl | (simp [errW_none, errW_some] <;> rfl) | (simp [*, errW_none, errW_some] <;> rfl), by repeat (first | (with_reducible first | exact HB.out | apply below_alloc | apply pw_below_drewN | apply below_drew1 | refine below_set ?_ GE271.out) | exact HB.out)⟩
            · replace c31 := Bool.eq_false_iff.mpr c31
              subst c31
              have H1 : (if a0_0 = 5 then (print_kids.j2 kj25 a0_0 (a0_0 == 5) a0_0 a0_1 a0_2 a0_3 a0_4) else (if a0_0 = 11 then (print_kids.j2 kj25 a0_0 (a0_0 == 11) a0_0 a0_1 a0_2 a0_3 a0_4) else (print_kids.j2 kj25 a0_0 (a0_0 == 12) a0_0 a0_1 a0_2 a0_3 a0_4))) = some (r1, r2) := by rw [if_neg (show ¬ (false = true) by decide)] at H; exact H
              clear H
              have H := H1
              clear H1
              have HC32 := Aside0.mk H
              clear H
              go_upto_if 39 with (fail)
              repeat (go_quiet (fail); go_upto_if 39 with (fail))
              go_cut [39] (fun v39 wc => ∃ (kq : Nat) (x39_31 : Bool), v39 = .bool x39_31 ∧ Aside0 (print_kids.j2 kq a0_0 x39_31 a0_0 a0_1 a0_2 a0_3 a0_4 = some (r1, r2)) ∧ Aside0 (kq ≤ kj25) ∧ Aside0 (wc.heap[gb271]? = some (.cells #[.int .i64 a0_0, .int .i64 a0_1, .int .u64 a0_2, .string a0_3, .int .i64 a0_4] 46 (0, 0))) ∧ Aside0 (Below w.heap.size w wc))
              case first =>
                have H := HC32.out
                clear HC32
                by_cases c33 : a0_0 = 5
                · rw [if_pos c33] at H
                  have c33b0 : (a0_0 == 5) = true := beq_iff_eq.mpr c33
                  have c33b1 : (a0_0 != 5) = false := bne_eq_false_iff_eq.mpr c33
                  clear c33
                  (first | rw [c33b0] | (simp only [i64_w, i32_w]; rw [c33b0]) | skip)
                  have H' := Aside0.mk H
                  clear H
                  go_wp2
                  repeat (go_quiet (fail); try go_wp2)
                  go_meet
                  case rel => exact ⟨_, ((a0_0 == 5)), (by first | rfl | (simp; done) | (simp [*]; done)), H', ⟨by have := HJ1.out; have := HJ25.out; first | omega | exact Nat.le_refl _⟩, ⟨by (with_reducible repeat (first | refine blk_drewN ?_ _ | refine blk_drew ?_ | refine blk_alloc ?_ _)); exact BK271.out⟩, ⟨by repeat (first | (with_reducible first | exact HB.out | apply below_alloc | apply pw_below_drewN | apply below_drew1 | refine below_set ?_ GE271.out) | exact HB.out)⟩⟩
                · rw [if_neg c33] at H
                  have c33b0 : (a0_0 == 5) = false := beq_eq_false_iff_ne.mpr c33
                  have c33b1 : (a0_0 != 5) = true := bne_iff_ne.mpr c33
                  (first | rw [c33b0] | (simp only [i64_w, i32_w]; rw [c33b0]) | skip)
                  by_cases c34 : a0_0 = 11
                  · rw [if_pos c34] at H
                    have c34b0 : (a0_0 == 11) = true := beq_iff_eq.mpr c34
                    have c34b1 : (a0_0 != 11) = false := bne_eq_false_iff_eq.mpr c34
                    clear c34
                    have H' := Aside0.mk H
                    clear H
                    go_wp2
                    repeat (go_quiet (fail); try go_wp2)
                    go_meet
                    case rel => exact ⟨_, ((a0_0 == 11)), (by first | rfl | (simp; done) | (simp [*]; done)), H', ⟨by have := HJ1.out; have := HJ25.out; first | omega | exact Nat.le_refl _⟩, ⟨by (with_reducible repeat (first | refine blk_drewN ?_ _ | refine blk_drew ?_ | refine blk_alloc ?_ _)); exact BK271.out⟩, ⟨by repeat (first | (with_reducible first | exact HB.out | apply below_alloc | apply pw_below_drewN | apply below_drew1 | refine below_set ?_ GE271.out) | exact HB.out)⟩⟩
                  · rw [if_neg c34] at H
                    have c34b0 : (a0_0 == 11) = false := beq_eq_false_iff_ne.mpr c34
                    have c34b1 : (a0_0 != 11) = true := bne_iff_ne.mpr c34
                    have H' := Aside0.mk H
                    clear H
                    go_wp2
                    repeat (go_quiet (fail); try go_wp2)
                    go_meet
                    case rel => exact ⟨_, ((a0_0 == 12)), (by first | rfl | (simp; done) | (simp [*]; done)), H', ⟨by have := HJ1.out; have := HJ25.out; first | omega | exact Nat.le_refl _⟩, ⟨by (with_reducible repeat (first | refine blk_drewN ?_ _ | refine blk_drew ?_ | refine blk_alloc ?_ _)); exact BK271.out⟩, ⟨by repeat (first | (with_reducible first | exact HB.out | apply below_alloc | apply pw_below_drewN | apply below_drew1 | refine below_set ?_ GE271.out) | exact HB.out)⟩⟩
              case rest =>
                clear HC32
                try clear c1
                try clear c2
                try clear p2
                try clear c3
                try clear c4
                try clear c4b0
                try clear c4b1
                try clear c5
                try clear c5b0
                try clear c5b1
                try clear c6
                try clear c6b0
                try clear c6b1
                try clear c9
                try clear c9b0
                try clear c9b1
                try clear c10
                try clear c10b0
                try clear c10b1
                try clear c14
                try clear c14b0
                try clear c14b1
                try clear c15
                try clear c15b0
                try clear c15b1
                try clear c16
                try clear c16b0
                try clear c16b1
                try clear c19
                try clear c19b0
                try clear c19b1
                try clear c20
                try clear c20b0
                try clear c20b1
                try clear c25
                try clear c28
                try clear c28b0
                try clear c28b1
                try clear c29
                try clear c29b0
                try clear c29b1
                try clear c30
                try clear c30b0
                try clear c30b1
                try clear c31
                try clear c33
                try clear c33b0
                try clear c33b1
                try clear c34
                try clear c34b0
                try clear c34b1
                try clear hcz11_0
                try clear hcz11_1
                try clear hcz11_2
                try clear hcz11_3
                try clear hcz11_4
                try clear hcz12_0
                try clear hcz12_1
                try clear hcz12_2
                try clear hcz12_3
                try clear hcz12_4
                try clear hcz13_0
                try clear hcz13_1
                try clear hcz13_2
                try clear hcz13_3
                try clear hcz13_4
                try clear hcz17_0
                try clear hcz17_1
                try clear hcz17_2
                try clear hcz17_3
                try clear hcz17_4
                try clear hcz18_0
                try clear hcz18_1
                try clear hcz18_2
                try clear hcz18_3
                try clear hcz18_4
                try clear hcz21_0
                try clear hcz21_1
                try clear hcz21_2
                try clear hcz21_3
                try clear hcz21_4
                try clear hcz22_0
                try clear hcz22_1
                try clear hcz22_2
                try clear hcz22_3
                try clear hcz22_4
                try clear hcz23_0
                try clear hcz23_1
                try clear hcz23_2
                try clear hcz23_3
                try clear hcz23_4
                try clear hcz24_0
                try clear hcz24_1
                try clear hcz24_2
                try clear hcz24_3
                try clear hcz24_4
                try clear hcz27_0
                try clear hcz27_1
                try clear hcz27_2
                try clear hcz27_3
                try clear hcz27_4
                try clear hcz7_0
                try clear hcz7_1
                try clear hcz7_2
                try clear hcz7_3
                try clear hcz7_4
                try clear hcz8_0
                try clear hcz8_1
                try clear hcz8_2
                try clear hcz8_3
                try clear hcz8_4
                try clear hfz11_0
                try clear hfz11_1
                try clear hfz11_2
                try clear hfz11_3
                try clear hfz11_4
                try clear hfz12_0
                try clear hfz12_1
                try clear hfz12_2
                try clear hfz12_3
                try clear hfz12_4
                try clear hfz13_0
                try clear hfz13_1
                try clear hfz13_2
                try clear hfz13_3
                try clear hfz13_4
                try clear hfz17_0
                try clear hfz17_1
                try clear hfz17_2
                try clear hfz17_3
                try clear hfz17_4
                try clear hfz18_0
                try clear hfz18_1
                try clear hfz18_2
                try clear hfz18_3
                try clear hfz18_4
                try clear hfz21_0
                try clear hfz21_1
                try clear hfz21_2
                try clear hfz21_3
                try clear hfz21_4
                try clear hfz22_0
                try clear hfz22_1
                try clear hfz22_2
                try clear hfz22_3
                try clear hfz22_4
                try clear hfz23_0
                try clear hfz23_1
                try clear hfz23_2
                try clear hfz23_3
                try clear hfz23_4
                try clear hfz24_0
                try clear hfz24_1
                try clear hfz24_2
                try clear hfz24_3
                try clear hfz24_4
                try clear hfz27_0
                try clear hfz27_1
                try clear hfz27_2
                try clear hfz27_3
                try clear hfz27_4
                try clear hfz7_0
                try clear hfz7_1
                try clear hfz7_2
                try clear hfz7_3
                try clear hfz7_4
                try clear hfz8_0
                try clear hfz8_1
                try clear hfz8_2
                try clear hfz8_3
                try clear hfz8_4
                try clear p2
                obtain ⟨kq, x39_31, rfl, HA, HJ31, BK271, HB⟩ := hcut
                cases kq with
                | zero => exact absurd HA.out (by simp [print_kids.j2])
                | succ kj31 =>
                  have H := HA.out
                  clear HA
                  simp only [print_kids.j2] at H
                  by_cases c35 : x39_31 = true
                  · subst c35
                    have H1 : (some (1, true)) = some (r1, r2) := by rw [if_pos rfl] at H; exact H
                    clear H
                    have H := H1
                    clear H1
                    simp only [Option.some.injEq, Prod.mk.injEq] at H
                    obtain ⟨rfl, rfl⟩ := H
                    go_wp2
                    repeat (go_quiet (fail); try go_wp2)
                    go_ret2
                    exact ⟨by first | rfl | (simp [errW_none, errW_some] <;> rfl) | (simp [*, errW_none, errW_some] <;> rfl), by repeat (first | (with_reducible first | exact HB.out | apply below_alloc | apply pw_below_drewN | apply below_drew1 | refine below_set ?_ GE271.out) | exact HB.out)⟩
                  · replace c35 := Bool.eq_false_iff.mpr c35
                    subst c35
                    have H1 : (if a0_0 = 6 then (print_kids.j3 kj31 a0_0 (a0_0 == 6) a0_0 a0_1 a0_2 a0_3 a0_4) else (if a0_0 = 7 then (print_kids.j3 kj31 a0_0 (a0_0 == 7) a0_0 a0_1 a0_2 a0_3 a0_4) else (if a0_0 = 8 then (print_kids.j3 kj31 a0_0 (a0_0 == 8) a0_0 a0_1 a0_2 a0_3 a0_4) else (print_kids.j3 kj31 a0_0 (a0_0 == 10) a0_0 a0_1 a0_2 a0_3 a0_4)))) = some (r1, r2) := by rw [if_neg (show ¬ (false = true) by decide)] at H; exact H
                    clear H
                    have H := H1
                    clear H1
                    have HC36 := Aside0.mk H
                    clear H
                    go_upto_if 43 with (fail)
                    repeat (go_quiet (fail); go_upto_if 43 with (fail))
                    go_cut [43] (fun v43 wc => ∃ (kq : Nat) (x43_35 : Bool), v43 = .bool x43_35 ∧ Aside0 (print_kids.j3 kq a0_0 x43_35 a0_0 a0_1 a0_2 a0_3 a0_4 = some (r1, r2)) ∧ Aside0 (kq ≤ kj31) ∧ Aside0 (wc.heap[gb271]? = some (.cells #[.int .i64 a0_0, .int .i64 a0_1, .int .u64 a0_2, .string a0_3, .int .i64 a0_4] 46 (0, 0))) ∧ Aside0 (Below w.heap.size w wc))
                    case first =>
                      have H := HC36.out
                      clear HC36
                      by_cases c37 : a0_0 = 6
                      · rw [if_pos c37] at H
                        have c37b0 : (a0_0 == 6) = true := beq_iff_eq.mpr c37
                        have c37b1 : (a0_0 != 6) = false := bne_eq_false_iff_eq.mpr c37
                        clear c37
                        (first | rw [c37b0] | (simp only [i64_w, i32_w]; rw [c37b0]) | skip)
                        have H' := Aside0.mk H
                        clear H
                        go_wp2
                        repeat (go_quiet (fail); try go_wp2)
                        go_meet
                        case rel => exact ⟨_, ((a0_0 == 6)), (by first | rfl | (simp; done) | (simp [*]; done)), H', ⟨by have := HJ1.out; have := HJ25.out; have := HJ31.out; first | omega | exact Nat.le_refl _⟩, ⟨by (with_reducible repeat (first | refine blk_drewN ?_ _ | refine blk_drew ?_ | refine blk_alloc ?_ _)); exact BK271.out⟩, ⟨by repeat (first | (with_reducible first | exact HB.out | apply below_alloc | apply pw_below_drewN | apply below_drew1 | refine below_set ?_ GE271.out) | exact HB.out)⟩⟩
                      · rw [if_neg c37] at H
                        have c37b0 : (a0_0 == 6) = false := beq_eq_false_iff_ne.mpr c37
                        have c37b1 : (a0_0 != 6) = true := bne_iff_ne.mpr c37
                        (first | rw [c37b0] | (simp only [i64_w, i32_w]; rw [c37b0]) | skip)
                        by_cases c38 : a0_0 = 7
                        · rw [if_pos c38] at H
                          have c38b0 : (a0_0 == 7) = true := beq_iff_eq.mpr c38
                          have c38b1 : (a0_0 != 7) = false := bne_eq_false_iff_eq.mpr c38
                          clear c38
                          have H' := Aside0.mk H
                          clear H
                          go_wp2
                          repeat (go_quiet (fail); try go_wp2)
                          go_meet
                          case rel => exact ⟨_, ((a0_0 == 7)), (by first | rfl | (simp; done) | (simp [*]; done)), H', ⟨by have := HJ1.out; have := HJ25.out; have := HJ31.out; first | omega | exact Nat.le_refl _⟩, ⟨by (with_reducible repeat (first | refine blk_drewN ?_ _ | refine blk_drew ?_ | refine blk_alloc ?_ _)); exact BK271.out⟩, ⟨by repeat (first | (with_reducible first | exact HB.out | apply below_alloc | apply pw_below_drewN | apply below_drew1 | refine below_set ?_ GE271.out) | exact HB.out)⟩⟩
                        · rw [if_neg c38] at H
                          have c38b0 : (a0_0 == 7) = false := beq_eq_false_iff_ne.mpr c38
                          have c38b1 : (a0_0 != 7) = true := bne_iff_ne.mpr c38
                          by_cases c39 : a0_0 = 8
                          · rw [if_pos c39] at H
                            have c39b0 : (a0_0 == 8) = true := beq_iff_eq.mpr c39
                            have c39b1 : (a0_0 != 8) = false := bne_eq_false_iff_eq.mpr c39
                            clear c39
                            have H' := Aside0.mk H
                            clear H
                            go_wp2
                            repeat (go_quiet (fail); try go_wp2)
                            go_meet
                            case rel => exact ⟨_, ((a0_0 == 8)), (by first | rfl | (simp; done) | (simp [*]; done)), H', ⟨by have := HJ1.out; have := HJ25.out; have := HJ31.out; first | omega | exact Nat.le_refl _⟩, ⟨by (with_reducible repeat (first | refine blk_drewN ?_ _ | refine blk_drew ?_ | refine blk_alloc ?_ _)); exact BK271.out⟩, ⟨by repeat (first | (with_reducible first | exact HB.out | apply below_alloc | apply pw_below_drewN | apply below_drew1 | refine below_set ?_ GE271.out) | exact HB.out)⟩⟩
                          · rw [if_neg c39] at H
                            have c39b0 : (a0_0 == 8) = false := beq_eq_false_iff_ne.mpr c39
                            have c39b1 : (a0_0 != 8) = true := bne_iff_ne.mpr c39
                            have H' := Aside0.mk H
                            clear H
                            go_wp2
                            repeat (go_quiet (fail); try go_wp2)
                            go_meet
                            case rel => exact ⟨_, ((a0_0 == 10)), (by first | rfl | (simp; done) | (simp [*]; done)), H', ⟨by have := HJ1.out; have := HJ25.out; have := HJ31.out; first | omega | exact Nat.le_refl _⟩, ⟨by (with_reducible repeat (first | refine blk_drewN ?_ _ | refine blk_drew ?_ | refine blk_alloc ?_ _)); exact BK271.out⟩, ⟨by repeat (first | (with_reducible first | exact HB.out | apply below_alloc | apply pw_below_drewN | apply below_drew1 | refine below_set ?_ GE271.out) | exact HB.out)⟩⟩
                    case rest =>
                      clear HC36
                      try clear c1
                      try clear c2
                      try clear p2
                      try clear c3
                      try clear c4
                      try clear c4b0
                      try clear c4b1
                      try clear c5
                      try clear c5b0
                      try clear c5b1
                      try clear c6
                      try clear c6b0
                      try clear c6b1
                      try clear c9
                      try clear c9b0
                      try clear c9b1
                      try clear c10
                      try clear c10b0
                      try clear c10b1
                      try clear c14
                      try clear c14b0
                      try clear c14b1
                      try clear c15
                      try clear c15b0
                      try clear c15b1
                      try clear c16
                      try clear c16b0
                      try clear c16b1
                      try clear c19
                      try clear c19b0
                      try clear c19b1
                      try clear c20
                      try clear c20b0
                      try clear c20b1
                      try clear c25
                      try clear c28
                      try clear c28b0
                      try clear c28b1
                      try clear c29
                      try clear c29b0
                      try clear c29b1
                      try clear c30
                      try clear c30b0
                      try clear c30b1
                      try clear c31
                      try clear c33
                      try clear c33b0
                      try clear c33b1
                      try clear c34
                      try clear c34b0
                      try clear c34b1
                      try clear c35
                      try clear c37
                      try clear c37b0
                      try clear c37b1
                      try clear c38
                      try clear c38b0
                      try clear c38b1
                      try clear c39
                      try clear c39b0
                      try clear c39b1
                      try clear hcz11_0
                      try clear hcz11_1
                      try clear hcz11_2
                      try clear hcz11_3
                      try clear hcz11_4
                      try clear hcz12_0
                      try clear hcz12_1
                      try clear hcz12_2
                      try clear hcz12_3
                      try clear hcz12_4
                      try clear hcz13_0
                      try clear hcz13_1
                      try clear hcz13_2
                      try clear hcz13_3
                      try clear hcz13_4
                      try clear hcz17_0
                      try clear hcz17_1
                      try clear hcz17_2
                      try clear hcz17_3
                      try clear hcz17_4
                      try clear hcz18_0
                      try clear hcz18_1
                      try clear hcz18_2
                      try clear hcz18_3
                      try clear hcz18_4
                      try clear hcz21_0
                      try clear hcz21_1
                      try clear hcz21_2
                      try clear hcz21_3
                      try clear hcz21_4
                      try clear hcz22_0
                      try clear hcz22_1
                      try clear hcz22_2
                      try clear hcz22_3
                      try clear hcz22_4
                      try clear hcz23_0
                      try clear hcz23_1
                      try clear hcz23_2
                      try clear hcz23_3
                      try clear hcz23_4
                      try clear hcz24_0
                      try clear hcz24_1
                      try clear hcz24_2
                      try clear hcz24_3
                      try clear hcz24_4
                      try clear hcz27_0
                      try clear hcz27_1
                      try clear hcz27_2
                      try clear hcz27_3
                      try clear hcz27_4
                      try clear hcz7_0
                      try clear hcz7_1
                      try clear hcz7_2
                      try clear hcz7_3
                      try clear hcz7_4
                      try clear hcz8_0
                      try clear hcz8_1
                      try clear hcz8_2
                      try clear hcz8_3
                      try clear hcz8_4
                      try clear hfz11_0
                      try clear hfz11_1
                      try clear hfz11_2
                      try clear hfz11_3
                      try clear hfz11_4
                      try clear hfz12_0
                      try clear hfz12_1
                      try clear hfz12_2
                      try clear hfz12_3
                      try clear hfz12_4
                      try clear hfz13_0
                      try clear hfz13_1
                      try clear hfz13_2
                      try clear hfz13_3
                      try clear hfz13_4
                      try clear hfz17_0
                      try clear hfz17_1
                      try clear hfz17_2
                      try clear hfz17_3
                      try clear hfz17_4
                      try clear hfz18_0
                      try clear hfz18_1
                      try clear hfz18_2
                      try clear hfz18_3
                      try clear hfz18_4
                      try clear hfz21_0
                      try clear hfz21_1
                      try clear hfz21_2
                      try clear hfz21_3
                      try clear hfz21_4
                      try clear hfz22_0
                      try clear hfz22_1
                      try clear hfz22_2
                      try clear hfz22_3
                      try clear hfz22_4
                      try clear hfz23_0
                      try clear hfz23_1
                      try clear hfz23_2
                      try clear hfz23_3
                      try clear hfz23_4
                      try clear hfz24_0
                      try clear hfz24_1
                      try clear hfz24_2
                      try clear hfz24_3
                      try clear hfz24_4
                      try clear hfz27_0
                      try clear hfz27_1
                      try clear hfz27_2
                      try clear hfz27_3
                      try clear hfz27_4
                      try clear hfz7_0
                      try clear hfz7_1
                      try clear hfz7_2
                      try clear hfz7_3
                      try clear hfz7_4
                      try clear hfz8_0
                      try clear hfz8_1
                      try clear hfz8_2
                      try clear hfz8_3
                      try clear hfz8_4
                      try clear p2
                      obtain ⟨kq, x43_35, rfl, HA, HJ35, BK271, HB⟩ := hcut
                      cases kq with
                      | zero => exact absurd HA.out (by simp [print_kids.j3])
                      | succ kj35 =>
                        have H := HA.out
                        clear HA
                        simp only [print_kids.j3] at H
                        by_cases c40 : x43_35 = true
                        · subst c40
                          have H1 : (some (2, true)) = some (r1, r2) := by rw [if_pos rfl] at H; exact H
                          clear H
                          have H := H1
                          clear H1
                          simp only [Option.some.injEq, Prod.mk.injEq] at H
                          obtain ⟨rfl, rfl⟩ := H
                          go_wp2
                          repeat (go_quiet (fail); try go_wp2)
                          go_ret2
                          exact ⟨by first | rfl | (simp [errW_none, errW_some] <;> rfl) | (simp [*, errW_none, errW_some] <;> rfl), by repeat (first | (with_reducible first | exact HB.out | apply below_alloc | apply pw_below_drewN | apply below_drew1 | refine below_set ?_ GE271.out) | exact HB.out)⟩
                        · replace c40 := Bool.eq_false_iff.mpr c40
                          subst c40
                          have H1 : (if a0_0 = 9 then (some (a0_1, decide (a0_1 ≥ 1))) else (some (0, false))) = some (r1, r2) := by rw [if_neg (show ¬ (false = true) by decide)] at H; exact H
                          clear H
                          have H := H1
                          clear H1
                          by_cases c41 : a0_0 = 9
                          · rw [if_pos c41] at H
                            have c41b0 : (a0_0 == 9) = true := beq_iff_eq.mpr c41
                            have c41b1 : (a0_0 != 9) = false := bne_eq_false_iff_eq.mpr c41
                            clear c41
                            simp only [Option.some.injEq, Prod.mk.injEq] at H
                            obtain ⟨rfl, rfl⟩ := H
                            have hcz42_0 : wc.cell? ⟨gb271, 0, none⟩ = some (.int .i64 a0_0) := (blk_cell BK271.out 0).trans rfl
                            have hcz42_1 : wc.cell? ⟨gb271, 1, none⟩ = some (.int .i64 a0_1) := (blk_cell BK271.out 1).trans rfl
                            have hcz42_2 : wc.cell? ⟨gb271, 2, none⟩ = some (.int .u64 a0_2) := (blk_cell BK271.out 2).trans rfl
                            have hcz42_3 : wc.cell? ⟨gb271, 3, none⟩ = some (.string a0_3) := (blk_cell BK271.out 3).trans rfl
                            have hcz42_4 : wc.cell? ⟨gb271, 4, none⟩ = some (.int .i64 a0_4) := (blk_cell BK271.out 4).trans rfl
                            have hfz42_0 := blk_frozen BK271.out 0
                            have hfz42_1 := blk_frozen BK271.out 1
                            have hfz42_2 := blk_frozen BK271.out 2
                            have hfz42_3 := blk_frozen BK271.out 3
                            have hfz42_4 := blk_frozen BK271.out 4
                            go_wp2
                            repeat (go_quiet (fail); try go_wp2)
                            go_ret2
                            exact ⟨by first | rfl | (simp [errW_none, errW_some] <;> rfl) | (simp [*, errW_none, errW_some] <;> rfl), by repeat (first | (with_reducible first | exact HB.out | apply below_alloc | apply pw_below_drewN | apply below_drew1 | refine below_set ?_ GE271.out) | exact HB.out)⟩
                          · rw [if_neg c41] at H
                            have c41b0 : (a0_0 == 9) = false := beq_eq_false_iff_ne.mpr c41
                            have c41b1 : (a0_0 != 9) = true := bne_iff_ne.mpr c41
                            simp only [Option.some.injEq, Prod.mk.injEq] at H
                            obtain ⟨rfl, rfl⟩ := H
                            go_wp2
                            repeat (go_quiet (fail); try go_wp2)
                            go_ret2
                            exact ⟨by first | rfl | (simp [errW_none, errW_some] <;> rfl) | (simp [*, errW_none, errW_some] <;> rfl), by repeat (first | (with_reducible first | exact HB.out | apply below_alloc | apply pw_below_drewN | apply below_drew1 | refine below_set ?_ GE271.out) | exact HB.out)⟩
end Go.Proofs.YtaijoghpfobdbaaDoor.X
end
section
namespace Go.Proofs.YtaijoghpfobdbaaDoor.X
open Go.RowKit Go.Proofs.YtaijoghpfobdbaaDoorW.PrintWords Go.Proofs.YtaijoghpfobdbaaDoorW.PrintLast Go.Proofs.YtaijoghpfobdbaaDoorW.PrintMore
attribute [local go_sem] max2_int min2_int max_two min_two max_three min_three max_four min_four   -- for this text's walks alone
set_option linter.unusedVariables false
set_option linter.unusedSimpArgs false
end Go.Proofs.YtaijoghpfobdbaaDoor.X
end
section
namespace Go.Proofs.YtaijoghpfobdbaaDoor.X
open Go.RowKit Go.Proofs.YtaijoghpfobdbaaDoorW.PrintWords Go.Proofs.YtaijoghpfobdbaaDoorW.PrintLast Go.Proofs.YtaijoghpfobdbaaDoorW.PrintMore
attribute [local go_sem] max2_int min2_int max_two min_two max_three min_three max_four min_four   -- for this text's walks alone
set_option linter.unusedVariables false
set_option linter.unusedSimpArgs false
end Go.Proofs.YtaijoghpfobdbaaDoor.X
end
section
set_option linter.unusedVariables false
set_option linter.unusedSimpArgs false
namespace Go.Proofs.YtaijoghpfobdbaaDoor.P
open Go.RowKit Go.Proofs.YtaijoghpfobdbaaDoor.X Go.Proofs.YtaijoghpfobdbaaDoorW.PrintWords Go.Proofs.YtaijoghpfobdbaaDoorW.PrintLast
def badF (n : Nd) : Prop := (n.f1 ≠ 0 ∧ n.f0 ≠ 9) ∨ (n.f2 ≠ 0 ∧ n.f0 ≠ 1) ∨ (n.f3.toList ≠ [] ∧ n.f0 ≠ 2)
instance (n : Nd) : Decidable (badF n) := by unfold badF; infer_instance
def kv (n : Nd) : Int × Bool :=
  if badF n then (0, false) else if n.f0 = 1 ∨ n.f0 = 2 ∨ n.f0 = 3 ∨ n.f0 = 4 then (0, true) else if n.f0 = 5 ∨ n.f0 = 11 ∨ n.f0 = 12 then (1, true)
  else if n.f0 = 6 ∨ n.f0 = 7 ∨ n.f0 = 8 ∨ n.f0 = 10 then (2, true) else if n.f0 = 9 then (n.f1, decide (n.f1 ≥ 1)) else (0, false)
def kd (n : Nd) : Option Nat := if (kv n).2 = true then some (kv n).1.toNat else none
theorem kv_nn (n : Nd) (h : (kv n).2 = true) : 0 ≤ (kv n).1 := by
  unfold kv at *
  split at h
  · simp at h
  · split at h
    · simp_all
    · split at h
      · simp_all
      · split at h
        · simp_all
        · split at h
          · simp at h
            simp_all
            omega
          · simp at h
theorem j3_ev (x : Int) (b : Bool) (a0 a1 a2 : Int) (a3 : ByteArray) (a4 : Int) : Ev (fun k => print_kids.j3 k x b a0 a1 a2 a3 a4) (if b = true then (2, true) else if x = 9 then (a1, decide (a1 ≥ 1)) else (0, false)) := by
  refine Ev.step (fun k => by simp only [print_kids.j3]; rfl) ?_
  by_cases h : b = true
  · simp only [if_pos h]; exact Ev.now _
  · by_cases h2 : x = 9
    · simp only [if_neg h, if_pos h2]; exact Ev.now _
    · simp only [if_neg h, if_neg h2]; exact Ev.now _
theorem j2_ev (x : Int) (b : Bool) (a0 a1 a2 : Int) (a3 : ByteArray) (a4 : Int) : Ev (fun k => print_kids.j2 k x b a0 a1 a2 a3 a4) (if b = true then (1, true) else if x = 6 ∨ x = 7 ∨ x = 8 ∨ x = 10 then (2, true) else if x = 9 then (a1, decide (a1 ≥ 1)) else (0, false)) := by
  refine Ev.step (fun k => by simp only [print_kids.j2]; rfl) ?_
  by_cases h : b = true
  · simp only [if_pos h]; exact Ev.now _
  simp only [if_neg h]
  have key : ∀ c : Bool, (c = true ↔ (x = 6 ∨ x = 7 ∨ x = 8 ∨ x = 10)) → Ev (fun k => print_kids.j3 k x c a0 a1 a2 a3 a4) (if x = 6 ∨ x = 7 ∨ x = 8 ∨ x = 10 then (2, true) else if x = 9 then (a1, decide (a1 ≥ 1)) else (0, false)) := by
    intro c hc
    have := j3_ev x c a0 a1 a2 a3 a4
    by_cases hx : x = 6 ∨ x = 7 ∨ x = 8 ∨ x = 10
    · rw [if_pos (hc.2 hx)] at this; rw [if_pos hx]; exact this
    · rw [if_neg (fun e => hx (hc.1 e))] at this; rw [if_neg hx]; exact this
  by_cases h6 : x = 6
  · simp only [if_pos h6]; exact key _ (by simp [h6])
  by_cases h7 : x = 7
  · simp only [if_neg h6, if_pos h7]; exact key _ (by simp [h7])
  by_cases h8 : x = 8
  · simp only [if_neg h6, if_neg h7, if_pos h8]; exact key _ (by simp [h8])
  · simp only [if_neg h6, if_neg h7, if_neg h8]; exact key _ (by simp [h6, h7, h8])
theorem j1_ev (x : Int) (b : Bool) (a0 a1 a2 : Int) (a3 : ByteArray) (a4 : Int) : Ev (fun k => print_kids.j1 k x b a0 a1 a2 a3 a4) (if b = true then (0, true) else if x = 5 ∨ x = 11 ∨ x = 12 then (1, true) else if x = 6 ∨ x = 7 ∨ x = 8 ∨ x = 10 then (2, true) else if x = 9 then (a1, decide (a1 ≥ 1)) else (0, false)) := by
  refine Ev.step (fun k => by simp only [print_kids.j1]; rfl) ?_
  by_cases h : b = true
  · simp only [if_pos h]; exact Ev.now _
  simp only [if_neg h]
  have key : ∀ c : Bool, (c = true ↔ (x = 5 ∨ x = 11 ∨ x = 12)) → Ev (fun k => print_kids.j2 k x c a0 a1 a2 a3 a4) (if x = 5 ∨ x = 11 ∨ x = 12 then (1, true) else if x = 6 ∨ x = 7 ∨ x = 8 ∨ x = 10 then (2, true) else if x = 9 then (a1, decide (a1 ≥ 1)) else (0, false)) := by
    intro c hc
    have := j2_ev x c a0 a1 a2 a3 a4
    by_cases hx : x = 5 ∨ x = 11 ∨ x = 12
    · rw [if_pos (hc.2 hx)] at this; rw [if_pos hx]; exact this
    · rw [if_neg (fun e => hx (hc.1 e))] at this; rw [if_neg hx]; exact this
  by_cases h5 : x = 5
  · simp only [if_pos h5]; exact key _ (by simp [h5])
  by_cases h11 : x = 11
  · simp only [if_neg h5, if_pos h11]; exact key _ (by simp [h11])
  · simp only [if_neg h5, if_neg h11]; exact key _ (by simp [h5, h11])
theorem j0_ev (b : Bool) (a0 a1 a2 : Int) (a3 : ByteArray) (a4 : Int) : Ev (fun k => print_kids.j0 k b a0 a1 a2 a3 a4) (if b = true then (0, false) else if a0 = 1 ∨ a0 = 2 ∨ a0 = 3 ∨ a0 = 4 then (0, true) else if a0 = 5 ∨ a0 = 11 ∨ a0 = 12 then (1, true) else if a0 = 6 ∨ a0 = 7 ∨ a0 = 8 ∨ a0 = 10 then (2, true) else if a0 = 9 then (a1, decide (a1 ≥ 1)) else (0, false)) := by
  refine Ev.step (fun k => by simp only [print_kids.j0]; rfl) ?_
  by_cases h : b = true
  · simp only [if_pos h]; exact Ev.now _
  simp only [if_neg h]
  have key : ∀ c : Bool, (c = true ↔ (a0 = 1 ∨ a0 = 2 ∨ a0 = 3 ∨ a0 = 4)) → Ev (fun k => print_kids.j1 k a0 c a0 a1 a2 a3 a4) (if a0 = 1 ∨ a0 = 2 ∨ a0 = 3 ∨ a0 = 4 then (0, true) else if a0 = 5 ∨ a0 = 11 ∨ a0 = 12 then (1, true) else if a0 = 6 ∨ a0 = 7 ∨ a0 = 8 ∨ a0 = 10 then (2, true) else if a0 = 9 then (a1, decide (a1 ≥ 1)) else (0, false)) := by
    intro c hc
    have := j1_ev a0 c a0 a1 a2 a3 a4
    by_cases hx : a0 = 1 ∨ a0 = 2 ∨ a0 = 3 ∨ a0 = 4
    · rw [if_pos (hc.2 hx)] at this; rw [if_pos hx]; exact this
    · rw [if_neg (fun e => hx (hc.1 e))] at this; rw [if_neg hx]; exact this
  by_cases h5 : a0 = 1
  · simp only [if_pos h5]; exact key _ (by simp [h5])
  by_cases h6 : a0 = 2
  · simp only [if_neg h5, if_pos h6]; exact key _ (by simp [h6])
  by_cases h7 : a0 = 3
  · simp only [if_neg h5, if_neg h6, if_pos h7]; exact key _ (by simp [h7])
  · simp only [if_neg h5, if_neg h6, if_neg h7]; exact key _ (by simp [h5, h6, h7])
theorem kids_ev (n : Nd) : Ev (fun k => print_kids.f k n.f0 n.f1 n.f2 n.f3 n.f4) (kv n) := by
  have key : ∀ c : Bool, (c = true ↔ badF n) → Ev (fun k => print_kids.j0 k c n.f0 n.f1 n.f2 n.f3 n.f4) (kv n) := by
    intro c hc
    have := j0_ev c n.f0 n.f1 n.f2 n.f3 n.f4
    unfold kv
    by_cases hx : badF n
    · rw [if_pos (hc.2 hx)] at this; rw [if_pos hx]; exact this
    · rw [if_neg (fun e => hx (hc.1 e))] at this; rw [if_neg hx]; exact this
  unfold print_kids.f
  unfold badF at key
  by_cases h1 : n.f1 = 0 <;> by_cases h9 : n.f0 = 9 <;> by_cases h2 : n.f2 = 0 <;> by_cases hn : n.f0 = 1 <;> by_cases h3 : n.f3.toList = []
  all_goals first | (exfalso; omega) | skip
  all_goals first | simp only [if_pos h1] | simp only [if_neg h1] | skip
  all_goals first | simp only [if_pos h9] | simp only [if_neg h9] | skip
  all_goals first | simp only [if_pos h2] | simp only [if_neg h2] | skip
  all_goals first | simp only [if_pos hn] | simp only [if_neg hn] | skip
  all_goals first | simp only [if_pos h3] | simp only [if_neg h3] | skip
  all_goals exact key _ (by simp [h1, h2, h3, h9, hn])
end Go.Proofs.YtaijoghpfobdbaaDoor.P
end
section
namespace Go.Proofs.YtaijoghpfobdbaaDoor.X
open Go.RowKit Go.Proofs.YtaijoghpfobdbaaDoorW.PrintWords Go.Proofs.YtaijoghpfobdbaaDoorW.PrintLast Go.Proofs.YtaijoghpfobdbaaDoorW.PrintMore
attribute [local go_sem] max2_int min2_int max_two min_two max_three min_three max_four min_four   -- for this text's walks alone
set_option linter.unusedVariables false
set_option linter.unusedSimpArgs false
def lex_isLetter.f (a0 : Int) : Option (Bool) := if a0 ≥ 97 then (if a0 ≤ 122 then (some true) else (if a0 ≥ 65 then (if a0 ≤ 90 then (some true) else (some (a0 == 95))) else (some (a0 == 95)))) else (if a0 ≥ 65 then (if a0 ≤ 90 then (some true) else (some (a0 == 95))) else (some (a0 == 95)))
set_option maxHeartbeats 8000000 in
set_option maxRecDepth 100000 in
theorem lex_isLetter.calls (a0 : Int) (r : Bool) (w : World) (h : lex_isLetter.f a0 = some r) :
    Calls Tryd.prog 77 #[.int .u8 a0] w fun e w' => e = .returned (.bool r) ∧ Drawn0 w w' := by
  have H : (if a0 ≥ 97 then (if a0 ≤ 122 then (some true) else (if a0 ≥ 65 then (if a0 ≤ 90 then (some true) else (some (a0 == 95))) else (some (a0 == 95)))) else (if a0 ≥ 65 then (if a0 ≤ 90 then (some true) else (some (a0 == 95))) else (some (a0 == 95)))) = some r := h
  clear h
  by_cases c2 : a0 ≥ 97
  · rw [if_pos c2] at H
    have c2b0 : decide (97 ≤ a0) = true := decide_eq_true c2
    clear c2
    by_cases c3 : a0 ≤ 122
    · rw [if_pos c3] at H
      have c3b0 : decide (a0 ≤ 122) = true := decide_eq_true c3
      clear c3
      obtain rfl := Option.some.inj H
      go_enter Tryd.func77, Tryd.ntmps77
      go_wp2
      go_ret
      exact ⟨by first | rfl | (simp; done) | (simp [*]; done), by repeat (first | exact Drawn0.refl _ | apply Drawn0.step)⟩
    · rw [if_neg c3] at H
      have c3b0 : decide (a0 ≤ 122) = false := decide_eq_false c3
      clear c3
      by_cases c4 : a0 ≥ 65
      · rw [if_pos c4] at H
        have c4b0 : decide (65 ≤ a0) = true := decide_eq_true c4
        clear c4
        by_cases c5 : a0 ≤ 90
        · rw [if_pos c5] at H
          have c5b0 : decide (a0 ≤ 90) = true := decide_eq_true c5
          clear c5
          obtain rfl := Option.some.inj H
          go_enter Tryd.func77, Tryd.ntmps77
          go_wp2
          go_ret
          exact ⟨by first | rfl | (simp; done) | (simp [*]; done), by repeat (first | exact Drawn0.refl _ | apply Drawn0.step)⟩
        · rw [if_neg c5] at H
          have c5b0 : decide (a0 ≤ 90) = false := decide_eq_false c5
          clear c5
          obtain rfl := Option.some.inj H
          go_enter Tryd.func77, Tryd.ntmps77
          go_wp2
          go_ret
          exact ⟨by first | rfl | (simp; done) | (simp [*]; done), by repeat (first | exact Drawn0.refl _ | apply Drawn0.step)⟩
      · rw [if_neg c4] at H
        have c4b0 : decide (65 ≤ a0) = false := decide_eq_false c4
        clear c4
        obtain rfl := Option.some.inj H
        go_enter Tryd.func77, Tryd.ntmps77
        go_wp2
        go_ret
        exact ⟨by first | rfl | (simp; done) | (simp [*]; done), by repeat (first | exact Drawn0.refl _ | apply Drawn0.step)⟩
  · rw [if_neg c2] at H
    have c2b0 : decide (97 ≤ a0) = false := decide_eq_false c2
    clear c2
    by_cases c6 : a0 ≥ 65
    · rw [if_pos c6] at H
      have c6b0 : decide (65 ≤ a0) = true := decide_eq_true c6
      clear c6
      by_cases c7 : a0 ≤ 90
      · rw [if_pos c7] at H
        have c7b0 : decide (a0 ≤ 90) = true := decide_eq_true c7
        clear c7
        obtain rfl := Option.some.inj H
        go_enter Tryd.func77, Tryd.ntmps77
        go_wp2
        go_ret
        exact ⟨by first | rfl | (simp; done) | (simp [*]; done), by repeat (first | exact Drawn0.refl _ | apply Drawn0.step)⟩
      · rw [if_neg c7] at H
        have c7b0 : decide (a0 ≤ 90) = false := decide_eq_false c7
        clear c7
        obtain rfl := Option.some.inj H
        go_enter Tryd.func77, Tryd.ntmps77
        go_wp2
        go_ret
        exact ⟨by first | rfl | (simp; done) | (simp [*]; done), by repeat (first | exact Drawn0.refl _ | apply Drawn0.step)⟩
    · rw [if_neg c6] at H
      have c6b0 : decide (65 ≤ a0) = false := decide_eq_false c6
      clear c6
      obtain rfl := Option.some.inj H
      go_enter Tryd.func77, Tryd.ntmps77
      go_wp2
      go_ret
      exact ⟨by first | rfl | (simp; done) | (simp [*]; done), by repeat (first | exact Drawn0.refl _ | apply Drawn0.step)⟩
def lex_run.f (a0 : ByteArray) (a1 : Int) (a2 : Nat) : Option Int := if 0 ≤ a1 ∧ a1 ≤ (a0.size : Int) ∧ a0.size ≤ 2305843009213693952 ∧ (a2 = 80 ∨ a2 = 102 ∨ a2 = 79) then some ((a1.toNat + G.tw a2 (a0.data.toList.drop a1.toNat) : Nat) : Int) else none
theorem lex_run.calls (a0 : ByteArray) (a1 : Int) (a2 : Nat) (r : Int) (w : World) (h : lex_run.f a0 a1 a2 = some r) :
    Calls Tryd.prog 78 #[.string a0, .int .i64 a1, .func (.func a2) #[] #[]] w fun e w' => e = .returned (.int .i64 r) ∧ Drawn0 w w' := by
  unfold lex_run.f at h
  split at h
  · rename_i hs
    obtain ⟨h0, h1, h2, h3⟩ := hs
    obtain rfl := Option.some.inj h
    obtain ⟨n, rfl⟩ := Int.eq_ofNat_of_zero_le h0
    rw [Int.toNat_natCast]
    rcases h3 with rfl | rfl | rfl
    · exact G.runDig a0 n w (by omega) h2
    · exact G.runName a0 n w (by omega) h2
    · exact G.runToken a0 n w (by omega) h2
  · cases h
def lex_isDigit.f (a0 : Int) : Option (Bool) := if a0 ≥ 48 then (some (decide (a0 ≤ 57))) else (some false)
set_option maxHeartbeats 8000000 in
set_option maxRecDepth 100000 in
theorem lex_isDigit.calls (a0 : Int) (r : Bool) (w : World) (h : lex_isDigit.f a0 = some r) :
    Calls Tryd.prog 80 #[.int .u8 a0] w fun e w' => e = .returned (.bool r) ∧ Drawn0 w w' := by
  have H : (if a0 ≥ 48 then (some (decide (a0 ≤ 57))) else (some false)) = some r := h
  clear h
  by_cases c2 : a0 ≥ 48
  · rw [if_pos c2] at H
    have c2b0 : decide (48 ≤ a0) = true := decide_eq_true c2
    clear c2
    obtain rfl := Option.some.inj H
    go_enter Tryd.func80, Tryd.ntmps80
    go_wp2
    go_ret
    exact ⟨by first | rfl | (simp; done) | (simp [*]; done), by repeat (first | exact Drawn0.refl _ | apply Drawn0.step)⟩
  · rw [if_neg c2] at H
    have c2b0 : decide (48 ≤ a0) = false := decide_eq_false c2
    clear c2
    obtain rfl := Option.some.inj H
    go_enter Tryd.func80, Tryd.ntmps80
    go_wp2
    go_ret
    exact ⟨by first | rfl | (simp; done) | (simp [*]; done), by repeat (first | exact Drawn0.refl _ | apply Drawn0.step)⟩
end Go.Proofs.YtaijoghpfobdbaaDoor.X
end
section
namespace Go.Proofs.YtaijoghpfobdbaaDoor.X
open Go.RowKit Go.Proofs.YtaijoghpfobdbaaDoorW.PrintWords Go.Proofs.YtaijoghpfobdbaaDoorW.PrintLast Go.Proofs.YtaijoghpfobdbaaDoorW.PrintMore
attribute [local go_sem] max2_int min2_int max_two min_two max_three min_three max_four min_four   -- for this text's walks alone
set_option linter.unusedVariables false
set_option linter.unusedSimpArgs false
end Go.Proofs.YtaijoghpfobdbaaDoor.X
end
section
namespace Go.Proofs.YtaijoghpfobdbaaDoor.X
open Go.RowKit Go.Proofs.YtaijoghpfobdbaaDoorW.PrintWords Go.Proofs.YtaijoghpfobdbaaDoorW.PrintLast Go.Proofs.YtaijoghpfobdbaaDoorW.PrintMore
attribute [local go_sem] max2_int min2_int max_two min_two max_three min_three max_four min_four   -- for this text's walks alone
set_option linter.unusedVariables false
set_option linter.unusedSimpArgs false
def lex_Name.f (a0 : ByteArray) : Option (Bool) := if (a0.size : Int) ≥ 1 then (if (a0.size : Int) ≤ 64 then (if 0 < (a0.size : Int) then ((lex_isLetter.f (bt a0 0)).bind fun t148 => (if t148 = true then ((lex_run.f a0 0 102).bind fun t149 => (some (t149 == (a0.size : Int)))) else (some false))) else (none)) else (some false)) else (some false)
set_option maxHeartbeats 8000000 in
set_option maxRecDepth 100000 in
theorem lex_Name.calls (a0 : ByteArray) (r : Bool) (w : World) (h : lex_Name.f a0 = some r) :
    Calls Tryd.prog 83 #[.string a0] w fun e w' => e = .returned (.bool r) ∧ Drawn0 w w' := by
  have H : (if (a0.size : Int) ≥ 1 then (if (a0.size : Int) ≤ 64 then (if 0 < (a0.size : Int) then ((lex_isLetter.f (bt a0 0)).bind fun t148 => (if t148 = true then ((lex_run.f a0 0 102).bind fun t149 => (some (t149 == (a0.size : Int)))) else (some false))) else (none)) else (some false)) else (some false)) = some r := h
  clear h
  by_cases c2 : (a0.size : Int) ≥ 1
  · rw [if_pos c2] at H
    have c2b0 : decide (1 ≤ (a0.size : Int)) = true := decide_eq_true c2
    have c2b1 : decide (1 ≤ a0.size) = true := decide_eq_true (by omega)
    clear c2
    by_cases c3 : (a0.size : Int) ≤ 64
    · rw [if_pos c3] at H
      have c3b0 : decide ((a0.size : Int) ≤ 64) = true := decide_eq_true c3
      have c3b1 : decide (a0.size ≤ 64) = true := decide_eq_true (by omega)
      clear c3
      by_cases c4 : 0 < (a0.size : Int)
      · rw [if_pos c4] at H
        have c4b0 : decide (0 < (a0.size : Int)) = true := decide_eq_true c4
        have c4b1 : decide (0 < a0.size) = true := decide_eq_true (by omega)
        clear c4
        replace H := Option.bind_eq_some_iff.mp H
        obtain ⟨t148, A60, H⟩ := H
        replace H : (if t148 = true then ((lex_run.f a0 0 102).bind fun t149 => (some (t149 == (a0.size : Int)))) else (some false)) = some r := H
        have A6 := Aside0.mk A60
        clear A60
        by_cases c7 : t148 = true
        · subst c7
          have H1 : ((lex_run.f a0 0 102).bind fun t149 => (some (t149 == (a0.size : Int)))) = some r := by rw [if_pos rfl] at H; exact H
          clear H
          have H := H1
          clear H1
          replace H := Option.bind_eq_some_iff.mp H
          obtain ⟨t149, A80, H⟩ := H
          replace H : (some (t149 == (a0.size : Int))) = some r := H
          have A8 := Aside0.mk A80
          clear A80
          obtain rfl := Option.some.inj H
          have p5 : 0 ≤ (0 : Int) := (by omega)
          have q5 : 0 < a0.size := (by have : (0 : Int) < (a0.size : Int) := of_decide_eq_true (by first | (with_reducible assumption) | assumption); omega)
          have hx5 : ∀ h : 0 < a0.size, ((a0[0]'h).toNat : Int) = bt a0 0 := bt_at a0 0
          clear p5
          have qi5 : (0 < (a0.size : Int)) = True := eq_true (of_decide_eq_true (by first | (with_reducible assumption) | assumption))
          replace q5 := eq_true q5
          go_enter Tryd.func83, Tryd.ntmps83
          go_wp2_with (first | (go_at_call 77; (with_reducible refine (lex_isLetter.calls (bt a0 0) true _ A6.out).mono ?_); rintro e w' ⟨rfl, ⟨nd, rfl⟩⟩) | (go_at_call 78; (with_reducible refine (lex_run.calls a0 0 102 t149 _ A8.out).mono ?_); rintro e w' ⟨rfl, ⟨nd, rfl⟩⟩))
          go_ret
          exact ⟨by first | rfl | (simp; done) | (simp [*]; done), by repeat (first | exact Drawn0.refl _ | apply Drawn0.step)⟩
        · replace c7 := Bool.eq_false_iff.mpr c7
          subst c7
          have H1 : (some false) = some r := by rw [if_neg (show ¬ (false = true) by decide)] at H; exact H
          clear H
          have H := H1
          clear H1
          obtain rfl := Option.some.inj H
          have p5 : 0 ≤ (0 : Int) := (by omega)
          have q5 : 0 < a0.size := (by have : (0 : Int) < (a0.size : Int) := of_decide_eq_true (by first | (with_reducible assumption) | assumption); omega)
          have hx5 : ∀ h : 0 < a0.size, ((a0[0]'h).toNat : Int) = bt a0 0 := bt_at a0 0
          clear p5
          have qi5 : (0 < (a0.size : Int)) = True := eq_true (of_decide_eq_true (by first | (with_reducible assumption) | assumption))
          replace q5 := eq_true q5
          go_enter Tryd.func83, Tryd.ntmps83
          go_wp2_with (first | (go_at_call 77; (with_reducible refine (lex_isLetter.calls (bt a0 0) false _ A6.out).mono ?_); rintro e w' ⟨rfl, ⟨nd, rfl⟩⟩))
          go_ret
          exact ⟨by first | rfl | (simp; done) | (simp [*]; done), by repeat (first | exact Drawn0.refl _ | apply Drawn0.step)⟩
      · rw [if_neg c4] at H
        exact absurd H (by simp)
    · rw [if_neg c3] at H
      have c3b0 : decide ((a0.size : Int) ≤ 64) = false := decide_eq_false c3
      have c3b1 : decide (a0.size ≤ 64) = false := decide_eq_false (by omega)
      clear c3
      obtain rfl := Option.some.inj H
      go_enter Tryd.func83, Tryd.ntmps83
      go_wp2
      go_ret
      exact ⟨by first | rfl | (simp; done) | (simp [*]; done), by repeat (first | exact Drawn0.refl _ | apply Drawn0.step)⟩
  · rw [if_neg c2] at H
    have c2b0 : decide (1 ≤ (a0.size : Int)) = false := decide_eq_false c2
    have c2b1 : decide (1 ≤ a0.size) = false := decide_eq_false (by omega)
    clear c2
    obtain rfl := Option.some.inj H
    go_enter Tryd.func83, Tryd.ntmps83
    go_wp2
    go_ret
    exact ⟨by first | rfl | (simp; done) | (simp [*]; done), by repeat (first | exact Drawn0.refl _ | apply Drawn0.step)⟩
end Go.Proofs.YtaijoghpfobdbaaDoor.X
end
section
namespace Go.Proofs.YtaijoghpfobdbaaDoor.X
open Go.RowKit Go.Proofs.YtaijoghpfobdbaaDoorW.PrintWords Go.Proofs.YtaijoghpfobdbaaDoorW.PrintLast Go.Proofs.YtaijoghpfobdbaaDoorW.PrintMore
attribute [local go_sem] max2_int min2_int max_two min_two max_three min_three max_four min_four   -- for this text's walks alone
set_option linter.unusedVariables false
set_option linter.unusedSimpArgs false
mutual
def lex_Quote.l0 : Nat → ByteArray → List Int → Int → Int → Option (ByteArray)
  | 0, _, _, _, _ => none
  | k + 1, x0, x3, x8, x9 => if x9 < x8 then (if 0 ≤ x9 then (if x9 < (x0.size : Int) then (if (bt x0 x9) = 92 then (lex_Quote.j1 k x0 x3 (bt x0 x9) x8 x9 true) else (lex_Quote.j1 k x0 x3 (bt x0 x9) x8 x9 ((bt x0 x9) == 34))) else (none)) else (none)) else (if x3.length < 140737488355328 then (some (strOfNums (x3 ++ [34]))) else (none))
def lex_Quote.j1 : Nat → ByteArray → List Int → Int → Int → Int → Bool → Option (ByteArray)
  | 0, _, _, _, _, _, _ => none
  | k + 1, x0, x3, x5, x8, x9, x24 => if x24 = true then ((some (([92, x5] : List Int) : List Int)).bind fun y156 => (if x3.length + y156.length < 140737488355328 then (lex_Quote.l0 k x0 (x3 ++ y156) x8 (wrap64 (x9 + 1))) else (none))) else (if x5 = 10 then ((some (([92, 110] : List Int) : List Int)).bind fun y162 => (if x3.length + y162.length < 140737488355328 then (lex_Quote.l0 k x0 (x3 ++ y162) x8 (wrap64 (x9 + 1))) else (none))) else (if x5 = 9 then ((some (([92, 116] : List Int) : List Int)).bind fun y168 => (if x3.length + y168.length < 140737488355328 then (lex_Quote.l0 k x0 (x3 ++ y168) x8 (wrap64 (x9 + 1))) else (none))) else (if x5 ≥ 32 then (if x5 ≤ 126 then (if x3.length < 140737488355328 then (lex_Quote.l0 k x0 (x3 ++ [x5]) x8 (wrap64 (x9 + 1))) else (none)) else (if 0 ≤ (x5 / 16) then (if (x5 / 16) < 16 then (if 0 ≤ (Go.bits .and .u8 x5 15) then (if (Go.bits .and .u8 x5 15) < 16 then ((some (([92, 120, bt (⟨#[48, 49, 50, 51, 52, 53, 54, 55, 56, 57, 97, 98, 99, 100, 101, 102]⟩ : ByteArray) (x5 / 16), bt (⟨#[48, 49, 50, 51, 52, 53, 54, 55, 56, 57, 97, 98, 99, 100, 101, 102]⟩ : ByteArray) (Go.bits .and .u8 x5 15)] : List Int) : List Int)).bind fun y177 => (if x3.length + y177.length < 140737488355328 then (lex_Quote.l0 k x0 (x3 ++ y177) x8 (wrap64 (x9 + 1))) else (none))) else (none)) else (none)) else (none)) else (none))) else (if 0 ≤ (x5 / 16) then (if (x5 / 16) < 16 then (if 0 ≤ (Go.bits .and .u8 x5 15) then (if (Go.bits .and .u8 x5 15) < 16 then ((some (([92, 120, bt (⟨#[48, 49, 50, 51, 52, 53, 54, 55, 56, 57, 97, 98, 99, 100, 101, 102]⟩ : ByteArray) (x5 / 16), bt (⟨#[48, 49, 50, 51, 52, 53, 54, 55, 56, 57, 97, 98, 99, 100, 101, 102]⟩ : ByteArray) (Go.bits .and .u8 x5 15)] : List Int) : List Int)).bind fun y183 => (if x3.length + y183.length < 140737488355328 then (lex_Quote.l0 k x0 (x3 ++ y183) x8 (wrap64 (x9 + 1))) else (none))) else (none)) else (none)) else (none)) else (none)))))
end
def lex_Quote.f (k : Nat) (a0 : ByteArray) : Option (ByteArray) := lex_Quote.l0 k a0 (([34] : List Int)) (a0.size : Int) 0
def lex_Quote.T6 : Bool × List (List Nat × List Nat) := (true, [([], []), ([], []), ([1], [1]), ([2], [2]), ([], []), ([4], [4]), ([5], [5]), ([3, 6], [3, 6]), ([0, 7], [0, 7]), ([8, 8, 0, 1, 2, 3, 4, 5, 6, 7, 8], [0, 8])])
def lex_Quote.B6 : List Nat := [0, 0, 2, 6, 0, 16, 48, 126, 255, 511]
theorem lex_Quote.tab6 : rtab .any (opsOf Tryd.f22 6) = lex_Quote.T6 := by kernel_rfl
theorem lex_Quote.bits6 : waitsOk lex_Quote.T6.2 lex_Quote.B6 = true := by kernel_rfl
set_option maxHeartbeats 8000000 in
set_option maxRecDepth 100000 in
theorem lex_Quote.calls (k : Nat) (a0 : ByteArray) (r : ByteArray) (w : World) (h : lex_Quote.f k a0 = some r) :
    Calls Tryd.prog 22 #[.string a0] w fun e w' => e = .returned (.string r) ∧ Below w.heap.size w w' := by
  have HB := Aside0.mk (Below.refl w.heap.size w)
  have H : (lex_Quote.l0 k a0 (([34] : List Int)) (a0.size : Int) 0) = some r := h
  clear h
  obtain ⟨y150, hy150⟩ : ∃ y_ : List Int, y_ = (([34] : List Int)) := ⟨_, rfl⟩
  replace H : (lex_Quote.l0 k a0 y150 (a0.size : Int) 0) = some r := by first | (rw [hy150]; with_reducible exact H) | (have H2_ := (Option.bind_some _ _).symm.trans H; rw [hy150]; with_reducible exact H2_) | (have H2_ := (Option.bind_some _ _).symm.trans H; with_reducible exact H2_) | with_reducible exact H | (rw [hy150]; exact H) | exact H
  have Ny150 := Aside0.mk hy150
  clear hy150
  have H' := Aside0.mk H
  clear H
  go_enter Tryd.func22, Tryd.ntmps22
  go_wp2_with (first | ((with_reducible refine gate_dst (N := 6) rfl ?_); refine Kd.R_lit (Kd.int .u8) _ 5 ?hg (N := 6) ?hd (xs := ([34] : List Int)) (inner := [.int .u8 34]) (ok := fun _ => True) (okp := fun _ => True) ?hr ?hp (fun _ hk => hk) trivial (Below.refl _ _) (Nat.le_refl _) (by simp) ?_; (case hd => rfl); (case hg => rfl); (case hr => first | (go_simp; done) | (go_simp; rfl)); (case hp => exact (Reps.one (show Kd.M (Kd.int .u8) _ _ _ 34 [.int .u8 34] from rfl) (Reps.none _ _))); intro v151 w2 ho3 hb hg_ hnew_; clear hg_ hnew_; (first | rw [← Ny150.out] at ho3 | (simp only [Int.reduceToNat] at ho3; rw [← Ny150.out] at ho3)); have n0_ := Aside0.mk (Kd.R_lower ho3 (below_size (by repeat (first | (with_reducible first | exact HB.out | apply below_alloc | apply pw_below_drewN | apply below_drew1) | exact HB.out)))); have n1_ := Aside0.mk (below_step (by repeat (first | (with_reducible first | exact HB.out | apply below_alloc | apply pw_below_drewN | apply below_drew1) | exact HB.out)) hb); clear HB; have HO152 := n0_; have HB := n1_; clear n0_ n1_; clear hb ho3))
  go_loopg [3, 9] k (fun kq v3 v9 w' => ∃ (x3_1 : List Int) (x9_1 : Int), v9 = .int .i64 x9_1 ∧ Aside0 (lex_Quote.l0 kq a0 x3_1 (a0.size : Int) x9_1 = some r) ∧ Aside0 (kq ≤ k) ∧ Aside0 (Kd.R (Kd.int .u8) 5 w' w.heap.size (fun _ => True) v3 x3_1) ∧ Aside0 (Below w.heap.size w w'))
  case atStart => exact ⟨(y150), (0), (by first | rfl | (simp; done) | (simp [*]; done)), H', ⟨Nat.le_refl _⟩, ⟨by (with_reducible repeat (first | apply Kd.R_alloc | apply Kd.R_drewN | apply Kd.R_drew)); exact HO152.out⟩, ⟨by repeat (first | (with_reducible first | exact HB.out | apply below_alloc | apply pw_below_drewN | apply below_drew1) | exact HB.out)⟩⟩
  case round =>
    clear H'
    try clear c2
    try clear p2
    obtain ⟨x3_1, x9_1, rfl, HA, HK1, HO_3, HB⟩ := hrel
    cases gk with
    | zero => exact absurd HA.out (by simp [lex_Quote.l0])
    | succ k1 =>
      have H := HA.out
      clear HA
      simp only [lex_Quote.l0] at H
      by_cases c4 : x9_1 < (a0.size : Int)
      · rw [if_pos c4] at H
        have c4b0 : decide (x9_1 < (a0.size : Int)) = true := decide_eq_true c4
        clear c4
        by_cases c5 : 0 ≤ x9_1
        · rw [if_pos c5] at H
          have c5b0 : decide (0 ≤ x9_1) = true := decide_eq_true c5
          clear c5
          by_cases c6 : x9_1 < (a0.size : Int)
          · rw [if_pos c6] at H
            have c6b0 : decide (x9_1 < (a0.size : Int)) = true := decide_eq_true c6
            clear c6
            have HC8 := Aside0.mk H
            clear H
            have p7 : 0 ≤ (x9_1 : Int) := of_decide_eq_true (by first | (with_reducible assumption) | assumption)
            have q7 : x9_1 < (a0.size : Int) := of_decide_eq_true (by first | (with_reducible assumption) | assumption)
            have hx7 := bt_at a0 x9_1
            replace p7 := eq_true p7
            replace q7 := eq_true q7
            go_upto_region 7 with (fail)
            go_cut [24] (fun v24 wc => ∃ (kq : Nat) (x24_7 : Bool), v24 = .bool x24_7 ∧ Aside0 (lex_Quote.j1 kq a0 x3_1 (bt a0 x9_1) (a0.size : Int) x9_1 x24_7 = some r) ∧ Aside0 (kq ≤ k1) ∧ Aside0 (Kd.R (Kd.int .u8) 5 wc w.heap.size (fun _ => True) u3 x3_1) ∧ Aside0 (Below w.heap.size w wc))
            case first =>
              have H := HC8.out
              clear HC8
              by_cases c9 : (bt a0 x9_1) = 92
              · rw [if_pos c9] at H
                have c9b0 : ((bt a0 x9_1) == 92) = true := beq_iff_eq.mpr c9
                have c9b1 : ((bt a0 x9_1) != 92) = false := bne_eq_false_iff_eq.mpr c9
                clear c9
                (first | rw [c9b0] | (simp only [i64_w, i32_w]; rw [c9b0]) | skip)
                have H' := Aside0.mk H
                clear H
                go_wp2
                go_meet
                case rel => exact ⟨_, (true), (by first | rfl | (simp; done) | (simp [*]; done)), H', ⟨by have := HK1.out; first | omega | exact Nat.le_refl _⟩, ⟨by (with_reducible repeat (first | apply Kd.R_alloc | apply Kd.R_drewN | apply Kd.R_drew)); exact HO_3.out⟩, ⟨by repeat (first | (with_reducible first | exact HB.out | apply below_alloc | apply pw_below_drewN | apply below_drew1) | exact HB.out)⟩⟩
              · rw [if_neg c9] at H
                have c9b0 : ((bt a0 x9_1) == 92) = false := beq_eq_false_iff_ne.mpr c9
                have c9b1 : ((bt a0 x9_1) != 92) = true := bne_iff_ne.mpr c9
                (first | rw [c9b0] | (simp only [i64_w, i32_w]; rw [c9b0]) | skip)
                have H' := Aside0.mk H
                clear H
                go_wp2
                go_meet
                case rel => exact ⟨_, (((bt a0 x9_1) == 34)), (by first | rfl | (simp; done) | (simp [*]; done)), H', ⟨by have := HK1.out; first | omega | exact Nat.le_refl _⟩, ⟨by (with_reducible repeat (first | apply Kd.R_alloc | apply Kd.R_drewN | apply Kd.R_drew)); exact HO_3.out⟩, ⟨by repeat (first | (with_reducible first | exact HB.out | apply below_alloc | apply pw_below_drewN | apply below_drew1) | exact HB.out)⟩⟩
            case rest =>
              clear HC8
              try clear c2
              try clear p2
              try clear c4
              try clear c4b0
              try clear c5
              try clear c5b0
              try clear c6
              try clear c6b0
              try clear p7
              try clear q7
              try clear hx7
              try clear c9
              try clear c9b0
              try clear c9b1
              try clear p2
              try clear p7
              try clear q7
              obtain ⟨kq, x24_7, rfl, HA, HJ7, HO_3, HB⟩ := hcut
              cases kq with
              | zero => exact absurd HA.out (by simp [lex_Quote.j1])
              | succ kj7 =>
                have H := HA.out
                clear HA
                simp only [lex_Quote.j1] at H
                by_cases c10 : x24_7 = true
                · subst c10
                  have H1 : ((some (([92, (bt a0 x9_1)] : List Int) : List Int)).bind fun y156 => (if x3_1.length + y156.length < 140737488355328 then (lex_Quote.l0 kj7 a0 (x3_1 ++ y156) (a0.size : Int) (wrap64 (x9_1 + 1))) else (none))) = some r := by rw [if_pos rfl] at H; exact H
                  clear H
                  have H := H1
                  clear H1
                  obtain ⟨y156, hy156⟩ : ∃ y_ : List Int, y_ = (([92, (bt a0 x9_1)] : List Int)) := ⟨_, rfl⟩
                  replace H : (if x3_1.length + y156.length < 140737488355328 then (lex_Quote.l0 kj7 a0 (x3_1 ++ y156) (a0.size : Int) (wrap64 (x9_1 + 1))) else (none)) = some r := by first | (rw [hy156]; with_reducible exact H) | (have H2_ := (Option.bind_some _ _).symm.trans H; rw [hy156]; with_reducible exact H2_) | (have H2_ := (Option.bind_some _ _).symm.trans H; with_reducible exact H2_) | with_reducible exact H | (rw [hy156]; exact H) | exact H
                  have Ny156 := Aside0.mk hy156
                  clear hy156
                  by_cases c11 : x3_1.length + y156.length < 140737488355328
                  · rw [if_pos c11] at H
                    have LMc11 := Aside0.mk c11
                    clear c11
                    obtain ⟨y159, hy159⟩ : ∃ y_ : List Int, y_ = (x3_1 ++ y156) := ⟨_, rfl⟩
                    replace H : (lex_Quote.l0 kj7 a0 y159 (a0.size : Int) (wrap64 (x9_1 + 1))) = some r := by first | (rw [hy159]; with_reducible exact H) | (have H2_ := (Option.bind_some _ _).symm.trans H; rw [hy159]; with_reducible exact H2_) | (have H2_ := (Option.bind_some _ _).symm.trans H; with_reducible exact H2_) | with_reducible exact H | (rw [hy159]; exact H) | exact H
                    have Ny159 := Aside0.mk hy159
                    clear hy159
                    have H' := Aside0.mk H
                    clear H
                    go_wp2_with (first | ((with_reducible refine gate_dst (N := 33) rfl ?_); refine Kd.R_lit (Kd.int .u8) _ 5 ?hg (N := 33) ?hd (xs := ([92, (bt a0 x9_1)] : List Int)) (inner := [.int .u8 92, .int .u8 (bt a0 x9_1)]) (ok := fun _ => True) (okp := fun _ => True) ?hr ?hp (fun _ hk => hk) trivial (Below.refl _ _) (Nat.le_refl _) (by simp) ?_; (case hd => rfl); (case hg => rfl); (case hr => first | (go_simp; done) | (go_simp; rfl)); (case hp => exact (Reps.one (show Kd.M (Kd.int .u8) _ _ _ 92 [.int .u8 92] from rfl) (Reps.one (show Kd.M (Kd.int .u8) _ _ _ (bt a0 x9_1) [.int .u8 (bt a0 x9_1)] from rfl) (Reps.none _ _)))); intro v157 w12 ho13 hb hg_ hnew_; clear hg_ hnew_; (first | rw [← Ny156.out] at ho13 | (simp only [Int.reduceToNat] at ho13; rw [← Ny156.out] at ho13)); have n0_ := Aside0.mk (Kd.R_elder' (by (with_reducible repeat (first | apply Kd.R_alloc | apply Kd.R_drewN | apply Kd.R_drew)); exact HO_3.out) (Kd.R_base ho13) hb); have n1_ := Aside0.mk (Kd.R_lower (Kd.R_new' ho13 (Kd.R_lt (by (with_reducible repeat (first | apply Kd.R_alloc | apply Kd.R_drewN | apply Kd.R_drew)); exact HO_3.out))) (below_size (by repeat (first | (with_reducible first | exact HB.out | apply below_alloc | apply pw_below_drewN | apply below_drew1) | exact HB.out)))); have n2_ := Aside0.mk (below_step (by repeat (first | (with_reducible first | exact HB.out | apply below_alloc | apply pw_below_drewN | apply below_drew1) | exact HB.out)) hb); clear HO_3; clear HB; have HO_3 := n0_; have HO158 := n1_; have HB := n2_; clear n0_ n1_ n2_; clear hb ho13; obtain ⟨Ao15, co15, eo15⟩ := Kd.R_slice HO158.out; subst eo15) | ((with_reducible refine gate_builtin (b := .append) (xs := #[.tmp 31, .tmp 33]) rfl ?_); at_builtin; refine Kd.R_append_rows (Kd.int .u8) (w0 := w) w.heap.size rfl (.tmp 31) (.tmp 33) 70 5 (.int .u8 0) 1 rfl Tryd.underlying70 info5 rfl (by decide) (by omega) u3 x3_1 y156 _ _ _ (fun k_ => some k_ ≠ (.slice Ao15 y156.length co15 : Value).ownBlock) (fun _ => False) rfl rfl ?aO ?aR (fun _ _ h => h) (fun _ h => h.elim) ?aF ?aB ?aS ?aL ?_; (case aR => repeat (first | exact (Kd.R_reads' HO158.out).2.2 | (with_reducible refine Kd.C_alloc ?_ _) | (with_reducible refine Kd.C_drewN ?_ _) | (with_reducible refine Kd.C_drew ?_))); (case aB => exact (by repeat (first | (with_reducible first | exact HB.out | apply below_alloc | apply pw_below_drewN | apply below_drew1) | exact HB.out))); (case aF => exact (fun k_ hk => Kd.fresh' (Kd.R_lt (by (with_reducible repeat (first | apply Kd.R_alloc | apply Kd.R_drewN | apply Kd.R_drew)); exact HO158.out)) k_ hk)); (case aO => exact (by (with_reducible repeat (first | apply Kd.R_alloc | apply Kd.R_drewN | apply Kd.R_drew)); exact Kd.R_mono HO_3.out (fun _ hk => hk.2))); (case aS => exact (below_size (by repeat (first | (with_reducible first | exact HB.out | apply below_alloc | apply pw_below_drewN | apply below_drew1) | exact HB.out)))); (case aL => have := LMc11.out; omega); intro v160 w14 ho hb hg hat; rw [← Ny159.out] at ho; have n0_ := Aside0.mk (Kd.R_after (ok := (fun _ => True)) (by (with_reducible repeat (first | apply Kd.R_alloc | apply Kd.R_drewN | apply Kd.R_drew)); exact HO158.out) hg hat); have n1_ := Aside0.mk (hb); have n2_ := Aside0.mk (ho); clear HO158; clear HB; clear HO_3; have HO158 := n0_; have HB := n1_; have HO161 := n2_; clear n0_ n1_ n2_; clear ho hb hg hat))
                    go_roundg kj7
                    case measure => have := HK1.out; have := HJ7.out; omega
                    case rel => exact ⟨(y159), (wrap64 (x9_1 + 1)), (by first | rfl | (simp; done) | (simp [*]; done)), H', ⟨by have := HK1.out; have := HJ7.out; omega⟩, ⟨by (with_reducible repeat (first | apply Kd.R_alloc | apply Kd.R_drewN | apply Kd.R_drew)); exact Kd.R_mono HO161.out (fun _ hk => trivial)⟩, ⟨by repeat (first | (with_reducible first | exact HB.out | apply below_alloc | apply pw_below_drewN | apply below_drew1) | exact HB.out)⟩⟩
                  · rw [if_neg c11] at H
                    exact absurd H (by simp)
                · replace c10 := Bool.eq_false_iff.mpr c10
                  subst c10
                  have H1 : (if (bt a0 x9_1) = 10 then ((some (([92, 110] : List Int) : List Int)).bind fun y162 => (if x3_1.length + y162.length < 140737488355328 then (lex_Quote.l0 kj7 a0 (x3_1 ++ y162) (a0.size : Int) (wrap64 (x9_1 + 1))) else (none))) else (if (bt a0 x9_1) = 9 then ((some (([92, 116] : List Int) : List Int)).bind fun y168 => (if x3_1.length + y168.length < 140737488355328 then (lex_Quote.l0 kj7 a0 (x3_1 ++ y168) (a0.size : Int) (wrap64 (x9_1 + 1))) else (none))) else (if (bt a0 x9_1) ≥ 32 then (if (bt a0 x9_1) ≤ 126 then (if x3_1.length < 140737488355328 then (lex_Quote.l0 kj7 a0 (x3_1 ++ [(bt a0 x9_1)]) (a0.size : Int) (wrap64 (x9_1 + 1))) else (none)) else (if 0 ≤ ((bt a0 x9_1) / 16) then (if ((bt a0 x9_1) / 16) < 16 then (if 0 ≤ (Go.bits .and .u8 (bt a0 x9_1) 15) then (if (Go.bits .and .u8 (bt a0 x9_1) 15) < 16 then ((some (([92, 120, bt (⟨#[48, 49, 50, 51, 52, 53, 54, 55, 56, 57, 97, 98, 99, 100, 101, 102]⟩ : ByteArray) ((bt a0 x9_1) / 16), bt (⟨#[48, 49, 50, 51, 52, 53, 54, 55, 56, 57, 97, 98, 99, 100, 101, 102]⟩ : ByteArray) (Go.bits .and .u8 (bt a0 x9_1) 15)] : List Int) : List Int)).bind fun y177 => (if x3_1.length + y177.length < 140737488355328 then (lex_Quote.l0 kj7 a0 (x3_1 ++ y177) (a0.size : Int) (wrap64 (x9_1 + 1))) else (none))) else (none)) else (none)) else (none)) else (none))) else (if 0 ≤ ((bt a0 x9_1) / 16) then (if ((bt a0 x9_1) / 16) < 16 then (if 0 ≤ (Go.bits .and .u8 (bt a0 x9_1) 15) then (if (Go.bits .and .u8 (bt a0 x9_1) 15) < 16 then ((some (([92, 120, bt (⟨#[48, 49, 50, 51, 52, 53, 54, 55, 56, 57, 97, 98, 99, 100, 101, 102]⟩ : ByteArray) ((bt a0 x9_1) / 16), bt (⟨#[48, 49, 50, 51, 52, 53, 54, 55, 56, 57, 97, 98, 99, 100, 101, 102]⟩ : ByteArray) (Go.bits .and .u8 (bt a0 x9_1) 15)] : List Int) : List Int)).bind fun y183 => (if x3_1.length + y183.length < 140737488355328 then (lex_Quote.l0 kj7 a0 (x3_1 ++ y183) (a0.size : Int) (wrap64 (x9_1 + 1))) else (none))) else (none)) else (none)) else (none)) else (none))))) = some r := by rw [if_neg (show ¬ (false = true) by decide)] at H; exact H
                  clear H
                  have H := H1
                  clear H1
                  by_cases c16 : (bt a0 x9_1) = 10
                  · rw [if_pos c16] at H
                    have c16b0 : ((bt a0 x9_1) == 10) = true := beq_iff_eq.mpr c16
                    have c16b1 : ((bt a0 x9_1) != 10) = false := bne_eq_false_iff_eq.mpr c16
                    clear c16
                    obtain ⟨y162, hy162⟩ : ∃ y_ : List Int, y_ = (([92, 110] : List Int)) := ⟨_, rfl⟩
                    replace H : (if x3_1.length + y162.length < 140737488355328 then (lex_Quote.l0 kj7 a0 (x3_1 ++ y162) (a0.size : Int) (wrap64 (x9_1 + 1))) else (none)) = some r := by first | (rw [hy162]; with_reducible exact H) | (have H2_ := (Option.bind_some _ _).symm.trans H; rw [hy162]; with_reducible exact H2_) | (have H2_ := (Option.bind_some _ _).symm.trans H; with_reducible exact H2_) | with_reducible exact H | (rw [hy162]; exact H) | exact H
                    have Ny162 := Aside0.mk hy162
                    clear hy162
                    by_cases c17 : x3_1.length + y162.length < 140737488355328
                    · rw [if_pos c17] at H
                      have LMc17 := Aside0.mk c17
                      clear c17
                      obtain ⟨y165, hy165⟩ : ∃ y_ : List Int, y_ = (x3_1 ++ y162) := ⟨_, rfl⟩
                      replace H : (lex_Quote.l0 kj7 a0 y165 (a0.size : Int) (wrap64 (x9_1 + 1))) = some r := by first | (rw [hy165]; with_reducible exact H) | (have H2_ := (Option.bind_some _ _).symm.trans H; rw [hy165]; with_reducible exact H2_) | (have H2_ := (Option.bind_some _ _).symm.trans H; with_reducible exact H2_) | with_reducible exact H | (rw [hy165]; exact H) | exact H
                      have Ny165 := Aside0.mk hy165
                      clear hy165
                      have H' := Aside0.mk H
                      clear H
                      go_wp2_with (first | ((with_reducible refine gate_dst (N := 39) rfl ?_); refine Kd.R_lit (Kd.int .u8) _ 5 ?hg (N := 39) ?hd (xs := ([92, 110] : List Int)) (inner := [.int .u8 92, .int .u8 110]) (ok := fun _ => True) (okp := fun _ => True) ?hr ?hp (fun _ hk => hk) trivial (Below.refl _ _) (Nat.le_refl _) (by simp) ?_; (case hd => rfl); (case hg => rfl); (case hr => first | (go_simp; done) | (go_simp; rfl)); (case hp => exact (Reps.one (show Kd.M (Kd.int .u8) _ _ _ 92 [.int .u8 92] from rfl) (Reps.one (show Kd.M (Kd.int .u8) _ _ _ 110 [.int .u8 110] from rfl) (Reps.none _ _)))); intro v163 w18 ho19 hb hg_ hnew_; clear hg_ hnew_; (first | rw [← Ny162.out] at ho19 | (simp only [Int.reduceToNat] at ho19; rw [← Ny162.out] at ho19)); have n0_ := Aside0.mk (Kd.R_elder' (by (with_reducible repeat (first | apply Kd.R_alloc | apply Kd.R_drewN | apply Kd.R_drew)); exact HO_3.out) (Kd.R_base ho19) hb); have n1_ := Aside0.mk (Kd.R_lower (Kd.R_new' ho19 (Kd.R_lt (by (with_reducible repeat (first | apply Kd.R_alloc | apply Kd.R_drewN | apply Kd.R_drew)); exact HO_3.out))) (below_size (by repeat (first | (with_reducible first | exact HB.out | apply below_alloc | apply pw_below_drewN | apply below_drew1) | exact HB.out)))); have n2_ := Aside0.mk (below_step (by repeat (first | (with_reducible first | exact HB.out | apply below_alloc | apply pw_below_drewN | apply below_drew1) | exact HB.out)) hb); clear HO_3; clear HB; have HO_3 := n0_; have HO164 := n1_; have HB := n2_; clear n0_ n1_ n2_; clear hb ho19; obtain ⟨Ao21, co21, eo21⟩ := Kd.R_slice HO164.out; subst eo21) | ((with_reducible refine gate_builtin (b := .append) (xs := #[.tmp 38, .tmp 39]) rfl ?_); at_builtin; refine Kd.R_append_rows (Kd.int .u8) (w0 := w) w.heap.size rfl (.tmp 38) (.tmp 39) 70 5 (.int .u8 0) 1 rfl Tryd.underlying70 info5 rfl (by decide) (by omega) u3 x3_1 y162 _ _ _ (fun k_ => some k_ ≠ (.slice Ao21 y162.length co21 : Value).ownBlock) (fun _ => False) rfl rfl ?aO ?aR (fun _ _ h => h) (fun _ h => h.elim) ?aF ?aB ?aS ?aL ?_; (case aR => repeat (first | exact (Kd.R_reads' HO164.out).2.2 | (with_reducible refine Kd.C_alloc ?_ _) | (with_reducible refine Kd.C_drewN ?_ _) | (with_reducible refine Kd.C_drew ?_))); (case aB => exact (by repeat (first | (with_reducible first | exact HB.out | apply below_alloc | apply pw_below_drewN | apply below_drew1) | exact HB.out))); (case aF => exact (fun k_ hk => Kd.fresh' (Kd.R_lt (by (with_reducible repeat (first | apply Kd.R_alloc | apply Kd.R_drewN | apply Kd.R_drew)); exact HO164.out)) k_ hk)); (case aO => exact (by (with_reducible repeat (first | apply Kd.R_alloc | apply Kd.R_drewN | apply Kd.R_drew)); exact Kd.R_mono HO_3.out (fun _ hk => hk.2))); (case aS => exact (below_size (by repeat (first | (with_reducible first | exact HB.out | apply below_alloc | apply pw_below_drewN | apply below_drew1) | exact HB.out)))); (case aL => have := LMc17.out; omega); intro v166 w20 ho hb hg hat; rw [← Ny165.out] at ho; have n0_ := Aside0.mk (Kd.R_after (ok := (fun _ => True)) (by (with_reducible repeat (first | apply Kd.R_alloc | apply Kd.R_drewN | apply Kd.R_drew)); exact HO164.out) hg hat); have n1_ := Aside0.mk (hb); have n2_ := Aside0.mk (ho); clear HO164; clear HB; clear HO_3; have HO164 := n0_; have HB := n1_; have HO167 := n2_; clear n0_ n1_ n2_; clear ho hb hg hat))
                      go_roundg kj7
                      case measure => have := HK1.out; have := HJ7.out; omega
                      case rel => exact ⟨(y165), (wrap64 (x9_1 + 1)), (by first | rfl | (simp; done) | (simp [*]; done)), H', ⟨by have := HK1.out; have := HJ7.out; omega⟩, ⟨by (with_reducible repeat (first | apply Kd.R_alloc | apply Kd.R_drewN | apply Kd.R_drew)); exact Kd.R_mono HO167.out (fun _ hk => trivial)⟩, ⟨by repeat (first | (with_reducible first | exact HB.out | apply below_alloc | apply pw_below_drewN | apply below_drew1) | exact HB.out)⟩⟩
                    · rw [if_neg c17] at H
                      exact absurd H (by simp)
                  · rw [if_neg c16] at H
                    have c16b0 : ((bt a0 x9_1) == 10) = false := beq_eq_false_iff_ne.mpr c16
                    have c16b1 : ((bt a0 x9_1) != 10) = true := bne_iff_ne.mpr c16
                    by_cases c22 : (bt a0 x9_1) = 9
                    · rw [if_pos c22] at H
                      have c22b0 : ((bt a0 x9_1) == 9) = true := beq_iff_eq.mpr c22
                      have c22b1 : ((bt a0 x9_1) != 9) = false := bne_eq_false_iff_eq.mpr c22
                      clear c22
                      obtain ⟨y168, hy168⟩ : ∃ y_ : List Int, y_ = (([92, 116] : List Int)) := ⟨_, rfl⟩
                      replace H : (if x3_1.length + y168.length < 140737488355328 then (lex_Quote.l0 kj7 a0 (x3_1 ++ y168) (a0.size : Int) (wrap64 (x9_1 + 1))) else (none)) = some r := by first | (rw [hy168]; with_reducible exact H) | (have H2_ := (Option.bind_some _ _).symm.trans H; rw [hy168]; with_reducible exact H2_) | (have H2_ := (Option.bind_some _ _).symm.trans H; with_reducible exact H2_) | with_reducible exact H | (rw [hy168]; exact H) | exact H
                      have Ny168 := Aside0.mk hy168
                      clear hy168
                      by_cases c23 : x3_1.length + y168.length < 140737488355328
                      · rw [if_pos c23] at H
                        have LMc23 := Aside0.mk c23
                        clear c23
                        obtain ⟨y171, hy171⟩ : ∃ y_ : List Int, y_ = (x3_1 ++ y168) := ⟨_, rfl⟩
                        replace H : (lex_Quote.l0 kj7 a0 y171 (a0.size : Int) (wrap64 (x9_1 + 1))) = some r := by first | (rw [hy171]; with_reducible exact H) | (have H2_ := (Option.bind_some _ _).symm.trans H; rw [hy171]; with_reducible exact H2_) | (have H2_ := (Option.bind_some _ _).symm.trans H; with_reducible exact H2_) | with_reducible exact H | (rw [hy171]; exact H) | exact H
                        have Ny171 := Aside0.mk hy171
                        clear hy171
                        have H' := Aside0.mk H
                        clear H
                        go_wp2_with (first | ((with_reducible refine gate_dst (N := 45) rfl ?_); refine Kd.R_lit (Kd.int .u8) _ 5 ?hg (N := 45) ?hd (xs := ([92, 116] : List Int)) (inner := [.int .u8 92, .int .u8 116]) (ok := fun _ => True) (okp := fun _ => True) ?hr ?hp (fun _ hk => hk) trivial (Below.refl _ _) (Nat.le_refl _) (by simp) ?_; (case hd => rfl); (case hg => rfl); (case hr => first | (go_simp; done) | (go_simp; rfl)); (case hp => exact (Reps.one (show Kd.M (Kd.int .u8) _ _ _ 92 [.int .u8 92] from rfl) (Reps.one (show Kd.M (Kd.int .u8) _ _ _ 116 [.int .u8 116] from rfl) (Reps.none _ _)))); intro v169 w24 ho25 hb hg_ hnew_; clear hg_ hnew_; (first | rw [← Ny168.out] at ho25 | (simp only [Int.reduceToNat] at ho25; rw [← Ny168.out] at ho25)); have n0_ := Aside0.mk (Kd.R_elder' (by (with_reducible repeat (first | apply Kd.R_alloc | apply Kd.R_drewN | apply Kd.R_drew)); exact HO_3.out) (Kd.R_base ho25) hb); have n1_ := Aside0.mk (Kd.R_lower (Kd.R_new' ho25 (Kd.R_lt (by (with_reducible repeat (first | apply Kd.R_alloc | apply Kd.R_drewN | apply Kd.R_drew)); exact HO_3.out))) (below_size (by repeat (first | (with_reducible first | exact HB.out | apply below_alloc | apply pw_below_drewN | apply below_drew1) | exact HB.out)))); have n2_ := Aside0.mk (below_step (by repeat (first | (with_reducible first | exact HB.out | apply below_alloc | apply pw_below_drewN | apply below_drew1) | exact HB.out)) hb); clear HO_3; clear HB; have HO_3 := n0_; have HO170 := n1_; have HB := n2_; clear n0_ n1_ n2_; clear hb ho25; obtain ⟨Ao27, co27, eo27⟩ := Kd.R_slice HO170.out; subst eo27) | ((with_reducible refine gate_builtin (b := .append) (xs := #[.tmp 44, .tmp 45]) rfl ?_); at_builtin; refine Kd.R_append_rows (Kd.int .u8) (w0 := w) w.heap.size rfl (.tmp 44) (.tmp 45) 70 5 (.int .u8 0) 1 rfl Tryd.underlying70 info5 rfl (by decide) (by omega) u3 x3_1 y168 _ _ _ (fun k_ => some k_ ≠ (.slice Ao27 y168.length co27 : Value).ownBlock) (fun _ => False) rfl rfl ?aO ?aR (fun _ _ h => h) (fun _ h => h.elim) ?aF ?aB ?aS ?aL ?_; (case aR => repeat (first | exact (Kd.R_reads' HO170.out).2.2 | (with_reducible refine Kd.C_alloc ?_ _) | (with_reducible refine Kd.C_drewN ?_ _) | (with_reducible refine Kd.C_drew ?_))); (case aB => exact (by repeat (first | (with_reducible first | exact HB.out | apply below_alloc | apply pw_below_drewN | apply below_drew1) | exact HB.out))); (case aF => exact (fun k_ hk => Kd.fresh' (Kd.R_lt (by (with_reducible repeat (first | apply Kd.R_alloc | apply Kd.R_drewN | apply Kd.R_drew)); exact HO170.out)) k_ hk)); (case aO => exact (by (with_reducible repeat (first | apply Kd.R_alloc | apply Kd.R_drewN | apply Kd.R_drew)); exact Kd.R_mono HO_3.out (fun _ hk => hk.2))); (case aS => exact (below_size (by repeat (first | (with_reducible first | exact HB.out | apply below_alloc | apply pw_below_drewN | apply below_drew1) | exact HB.out)))); (case aL => have := LMc23.out; omega); intro v172 w26 ho hb hg hat; rw [← Ny171.out] at ho; have n0_ := Aside0.mk (Kd.R_after (ok := (fun _ => True)) (by (with_reducible repeat (first | apply Kd.R_alloc | apply Kd.R_drewN | apply Kd.R_drew)); exact HO170.out) hg hat); have n1_ := Aside0.mk (hb); have n2_ := Aside0.mk (ho); clear HO170; clear HB; clear HO_3; have HO170 := n0_; have HB := n1_; have HO173 := n2_; clear n0_ n1_ n2_; clear ho hb hg hat))
                        go_roundg kj7
                        case measure => have := HK1.out; have := HJ7.out; omega
                        case rel => exact ⟨(y171), (wrap64 (x9_1 + 1)), (by first | rfl | (simp; done) | (simp [*]; done)), H', ⟨by have := HK1.out; have := HJ7.out; omega⟩, ⟨by (with_reducible repeat (first | apply Kd.R_alloc | apply Kd.R_drewN | apply Kd.R_drew)); exact Kd.R_mono HO173.out (fun _ hk => trivial)⟩, ⟨by repeat (first | (with_reducible first | exact HB.out | apply below_alloc | apply pw_below_drewN | apply below_drew1) | exact HB.out)⟩⟩
                      · rw [if_neg c23] at H
                        exact absurd H (by simp)
                    · rw [if_neg c22] at H
                      have c22b0 : ((bt a0 x9_1) == 9) = false := beq_eq_false_iff_ne.mpr c22
                      have c22b1 : ((bt a0 x9_1) != 9) = true := bne_iff_ne.mpr c22
                      by_cases c28 : (bt a0 x9_1) ≥ 32
                      · rw [if_pos c28] at H
                        have c28b0 : decide (32 ≤ (bt a0 x9_1)) = true := decide_eq_true c28
                        clear c28
                        by_cases c29 : (bt a0 x9_1) ≤ 126
                        · rw [if_pos c29] at H
                          have c29b0 : decide ((bt a0 x9_1) ≤ 126) = true := decide_eq_true c29
                          clear c29
                          by_cases c30 : x3_1.length < 140737488355328
                          · rw [if_pos c30] at H
                            have LMc30 := Aside0.mk c30
                            clear c30
                            obtain ⟨y174, hy174⟩ : ∃ y_ : List Int, y_ = (x3_1 ++ [(bt a0 x9_1)]) := ⟨_, rfl⟩
                            replace H : (lex_Quote.l0 kj7 a0 y174 (a0.size : Int) (wrap64 (x9_1 + 1))) = some r := by first | (rw [hy174]; with_reducible exact H) | (have H2_ := (Option.bind_some _ _).symm.trans H; rw [hy174]; with_reducible exact H2_) | (have H2_ := (Option.bind_some _ _).symm.trans H; with_reducible exact H2_) | with_reducible exact H | (rw [hy174]; exact H) | exact H
                            have Ny174 := Aside0.mk hy174
                            clear hy174
                            have H' := Aside0.mk H
                            clear H
                            go_wp2_with (first | ((with_reducible refine gate_builtin (b := .append) (xs := #[.tmp 54, .tmp 56]) rfl ?_); at_builtin; refine Kd.R_append (Kd.int .u8) (w0 := w) w.heap.size rfl (.tmp 54) (.tmp 56) 70 5 (.int .u8 0) 1 rfl Tryd.underlying70 info5 rfl (by decide) (by omega) u3 x3_1 (bt a0 x9_1) [.int .u8 (bt a0 x9_1)] (fun _ => True) (fun _ => False) rfl rfl ?aP (fun _ hk => hk.elim) ?aF ?aO ?aB ?aS ?aL ?_; (case aP => exact rfl); (case aB => exact (by repeat (first | (with_reducible first | exact HB.out | apply below_alloc | apply pw_below_drewN | apply below_drew1) | exact HB.out))); (case aF => exact (fun _ _ => trivial)); (case aO => exact (by (with_reducible repeat (first | apply Kd.R_alloc | apply Kd.R_drewN | apply Kd.R_drew)); exact HO_3.out)); (case aS => exact (below_size (by repeat (first | (with_reducible first | exact HB.out | apply below_alloc | apply pw_below_drewN | apply below_drew1) | exact HB.out)))); (case aL => have := LMc30.out; omega); intro v175 w31 ho hb hg hat; rw [← Ny174.out] at ho; have n0_ := Aside0.mk (hb); have n1_ := Aside0.mk (ho); clear HB; clear HO_3; have HB := n0_; have HO176 := n1_; clear n0_ n1_; clear ho hb hg hat))
                            go_roundg kj7
                            case measure => have := HK1.out; have := HJ7.out; omega
                            case rel => exact ⟨(y174), (wrap64 (x9_1 + 1)), (by first | rfl | (simp; done) | (simp [*]; done)), H', ⟨by have := HK1.out; have := HJ7.out; omega⟩, ⟨by (with_reducible repeat (first | apply Kd.R_alloc | apply Kd.R_drewN | apply Kd.R_drew)); exact HO176.out⟩, ⟨by repeat (first | (with_reducible first | exact HB.out | apply below_alloc | apply pw_below_drewN | apply below_drew1) | exact HB.out)⟩⟩
                          · rw [if_neg c30] at H
                            exact absurd H (by simp)
                        · rw [if_neg c29] at H
                          have c29b0 : decide ((bt a0 x9_1) ≤ 126) = false := decide_eq_false c29
                          clear c29
                          obtain ⟨ji32, hji32⟩ : ∃ j_ : Int, ((bt a0 x9_1) / 16) = j_ := ⟨_, rfl⟩
                          replace H : (if 0 ≤ (ji32) then (if (ji32) < 16 then (if 0 ≤ (Go.bits .and .u8 (bt a0 x9_1) 15) then (if (Go.bits .and .u8 (bt a0 x9_1) 15) < 16 then ((some (([92, 120, bt (⟨#[48, 49, 50, 51, 52, 53, 54, 55, 56, 57, 97, 98, 99, 100, 101, 102]⟩ : ByteArray) (ji32), bt (⟨#[48, 49, 50, 51, 52, 53, 54, 55, 56, 57, 97, 98, 99, 100, 101, 102]⟩ : ByteArray) (Go.bits .and .u8 (bt a0 x9_1) 15)] : List Int) : List Int)).bind fun y177 => (if x3_1.length + y177.length < 140737488355328 then (lex_Quote.l0 kj7 a0 (x3_1 ++ y177) (a0.size : Int) (wrap64 (x9_1 + 1))) else (none))) else (none)) else (none)) else (none)) else (none)) = some r := by first | (rw [hji32] at H; exact H) | (simp only [hji32] at H ⊢; exact H)
                          by_cases c33 : 0 ≤ (ji32)
                          · rw [if_pos c33] at H
                            have c33b0 : decide (0 ≤ (ji32)) = true := decide_eq_true c33
                            clear c33
                            by_cases c34 : (ji32) < 16
                            · rw [if_pos c34] at H
                              have c34b0 : decide ((ji32) < 16) = true := decide_eq_true c34
                              clear c34
                              by_cases c36 : 0 ≤ (Go.bits .and .u8 (bt a0 x9_1) 15)
                              · rw [if_pos c36] at H
                                have c36b0 : decide (0 ≤ (Go.bits .and .u8 (bt a0 x9_1) 15)) = true := decide_eq_true c36
                                clear c36
                                by_cases c37 : (Go.bits .and .u8 (bt a0 x9_1) 15) < 16
                                · rw [if_pos c37] at H
                                  have c37b0 : decide ((Go.bits .and .u8 (bt a0 x9_1) 15) < 16) = true := decide_eq_true c37
                                  clear c37
                                  obtain ⟨y177, hy177⟩ : ∃ y_ : List Int, y_ = (([92, 120, bt (⟨#[48, 49, 50, 51, 52, 53, 54, 55, 56, 57, 97, 98, 99, 100, 101, 102]⟩ : ByteArray) (ji32), bt (⟨#[48, 49, 50, 51, 52, 53, 54, 55, 56, 57, 97, 98, 99, 100, 101, 102]⟩ : ByteArray) (Go.bits .and .u8 (bt a0 x9_1) 15)] : List Int)) := ⟨_, rfl⟩
                                  replace H : (if x3_1.length + y177.length < 140737488355328 then (lex_Quote.l0 kj7 a0 (x3_1 ++ y177) (a0.size : Int) (wrap64 (x9_1 + 1))) else (none)) = some r := by first | (rw [hy177]; with_reducible exact H) | (have H2_ := (Option.bind_some _ _).symm.trans H; rw [hy177]; with_reducible exact H2_) | (have H2_ := (Option.bind_some _ _).symm.trans H; with_reducible exact H2_) | with_reducible exact H | (rw [hy177]; exact H) | exact H
                                  have Ny177 := Aside0.mk hy177
                                  clear hy177
                                  by_cases c39 : x3_1.length + y177.length < 140737488355328
                                  · rw [if_pos c39] at H
                                    have LMc39 := Aside0.mk c39
                                    clear c39
                                    obtain ⟨y180, hy180⟩ : ∃ y_ : List Int, y_ = (x3_1 ++ y177) := ⟨_, rfl⟩
                                    replace H : (lex_Quote.l0 kj7 a0 y180 (a0.size : Int) (wrap64 (x9_1 + 1))) = some r := by first | (rw [hy180]; with_reducible exact H) | (have H2_ := (Option.bind_some _ _).symm.trans H; rw [hy180]; with_reducible exact H2_) | (have H2_ := (Option.bind_some _ _).symm.trans H; with_reducible exact H2_) | with_reducible exact H | (rw [hy180]; exact H) | exact H
                                    have Ny180 := Aside0.mk hy180
                                    clear hy180
                                    have H' := Aside0.mk H
                                    clear H
                                    try go_wp2
                                    have n0_ := Aside0.mk (Kd.R_drew HO_3.out)
                                    have n1_ := Aside0.mk (below_drew1 HB.out)
                                    clear HO_3
                                    clear HB
                                    have HO_3 := n0_
                                    have HB := n1_
                                    clear n0_ n1_
                                    have p35 : 0 ≤ ((ji32) : Int) := of_decide_eq_true (by first | (with_reducible assumption) | assumption)
                                    have q35 : (ji32) < (16 : Int) := of_decide_eq_true (by first | (with_reducible assumption) | assumption)
                                    have hx35 := bt_at (⟨#[48, 49, 50, 51, 52, 53, 54, 55, 56, 57, 97, 98, 99, 100, 101, 102]⟩ : ByteArray) (ji32)
                                    replace p35 := eq_true p35
                                    replace q35 := eq_true q35
                                    have p38 : 0 ≤ ((Go.bits .and .u8 (bt a0 x9_1) 15) : Int) := of_decide_eq_true (by first | (with_reducible assumption) | assumption)
                                    have q38 : (Go.bits .and .u8 (bt a0 x9_1) 15) < (16 : Int) := of_decide_eq_true (by first | (with_reducible assumption) | assumption)
                                    have hx38 := bt_at (⟨#[48, 49, 50, 51, 52, 53, 54, 55, 56, 57, 97, 98, 99, 100, 101, 102]⟩ : ByteArray) (Go.bits .and .u8 (bt a0 x9_1) 15)
                                    replace p38 := eq_true p38
                                    replace q38 := eq_true q38
                                    refine start_ (n := 10) (S := fun w' => True) (ds := []) #[false, false, false, false, false, false, false, false, false, false] (by kernel_rfl) rfl rfl trivial (fun hHeld => ?_); refine with_tabW lex_Quote.tab6 lex_Quote.bits6 (fun HT_ HW_ => ?_)
                                    generalize wc.drew = w40 at HO_3 HB hHeld ⊢
                                    refine pure_ (i := 0) (N := some 15) (v := ?_) (a' := ?_) #[true, false, false, false, false, false, false, false, false, false] rfl rfl (any_of HT_.out (by kernel_rfl)) (fun _ _ _ h => h) (Or.inl ⟨by rfl, ?_⟩) ?_ ?_
                                    rotate_left
                                    · intro w'
                                      go_simp
                                      with_reducible rfl
                                    rotate_left
                                    · simp only [Act.put, List.setIfInBounds_toArray, List.set_cons_zero, List.set_cons_succ, i64_w, i32_w]
                                      rfl
                                    refine pure_ (i := 1) (N := some 16) (v := ?_) (a' := ?_) #[true, true, false, false, false, false, false, false, false, false] rfl rfl (any_of HT_.out (by kernel_rfl)) (fun _ _ _ h => h) (Or.inl ⟨by rfl, ?_⟩) ?_ ?_
                                    rotate_left
                                    · intro w'
                                      go_simp
                                      with_reducible rfl
                                    rotate_left
                                    · simp only [Act.put, List.setIfInBounds_toArray, List.set_cons_zero, List.set_cons_succ, i64_w, i32_w]
                                      rfl
                                    refine pure_ (i := 2) (N := some 17) (v := ?_) (a' := ?_) #[true, true, true, false, false, false, false, false, false, false] rfl rfl (any_of HT_.out (by kernel_rfl)) (fun _ _ _ h => h) (Or.inl ⟨by rfl, ?_⟩) ?_ ?_
                                    rotate_left
                                    · intro w'
                                      go_simp
                                      with_reducible rfl
                                    rotate_left
                                    · simp only [Act.put, List.setIfInBounds_toArray, List.set_cons_zero, List.set_cons_succ, i64_w, i32_w]
                                      rfl
                                    refine pure_ (i := 4) (N := some 19) (v := ?_) (a' := ?_) #[true, true, true, false, true, false, false, false, false, false] rfl rfl (any_of HT_.out (by kernel_rfl)) (fun _ _ _ h => h) (Or.inl ⟨by rfl, ?_⟩) ?_ ?_
                                    rotate_left
                                    · intro w'
                                      go_simp
                                      with_reducible rfl
                                    rotate_left
                                    · simp only [Act.put, List.setIfInBounds_toArray, List.set_cons_zero, List.set_cons_succ, i64_w, i32_w]
                                      rfl
                                    refine pure_ (i := 5) (N := some 20) (v := ?_) (a' := ?_) #[true, true, true, false, true, true, false, false, false, false] rfl rfl (any_of HT_.out (by kernel_rfl)) (fun _ _ _ h => h) (Or.inl ⟨by rfl, ?_⟩) ?_ ?_
                                    rotate_left
                                    · intro w'
                                      go_simp
                                      with_reducible rfl
                                    rotate_left
                                    · simp only [Act.put, List.setIfInBounds_toArray, List.set_cons_zero, List.set_cons_succ, i64_w, i32_w]
                                      rfl
                                    refine take_ (i := 3) (N := some 18) (v := ?_) (a' := ?_) #[true, true, true, true, true, true, false, false, false, false] rfl rfl (take_ofW HT_.out HW_.out (by kernel_rfl)) (fun _ _ _ h => h) (Or.inl ⟨by rfl, ?_⟩) hHeld ?_ ?_
                                    rotate_left
                                    · intro w' _
                                      go_simp
                                      with_reducible rfl
                                    rotate_left
                                    · simp only [Act.put, List.setIfInBounds_toArray, List.set_cons_zero, List.set_cons_succ, i64_w, i32_w]
                                      rfl
                                    refine take_ (i := 6) (N := some 21) (v := ?_) (a' := ?_) #[true, true, true, true, true, true, true, false, false, false] rfl rfl (take_ofW HT_.out HW_.out (by kernel_rfl)) (fun _ _ _ h => h) (Or.inl ⟨by rfl, ?_⟩) hHeld ?_ ?_
                                    rotate_left
                                    · intro w' _
                                      go_simp
                                      with_reducible rfl
                                    rotate_left
                                    · simp only [Act.put, List.setIfInBounds_toArray, List.set_cons_zero, List.set_cons_succ, i64_w, i32_w]
                                      rfl
                                    refine one_ (i := 7) (N := some 22) #[true, true, true, true, true, true, true, true, false, false] rfl rfl (one_of HT_.out (by kernel_rfl)) (by decide) (fun K hK => ?_)
                                    refine Kd.R_lit_step (Kd.int .u8) _ 5 ?hg (N := 22) ?hd (xs := ([92, 120, bt (⟨#[48, 49, 50, 51, 52, 53, 54, 55, 56, 57, 97, 98, 99, 100, 101, 102]⟩ : ByteArray) (ji32), bt (⟨#[48, 49, 50, 51, 52, 53, 54, 55, 56, 57, 97, 98, 99, 100, 101, 102]⟩ : ByteArray) (Go.bits .and .u8 (bt a0 x9_1) 15)] : List Int)) (inner := [.int .u8 92, .int .u8 120, .int .u8 (bt (⟨#[48, 49, 50, 51, 52, 53, 54, 55, 56, 57, 97, 98, 99, 100, 101, 102]⟩ : ByteArray) (ji32)), .int .u8 (bt (⟨#[48, 49, 50, 51, 52, 53, 54, 55, 56, 57, 97, 98, 99, 100, 101, 102]⟩ : ByteArray) (Go.bits .and .u8 (bt a0 x9_1) 15))]) (ok := fun _ => True) (okp := fun _ => True) ?hr ?hp (fun _ hk => hk) trivial (Below.refl _ _) (Nat.le_refl _) (by simp) ?_; (case hd => rfl); (case hg => rfl); (case hr => first | (go_simp; done) | (go_simp; rfl)); (case hp => exact (Reps.one (show Kd.M (Kd.int .u8) _ _ _ 92 [.int .u8 92] from rfl) (Reps.one (show Kd.M (Kd.int .u8) _ _ _ 120 [.int .u8 120] from rfl) (Reps.one (show Kd.M (Kd.int .u8) _ _ _ (bt (⟨#[48, 49, 50, 51, 52, 53, 54, 55, 56, 57, 97, 98, 99, 100, 101, 102]⟩ : ByteArray) (ji32)) [.int .u8 (bt (⟨#[48, 49, 50, 51, 52, 53, 54, 55, 56, 57, 97, 98, 99, 100, 101, 102]⟩ : ByteArray) (ji32))] from rfl) (Reps.one (show Kd.M (Kd.int .u8) _ _ _ (bt (⟨#[48, 49, 50, 51, 52, 53, 54, 55, 56, 57, 97, 98, 99, 100, 101, 102]⟩ : ByteArray) (Go.bits .and .u8 (bt a0 x9_1) 15)) [.int .u8 (bt (⟨#[48, 49, 50, 51, 52, 53, 54, 55, 56, 57, 97, 98, 99, 100, 101, 102]⟩ : ByteArray) (Go.bits .and .u8 (bt a0 x9_1) 15))] from rfl) (Reps.none _ _))))))
                                    intro v178 w41 ho42 hb hg_ hnew_
                                    clear hg_ hnew_
                                    (first | rw [← Ny177.out] at ho42 | (simp only [Int.reduceToNat] at ho42; rw [← Ny177.out] at ho42))
                                    have n0_ := Aside0.mk (Kd.R_elder' (by (with_reducible repeat (first | apply Kd.R_alloc | apply Kd.R_drewN | apply Kd.R_drew)); exact HO_3.out) (Kd.R_base ho42) hb)
                                    have n1_ := Aside0.mk (Kd.R_lower (Kd.R_new' ho42 (Kd.R_lt (by (with_reducible repeat (first | apply Kd.R_alloc | apply Kd.R_drewN | apply Kd.R_drew)); exact HO_3.out))) (below_size (by repeat (first | (with_reducible first | exact HB.out | apply below_alloc | apply pw_below_drewN | apply below_drew1) | exact HB.out))))
                                    have n2_ := Aside0.mk (below_step (by repeat (first | (with_reducible first | exact HB.out | apply below_alloc | apply pw_below_drewN | apply below_drew1) | exact HB.out)) hb)
                                    clear HO_3
                                    clear HB
                                    have HO_3 := n0_
                                    have HO179 := n1_
                                    have HB := n2_
                                    clear n0_ n1_ n2_
                                    clear hb ho42
                                    obtain ⟨Ao44, co44, eo44⟩ := Kd.R_slice HO179.out
                                    (first | subst eo44 | (injection eo44 with f1_ f2_ f3_; have f4_ := f1_.symm; have f5_ := f3_.symm; clear f1_ f2_ f3_; subst f4_; subst f5_))
                                    refine hK.out _ _ trivial (fun hHeld => ?_)
                                    clear hK K
                                    refine norm_ (a' := ?_) ?_ ?_
                                    rotate_left
                                    · show Act.put _ (some 22) _ = _
                                      simp only [Act.put, List.setIfInBounds_toArray, List.set_cons_zero, List.set_cons_succ, i64_w, i32_w]
                                      rfl
                                    refine one_ (i := 8) (N := some 23) #[true, true, true, true, true, true, true, true, true, false] rfl rfl (one_of HT_.out (by kernel_rfl)) (by decide) (fun K hK => ?_)
                                    refine Kd.R_append_rows_step (Kd.int .u8) (w0 := w) w.heap.size (by rfl) (.tmp 15) (.tmp 22) 70 5 (.int .u8 0) 1 rfl Tryd.underlying70 info5 rfl (by decide) (by omega) u3 x3_1 y177 _ _ _ (fun k_ => some k_ ≠ (.slice Ao44 y177.length co44 : Value).ownBlock) (fun _ => False) rfl rfl ?aO ?aR (fun _ _ h => h) (fun _ h => h.elim) ?aF ?aB ?aS ?aL ?_
                                    (case aR => repeat (first | exact (Kd.R_reads' HO179.out).2.2 | (with_reducible refine Kd.C_alloc ?_ _) | (with_reducible refine Kd.C_drewN ?_ _) | (with_reducible refine Kd.C_drew ?_)))
                                    (case aB => exact (by repeat (first | (with_reducible first | exact HB.out | apply below_alloc | apply pw_below_drewN | apply below_drew1) | exact HB.out)))
                                    (case aF => exact (fun k_ hk => Kd.fresh' (Kd.R_lt (by (with_reducible repeat (first | apply Kd.R_alloc | apply Kd.R_drewN | apply Kd.R_drew)); exact HO179.out)) k_ hk))
                                    (case aO => exact (by (with_reducible repeat (first | apply Kd.R_alloc | apply Kd.R_drewN | apply Kd.R_drew)); exact Kd.R_mono HO_3.out (fun _ hk => hk.2)))
                                    (case aS => exact (below_size (by repeat (first | (with_reducible first | exact HB.out | apply below_alloc | apply pw_below_drewN | apply below_drew1) | exact HB.out))))
                                    (case aL => have := LMc39.out; omega)
                                    intro v181 w43 ho hb hg hat
                                    rw [← Ny180.out] at ho
                                    have n0_ := Aside0.mk (Kd.R_after (ok := (fun _ => True)) (by (with_reducible repeat (first | apply Kd.R_alloc | apply Kd.R_drewN | apply Kd.R_drew)); exact HO179.out) hg hat)
                                    have n1_ := Aside0.mk (hb)
                                    have n2_ := Aside0.mk (ho)
                                    clear HO179
                                    clear HB
                                    clear HO_3
                                    have HO179 := n0_
                                    have HB := n1_
                                    have HO182 := n2_
                                    clear n0_ n1_ n2_
                                    clear ho hb hg hat
                                    refine hK.out _ _ trivial (fun hHeld => ?_)
                                    clear hK K
                                    refine norm_ (a' := ?_) ?_ ?_
                                    rotate_left
                                    · show Act.put _ (some 23) _ = _
                                      simp only [Act.put, List.setIfInBounds_toArray, List.set_cons_zero, List.set_cons_succ, i64_w, i32_w]
                                      rfl
                                    refine pure_ (i := 9) (N := some 3) (v := ?_) (a' := ?_) #[true, true, true, true, true, true, true, true, true, true] rfl rfl (any_of HT_.out (by kernel_rfl)) (fun _ _ _ h => h) (Or.inl ⟨by rfl, ?_⟩) ?_ ?_
                                    rotate_left
                                    · intro w'
                                      go_simp
                                      with_reducible rfl
                                    rotate_left
                                    · simp only [Act.put, List.setIfInBounds_toArray, List.set_cons_zero, List.set_cons_succ, i64_w, i32_w]
                                      rfl
                                    refine done_ (done_of HT_.out (by kernel_rfl)) ?_
                                    try go_wp2
                                    go_roundg kj7
                                    case measure => have := HK1.out; have := HJ7.out; omega
                                    case rel => exact ⟨(y180), (wrap64 (x9_1 + 1)), (by first | rfl | (simp; done) | (simp [*]; done)), H', ⟨by have := HK1.out; have := HJ7.out; omega⟩, ⟨by (with_reducible repeat (first | apply Kd.R_alloc | apply Kd.R_drewN | apply Kd.R_drew)); exact Kd.R_mono HO182.out (fun _ hk => trivial)⟩, ⟨by repeat (first | (with_reducible first | exact HB.out | apply below_alloc | apply pw_below_drewN | apply below_drew1) | exact HB.out)⟩⟩
                                  · rw [if_neg c39] at H
                                    exact absurd H (by simp)
                                · rw [if_neg c37] at H
                                  exact absurd H (by simp)
                              · rw [if_neg c36] at H
                                exact absurd H (by simp)
                            · rw [if_neg c34] at H
                              exact absurd H (by simp)
                          · rw [if_neg c33] at H
                            exact absurd H (by simp)
                      · rw [if_neg c28] at H
                        have c28b0 : decide (32 ≤ (bt a0 x9_1)) = false := decide_eq_false c28
                        clear c28
                        try clear hji32
                        try clear hji32w
                        obtain ⟨ji45, hji45⟩ : ∃ j_ : Int, ((bt a0 x9_1) / 16) = j_ := ⟨_, rfl⟩
                        replace H : (if 0 ≤ (ji45) then (if (ji45) < 16 then (if 0 ≤ (Go.bits .and .u8 (bt a0 x9_1) 15) then (if (Go.bits .and .u8 (bt a0 x9_1) 15) < 16 then ((some (([92, 120, bt (⟨#[48, 49, 50, 51, 52, 53, 54, 55, 56, 57, 97, 98, 99, 100, 101, 102]⟩ : ByteArray) (ji45), bt (⟨#[48, 49, 50, 51, 52, 53, 54, 55, 56, 57, 97, 98, 99, 100, 101, 102]⟩ : ByteArray) (Go.bits .and .u8 (bt a0 x9_1) 15)] : List Int) : List Int)).bind fun y183 => (if x3_1.length + y183.length < 140737488355328 then (lex_Quote.l0 kj7 a0 (x3_1 ++ y183) (a0.size : Int) (wrap64 (x9_1 + 1))) else (none))) else (none)) else (none)) else (none)) else (none)) = some r := by first | (rw [hji45] at H; exact H) | (simp only [hji45] at H ⊢; exact H)
                        by_cases c46 : 0 ≤ (ji45)
                        · rw [if_pos c46] at H
                          have c46b0 : decide (0 ≤ (ji45)) = true := decide_eq_true c46
                          clear c46
                          by_cases c47 : (ji45) < 16
                          · rw [if_pos c47] at H
                            have c47b0 : decide ((ji45) < 16) = true := decide_eq_true c47
                            clear c47
                            by_cases c49 : 0 ≤ (Go.bits .and .u8 (bt a0 x9_1) 15)
                            · rw [if_pos c49] at H
                              have c49b0 : decide (0 ≤ (Go.bits .and .u8 (bt a0 x9_1) 15)) = true := decide_eq_true c49
                              clear c49
                              by_cases c50 : (Go.bits .and .u8 (bt a0 x9_1) 15) < 16
                              · rw [if_pos c50] at H
                                have c50b0 : decide ((Go.bits .and .u8 (bt a0 x9_1) 15) < 16) = true := decide_eq_true c50
                                clear c50
                                obtain ⟨y183, hy183⟩ : ∃ y_ : List Int, y_ = (([92, 120, bt (⟨#[48, 49, 50, 51, 52, 53, 54, 55, 56, 57, 97, 98, 99, 100, 101, 102]⟩ : ByteArray) (ji45), bt (⟨#[48, 49, 50, 51, 52, 53, 54, 55, 56, 57, 97, 98, 99, 100, 101, 102]⟩ : ByteArray) (Go.bits .and .u8 (bt a0 x9_1) 15)] : List Int)) := ⟨_, rfl⟩
                                replace H : (if x3_1.length + y183.length < 140737488355328 then (lex_Quote.l0 kj7 a0 (x3_1 ++ y183) (a0.size : Int) (wrap64 (x9_1 + 1))) else (none)) = some r := by first | (rw [hy183]; with_reducible exact H) | (have H2_ := (Option.bind_some _ _).symm.trans H; rw [hy183]; with_reducible exact H2_) | (have H2_ := (Option.bind_some _ _).symm.trans H; with_reducible exact H2_) | with_reducible exact H | (rw [hy183]; exact H) | exact H
                                have Ny183 := Aside0.mk hy183
                                clear hy183
                                by_cases c52 : x3_1.length + y183.length < 140737488355328
                                · rw [if_pos c52] at H
                                  have LMc52 := Aside0.mk c52
                                  clear c52
                                  obtain ⟨y186, hy186⟩ : ∃ y_ : List Int, y_ = (x3_1 ++ y183) := ⟨_, rfl⟩
                                  replace H : (lex_Quote.l0 kj7 a0 y186 (a0.size : Int) (wrap64 (x9_1 + 1))) = some r := by first | (rw [hy186]; with_reducible exact H) | (have H2_ := (Option.bind_some _ _).symm.trans H; rw [hy186]; with_reducible exact H2_) | (have H2_ := (Option.bind_some _ _).symm.trans H; with_reducible exact H2_) | with_reducible exact H | (rw [hy186]; exact H) | exact H
                                  have Ny186 := Aside0.mk hy186
                                  clear hy186
                                  have H' := Aside0.mk H
                                  clear H
                                  try go_wp2
                                  have n0_ := Aside0.mk (Kd.R_drew HO_3.out)
                                  have n1_ := Aside0.mk (below_drew1 HB.out)
                                  clear HO_3
                                  clear HB
                                  have HO_3 := n0_
                                  have HB := n1_
                                  clear n0_ n1_
                                  have p48 : 0 ≤ ((ji45) : Int) := of_decide_eq_true (by first | (with_reducible assumption) | assumption)
                                  have q48 : (ji45) < (16 : Int) := of_decide_eq_true (by first | (with_reducible assumption) | assumption)
                                  have hx48 := bt_at (⟨#[48, 49, 50, 51, 52, 53, 54, 55, 56, 57, 97, 98, 99, 100, 101, 102]⟩ : ByteArray) (ji45)
                                  replace p48 := eq_true p48
                                  replace q48 := eq_true q48
                                  have p51 : 0 ≤ ((Go.bits .and .u8 (bt a0 x9_1) 15) : Int) := of_decide_eq_true (by first | (with_reducible assumption) | assumption)
                                  have q51 : (Go.bits .and .u8 (bt a0 x9_1) 15) < (16 : Int) := of_decide_eq_true (by first | (with_reducible assumption) | assumption)
                                  have hx51 := bt_at (⟨#[48, 49, 50, 51, 52, 53, 54, 55, 56, 57, 97, 98, 99, 100, 101, 102]⟩ : ByteArray) (Go.bits .and .u8 (bt a0 x9_1) 15)
                                  replace p51 := eq_true p51
                                  replace q51 := eq_true q51
                                  refine start_ (n := 10) (S := fun w' => True) (ds := []) #[false, false, false, false, false, false, false, false, false, false] (by kernel_rfl) rfl rfl trivial (fun hHeld => ?_); refine with_tabW lex_Quote.tab6 lex_Quote.bits6 (fun HT_ HW_ => ?_)
                                  generalize wc.drew = w53 at HO_3 HB hHeld ⊢
                                  refine pure_ (i := 0) (N := some 15) (v := ?_) (a' := ?_) #[true, false, false, false, false, false, false, false, false, false] rfl rfl (any_of HT_.out (by kernel_rfl)) (fun _ _ _ h => h) (Or.inl ⟨by rfl, ?_⟩) ?_ ?_
                                  rotate_left
                                  · intro w'
                                    go_simp
                                    with_reducible rfl
                                  rotate_left
                                  · simp only [Act.put, List.setIfInBounds_toArray, List.set_cons_zero, List.set_cons_succ, i64_w, i32_w]
                                    rfl
                                  refine pure_ (i := 1) (N := some 16) (v := ?_) (a' := ?_) #[true, true, false, false, false, false, false, false, false, false] rfl rfl (any_of HT_.out (by kernel_rfl)) (fun _ _ _ h => h) (Or.inl ⟨by rfl, ?_⟩) ?_ ?_
                                  rotate_left
                                  · intro w'
                                    go_simp
                                    with_reducible rfl
                                  rotate_left
                                  · simp only [Act.put, List.setIfInBounds_toArray, List.set_cons_zero, List.set_cons_succ, i64_w, i32_w]
                                    rfl
                                  refine pure_ (i := 2) (N := some 17) (v := ?_) (a' := ?_) #[true, true, true, false, false, false, false, false, false, false] rfl rfl (any_of HT_.out (by kernel_rfl)) (fun _ _ _ h => h) (Or.inl ⟨by rfl, ?_⟩) ?_ ?_
                                  rotate_left
                                  · intro w'
                                    go_simp
                                    with_reducible rfl
                                  rotate_left
                                  · simp only [Act.put, List.setIfInBounds_toArray, List.set_cons_zero, List.set_cons_succ, i64_w, i32_w]
                                    rfl
                                  refine pure_ (i := 4) (N := some 19) (v := ?_) (a' := ?_) #[true, true, true, false, true, false, false, false, false, false] rfl rfl (any_of HT_.out (by kernel_rfl)) (fun _ _ _ h => h) (Or.inl ⟨by rfl, ?_⟩) ?_ ?_
                                  rotate_left
                                  · intro w'
                                    go_simp
                                    with_reducible rfl
                                  rotate_left
                                  · simp only [Act.put, List.setIfInBounds_toArray, List.set_cons_zero, List.set_cons_succ, i64_w, i32_w]
                                    rfl
                                  refine pure_ (i := 5) (N := some 20) (v := ?_) (a' := ?_) #[true, true, true, false, true, true, false, false, false, false] rfl rfl (any_of HT_.out (by kernel_rfl)) (fun _ _ _ h => h) (Or.inl ⟨by rfl, ?_⟩) ?_ ?_
                                  rotate_left
                                  · intro w'
                                    go_simp
                                    with_reducible rfl
                                  rotate_left
                                  · simp only [Act.put, List.setIfInBounds_toArray, List.set_cons_zero, List.set_cons_succ, i64_w, i32_w]
                                    rfl
                                  refine take_ (i := 3) (N := some 18) (v := ?_) (a' := ?_) #[true, true, true, true, true, true, false, false, false, false] rfl rfl (take_ofW HT_.out HW_.out (by kernel_rfl)) (fun _ _ _ h => h) (Or.inl ⟨by rfl, ?_⟩) hHeld ?_ ?_
                                  rotate_left
                                  · intro w' _
                                    go_simp
                                    with_reducible rfl
                                  rotate_left
                                  · simp only [Act.put, List.setIfInBounds_toArray, List.set_cons_zero, List.set_cons_succ, i64_w, i32_w]
                                    rfl
                                  refine take_ (i := 6) (N := some 21) (v := ?_) (a' := ?_) #[true, true, true, true, true, true, true, false, false, false] rfl rfl (take_ofW HT_.out HW_.out (by kernel_rfl)) (fun _ _ _ h => h) (Or.inl ⟨by rfl, ?_⟩) hHeld ?_ ?_
                                  rotate_left
                                  · intro w' _
                                    go_simp
                                    with_reducible rfl
                                  rotate_left
                                  · simp only [Act.put, List.setIfInBounds_toArray, List.set_cons_zero, List.set_cons_succ, i64_w, i32_w]
                                    rfl
                                  refine one_ (i := 7) (N := some 22) #[true, true, true, true, true, true, true, true, false, false] rfl rfl (one_of HT_.out (by kernel_rfl)) (by decide) (fun K hK => ?_)
                                  refine Kd.R_lit_step (Kd.int .u8) _ 5 ?hg (N := 22) ?hd (xs := ([92, 120, bt (⟨#[48, 49, 50, 51, 52, 53, 54, 55, 56, 57, 97, 98, 99, 100, 101, 102]⟩ : ByteArray) (ji45), bt (⟨#[48, 49, 50, 51, 52, 53, 54, 55, 56, 57, 97, 98, 99, 100, 101, 102]⟩ : ByteArray) (Go.bits .and .u8 (bt a0 x9_1) 15)] : List Int)) (inner := [.int .u8 92, .int .u8 120, .int .u8 (bt (⟨#[48, 49, 50, 51, 52, 53, 54, 55, 56, 57, 97, 98, 99, 100, 101, 102]⟩ : ByteArray) (ji45)), .int .u8 (bt (⟨#[48, 49, 50, 51, 52, 53, 54, 55, 56, 57, 97, 98, 99, 100, 101, 102]⟩ : ByteArray) (Go.bits .and .u8 (bt a0 x9_1) 15))]) (ok := fun _ => True) (okp := fun _ => True) ?hr ?hp (fun _ hk => hk) trivial (Below.refl _ _) (Nat.le_refl _) (by simp) ?_; (case hd => rfl); (case hg => rfl); (case hr => first | (go_simp; done) | (go_simp; rfl)); (case hp => exact (Reps.one (show Kd.M (Kd.int .u8) _ _ _ 92 [.int .u8 92] from rfl) (Reps.one (show Kd.M (Kd.int .u8) _ _ _ 120 [.int .u8 120] from rfl) (Reps.one (show Kd.M (Kd.int .u8) _ _ _ (bt (⟨#[48, 49, 50, 51, 52, 53, 54, 55, 56, 57, 97, 98, 99, 100, 101, 102]⟩ : ByteArray) (ji45)) [.int .u8 (bt (⟨#[48, 49, 50, 51, 52, 53, 54, 55, 56, 57, 97, 98, 99, 100, 101, 102]⟩ : ByteArray) (ji45))] from rfl) (Reps.one (show Kd.M (Kd.int .u8) _ _ _ (bt (⟨#[48, 49, 50, 51, 52, 53, 54, 55, 56, 57, 97, 98, 99, 100, 101, 102]⟩ : ByteArray) (Go.bits .and .u8 (bt a0 x9_1) 15)) [.int .u8 (bt (⟨#[48, 49, 50, 51, 52, 53, 54, 55, 56, 57, 97, 98, 99, 100, 101, 102]⟩ : ByteArray) (Go.bits .and .u8 (bt a0 x9_1) 15))] from rfl) (Reps.none _ _))))))
                                  intro v184 w54 ho55 hb hg_ hnew_
                                  clear hg_ hnew_
                                  (first | rw [← Ny183.out] at ho55 | (simp only [Int.reduceToNat] at ho55; rw [← Ny183.out] at ho55))
                                  have n0_ := Aside0.mk (Kd.R_elder' (by (with_reducible repeat (first | apply Kd.R_alloc | apply Kd.R_drewN | apply Kd.R_drew)); exact HO_3.out) (Kd.R_base ho55) hb)
                                  have n1_ := Aside0.mk (Kd.R_lower (Kd.R_new' ho55 (Kd.R_lt (by (with_reducible repeat (first | apply Kd.R_alloc | apply Kd.R_drewN | apply Kd.R_drew)); exact HO_3.out))) (below_size (by repeat (first | (with_reducible first | exact HB.out | apply below_alloc | apply pw_below_drewN | apply below_drew1) | exact HB.out))))
                                  have n2_ := Aside0.mk (below_step (by repeat (first | (with_reducible first | exact HB.out | apply below_alloc | apply pw_below_drewN | apply below_drew1) | exact HB.out)) hb)
                                  clear HO_3
                                  clear HB
                                  have HO_3 := n0_
                                  have HO185 := n1_
                                  have HB := n2_
                                  clear n0_ n1_ n2_
                                  clear hb ho55
                                  obtain ⟨Ao57, co57, eo57⟩ := Kd.R_slice HO185.out
                                  (first | subst eo57 | (injection eo57 with f1_ f2_ f3_; have f4_ := f1_.symm; have f5_ := f3_.symm; clear f1_ f2_ f3_; subst f4_; subst f5_))
                                  refine hK.out _ _ trivial (fun hHeld => ?_)
                                  clear hK K
                                  refine norm_ (a' := ?_) ?_ ?_
                                  rotate_left
                                  · show Act.put _ (some 22) _ = _
                                    simp only [Act.put, List.setIfInBounds_toArray, List.set_cons_zero, List.set_cons_succ, i64_w, i32_w]
                                    rfl
                                  refine one_ (i := 8) (N := some 23) #[true, true, true, true, true, true, true, true, true, false] rfl rfl (one_of HT_.out (by kernel_rfl)) (by decide) (fun K hK => ?_)
                                  refine Kd.R_append_rows_step (Kd.int .u8) (w0 := w) w.heap.size (by rfl) (.tmp 15) (.tmp 22) 70 5 (.int .u8 0) 1 rfl Tryd.underlying70 info5 rfl (by decide) (by omega) u3 x3_1 y183 _ _ _ (fun k_ => some k_ ≠ (.slice Ao57 y183.length co57 : Value).ownBlock) (fun _ => False) rfl rfl ?aO ?aR (fun _ _ h => h) (fun _ h => h.elim) ?aF ?aB ?aS ?aL ?_
                                  (case aR => repeat (first | exact (Kd.R_reads' HO185.out).2.2 | (with_reducible refine Kd.C_alloc ?_ _) | (with_reducible refine Kd.C_drewN ?_ _) | (with_reducible refine Kd.C_drew ?_)))
                                  (case aB => exact (by repeat (first | (with_reducible first | exact HB.out | apply below_alloc | apply pw_below_drewN | apply below_drew1) | exact HB.out)))
                                  (case aF => exact (fun k_ hk => Kd.fresh' (Kd.R_lt (by (with_reducible repeat (first | apply Kd.R_alloc | apply Kd.R_drewN | apply Kd.R_drew)); exact HO185.out)) k_ hk))
                                  (case aO => exact (by (with_reducible repeat (first | apply Kd.R_alloc | apply Kd.R_drewN | apply Kd.R_drew)); exact Kd.R_mono HO_3.out (fun _ hk => hk.2)))
                                  (case aS => exact (below_size (by repeat (first | (with_reducible first | exact HB.out | apply below_alloc | apply pw_below_drewN | apply below_drew1) | exact HB.out))))
                                  (case aL => have := LMc52.out; omega)
                                  intro v187 w56 ho hb hg hat
                                  rw [← Ny186.out] at ho
                                  have n0_ := Aside0.mk (Kd.R_after (ok := (fun _ => True)) (by (with_reducible repeat (first | apply Kd.R_alloc | apply Kd.R_drewN | apply Kd.R_drew)); exact HO185.out) hg hat)
                                  have n1_ := Aside0.mk (hb)
                                  have n2_ := Aside0.mk (ho)
                                  clear HO185
                                  clear HB
                                  clear HO_3
                                  have HO185 := n0_
                                  have HB := n1_
                                  have HO188 := n2_
                                  clear n0_ n1_ n2_
                                  clear ho hb hg hat
                                  refine hK.out _ _ trivial (fun hHeld => ?_)
                                  clear hK K
                                  refine norm_ (a' := ?_) ?_ ?_
                                  rotate_left
                                  · show Act.put _ (some 23) _ = _
                                    simp only [Act.put, List.setIfInBounds_toArray, List.set_cons_zero, List.set_cons_succ, i64_w, i32_w]
                                    rfl
                                  refine pure_ (i := 9) (N := some 3) (v := ?_) (a' := ?_) #[true, true, true, true, true, true, true, true, true, true] rfl rfl (any_of HT_.out (by kernel_rfl)) (fun _ _ _ h => h) (Or.inl ⟨by rfl, ?_⟩) ?_ ?_
                                  rotate_left
                                  · intro w'
                                    go_simp
                                    with_reducible rfl
                                  rotate_left
                                  · simp only [Act.put, List.setIfInBounds_toArray, List.set_cons_zero, List.set_cons_succ, i64_w, i32_w]
                                    rfl
                                  refine done_ (done_of HT_.out (by kernel_rfl)) ?_
                                  try go_wp2
                                  go_roundg kj7
                                  case measure => have := HK1.out; have := HJ7.out; omega
                                  case rel => exact ⟨(y186), (wrap64 (x9_1 + 1)), (by first | rfl | (simp; done) | (simp [*]; done)), H', ⟨by have := HK1.out; have := HJ7.out; omega⟩, ⟨by (with_reducible repeat (first | apply Kd.R_alloc | apply Kd.R_drewN | apply Kd.R_drew)); exact Kd.R_mono HO188.out (fun _ hk => trivial)⟩, ⟨by repeat (first | (with_reducible first | exact HB.out | apply below_alloc | apply pw_below_drewN | apply below_drew1) | exact HB.out)⟩⟩
                                · rw [if_neg c52] at H
                                  exact absurd H (by simp)
                              · rw [if_neg c50] at H
                                exact absurd H (by simp)
                            · rw [if_neg c49] at H
                              exact absurd H (by simp)
                          · rw [if_neg c47] at H
                            exact absurd H (by simp)
                        · rw [if_neg c46] at H
                          exact absurd H (by simp)
          · rw [if_neg c6] at H
            exact absurd H (by simp)
        · rw [if_neg c5] at H
          exact absurd H (by simp)
      · rw [if_neg c4] at H
        have c4b0 : decide (x9_1 < (a0.size : Int)) = false := decide_eq_false c4
        clear c4
        by_cases c58 : x3_1.length < 140737488355328
        · rw [if_pos c58] at H
          have LMc58 := Aside0.mk c58
          clear c58
          obtain ⟨y153, hy153⟩ : ∃ y_ : List Int, y_ = (x3_1 ++ [34]) := ⟨_, rfl⟩
          replace H : (some (strOfNums y153)) = some r := by first | (rw [hy153]; with_reducible exact H) | (have H2_ := (Option.bind_some _ _).symm.trans H; rw [hy153]; with_reducible exact H2_) | (have H2_ := (Option.bind_some _ _).symm.trans H; with_reducible exact H2_) | with_reducible exact H | (rw [hy153]; exact H) | exact H
          have Ny153 := Aside0.mk hy153
          clear hy153
          obtain rfl := Option.some.inj H
          go_wp2_with (first | ((with_reducible refine gate_builtin (b := .append) (xs := #[.tmp 59, .tmp 60]) rfl ?_); at_builtin; refine Kd.R_append (Kd.int .u8) (w0 := w) w.heap.size rfl (.tmp 59) (.tmp 60) 70 5 (.int .u8 0) 1 rfl Tryd.underlying70 info5 rfl (by decide) (by omega) u3 x3_1 34 [.int .u8 34] (fun _ => True) (fun _ => False) rfl rfl ?aP (fun _ hk => hk.elim) ?aF ?aO ?aB ?aS ?aL ?_; (case aP => exact rfl); (case aB => exact (by repeat (first | (with_reducible first | exact HB.out | apply below_alloc | apply pw_below_drewN | apply below_drew1) | exact HB.out))); (case aF => exact (fun _ _ => trivial)); (case aO => exact (by (with_reducible repeat (first | apply Kd.R_alloc | apply Kd.R_drewN | apply Kd.R_drew)); exact HO_3.out)); (case aS => exact (below_size (by repeat (first | (with_reducible first | exact HB.out | apply below_alloc | apply pw_below_drewN | apply below_drew1) | exact HB.out)))); (case aL => have := LMc58.out; omega); intro v154 w59 ho hb hg hat; rw [← Ny153.out] at ho; have n0_ := Aside0.mk (hb); have n1_ := Aside0.mk (ho); clear HB; clear HO_3; have HB := n0_; have HO155 := n1_; clear n0_ n1_; clear ho hb hg hat; have hcv60 := own_string (P := Tryd.prog) Tryd.underlying70 Tryd.underlying5 Tryd.underlying9 (Kd.own_of_R HO155.out)))
          go_ret
          exact ⟨by first | rfl | (simp [errW_none, errW_some] <;> rfl) | (simp [*, errW_none, errW_some] <;> rfl), by repeat (first | (with_reducible first | exact HB.out | apply below_alloc | apply pw_below_drewN | apply below_drew1) | exact HB.out)⟩
        · rw [if_neg c58] at H
          exact absurd H (by simp)
end Go.Proofs.YtaijoghpfobdbaaDoor.X
end
section
set_option linter.unusedVariables false
set_option linter.unusedSimpArgs false
namespace Go.Proofs.YtaijoghpfobdbaaDoor.L
open Go.Proofs.YtaijoghpfobdbaaDoor
def isD (b : UInt8) : Bool := G.dig (b.toNat : Int)
def isL (b : UInt8) : Bool := G.letr (b.toNat : Int)
def isW (b : UInt8) : Bool := isL b || isD b
def blank (b : UInt8) : Bool := decide (b.toNat = 32 ∨ b.toNat = 9 ∨ b.toNat = 10 ∨ b.toNat = 13)
def lead (p : UInt8 → Bool) : List UInt8 → Nat
  | [] => 0
  | b :: t => if p b then lead p t + 1 else 0
def hexv (b : UInt8) : Option Nat :=
  if 48 ≤ b.toNat ∧ b.toNat ≤ 57 then some (b.toNat - 48)
  else if 97 ≤ b.toNat ∧ b.toNat ≤ 102 then some (b.toNat - 87)
  else if 65 ≤ b.toNat ∧ b.toNat ≤ 70 then some (b.toNat - 55) else none
def escx : List UInt8 → Option (UInt8 × Nat)
  | a :: b :: _ => match hexv a, hexv b with
    | some x, some y => some ((16 * x + y).toUInt8, 3)
    | _, _ => none
  | _ => none
def esc : List UInt8 → Option (UInt8 × Nat)
  | [] => none
  | c :: t => if c.toNat = 92 ∨ c.toNat = 34 then some (c, 1) else if c.toNat = 110 then some (10, 1) else if c.toNat = 116 then some (9, 1)
    else if c.toNat = 120 then escx t
    else none
structure Tk where
  kind : Nat
  text : List UInt8
  num : Nat
  len : Nat
inductive R where
  | ok (t : Tk)
  | bad (off : Nat) (e : Nat)
def tx (off : Nat) (acc : List UInt8) (l : List UInt8) : R :=
  match l with
  | [] => .bad 0 81
  | b :: t =>
    if b.toNat = 10 then .bad 0 81
    else if b.toNat = 34 then .ok ⟨3, acc, 0, off + 1⟩
    else if b.toNat = 92 then
      match esc t with
      | none => .bad off 82
      | some (c, n) => tx (off + n + 1) (acc ++ [c]) (t.drop n)
    else tx (off + 1) (acc ++ [b]) t
termination_by l.length
decreasing_by all_goals (simp only [List.length_cons, List.length_drop]; omega)
structure Tok where
  kind : Nat
  text : List UInt8
  num : Nat
  at' : Nat
  fin : Nat
inductive LR where
  | toks (l : List Tok)
  | bad (at' : Nat) (e : Nat)
def LR.push (t : Tok) : LR → LR
  | .toks l => .toks (t :: l)
  | .bad a e => .bad a e
def Tk.at_ (t : Tk) (o : Nat) : Tok := ⟨t.kind, t.text, t.num, o, o + t.len⟩
def Name (l : List UInt8) : Bool := match l with
  | [] => false
  | b :: t => decide (l.length ≤ 64) && isL b && decide (lead isW l = l.length)
def hx (n : Nat) : UInt8 := (if n < 10 then 48 + n else 87 + n).toUInt8
def qb (b : UInt8) : List UInt8 :=
  if b.toNat = 92 ∨ b.toNat = 34 then [92, b] else if b.toNat = 10 then [92, 110] else if b.toNat = 9 then [92, 116]
  else if 32 ≤ b.toNat ∧ b.toNat ≤ 126 then [b] else [92, 120, hx (b.toNat / 16), hx (b.toNat % 16)]
def qs : List UInt8 → List UInt8
  | [] => []
  | b :: t => qb b ++ qs t
def Quote (l : List UInt8) : List UInt8 := 34 :: (qs l ++ [34])
end Go.Proofs.YtaijoghpfobdbaaDoor.L
end
section
set_option linter.unusedVariables false
set_option linter.unusedSimpArgs false
namespace Go.Proofs.YtaijoghpfobdbaaDoor.L
open Go.Proofs.YtaijoghpfobdbaaDoor
def gs : Bool → List UInt8 → Option Bool
  | r, [] => some r
  | false, b :: t => if blank b then gs false t else if b.toNat = 35 then gs true t else none
  | true, b :: t => gs (b.toNat != 10) t
end Go.Proofs.YtaijoghpfobdbaaDoor.L
end
section
set_option linter.unusedVariables false
set_option linter.unusedSimpArgs false
namespace Go.Proofs.YtaijoghpfobdbaaDoor.L
open Go.Proofs.YtaijoghpfobdbaaDoor
def stripT (t : Tok) : Nat × List UInt8 × Nat × Nat := (t.kind, t.text, t.num, t.fin - t.at')
def st : LR → Option (List (Nat × List UInt8 × Nat × Nat))
  | .toks l => some (l.map stripT)
  | .bad _ _ => none
theorem qb_len (b : UInt8) : 1 ≤ (qb b).length ∧ (qb b).length ≤ 4 := by unfold qb; split; simp; split; simp; split; simp; split <;> simp
theorem qs_len (s : List UInt8) : s.length ≤ (qs s).length ∧ (qs s).length ≤ 4 * s.length := by
  induction s with
  | nil => simp [qs]
  | cons b t ih => have := qb_len b; rw [qs, List.length_append, List.length_cons]; omega
end Go.Proofs.YtaijoghpfobdbaaDoor.L
end
section
set_option linter.unusedVariables false
set_option linter.unusedSimpArgs false
namespace Go.Proofs.YtaijoghpfobdbaaDoor.T
open Go.RowKit Go.Proofs.YtaijoghpfobdbaaDoor Go.Proofs.YtaijoghpfobdbaaDoor.X Go.Proofs.YtaijoghpfobdbaaDoor.L Go.Proofs.YtaijoghpfobdbaaDoorW.PrintWords Go.Proofs.YtaijoghpfobdbaaDoorW.PrintLast Go.Proofs.YtaijoghpfobdbaaDoorW.PrintMore
theorem size_len (s : ByteArray) : s.size = s.data.toList.length := (data_length s).symm
theorem ext_list (s : ByteArray) (i j : Nat) : (s.extract i j).data.toList = (s.data.toList.drop i).take (j - i) := by
  rw [ByteArray.data_extract, Array.toList_extract, List.extract_eq_take_drop]
def ba (l : List UInt8) : ByteArray := ⟨l.toArray⟩
theorem ba_list (l : List UInt8) : (ba l).data.toList = l := rfl
theorem ba_of (s : ByteArray) : ba s.data.toList = s := rfl
theorem ba_eq {s : ByteArray} {l : List UInt8} (h : s.data.toList = l) : s = ba l := by rw [← h, ba_of]
theorem ba_ext (s : ByteArray) (i j : Nat) : s.extract i j = ba ((s.data.toList.drop i).take (j - i)) := ba_eq (ext_list s i j)
theorem w64s {x : Int} (h0 : -4611686018427387904 ≤ x) (h1 : x ≤ 4611686018427387904) : wrap64 x = x := by unfold wrap64; omega
theorem w1 {i : Nat} (n : Nat) (h : i + n ≤ 4611686018427387904) : wrap64 ((i : Int) + (n : Int)) = ((i + n : Nat) : Int) := by
  rw [w64s (by omega) (by omega)]; rfl
theorem drop_len {s : ByteArray} {i : Nat} {l : List UInt8} (h : s.data.toList.drop i = l) (hi : i ≤ s.size) : s.size = i + l.length := by
  rw [← h, List.length_drop, ← size_len]; omega
theorem drop_next {s : ByteArray} {i : Nat} {b : UInt8} {t : List UInt8} (h : s.data.toList.drop i = b :: t) : s.data.toList.drop (i + 1) = t := by
  rw [← List.drop_drop, h]; rfl
theorem drop_lt {s : ByteArray} {i : Nat} {b : UInt8} {t : List UInt8} (h : s.data.toList.drop i = b :: t) : i < s.size := by
  rw [size_len]
  have := congrArg List.length h
  rw [List.length_drop, List.length_cons] at this; omega
theorem bt_drop {s : ByteArray} {i : Nat} {b : UInt8} {t : List UInt8} (h : s.data.toList.drop i = b :: t) : bt s (i : Int) = (b.toNat : Int) := by
  have hi := drop_lt h
  have h2 : i < s.data.toList.length := by rw [← size_len]; exact hi
  have e := List.drop_eq_getElem_cons h2
  rw [h] at e
  injection e with e1 e2
  unfold bt
  rw [dif_pos (show ((i : Int)).toNat < s.size by rw [Int.toNat_natCast]; exact hi), e1]
  congr 2
theorem isL_eq (b : UInt8) : lex_isLetter.f (b.toNat : Int) = some (isL b) := by
  unfold lex_isLetter.f isL G.letr
  have e : ∀ x : Bool, (x = true ↔ ((97 ≤ (b.toNat : Int) ∧ (b.toNat : Int) ≤ 122) ∨ (65 ≤ (b.toNat : Int) ∧ (b.toNat : Int) ≤ 90) ∨ (b.toNat : Int) = 95)) → some x = some (decide ((97 ≤ (b.toNat : Int) ∧ (b.toNat : Int) ≤ 122) ∨ (65 ≤ (b.toNat : Int) ∧ (b.toNat : Int) ≤ 90) ∨ (b.toNat : Int) = 95)) := fun x h => by rw [Option.some.injEq, Bool.eq_iff_iff, decide_eq_true_iff]; exact h
  repeat' split
  all_goals refine e _ ?_
  all_goals first | (simp only [true_iff]; omega) | (rw [beq_iff_eq]; omega)
def nums (l : List UInt8) : List Int := l.map fun b => (b.toNat : Int)
theorem nums_snoc (l : List UInt8) (b : UInt8) : nums l ++ [(b.toNat : Int)] = nums (l ++ [b]) := by unfold nums; simp
theorem nums_len (l : List UInt8) : (nums l).length = l.length := by unfold nums; simp
theorem strOf (l : List UInt8) : strOfNums (nums l) = ba l := by
  unfold strOfNums nums ba
  rw [List.map_map]
  congr 2
  conv => rhs; rw [← List.map_id l]
  apply List.map_congr_left
  intro b hb
  simp
theorem tw_lead (n : Nat) (p : UInt8 → Bool) (hp : ∀ b : UInt8, G.okb n (b.toNat : Int) = p b) (l : List UInt8) : G.tw n l = lead p l := by
  induction l with
  | nil => rfl
  | cons b t ih => rw [G.tw_cons, lead, hp b, ih]
theorem run_eq {n : Nat} {p : UInt8 → Bool} (hn : n = 80 ∨ n = 102 ∨ n = 79) (hp : ∀ b : UInt8, G.okb n (b.toNat : Int) = p b) (s : ByteArray) (hs : s.size ≤ 70368744177664) (i : Nat) (hi : i ≤ s.size) :
    lex_run.f s (i : Int) n = some ((i + lead p (s.data.toList.drop i) : Nat) : Int) := by
  unfold lex_run.f
  rw [if_pos ⟨by omega, by omega, by omega, hn⟩, Int.toNat_natCast, tw_lead n p hp]
end Go.Proofs.YtaijoghpfobdbaaDoor.T
end
section
set_option linter.unusedVariables false
set_option linter.unusedSimpArgs false
namespace Go.Proofs.YtaijoghpfobdbaaDoor.T
open Go.RowKit Go.Proofs.YtaijoghpfobdbaaDoor Go.Proofs.YtaijoghpfobdbaaDoor.X Go.Proofs.YtaijoghpfobdbaaDoor.L Go.Proofs.YtaijoghpfobdbaaDoorW.PrintWords Go.Proofs.YtaijoghpfobdbaaDoorW.PrintLast Go.Proofs.YtaijoghpfobdbaaDoorW.PrintMore
theorem name_eq (s : ByteArray) : lex_Name.f s = some (L.Name s.data.toList) := by
  unfold lex_Name.f
  cases hl : s.data.toList with
  | nil =>
    have : s.size = 0 := by rw [size_len, hl]; rfl
    rw [if_neg (by omega)]; rfl
  | cons b t =>
    have hsz : s.size = t.length + 1 := by rw [size_len, hl]; rfl
    rw [if_pos (by omega)]
    unfold L.Name
    simp only [List.length_cons]
    by_cases h1 : s.size ≤ 64
    · have hd : s.data.toList.drop 0 = b :: t := hl
      have hbt := bt_drop hd
      rw [if_pos (by omega), if_pos (by omega), show bt s 0 = (b.toNat : Int) from hbt, isL_eq, Option.bind_some, decide_eq_true (show t.length + 1 ≤ 64 by omega), Bool.true_and]
      by_cases h2 : isL b = true
      · have hr := run_eq (n := 102) (p := isW) (.inr (.inl rfl)) (fun b => rfl) s (by omega) 0 (by omega)
        rw [hd, Nat.zero_add] at hr
        rw [if_pos h2, show lex_run.f s 0 102 = _ from hr, Option.bind_some, h2, Bool.true_and]
        congr 1
        rw [Bool.eq_iff_iff, beq_iff_eq, decide_eq_true_iff]
        omega
      · rw [if_neg h2]; simp [h2]
    · rw [if_neg (by omega), decide_eq_false (show ¬ t.length + 1 ≤ 64 by omega)]; rfl
theorem ba_size (l : List UInt8) : (ba l).size = l.length := by rw [size_len, ba_list]
def digs : ByteArray := ⟨#[48, 49, 50, 51, 52, 53, 54, 55, 56, 57, 97, 98, 99, 100, 101, 102]⟩
theorem digs_hx : ∀ n : Nat, n < 16 → bt digs (n : Int) = ((L.hx n).toNat : Int) := by
  have : ∀ n : Fin 16, bt digs (n.val : Int) = ((L.hx n.val).toNat : Int) := by decide
  exact fun n h => this ⟨n, h⟩
theorem and15 (b : UInt8) : Go.bits .and .u8 (b.toNat : Int) 15 = ((b.toNat % 16 : Nat) : Int) := by
  have : ∀ n : Fin 256, Go.bits .and .u8 (n.val : Int) 15 = ((n.val % 16 : Nat) : Int) := by decide +kernel
  exact this ⟨b.toNat, b.toNat_lt⟩
theorem nums_app (l m : List UInt8) : nums l ++ nums m = nums (l ++ m) := by unfold nums; rw [List.map_append]
theorem quote_ev (s : ByteArray) (hs : s.size ≤ 4398046511104) : Ev (fun k => lex_Quote.f k s) (ba (L.Quote s.data.toList)) := by
  have key : ∀ (d i : Nat) (acc : List UInt8), s.size - i ≤ d → i ≤ s.size → acc.length ≤ 4 * i + 1 → Ev (fun k => lex_Quote.l0 k s (nums acc) (s.size : Int) (i : Int)) (ba (acc ++ (qs (s.data.toList.drop i) ++ [34]))) := by
    intro d
    induction d with
    | zero =>
      intro i acc hd hi ha
      have e : s.data.toList.drop i = [] := List.drop_of_length_le (by rw [← size_len]; omega)
      refine Ev.step (fun k => by simp only [lex_Quote.l0]; rfl) ?_
      rw [e]
      simp only [if_neg (show ¬ (i : Int) < (s.size : Int) by omega), if_pos (show (nums acc).length < 140737488355328 by rw [nums_len]; omega), qs, List.nil_append]
      rw [show nums acc ++ [34] = nums (acc ++ [34]) from nums_snoc acc 34, strOf]
      exact Ev.now _
    | succ d ih =>
      intro i acc hd hi ha
      cases hl : s.data.toList.drop i with
      | nil =>
        have := drop_len hl hi
        simp only [List.length_nil] at this
        have := ih i acc (by omega) hi ha
        rw [hl] at this; exact this
      | cons b t =>
        have hlt := drop_lt hl
        have hbt := bt_drop hl
        have hnx := drop_next hl
        have W : Aside0 (wrap64 ((i : Int) + 1) = ((i + 1 : Nat) : Int)) := ⟨w1 1 (by omega)⟩
        have hq := qb_len b
        have ihn := ih (i + 1) (acc ++ qb b) (by omega) (by omega) (by rw [List.length_append]; omega)
        rw [hnx] at ihn
        have hlen : (nums acc).length < 140737488355000 := by rw [nums_len]; omega
        have hb := b.toNat_lt
        have goal : acc ++ (qs (b :: t) ++ [34]) = acc ++ qb b ++ (qs t ++ [34]) := by rw [qs]; simp only [List.append_assoc]
        rw [goal]
        have fin : ∀ (e : List UInt8), qb b = e → Ev (fun k => lex_Quote.l0 k s (nums acc ++ nums e) (s.size : Int) ((i + 1 : Nat) : Int)) (ba (acc ++ qb b ++ (qs t ++ [34]))) := by
          intro e he; rw [← he, nums_app]; exact ihn
        have hj : ∀ x : Bool, (x = true ↔ (b.toNat = 92 ∨ b.toNat = 34)) → Ev (fun k => lex_Quote.j1 k s (nums acc) (b.toNat : Int) (s.size : Int) (i : Int) x) (ba (acc ++ qb b ++ (qs t ++ [34]))) := by
          intro x hxx
          refine Ev.step (fun k => by simp only [lex_Quote.j1]; rfl) ?_
          simp only [Option.bind_some, List.length_cons, List.length_nil, W.out]
          by_cases h1 : b.toNat = 92 ∨ b.toNat = 34
          · simp only [hxx.2 h1, if_true, if_pos (show (nums acc).length + (0 + 1 + 1) < 140737488355328 by omega)]
            exact fin [92, b] (by unfold qb; rw [if_pos h1])
          have hxf : ¬ x = true := fun h => h1 (hxx.1 h)
          simp only [if_neg hxf]
          by_cases h2 : b.toNat = 10
          · simp only [if_pos (show (b.toNat : Int) = 10 by omega), if_pos (show (nums acc).length + (0 + 1 + 1) < 140737488355328 by omega)]
            exact fin [92, 110] (by unfold qb; rw [if_neg h1, if_pos h2])
          simp only [if_neg (show ¬ (b.toNat : Int) = 10 by omega)]
          by_cases h3 : b.toNat = 9
          · simp only [if_pos (show (b.toNat : Int) = 9 by omega), if_pos (show (nums acc).length + (0 + 1 + 1) < 140737488355328 by omega)]
            exact fin [92, 116] (by unfold qb; rw [if_neg h1, if_neg h2, if_pos h3])
          simp only [if_neg (show ¬ (b.toNat : Int) = 9 by omega)]
          by_cases h4 : 32 ≤ b.toNat ∧ b.toNat ≤ 126
          · simp only [if_pos (show (b.toNat : Int) ≥ 32 by omega), if_pos (show (b.toNat : Int) ≤ 126 by omega), if_pos (show (nums acc).length < 140737488355328 by omega)]
            exact fin [b] (by unfold qb; rw [if_neg h1, if_neg h2, if_neg h3, if_pos h4])
          have d16 : (b.toNat : Int) / 16 = ((b.toNat / 16 : Nat) : Int) := rfl
          have dg1 : bt (⟨#[48, 49, 50, 51, 52, 53, 54, 55, 56, 57, 97, 98, 99, 100, 101, 102]⟩ : ByteArray) ((b.toNat / 16 : Nat) : Int) = ((L.hx (b.toNat / 16)).toNat : Int) := digs_hx _ (by omega)
          have dg2 : bt (⟨#[48, 49, 50, 51, 52, 53, 54, 55, 56, 57, 97, 98, 99, 100, 101, 102]⟩ : ByteArray) ((b.toNat % 16 : Nat) : Int) = ((L.hx (b.toNat % 16)).toNat : Int) := digs_hx _ (by omega)
          have last := fin [92, 120, L.hx (b.toNat / 16), L.hx (b.toNat % 16)] (by unfold qb; rw [if_neg h1, if_neg h2, if_neg h3, if_neg h4])
          by_cases h5 : (b.toNat : Int) ≥ 32
          · simp only [if_pos h5, if_neg (show ¬ (b.toNat : Int) ≤ 126 by omega), and15, d16, dg1, dg2, if_pos (show (0 : Int) ≤ ((b.toNat / 16 : Nat) : Int) by omega), if_pos (show ((b.toNat / 16 : Nat) : Int) < 16 by omega), if_pos (show (0 : Int) ≤ ((b.toNat % 16 : Nat) : Int) by omega), if_pos (show ((b.toNat % 16 : Nat) : Int) < 16 by omega), if_pos (show (nums acc).length + (0 + 1 + 1 + 1 + 1) < 140737488355328 by omega)]
            exact last
          · simp only [if_neg h5, and15, d16, dg1, dg2, if_pos (show (0 : Int) ≤ ((b.toNat / 16 : Nat) : Int) by omega), if_pos (show ((b.toNat / 16 : Nat) : Int) < 16 by omega), if_pos (show (0 : Int) ≤ ((b.toNat % 16 : Nat) : Int) by omega), if_pos (show ((b.toNat % 16 : Nat) : Int) < 16 by omega), if_pos (show (nums acc).length + (0 + 1 + 1 + 1 + 1) < 140737488355328 by omega)]
            exact last
        refine Ev.step (fun k => by simp only [lex_Quote.l0]; rfl) ?_
        simp only [if_pos (show (i : Int) < (s.size : Int) by omega), if_pos (show (0 : Int) ≤ (i : Int) by omega), hbt]
        by_cases h0 : b.toNat = 92
        · simp only [if_pos (show (b.toNat : Int) = 92 by omega)]
          exact hj true (by simp [h0])
        · simp only [if_neg (show ¬ (b.toNat : Int) = 92 by omega)]
          exact hj _ (by rw [beq_iff_eq]; omega)
  have := key s.size 0 [34] (by omega) (by omega) (by simp)
  rw [List.drop_zero] at this
  exact Ev.congr (fun k => rfl) this
end Go.Proofs.YtaijoghpfobdbaaDoor.T
end
section
set_option linter.unusedVariables false
set_option linter.unusedSimpArgs false
namespace Go.Proofs.YtaijoghpfobdbaaDoor.P
open Go.RowKit Go.Proofs.YtaijoghpfobdbaaDoor.X Go.Proofs.YtaijoghpfobdbaaDoorW.PrintWords Go.Proofs.YtaijoghpfobdbaaDoorW.PrintLast
mutual
def dep : Tr → Nat
  | .mk _ ks => dmx ks + 1
/-- The greatest depth. -/
def dmx : List Tr → Nat
  | [] => 0
  | t :: ts => max (dep t) (dmx ts)
end
theorem mx_app (a b : List Tr) : dmx (a ++ b) = max (dmx a) (dmx b) := by
  induction a with
  | nil => simp [dmx]
  | cons t a ih => rw [List.cons_append, dmx, dmx, ih]; omega
theorem dep_le_mx {t : Tr} {l : List Tr} (h : t ∈ l) : dep t ≤ dmx l := by
  induction l with
  | nil => cases h
  | cons x l ih =>
    rw [dmx]
    rcases List.mem_cons.1 h with rfl | h
    · omega
    · have := ih h; omega
theorem mx_split (st : List Tr) (k : Nat) : dmx st = max (dmx (st.take k)) (dmx (st.drop k)) := by rw [← mx_app, List.take_append_drop]
def sg (st : List Tr) (n : Nd) : Option (List Tr) :=
  match kd n with
  | none => none
  | some k => if k ≤ st.length then some (st.take (st.length - k) ++ [.mk n (st.drop (st.length - k))]) else none
def build : List Nd → List Tr → Option (List Tr)
  | [], st => some st
  | n :: ns, st => (sg st n).bind (build ns)
theorem sg_some {st st' : List Tr} {n : Nd} (h : sg st n = some st') : ∃ k, kd n = some k ∧ k ≤ st.length ∧ st' = st.take (st.length - k) ++ [.mk n (st.drop (st.length - k))] := by
  unfold sg at h
  split at h
  · cases h
  · split at h
    · rename_i k hk hl
      cases h
      exact ⟨k, hk, hl, rfl⟩
    · cases h
theorem sg_len {st st' : List Tr} {n : Nd} (h : sg st n = some st') : 1 ≤ st'.length ∧ st'.length ≤ st.length + 1 := by
  obtain ⟨k, _, hl, rfl⟩ := sg_some h
  rw [List.length_append, List.length_take, List.length_singleton]; omega
theorem sg_mx {st st' : List Tr} {n : Nd} (h : sg st n = some st') : dmx st' ≤ dmx st + 1 ∧ dmx st ≤ dmx st' := by
  obtain ⟨k, _, hl, rfl⟩ := sg_some h
  have := mx_split st (st.length - k)
  rw [mx_app, dmx, dmx, dep]
  omega
def judgeE (ns : List Nd) : Int :=
  match build ns [] with
  | some [t] => if 100 < dep t then 91 else 0
  | _ => 1
def pile (st : List Tr) : List Int := st.map fun t => (dep t : Int)
theorem pile_len (st : List Tr) : (pile st).length = st.length := List.length_map _
theorem pile_rd (st : List Tr) (j : Nat) (hj : j < st.length) : rd (pile st) (j : Int) = (dep st[j] : Int) := by
  unfold rd pile
  rw [Int.toNat_natCast, List.getD_eq_getElem?_getD, List.getElem?_map, List.getElem?_eq_getElem hj]; rfl
def kr (n : Nd) : Int :=
  if n.f0 = 1 ∨ n.f0 = 2 ∨ n.f0 = 3 ∨ n.f0 = 4 then 0 else if n.f0 = 5 ∨ n.f0 = 11 ∨ n.f0 = 12 then 1
  else if n.f0 = 6 ∨ n.f0 = 7 ∨ n.f0 = 8 ∨ n.f0 = 10 then 2 else if n.f0 = 9 then (if n.f1 ≥ 1 then n.f1 else -1) else -1
theorem kd_kr (n : Nd) : kd n = if kr n < 0 ∨ badF n then none else some (kr n).toNat := by
  unfold kd kv kr
  by_cases hb : badF n
  · simp [hb]
  · simp only [if_neg hb]
    by_cases h1 : n.f0 = 1 ∨ n.f0 = 2 ∨ n.f0 = 3 ∨ n.f0 = 4
    · simp [h1, hb]
    by_cases h2 : n.f0 = 5 ∨ n.f0 = 11 ∨ n.f0 = 12
    · simp [h1, h2, hb]
    by_cases h3 : n.f0 = 6 ∨ n.f0 = 7 ∨ n.f0 = 8 ∨ n.f0 = 10
    · simp [h1, h2, h3, hb]
    by_cases h4 : n.f0 = 9
    · by_cases h5 : n.f1 ≥ 1
      · simp only [if_neg h1, if_neg h2, if_neg h3, if_pos h4, if_pos h5, decide_eq_true h5, if_true]
        rw [if_neg (by rintro (h | h); omega; exact hb h)]
      · simp only [if_neg h1, if_neg h2, if_neg h3, if_pos h4, if_neg h5, decide_eq_false h5]
        rw [if_neg (by decide), if_pos (.inl (by omega))]
    · simp [h1, h2, h3, h4]
theorem rd_nd (ns : List Nd) (i : Nat) (n : Nd) (t : List Nd) (h : ns.drop i = n :: t) : rd_T46 ns (i : Int) = n := by
  unfold rd_T46
  rw [Int.toNat_natCast, List.getD_eq_getElem?_getD]
  have : (ns.drop i)[0]? = some n := by rw [h]; rfl
  rw [List.getElem?_drop, Nat.add_zero] at this
  rw [this]; rfl
def rj (r : Option (List Tr)) : Bool × Int :=
  match r with
  | some st => (((pile st).length : Int) == 1, (dmx st : Int))
  | none => (false, 0)
end Go.Proofs.YtaijoghpfobdbaaDoor.P
end
section
set_option linter.unusedVariables false
set_option linter.unusedSimpArgs false
namespace Go.Proofs.YtaijoghpfobdbaaDoor.Bd
open Go.RowKit
theorem sizeBuilder : (Tryd.prog.info? 72).map (·.size) = some 2 := by kernel_rfl
theorem liesBuilder : liesAt Tryd.prog Tryd.prog.depth 74 (2 / Tryd.prog.cellsOf 74) 0 72 1 = true := by kernel_rfl
theorem infoByte : (Tryd.prog.info? 5).map (fun i => (i.zero, i.size, i.bytes)) = some (some (.int .u8 0), 1, 1) := by kernel_rfl
abbrev IsW := Lib.IsBuilder 74 5
abbrev OK := Lib.OthersKept 5
theorem ok_set (b : Nat) (w : World) (i : Nat) (v : Value) : OK (some b) w (w.setCell ⟨b, i, none⟩ v) := by
  intro k o hk hb _
  rw [Below.heap_setCell w ⟨b, i, none⟩ v k (fun e => hb (by rw [e]))]; exact hk
theorem ok_below {b : Option Nat} {w w' : World} (h : Below w.heap.size w w') : OK b w w' := by
  intro k o hk _ _
  have hlt : k < w.heap.size := by
    rcases Nat.lt_or_ge k w.heap.size with h' | h'
    · exact h'
    · simp [Array.getElem?_eq_none h'] at hk
  rw [h.block k hlt]; exact hk
set_option maxHeartbeats 1000000 in
set_option maxRecDepth 100000 in
theorem copyCheck_used (b : Nat) (w : World) (h0 : w.cell? ⟨b, 0, none⟩ = some (.pointer (some ⟨b, 0, none⟩))) :
    Calls Tryd.prog 86 #[.pointer (some ⟨b, 0, none⟩)] w fun e w' => e = .returned (.tuple #[]) ∧ w' = w := by
  obtain ⟨j, hj, _⟩ := Option.map_eq_some_iff.1 sizeBuilder
  have hne := Lib.run_neq_ptr_same (P := Tryd.prog) w (⟨b, 0, none⟩ : Addr) Tryd.underlying69 hj
  go_enter Tryd.func86, Tryd.ntmps86
  go_wp2
  go_end0
  exact ⟨rfl, rfl⟩
set_option maxHeartbeats 1000000 in
set_option maxRecDepth 100000 in
theorem copyCheck_fresh (b : Nat) (w : World) (h0 : w.cell? ⟨b, 0, none⟩ = some (.pointer none)) (hsh : w.shape? b = some (74, 2)) (hfz : w.frozen? ⟨b, 0, none⟩ = false) :
    Calls Tryd.prog 86 #[.pointer (some ⟨b, 0, none⟩)] w fun e w' => e = .returned (.tuple #[]) ∧ w' = w.setCell ⟨b, 0, none⟩ (.pointer (some ⟨b, 0, none⟩)) := by
  obtain ⟨j, hj, hjs⟩ := Option.map_eq_some_iff.1 sizeBuilder
  have h1 := Lib.run_to_unsafe (P := Tryd.prog) w (⟨b, 0, none⟩ : Addr) Tryd.underlying69 Tryd.underlying152 hj (by rw [hjs]; decide) hsh (Nat.zero_lt_succ 1)
  have h2 := Lib.run_from_unsafe (P := Tryd.prog) w (⟨b, 0, none⟩ : Addr) Tryd.underlying152 Tryd.underlying69 hj hsh liesBuilder
  go_enter Tryd.func86, Tryd.ntmps86
  go_wp2
  rw [run_callFunc_extern Tryd.func104 (by kernel_rfl) (by kernel_rfl) (by kernel_rfl) (e := Extern.AbiNoEscape.same) (by kernel_rfl)]
  rw [Lib.run_noEscape]
  simp only [Result.andThen]
  rw [Oper.upon_value]
  go_wp2
  go_end0
  exact ⟨rfl, rfl⟩
theorem copyCheck_any (B b : Nat) (bs : List Value) (w : World) (h : IsW B b bs w) :
    Calls Tryd.prog 86 #[.pointer (some ⟨b, 0, none⟩)] w fun e w' => e = .returned (.tuple #[]) ∧ (Lib.BuilderAt 74 5 B b (.pointer (some ⟨b, 0, none⟩)) bs w' ∧ Below B w w' ∧ OK (some b) w w') := by
  rcases h with h | h
  · refine (copyCheck_fresh b w h.cell0 h.shape h.frozen0).mono ?_
    rintro e w' ⟨rfl, rfl⟩
    exact ⟨rfl, h.used _, (Below.refl B w).setCell (p := ⟨b, 0, none⟩) h.1 _, ok_set b w 0 _⟩
  · refine (copyCheck_used b w h.cell0).mono ?_
    rintro e w' ⟨rfl, rfl⟩
    exact ⟨rfl, h, Below.refl B _, Lib.OthersKept.refl _ _ _⟩
set_option maxHeartbeats 1000000 in
set_option maxRecDepth 100000 in
theorem len_calls (B b : Nat) (bs : List Value) (w : World) (h : IsW B b bs w) :
    Calls Tryd.prog 55 #[.pointer (some ⟨b, 0, none⟩)] w fun e w' => e = .returned (.int .i64 bs.length) ∧ w' = w := by
  obtain ⟨p, hB, v, hbk, hown, hne⟩ : ∃ p, Lib.BuilderAt 74 5 B b p bs w := by
    rcases h with h | h
    · exact ⟨_, h⟩
    · exact ⟨_, h⟩
  obtain ⟨ao, cap, rfl⟩ : ∃ ao cap, v = .slice ao bs.length cap := by
    rcases hown.2 with ⟨hv, h0⟩ | ⟨g, cap, cur, hv, _⟩
    · exact ⟨none, 0, by rw [hv, h0]⟩
    · exact ⟨_, _, hv⟩
  have c1 : w.cell? ⟨b, 1, none⟩ = some (.slice ao bs.length cap) := by rw [Lib.cell_of_heap hbk]; rfl
  go_enter Tryd.func55, Tryd.ntmps55
  go_wp2
  go_ret
  exact ⟨rfl, rfl⟩
set_option maxHeartbeats 2000000 in
set_option maxRecDepth 100000 in
theorem write_calls (B b : Nat) (bs : List Value) (s : ByteArray) (w : World) (h : IsW B b bs w) (hlen : bs.length + s.size ≤ 140737488355328) (hBw : B ≤ w.heap.size) :
    Calls Tryd.prog 56 #[.pointer (some ⟨b, 0, none⟩), .string s] w fun e w' => e = .returned (.tuple #[.int .i64 s.size, .nilIface]) ∧ IsW B b (bs ++ Lib.strCells s) w' ∧ Below B w w' ∧ OK (some b) w w' := by
  obtain ⟨i0, hi, hz0, hz1, hz2⟩ := info_parts infoByte
  go_enter Tryd.func56, Tryd.ntmps56
  go_wp2_with (go_at_call 86; refine (copyCheck_any B b bs _ h).mono ?_)
  rintro e w1 ⟨rfl, h1, hb1, hk1⟩
  obtain ⟨hB, v, hbk, hown, hne⟩ := h1
  have c0 : w1.cell? ⟨b, 0, none⟩ = some (.pointer (some ⟨b, 0, none⟩)) := by rw [Lib.cell_of_heap hbk]; rfl
  have c1 : w1.cell? ⟨b, 1, none⟩ = some v := by rw [Lib.cell_of_heap hbk]; rfl
  go_wp2_with (at_builtin; refine Lib.wpList_append_own_string _ rfl _ _ 70 9 rfl B 5 i0 Tryd.underlying70 Tryd.underlying9 hi hz0 hz1 hz2 _ _ _ rfl hown s rfl ?c3 ?c4 ?c5 ?_)
  case c3 => unfold maxLen; omega
  case c4 => omega
  case c5 => have := hb1.size; omega
  intro v' w2 hown' hgrow _
  have hlt : b < w1.heap.size := by
    rcases Nat.lt_or_ge b w1.heap.size with h' | h'
    · exact h'
    · simp [Array.getElem?_eq_none h'] at hbk
  have hb2 : w2.heap[b]? = some (.cells #[.pointer (some ⟨b, 0, none⟩), v] 74 (0, 0)) := by
    rw [hgrow.block b hlt (fun e => hne e.symm)]
    exact hbk
  have d0 : w2.cell? ⟨b, 0, none⟩ = some (.pointer (some ⟨b, 0, none⟩)) := by rw [Lib.cell_of_heap hb2]; rfl
  have d1 : w2.cell? ⟨b, 1, none⟩ = some v := by rw [Lib.cell_of_heap hb2]; rfl
  have f1 : w2.frozen? ⟨b, 1, none⟩ = false := Lib.frozen_of_heap hb2 1
  obtain ⟨ao, n', cap, rfl⟩ : ∃ ao n' cap, v' = .slice ao n' cap := by
    rcases hown'.2 with ⟨hv, _⟩ | ⟨g, cap, cur, hv, _⟩
    · exact ⟨_, _, _, hv⟩
    · exact ⟨_, _, _, hv⟩
  have hk2 : OK (some b) w1 w2 := by
    intro k o hk hb hc
    have hlk : k < w1.heap.size := by
      rcases Nat.lt_or_ge k w1.heap.size with h' | h'
      · exact h'
      · simp [Array.getElem?_eq_none h'] at hk
    rw [hgrow.block k hlk (fun e => ?_)]
    · exact hk
    · rcases hown.2 with ⟨hv, _⟩ | ⟨g, cap, cur, hv, _, hg, _⟩
      · rw [hv] at e; simp [Value.ownBlock] at e
      · rw [hv] at e
        simp only [Value.ownBlock, Option.some.injEq] at e
        subst e
        rw [hg] at hk
        exact hc cur (0, 0) (by injection hk with hk; exact hk.symm)
  go_wp2
  go_ret2
  refine ⟨rfl, ?_, ?_, (hk1.trans hk2).trans (ok_set b w2 1 _)⟩
  · exact .inr (Lib.BuilderAt.put (T := 74) (e := 5) hB hb2 (bs' := bs ++ Lib.strCells s) (by simpa [Lib.strCells_length] using hown') (by decide))
  · exact (hb1.grown hgrow (by have := hb1.size; omega) (fun k hk => (hown.lt k hk).1)).setCell (p := ⟨b, 1, none⟩) hB _
theorem cellsByte : Tryd.prog.cellsOf 5 = 1 := by kernel_rfl
set_option maxHeartbeats 2000000 in
set_option maxRecDepth 100000 in
theorem string_some (B b : Nat) (l : List UInt8) (w : World) (h : IsW B b (Lib.byteCells l) w) (h0 : l ≠ []) :
    Calls Tryd.prog 58 #[.pointer (some ⟨b, 0, none⟩)] w fun e w' => e = .returned (.string ⟨l.toArray⟩) ∧ Below B w w' := by
  obtain ⟨p, hB, v, hbk, hown, hne⟩ : ∃ p, Lib.BuilderAt 74 5 B b p (Lib.byteCells l) w := by
    rcases h with h | h
    · exact ⟨_, h⟩
    · exact ⟨_, h⟩
  have hl0 : l.length ≠ 0 := by simpa using h0
  rw [Lib.byteCells_length] at hown
  obtain ⟨g, cap, cur, rfl, hbg, hg, hnc, hcm, hcs, htake⟩ : ∃ g cap cur, v = .slice (some ⟨g, 0, none⟩) l.length cap ∧ B ≤ g ∧ w.heap[g]? = some (.cells cur 5 (0, 0)) ∧ l.length ≤ cap ∧ cap ≤ maxLen ∧ cur.size = cap * 1 ∧ cur.toList.take (l.length * 1) = Lib.byteCells l := by
    rcases hown.2 with ⟨_, hz⟩ | ⟨g, cap, cur, hv, r⟩
    · exact absurd hz hl0
    · exact ⟨g, cap, cur, hv, r⟩
  have c1 : w.drew.cell? ⟨b, 1, none⟩ = some (.slice (some ⟨g, 0, none⟩) l.length cap) := by
    have : w.drew.heap[b]? = some (.cells #[p, .slice (some ⟨g, 0, none⟩) l.length cap] 74 (0, 0)) := hbk
    rw [Lib.cell_of_heap this]; rfl
  have hSD : (Builtin.unsafeSliceData_ #[70] 142 #[.slice (some ⟨g, 0, none⟩) l.length cap]).run Tryd.prog w.drew = .ok (.pointer (some ⟨g, 0, none⟩)) w.drew :=
    Lib.run_unsafeSliceData_row _ _ _ _ _ _ (by omega)
  have hUS : (Builtin.unsafeString_ #[142, 3] 9 #[.pointer (some ⟨g, 0, none⟩), .int .i64 l.length]).run Tryd.prog w.drew = .ok (.string ⟨l.toArray⟩) (w.drew.freeze ⟨g, 0, none⟩ l.length) := by
    refine Lib.run_unsafeString_row w.drew 142 3 9 5 Tryd.underlying142 cellsByte g cur.size (by have hg' : w.drew.heap[g]? = some (.cells cur 5 (0, 0)) := hg; simp [World.shape?, hg']) l h0 (by omega) (by unfold maxLen at hcm; omega) ?_
    intro j x hx
    have := hown.cells (g := g) rfl j (.int .u8 x.toNat) (by simp [Lib.byteCells, hx])
    exact this
  go_enter Tryd.func58, Tryd.ntmps58
  go_wp2
  go_region
  all_goals (go_wp2; go_ret; exact ⟨rfl, Lib.below_freeze (Below.drew (Below.refl B w)) (p := ⟨g, 0, none⟩) hbg _⟩)
theorem us_none (W : World) (q : Option Addr) : (Builtin.unsafeString_ #[142, 3] 9 #[.pointer q, .int .i64 0]).run Tryd.prog W = .ok (.string .empty) W :=
  Lib.run_unsafeString_none W _ _ _ q
set_option maxHeartbeats 2000000 in
set_option maxRecDepth 100000 in
theorem string_nil (B b : Nat) (p : Value) (w : World) (hbk : w.heap[b]? = some (.cells #[p, .slice none 0 0] 74 (0, 0))) :
    Calls Tryd.prog 58 #[.pointer (some ⟨b, 0, none⟩)] w fun e w' => e = .returned (.string ⟨#[]⟩) ∧ Below B w w' := by
  have hUS := us_none
  have c1 : w.drew.cell? ⟨b, 1, none⟩ = some (.slice none 0 0) := by
    have : w.drew.heap[b]? = some (.cells #[p, .slice none 0 0] 74 (0, 0)) := hbk
    rw [Lib.cell_of_heap this]; rfl
  have hSD : (Builtin.unsafeSliceData_ #[70] 142 #[.slice none 0 0]).run Tryd.prog w.drew = .ok (.pointer none) w.drew := rfl
  go_enter Tryd.func58, Tryd.ntmps58
  go_wp2
  go_region
  all_goals (go_wp2; go_ret; exact ⟨rfl, Below.drew (Below.refl B w)⟩)
set_option maxHeartbeats 2000000 in
set_option maxRecDepth 100000 in
theorem string_noroom (B b g : Nat) (p : Value) (cur : Array Value) (w : World) (hBw : B ≤ w.heap.size) (hbk : w.heap[b]? = some (.cells #[p, .slice (some ⟨g, 0, none⟩) 0 0] 74 (0, 0))) (hg : w.heap[g]? = some (.cells cur 5 (0, 0))) :
    Calls Tryd.prog 58 #[.pointer (some ⟨b, 0, none⟩)] w fun e w' => e = .returned (.string ⟨#[]⟩) ∧ Below B w w' := by
  have hUS := us_none
  have hlt : b < w.heap.size := by
    rcases Nat.lt_or_ge b w.heap.size with h' | h'
    · exact h'
    · simp [Array.getElem?_eq_none h'] at hbk
  have c1 : w.drew.cell? ⟨b, 1, none⟩ = some (.slice (some ⟨g, 0, none⟩) 0 0) := by
    have : w.drew.heap[b]? = some (.cells #[p, .slice (some ⟨g, 0, none⟩) 0 0] 74 (0, 0)) := hbk
    rw [Lib.cell_of_heap this]; rfl
  have hSD : (Builtin.unsafeSliceData_ #[70] 142 #[.slice (some ⟨g, 0, none⟩) 0 0]).run Tryd.prog w.drew = .ok (.pointer (some ⟨w.drew.heap.size, 0, none⟩)) (w.drew.alloc (.view ⟨g, 0, none⟩ 5)) :=
    Lib.run_unsafeSliceData_zero w.drew _ _ 5 Tryd.underlying142 ⟨g, 0, none⟩ 0 (5, cur.size) (by have hg' : w.drew.heap[g]? = some (.cells cur 5 (0, 0)) := hg; simp [World.shape?, hg'])
  have c2 : (w.drew.alloc (.view ⟨g, 0, none⟩ 5)).cell? ⟨b, 1, none⟩ = some (.slice (some ⟨g, 0, none⟩) 0 0) := by
    have : (w.drew.alloc (.view ⟨g, 0, none⟩ 5)).heap[b]? = _ := (Lib.alloc_old w.drew _ b hlt).trans hbk
    rw [Lib.cell_of_heap this]; rfl
  have c3 : (w.alloc (.view ⟨g, 0, none⟩ 5)).drew.cell? ⟨b, 1, none⟩ = some (.slice (some ⟨g, 0, none⟩) 0 0) := c2
  have c0 : w.cell? ⟨b, 1, none⟩ = some (.slice (some ⟨g, 0, none⟩) 0 0) := c1
  go_enter Tryd.func58, Tryd.ntmps58
  go_wp2
  go_region
  all_goals (go_wp2; go_ret; exact ⟨rfl, (Below.drew (Below.refl B w)).alloc hBw _⟩)
set_option maxHeartbeats 2000000 in
set_option maxRecDepth 100000 in
theorem string_room (B b g cap : Nat) (p : Value) (w : World) (hc0 : cap ≠ 0) (hbk : w.heap[b]? = some (.cells #[p, .slice (some ⟨g, 0, none⟩) 0 cap] 74 (0, 0))) :
    Calls Tryd.prog 58 #[.pointer (some ⟨b, 0, none⟩)] w fun e w' => e = .returned (.string ⟨#[]⟩) ∧ Below B w w' := by
  have hUS := us_none
  have c1 : w.drew.cell? ⟨b, 1, none⟩ = some (.slice (some ⟨g, 0, none⟩) 0 cap) := by
    have : w.drew.heap[b]? = some (.cells #[p, .slice (some ⟨g, 0, none⟩) 0 cap] 74 (0, 0)) := hbk
    rw [Lib.cell_of_heap this]; rfl
  have hSD : (Builtin.unsafeSliceData_ #[70] 142 #[.slice (some ⟨g, 0, none⟩) 0 cap]).run Tryd.prog w.drew = .ok (.pointer (some ⟨g, 0, none⟩)) w.drew :=
    Lib.run_unsafeSliceData_row _ _ _ _ _ _ hc0
  clear hc0
  go_enter Tryd.func58, Tryd.ntmps58
  go_wp2
  go_region
  all_goals (go_wp2; go_ret; exact ⟨rfl, Below.drew (Below.refl B w)⟩)
theorem string_calls (B b : Nat) (l : List UInt8) (w : World) (h : IsW B b (Lib.byteCells l) w) (hBw : B ≤ w.heap.size) :
    Calls Tryd.prog 58 #[.pointer (some ⟨b, 0, none⟩)] w fun e w' => e = .returned (.string ⟨l.toArray⟩) ∧ Below B w w' := by
  cases l with
  | cons x r => exact string_some B b (x :: r) w h (by simp)
  | nil =>
    obtain ⟨p, hB, v, hbk, hown, hne⟩ : ∃ p, Lib.BuilderAt 74 5 B b p [] w := by
      rcases h with h | h
      · exact ⟨_, h⟩
      · exact ⟨_, h⟩
    rcases hown.2 with ⟨rfl, _⟩ | ⟨g, cap, cur, rfl, hbg, hg, _, _, _, _⟩
    · exact string_nil B b p w hbk
    · by_cases hc0 : cap = 0
      · subst hc0
        exact string_noroom B b g p cur w hBw hbk hg
      · exact string_room B b g cap p w hc0 hbk
end Go.Proofs.YtaijoghpfobdbaaDoor.Bd
end
section
set_option linter.unusedVariables false
set_option linter.unusedSimpArgs false
namespace Go.Proofs.YtaijoghpfobdbaaDoor.U
open Go.RowKit Go.Sort Go.Lib Go.Proofs.YtaijoghpfobdbaaDoorW.PrintWords Go.Proofs.YtaijoghpfobdbaaDoorW.PrintLast
abbrev enc8 : UInt8 → Value := fun b => Value.int .u8 (b.toNat : Int)
structure Tab (B : Nat) (w : World) : Prop where
  out : ∀ w', Below B w w' → Lib.TabIs Tryd.prog w' "internal/strconv.uint64pow10" .u64 Lib.pow10Tab
theorem Tab.step {B : Nat} {w w' : World} (h : Tab B w) (hb : Below B w w') : Tab B w' := ⟨fun _ k => h.out _ (hb.trans k)⟩
theorem holds_zero0 (w : World) (T : TypeId) (nd : Nat) (hs : nd ≤ 24) : Holds enc8 (w.alloc (.cells zeros24 T)) w.heap.size 0 (Array.replicate nd (0 : UInt8)) := fun j hj => by
  have hj' : j < nd := by simpa using hj
  refine ⟨?_, World.frozen?_alloc_new _ _ _ _⟩
  rw [World.cell?_alloc_new, zeros24_at _ (by omega), getElem!_pos _ j hj]
  simp
theorem fin_zero (w : World) (o : Obj) (dk : Array UInt8) (k : Nat) : ∃ os, (putRow enc8 (w.alloc o) w.heap.size 0 dk).drewN k = grow (w.drewN k) os := by
  rw [alloc_eq_grow]
  obtain ⟨os', _, e⟩ := putRow_grow_new enc8 w #[o] w.heap.size 0 dk (Nat.le_refl _)
  exact ⟨os', by rw [e]; rfl⟩
theorem below_grow (w : World) (k : Nat) (os : Array Obj) : Below w.heap.size w (grow (w.drewN k) os) := by
  have h : Below w.heap.size w (w.drewN k) := pw_below_drewN (Below.refl _ _) k
  refine ⟨h.os, h.tape, h.output, ?_, ?_⟩
  · show w.heap.size ≤ ((w.drewN k).heap ++ os).size
    have := h.size
    rw [Array.size_append]; omega
  · intro i hi
    show ((w.drewN k).heap ++ os)[i]? = _
    rw [Array.getElem?_append_left (by have := h.size; omega)]
    exact h.block i hi
def dec (u : Nat) : ByteArray := ⟨(Lib.decDigits u).toArray⟩
set_option maxHeartbeats 6400000 in
set_option maxRecDepth 100000 in
theorem inner_calls (u : Nat) (hu64 : u < 18446744073709551616) (w : World) (htab : Lib.TabIs Tryd.prog (w.alloc (.cells zeros24 137)) "internal/strconv.uint64pow10" .u64 Lib.pow10Tab) :
    Calls Tryd.prog 57 #[.int .u64 u, .int .i64 10] w fun e w' => e = .returned (.string (dec u)) ∧ Below w.heap.size w w' := by
  by_cases hs : u < 100
  · have hd : decide ((u : Int) < 100) = true := decide_eq_true (by omega)
    have hw : IntKind.i64.wrap (u : Int) = (u : Int) := by unfold IntKind.wrap; simp [IntKind.bits, IntKind.signed]; omega
    have HS := Aside0.mk hs
    clear htab hs hu64
    go_enter Tryd.func57, Tryd.ntmps57
    go_wp2_with (go_at_call 87; refine (Tryd.internal_strconv_small u HS.out _).mono ?_; rintro e w' ⟨rfl, rfl⟩)
    go_ret
    exact ⟨rfl, Below.refl _ _⟩
  · have hd : decide ((u : Int) < 100) = false := decide_eq_false (by omega)
    have hu1 : 1 ≤ u := by omega
    have hnd20 : Lib.nDigits u ≤ 20 := by have := Lib.numDigits_eq u hu1 hu64; split at this <;> omega
    have hal : Tryd.prog.arrayLen 137 = 24 := by kernel_rfl
    have hsl : ∀ W, (Instr.sliceAt 137 (.pointer (some ⟨w.heap.size, 0, none⟩)) none (some (.int .i64 (Lib.nDigits u : Int))) none).run Tryd.prog W = .ok (.slice (some ⟨w.heap.size, 0, none⟩) (Lib.nDigits u) 24) W := fun W => by
      rw [run_sliceAt_array_h W 137 ⟨w.heap.size, 0, none⟩ Tryd.underlying137 .i64 (Lib.nDigits u : Int) (by omega) (by rw [hal]; omega)]
      rw [hal]
      go_simp
    have hH0 := holds_zero0 w 137 (Lib.nDigits u) (by omega)
    have hfmt := Tryd.internal_strconv_formatBase10 w.heap.size 0 24 u (Array.replicate (Lib.nDigits u) 0) (w.alloc (.cells Lib.zeros24 137)) hH0 (by rw [Array.size_replicate]; exact Lib.lt_pow_nDigits u) hu64 (by rw [Array.size_replicate]; omega)
    rw [Array.size_replicate] at hfmt
    have HH0 := Aside0.mk hH0
    have HT := Aside0.mk htab
    have HU1 := Aside0.mk hu1
    have HU := Aside0.mk hu64
    have HF := Aside0.mk hfmt
    clear hH0 hal htab hfmt hs hnd20 hu1 hu64
    go_enter Tryd.func57, Tryd.ntmps57
    go_wp2_with (first
      | (go_at_call 88; refine (Tryd.internal_strconv_numDigits u HU1.out HU.out _ HT.out).mono ?_; rintro e w' ⟨rfl, rfl⟩))
    refine HF.out.mono ?_
    rintro e w' ⟨rfl, k, v', dk, rfl, hF⟩
    have hcv : (convert 70 9 (.slice (some ⟨w.heap.size, 0, none⟩) (Lib.nDigits u) 24)).run Tryd.prog ((putRow enc8 (w.alloc (.cells Lib.zeros24 137)) w.heap.size 0 dk).drewN k) = .ok (.string ⟨(Lib.decDigits u).toArray⟩) ((putRow enc8 (w.alloc (.cells Lib.zeros24 137)) w.heap.size 0 dk).drewN k) := by
      have h := run_convert_bytes_back (P := Tryd.prog) ((putRow enc8 (w.alloc (.cells Lib.zeros24 137)) w.heap.size 0 dk).drewN k) 70 9 5 ⟨w.heap.size, 0, none⟩ 24 (Lib.decDigits u) Tryd.underlying70 Tryd.underlying5 Tryd.underlying9 (fun j hj => by
        rw [Lib.row_is_numeral hF j hj, Lib.add_plain, World.cell?_drewN]
        exact cell?_putRow enc8 _ w.heap.size 0 _ dk HH0.out (by rw [hF.size, Array.size_replicate]) j (by rw [hF.size]; rw [Lib.decDigits_length] at hj; exact hj))
      rw [Lib.decDigits_length] at h
      exact h
    go_wp2
    go_ret
    obtain ⟨os, eo⟩ := fin_zero w (.cells Lib.zeros24 137) dk k
    refine ⟨rfl, ?_⟩
    rw [eo]
    exact below_grow w k os
theorem format_calls {B : Nat} {w : World} (u : Nat) (hu64 : u < 18446744073709551616) (hB : B ≤ w.heap.size) (hT : Tab B w) :
    Calls Tryd.prog 27 #[.int .u64 u, .int .i64 10] w fun e w' => e = .returned (.string (dec u)) ∧ Below w.heap.size w w' := by
  have HI := Aside0.mk (inner_calls u hu64 w (hT.out _ ((Below.refl B w).alloc hB _)))
  clear hT hu64
  go_enter Tryd.func27, Tryd.ntmps27
  go_wp2_with (go_at_call 57; refine HI.out.mono ?_; rintro e w' ⟨rfl, hb⟩; have HB := Aside0.mk hb; clear hb)
  go_ret
  exact ⟨rfl, HB.out⟩
end Go.Proofs.YtaijoghpfobdbaaDoor.U
end
section
set_option linter.unusedVariables false
set_option linter.unusedSimpArgs false
namespace Go.Proofs.YtaijoghpfobdbaaDoor.W
open Go.RowKit Go.Proofs.YtaijoghpfobdbaaDoor.X Go.Proofs.YtaijoghpfobdbaaDoorW.PrintWords Go.Proofs.YtaijoghpfobdbaaDoorW.PrintLast Go.Proofs.YtaijoghpfobdbaaDoorW.PrintMore
open Go.Proofs.YtaijoghpfobdbaaDoor.P (Wrote puts put fin)
def left : Value → Nat
  | .int _ i => i.toNat
  | _ => 0
structure Wr (w : World) (B b : Nat) (bs : List UInt8) : Prop where
  isW : Bd.IsW B b (Lib.byteCells bs) w
  len : bs.length ≤ 9437184
  base : B ≤ w.heap.size
structure Fw (B b : Nat) (w w' : World) : Prop where
  below : Below B w w'
  ok : Bd.OK (some b) w w'
section
variable {w w' w1 w2 : World} {B b : Nat} {bs : List UInt8}
theorem Fw.refl (B b : Nat) (w : World) : Fw B b w w := ⟨Below.refl _ _, Lib.OthersKept.refl _ _ _⟩
theorem Fw.trans (h : Fw B b w w1) (k : Fw B b w1 w2) : Fw B b w w2 := ⟨h.below.trans k.below, Lib.OthersKept.trans h.ok k.ok⟩
theorem Below.lowr {B' : Nat} (h : Below B' w w') (hb : B ≤ B') : Below B w w' := ⟨h.os, h.tape, h.output, h.size, fun i hi => h.block i (by omega)⟩
theorem Fw.of_below (h : Below w.heap.size w w') (hb : B ≤ w.heap.size) : Fw B b w w' := ⟨Below.lowr h hb, Bd.ok_below h⟩
theorem atW {p : Value} (h : Lib.BuilderAt 74 5 B b p (Lib.byteCells bs) w) : ∃ p v, w.heap[b]? = some (.cells #[p, v] 74 (0, 0)) := by
  obtain ⟨_, v, hb, _⟩ := h
  exact ⟨p, v, hb⟩
theorem Wr.blk (h : Wr w B b bs) : ∃ p v, w.heap[b]? = some (.cells #[p, v] 74 (0, 0)) := by
  rcases h.isW with h | h
  · exact atW h
  · exact atW h
theorem Wr.lt (h : Wr w B b bs) : b < w.heap.size := by
  obtain ⟨p, v, hb⟩ := h.blk
  exact blk_lt hb
theorem Fw.blk (h : Fw B b w w') (hW : Wr w B b bs) {k : Nat} {cs : Array Value} {t : TypeId} {f : Nat × Nat} (hk : w.heap[k]? = some (.cells cs t f)) (h5 : t ≠ 5) (h74 : t ≠ 74) : w'.heap[k]? = some (.cells cs t f) := by
  refine h.ok k _ hk (fun e => ?_) (fun c fz e => ?_)
  · injection e with e
    subst e
    obtain ⟨p, v, hb⟩ := hW.blk
    rw [hb] at hk
    injection hk with hk
    injection hk with _ hk _
    exact h74 hk.symm
  · injection e with _ e _
    exact h5 e
theorem own_below {v : Value} {e n : Nat} {s : Nat} {xs : List Value} (h : w.ownsRow B e s v n xs) (hb : Below w.heap.size w w') : w'.ownsRow B e s v n xs := by
  refine own_move h (fun k hk => ?_)
  have hlt : k < w.heap.size := (h.lt k hk).2
  exact hb.block k hlt
theorem at_below {p : Value} (h : Lib.BuilderAt 74 5 B b p (Lib.byteCells bs) w) (hb : Below w.heap.size w w') : Lib.BuilderAt 74 5 B b p (Lib.byteCells bs) w' := by
  obtain ⟨h1, v, h2, h3, h4⟩ := h
  exact ⟨h1, v, blk_below h2 hb, own_below h3 hb, h4⟩
theorem Wr.below (h : Wr w B b bs) (hb : Below w.heap.size w w') : Wr w' B b bs :=
  ⟨by
    rcases h.isW with k | k
    · exact .inl (at_below k hb)
    · exact .inr (at_below k hb), h.len, Nat.le_trans h.base hb.size⟩
end
theorem strCells_eq (s : ByteArray) : Lib.strCells s = Lib.byteCells s.data.toList := by
  first | rfl | simp [Lib.strCells, Lib.byteCells]
theorem byteCells_append (a b : List UInt8) : Lib.byteCells (a ++ b) = Lib.byteCells a ++ Lib.byteCells b := by
  first | rfl | simp [Lib.byteCells]
theorem getD_str (ps : List ByteArray) (i : Nat) (hi : i < ps.length) : (ps.map Value.string).toArray[i]? = some (.string (ps.getD i ByteArray.empty)) := by
  simp [List.getD_eq_getElem?_getD, hi]
theorem puts_next (bs : List UInt8) (ps : List ByteArray) (i : Nat) (hi : i < ps.length) : puts bs (ps.take (i + 1)) = put (puts bs (ps.take i)) (ps.getD i ByteArray.empty).data.toList := by
  unfold puts
  rw [List.take_succ_eq_append_getElem hi, List.foldl_append, List.getD_eq_getElem?_getD, List.getElem?_eq_getElem hi]
  rfl
set_option maxHeartbeats 2000000 in
set_option maxRecDepth 100000 in
theorem say_calls {B b : Nat} {bs : List UInt8} (w : World) (g n c : Nat) (ps : List ByteArray) (hW : Wr w B b bs) (hg : w.heap[g]? = some (.cells (ps.map Value.string).toArray 9 (0, 0))) (hn : n = ps.length) (hnn : n ≤ 100) (hp : ∀ p ∈ ps, p.size ≤ 8388608) :
    Calls Tryd.prog 26 #[.pointer (some ⟨b, 0, none⟩), .slice (some ⟨g, 0, none⟩) n c] w fun e w' => e = .returned (.tuple #[]) ∧ Wr w' B b (puts bs ps) ∧ Fw B b w w' := by
  subst hn
  have HW := Aside0.mk hW
  have HG := Aside0.mk hg
  have HP := Aside0.mk hp
  have HN := Aside0.mk hnn
  clear hW hg hp hnn
  go_enter Tryd.func26, Tryd.ntmps26
  go_wp2
  go_loopw [5, 8] (fun t5 ti wr => ∃ i : Nat, ti = .int .i64 (i : Int) ∧ Aside0 (i ≤ ps.length) ∧ Aside0 (Wr wr B b (puts bs (ps.take i))) ∧ Aside0 (Fw B b w wr)) (fun _ ti _ => ps.length - left ti)
  case atStart => exact ⟨0, rfl, ⟨Nat.zero_le _⟩, ⟨HW.out⟩, ⟨Fw.refl _ _ _⟩⟩
  case round =>
    obtain ⟨i, rfl, hi, HWr, HF⟩ := hrel
    by_cases ci : i < ps.length
    · have c1 : decide ((i : Int) < (ps.length : Int)) = true := decide_eq_true (by omega)
      have c2 : decide (i < ps.length) = true := decide_eq_true ci
      have hcell : wr.cell? ⟨g, i, none⟩ = some (.string (ps.getD i ByteArray.empty)) := (blk_cell (HF.out.blk HW.out HG.out (by decide) (by decide)) i).trans (getD_str ps i ci)
      have HC := Aside0.mk ci
      have HL : Aside0 ((ps.getD i ByteArray.empty).size ≤ 8388608) := ⟨by
        rw [List.getD_eq_getElem?_getD, List.getElem?_eq_getElem ci]; exact HP.out _ (List.getElem_mem ci)⟩
      have HNX : Aside0 (wrap64 ((i : Int) + 1) = ((i + 1 : Nat) : Int)) := ⟨by have := HN.out; unfold wrap64; omega⟩
      obtain ⟨q, hq⟩ : ∃ q, q = ps.getD i ByteArray.empty := ⟨_, rfl⟩
      have HPN := Aside0.mk (puts_next bs ps i ci)
      rw [← hq] at hcell HL HPN
      clear hq
      by_cases hM : (puts bs (ps.take i)).length ≤ P.M
      · have hd : decide ((((Lib.byteCells (puts bs (ps.take i))).length : Nat) : Int) ≤ 1048576) = true := decide_eq_true (by have : P.M = 1048576 := rfl; rw [Lib.byteCells_length]; omega)
        have HPU : Aside0 (put (puts bs (ps.take i)) q.data.toList = puts bs (ps.take i) ++ q.data.toList) := ⟨by unfold put; rw [if_pos hM]⟩
        have HM := Aside0.mk hM
        clear hM
        go_wp2_with (first
          | (go_at_call 55; refine (Bd.len_calls B b _ _ HWr.out.isW).mono ?_; rintro e w1 ⟨rfl, rfl⟩)
          | (go_at_call 56; refine (Bd.write_calls B b _ q _ HWr.out.isW (by have := HL.out; have := HWr.out.len; rw [Lib.byteCells_length]; omega) HWr.out.base).mono ?_; rintro e w2 ⟨rfl, hw2, hb2, hk2⟩; have HW2 := Aside0.mk hw2; have HB2 := Aside0.mk hb2; have HK2 := Aside0.mk hk2; clear hw2 hb2 hk2))
        rw [HNX.out]
        go_roundw
        case measure => have := HC.out; simp only [left, Int.toNat_natCast]; omega
        case rel =>
          have hM' : P.M = 1048576 := rfl
          refine ⟨i + 1, rfl, ⟨HC.out⟩, ⟨?_, ?_, Nat.le_trans HWr.out.base HB2.out.size⟩, ⟨HF.out.trans ⟨HB2.out, HK2.out⟩⟩⟩
          · rw [HPN.out, HPU.out, byteCells_append, ← strCells_eq]; exact HW2.out
          · have := HM.out; have := HL.out; rw [HPN.out, HPU.out, List.length_append, data_length]; omega
      · have hd : decide ((((Lib.byteCells (puts bs (ps.take i))).length : Nat) : Int) ≤ 1048576) = false := decide_eq_false (by have : P.M = 1048576 := rfl; rw [Lib.byteCells_length]; omega)
        have HPU : Aside0 (put (puts bs (ps.take i)) q.data.toList = puts bs (ps.take i)) := ⟨by unfold put; rw [if_neg hM]⟩
        clear hM
        go_wp2_with (first
          | (go_at_call 55; refine (Bd.len_calls B b _ _ HWr.out.isW).mono ?_; rintro e w1 ⟨rfl, rfl⟩))
        rw [HNX.out]
        go_roundw
        case measure => have := HC.out; simp only [left, Int.toNat_natCast]; omega
        case rel => exact ⟨i + 1, rfl, ⟨HC.out⟩, ⟨by rw [HPN.out, HPU.out]; exact HWr.out⟩, ⟨HF.out⟩⟩
    · have c1 : decide ((i : Int) < (ps.length : Int)) = false := decide_eq_false (by omega)
      have c2 : decide (i < ps.length) = false := decide_eq_false ci
      have HI : Aside0 (ps.take i = ps) := ⟨List.take_of_length_le (by omega)⟩
      go_wp2
      go_end0
      exact ⟨rfl, by rw [← HI.out]; exact HWr.out, HF.out⟩
end Go.Proofs.YtaijoghpfobdbaaDoor.W
end
section
set_option linter.unusedVariables false
set_option linter.unusedSimpArgs false
namespace Go.Proofs.YtaijoghpfobdbaaDoor.W
open Go.RowKit Go.Proofs.YtaijoghpfobdbaaDoor.X Go.Proofs.YtaijoghpfobdbaaDoorW.PrintWords Go.Proofs.YtaijoghpfobdbaaDoorW.PrintLast Go.Proofs.YtaijoghpfobdbaaDoorW.PrintMore
open Go.Proofs.YtaijoghpfobdbaaDoor.P (Tr Nd Wrote puts put fin kv kd sg build dep dmx pile judgeE)
attribute [local go_sem] max2_int min2_int max_two min_two
def anyD (st : List Tr) : Bool := decide (100 < dmx st)
theorem kids_calls (n : Nd) (w : World) : Calls Tryd.prog 61 #[.agg #[.int .i64 n.f0, .int .i64 n.f1, .int .u64 n.f2, .string n.f3, .int .i64 n.f4]] w fun e w' => e = .returned (.tuple #[.int .i64 (kv n).1, .bool (kv n).2]) ∧ Below w.heap.size w w' := by
  obtain ⟨k, hk⟩ := (P.kids_ev n).rounds
  exact print_kids.calls k n.f0 n.f1 n.f2 n.f3 n.f4 (kv n).1 (kv n).2 w hk
theorem judgeE_of {ns : List Nd} {st : List Tr} (h : build ns [] = some st) : judgeE ns = if st.length = 1 then (if anyD st = true then 91 else 0) else 1 := by
  unfold judgeE
  rw [h]
  match st with
  | [] => rfl
  | [t] => simp [anyD, dmx]
  | a :: b :: l => simp
theorem drop_build {ns : List Nd} {i : Nat} {st : List Tr} (hlt : i < ns.length) : build (ns.drop i) st = (sg st (rd_T46 ns (i : Int))).bind (build (ns.drop (i + 1))) := by
  have h := List.drop_eq_getElem_cons hlt
  rw [P.rd_nd ns i _ _ h, h, build]
set_option maxHeartbeats 4000000 in
set_option maxRecDepth 100000 in
theorem judge_calls (w : World) (A : Option Addr) (c : Nat) (ns : List Nd) (hC : Kd.C k46 w A ns.length ns) (hns : ns.length ≤ 8796093022208) :
    Calls Tryd.prog 32 #[.slice A ns.length c] w fun e w' => e = .returned (.int .i64 (judgeE ns)) ∧ Below w.heap.size w w' := by
  have HC := Aside0.mk hC
  have HN := Aside0.mk hns
  clear hC hns
  go_enter Tryd.func32, Tryd.ntmps32
  go_wp2
  go_loopw [3, 4, 14] (fun t3 t4 ti wr => ∃ (i : Nat) (st : List Tr), ti = .int .i64 (i : Int) ∧ t4 = .bool (anyD st) ∧ Aside0 (i ≤ ns.length) ∧ Aside0 (build ns [] = build (ns.drop i) st) ∧ Aside0 (st.length ≤ i ∧ dmx st ≤ i) ∧ Aside0 (Kd.R (Kd.int .i64) 3 wr w.heap.size (fun _ => True) t3 (pile st)) ∧ Aside0 (Below w.heap.size w wr)) (fun _ _ ti _ => ns.length - left ti)
  case atStart => exact ⟨0, [], rfl, rfl, ⟨Nat.zero_le _⟩, ⟨rfl⟩, ⟨by simp [dmx]⟩, ⟨Kd.R_nil _ _ _ _ _⟩, ⟨Below.refl _ _⟩⟩
  case round =>
    obtain ⟨i, st, rfl, rfl, hi, HBu, HL, HR, HB⟩ := hrel
    by_cases ci : i < ns.length
    · have c1 : decide ((i : Int) < (ns.length : Int)) = true := decide_eq_true (by omega)
      have c2 : decide (i < ns.length) = true := decide_eq_true ci
      obtain ⟨ad, rfl, hx0, hx1, hx2, hx3, hx4⟩ := at_T46 (Kd.C_below HC.out HB.out) (i : Int) (by omega) (by omega)
      rw [Int.toNat_natCast] at hx0 hx1 hx2 hx3 hx4
      have HDB := Aside0.mk (drop_build (st := st) ci)
      obtain ⟨n, hn⟩ : ∃ n, n = rd_T46 ns (i : Int) := ⟨_, rfl⟩
      rw [← hn] at hx0 hx1 hx2 hx3 hx4 HDB
      clear hn
      obtain ⟨Ap, cp, hv⟩ := Kd.R_slice HR.out
      rw [P.pile_len] at hv
      subst hv
      have HI := Aside0.mk ci
      go_wp2_with fail
      refine (kids_calls n _).mono ?_
      rintro e w1 ⟨rfl, hb1⟩
      have HB1 := Aside0.mk (below_step (below_alloc HB.out (.cells #[.int .i64 n.f0, .int .i64 n.f1, .int .u64 n.f2, .string n.f3, .int .i64 n.f4] 46)) hb1)
      have HR1 := Aside0.mk (Kd.R_below (Kd.R_alloc HR.out (.cells #[.int .i64 n.f0, .int .i64 n.f1, .int .u64 n.f2, .string n.f3, .int .i64 n.f4] 46)) hb1)
      clear hb1 HB HR hx0 hx1 hx2 hx3 hx4
      have HKD : Aside0 (kd n = if (kv n).2 = true then some (kv n).1.toNat else none) := ⟨rfl⟩
      have HNN := Aside0.mk (P.kv_nn n)
      obtain ⟨kk, hkk⟩ : ∃ kk, kk = (kv n).1 := ⟨_, rfl⟩
      obtain ⟨bb, hbb⟩ : ∃ bb, bb = (kv n).2 := ⟨_, rfl⟩
      rw [← hkk, ← hbb] at HKD HNN ⊢
      clear hkk hbb
      cases bb with
      | false =>
        have HE : Aside0 (judgeE ns = 1) := ⟨by unfold judgeE; rw [HBu.out, HDB.out, sg, HKD.out]; rfl⟩
        go_wp2
        go_ret
        exact ⟨by rw [HE.out]; rfl, HB1.out⟩
      | true =>
        obtain ⟨q, rfl⟩ : ∃ q : Nat, kk = (q : Int) := ⟨kk.toNat, by have := HNN.out rfl; omega⟩
        have HKQ : Aside0 (kd n = some q) := ⟨by rw [HKD.out, if_pos rfl, Int.toNat_natCast]⟩
        clear HKD HNN
        by_cases cq : q ≤ st.length
        · have d1 : decide ((st.length : Int) < (q : Int)) = false := decide_eq_false (by omega)
          have d2 : decide (st.length < q) = false := decide_eq_false (by omega)
          have W0 : ∀ [Inhabited Unit], wrap64 ((st.length : Int) - (q : Int)) = ((st.length - q : Nat) : Int) := by intro _; have := HL.out.1; have := HN.out; unfold wrap64; omega
          obtain ⟨a, ha⟩ : ∃ a, a = st.length - q := ⟨_, rfl⟩
          rw [← ha] at W0
          have haq : a + q = st.length := by omega
          have HAQ := Aside0.mk haq
          obtain ⟨i0, hi0, _, hsz0, _⟩ := info_parts info3
          have hroom := (Kd.R_reads' HR1.out).2.1
          have hCp : Kd.C (Kd.int .i64) w1 Ap (pile st).length (pile st) := (Kd.R_reads' HR1.out).2.2
          have hcut := cut_from (P := Tryd.prog) 85 3 .i64 Tryd.underlying85 hi0 1 hsz0 Ap st.length cp (a : Int) (by omega) (by omega)
          have hcuto := cut_to (P := Tryd.prog) 85 3 .i64 Tryd.underlying85 hi0 Ap st.length cp (a : Int) (by omega) (by omega) hroom
          have hdr := Kd.C_drop (m := a) (c := cp) hCp (by rw [P.pile_len]; omega) (by rw [P.pile_len]; exact hroom)
          rw [Int.toNat_natCast] at hcut hcuto
          have hpd : (pile st).drop a = pile (st.drop a) := by unfold pile; rw [List.map_drop]
          rw [hpd, P.pile_len, List.length_drop, show st.length - a = q by omega] at hdr
          rw [show st.length - a = q by omega] at hcut
          obtain ⟨A2, hA2⟩ : ∃ A2, A2 = (if cp = a then Ap else Ap.map (·.add (a * 1))) := ⟨_, rfl⟩
          have hdr2 : Kd.C (Kd.int .i64) w1 A2 q (pile (st.drop a)) := by rw [hA2]; exact hdr
          rw [← hA2] at hcut
          have HD := Aside0.mk hdr2
          clear hdr hdr2 hA2 hpd hCp hroom hi0 hsz0
          obtain ⟨ks, hks⟩ : ∃ ks, ks = st.drop a := ⟨_, rfl⟩
          have HKL : Aside0 (ks.length = q) := ⟨by rw [hks, List.length_drop]; omega⟩
          have HKM : Aside0 (dmx ks ≤ dmx st) := ⟨by rw [hks]; have := P.mx_split st a; omega⟩
          rw [← hks] at HD
          have HKS := Aside0.mk hks
          clear ha haq hks
          go_wp2
          go_loopw [9, 38] (fun t9 tj wr2 => ∃ j : Nat, tj = .int .i64 (j : Int) ∧ t9 = .int .i64 ((dmx (ks.take j) + 1 : Nat) : Int) ∧ Aside0 (j ≤ q) ∧ Aside0 (Below w1.heap.size w1 wr2)) (fun _ tj _ => q - left tj)
          case atStart => exact ⟨0, rfl, rfl, ⟨Nat.zero_le _⟩, ⟨Below.refl _ _⟩⟩
          case round =>
            obtain ⟨j, rfl, rfl, hj, HB2⟩ := hrel
            by_cases cj : j < q
            · have e1 : decide ((j : Int) < (q : Int)) = true := decide_eq_true (by omega)
              have e2 : decide (j < q) = true := decide_eq_true cj
              obtain ⟨ad2, hA, hy⟩ := Kd.at_int (Kd.C_below HD.out HB2.out) (j : Int) (by omega) (by omega)
              subst hA
              rw [Int.toNat_natCast, P.pile_rd ks j (by have := HKL.out; omega)] at hy
              have hmx : dmx (ks.take (j + 1)) = max (dmx (ks.take j)) (dep (ks[j]'(by have := HKL.out; omega))) := by
                rw [List.take_succ_eq_append_getElem (by have := HKL.out; omega), P.mx_app, dmx, dmx, Nat.max_zero]
              have hle := P.dep_le_mx (List.getElem_mem (l := ks) (n := j) (by have := HKL.out; omega))
              have W2 : ∀ [Inhabited Unit], wrap64 (((dep (ks[j]'(by have := HKL.out; omega)) : Nat) : Int) + 1) = ((dep (ks[j]'(by have := HKL.out; omega)) + 1 : Nat) : Int) := by intro _; have := HL.out.2; have := HKM.out; have := HN.out; unfold wrap64; omega
              have W1 : Aside0 (wrap64 ((j : Int) + 1) = ((j + 1 : Nat) : Int)) := ⟨by have := HL.out.1; have := HAQ.out; have := HN.out; unfold wrap64; omega⟩
              obtain ⟨dj, hdj⟩ : ∃ dj, dj = dep (ks[j]'(by have := HKL.out; omega)) := ⟨_, rfl⟩
              rw [← hdj] at hy hmx W2
              have HMX := Aside0.mk hmx
              obtain ⟨m, hm⟩ : ∃ m, m = dmx (ks.take j) := ⟨_, rfl⟩
              rw [← hm] at HMX ⊢
              have HCJ := Aside0.mk cj
              clear hdj hm hle hmx
              go_wp2
              refine ⟨⟨j + 1, by rw [W1.out], ?_, ⟨HCJ.out⟩, HB2⟩, ?_⟩
              · rw [HMX.out]
                congr 1
                split <;> omega
              · rw [W1.out]; have := HCJ.out; simp only [left, Int.toNat_natCast]; omega
            · have e1 : decide ((j : Int) < (q : Int)) = false := decide_eq_false (by omega)
              have e2 : decide (j < q) = false := decide_eq_false cj
              have hjq : j = q := by have := hj.out; omega
              subst hjq
              rw [List.take_of_length_le (by have := HKL.out; omega)]
              have HSG : Aside0 (sg st n = some (st.take a ++ [.mk n ks])) := ⟨by
                have h1 : st.length - j = a := by have := HAQ.out; omega
                rw [sg, HKQ.out, HKS.out]; simp only [if_pos cq, h1]⟩
              have HDP : Aside0 (dmx (st.take a ++ [.mk n ks]) = max (dmx (st.take a)) (dmx ks + 1) ∧ dmx st = max (dmx (st.take a)) (dmx ks)) := ⟨by
                rw [HKS.out]; exact ⟨by rw [P.mx_app, dmx, dmx, dep, Nat.max_zero], P.mx_split st a⟩⟩
              have HPP : Aside0 ((pile st).take a ++ [((dmx ks : Nat) : Int) + 1] = pile (st.take a ++ [.mk n ks])) := ⟨by
                unfold pile; rw [List.map_append, List.map_take]; rfl⟩
              have HRT := Aside0.mk (Kd.R_take (m := a) (Kd.R_below HR1.out HB2.out) (by rw [P.pile_len]; have := HAQ.out; omega))
              have HB3 := Aside0.mk (below_step HB1.out HB2.out)
              have HLP : Aside0 (((pile st).take a).length ≤ 8796093022207) := ⟨by rw [List.length_take, P.pile_len]; have := HL.out.1; have := HI.out; have := HN.out; omega⟩
              obtain ⟨m, hm⟩ : ∃ m, m = dmx ks := ⟨_, rfl⟩
              rw [← hm] at HDP HPP ⊢
              obtain ⟨dp, hdp⟩ : ∃ dp, dp = anyD st := ⟨_, rfl⟩
              obtain ⟨d9, hd9⟩ : ∃ d9, d9 = decide (100 < (m : Int) + 1) := ⟨_, rfl⟩
              have W1 : Aside0 (wrap64 ((i : Int) + 1) = ((i + 1 : Nat) : Int)) := ⟨by have := HI.out; have := HN.out; unfold wrap64; omega⟩
              have HAN : Aside0 (anyD (st.take a ++ [.mk n ks]) = (dp || d9)) := ⟨by
                rw [hdp, hd9]; unfold anyD; rw [HDP.out.1, HDP.out.2, Bool.eq_iff_iff]; simp only [decide_eq_true_eq, Bool.or_eq_true]; omega⟩
              rw [← hdp]
              have hd9' := hd9.symm
              clear hm hdp hd9 hcut
              have fin : ∀ (b : Bool), b = (dp || d9) → True := fun _ _ => trivial
              cases dp <;> cases d9
              all_goals
                clear fin
                go_wp2_with ((with_reducible refine gate_builtin (b := .append) (xs := #[.tmp 57, .tmp 59]) rfl ?_); at_builtin; refine Kd.R_append (Kd.int .i64) (w0 := w) w.heap.size rfl (.tmp 57) (.tmp 59) 85 3 (.int .i64 0) 8 rfl Tryd.underlying85 info3 rfl (by decide) (by omega) (.slice Ap a cp) ((pile st).take a) ((m : Int) + 1) [.int .i64 ((m : Int) + 1)] (fun _ => True) (fun _ => False) rfl rfl rfl (fun _ hk => hk.elim) (fun _ _ => trivial) HRT.out HB3.out HB3.out.size (by have := HLP.out; omega) ?_; intro v1 w4 ho hb hg hat; have HO4 := Aside0.mk ho; have HB4 := Aside0.mk hb; clear ho hb hg hat)
                rw [W1.out]
                go_roundw
                case measure => have := HI.out; simp only [left, Int.toNat_natCast]; omega
                case rel =>
                  refine ⟨i + 1, st.take a ++ [.mk n ks], rfl, by rw [HAN.out]; rfl, ⟨HI.out⟩, ⟨by rw [HBu.out, HDB.out, HSG.out]; rfl⟩, ⟨?_⟩, ⟨by rw [← HPP.out]; exact HO4.out⟩, ⟨HB4.out⟩⟩
                  have h1 := P.sg_len HSG.out
                  have h2 := P.sg_mx HSG.out
                  have := HL.out
                  omega
        · have d1 : decide ((st.length : Int) < (q : Int)) = true := decide_eq_true (by omega)
          have d2 : decide (st.length < q) = true := decide_eq_true (by omega)
          have HE : Aside0 (judgeE ns = 1) := ⟨by unfold judgeE; rw [HBu.out, HDB.out, sg, HKQ.out]; simp only [if_neg cq]; rfl⟩
          go_wp2
          go_ret
          exact ⟨by rw [HE.out]; rfl, HB1.out⟩
    · have c1 : decide ((i : Int) < (ns.length : Int)) = false := decide_eq_false (by omega)
      have c2 : decide (i < ns.length) = false := decide_eq_false ci
      have HI : Aside0 (ns.drop i = []) := ⟨List.drop_of_length_le (by omega)⟩
      have HE : Aside0 (judgeE ns = if st.length = 1 then (if anyD st = true then 91 else 0) else 1) := ⟨judgeE_of (by rw [HBu.out, HI.out]; rfl)⟩
      obtain ⟨Ap, cp, hv⟩ := Kd.R_slice HR.out
      rw [P.pile_len] at hv
      subst hv
      obtain ⟨dp, hdp⟩ : ∃ dp, dp = anyD st := ⟨_, rfl⟩
      rw [← hdp] at HE ⊢
      clear hdp
      by_cases h1 : st.length = 1
      · have e1 : ((st.length : Int) != 1) = false := by rw [h1]; rfl
        have HE2 : Aside0 (judgeE ns = if dp = true then 91 else 0) := ⟨by rw [HE.out, if_pos h1]⟩
        cases dp with
        | true =>
          clear h1
          go_wp2
          go_ret
          exact ⟨by rw [HE2.out]; rfl, HB.out⟩
        | false =>
          clear h1
          go_wp2
          go_ret
          exact ⟨by rw [HE2.out]; rfl, HB.out⟩
      · have e1 : ((st.length : Int) != 1) = true := by rw [bne_iff_ne]; omega
        have HE2 : Aside0 (judgeE ns = 1) := ⟨by rw [HE.out, if_neg h1]⟩
        clear h1
        go_wp2
        go_ret
        exact ⟨by rw [HE2.out]; rfl, HB.out⟩
end Go.Proofs.YtaijoghpfobdbaaDoor.W
end
section
set_option linter.unusedVariables false
set_option linter.unusedSimpArgs false
namespace Go.Proofs.YtaijoghpfobdbaaDoor.W
open Go.RowKit Go.Proofs.YtaijoghpfobdbaaDoor.X Go.Proofs.YtaijoghpfobdbaaDoorW.PrintWords Go.Proofs.YtaijoghpfobdbaaDoorW.PrintLast Go.Proofs.YtaijoghpfobdbaaDoorW.PrintMore
open Go.Proofs.YtaijoghpfobdbaaDoor.P (Tr Nd Wrote puts put fin kv kd sg build dep dmx pile judgeE)
structure Sl where
  A : Option Addr
  n : Nat
  c : Nat
def Sl.v (s : Sl) : Value := .slice s.A s.n s.c
def ksl : Kd Sl := Kd.scalar Sl.v (fun _ => rfl)
structure TV where
  n : Nd
  s : Sl
def kt : Kd TV := Kd.iso (Kd.pair (Kd.int .i64) (Kd.pair (Kd.int .i64) (Kd.pair (Kd.int .u64) (Kd.pair Kd.string (Kd.pair (Kd.int .i64) ksl))))) (fun x : TV => (x.n.f0, x.n.f1, x.n.f2, x.n.f3, x.n.f4, x.s))
def tvCs (x : TV) : List Value := [.int .i64 x.n.f0, .int .i64 x.n.f1, .int .u64 x.n.f2, .string x.n.f3, .int .i64 x.n.f4, .slice x.s.A x.s.n x.s.c]
theorem kt_mkM (w : World) (base : Nat) (ok : Nat → Prop) (x : TV) : kt.M w base ok x (tvCs x) := ⟨[_], [_, _, _, _, _], rfl, rfl, ⟨[_], [_, _, _, _], rfl, rfl, ⟨[_], [_, _, _], rfl, rfl, ⟨[_], [_, _], rfl, rfl, ⟨[_], [_], rfl, rfl, rfl⟩⟩⟩⟩⟩
theorem kt_open {w : World} {x : TV} {cs : List Value} (h : kt.K w x cs) : cs = tvCs x := by
  obtain ⟨_, _, rfl, rfl, ⟨_, _, rfl, rfl, ⟨_, _, rfl, rfl, ⟨_, _, rfl, rfl, ⟨_, _, rfl, rfl, rfl⟩⟩⟩⟩⟩ := h
  exact rfl
def Flat {α : Type} (d : Kd α) : Prop := ∀ {w w' : World} {base base' : Nat} {ok ok' : Nat → Prop} {x : α} {cs : List Value}, d.M w base ok x cs → d.M w' base' ok' x cs
theorem flat_t : Flat kt := fun h => h
theorem R_flat {α : Type} {d : Kd α} (hf : Flat d) {e : Nat} {w w' : World} {base base' : Nat} {ok : Nat → Prop} {v : Value} {xs : List α} (h : d.R e w base ok v xs) (hm : ∀ k, v.ownBlock = some k → w'.heap[k]? = w.heap[k]?) (hb : ∀ k, v.ownBlock = some k → base' ≤ k) : d.R e w' base' (fun _ => True) v xs := by
  obtain ⟨_, inner, ho, hr⟩ := h
  have ho' := own_move ho hm
  refine ⟨fun _ _ => trivial, inner, ⟨ho'.1, ?_⟩, hr.imp_ (fun _ _ hp => hf hp)⟩
  rcases ho'.2 with h2 | ⟨g, cap, cur, rfl, hg, rest⟩
  · exact .inl h2
  · exact .inr ⟨g, cap, cur, rfl, hb g (by simp [Value.ownBlock]), rest⟩
theorem infoT : (Tryd.prog.info? 93).map (fun i => (i.zero, i.size, i.bytes)) = some (some (.agg #[.int .i64 0, .int .i64 0, .int .u64 0, .string ⟨#[]⟩, .int .i64 0, .slice none 0 0]), 6, 72) := by kernel_rfl
theorem R_blk {α : Type} {d : Kd α} {e g n c : Nat} {w : World} {base : Nat} {ok : Nat → Prop} {xs : List α} (h : d.R e w base ok (.slice (some ⟨g, 0, none⟩) n c) xs) : ∃ cur, w.heap[g]? = some (.cells cur e (0, 0)) := by
  obtain ⟨inner, ho⟩ := Kd.R_own h
  rcases ho.2 with ⟨hv, _⟩ | ⟨g', cap, cur, hv, _, hg, _⟩
  · cases hv
  · injection hv with h1 _ _
    injection h1 with h1
    injection h1 with h1
    subst h1
    exact ⟨cur, hg⟩
inductive IsT (w : World) (ok : Nat → Prop) : Tr → TV → Prop
  | leaf (n : Nd) (A : Option Addr) (c : Nat) : IsT w ok (.mk n []) ⟨n, ⟨A, 0, c⟩⟩
  | node (n : Nd) (ks : List Tr) (g c : Nat) (xs : List TV) (hl : xs.length = ks.length) (hok : ok g) (hr : Kd.R kt 93 w 0 (fun _ => True) (.slice (some ⟨g, 0, none⟩) xs.length c) xs)
      (hk : ∀ (i : Nat) (h1 : i < ks.length) (h2 : i < xs.length), IsT w ok ks[i] xs[i]) : IsT w ok (.mk n ks) ⟨n, ⟨some ⟨g, 0, none⟩, xs.length, c⟩⟩
theorem IsT.move {w w' : World} {ok ok' : Nat → Prop} {t : Tr} {x : TV} (h : IsT w ok t x) (hm : ∀ (g : Nat) (cur : Array Value), ok g → w.heap[g]? = some (.cells cur 93 (0, 0)) → w'.heap[g]? = w.heap[g]? ∧ ok' g) : IsT w' ok' t x := by
  induction h with
  | leaf n A c => exact .leaf n A c
  | node n ks g c xs hl hok hr hk ih =>
    obtain ⟨cur, hg⟩ := R_blk hr
    obtain ⟨e1, e2⟩ := hm g cur hok hg
    refine .node n ks g c xs hl e2 (R_flat flat_t hr (fun k hkk => ?_) (fun _ _ => Nat.zero_le _)) (fun i h1 h2 => ih i h1 h2)
    simp only [Value.ownBlock, Option.some.injEq] at hkk
    subst hkk
    exact e1
structure TL (w : World) (ok : Nat → Prop) (ts : List Tr) (xs : List TV) : Prop where
  len : xs.length = ts.length
  get : ∀ (i : Nat) (h1 : i < ts.length) (h2 : i < xs.length), IsT w ok ts[i] xs[i]
section
variable {w w' : World} {ok ok' : Nat → Prop} {ts : List Tr} {xs : List TV}
theorem TL.nil (w : World) (ok : Nat → Prop) : TL w ok [] [] := ⟨rfl, fun i h => by simp at h⟩
theorem TL.move (h : TL w ok ts xs) (hm : ∀ (g : Nat) (cur : Array Value), ok g → w.heap[g]? = some (.cells cur 93 (0, 0)) → w'.heap[g]? = w.heap[g]? ∧ ok' g) : TL w' ok' ts xs := ⟨h.len, fun i h1 h2 => (h.get i h1 h2).move hm⟩
theorem TL.take (h : TL w ok ts xs) (k : Nat) : TL w ok (ts.take k) (xs.take k) :=
  ⟨by rw [List.length_take, List.length_take, h.len], fun i h1 h2 => by
    rw [List.length_take] at h1 h2
    rw [List.getElem_take, List.getElem_take]
    exact h.get i (by omega) (by omega)⟩
theorem TL.drop (h : TL w ok ts xs) (k : Nat) : TL w ok (ts.drop k) (xs.drop k) :=
  ⟨by rw [List.length_drop, List.length_drop, h.len], fun i h1 h2 => by
    rw [List.length_drop] at h1 h2
    rw [List.getElem_drop, List.getElem_drop]
    exact h.get (k + i) (by omega) (by omega)⟩
theorem TL.snoc {t : Tr} {x : TV} (h : TL w ok ts xs) (ht : IsT w ok t x) : TL w ok (ts ++ [t]) (xs ++ [x]) :=
  ⟨by rw [List.length_append, List.length_append, h.len]; rfl, fun i h1 h2 => by
    by_cases hi : i < ts.length
    · rw [List.getElem_append_left hi, List.getElem_append_left (by rw [h.len]; exact hi)]
      exact h.get i hi (by rw [h.len]; exact hi)
    · rw [List.length_append, List.length_singleton] at h1
      obtain rfl : i = ts.length := by omega
      rw [List.getElem_append_right (Nat.le_refl _), List.getElem_append_right (by rw [h.len]; exact Nat.le_refl _)]
      simp only [Nat.sub_self, h.len, List.getElem_cons_zero]
      exact ht⟩
theorem TL.node {n : Nd} {A : Option Addr} {k c base : Nat} (h : TL w ok ts xs) (hr : Kd.R kt 93 w base (fun _ => True) (.slice A k c) xs) (hok : ∀ g, base ≤ g → g < w.heap.size → ok g) : IsT w ok (.mk n ts) ⟨n, ⟨A, k, c⟩⟩ := by
  obtain ⟨inner, ho⟩ := Kd.R_own hr
  have hk : k = xs.length := by
    obtain ⟨A', c', he⟩ := own_slice ho
    injection he
  subst hk
  rcases ho.2 with ⟨hv, h0⟩ | ⟨g, cap, cur, hv, hb, hg, _⟩
  · have hts : ts = [] := List.length_eq_zero_iff.1 (by rw [← h.len]; exact h0)
    subst hts
    rw [h0]
    exact .leaf n A c
  · injection hv with h1 h2 h3
    subst h1
    exact .node n ts g c xs h.len (hok g hb (blk_lt hg)) (R_flat flat_t hr (fun _ _ => rfl) (fun _ _ => Nat.zero_le _)) h.get
end
set_option maxHeartbeats 1000000 in
set_option maxRecDepth 100000 in
theorem clone_calls (w : World) (A : Option Addr) (c : Nat) (xs : List TV) (hC : Kd.C kt w A xs.length xs) (hn : xs.length ≤ 1099511627776) (hnil : A = none → xs = []) :
    Calls Tryd.prog 65 #[.slice A xs.length c] w fun e w' => ∃ A' c', e = .returned (.slice A' xs.length c') ∧ Kd.R kt 93 w' w.heap.size (fun _ => True) (.slice A' xs.length c') xs ∧ Below w.heap.size w w' := by
  have hu := Tryd.underlying91
  have HC := Aside0.mk hC
  have HN := Aside0.mk hn
  cases A with
  | none =>
    have HE : Aside0 (xs = []) := ⟨hnil rfl⟩
    have hq : ∀ (m : Nat) (W : World), (binOp .eql 91 (.slice none m c) (.slice none 0 0)).run Tryd.prog W = .ok (.bool true) W := fun m W => Go.run_eql_slice_nil W 91 93 none m c hu
    clear hC hn hnil
    go_enter Tryd.func65, Tryd.ntmps65
    go_wp2
    go_ret
    exact ⟨none, 0, by rw [HE.out]; rfl, by rw [HE.out]; exact Kd.R_nil _ _ _ _ _, Below.refl _ _⟩
  | some a =>
    have hq : ∀ (m : Nat) (W : World), (binOp .eql 91 (.slice (some a) m c) (.slice none 0 0)).run Tryd.prog W = .ok (.bool false) W := fun m W => Go.run_eql_slice_nil W 91 93 (some a) m c hu
    clear hC hn hnil
    go_enter Tryd.func65, Tryd.ntmps65
    go_wp2_with ((with_reducible refine gate_builtin (b := .append) (xs := #[.tmp 5, .tmp 6]) rfl ?_); at_builtin; refine Kd.R_append_rows kt (Rr := kt.K (w.alloc (.cells #[] 93))) (w0 := w) w.heap.size rfl (.tmp 5) (.tmp 6) 91 93 (.agg #[.int .i64 0, .int .i64 0, .int .u64 0, .string ⟨#[]⟩, .int .i64 0, .slice none 0 0]) 72 rfl Tryd.underlying91 infoT rfl (by decide) (by omega) (.slice (some ⟨w.heap.size, 0, none⟩) 0 0) [] xs (some a) xs.length c (fun _ => True) (fun _ => False) rfl rfl ?aO (Kd.C_below HC.out (below_alloc (Below.refl _ _) _)) ?aK (fun _ hk => hk.elim) (fun _ _ => trivial) (below_alloc (Below.refl _ _) _) (by simp) (by have := HN.out; simp; omega) ?_; (case aO => exact ⟨fun _ _ => trivial, [], (show (w.alloc (.cells #[] 93)).ownsRow w.heap.size 93 6 (.slice (some ⟨w.heap.size, 0, none⟩) 0 0) 0 [] by simpa using World.ownsRow_lit (base := w.heap.size) (e := 93) (size := 6) w #[] 0 (Nat.le_refl _) (by simp) (by simp)), Reps.none _ _⟩); (case aK => intro x cs hk; obtain rfl := kt_open hk; exact kt_mkM _ _ _ x); intro v1 w1 ho hb hg hat; rw [List.nil_append] at ho; obtain ⟨A1, c1, hv1⟩ := Kd.R_slice ho; subst hv1; have HO := Aside0.mk ho; have HB := Aside0.mk hb; clear ho hb hg hat)
    go_ret
    exact ⟨_, _, rfl, HO.out, HB.out⟩
end Go.Proofs.YtaijoghpfobdbaaDoor.W
end
section
set_option linter.unusedVariables false
set_option linter.unusedSimpArgs false
namespace Go.Proofs.YtaijoghpfobdbaaDoorW.PrintWords
open Go.RowKit
def Went (W w1 : World) (v v1 : Value) (n : Nat) : Prop :=
  (∃ g c, v = .slice (some ⟨g, 0, none⟩) n c ∧ v1 = .slice (some ⟨g, 0, none⟩) (n + 1) c ∧ W.grownBy w1 (some g)) ∨ (∃ b, v1.ownBlock = some b ∧ W.heap.size ≤ b ∧ W.grownBy w1 none)
theorem Went.grown {W w1 : World} {v v1 : Value} {n : Nat} (h : Went W w1 v v1 n) : W.grownBy w1 v.ownBlock := by
  rcases h with ⟨g, c, rfl, _, h⟩ | ⟨b, _, _, h⟩
  · simpa [Value.ownBlock] using h
  · exact ⟨h.os, h.tape, h.output, h.size, fun k hk _ => h.block k hk (by simp)⟩
theorem Went.at {W w1 : World} {v v1 : Value} {n : Nat} (h : Went W w1 v v1 n) : v1.ownBlock = v.ownBlock ∨ ∃ b, v1.ownBlock = some b ∧ W.heap.size ≤ b := by
  rcases h with ⟨g, c, rfl, rfl, h⟩ | ⟨b, h1, h2, _⟩
  · exact .inl (by simp [Value.ownBlock])
  · exact .inr ⟨b, h1, h2⟩
theorem grown_new (w : World) (o : Obj) (row : Option Nat) : w.grownBy (w.drew.alloc o) row := ⟨rfl, rfl, rfl, by simp, fun k hk _ => heap_alloc_old w.drew _ hk⟩
theorem own_went {P : Program} (w : World) (base : Nat) (t ty e : TypeId) (i : TypeInfo) (z : Value) (size bytes : Nat) (ht : P.underlying t = some (.slice e)) (hi : P.info? e = some i) (hz : i.zero = some z)
    (hsize : i.size = size) (hby : i.bytes = bytes) (hzs : z.cells.size = size) (hsz : 0 < size)
    (v : Value) (n : Nat) (xs : List Value) (hown : w.ownsRow base e size v n xs)
    (a : Addr) (c : Nat) (news : List Value) (hl : news.length = size) (hnews : ∀ j u, news[j]? = some u → w.cell? (a.add j) = some u) (h1 : ∀ u ∈ news, u.oneCell' = true)
    (hb0 : 0 < bytes) (hbytes : (n + 1) * bytes ≤ 140737488355328) (hbase : base ≤ w.heap.size) :
    ∃ v' w', (Builtin.append_ #[t, t] ty #[v, .slice (some a) 1 c]).run P w = .ok v' w' ∧ w'.ownsRow base e size v' (n + 1) (xs ++ news) ∧ Went w w' v v' n := by
  have hn : n + 1 ≤ 140737488355328 := Nat.le_trans (Nat.le_mul_of_pos_right _ hb0) hbytes
  have hl1 : news.length = 1 * size := by omega
  obtain ⟨v', w', hr, ho, hg, _⟩ := run_append_own (P := P) w base t ty e i z size bytes ht hi hz hsize hby hzs hsz v n xs hown a 1 c news hl1 hnews h1 (by simp only [maxLen]; omega) hbytes hbase
  refine ⟨v', w', hr, ho, ?_⟩
  subst hsize
  subst hby
  rcases hown.2 with ⟨rfl, rfl⟩ | ⟨g, cap, cur, rfl, hbg, hgc, hnc, hcm, hcs, htake⟩
  · have h2 := run_append_nil (P := P) w t ty e i z ht hi hz a 1 c news hl1 hnews (by omega) (by omega) (by omega)
    rw [hr] at h2
    injection h2 with e1 e2
    subst e1 e2
    exact .inr ⟨_, rfl, Nat.le_refl _, grown_new _ _ _⟩
  · by_cases hroom : n + 1 ≤ cap
    · have hfit : n * i.size + news.length ≤ cur.size := by
        rw [hl1, hcs, ← Nat.add_mul]; exact Nat.mul_le_mul_right _ hroom
      have h2 := run_append_room (P := P) w t ty e i ht hi g n cap cur hgc a 1 c news hl1 hnews h1 hroom hfit
      rw [hr] at h2
      injection h2 with e1 e2
      subst e1
      exact .inl ⟨g, cap, rfl, rfl, by simpa [Value.ownBlock] using hg⟩
    · have holds : ∀ j u, xs[j]? = some u → w.cell? ((⟨g, 0, none⟩ : Addr).add j) = some u := hown.cells (g := g) rfl
      have h2 := run_append_grow (P := P) w t ty e i z ht hi hz ⟨g, 0, none⟩ n cap xs hown.1 holds a 1 c news hl1 hnews (by omega) (by omega) (growslice_fits (by omega) hbytes)
      rw [hr] at h2
      injection h2 with e1 e2
      subst e1 e2
      exact .inr ⟨_, rfl, Nat.le_refl _, grown_new _ _ _⟩
namespace Kd
section
variable {α : Type} {P : Program} {ops : Array Oper} {rest : List Oper} {o : Oper} {a : Act} {Q' : Exit → Act → World → Prop}
theorem R_step_at {Kc : Act → World → Prop} {N : Option Tmp} (hN : o.dst = N) (d : Kd α) {w0 W : World} (base : Nat) (hw : Region.wanted o (yielded ops a.tmps) = true) (s x : Operand) (t e : TypeId) (z : Value) (bytes : Nat)
    (ho : o.op = .call { callee := .builtin .append, args := #[s, x], argTypes := #[t, t] })
    (ht : P.underlying t = some (.slice e)) (hinfo : (P.info? e).map (fun i => (i.zero, i.size, i.bytes)) = some (some z, d.sz, bytes)) (hz : z.cells.size = d.sz) (hs0 : 0 < d.sz) (hb0 : 0 < bytes)
    (v : Value) (xs : List α) (p : α) (cs : List Value) (ok okp : Nat → Prop) (hs : a.eval s = v) (a0 : Addr) (c0 : Nat) (hx : a.eval x = .slice (some a0) 1 c0) (hnews : ∀ j u, cs[j]? = some u → W.cell? (a0.add j) = some u) (hp : d.M W base okp p cs) (hokp : ∀ k, okp k → ok k ∧ some k ≠ v.ownBlock) (hfresh : ∀ k, W.heap.size ≤ k → ok k)
    (HO : d.R e W base ok v xs) (HB : Below base w0 W) (hbase : base ≤ W.heap.size) (hl : (xs.length + 1) * bytes ≤ 140737488355328)
    (h : ∀ v1 w1, d.R e w1 base ok v1 (xs ++ [p]) → Below base w0 w1 → Went W w1 v v1 xs.length → Kc (a.put N v1) w1) :
    if Region.wanted o (yielded ops a.tmps) = true then Oper.wp P o a W Kc Q' else Kc (a.put N undef) W := by
  subst hN
  rw [if_pos hw]
  obtain ⟨h0, inner, hown, hr⟩ := HO
  obtain ⟨i0, hi, hzz⟩ := Option.map_eq_some_iff.1 hinfo
  simp only [Prod.mk.injEq] at hzz
  obtain ⟨hz0, hz1, hz2⟩ := hzz
  have hcl := d.K_len (d.K_of_M hp)
  obtain ⟨v1, w1, hrun, hq1, hwent⟩ := own_went (P := P) W base t o.type e i0 z d.sz bytes ht hi hz0 hz1 hz2 hz hs0 v xs.length inner hown a0 c0 cs hcl hnews (d.K_one (d.K_of_M hp)) hb0 hl hbase
  unfold Oper.wp execOp
  simp only [ho, resolve, invoke, builtin, Sem.run_bind, Sem.run_pure, Result.andThen_ok, List.map_toArray, List.map_cons, List.map_nil, hs, hx, hrun]
  exact h v1 w1 (R_appended h0 hr hp hokp hfresh hq1 hwent.grown hwent.at) (HB.grown hwent.grown hbase (fun k hk => own_base hown k hk)) hwent
end
section
variable {α : Type} {d : Kd α} {e base : Nat} {ok : Nat → Prop} {W w1 : World} {v : Value} {xs : List α}
end
end Kd
end Go.Proofs.YtaijoghpfobdbaaDoorW.PrintWords
end
