/- The walks of lex.run (with each function that it is handed), lex.number and strings.IndexByte: what they answer, in plain Lean. Conditions: sizes and places. -/
import Derived.Test.YtedhkelochpdnaaY1
import Derived.Test.YtedhkelochpdnaaShelf
import Derived.Test.YtedhkelochpdnaaWWords
import Derived.Test.YtedhkelochpdnaaWLast
import Derived.Test.YtedhkelochpdnaaWMore
import Derived.Test.YtedhkelochpdnaaM
import Derived.BigCall
import Derived.Laws.Externs
set_option linter.unusedVariables false
set_option linter.unusedSimpArgs false
namespace Go.Proofs.Ytedhkelochpdnaa.G
open Go.RowKit Go.Proofs.YtedhkelochpdnaaW.PrintWords Go.Proofs.YtedhkelochpdnaaW.PrintLast Go.Proofs.YtedhkelochpdnaaW.PrintMore

theorem w64 {x : Int} (h0 : 0 ≤ x) (h1 : x ≤ 4611686018427387904) : wrap64 x = x := by unfold wrap64; omega
def dig (c : Int) : Bool := decide (48 ≤ c ∧ c ≤ 57)
def letr (c : Int) : Bool := decide ((97 ≤ c ∧ c ≤ 122) ∨ (65 ≤ c ∧ c ≤ 90) ∨ c = 95)
def okb (n : Nat) (c : Int) : Bool := if n = 27 then dig c else letr c || dig c
theorem dig_eq (c : Int) : Y.lex_isDigit.f c = some (dig c) := by
  unfold Y.lex_isDigit.f dig
  by_cases h : c ≥ 48
  · rw [if_pos h]; congr 2; simp; omega
  · rw [if_neg h]; congr 1; symm; apply decide_eq_false; omega
theorem letr_eq (c : Int) : Y.lex_isLetter.f c = some (letr c) := by
  unfold Y.lex_isLetter.f letr
  have e : ∀ x : Bool, (x = true ↔ ((97 ≤ c ∧ c ≤ 122) ∨ (65 ≤ c ∧ c ≤ 90) ∨ c = 95)) → some x = some (decide ((97 ≤ c ∧ c ≤ 122) ∨ (65 ≤ c ∧ c ≤ 90) ∨ c = 95)) := fun x h => by rw [Option.some.injEq, Bool.eq_iff_iff, decide_eq_true_iff]; exact h
  repeat' split
  all_goals refine e _ ?_
  all_goals first | (simp only [true_iff]; omega) | (rw [beq_iff_eq]; omega)
theorem dig_calls (c : Int) (w : World) : Calls Try.prog 27 #[.int .u8 c] w fun e w' => e = .returned (.bool (dig c)) ∧ Drawn0 w w' := Y.lex_isDigit.calls c _ w (dig_eq c)
theorem letr_calls (c : Int) (w : World) : Calls Try.prog 24 #[.int .u8 c] w fun e w' => e = .returned (.bool (letr c)) ∧ Drawn0 w w' := Y.lex_isLetter.calls c _ w (letr_eq c)
theorem drawn0_trans {a b c : World} (h : Drawn0 a b) (h2 : Drawn0 b c) : Drawn0 a c := by
  obtain ⟨⟨m, rfl⟩⟩ := h2
  exact h.step m

set_option maxHeartbeats 1000000 in
set_option maxRecDepth 100000 in
theorem ldName (c : Int) (w : World) : Calls Try.prog 26 #[.int .u8 c] w fun e w' => e = .returned (.bool (letr c || dig c)) ∧ Drawn0 w w' := by
  have HL := Aside0.mk (letr_calls c w)
  cases hl : letr c with
  | true =>
    rw [hl] at HL
    go_enter Try.func26, Try.ntmps26
    go_wp2_with (go_at_call 24; refine HL.out.mono ?_; rintro e w1 ⟨rfl, hd1⟩; have HD := Aside0.mk hd1; clear hd1)
    go_ret
    exact ⟨rfl, HD.out⟩
  | false =>
    rw [hl] at HL
    go_enter Try.func26, Try.ntmps26
    go_wp2_with (first
      | (go_at_call 24; refine HL.out.mono ?_; rintro e w1 ⟨rfl, hd1⟩; have HD := Aside0.mk hd1; have HG := Aside0.mk (dig_calls c w1); clear hd1)
      | (go_at_call 27; refine HG.out.mono ?_; rintro e w2 ⟨rfl, hd2⟩; have HD2 := Aside0.mk (drawn0_trans HD.out hd2); clear hd2))
    go_ret
    exact ⟨by simp, HD2.out⟩

set_option maxHeartbeats 1000000 in
set_option maxRecDepth 100000 in
theorem ldtoken (c : Int) (w : World) : Calls Try.prog 36 #[.int .u8 c] w fun e w' => e = .returned (.bool (letr c || dig c)) ∧ Drawn0 w w' := by
  have HL := Aside0.mk (letr_calls c w)
  cases hl : letr c with
  | true =>
    rw [hl] at HL
    go_enter Try.func36, Try.ntmps36
    go_wp2_with (go_at_call 24; refine HL.out.mono ?_; rintro e w1 ⟨rfl, hd1⟩; have HD := Aside0.mk hd1; clear hd1)
    go_ret
    exact ⟨rfl, HD.out⟩
  | false =>
    rw [hl] at HL
    go_enter Try.func36, Try.ntmps36
    go_wp2_with (first
      | (go_at_call 24; refine HL.out.mono ?_; rintro e w1 ⟨rfl, hd1⟩; have HD := Aside0.mk hd1; have HG := Aside0.mk (dig_calls c w1); clear hd1)
      | (go_at_call 27; refine HG.out.mono ?_; rintro e w2 ⟨rfl, hd2⟩; have HD2 := Aside0.mk (drawn0_trans HD.out hd2); clear hd2))
    go_ret
    exact ⟨by simp, HD2.out⟩

/-- How many bytes at the front are ok. -/
def tw (n : Nat) (l : List UInt8) : Nat := (l.takeWhile fun b => okb n (b.toNat : Int)).length
theorem tw_cons (n : Nat) (b : UInt8) (l : List UInt8) : tw n (b :: l) = if okb n (b.toNat : Int) = true then tw n l + 1 else 0 := by
  unfold tw; rw [List.takeWhile_cons]; split <;> simp
def left : Value → Nat
  | .int _ i => i.toNat
  | _ => 0

set_option maxHeartbeats 2000000 in
set_option maxRecDepth 100000 in
theorem runDig (s : ByteArray) (i0 : Nat) (w : World) (hi0 : i0 ≤ s.size) (hs : s.size ≤ 2305843009213693952) :
    Calls Try.prog 25 #[.string s, .int .i64 (i0 : Int), .func (.func 27) #[] #[]] w fun e w' => e = .returned (.int .i64 ((i0 + tw 27 (s.data.toList.drop i0) : Nat) : Int)) ∧ Drawn0 w w' := by
  have HS := Aside0.mk hs
  have HI := Aside0.mk hi0
  have hsz : s.size = s.data.toList.length := (data_length s).symm
  have HZ := Aside0.mk hsz
  clear hs hi0 hsz
  go_enter Try.func25, Try.ntmps25
  go_wp2
  go_loopw [1] (fun tv wr => ∃ i : Nat, tv = .int .i64 (i : Int) ∧ Aside0 (i ≤ s.size) ∧ Aside0 (i + tw 27 (s.data.toList.drop i) = i0 + tw 27 (s.data.toList.drop i0)) ∧ Aside0 (Drawn0 w wr)) (fun tv _ => s.size - left tv)
  case atStart => exact ⟨i0, rfl, HI, ⟨rfl⟩, ⟨Drawn0.refl _⟩⟩
  case round =>
    obtain ⟨i, rfl, hi, HX, HD⟩ := hrel
    by_cases c : i < s.size
    · have c1 : decide ((i : Int) < (s.size : Int)) = true := decide_eq_true (by omega)
      have c2 : decide (i < s.size) = true := decide_eq_true c
      have p1 : (0 ≤ (i : Int)) = True := eq_true (by omega)
      have p2 : ((i : Int) < (s.size : Int)) = True := eq_true (by omega)
      have hx := bt_at s (i : Int)
      obtain ⟨b, hb⟩ : ∃ b : Int, b = (((s[i]'c).toNat : Nat) : Int) := ⟨_, rfl⟩
      have HBD : Aside0 (s.data.toList.drop i = (s.data.toList[i]'(by rw [← HZ.out]; exact c)) :: s.data.toList.drop (i + 1)) := ⟨List.drop_eq_getElem_cons _⟩
      have HBB : Aside0 (b = (((s.data.toList[i]'(by rw [← HZ.out]; exact c)).toNat : Nat) : Int)) := ⟨by rw [hb]; rfl⟩
      have hb2 : (((s[i]'c).toNat : Nat) : Int) = b := hb.symm
      clear hb hx
      cases ho : okb 27 b with
      | true =>
        have HC : Aside0 (∀ w1, Calls Try.prog 27 #[.int .u8 b] w1 fun e w' => e = .returned (.bool true) ∧ Drawn0 w1 w') := ⟨fun w1 => by have := dig_calls b w1; rw [show dig b = okb 27 b from rfl, ho] at this; exact this⟩
        have HX2 : Aside0 ((i + 1) + tw 27 (s.data.toList.drop (i + 1)) = i0 + tw 27 (s.data.toList.drop i0)) := ⟨by
          rw [← HX.out, HBD.out, tw_cons, ← HBB.out, ho, if_pos rfl]; omega⟩
        have W1 : Aside0 (wrap64 ((i : Int) + 1) = ((i + 1 : Nat) : Int)) := ⟨by have := HS.out; rw [w64 (by omega) (by omega)]; rfl⟩
        have e1 : ∀ [Inhabited Unit], wrap64 ((i : Int) + 1) = ((i + 1 : Nat) : Int) := fun {_} => W1.out
        clear HBD HBB ho HX
        go_wp2_with (go_at_call 27; refine (HC.out _).mono ?_; rintro e w2 ⟨rfl, hd2⟩; have HD2 := Aside0.mk (drawn0_trans HD.out hd2); clear hd2 HD)
        refine ⟨⟨i + 1, by rw [W1.out], ⟨by omega⟩, HX2, HD2⟩, ?_⟩
        show s.size - (wrap64 ((i : Int) + 1)).toNat < s.size - ((i : Nat) : Int).toNat
        rw [W1.out, Int.toNat_natCast, Int.toNat_natCast]
        omega
      | false =>
        have HC : Aside0 (∀ w1, Calls Try.prog 27 #[.int .u8 b] w1 fun e w' => e = .returned (.bool false) ∧ Drawn0 w1 w') := ⟨fun w1 => by have := dig_calls b w1; rw [show dig b = okb 27 b from rfl, ho] at this; exact this⟩
        have HX2 : Aside0 (i = i0 + tw 27 (s.data.toList.drop i0)) := ⟨by
          rw [← HX.out, HBD.out, tw_cons, ← HBB.out, ho, if_neg (by decide)]; omega⟩
        clear HBD HBB ho HX
        go_wp2_with (go_at_call 27; refine (HC.out _).mono ?_; rintro e w2 ⟨rfl, hd2⟩; have HD2 := Aside0.mk (drawn0_trans HD.out hd2); clear hd2 HD)
        go_ret
        exact ⟨by rw [← HX2.out]; rfl, HD2.out⟩
    · have c1 : decide ((i : Int) < (s.size : Int)) = false := decide_eq_false (by omega)
      have c2 : decide (i < s.size) = false := decide_eq_false c
      have HX2 : Aside0 (i = i0 + tw 27 (s.data.toList.drop i0)) := ⟨by
        rw [← HX.out, List.drop_of_length_le (by rw [← HZ.out]; omega)]; rfl⟩
      clear HX
      go_wp2
      go_ret
      exact ⟨by rw [← HX2.out]; rfl, HD.out⟩

set_option maxHeartbeats 2000000 in
set_option maxRecDepth 100000 in
theorem runName (s : ByteArray) (i0 : Nat) (w : World) (hi0 : i0 ≤ s.size) (hs : s.size ≤ 2305843009213693952) :
    Calls Try.prog 25 #[.string s, .int .i64 (i0 : Int), .func (.func 26) #[] #[]] w fun e w' => e = .returned (.int .i64 ((i0 + tw 26 (s.data.toList.drop i0) : Nat) : Int)) ∧ Drawn0 w w' := by
  have HS := Aside0.mk hs
  have HI := Aside0.mk hi0
  have hsz : s.size = s.data.toList.length := (data_length s).symm
  have HZ := Aside0.mk hsz
  clear hs hi0 hsz
  go_enter Try.func25, Try.ntmps25
  go_wp2
  go_loopw [1] (fun tv wr => ∃ i : Nat, tv = .int .i64 (i : Int) ∧ Aside0 (i ≤ s.size) ∧ Aside0 (i + tw 26 (s.data.toList.drop i) = i0 + tw 26 (s.data.toList.drop i0)) ∧ Aside0 (Drawn0 w wr)) (fun tv _ => s.size - left tv)
  case atStart => exact ⟨i0, rfl, HI, ⟨rfl⟩, ⟨Drawn0.refl _⟩⟩
  case round =>
    obtain ⟨i, rfl, hi, HX, HD⟩ := hrel
    by_cases c : i < s.size
    · have c1 : decide ((i : Int) < (s.size : Int)) = true := decide_eq_true (by omega)
      have c2 : decide (i < s.size) = true := decide_eq_true c
      have p1 : (0 ≤ (i : Int)) = True := eq_true (by omega)
      have p2 : ((i : Int) < (s.size : Int)) = True := eq_true (by omega)
      have hx := bt_at s (i : Int)
      obtain ⟨b, hb⟩ : ∃ b : Int, b = (((s[i]'c).toNat : Nat) : Int) := ⟨_, rfl⟩
      have HBD : Aside0 (s.data.toList.drop i = (s.data.toList[i]'(by rw [← HZ.out]; exact c)) :: s.data.toList.drop (i + 1)) := ⟨List.drop_eq_getElem_cons _⟩
      have HBB : Aside0 (b = (((s.data.toList[i]'(by rw [← HZ.out]; exact c)).toNat : Nat) : Int)) := ⟨by rw [hb]; rfl⟩
      have hb2 : (((s[i]'c).toNat : Nat) : Int) = b := hb.symm
      clear hb hx
      cases ho : okb 26 b with
      | true =>
        have HC : Aside0 (∀ w1, Calls Try.prog 26 #[.int .u8 b] w1 fun e w' => e = .returned (.bool true) ∧ Drawn0 w1 w') := ⟨fun w1 => by have := ldName b w1; rw [show (letr b || dig b) = okb 26 b from rfl, ho] at this; exact this⟩
        have HX2 : Aside0 ((i + 1) + tw 26 (s.data.toList.drop (i + 1)) = i0 + tw 26 (s.data.toList.drop i0)) := ⟨by
          rw [← HX.out, HBD.out, tw_cons, ← HBB.out, ho, if_pos rfl]; omega⟩
        have W1 : Aside0 (wrap64 ((i : Int) + 1) = ((i + 1 : Nat) : Int)) := ⟨by have := HS.out; rw [w64 (by omega) (by omega)]; rfl⟩
        have e1 : ∀ [Inhabited Unit], wrap64 ((i : Int) + 1) = ((i + 1 : Nat) : Int) := fun {_} => W1.out
        clear HBD HBB ho HX
        go_wp2_with (go_at_call 26; refine (HC.out _).mono ?_; rintro e w2 ⟨rfl, hd2⟩; have HD2 := Aside0.mk (drawn0_trans HD.out hd2); clear hd2 HD)
        refine ⟨⟨i + 1, by rw [W1.out], ⟨by omega⟩, HX2, HD2⟩, ?_⟩
        show s.size - (wrap64 ((i : Int) + 1)).toNat < s.size - ((i : Nat) : Int).toNat
        rw [W1.out, Int.toNat_natCast, Int.toNat_natCast]
        omega
      | false =>
        have HC : Aside0 (∀ w1, Calls Try.prog 26 #[.int .u8 b] w1 fun e w' => e = .returned (.bool false) ∧ Drawn0 w1 w') := ⟨fun w1 => by have := ldName b w1; rw [show (letr b || dig b) = okb 26 b from rfl, ho] at this; exact this⟩
        have HX2 : Aside0 (i = i0 + tw 26 (s.data.toList.drop i0)) := ⟨by
          rw [← HX.out, HBD.out, tw_cons, ← HBB.out, ho, if_neg (by decide)]; omega⟩
        clear HBD HBB ho HX
        go_wp2_with (go_at_call 26; refine (HC.out _).mono ?_; rintro e w2 ⟨rfl, hd2⟩; have HD2 := Aside0.mk (drawn0_trans HD.out hd2); clear hd2 HD)
        go_ret
        exact ⟨by rw [← HX2.out]; rfl, HD2.out⟩
    · have c1 : decide ((i : Int) < (s.size : Int)) = false := decide_eq_false (by omega)
      have c2 : decide (i < s.size) = false := decide_eq_false c
      have HX2 : Aside0 (i = i0 + tw 26 (s.data.toList.drop i0)) := ⟨by
        rw [← HX.out, List.drop_of_length_le (by rw [← HZ.out]; omega)]; rfl⟩
      clear HX
      go_wp2
      go_ret
      exact ⟨by rw [← HX2.out]; rfl, HD.out⟩

set_option maxHeartbeats 2000000 in
set_option maxRecDepth 100000 in
theorem runToken (s : ByteArray) (i0 : Nat) (w : World) (hi0 : i0 ≤ s.size) (hs : s.size ≤ 2305843009213693952) :
    Calls Try.prog 25 #[.string s, .int .i64 (i0 : Int), .func (.func 36) #[] #[]] w fun e w' => e = .returned (.int .i64 ((i0 + tw 36 (s.data.toList.drop i0) : Nat) : Int)) ∧ Drawn0 w w' := by
  have HS := Aside0.mk hs
  have HI := Aside0.mk hi0
  have hsz : s.size = s.data.toList.length := (data_length s).symm
  have HZ := Aside0.mk hsz
  clear hs hi0 hsz
  go_enter Try.func25, Try.ntmps25
  go_wp2
  go_loopw [1] (fun tv wr => ∃ i : Nat, tv = .int .i64 (i : Int) ∧ Aside0 (i ≤ s.size) ∧ Aside0 (i + tw 36 (s.data.toList.drop i) = i0 + tw 36 (s.data.toList.drop i0)) ∧ Aside0 (Drawn0 w wr)) (fun tv _ => s.size - left tv)
  case atStart => exact ⟨i0, rfl, HI, ⟨rfl⟩, ⟨Drawn0.refl _⟩⟩
  case round =>
    obtain ⟨i, rfl, hi, HX, HD⟩ := hrel
    by_cases c : i < s.size
    · have c1 : decide ((i : Int) < (s.size : Int)) = true := decide_eq_true (by omega)
      have c2 : decide (i < s.size) = true := decide_eq_true c
      have p1 : (0 ≤ (i : Int)) = True := eq_true (by omega)
      have p2 : ((i : Int) < (s.size : Int)) = True := eq_true (by omega)
      have hx := bt_at s (i : Int)
      obtain ⟨b, hb⟩ : ∃ b : Int, b = (((s[i]'c).toNat : Nat) : Int) := ⟨_, rfl⟩
      have HBD : Aside0 (s.data.toList.drop i = (s.data.toList[i]'(by rw [← HZ.out]; exact c)) :: s.data.toList.drop (i + 1)) := ⟨List.drop_eq_getElem_cons _⟩
      have HBB : Aside0 (b = (((s.data.toList[i]'(by rw [← HZ.out]; exact c)).toNat : Nat) : Int)) := ⟨by rw [hb]; rfl⟩
      have hb2 : (((s[i]'c).toNat : Nat) : Int) = b := hb.symm
      clear hb hx
      cases ho : okb 36 b with
      | true =>
        have HC : Aside0 (∀ w1, Calls Try.prog 36 #[.int .u8 b] w1 fun e w' => e = .returned (.bool true) ∧ Drawn0 w1 w') := ⟨fun w1 => by have := ldtoken b w1; rw [show (letr b || dig b) = okb 36 b from rfl, ho] at this; exact this⟩
        have HX2 : Aside0 ((i + 1) + tw 36 (s.data.toList.drop (i + 1)) = i0 + tw 36 (s.data.toList.drop i0)) := ⟨by
          rw [← HX.out, HBD.out, tw_cons, ← HBB.out, ho, if_pos rfl]; omega⟩
        have W1 : Aside0 (wrap64 ((i : Int) + 1) = ((i + 1 : Nat) : Int)) := ⟨by have := HS.out; rw [w64 (by omega) (by omega)]; rfl⟩
        have e1 : ∀ [Inhabited Unit], wrap64 ((i : Int) + 1) = ((i + 1 : Nat) : Int) := fun {_} => W1.out
        clear HBD HBB ho HX
        go_wp2_with (go_at_call 36; refine (HC.out _).mono ?_; rintro e w2 ⟨rfl, hd2⟩; have HD2 := Aside0.mk (drawn0_trans HD.out hd2); clear hd2 HD)
        refine ⟨⟨i + 1, by rw [W1.out], ⟨by omega⟩, HX2, HD2⟩, ?_⟩
        show s.size - (wrap64 ((i : Int) + 1)).toNat < s.size - ((i : Nat) : Int).toNat
        rw [W1.out, Int.toNat_natCast, Int.toNat_natCast]
        omega
      | false =>
        have HC : Aside0 (∀ w1, Calls Try.prog 36 #[.int .u8 b] w1 fun e w' => e = .returned (.bool false) ∧ Drawn0 w1 w') := ⟨fun w1 => by have := ldtoken b w1; rw [show (letr b || dig b) = okb 36 b from rfl, ho] at this; exact this⟩
        have HX2 : Aside0 (i = i0 + tw 36 (s.data.toList.drop i0)) := ⟨by
          rw [← HX.out, HBD.out, tw_cons, ← HBB.out, ho, if_neg (by decide)]; omega⟩
        clear HBD HBB ho HX
        go_wp2_with (go_at_call 36; refine (HC.out _).mono ?_; rintro e w2 ⟨rfl, hd2⟩; have HD2 := Aside0.mk (drawn0_trans HD.out hd2); clear hd2 HD)
        go_ret
        exact ⟨by rw [← HX2.out]; rfl, HD2.out⟩
    · have c1 : decide ((i : Int) < (s.size : Int)) = false := decide_eq_false (by omega)
      have c2 : decide (i < s.size) = false := decide_eq_false c
      have HX2 : Aside0 (i = i0 + tw 36 (s.data.toList.drop i0)) := ⟨by
        rw [← HX.out, List.drop_of_length_le (by rw [← HZ.out]; omega)]; rfl⟩
      clear HX
      go_wp2
      go_ret
      exact ⟨by rw [← HX2.out]; rfl, HD.out⟩
end Go.Proofs.Ytedhkelochpdnaa.G
