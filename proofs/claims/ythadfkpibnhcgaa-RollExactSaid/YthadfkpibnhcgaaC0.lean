/- The program is awake; a script's calls. Conditions: those in the theorems. -/
import Derived.Test.YthadfkpibnhcgaaB2
set_option linter.unusedVariables false
set_option linter.unusedSimpArgs false
namespace Go.Proofs.Ythadfkpibnhcgaa.B
open Go.RowKit Go.Proofs.Ythadfkpibnhcgaa.X Go.Proofs.YthadfkpibnhcgaaW.PrintWords Go.Proofs.YthadfkpibnhcgaaW.PrintLast Go.Proofs.YthadfkpibnhcgaaW.PrintMore

def none_ : Nat → Bool := fun _ => false
def nUI : ByteArray := ⟨#[117, 105, 110, 116, 45, 105, 110, 116]⟩
def nA : ByteArray := ⟨#[97]⟩
def nZ : ByteArray := ⟨#[122]⟩
def es1 : List S44 := enterS [] none_ 2 nUI 10
def es2 : List S44 := enterS es1 none_ 2 nA 0
theorem e1 : enterE [] none_ 2 nUI 10 = 0 := by decide +kernel
theorem n1 : enterN [] none_ 2 nUI 10 = 1 := by decide +kernel
theorem e2 : enterE es1 none_ 2 nA 0 = 0 := by decide +kernel
theorem n2 : enterN es1 none_ 2 nA 0 = 2 := by decide +kernel
theorem e3 : enterE es2 none_ 2 nA 7 = 11 := by decide +kernel
theorem n3 : enterN es2 none_ 2 nA 7 = 0 := by decide +kernel
theorem s3 : enterS es2 none_ 2 nA 7 = es2 := by unfold enterS; rw [e3]; rfl
theorem f3 : fnd es2 2 nA = 2 := by decide +kernel
theorem l1 : es1.length = 1 := by decide +kernel
theorem l2 : es2.length = 2 := by decide +kernel
theorem eZ : enterE [] none_ 5 nZ 0 = 0 := by decide +kernel
theorem nZ1 : enterN [] none_ 5 nZ 0 = 1 := by decide +kernel
theorem sZ : (enterS [] none_ 5 nZ 0).length = 1 := by decide +kernel
theorem enterS_len (es : List S44) (cl : Nat → Bool) (f : Int) (nm : ByteArray) (sz : Int) (h : es.length ≤ 64) : (enterS es cl f nm sz).length ≤ 64 := by
  unfold enterS
  split
  · rename_i he
    unfold enterE at he
    repeat (split at he; · cases he)
    rw [List.length_append, List.length_singleton]; omega
  · exact h
theorem blw {w0 w w' : World} (h : Below w0.heap.size w0 w) (k : Below w0.heap.size w w') : Below w0.heap.size w0 w' := h.trans k
set_option maxHeartbeats 2000000 in
set_option maxRecDepth 100000 in
theorem awake_calls (w : World) : Calls Try.prog 8 #[] w fun e w' => e = .returned (.bool true) ∧ Below w.heap.size w w' := by
  have HN := Aside0.mk (new_calls w w.heap.size (Nat.le_refl _))
  have h1 : ∀ w1 g v, IsB w1 w.heap.size g v [] none_ → Calls Try.prog 11 #[.pointer (some ⟨g, 0, none⟩), .int .i64 2, .string nUI, .int .i64 10] w1 fun e w' => e = .returned (.tuple #[.int .i64 1, .int .i64 0]) ∧ Turned w1 w' w.heap.size g v es1 none_ := fun w1 g v hB => by
    have := enter_calls w1 _ g v [] none_ 2 nUI 10 hB (by simp)
    rw [n1, e1] at this; exact this
  have h2 : ∀ w1 g v, IsB w1 w.heap.size g v es1 none_ → Calls Try.prog 11 #[.pointer (some ⟨g, 0, none⟩), .int .i64 2, .string nA, .int .i64 0] w1 fun e w' => e = .returned (.tuple #[.int .i64 2, .int .i64 0]) ∧ Turned w1 w' w.heap.size g v es2 none_ := fun w1 g v hB => by
    have := enter_calls w1 _ g v es1 none_ 2 nA 0 hB (by rw [l1]; decide)
    rw [n2, e2] at this; exact this
  have h3 : ∀ w1 g v, IsB w1 w.heap.size g v es2 none_ → Calls Try.prog 11 #[.pointer (some ⟨g, 0, none⟩), .int .i64 2, .string nA, .int .i64 7] w1 fun e w' => e = .returned (.tuple #[.int .i64 0, .int .i64 11]) ∧ Turned w1 w' w.heap.size g v es2 none_ := fun w1 g v hB => by
    have := enter_calls w1 _ g v es2 none_ 2 nA 7 hB (by rw [l2]; decide)
    rw [n3, e3, s3] at this; exact this
  have h4 : ∀ w1 g v, IsB w1 w.heap.size g v es2 none_ → Calls Try.prog 22 #[.pointer (some ⟨g, 0, none⟩), .int .i64 2, .string nA] w1 fun e w' => e = .returned (.int .i64 2) ∧ Below w1.heap.size w1 w' := fun w1 g v hB => by
    have := find_calls w1 _ g v es2 none_ 2 nA hB (by rw [l2]; decide)
    rw [f3] at this; exact this
  have h5 : ∀ w1 g v, IsB w1 w.heap.size g v es2 none_ → Calls Try.prog 12 #[.pointer (some ⟨g, 0, none⟩), .int .i64 2] w1 fun e w' => e = .returned (.bool true) ∧ w1 = w' := fun w1 g v hB => open_calls w1 _ g v es2 none_ 2 hB
  have H1 := Aside0.mk h1; have H2 := Aside0.mk h2; have H3 := Aside0.mk h3; have H4 := Aside0.mk h4; have H5 := Aside0.mk h5
  clear h1 h2 h3 h4 h5
  go_enter Try.func8, Try.ntmps8
  go_wp2_with (first | (go_at_call 12; refine (H5.out _ _ _ HB5.out).mono ?_; rintro e w6 ⟨rfl, rfl⟩) | (go_at_call 22; refine (H4.out _ _ _ HB4.out).mono ?_; rintro e w5 ⟨rfl, hb⟩; have HB5 := Aside0.mk (HB4.out.below hb); have HW5 := Aside0.mk (below_step HW4.out hb); clear hb) | (go_at_call 11; refine (H3.out _ _ _ HB3.out).mono ?_; rintro e w4 ⟨rfl, v4, hb, hw, _, _⟩; have HB4 := Aside0.mk hb; have HW4 := Aside0.mk (blw HW3.out hw); clear hb hw) | (go_at_call 11; refine (H2.out _ _ _ HB2.out).mono ?_; rintro e w3 ⟨rfl, v3, hb, hw, _, _⟩; have HB3 := Aside0.mk hb; have HW3 := Aside0.mk (blw HW2.out hw); clear hb hw) | (go_at_call 11; refine (H1.out _ _ _ HB1.out).mono ?_; rintro e w2 ⟨rfl, v2, hb, hw, _, _⟩; have HB2 := Aside0.mk hb; have HW2 := Aside0.mk (blw HW1.out hw); clear hb hw) | (go_at_call 9; refine HN.out.mono ?_; rintro e w1 ⟨g, rfl, hb, hw, hg⟩; have HB1 := Aside0.mk hb; have HW1 := Aside0.mk hw; clear hb hw hg))
  go_ret
  exact ⟨rfl, HW5.out⟩
end Go.Proofs.Ythadfkpibnhcgaa.B
