/- glue's walk: a builder that is written piece by piece, out of a slice that came in. Condition: at most 2^47 bytes. -/
import Derived.Test.YthgkemkcepkkcaaB
import Derived.Test.YthgkemkcepkkcaaWWords
import Derived.Test.YthgkemkcepkkcaaWLast
import Derived.Test.YthgkemkcepkkcaaWMore
import Derived.Test.YthgkemkcepkkcaaM
import Derived.BigCall
set_option linter.unusedVariables false
set_option linter.unusedSimpArgs false
namespace Go.Proofs.Ythgkemkcepkkcaa.G
open Go.RowKit Go.Proofs.YthgkemkcepkkcaaW.PrintWords Go.Proofs.YthgkemkcepkkcaaW.PrintLast Go.Proofs.YthgkemkcepkkcaaW.PrintMore

/-- All pieces, one behind the other. -/
def glue (l : List ByteArray) : List UInt8 := (l.map fun s => s.data.toList).flatten
theorem glue_nil : glue [] = [] := rfl
theorem glue_cons (s : ByteArray) (l : List ByteArray) : glue (s :: l) = s.data.toList ++ glue l := by simp [glue]
theorem glue_append (a b : List ByteArray) : glue (a ++ b) = glue a ++ glue b := by simp [glue]
theorem builder_below {T e B b : Nat} {bs : List Value} {w w' : World} (h : Lib.IsBuilder T e B b bs w) (hb : Below w.heap.size w w') : Lib.IsBuilder T e B b bs w' := by
  have key : ∀ p, Lib.BuilderAt T e B b p bs w → Lib.BuilderAt T e B b p bs w' := by
    intro p hp
    have hlt := hp.lt
    obtain ⟨h1, v, h2, h3, h4⟩ := hp
    exact ⟨h1, v, (hb.block _ hlt).trans h2, pw_own_below h3 hb, h4⟩
  rcases h with h | h
  · exact .inl (key _ h)
  · exact .inr (key _ h)
theorem below_C {α : Type} {d : Kd α} {w w' : World} {A : Option Addr} {n : Nat} {xs : List α} (h : Kd.C d w A n xs) (hb : Below w.heap.size w w') : Kd.C d w' A n xs := Kd.C_below h hb
def left : Value → Nat
  | .int _ i => i.toNat
  | _ => 0
set_option maxHeartbeats 2000000 in
set_option maxRecDepth 100000 in
theorem glue_calls (A0 : Option Addr) (c0 : Nat) (l0 : List ByteArray) (w : World) (hr0 : Kd.C Kd.string w A0 l0.length l0) (hs : (glue l0).length ≤ 140737488355328) (hn : l0.length ≤ 140737488355328) :
    Calls Try.prog 24 #[.slice A0 l0.length c0] w fun e w' => e = .returned (.string ⟨(glue l0).toArray⟩) ∧ Below w.heap.size w w' := by
  have h0 : Lib.IsBuilder 48 5 w.heap.size w.heap.size (Lib.byteCells []) (w.alloc (.cells #[.pointer none, .slice none 0 0] 48)) := Lib.fresh_isBuilder 48 5 w
  have b0 : Below w.heap.size w (w.alloc (.cells #[.pointer none, .slice none 0 0] 48)) := (Below.refl _ w).alloc (Nat.le_refl _) _
  have HR0 := Aside0.mk hr0
  have HS := Aside0.mk hs
  have HN := Aside0.mk hn
  have H0 := Aside0.mk h0
  have B0 := Aside0.mk b0
  clear hr0 hs h0 b0 hn
  go_enter Try.func24, Try.ntmps24
  go_wp2
  go_loopw [8] (fun tv wr => ∃ (i : Nat), tv = .int .i64 (i : Int) ∧ Aside0 (i ≤ l0.length) ∧ Aside0 (Lib.IsBuilder 48 5 w.heap.size w.heap.size (Lib.byteCells (glue (l0.take i))) wr) ∧ Aside0 (Below w.heap.size w wr))
    (fun tv _ => l0.length - left tv)
  case atStart => exact ⟨0, rfl, ⟨Nat.zero_le _⟩, H0, B0⟩
  case round =>
    obtain ⟨i, rfl, hi, HI, HB⟩ := hrel
    by_cases c : i < l0.length
    · have c1 : decide ((i : Int) < (l0.length : Int)) = true := decide_eq_true (by omega)
      have c2 : decide (i < l0.length) = true := decide_eq_true c
      obtain ⟨ad, rfl, hcell⟩ := Kd.at_string (Kd.C_below HR0.out HB.out) (i : Int) (by omega) (by omega)
      have hrd : rdOf ByteArray.empty l0 (i : Int) = l0[i] := by
        unfold rdOf; rw [Int.toNat_natCast, List.getD_eq_getElem?_getD, List.getElem?_eq_getElem c]; rfl
      rw [hrd, Int.toNat_natCast] at hcell
      obtain ⟨s, hsv⟩ : ∃ s, s = l0[i] := ⟨_, rfl⟩
      rw [← hsv] at hcell
      have htk : glue (l0.take (i + 1)) = glue (l0.take i) ++ s.data.toList := by
        rw [List.take_succ_eq_append_getElem c, glue_append, ← hsv, glue_cons, glue_nil, List.append_nil]
      have hle : (glue (l0.take (i + 1))).length ≤ (glue l0).length := by
        have := congrArg List.length (congrArg glue (List.take_append_drop (i + 1) l0))
        rw [glue_append, List.length_append] at this; omega
      have hs1 : s.size = s.data.toList.length := (data_length s).symm
      have HT := Aside0.mk htk
      have HL : Aside0 ((Lib.byteCells (glue (l0.take i))).length + s.size ≤ 140737488355328) := ⟨by rw [htk, List.length_append] at hle; rw [Lib.byteCells_length]; have := HS.out; omega⟩
      have HZ := Aside0.mk HB.out.size
      have hw1 : wrap64 ((i : Int) + 1) = ((i + 1 : Nat) : Int) := by unfold wrap64; have := HN.out; omega
      have HW := Aside0.mk hw1
      clear hrd hsv htk hle hs1 hw1
      go_wp2_with (go_at_call 28; refine (B.writeString w.heap.size w.heap.size _ s _ HI.out HL.out HZ.out).mono ?_)
      rintro e W2 ⟨rfl, hI2, hb2⟩
      have HI2 := Aside0.mk hI2
      have HB2 := Aside0.mk (HB.out.trans hb2)
      clear hI2 hb2 hcell HI HB HZ
      go_wp2
      rw [HW.out]
      refine ⟨⟨i + 1, rfl, ⟨by omega⟩, ⟨?_⟩, HB2⟩, ?_⟩
      · rw [HT.out, Lib.byteCells_append]; exact HI2.out
      · show l0.length - ((i + 1 : Nat) : Int).toNat < l0.length - ((i : Nat) : Int).toNat
        rw [Int.toNat_natCast, Int.toNat_natCast]; omega
    · have c1 : decide ((i : Int) < (l0.length : Int)) = false := decide_eq_false (by omega)
      have c2 : decide (i < l0.length) = false := decide_eq_false c
      obtain rfl : i = l0.length := by have := hi.out; omega
      have hI := HI.out
      rw [List.take_length] at hI
      have HI2 := Aside0.mk hI
      clear hI HI
      have HZ := Aside0.mk HB.out.size
      go_wp2_with (go_at_call 29; refine (Try.Builder_String_any w.heap.size w.heap.size _ _ HI2.out HZ.out).mono ?_)
      rintro e W1 ⟨rfl, b1⟩
      go_wp2
      go_ret
      exact ⟨rfl, HB.out.trans b1⟩
end Go.Proofs.Ythgkemkcepkkcaa.G
