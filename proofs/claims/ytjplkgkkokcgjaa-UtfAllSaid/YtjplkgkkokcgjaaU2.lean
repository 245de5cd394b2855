/- Mend's walk: a builder that is written piece by piece. Condition: the mended text is at most 2^47 bytes. -/
import Derived.Test.YtjplkgkkokcgjaaU1
import Derived.Test.YtjplkgkkokcgjaaB
set_option linter.unusedVariables false
set_option linter.unusedSimpArgs false
namespace Go.Proofs.Ytjplkgkkokcgjaa.U
open Go.RowKit Go.Proofs.YtjplkgkkokcgjaaW.PrintWords Go.Proofs.YtjplkgkkokcgjaaW.PrintLast Go.Proofs.YtjplkgkkokcgjaaW.PrintMore

theorem builder_below {T e B b : Nat} {bs : List Value} {w w' : World} (h : Lib.IsBuilder T e B b bs w) (hb : Below w.heap.size w w') : Lib.IsBuilder T e B b bs w' := by
  have key : ∀ p, Lib.BuilderAt T e B b p bs w → Lib.BuilderAt T e B b p bs w' := by
    intro p hp
    have hlt := hp.lt
    obtain ⟨h1, v, h2, h3, h4⟩ := hp
    exact ⟨h1, v, (hb.block _ hlt).trans h2, pw_own_below h3 hb, h4⟩
  rcases h with h | h
  · exact .inl (key _ h)
  · exact .inr (key _ h)
theorem fix1_len (l : List UInt8) (h : l ≠ []) : (fix1 l).length ≤ 3 * adv l := by
  cases hd : dec l with
  | none => rw [fix1_none hd, adv_none hd]; decide
  | some p => obtain ⟨c, n⟩ := p; rw [fix1_some hd, adv_some hd, List.length_take]; omega
theorem unext_some {l : List UInt8} {c n : Nat} (h : dec l = some (c, n)) : unext l = ((c : Int), (n : Int)) := by
  cases l with
  | nil => simp [dec] at h
  | cons a r => unfold unext; simp only [h]
theorem unext_none {l : List UInt8} (h0 : l ≠ []) (h : dec l = none) : unext l = (-1, 1) := by
  cases l with
  | nil => exact absurd rfl h0
  | cons a r => unfold unext; simp only [h]
def strLen : Value → Nat
  | .string s => s.size
  | _ => 0
set_option maxHeartbeats 2000000 in
set_option maxRecDepth 100000 in
theorem mend_calls (s : ByteArray) (w : World) (hs : s.size ≤ 35184372088832) : Calls Try.prog 19 #[.string s] w fun e w' => e = .returned (.string ⟨(umend s.data.toList).toArray⟩) ∧ Below w.heap.size w w' := by
  have h0 : Lib.IsBuilder 42 5 w.heap.size w.heap.size (Lib.byteCells []) (w.alloc (.cells #[.pointer none, .slice none 0 0] 42)) := Lib.fresh_isBuilder 42 5 w
  have b0 : Below w.heap.size w (w.alloc (.cells #[.pointer none, .slice none 0 0] 42)) := (Below.refl _ w).alloc (Nat.le_refl _) _
  go_enter Try.func19, Try.ntmps19
  go_wp2
  go_loopw [0] (fun tv wr => ∃ (t : ByteArray) (acc : List UInt8), tv = .string t ∧ acc.length + 3 * t.size ≤ 3 * s.size ∧ Lib.IsBuilder 42 5 w.heap.size w.heap.size (Lib.byteCells acc) wr ∧ Below w.heap.size w wr ∧ acc ++ umend t.data.toList = umend s.data.toList)
    (fun tv _ => strLen tv)
  case atStart => exact ⟨s, [], rfl, by simp, h0, b0, rfl⟩
  case round =>
    obtain ⟨t, acc, rfl, hl, hI, hB, hE⟩ := hrel
    have HE := Aside0.mk hE
    have hsize := hB.size
    clear hE h0 b0
    by_cases hz : t.toList = ([] : List UInt8)
    · have c2b1 : (t.toList != ([] : List UInt8)) = false := bne_eq_false_iff_eq.mpr hz
      have c2b2 : t.toList.isEmpty = true := by rw [hz]; rfl
      rw [toList_eq] at hz
      have hE := HE.out
      rw [hz, umend_nil, List.append_nil] at hE
      subst hE
      go_wp2_with (go_at_call 26; refine (Try.Builder_String_any w.heap.size w.heap.size _ _ hI hsize).mono ?_)
      rintro e W1 ⟨rfl, b1⟩
      go_wp2
      go_ret
      exact ⟨rfl, hB.trans b1⟩
    · have c2b1 : (t.toList != ([] : List UInt8)) = true := bne_iff_ne.mpr hz
      have c2b2 : t.toList.isEmpty = false := by cases hq : t.toList with | nil => exact absurd hq hz | cons => rfl
      rw [toList_eq] at hz
      have hz2 : t.data.toList ≠ [] := hz
      have ha1 := adv_pos (l := t.data.toList)
      have ha2 := adv_le hz
      have hsz := size_len t
      rw [← hsz] at ha2
      have hst := umend_step hz
      have hfl := fix1_len _ hz
      have hdrop : (t.extract (adv t.data.toList) t.size).data.toList = t.data.toList.drop (adv t.data.toList) := by
        rw [ext_list, hsz]; exact List.take_of_length_le (by rw [List.length_drop]; omega)
      have hdsz : (t.extract (adv t.data.toList) t.size).size = t.size - adv t.data.toList := by rw [ByteArray.size_extract]; omega
      cases hd : dec t.data.toList with
      | none =>
        have hu := unext_none hz hd
        rw [adv_none hd] at ha1 ha2 hst hdrop hdsz hfl
        rw [fix1_none hd] at hst hfl
        have hn := Aside0.mk (next_calls t wr)
        rw [hu] at hn
        have hsl : ∀ wx, (Instr.slice 9 (.string t) (some (.int .i64 1)) none none).run Try.prog wx = .ok (.string (t.extract 1 t.size)) wx := fun wx => run_slice_string_l (ht := Try.underlying9) wx _ t .i64 1 (by omega) (by omega)
        have HS := Aside0.mk hst; have HD := Aside0.mk hdrop; have HZ := Aside0.mk hdsz
        clear hst hdrop hdsz
        go_wp2_with (go_at_call 11; refine hn.out.mono ?_)
        rintro e W1 rfl hb1
        have hI1 := builder_below hI hb1
        have hB1 := hB.trans (hb1.mono hsize)
        go_wp2_with (go_at_call 25; refine (B.writeString w.heap.size w.heap.size _ ⟨#[239, 191, 189]⟩ _ hI1 (by rw [Lib.byteCells_length]; show acc.length + 3 ≤ _; omega) hB1.size).mono ?_)
        rintro e W2 ⟨rfl, hI2, hb2⟩
        have e1 : (1 : Int) ≤ (t.size : Int) := by omega
        have e2 : 1 ≤ t.size := by omega
        have e3 : 0 < t.size := by omega
        have e4 := eq_true e1
        have HI2 := Aside0.mk hI2
        have HB2 := Aside0.mk (hB1.trans hb2)
        have HL := Aside0.mk hl
        have HF := Aside0.mk hfl
        clear hI2 hI hI1 hb1 hb2 hB hB1 hs hl hfl hsz hn hd hu hsize
        go_wp2
        refine ⟨⟨t.extract 1 t.size, acc ++ fffd, rfl, ?_, ?_, HB2.out, ?_⟩, ?_⟩
        · have hl := HL.out; have hfl := HF.out; rw [HZ.out, List.length_append]; show acc.length + 3 + _ ≤ _; omega
        · rw [Lib.byteCells_append]; exact HI2.out
        · rw [HD.out, List.append_assoc, ← HS.out]; exact HE.out
        · simp only [strLen, HZ.out]; omega
      | some p =>
        obtain ⟨c, n⟩ := p
        have hu := unext_some hd
        rw [adv_some hd] at ha1 ha2 hst hdrop hdsz hfl
        rw [fix1_some hd] at hst hfl
        have hn := Aside0.mk (next_calls t wr)
        rw [hu] at hn
        have hcn : (decide ((c : Int) < 0)) = false := decide_eq_false (by omega)
        have htake : (t.extract 0 n).data.toList = t.data.toList.take n := by rw [ext_list]; simp
        have htsz : (t.extract 0 n).size = n := by rw [ByteArray.size_extract]; omega
        have hsl : ∀ wx, (Instr.slice 9 (.string t) (some (.int .i64 (n : Int))) none none).run Try.prog wx = .ok (.string (t.extract n t.size)) wx := fun wx => run_slice_string_l (ht := Try.underlying9) wx _ t .i64 (n : Int) (by omega) (by omega)
        have hsh : ∀ wx, (Instr.slice 9 (.string t) none (some (.int .i64 (n : Int))) none).run Try.prog wx = .ok (.string (t.extract 0 n)) wx := fun wx => run_slice_string_h (ht := Try.underlying9) wx _ t .i64 (n : Int) (by omega) (by omega)
        have HS := Aside0.mk hst; have HD := Aside0.mk hdrop; have HZ := Aside0.mk hdsz
        clear hst hdrop hdsz
        go_wp2_with (go_at_call 11; refine hn.out.mono ?_)
        rintro e W1 rfl hb1
        have hI1 := builder_below hI hb1
        have hB1 := hB.trans (hb1.mono hsize)
        go_wp2_with (go_at_call 25; refine (B.writeString w.heap.size w.heap.size _ (t.extract 0 n) _ hI1 (by rw [Lib.byteCells_length, htsz]; omega) hB1.size).mono ?_)
        rintro e W2 ⟨rfl, hI2, hb2⟩
        have e1 : (n : Int) ≤ (t.size : Int) := by omega
        have e2 : n ≤ t.size := by omega
        have e4 := eq_true e1
        have e5 := eq_true e2
        have HI2 := Aside0.mk hI2
        have HB2 := Aside0.mk (hB1.trans hb2)
        have HL := Aside0.mk hl
        have HF := Aside0.mk hfl
        clear hI2 hI hI1 hb1 hb2 hB hB1 hs hl hfl hsz hn hd hu hsize
        go_wp2
        refine ⟨⟨t.extract n t.size, acc ++ t.data.toList.take n, rfl, ?_, ?_, HB2.out, ?_⟩, ?_⟩
        · have hl := HL.out; have hfl := HF.out; rw [HZ.out, List.length_append, List.length_take]; omega
        · rw [Lib.byteCells_append, ← htake]; exact HI2.out
        · rw [HD.out, List.append_assoc, ← HS.out]; exact HE.out
        · simp only [strLen, HZ.out]; omega
end Go.Proofs.Ytjplkgkkokcgjaa.U
