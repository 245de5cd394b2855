/- RollClosed: plain facts, and the walk of same. Conditions: those in the theorems. -/
import Derived.Test.YthadfkpibnhcgaaE0
set_option linter.unusedVariables false
set_option linter.unusedSimpArgs false
namespace Go.Proofs.Ythadfkpibnhcgaa.B
open Go.RowKit Go.Proofs.Ythadfkpibnhcgaa.X Go.Proofs.YthadfkpibnhcgaaW.PrintWords Go.Proofs.YthadfkpibnhcgaaW.PrintLast Go.Proofs.YthadfkpibnhcgaaW.PrintMore

theorem same_ev (l : List S44) (hl : l.length ≤ 64) : Ev (fun k => stratumlaw01_same.f k l l) true := by
  have key : ∀ (d i : Nat), l.length - i ≤ d → i ≤ l.length → Ev (fun k => stratumlaw01_same.l0 k l l (i : Int)) true := by
    intro d
    induction d with
    | zero =>
      intro i hd hi
      refine Ev.step (fun k => by simp only [stratumlaw01_same.l0]; rfl) ?_
      simp only [if_neg (show ¬ (i : Int) < (l.length : Int) by omega)]; exact Ev.now _
    | succ d ih =>
      intro i hd hi
      by_cases hlt : i < l.length
      · have k1 : (i : Int) < (l.length : Int) := by omega
        have k2 : (0 : Int) ≤ (i : Int) := by omega
        have ihn := ih (i + 1) (by omega) (by omega)
        have W : Aside0 (wrap64 ((i : Int) + 1) = ((i + 1 : Nat) : Int)) := ⟨next1 i l.length (by omega) hlt⟩
        refine Ev.step (fun k => by simp only [stratumlaw01_same.l0]; rfl) ?_
        simp only [if_pos k1, if_pos k2, beq_self_eq_true, Bool.not_true, Bool.or_false, Bool.false_eq_true, if_false, W.out]
        exact ihn
      · exact ih i (by omega) hi
  have := key l.length 0 (by omega) (by omega)
  refine Ev.congr (fun k => ?_) this
  unfold stratumlaw01_same.f
  rw [if_pos rfl]; rfl
/-- same of two rows that hold the same. -/
theorem same_calls (w : World) (A A' : Option Addr) (c c' : Nat) (l : List S44) (hl : l.length ≤ 64) (h : Kd.C k44 w A l.length l) (hc : l.length ≤ c) (h' : Kd.C k44 w A' l.length l) (hc' : l.length ≤ c') :
    Calls Try.prog 18 #[.slice A l.length c, .slice A' l.length c'] w fun e w' => e = .returned (.bool true) ∧ Below w.heap.size w w' := by
  obtain ⟨k, hk⟩ := (same_ev l hl).rounds
  refine (stratumlaw01_same.calls k A c l A' c' l true w h hc h' hc' hk).mono ?_
  rintro e w' ⟨rfl, ⟨n, rfl⟩⟩
  exact ⟨rfl, pw_below_drewN (Below.refl _ _) n⟩
/-- The families of entries are families. -/
def Fam (es : List S44) : Prop := ∀ e ∈ es, isF e.f0 = true
theorem Fam.nil : Fam [] := fun e h => by simp at h
theorem Fam.enter {es : List S44} (h : Fam es) (cl : Nat → Bool) (f : Int) (nm : ByteArray) (sz : Int) : Fam (enterS es cl f nm sz) := by
  unfold enterS
  split
  · rename_i he
    intro e hm
    rcases List.mem_append.1 hm with hm | hm
    · exact h e hm
    · rw [List.mem_singleton.1 hm]; exact (enter_ok he).1
  · exact h
theorem Fam.none_cnt {es : List S44} (h : Fam es) {f : Int} (hf : isF f = false) : cnt es f = 0 := by
  unfold cnt
  rw [List.length_eq_zero_iff, List.filter_eq_nil_iff]
  intro e he hc
  have := h e he
  rw [beq_iff_eq] at hc
  rw [hc, hf] at this; cases this
theorem Fam.none_fnd {es : List S44} (h : Fam es) {f : Int} (hf : isF f = false) (nm : ByteArray) : fnd es f nm = 0 := by
  induction es with
  | nil => rfl
  | cons e t ih =>
    rw [fnd, if_neg]
    · exact ih fun e he => h e (List.mem_cons_of_mem _ he)
    · rintro ⟨h1, _⟩
      have := h e (List.mem_cons_self ..)
      rw [h1, hf] at this; cases this
theorem Fam.none_att {es : List S44} (h : Fam es) {f : Int} (hf : isF f = false) (n : Int) : att es f n = none :=
  att_none fun e he ⟨h1, _⟩ => by have := h e he; rw [h1, hf] at this; cases this
/-- The family closed twice. -/
def cl2 (cl : Nat → Bool) (f : Int) : Nat → Bool := cloF (cloF cl f) f
theorem cl2_self (cl : Nat → Bool) {f : Int} (hf : isF f = true) : cl2 cl f f.toNat = true := by
  unfold cl2 cloF clo; rw [hf]; simp
/-- What Enter answers behind it. -/
theorem closed_E {es : List S44} {cl : Nat → Bool} {f : Int} {nm : ByteArray} {sz : Int} : (enterE es (cl2 cl f) f nm sz = 1 ∨ (enterE es (cl2 cl f) f nm sz = 10 ∧ isF f = true)) := by
  unfold enterE
  cases hf : isF f with
  | false => rw [if_pos rfl]; exact .inl rfl
  | true =>
    rw [if_neg (by decide)]
    split
    · exact .inl rfl
    split
    · exact .inl rfl
    rw [if_pos (cl2_self cl hf)]; exact .inr ⟨rfl, rfl⟩
theorem closed_Z {es : List S44} {cl : Nat → Bool} {f : Int} : enterE es (cl2 cl f) f nZ 0 = if isF f then 10 else 1 := by
  unfold enterE
  cases hf : isF f with
  | false => rw [if_pos rfl]; rfl
  | true =>
    rw [if_neg (by decide), if_neg (by rw [show goodN nZ = true by decide +kernel]; decide), if_neg (by decide), if_pos (cl2_self cl hf)]; rfl
theorem open2 (cl : Nat → Bool) (f : Int) (k : Nat) : (isF (k : Int) && !(cl2 cl f) ((k : Nat) : Int).toNat) = ((isF (k : Int) && !cl ((k : Nat) : Int).toNat) && ((k : Int) != f)) := by
  rw [Int.toNat_natCast]
  unfold cl2 cloF
  cases hf : isF f with
  | false =>
    have : isF (k : Int) = true → ((k : Int) != f) = true := by
      intro h; rw [bne_iff_ne]; intro e; rw [e, hf] at h; cases h
    simp only [Bool.false_eq_true, if_false]
    cases hk : isF (k : Int) with
    | false => rfl
    | true => rw [this hk, Bool.and_true]
  | true =>
    have hr := of_decide_eq_true hf
    simp only [if_true]
    unfold clo
    by_cases hk : k = f.toNat
    · have : ((k : Int) != f) = false := by rw [bne_eq_false_iff_eq]; omega
      rw [this, if_pos hk, Bool.and_false]; simp
    · have : ((k : Int) != f) = true := by rw [bne_iff_ne]; omega
      rw [this, if_neg hk, Bool.and_true, if_neg hk]
/-- A row of entries by itself: what moves it is only what writes its own block. -/
def Row (w : World) (base : Nat) (u : Value) (es : List S44) : Prop := Kd.R k44 44 w base (fun k => u.ownBlock = some k) u es
theorem Row.of {w : World} {base : Nat} {ok : Nat → Prop} {u : Value} {es : List S44} (h : Kd.R k44 44 w base ok u es) : Row w base u es :=
  ⟨fun k hk => hk, h.2.imp_ fun p c hp => by obtain rfl := k44_openM hp; exact k44_mkM _ _ _ p⟩
theorem Row.keep {w w' : World} {base g : Nat} {u : Value} {es : List S44} {row : Option Nat} (h : Row w base u es) (k : KeepBut w w' g row) (hk : ∀ j, u.ownBlock = some j → j ≠ g ∧ some j ≠ row) : Row w' base u es :=
  Kd.R_step h fun j hj hl => k.2 j hl (hk j hj).1 (hk j hj).2
theorem Row.below {w w' : World} {base : Nat} {u : Value} {es : List S44} (h : Row w base u es) (k : Below w.heap.size w w') : Row w' base u es := Kd.R_below h k
theorem Row.lt {w : World} {base : Nat} {u : Value} {es : List S44} (h : Row w base u es) (j : Nat) (hj : u.ownBlock = some j) : base ≤ j ∧ j < w.heap.size := by
  obtain ⟨inner, ho⟩ := Kd.R_own h
  exact ⟨own_base ho j hj, own_lt ho j hj⟩
theorem Row.ne_blk {w : World} {base g : Nat} {u : Value} {es : List S44} {cs : Array Value} {t : TypeId} (h : Row w base u es) (hb : w.heap[g]? = some (.cells cs t (0, 0))) (ht : 44 ≠ t) (j : Nat) (hj : u.ownBlock = some j) : j ≠ g := fun e => by
  have := Kd.R_ne h hb ht; rw [hj, e] at this; exact this rfl
/-- A row that was made behind the book's. -/
theorem Row.apart {w : World} {base b0 g : Nat} {u v : Value} {es es' : List S44} {cl : Nat → Bool} (h : Row w b0 u es) (hB : IsB w base g v es' cl) (hv : ∀ j, v.ownBlock = some j → j < b0) : ∀ j, u.ownBlock = some j → j ≠ g ∧ some j ≠ v.ownBlock := fun j hj =>
  ⟨h.ne_blk hB.blk (by decide) j hj, fun e => by have := hv j e.symm; have := (h.lt j hj).1; omega⟩
/-- Seven answers. -/
def b7 (p : Nat → Bool) : Array Value := #[.bool (p 0), .bool (p 1), .bool (p 2), .bool (p 3), .bool (p 4), .bool (p 5), .bool (p 6)]
theorem b7_at (p : Nat → Bool) (n : Nat) (h : n < 7) : (b7 p)[n]? = some (.bool (p n)) := by
  have : n = 0 ∨ n = 1 ∨ n = 2 ∨ n = 3 ∨ n = 4 ∨ n = 5 ∨ n = 6 := by omega
  rcases this with rfl | rfl | rfl | rfl | rfl | rfl | rfl <;> rfl
theorem b7_set (p : Nat → Bool) (n : Nat) (x : Bool) (h : n < 7) : (b7 p).setIfInBounds n (.bool x) = b7 (fun k => if k = n then x else p k) := by
  have : n = 0 ∨ n = 1 ∨ n = 2 ∨ n = 3 ∨ n = 4 ∨ n = 5 ∨ n = 6 := by omega
  rcases this with rfl | rfl | rfl | rfl | rfl | rfl | rfl <;> rfl
def OpnAt (w : World) (b : Nat) (p : Nat → Bool) : Prop := w.heap[b]? = some (.cells (b7 p) 51 (0, 0))
theorem OpnAt.below {w w' : World} {b : Nat} {p : Nat → Bool} (h : OpnAt w b p) (k : Below w.heap.size w w') : OpnAt w' b p := blk_below h k
theorem OpnAt.keep {w w' : World} {b : Nat} {p : Nat → Bool} (h : OpnAt w b p) {base g : Nat} {v : Value} {es : List S44} {cl : Nat → Bool} (hB : IsB w base g v es cl) {row : Option Nat} (hr : row = none ∨ row = v.ownBlock) (k : KeepBut w w' g row) : OpnAt w' b p :=
  k.blk h (blk_ne h hB.blk (by decide)) (by rcases hr with rfl | rfl; · simp
                                            · exact Kd.R_ne hB.row h (by decide))
theorem OpnAt.cell {w : World} {b : Nat} {p : Nat → Bool} (h : OpnAt w b p) (n : Nat) (hn : n < 7) : w.cell? ⟨b, n, none⟩ = some (.bool (p n)) := (blk_cell h n).trans (b7_at p n hn)
/-- One entry by itself, at block b. -/
def EntAt (w : World) (b : Nat) (a0 a1 : Int) (a2 : ByteArray) (a3 : Int) : Prop := w.heap[b]? = some (.cells #[.int .i64 a0, .int .i64 a1, .string a2, .int .i64 a3] 44 (0, 0))
theorem EntAt.below {w w' : World} {b : Nat} {a0 a1 a3 : Int} {a2 : ByteArray} (h : EntAt w b a0 a1 a2 a3) (k : Below w.heap.size w w') : EntAt w' b a0 a1 a2 a3 := blk_below h k
theorem EntAt.keep {w w' : World} {b : Nat} {a0 a1 a3 : Int} {a2 : ByteArray} (h : EntAt w b a0 a1 a2 a3) {base g : Nat} {v : Value} {es : List S44} {cl : Nat → Bool} (hB : IsB w base g v es cl) {row : Option Nat} (hr : some b ≠ row) (k : KeepBut w w' g row) : EntAt w' b a0 a1 a2 a3 :=
  k.blk h (blk_ne h hB.blk (by decide)) hr
theorem at_form (es : List S44) (f n : Int) (hF : Fam es) : ∃ a0 a1 a2 a3 ok, atOut (att es f n) = .tuple #[.agg #[.int .i64 a0, .int .i64 a1, .string a2, .int .i64 a3], .bool ok] ∧ (isF f = false → ok = false) := by
  cases h : att es f n with
  | none => exact ⟨0, 0, ⟨#[]⟩, 0, false, rfl, fun _ => rfl⟩
  | some x => exact ⟨x.f0, x.f1, x.f2, x.f3, true, rfl, fun hf => by rw [hF.none_att hf] at h; cases h⟩
end Go.Proofs.Ythadfkpibnhcgaa.B
