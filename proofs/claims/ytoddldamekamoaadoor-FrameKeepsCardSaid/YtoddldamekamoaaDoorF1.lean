/- Plain facts about scans: what they take are frames; a scan of a cut; a byte turned. No condition but that bytes are bytes. -/
import Derived.Test.YtoddldamekamoaaDoorF0
set_option linter.unusedVariables false
set_option linter.unusedSimpArgs false
namespace Go.Proofs.YtoddldamekamoaaDoor.F
open Go.RowKit Go.Proofs.YtoddldamekamoaaDoor.X Go.Proofs.YtoddldamekamoaaDoor.G Go.Proofs.YtoddldamekamoaaDoorW.PrintWords Go.Proofs.YtoddldamekamoaaDoorW.PrintLast Go.Proofs.YtoddldamekamoaaDoorW.PrintMore

def frames (l : List (List Int)) : List Int := (l.map frameOf).flatten
theorem frames_cons (p : List Int) (l : List (List Int)) : frames (p :: l) = frameOf p ++ frames l := rfl
theorem frames_append (a b : List (List Int)) : frames (a ++ b) = frames a ++ frames b := by unfold frames; rw [List.map_append, List.flatten_append]
/-- What a scan answers. -/
structure Scanned (l : List Int) (r : List (List Int) × Nat) : Prop where
  le : r.2 ≤ l.length
  eq : frames r.1 = l.take r.2
  rest : scanW (l.drop r.2) = ([], 0)
  ok : ∀ p ∈ r.1, bytesOk p ∧ 1 ≤ p.length ∧ p.length ≤ 33554432
theorem scanned : ∀ (n : Nat) (l : List Int), l.length ≤ n → bytesOk l → Scanned l (scanW l) := by
  intro n
  induction n with
  | zero =>
    intro l h hb
    have hw : whole l = none := by
      cases h2 : whole l with
      | none => rfl
      | some m => have := whole_len h2; omega
    rw [scanW_none hw]
    exact ⟨Nat.zero_le _, by rw [List.take_zero]; rfl, by rw [List.drop_zero]; exact scanW_none hw, by simp⟩
  | succ n ih =>
    intro l h hb
    cases hw : whole l with
    | none =>
      rw [scanW_none hw]
      exact ⟨Nat.zero_le _, by rw [List.take_zero]; rfl, by rw [List.drop_zero]; exact scanW_none hw, by simp⟩
    | some m =>
      have hn := whole_len hw
      have hd : (l.drop (8 + m)).length = l.length - (8 + m) := List.length_drop
      obtain ⟨hi, hm⟩ := whole_inv hb hw
      have s := ih (l.drop (8 + m)) (by omega) (bytesOk_drop hb _)
      rw [scanW_some hw]
      have hpl : ((l.drop 8).take m).length = m := by rw [List.length_take_of_le]; rw [List.length_drop]; omega
      refine ⟨?_, ?_, ?_, ?_⟩
      · show (scanW (l.drop (8 + m))).2 + (8 + m) ≤ l.length
        have := s.le; omega
      · show frames (_ :: (scanW (l.drop (8 + m))).1) = l.take ((scanW (l.drop (8 + m))).2 + (8 + m))
        rw [frames_cons, s.eq, ← hi, Nat.add_comm (scanW (l.drop (8 + m))).2]
        exact List.take_add.symm
      · show scanW (l.drop ((scanW (l.drop (8 + m))).2 + (8 + m))) = ([], 0)
        rw [Nat.add_comm, ← List.drop_drop]; exact s.rest
      · intro p hp
        rcases List.mem_cons.1 hp with rfl | hp
        · exact ⟨bytesOk_take (bytesOk_drop hb _) _, by omega, by omega⟩
        · exact s.ok p hp
theorem count_le : ∀ l : List (List Int), l.length ≤ (frames l).length
  | [] => Nat.zero_le _
  | p :: t => by have := count_le t; rw [frames_cons, List.length_append, frameOf_len, List.length_cons]; omega

/-! ### a scan of a cut -/
def cut : List (List Int) → Nat → List (List Int) × Nat
  | [], _ => ([], 0)
  | p :: t, c => if 8 + p.length ≤ c then (p :: (cut t (c - (8 + p.length))).1, (cut t (c - (8 + p.length))).2 + (8 + p.length)) else ([], 0)
def upto (c : Nat) : Option Nat → Option Nat
  | none => none
  | some n => if 8 + n ≤ c then some n else none
theorem whole_short {l : List Int} (h : l.length < 8) : whole l = none := by unfold whole; rw [if_pos h]
theorem eight (l : List Int) (h : ¬ l.length < 8) : ∃ a0 a1 a2 a3 b0 b1 b2 b3 t, l = a0 :: a1 :: a2 :: a3 :: b0 :: b1 :: b2 :: b3 :: t := by
  rcases l with _ | ⟨c0, l⟩
  · simp at h
  rcases l with _ | ⟨c1, l⟩
  · simp at h
  rcases l with _ | ⟨c2, l⟩
  · simp at h
  rcases l with _ | ⟨c3, l⟩
  · simp at h
  rcases l with _ | ⟨c4, l⟩
  · simp at h
  rcases l with _ | ⟨c5, l⟩
  · simp at h
  rcases l with _ | ⟨c6, l⟩
  · simp at h
  rcases l with _ | ⟨c7, l⟩
  · simp at h
  exact ⟨_, _, _, _, _, _, _, _, _, rfl⟩
theorem whole_take (l : List Int) (c : Nat) : whole (l.take c) = upto c (whole l) := by
  by_cases h8 : l.length < 8
  · rw [whole_short h8, whole_short (by rw [List.length_take]; omega)]; rfl
  · by_cases hc : c < 8
    · rw [whole_short (by rw [List.length_take]; omega)]
      cases hw : whole l with
      | none => rfl
      | some n => show none = if 8 + n ≤ c then some n else none; rw [if_neg (by omega)]
    · obtain ⟨a0, a1, a2, a3, b0, b1, b2, b3, t, rfl⟩ := eight l h8
      · obtain ⟨d, rfl⟩ : ∃ d, c = d + 1 + 1 + 1 + 1 + 1 + 1 + 1 + 1 := ⟨c - 8, by omega⟩
        have tk : (a0 :: a1 :: a2 :: a3 :: b0 :: b1 :: b2 :: b3 :: t).take (d + 1 + 1 + 1 + 1 + 1 + 1 + 1 + 1) = a0 :: a1 :: a2 :: a3 :: b0 :: b1 :: b2 :: b3 :: t.take d := rfl
        have ht : (t.take d).length = min d t.length := List.length_take
        rw [tk]
        unfold whole
        have d4 : ∀ u : List Int, (a0 :: a1 :: a2 :: a3 :: b0 :: b1 :: b2 :: b3 :: u).drop 4 = b0 :: b1 :: b2 :: b3 :: u := fun _ => rfl
        have d8 : ∀ u : List Int, (a0 :: a1 :: a2 :: a3 :: b0 :: b1 :: b2 :: b3 :: u).drop 8 = u := fun _ => rfl
        have ln : ∀ u : List Int, (a0 :: a1 :: a2 :: a3 :: b0 :: b1 :: b2 :: b3 :: u).length = u.length + 8 := fun _ => rfl
        simp only [num_cons, d4, d8, ln]
        obtain ⟨N, hN⟩ : ∃ N, N = a0 + 256 * a1 + 65536 * a2 + 16777216 * a3 := ⟨_, rfl⟩
        rw [← hN]
        clear hN h8
        rw [if_neg (show ¬ (t.take d).length + 8 < 8 by omega), if_neg (show ¬ t.length + 8 < 8 by omega)]
        by_cases c1 : N < 1 ∨ 33554432 < N ∨ ((t.length + 8 : Nat) : Int) - 8 < N
        · rw [if_pos c1, if_pos (show N < 1 ∨ 33554432 < N ∨ (((t.take d).length + 8 : Nat) : Int) - 8 < N by omega)]; rfl
        · rw [if_neg c1]
          by_cases c2 : N.toNat ≤ d
          · rw [if_neg (show ¬ (N < 1 ∨ 33554432 < N ∨ (((t.take d).length + 8 : Nat) : Int) - 8 < N) by omega), List.take_take, Nat.min_eq_left c2]
            split
            · show some N.toNat = if 8 + N.toNat ≤ _ then some N.toNat else none
              rw [if_pos (by omega)]
            · rfl
          · rw [if_pos (show N < 1 ∨ 33554432 < N ∨ (((t.take d).length + 8 : Nat) : Int) - 8 < N by omega)]
            split
            · show none = if 8 + N.toNat ≤ _ then some N.toNat else none
              rw [if_neg (by omega)]
            · rfl
theorem scan_cut : ∀ (n : Nat) (l : List Int), l.length ≤ n → ∀ c : Nat, scanW (l.take c) = cut (scanW l).1 c := by
  intro n
  induction n with
  | zero =>
    intro l h c
    have hw : whole l = none := whole_short (by omega)
    rw [scanW_none hw, scanW_none (by rw [whole_take, hw]; rfl)]; rfl
  | succ n ih =>
    intro l h c
    cases hw : whole l with
    | none => rw [scanW_none hw, scanW_none (by rw [whole_take, hw]; rfl)]; rfl
    | some m =>
      have hn := whole_len hw
      have hd : (l.drop (8 + m)).length = l.length - (8 + m) := List.length_drop
      have hpl : ((l.drop 8).take m).length = m := by rw [List.length_take_of_le]; rw [List.length_drop]; omega
      rw [scanW_some hw]
      simp only [cut, hpl]
      by_cases cc : 8 + m ≤ c
      · rw [if_pos cc]
        have hw2 : whole (l.take c) = some m := by rw [whole_take, hw]; show (if 8 + m ≤ c then some m else none) = some m; rw [if_pos cc]
        have e1 : (l.take c).drop (8 + m) = (l.drop (8 + m)).take (c - (8 + m)) := by rw [List.drop_take]
        have e2 : ((l.take c).drop 8).take m = (l.drop 8).take m := by rw [List.drop_take, List.take_take, Nat.min_eq_left (by omega)]
        rw [scanW_some hw2, e1, e2, ih (l.drop (8 + m)) (by omega) (c - (8 + m))]
      · rw [if_neg cc, scanW_none]
        rw [whole_take, hw]; show (if 8 + m ≤ c then some m else none) = none; rw [if_neg cc]

/-! ### a byte that is turned -/
theorem digits {a b c d a2 b2 c2 d2 : Int} (ha : 0 ≤ a ∧ a < 256) (hb : 0 ≤ b ∧ b < 256) (hc : 0 ≤ c ∧ c < 256) (hd : 0 ≤ d ∧ d < 256) (ha2 : 0 ≤ a2 ∧ a2 < 256) (hb2 : 0 ≤ b2 ∧ b2 < 256) (hc2 : 0 ≤ c2 ∧ c2 < 256) (hd2 : 0 ≤ d2 ∧ d2 < 256)
    (h : a + 256 * b + 65536 * c + 16777216 * d = a2 + 256 * b2 + 65536 * c2 + 16777216 * d2) : a = a2 ∧ b = b2 ∧ c = c2 ∧ d = d2 := by omega
theorem crc_turn {a b : List Int} {y v : Int} (ha : bytesOk a) (hb : bytesOk b) (hy : 0 ≤ y ∧ y < 256) (hv : 0 ≤ v ∧ v < 256) (h : crcN (a ++ y :: b) = crcN (a ++ v :: b)) : y = v := by
  unfold crcN at h
  have h2 := C.xor_cancel h
  rw [List.map_append, List.map_append, List.map_cons, List.map_cons] at h2
  have ok : ∀ l : List Int, bytesOk l → ∀ e ∈ l.map Int.toNat, e < 256 := by
    intro l hl e he
    obtain ⟨x, hx, rfl⟩ := List.mem_map.1 he
    have := hl x hx; omega
  have := C.run_turn (x := 4294967295) (by omega) (ok a ha) (ok b hb) (show y.toNat < 256 by omega) (show v.toNat < 256 by omega) h2
  omega
theorem set_split {l : List Int} {j : Nat} (h : j < l.length) (v : Int) : ∃ a b, l = a ++ l[j] :: b ∧ l.set j v = a ++ v :: b ∧ a.length = j := by
  refine ⟨l.take j, l.drop (j + 1), ?_, ?_, List.length_take_of_le (by omega)⟩
  · rw [← List.drop_eq_getElem_cons h, List.take_append_drop]
  · rw [List.set_eq_take_append_cons_drop, if_pos h]
theorem whole_turn {p : List Int} (hp : bytesOk p) (h0 : 1 ≤ p.length) (h1 : p.length ≤ 33554432) {j : Nat} (h4 : 4 ≤ j) (hj : j < (frameOf p).length) {v : Int} (hv : 0 ≤ v ∧ v < 256) (hne : rd (frameOf p) (j : Int) ≠ v) : whole ((frameOf p).set j v) = none := by
  have hc := crc_lt hp
  rw [frameOf_len] at hj
  have q0 : ∀ n : Int, 0 ≤ n % 256 ∧ n % 256 < 256 := fun n => by omega
  obtain ⟨x0, hx0⟩ : ∃ x, x = (p.length : Int) % 256 := ⟨_, rfl⟩
  obtain ⟨x1, hx1⟩ : ∃ x, x = (p.length : Int) / 256 % 256 := ⟨_, rfl⟩
  obtain ⟨x2, hx2⟩ : ∃ x, x = (p.length : Int) / 65536 % 256 := ⟨_, rfl⟩
  obtain ⟨x3, hx3⟩ : ∃ x, x = (p.length : Int) / 16777216 % 256 := ⟨_, rfl⟩
  have hN : x0 + 256 * x1 + 65536 * x2 + 16777216 * x3 = (p.length : Int) := by omega
  obtain ⟨y0, hy0⟩ : ∃ x, x = ((crcN p : Nat) : Int) % 256 := ⟨_, rfl⟩
  obtain ⟨y1, hy1⟩ : ∃ x, x = ((crcN p : Nat) : Int) / 256 % 256 := ⟨_, rfl⟩
  obtain ⟨y2, hy2⟩ : ∃ x, x = ((crcN p : Nat) : Int) / 65536 % 256 := ⟨_, rfl⟩
  obtain ⟨y3, hy3⟩ : ∃ x, x = ((crcN p : Nat) : Int) / 16777216 % 256 := ⟨_, rfl⟩
  have hY : y0 + 256 * y1 + 65536 * y2 + 16777216 * y3 = ((crcN p : Nat) : Int) := by omega
  have r0 : 0 ≤ y0 ∧ y0 < 256 := by rw [hy0]; exact q0 _
  have r1 : 0 ≤ y1 ∧ y1 < 256 := by rw [hy1]; exact q0 _
  have r2 : 0 ≤ y2 ∧ y2 < 256 := by rw [hy2]; exact q0 _
  have r3 : 0 ≤ y3 ∧ y3 < 256 := by rw [hy3]; exact q0 _
  have ef : frameOf p = x0 :: x1 :: x2 :: x3 :: y0 :: y1 :: y2 :: y3 :: p := by unfold frameOf le4; rw [hx0, hx1, hx2, hx3, hy0, hy1, hy2, hy3]; rfl
  rw [ef] at hne ⊢
  clear hx0 hx1 hx2 hx3 hy0 hy1 hy2 hy3 ef q0
  have fin : ∀ (z0 z1 z2 z3 : Int) (u : List Int), u.length = p.length → z0 + 256 * z1 + 65536 * z2 + 16777216 * z3 ≠ ((crcN u : Nat) : Int) → whole (x0 :: x1 :: x2 :: x3 :: z0 :: z1 :: z2 :: z3 :: u) = none := by
    intro z0 z1 z2 z3 u hu hz
    unfold whole
    have d4 : (x0 :: x1 :: x2 :: x3 :: z0 :: z1 :: z2 :: z3 :: u).drop 4 = z0 :: z1 :: z2 :: z3 :: u := rfl
    have d8 : (x0 :: x1 :: x2 :: x3 :: z0 :: z1 :: z2 :: z3 :: u).drop 8 = u := rfl
    have ln : (x0 :: x1 :: x2 :: x3 :: z0 :: z1 :: z2 :: z3 :: u).length = u.length + 8 := rfl
    rw [d4, d8, ln, num_cons, num_cons, hN, if_neg (by omega), if_neg (by omega), Int.toNat_natCast, ← hu, List.take_length, if_neg hz]
  match j, h4 with
  | 4, _ => exact fin v y1 y2 y3 p rfl (fun e => hne (digits r0 r1 r2 r3 hv r1 r2 r3 (hY.trans e.symm)).1)
  | 5, _ => exact fin y0 v y2 y3 p rfl (fun e => hne (digits r0 r1 r2 r3 r0 hv r2 r3 (hY.trans e.symm)).2.1)
  | 6, _ => exact fin y0 y1 v y3 p rfl (fun e => hne (digits r0 r1 r2 r3 r0 r1 hv r3 (hY.trans e.symm)).2.2.1)
  | 7, _ => exact fin y0 y1 y2 v p rfl (fun e => hne (digits r0 r1 r2 r3 r0 r1 r2 hv (hY.trans e.symm)).2.2.2)
  | i + 8, _ =>
    have hi : i < p.length := by omega
    refine fin y0 y1 y2 y3 (p.set i v) List.length_set (fun e => ?_)
    rw [hY] at e
    obtain ⟨a, b, e1, e2, e3⟩ := set_split hi v
    have hcc : crcN p = crcN (p.set i v) := by omega
    rw [e2] at hcc
    have hpab : ∀ c ∈ a ++ p[i] :: b, 0 ≤ c ∧ c < 256 := by rw [← e1]; exact hp
    have hcc2 : crcN (a ++ p[i] :: b) = crcN (a ++ v :: b) := by rw [← e1]; exact hcc
    have := crc_turn (fun c hc => hpab c (by simp [hc])) (fun c hc => hpab c (by simp [hc])) (hpab p[i] (by simp)) hv hcc2
    refine hne ?_
    rw [← this]
    show rd _ ((i + 8 : Nat) : Int) = _
    unfold rd
    rw [Int.toNat_natCast, List.getD_eq_getElem?_getD]
    show (p[i]?).getD 0 = _
    rw [List.getElem?_eq_getElem hi]; rfl
end Go.Proofs.YtoddldamekamoaaDoor.F
