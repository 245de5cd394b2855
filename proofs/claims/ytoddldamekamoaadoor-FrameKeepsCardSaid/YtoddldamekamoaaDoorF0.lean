/- Plain facts about frames: what the printed functions compute, and what a scan takes. Conditions: lengths and that bytes are bytes. -/
import Derived.Test.YtoddldamekamoaaDoorX4
import Derived.OpenShut
set_option linter.unusedVariables false
set_option linter.unusedSimpArgs false
namespace Go.Proofs.YtoddldamekamoaaDoor.F
open Go.RowKit Go.Proofs.YtoddldamekamoaaDoor.X Go.Proofs.YtoddldamekamoaaDoor.G Go.Proofs.YtoddldamekamoaaDoorW.PrintWords Go.Proofs.YtoddldamekamoaaDoorW.PrintLast Go.Proofs.YtoddldamekamoaaDoorW.PrintMore

abbrev T : List Int := tableI
theorem sum_eq {l : List Int} (hb : bytesOk l) (hl : l.length ≤ 140737488355328) : frame_Sum.f l T = some ((crcN l : Nat) : Int) := by
  unfold frame_Sum.f; rw [if_pos ⟨rfl, hb, hl⟩]
def scanW (l : List Int) : List (List Int) × Nat := scan (l.length + 1) l
theorem scan_eq {l : List Int} (hb : bytesOk l) (hl : l.length ≤ 35184372088832) : frame_Scan.f l T = some ((scanW l).1, (((scanW l).2 : Nat) : Int)) := by
  unfold frame_Scan.f scanW; rw [if_pos ⟨rfl, hb, hl⟩]
def le4 (x : Int) : List Int := [x % 256, x / 256 % 256, x / 65536 % 256, x / 16777216 % 256]
def frameOf (p : List Int) : List Int := le4 (p.length : Int) ++ le4 ((crcN p : Nat) : Int) ++ p
theorem crc_lt {l : List Int} (hb : bytesOk l) : crcN l < 4294967296 := by
  unfold crcN
  refine Nat.xor_lt_two_pow (n := 32) (by omega) (C.run_lt _ (by omega) ?_)
  intro c hc
  obtain ⟨x, hx, rfl⟩ := List.mem_map.1 hc
  have := hb x hx
  omega
theorem frameOf_len (p : List Int) : (frameOf p).length = p.length + 8 := by unfold frameOf le4; simp
theorem le4_ok (x : Int) : bytesOk (le4 x) := by
  intro c hc
  simp only [le4, List.mem_cons, List.not_mem_nil, or_false] at hc
  rcases hc with rfl | rfl | rfl | rfl <;> omega
theorem bytesOk_append {a b : List Int} (ha : bytesOk a) (hb : bytesOk b) : bytesOk (a ++ b) := fun c hc => (List.mem_append.1 hc).elim (ha c) (hb c)
theorem frameOf_ok {p : List Int} (h : bytesOk p) : bytesOk (frameOf p) := bytesOk_append (bytesOk_append (le4_ok _) (le4_ok _)) h
theorem enc_empty : frame_Encode.f [] T = some ([], 1) := by unfold frame_Encode.f; rfl
theorem enc_eq {l : List Int} (hb : bytesOk l) (h0 : l ≠ []) (hl : l.length ≤ 33554432) : frame_Encode.f l T = some (frameOf l, 0) := by
  have hp : 0 < l.length := List.length_pos_iff.2 h0
  have hc := crc_lt hb
  have s := sum_eq hb (by omega)
  have g1 : ¬ (l.length : Int) = 0 := by omega
  have g2 : ¬ (l.length : Int) > 33554432 := by omega
  have e : (l.length : Int) % 4294967296 = (l.length : Int) := by omega
  have w : wrap64 (8 + (l.length : Int)) = 8 + (l.length : Int) := G.w64 (by omega) (by omega)
  have g3 : 0 ≤ 8 + (l.length : Int) := by omega
  have g4 : (8 + (l.length : Int)).toNat ≤ 281474976710656 := by omega
  have g6 : (List.replicate 0 (0 : Int)).length + [(l.length : Int) % 256, (l.length : Int) / 256 % 256, (l.length : Int) / 65536 % 256, (l.length : Int) / 16777216 % 256].length < 140737488355328 := by simp
  have p1 : frame_put.f (List.replicate 0 0) (l.length : Int) = some (le4 (l.length : Int)) := by
    unfold frame_put.f le4
    simp only [Option.bind_some]
    rw [if_pos (by simp)]; rfl
  have p2 : frame_put.f (le4 (l.length : Int)) ((crcN l : Nat) : Int) = some (le4 (l.length : Int) ++ le4 ((crcN l : Nat) : Int)) := by
    unfold frame_put.f
    simp only [Option.bind_some]
    rw [if_pos (by simp [le4])]; rfl
  have g5 : (le4 (l.length : Int) ++ le4 ((crcN l : Nat) : Int)).length + l.length < 140737488355328 := by simp [le4]; omega
  unfold frame_Encode.f
  rw [if_neg g1, if_neg g2, w, if_pos g3, if_pos g4, e, p1, s]
  simp only [Option.bind_some, p2]
  rw [if_pos g5]; rfl
theorem copied_eq {l : List Int} (hl : l.length < 140737488355328) : stratumlaw21_copied.f l = some l := by
  unfold stratumlaw21_copied.f
  simp only [Option.bind_some]
  rw [if_pos (by simpa using hl)]; rfl
theorem drop_rd {l : List Int} {i : Nat} (h : i < l.length) : l.drop i = rd l (i : Int) :: l.drop (i + 1) := by
  rw [List.drop_eq_getElem_cons h]; congr 1
  unfold rd; rw [Int.toNat_natCast, List.getD_eq_getElem?_getD, List.getElem?_eq_getElem h]; rfl
theorem same_ev (a b : List Int) (hl : a.length ≤ 4611686018427387904) : Ev (fun k => stratumlaw21_same.f k a b) (decide (a = b)) := by
  unfold stratumlaw21_same.f
  by_cases c : (a.length : Int) = (b.length : Int)
  · simp only [if_pos c]
    have hab : a.length = b.length := by omega
    have key : ∀ (d i : Nat), a.length - i ≤ d → i ≤ a.length → Ev (fun k => stratumlaw21_same.l0 k a b (i : Int)) (decide (a.drop i = b.drop i)) := by
      intro d
      induction d with
      | zero =>
        intro i hd hi
        obtain rfl : i = a.length := by omega
        refine Ev.step (fun k => by simp only [stratumlaw21_same.l0]; rfl) ?_
        simp only [Int.lt_irrefl, if_false]
        rw [List.drop_length, hab, List.drop_length]
        exact Ev.now _
      | succ d ih =>
        intro i hd hi
        by_cases hlt : i < a.length
        · have ihh := ih (i + 1) (by omega) (by omega)
          have g1 : (i : Int) < (a.length : Int) := by omega
          have g2 : (0 : Int) ≤ (i : Int) := by omega
          have g3 : (i : Int) < (b.length : Int) := by omega
          rw [drop_rd hlt, drop_rd (show i < b.length by omega)]
          have hw : wrap64 ((i : Int) + 1) = ((i + 1 : Nat) : Int) := by rw [G.w64 (by omega) (by omega)]; rfl
          refine Ev.step (fun k => by simp only [stratumlaw21_same.l0]; rfl) ?_
          simp only [if_pos g1, if_pos g2, if_pos g3, hw]
          by_cases e : rd a (i : Int) = rd b (i : Int)
          · simp only [if_pos e, List.cons.injEq, e, true_and]
            exact ihh
          · simp only [if_neg e, List.cons.injEq, e, false_and, decide_false]
            exact Ev.now _
        · exact ih i (by omega) hi
    have := key a.length 0 (by omega) (by omega)
    simpa using this
  · simp only [if_neg c]
    rw [decide_eq_false (fun e => c (by rw [e]))]
    exact Ev.now _
theorem drop_rd1 {l : List (List Int)} {i : Nat} (h : i < l.length) : l.drop i = rd_L1 l (i : Int) :: l.drop (i + 1) := by
  rw [List.drop_eq_getElem_cons h]; congr 1
  unfold rd_L1; rw [Int.toNat_natCast, List.getD_eq_getElem?_getD, List.getElem?_eq_getElem h]; rfl
theorem rd1_mem {l : List (List Int)} {i : Nat} (h : i < l.length) : rd_L1 l (i : Int) ∈ l := by
  unfold rd_L1; rw [Int.toNat_natCast, List.getD_eq_getElem?_getD, List.getElem?_eq_getElem h]; exact List.getElem_mem h
theorem alike_ev (a b : List (List Int)) (hl : a.length ≤ 4611686018427387904) (hr : ∀ r ∈ a, r.length ≤ 4611686018427387904) : Ev (fun k => stratumlaw21_alike.f k a b) (decide (a = b)) := by
  unfold stratumlaw21_alike.f
  by_cases c : (a.length : Int) = (b.length : Int)
  · simp only [if_pos c]
    have hab : a.length = b.length := by omega
    have key : ∀ (d i : Nat), a.length - i ≤ d → i ≤ a.length → Ev (fun k => stratumlaw21_alike.l0 k a b (i : Int)) (decide (a.drop i = b.drop i)) := by
      intro d
      induction d with
      | zero =>
        intro i hd hi
        obtain rfl : i = a.length := by omega
        refine Ev.step (fun k => by simp only [stratumlaw21_alike.l0]; rfl) ?_
        simp only [Int.lt_irrefl, if_false]
        rw [List.drop_length, hab, List.drop_length]
        exact Ev.now _
      | succ d ih =>
        intro i hd hi
        by_cases hlt : i < a.length
        · have ihh := ih (i + 1) (by omega) (by omega)
          have g1 : (i : Int) < (a.length : Int) := by omega
          have g2 : (0 : Int) ≤ (i : Int) := by omega
          have g3 : (i : Int) < (b.length : Int) := by omega
          have hs := same_ev (rd_L1 a (i : Int)) (rd_L1 b (i : Int)) (hr _ (rd1_mem hlt))
          rw [drop_rd1 hlt, drop_rd1 (show i < b.length by omega)]
          have hw : wrap64 ((i : Int) + 1) = ((i + 1 : Nat) : Int) := by rw [G.w64 (by omega) (by omega)]; rfl
          refine Ev.step (fun k => by simp only [stratumlaw21_alike.l0]; rfl) ?_
          simp only [if_pos g1, if_pos g2, if_pos g3, hw]
          refine Ev.bind hs ?_
          by_cases e : rd_L1 a (i : Int) = rd_L1 b (i : Int)
          · simp only [decide_eq_true e, if_true, List.cons.injEq, e, true_and]
            exact ihh
          · simp only [decide_eq_false e, Bool.false_eq_true, if_false, List.cons.injEq, e, false_and, decide_false]
            exact Ev.now _
        · exact ih i (by omega) hi
    have := key a.length 0 (by omega) (by omega)
    simpa using this
  · simp only [if_neg c]
    rw [decide_eq_false (fun e => c (by rw [e]))]
    exact Ev.now _

/-! ### scans -/
theorem scan_any : ∀ (n : Nat) (l : List Int), l.length ≤ n → ∀ k j : Nat, l.length < k → l.length < j → scan k l = scan j l := by
  intro n
  induction n with
  | zero =>
    intro l h k j hk hj
    obtain ⟨k, rfl⟩ : ∃ m, k = m + 1 := ⟨k - 1, by omega⟩
    obtain ⟨j, rfl⟩ : ∃ m, j = m + 1 := ⟨j - 1, by omega⟩
    rw [scan_succ, scan_succ]
    cases hw : whole l with
    | none => rfl
    | some n => have := whole_len hw; omega
  | succ n ih =>
    intro l h k j hk hj
    obtain ⟨k, rfl⟩ : ∃ m, k = m + 1 := ⟨k - 1, by omega⟩
    obtain ⟨j, rfl⟩ : ∃ m, j = m + 1 := ⟨j - 1, by omega⟩
    rw [scan_succ, scan_succ]
    cases hw : whole l with
    | none => rfl
    | some m =>
      have hn := whole_len hw
      have hd : (l.drop (8 + m)).length = l.length - (8 + m) := List.length_drop
      simp only [scanOut]
      rw [ih (l.drop (8 + m)) (by omega) k j (by omega) (by omega)]
theorem scanW_none {l : List Int} (h : whole l = none) : scanW l = ([], 0) := by
  unfold scanW; rw [scan_succ, h]; rfl
theorem scanW_some {l : List Int} {n : Nat} (h : whole l = some n) : scanW l = ((l.drop 8).take n :: (scanW (l.drop (8 + n))).1, (scanW (l.drop (8 + n))).2 + (8 + n)) := by
  have hn := whole_len h
  have hd : (l.drop (8 + n)).length = l.length - (8 + n) := List.length_drop
  unfold scanW
  rw [scan_succ, h]
  simp only [scanOut]
  rw [scan_any _ _ (Nat.le_refl _) l.length ((l.drop (8 + n)).length + 1) (by omega) (by omega)]
theorem le4_val {a b c d : Int} (ha : 0 ≤ a ∧ a < 256) (hb : 0 ≤ b ∧ b < 256) (hc : 0 ≤ c ∧ c < 256) (hd : 0 ≤ d ∧ d < 256) : le4 (a + 256 * b + 65536 * c + 16777216 * d) = [a, b, c, d] := by
  unfold le4
  rw [show (a + 256 * b + 65536 * c + 16777216 * d) % 256 = a by omega, show (a + 256 * b + 65536 * c + 16777216 * d) / 256 % 256 = b by omega, show (a + 256 * b + 65536 * c + 16777216 * d) / 65536 % 256 = c by omega, show (a + 256 * b + 65536 * c + 16777216 * d) / 16777216 % 256 = d by omega]
theorem num_cons (a b c d : Int) (t : List Int) : num (a :: b :: c :: d :: t) = a + 256 * b + 65536 * c + 16777216 * d := rfl
theorem num_le4 {x : Int} (h0 : 0 ≤ x) (h1 : x < 4294967296) (t : List Int) : num (le4 x ++ t) = x := by
  unfold le4
  show num (_ :: _ :: _ :: _ :: t) = x
  rw [num_cons]; omega
theorem le4_len (x : Int) : (le4 x).length = 4 := rfl
/-- A frame stands at the front. -/
theorem whole_frame {p : List Int} (hp : bytesOk p) (h0 : 1 ≤ p.length) (h1 : p.length ≤ 33554432) (r : List Int) : whole (frameOf p ++ r) = some p.length := by
  have hc := crc_lt hp
  have e0 : frameOf p ++ r = le4 (p.length : Int) ++ (le4 ((crcN p : Nat) : Int) ++ (p ++ r)) := by unfold frameOf; simp only [List.append_assoc]
  have hl : (frameOf p ++ r).length = p.length + 8 + r.length := by rw [List.length_append, frameOf_len]
  have n1 : num (frameOf p ++ r) = (p.length : Int) := by rw [e0]; exact num_le4 (by omega) (by omega) _
  have d4 : (frameOf p ++ r).drop 4 = le4 ((crcN p : Nat) : Int) ++ (p ++ r) := by rw [e0]; exact List.drop_left' (le4_len _)
  have d8 : (frameOf p ++ r).drop 8 = p ++ r := by
    have := congrArg (List.drop 4) d4
    rw [List.drop_drop] at this
    rw [this]; exact List.drop_left' (le4_len _)
  unfold whole
  rw [if_neg (by omega), n1, if_neg (by omega), d4, num_le4 (by omega) (by omega), d8, Int.toNat_natCast, List.take_left' rfl, if_pos rfl]
/-- What stands whole at the front is a frame. -/
theorem whole_inv {l : List Int} {n : Nat} (hb : bytesOk l) (h : whole l = some n) : l.take (8 + n) = frameOf ((l.drop 8).take n) ∧ n ≤ 33554432 := by
  have hn := whole_len h
  match l, hb, h, hn with
  | a0 :: a1 :: a2 :: a3 :: b0 :: b1 :: b2 :: b3 :: t, hb, h, hn =>
    have q : ∀ x ∈ a0 :: a1 :: a2 :: a3 :: b0 :: b1 :: b2 :: b3 :: t, 0 ≤ x ∧ x < 256 := hb
    have q0 := q a0 (by simp)
    have q1 := q a1 (by simp)
    have q2 := q a2 (by simp)
    have q3 := q a3 (by simp)
    have r0 := q b0 (by simp)
    have r1 := q b1 (by simp)
    have r2 := q b2 (by simp)
    have r3 := q b3 (by simp)
    unfold whole at h
    rw [if_neg (by simp)] at h
    split at h
    · cases h
    · rename_i c1
      split at h
      · rename_i c2
        have h := Option.some.inj h
        have d4 : (a0 :: a1 :: a2 :: a3 :: b0 :: b1 :: b2 :: b3 :: t).drop 4 = b0 :: b1 :: b2 :: b3 :: t := rfl
        have d8 : (a0 :: a1 :: a2 :: a3 :: b0 :: b1 :: b2 :: b3 :: t).drop 8 = t := rfl
        rw [d4, d8, num_cons, num_cons] at c2
        rw [num_cons] at c1 h
        rw [h] at c2
        have hlt : n ≤ t.length := by simp only [List.length_cons] at hn; omega
        refine ⟨?_, by omega⟩
        rw [d8]
        have ht : (t.take n).length = n := List.length_take_of_le hlt
        have tk : (a0 :: a1 :: a2 :: a3 :: b0 :: b1 :: b2 :: b3 :: t).take (8 + n) = [a0, a1, a2, a3] ++ [b0, b1, b2, b3] ++ t.take n := by
          rw [show 8 + n = n + 1 + 1 + 1 + 1 + 1 + 1 + 1 + 1 by omega]; rfl
        unfold frameOf
        rw [tk, ht, ← c2, show (n : Int) = a0 + 256 * a1 + 65536 * a2 + 16777216 * a3 by omega, le4_val q0 q1 q2 q3, le4_val r0 r1 r2 r3]
      · cases h
theorem awake_ev : Ev (fun k => stratumlaw21_awake.f k T) true := by
  have b1 : bytesOk [97] := by decide
  have s1 : frame_Encode.f [97] T = some ([1, 0, 0, 0, 67, 190, 183, 232, 97], 0) := by decide +kernel
  have s2 : frame_Scan.f [1, 0, 0, 0, 67, 190, 183, 232, 97, 0] T = some ([[97]], 9) := by decide +kernel
  have s3 : frame_Sum.f [49, 50, 51, 52, 53, 54, 55, 56, 57] T = some 3421780262 := by decide +kernel
  unfold stratumlaw21_awake.f
  simp only [s1, s2, s3, Option.bind_some, if_true]
  refine Ev.bind (same_ev _ _ (by simp)) ?_
  exact Ev.of (fun k r h => h) (k := 0) (by decide +kernel)
end Go.Proofs.YtoddldamekamoaaDoor.F
