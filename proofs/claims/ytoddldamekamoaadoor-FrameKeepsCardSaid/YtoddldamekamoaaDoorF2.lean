/- Plain facts about frames: many lists; the reference's functions answer as the program's. Conditions: lengths, and that bytes are bytes. -/
import Derived.Test.YtoddldamekamoaaDoorF1
set_option linter.unusedVariables false
set_option linter.unusedSimpArgs false
namespace Go.Proofs.YtoddldamekamoaaDoor.F
open Go.RowKit Go.Proofs.YtoddldamekamoaaDoor.X Go.Proofs.YtoddldamekamoaaDoor.G Go.Proofs.YtoddldamekamoaaDoorW.PrintWords Go.Proofs.YtoddldamekamoaaDoorW.PrintLast Go.Proofs.YtoddldamekamoaaDoorW.PrintMore

def tot (l : List (List Int)) : Nat := (l.map List.length).sum
theorem tot_take {l : List (List Int)} {i : Nat} (h : i < l.length) : tot (l.take (i + 1)) = tot (l.take i) + (rd_L1 l (i : Int)).length := by
  have e : l.take (i + 1) = l.take i ++ [rd_L1 l (i : Int)] := by
    rw [List.take_succ_eq_append_getElem h]; congr 2
    unfold rd_L1; rw [Int.toNat_natCast, List.getD_eq_getElem?_getD, List.getElem?_eq_getElem h]; rfl
  rw [e]; unfold tot; simp
theorem many_ev (l : List (List Int)) (hl : l.length ≤ 4611686018427387904) (hr : ∀ r ∈ l, r.length ≤ 140737488351232) : ∃ b, Ev (fun k => stratumlaw21_many.f k l) b ∧ (b = false → l.length ≤ 1048576 ∧ tot l ≤ 16777216) := by
  have key : ∀ (d i : Nat), l.length - i ≤ d → i ≤ l.length → tot (l.take i) ≤ 140737505128448 → ∃ b, Ev (fun k => stratumlaw21_many.l0 k l ((tot (l.take i) : Nat) : Int) (i : Int)) b ∧ (b = false → l.length ≤ 1048576 ∧ tot l ≤ 16777216) := by
    have fin : ∀ (i : Nat), (i < l.length → ¬ tot (l.take i) ≤ 16777216) → i ≤ l.length → ∃ b, Ev (fun k => if (l.length : Int) > 1048576 then (some true) else (some (decide (((tot (l.take i) : Nat) : Int) > 16777216)))) b ∧ (b = false → l.length ≤ 1048576 ∧ tot l ≤ 16777216) := by
      intro i h hi
      by_cases c1 : (l.length : Int) > 1048576
      · refine ⟨true, ?_, by simp⟩
        simp only [if_pos c1]; exact Ev.now _
      · refine ⟨decide (((tot (l.take i) : Nat) : Int) > 16777216), ?_, ?_⟩
        · simp only [if_neg c1]; exact Ev.now _
        · intro hd
          have := of_decide_eq_false hd
          by_cases hlt : i < l.length
          · exact absurd (show tot (l.take i) ≤ 16777216 by omega) (h hlt)
          · obtain rfl : i = l.length := by omega
            rw [List.take_length] at this
            exact ⟨by omega, by omega⟩
    intro d
    induction d with
    | zero =>
      intro i hd hi ht
      obtain rfl : i = l.length := by omega
      obtain ⟨b, hb, hq⟩ := fin l.length (fun h => absurd h (Nat.lt_irrefl _)) (Nat.le_refl _)
      refine ⟨b, Ev.step (fun k => by simp only [stratumlaw21_many.l0]; rfl) ?_, hq⟩
      simp only [Int.lt_irrefl, if_false]
      exact hb
    | succ d ih =>
      intro i hd hi ht
      by_cases hlt : i < l.length
      · have g1 : (i : Int) < (l.length : Int) := by omega
        have g3 : (0 : Int) ≤ (i : Int) := by omega
        by_cases c2 : tot (l.take i) ≤ 16777216
        · have g2 : ((tot (l.take i) : Nat) : Int) ≤ 16777216 := by omega
          have hrr := hr _ (rd1_mem hlt)
          obtain ⟨b, hb, hq⟩ := ih (i + 1) (by omega) (by omega) (by rw [tot_take hlt]; omega)
          refine ⟨b, Ev.step (fun k => by simp only [stratumlaw21_many.l0]; rfl) ?_, hq⟩
          rw [tot_take hlt] at hb
          have W1 : Aside0 (wrap64 (((tot (l.take i) : Nat) : Int) + ((rd_L1 l (i : Int)).length : Int)) = ((tot (l.take i) + (rd_L1 l (i : Int)).length : Nat) : Int)) := ⟨by rw [G.w64 (by omega) (by omega)]; rfl⟩
          have W2 : Aside0 (wrap64 ((i : Int) + 1) = ((i + 1 : Nat) : Int)) := ⟨by rw [G.w64 (by omega) (by omega)]; rfl⟩
          simp only [if_pos g1, if_pos g2, if_pos g3, W1.out, W2.out]
          exact hb
        · obtain ⟨b, hb, hq⟩ := fin i (fun _ => c2) hi
          have g2 : ¬ ((tot (l.take i) : Nat) : Int) ≤ 16777216 := by omega
          refine ⟨b, Ev.step (fun k => by simp only [stratumlaw21_many.l0]; rfl) ?_, hq⟩
          simp only [if_pos g1, if_neg g2]
          exact hb
      · exact ih i (by omega) hi ht
  have := key l.length 0 (by omega) (by omega) (by simp [tot])
  exact this
theorem tot_mem : ∀ {l : List (List Int)} {r : List Int}, r ∈ l → r.length ≤ tot l
  | x :: t, r, h => by
    unfold tot
    rw [List.map_cons, List.sum_cons]
    rcases List.mem_cons.1 h with rfl | h
    · omega
    · have := tot_mem h; unfold tot at this; omega

/-! ### a scan of frames, one behind the other -/
theorem scan_frames : ∀ {K : List (List Int)} (r : List Int), (∀ p ∈ K, bytesOk p ∧ 1 ≤ p.length ∧ p.length ≤ 33554432) → scanW (frames K ++ r) = (K ++ (scanW r).1, (scanW r).2 + (frames K).length)
  | [], r, _ => by simp [frames]
  | p :: t, r, h => by
    obtain ⟨h1, h2, h3⟩ := h p (by simp)
    have ih := scan_frames (K := t) r (fun q hq => h q (by simp [hq]))
    have e : frames (p :: t) ++ r = frameOf p ++ (frames t ++ r) := by rw [frames_cons, List.append_assoc]
    have hw : whole (frames (p :: t) ++ r) = some p.length := by rw [e]; exact whole_frame h1 h2 h3 _
    have d8 : ((frames (p :: t) ++ r).drop 8).take p.length = p := by
      have e2 : frames (p :: t) ++ r = (le4 (p.length : Int) ++ le4 ((crcN p : Nat) : Int)) ++ (p ++ (frames t ++ r)) := by rw [e]; unfold frameOf; simp only [List.append_assoc]
      rw [e2, List.drop_left' (by rfl), List.take_left' rfl]
    have dr : (frames (p :: t) ++ r).drop (8 + p.length) = frames t ++ r := by
      rw [e]; exact List.drop_left' (by rw [frameOf_len]; omega)
    rw [scanW_some hw, d8, dr, ih, frames_cons, List.length_append, frameOf_len]
    simp only [List.cons_append]
    congr 1; omega

/-! ### the reference -/
def bitN : Nat → Nat → Nat
  | 0, x => x
  | n + 1, x => bitN n (C.bit x)
theorem bit_lt {x : Nat} (h : x < 4294967296) : C.bit x < 4294967296 := by
  unfold C.bit
  split
  · exact Nat.xor_lt_two_pow (n := 32) (by omega) (by omega)
  · omega
theorem bits_ev (l : List Int) (i : Int) (r : Int) : ∀ (n : Nat), n ≤ 8 → ∀ x : Nat, x < 4294967296 → Ev (fun k => stratumref21_Sum.l0 k l ((bitN n x : Nat) : Int) (wrap64 (i + 1))) r → Ev (fun k => stratumref21_Sum.l1 k l (x : Int) i ((8 - n : Nat) : Int)) r
  | 0, _, x, hx, h => by
    refine Ev.step (fun k => by simp only [stratumref21_Sum.l1]; rfl) ?_
    simp only [show ¬ (((8 - 0 : Nat) : Int) < 8) by omega, if_false]
    exact h
  | n + 1, hn, x, hx, h => by
    have ih := bits_ev l i r n (by omega) (C.bit x) (bit_lt hx) h
    have g1 : ((8 - (n + 1) : Nat) : Int) < 8 := by omega
    have t1 : Int.tmod (x : Int) 2 = ((x % 2 : Nat) : Int) := by rw [Int.tmod_eq_emod_of_nonneg (by omega)]; rfl
    have t2 : Int.tdiv (x : Int) 2 % 4294967296 = ((x / 2 : Nat) : Int) := by rw [Int.tdiv_eq_ediv_of_nonneg (by omega)]; omega
    have W : Aside0 (wrap64 (((8 - (n + 1) : Nat) : Int) + 1) = ((8 - n : Nat) : Int)) := ⟨by rw [G.w64 (by omega) (by omega)]; omega⟩
    refine Ev.step (fun k => by simp only [stratumref21_Sum.l1]; rfl) ?_
    simp only [if_pos g1, t1, t2, W.out]
    by_cases c : x % 2 = 1
    · have e : Go.bits .xor .u32 ((x / 2 : Nat) : Int) 3988292384 = ((C.bit x : Nat) : Int) := by
        have := u32_xor_nat (x / 2) 3988292384 (by omega) (by omega)
        unfold C.bit; rw [if_pos c]; exact this
      have c1 : ((x % 2 : Nat) : Int) = 1 := by omega
      simp only [if_pos c1, e]
      exact ih
    · have e : C.bit x = x / 2 := by unfold C.bit; rw [if_neg c]
      have c1 : ¬ ((x % 2 : Nat) : Int) = 1 := by omega
      rw [e] at ih
      simp only [if_neg c1]
      exact ih
theorem bitN8 (x c : Nat) : bitN 8 (x ^^^ c) = C.step x c := C.eight x c
theorem refsum_ev (l : List Int) (hb : bytesOk l) (hl : l.length ≤ 140737488355328) : Ev (fun k => stratumref21_Sum.f k l) ((crcN l : Nat) : Int) := by
  have key : ∀ (d i x : Nat), l.length - i ≤ d → i ≤ l.length → x < 4294967296 → Ev (fun k => stratumref21_Sum.l0 k l (x : Int) (i : Int)) ((4294967295 ^^^ C.run x ((l.drop i).map Int.toNat) : Nat) : Int) := by
    intro d
    induction d with
    | zero =>
      intro i x hd hi hx
      obtain rfl : i = l.length := by omega
      refine Ev.step (fun k => by simp only [stratumref21_Sum.l0]; rfl) ?_
      have e : Go.bits .xor .u32 (x : Int) 4294967295 = ((4294967295 ^^^ x : Nat) : Int) := by
        have := u32_xor_nat x 4294967295 hx (by omega)
        rw [Nat.xor_comm]; exact this
      simp only [Int.lt_irrefl, if_false, e, List.drop_length]
      exact Ev.now _
    | succ d ih =>
      intro i x hd hi hx
      by_cases hlt : i < l.length
      · obtain ⟨r0, r1⟩ := hb _ (rd_mem hlt)
        have g1 : (i : Int) < (l.length : Int) := by omega
        have g2 : (0 : Int) ≤ (i : Int) := by omega
        obtain ⟨m, hm⟩ := Int.eq_ofNat_of_zero_le r0
        have hm2 : m < 256 := by omega
        have e : Go.bits .xor .u32 (x : Int) (rd l (i : Int) % 4294967296) = ((x ^^^ m : Nat) : Int) := by
          rw [hm, show ((m : Nat) : Int) % 4294967296 = (m : Int) by omega]; exact u32_xor_nat x m hx (by omega)
        have ihh := ih (i + 1) (C.step x m) (by omega) (by omega) (C.step_lt hx hm2)
        have er : C.run x ((l.drop i).map Int.toNat) = C.run (C.step x m) ((l.drop (i + 1)).map Int.toNat) := by
          rw [drop_rd hlt, hm]; rfl
        rw [← er] at ihh
        have W : Aside0 (wrap64 ((i : Int) + 1) = ((i + 1 : Nat) : Int)) := ⟨by rw [G.w64 (by omega) (by omega)]; rfl⟩
        have hx2 : x ^^^ m < 4294967296 := Nat.xor_lt_two_pow (n := 32) hx (by omega)
        have b := bits_ev l (i : Int) _ 8 (by omega) (x ^^^ m) hx2 (by rw [bitN8, W.out]; exact ihh)
        refine Ev.step (fun k => by simp only [stratumref21_Sum.l0]; rfl) ?_
        simp only [if_pos g1, if_pos g2, e]
        exact b
      · exact ih i x (by omega) hi hx
  have := key l.length 0 4294967295 (by omega) (by omega) (by omega)
  exact this
theorem refput_ev (b : List Int) (x : Int) (h0 : 0 ≤ x) (h1 : x < 4294967296) (hl : b.length ≤ 70368744177664) : Ev (fun k => stratumref21_put.f k b x) (b ++ le4 x) := by
  have st : ∀ (n : Nat) (c : List Int) (y : Int) (r : List Int), n < 4 → 0 ≤ y → y < 4294967296 → c.length < 140737488355328 → Ev (fun k => stratumref21_put.l0 k (c ++ [y % 256]) (y / 256) ((n + 1 : Nat) : Int)) r → Ev (fun k => stratumref21_put.l0 k c y (n : Int)) r := by
    intro n c y r hn hy0 hy1 hc h
    have g1 : (n : Int) < 4 := by omega
    have t1 : Int.tmod y 256 % 256 = y % 256 := by rw [Int.tmod_eq_emod_of_nonneg hy0]; omega
    have t2 : Int.tdiv y 256 % 4294967296 = y / 256 := by rw [Int.tdiv_eq_ediv_of_nonneg hy0]; omega
    have W : Aside0 (wrap64 ((n : Int) + 1) = ((n + 1 : Nat) : Int)) := ⟨by rw [G.w64 (by omega) (by omega)]; rfl⟩
    refine Ev.step (fun k => by simp only [stratumref21_put.l0]; rfl) ?_
    simp only [if_pos g1, if_pos hc, t1, t2, W.out]
    exact h
  unfold stratumref21_put.f
  refine st 0 b x _ (by omega) h0 h1 (by omega) ?_
  refine st 1 _ (x / 256) _ (by omega) (by omega) (by omega) (by simp; omega) ?_
  refine st 2 _ (x / 256 / 256) _ (by omega) (by omega) (by omega) (by simp; omega) ?_
  refine st 3 _ (x / 256 / 256 / 256) _ (by omega) (by omega) (by omega) (by simp; omega) ?_
  refine Ev.step (fun k => by simp only [stratumref21_put.l0]; rfl) ?_
  simp only [show ¬ (((3 + 1 : Nat) : Int) < 4) by omega, if_false]
  have e : b ++ [x % 256] ++ [x / 256 % 256] ++ [x / 256 / 256 % 256] ++ [x / 256 / 256 / 256 % 256] = b ++ le4 x := by
    unfold le4
    rw [show x / 256 / 256 = x / 65536 by omega, show x / 65536 / 256 = x / 16777216 by omega]
    simp
  rw [e]
  exact Ev.now _
theorem refenc_loop (l : List Int) (c : List Int) (hl : c.length + l.length ≤ 140737488355328) : ∀ (d i : Nat), l.length - i ≤ d → i ≤ l.length → Ev (fun k => stratumref21_Encode.l0 k l (c ++ l.take i) (i : Int)) (c ++ l, 0) := by
  intro d
  induction d with
  | zero =>
    intro i hd hi
    obtain rfl : i = l.length := by omega
    refine Ev.step (fun k => by simp only [stratumref21_Encode.l0]; rfl) ?_
    simp only [Int.lt_irrefl, if_false, List.take_length]
    exact Ev.now _
  | succ d ih =>
    intro i hd hi
    by_cases hlt : i < l.length
    · have ihh := ih (i + 1) (by omega) (by omega)
      have g1 : (i : Int) < (l.length : Int) := by omega
      have g2 : (0 : Int) ≤ (i : Int) := by omega
      have g3 : (c ++ l.take i).length < 140737488355328 := by rw [List.length_append, List.length_take]; omega
      have e : c ++ l.take i ++ [rd l (i : Int)] = c ++ l.take (i + 1) := by
        rw [List.append_assoc]; congr 1
        rw [List.take_succ_eq_append_getElem hlt]; congr 2
        unfold rd; rw [Int.toNat_natCast, List.getD_eq_getElem?_getD, List.getElem?_eq_getElem hlt]; rfl
      have W : Aside0 (wrap64 ((i : Int) + 1) = ((i + 1 : Nat) : Int)) := ⟨by rw [G.w64 (by omega) (by omega)]; rfl⟩
      refine Ev.step (fun k => by simp only [stratumref21_Encode.l0]; rfl) ?_
      simp only [if_pos g1, if_pos g2, if_pos g3, e, W.out]
      exact ihh
    · exact ih i (by omega) hi
def encOut (l : List Int) : List Int × Int := if l = [] then ([], 1) else if 33554432 < l.length then ([], 2) else (frameOf l, 0)
theorem enc_out {l : List Int} (hb : bytesOk l) : frame_Encode.f l T = some (encOut l) := by
  unfold encOut
  by_cases h0 : l = []
  · subst h0; rw [if_pos rfl]; exact enc_empty
  · rw [if_neg h0]
    by_cases h1 : 33554432 < l.length
    · rw [if_pos h1]
      have hp : 0 < l.length := List.length_pos_iff.2 h0
      unfold frame_Encode.f
      rw [if_neg (show ¬ (l.length : Int) = 0 by omega), if_pos (show (l.length : Int) > 33554432 by omega)]
    · rw [if_neg h1]; exact enc_eq hb h0 (by omega)
theorem refenc_ev {l : List Int} (hb : bytesOk l) : Ev (fun k => stratumref21_Encode.f k l) (encOut l) := by
  unfold stratumref21_Encode.f encOut
  by_cases h0 : l = []
  · subst h0
    simp only [List.length_nil, Int.natCast_zero, if_true]
    exact Ev.now _
  · have hp : 0 < l.length := List.length_pos_iff.2 h0
    have g1 : ¬ (l.length : Int) = 0 := by omega
    simp only [if_neg g1, if_neg h0]
    by_cases h1 : 33554432 < l.length
    · have g2 : (l.length : Int) > 33554432 := by omega
      simp only [if_pos g2, if_pos h1]
      exact Ev.now _
    · have g2 : ¬ (l.length : Int) > 33554432 := by omega
      have hc := crc_lt hb
      have e : (l.length : Int) % 4294967296 = (l.length : Int) := by omega
      simp only [if_neg g2, if_neg h1, e]
      refine Ev.bind (refput_ev [] _ (by omega) (by omega) (by simp)) ?_
      refine Ev.bind (refsum_ev l hb (by omega)) ?_
      refine Ev.bind (refput_ev _ _ (by omega) (by omega) (by simp [le4])) ?_
      have := refenc_loop l ([] ++ le4 (l.length : Int) ++ le4 ((crcN l : Nat) : Int)) (by simp [le4]; omega) l.length 0 (by omega) (by omega)
      rw [List.take_zero, List.append_nil] at this
      exact this
end Go.Proofs.YtoddldamekamoaaDoor.F
