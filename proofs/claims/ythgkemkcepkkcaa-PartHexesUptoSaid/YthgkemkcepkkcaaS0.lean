/- Plain facts about texts: cuts, places, repeated texts: what the printed functions of layer 7 compute. Conditions: sizes alone. -/
import Derived.Test.YthgkemkcepkkcaaX2
import Derived.Lib.IndexLaws
import Derived.Lib.IndexMore
set_option linter.unusedVariables false
set_option linter.unusedSimpArgs false
namespace Go.Proofs.Ythgkemkcepkkcaa.S
open Go.RowKit Go.Proofs.Ythgkemkcepkkcaa.X Go.Proofs.Ythgkemkcepkkcaa.G Go.Proofs.YthgkemkcepkkcaaW.PrintWords Go.Proofs.YthgkemkcepkkcaaW.PrintLast Go.Proofs.YthgkemkcepkkcaaW.PrintMore

/-! ### texts as lists -/
theorem w64 {x : Int} (h0 : 0 ≤ x) (h1 : x ≤ 4611686018427387904) : wrap64 x = x := by unfold wrap64; omega
theorem toList_eq (s : ByteArray) : s.toList = s.data.toList := ByteArray.toList_eq s
theorem size_len (s : ByteArray) : s.size = s.data.toList.length := (data_length s).symm
theorem ext_list (s : ByteArray) (i j : Nat) : (s.extract i j).data.toList = (s.data.toList.drop i).take (j - i) := by
  rw [ByteArray.data_extract, Array.toList_extract, List.extract_eq_take_drop]
theorem ext_drop (s : ByteArray) (i : Nat) : (s.extract i s.size).data.toList = s.data.toList.drop i := by
  rw [ext_list, size_len]; exact List.take_of_length_le (by rw [List.length_drop]; omega)
theorem ext_take (s : ByteArray) (i : Nat) : (s.extract 0 i).data.toList = s.data.toList.take i := by
  rw [ext_list]; simp
theorem app_list (s t : ByteArray) : (s ++ t).data.toList = s.data.toList ++ t.data.toList := by
  rw [ByteArray.data_append, Array.toList_append]
theorem of_list {s : ByteArray} {l : List UInt8} (h : s.data.toList = l) : s = ⟨l.toArray⟩ := by
  cases s with | mk d => cases h; rfl

/-! ### places -/
def idx (s sub : List UInt8) : Int := if sub = [] then -1 else Lib.index s sub
theorem index_eq {a0 a1 : ByteArray} {m : Int} (h : a0.size < 4294967281) : part_Index.f a0 a1 [m] = some (idx a0.data.toList a1.data.toList) := by
  unfold part_Index.f idx
  rw [if_pos ⟨.inr h, rfl⟩, toList_eq]
theorem pre_take {s sub : List UInt8} : sub.isPrefixOf s = decide (s.take sub.length = sub) := by
  rw [Bool.eq_iff_iff, decide_eq_true_iff, List.isPrefixOf_iff_prefix, List.prefix_iff_eq_take]
  exact eq_comm
theorem stands_eq {a0 a1 : ByteArray} {i : Nat} (hi : i ≤ 4294967296) (h0 : a0.size ≤ 4294967296) (h1 : a1.size ≤ 4294967296) :
    stratumref07_stands.f a0 a1 (i : Int) = some (Lib.occAt a0.data.toList a1.data.toList i && decide (i + a1.size ≤ a0.size)) := by
  unfold stratumref07_stands.f
  rw [w64 (x := (i : Int) + (a1.size : Int)) (by omega) (by omega)]
  by_cases c : i + a1.size ≤ a0.size
  · rw [if_pos (by omega), if_pos (by omega), if_pos (by omega), decide_eq_true c, Bool.and_true, show ((i : Int) + (a1.size : Int)).toNat = i + a1.size by omega, Int.toNat_natCast, toList_eq, toList_eq, ext_list]
    unfold Lib.occAt
    rw [pre_take, show i + a1.size - i = a1.size by omega, size_len a1]
    congr 1
    rw [Bool.eq_iff_iff, beq_iff_eq, decide_eq_true_iff]
  · rw [if_neg (by omega), decide_eq_false c, Bool.and_false]
theorem refindex_ev {a0 a1 : ByteArray} (h0 : a0.size ≤ 4294967296) (h1 : a1.size ≤ 4294967296) : Ev (fun k => stratumref07_Index.f k a0 a1) (idx a0.data.toList a1.data.toList) := by
  have hz := size_len a0
  have hz1 := size_len a1
  by_cases he : a1.data.toList = []
  · refine Ev.congr (f := fun _ => some (-1)) (fun k => ?_) ?_
    · unfold stratumref07_Index.f; rw [toList_eq, if_pos he]
    · unfold idx; rw [if_pos he]; exact Ev.now _
  · have key : ∀ (d i : Nat), a0.size - i = d → i ≤ a0.size → Lib.NoOcc a0.data.toList a1.data.toList i → Ev (fun k => stratumref07_Index.l0 k a0 a1 (i : Int)) (Lib.index a0.data.toList a1.data.toList) := by
      intro d
      induction d with
      | zero =>
        intro i hd hi hno
        obtain rfl : i = a0.size := by omega
        refine Ev.step (fun k => by simp only [stratumref07_Index.l0]; rfl) ?_
        have hp : 0 < a1.data.toList.length := List.length_pos_iff.2 he
        rw [Lib.index_past he hno (by omega)]
        simp only [Int.lt_irrefl, if_false]
        exact Ev.now _
      | succ d ih =>
        intro i hd hi hno
        refine Ev.step (fun k => by simp only [stratumref07_Index.l0]; rfl) ?_
        simp only [if_pos (show (i : Int) < (a0.size : Int) by omega), stands_eq (show i ≤ 4294967296 by omega) h0 h1, Option.bind_some]
        by_cases ho : Lib.occAt a0.data.toList a1.data.toList i = true
        · have hr : i + a1.size ≤ a0.size := by
            rcases Lib.occAt_room ho with h' | h'
            · omega
            · exact absurd h' he
          simp only [ho, decide_eq_true hr, Bool.and_self, if_true]
          rw [Lib.index_hit hno (by omega) ho]
          exact Ev.now _
        · rw [Bool.not_eq_true] at ho
          simp only [ho, Bool.false_and, Bool.false_eq_true, if_false]
          have hw : wrap64 ((i : Int) + 1) = ((i + 1 : Nat) : Int) := by rw [w64 (by omega) (by omega)]; rfl
          rw [hw]
          exact ih (i + 1) (by omega) (by omega) (hno.succ ho)
    have := key a0.size 0 (by omega) (by omega) (Lib.NoOcc.zero _ _)
    refine Ev.congr (f := fun k => stratumref07_Index.l0 k a0 a1 0) (fun k => ?_) ?_
    · unfold stratumref07_Index.f; rw [toList_eq, if_neg he]
    · unfold idx; rw [if_neg he]; exact this

/-! ### one text behind the other -/
theorem join_eq {a b c : ByteArray} (h : a.size + b.size + c.size ≤ 140737488355328) : part_Join.f a b c = some ⟨(a.data.toList ++ (b.data.toList ++ c.data.toList)).toArray⟩ := by
  have e : glue [a, b, c] = a.data.toList ++ (b.data.toList ++ c.data.toList) := by simp [glue]
  unfold part_Join.f part_glue.f
  rw [e, if_pos ⟨by rw [List.length_append, List.length_append, ← size_len, ← size_len, ← size_len]; omega, by simp⟩]
  rfl
theorem refjoin_eq {a b c : ByteArray} (h : a.size + b.size + c.size ≤ 140737488355328) : stratumref07_Join.f a b c = some ⟨(a.data.toList ++ (b.data.toList ++ c.data.toList)).toArray⟩ := by
  unfold stratumref07_Join.f
  have e : (a ++ b).size = a.size + b.size := ByteArray.size_append
  rw [if_pos (by omega), if_pos (by omega)]
  congr 1
  exact of_list (by rw [app_list, app_list, List.append_assoc])

/-! ### repeated texts -/
theorem set_rep {α : Type} (a b : α) (n i : Nat) (h : i < n) : (List.replicate i a ++ List.replicate (n - i) b).set i a = List.replicate (i + 1) a ++ List.replicate (n - (i + 1)) b := by
  rw [List.set_append_right _ _ (by simp), List.length_replicate, Nat.sub_self, show n - i = (n - (i + 1)) + 1 by omega, List.replicate_succ, List.set_cons_zero, List.replicate_succ', List.append_assoc]
  rfl
theorem glue_rep (s : ByteArray) (n : Nat) : glue (List.replicate n s) = (List.replicate n s.data.toList).flatten := by
  unfold glue; rw [List.map_replicate]
theorem flat_len {l : List UInt8} (n : Nat) : (List.replicate n l).flatten.length = n * l.length := by
  rw [List.length_flatten, List.map_replicate, List.sum_replicate_nat]
def rep (s : ByteArray) (n : Nat) : ByteArray := ⟨(List.replicate n s.data.toList).flatten.toArray⟩
def repOut (s : ByteArray) (n : Nat) : ByteArray × Int := if s.data.toList = [] ∨ n = 0 then (⟨#[]⟩, 0) else if 4096 / s.size < n then (⟨#[]⟩, 2) else (rep s n, 0)
theorem rep_ev (s : ByteArray) (n : Nat) (hs : s.size ≤ 4611686018427387904) (hn : n < 18446744073709551616) : Ev (fun k => part_Rep.f k s (n : Int)) (repOut s n) := by
  have hz := size_len s
  have key : ∀ (d i : Nat), n - i = d → i ≤ n → n ≤ 4096 → n * s.data.toList.length ≤ 4096 → Ev (fun k => part_Rep.l0 k s (List.replicate i s ++ List.replicate (n - i) (⟨#[]⟩ : ByteArray)) (n : Int) (i : Int)) (rep s n, 0) := by
    intro d
    induction d with
    | zero =>
      intro i hd hi hn2 hl
      obtain rfl : i = n := by omega
      refine Ev.step (fun k => by simp only [part_Rep.l0]; rfl) ?_
      simp only [Int.lt_irrefl, if_false, Nat.sub_self, List.replicate_zero, List.append_nil]
      have e : (glue (List.replicate i s)).length = i * s.data.toList.length := by rw [glue_rep, flat_len]
      have e2 : part_glue.f (List.replicate i s) = some (rep s i) := by
        unfold part_glue.f
        rw [if_pos ⟨by omega, by rw [List.length_replicate]; omega⟩, glue_rep]; rfl
      simp only [e2, Option.bind_some]
      exact Ev.now _
    | succ d ih =>
      intro i hd hi hn2 hl
      refine Ev.step (fun k => by simp only [part_Rep.l0]; rfl) ?_
      have hlen : (List.replicate i s ++ List.replicate (n - i) (⟨#[]⟩ : ByteArray)).length = n := by simp; omega
      have hw : wrap64 ((i : Int) + 1) = ((i + 1 : Nat) : Int) := by rw [w64 (by omega) (by omega)]; rfl
      simp only [if_pos (show (i : Int) < (n : Int) by omega), if_pos (show (0 : Int) ≤ (i : Int) by omega), hlen, Int.toNat_natCast, hw, set_rep s (⟨#[]⟩ : ByteArray) n i (by omega)]
      exact ih (i + 1) (by omega) (by omega) hn2 hl
  have hj : ∀ b : Bool, b = decide (s.data.toList = [] ∨ n = 0) → Ev (fun k => part_Rep.j0 k s (n : Int) b) (repOut s n) := by
    intro b hb
    refine Ev.step (fun k => by simp only [part_Rep.j0]; rfl) ?_
    unfold repOut
    by_cases c : s.data.toList = [] ∨ n = 0
    · rw [decide_eq_true c] at hb
      subst hb
      simp only [if_true, if_pos c]
      exact Ev.now _
    · rw [decide_eq_false c] at hb
      subst hb
      have hp : 0 < s.data.toList.length := List.length_pos_iff.2 (fun h => c (.inl h))
      have hq : IntKind.u64.wrap (wrap64 ((4096 : Int) / (s.size : Int))) = ((4096 / s.size : Nat) : Int) := by
        rw [w64_div12, IntKind.wrap_u64]
        have e : (4096 : Int) / (s.size : Int) = ((4096 / s.size : Nat) : Int) := by simp
        have b : 4096 / s.size ≤ 4096 := Nat.div_le_self _ _
        obtain ⟨q, hq⟩ : ∃ q, q = 4096 / s.size := ⟨_, rfl⟩
        rw [e, ← hq]; rw [← hq] at b; omega
      simp only [Bool.false_eq_true, if_false, if_neg c, if_neg (show ¬ (s.size : Int) = 0 by omega), hq]
      by_cases c2 : 4096 / s.size < n
      · simp only [if_pos (show (n : Int) > ((4096 / s.size : Nat) : Int) by omega), if_pos c2]
        exact Ev.now _
      · have hmul : n * s.size ≤ 4096 := Nat.le_trans (Nat.mul_le_mul_right _ (Nat.le_of_not_lt c2)) (Nat.div_mul_le_self _ _)
        have hn2 : n ≤ 4096 := Nat.le_trans (Nat.le_mul_of_pos_right _ (by omega)) hmul
        simp only [if_neg (show ¬ (n : Int) > ((4096 / s.size : Nat) : Int) by omega), if_neg c2, if_pos (show (0 : Int) ≤ (n : Int) by omega), Int.toNat_natCast, if_pos (show n ≤ 17592186044416 by omega), Option.bind_some, List.length_replicate]
        have := key n 0 (by omega) (by omega) hn2 (by rw [← hz]; exact hmul)
        rw [List.replicate_zero, List.nil_append, Nat.sub_zero] at this
        exact this
  unfold part_Rep.f
  rw [toList_eq]
  by_cases c : s.data.toList = []
  · simp only [if_pos c]
    exact hj true (by rw [decide_eq_true (.inl c)])
  · simp only [if_neg c]
    refine hj _ ?_
    rw [Bool.eq_iff_iff, beq_iff_eq, decide_eq_true_iff]
    constructor
    · intro h; exact .inr (by omega)
    · rintro (h | h)
      · exact absurd h c
      · omega

/-! ### the program is awake -/
theorem awake_ev (m : Int) : Ev (fun k => stratumlaw07_awake.f k [m]) true := by
  unfold stratumlaw07_awake.f
  refine Ev.bind (rep_ev (⟨#[97, 98]⟩ : ByteArray) 3 (by decide) (by decide)) ?_
  refine Ev.bind (a := (⟨#[106, 107]⟩, 0)) (Ev.of (part_Hex.mono _) (k := 10) (by decide +kernel)) ?_
  have i1 : part_Index.f (⟨#[97, 44, 98, 44, 99]⟩ : ByteArray) (⟨#[44]⟩ : ByteArray) [m] = some 1 := by rw [index_eq (by decide)]; decide
  have h1 : part_Head.f (⟨#[97, 44, 98, 44, 99]⟩ : ByteArray) (⟨#[44]⟩ : ByteArray) [m] = some ⟨#[97]⟩ := by
    unfold part_Head.f; rw [i1]; decide +kernel
  have t1 : part_Tail.f (⟨#[97, 44, 98, 44, 99]⟩ : ByteArray) (⟨#[44]⟩ : ByteArray) [m] = some ⟨#[98, 44, 99]⟩ := by
    unfold part_Tail.f; rw [i1]; decide +kernel
  have j1 : part_Join.f (⟨#[97]⟩ : ByteArray) (⟨#[44, 32]⟩ : ByteArray) (⟨#[98]⟩ : ByteArray) = some ⟨#[97, 44, 32, 98]⟩ := by rw [join_eq (by decide)]; rfl
  have r1 : repOut (⟨#[97, 98]⟩ : ByteArray) 3 = (⟨#[97, 98, 97, 98, 97, 98]⟩, 0) := by decide +kernel
  simp only [i1, h1, t1, j1, r1, Option.bind_some, toList_eq, if_true]
  exact Ev.now _
end Go.Proofs.Ythgkemkcepkkcaa.S
