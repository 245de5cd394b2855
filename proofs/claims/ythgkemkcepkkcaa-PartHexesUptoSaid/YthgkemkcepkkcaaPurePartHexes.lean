/- Bytes written as digits, small or great, are read back; a digit more, or a byte that is none, is refused. Stated over the printed functions; condition: texts up to 2^20 bytes. -/
import Derived.Test.YthgkemkcepkkcaaS2
import Derived.Test.YthgkemkcepkkcaaX6
import Derived.OpenShut
set_option linter.unusedVariables false
set_option linter.unusedSimpArgs false
namespace Go.Proofs.Ythgkemkcepkkcaa.Pure
open Go.RowKit Go.Proofs.Ythgkemkcepkkcaa.X Go.Proofs.Ythgkemkcepkkcaa.S Go.Proofs.YthgkemkcepkkcaaW.PrintWords Go.Proofs.YthgkemkcepkkcaaW.PrintLast Go.Proofs.YthgkemkcepkkcaaW.PrintMore

def lo (d : Int) : Int := if d < 10 then 48 + d else 87 + d
def up (d : Int) : Int := if d < 10 then 48 + d else 55 + d
theorem lo_bt (d : Int) (h0 : 0 ≤ d) (h1 : d < 16) : bt (⟨#[48, 49, 50, 51, 52, 53, 54, 55, 56, 57, 97, 98, 99, 100, 101, 102]⟩ : ByteArray) d = lo d := by
  have key : ∀ n : Nat, n < 16 → bt (⟨#[48, 49, 50, 51, 52, 53, 54, 55, 56, 57, 97, 98, 99, 100, 101, 102]⟩ : ByteArray) (n : Int) = lo (n : Int) := by decide +kernel
  have := key d.toNat (by omega); rwa [Int.toNat_of_nonneg h0] at this
theorem up_bt (d : Int) (h0 : 0 ≤ d) (h1 : d < 16) : bt (⟨#[48, 49, 50, 51, 52, 53, 54, 55, 56, 57, 65, 66, 67, 68, 69, 70]⟩ : ByteArray) d = up d := by
  have key : ∀ n : Nat, n < 16 → bt (⟨#[48, 49, 50, 51, 52, 53, 54, 55, 56, 57, 65, 66, 67, 68, 69, 70]⟩ : ByteArray) (n : Int) = up (n : Int) := by decide +kernel
  have := key d.toNat (by omega); rwa [Int.toNat_of_nonneg h0] at this
theorem lo_hex {d : Int} (h0 : 0 ≤ d) (h1 : d < 16) : hexv (lo d) = d ∧ 0 ≤ lo d ∧ lo d < 256 := by unfold hexv lo; split <;> (refine ⟨?_, by omega, by omega⟩) <;> (repeat' split) <;> omega
theorem up_hex {d : Int} (h0 : 0 ≤ d) (h1 : d < 16) : hexv (up d) = d ∧ 0 ≤ up d ∧ up d < 256 := by unfold hexv up; split <;> (refine ⟨?_, by omega, by omega⟩) <;> (repeat' split) <;> omega
def enc (f : Int → Int) : List Int → List Int
  | [] => []
  | b :: t => f (b / 16) :: f (b % 16) :: enc f t
theorem enc_append (f : Int → Int) : ∀ (a b : List Int), enc f (a ++ b) = enc f a ++ enc f b
  | [], _ => rfl
  | x :: t, b => by simp [enc, enc_append f t b]
theorem enc_len (f : Int → Int) : ∀ l : List Int, (enc f l).length = 2 * l.length
  | [] => rfl
  | x :: t => by simp [enc, enc_len f t]; omega
def Dig (f : Int → Int) : Prop := ∀ d : Int, 0 ≤ d → d < 16 → hexv (f d) = d ∧ 0 ≤ f d ∧ f d < 256
theorem enc_bytes {f : Int → Int} (hf : Dig f) : ∀ {l : List Int}, (∀ b ∈ l, 0 ≤ b ∧ b < 256) → ∀ b ∈ enc f l, 0 ≤ b ∧ b < 256
  | [], _ => by simp [enc]
  | x :: t, h => by
    have hx := h x (by simp)
    intro b hb
    simp only [enc, List.mem_cons] at hb
    rcases hb with rfl | rfl | hb
    · exact (hf (x / 16) (by omega) (by omega)).2
    · exact (hf (x % 16) (by omega) (by omega)).2
    · exact enc_bytes hf (fun b hb => h b (by simp [hb])) b hb
theorem unhex_enc {f : Int → Int} (hf : Dig f) : ∀ {l : List Int}, (∀ b ∈ l, 0 ≤ b ∧ b < 256) → unhex (enc f l) = some l
  | [], _ => rfl
  | x :: t, h => by
    have hx := h x (by simp)
    have h1 := (hf (x / 16) (by omega) (by omega)).1
    have h2 := (hf (x % 16) (by omega) (by omega)).1
    simp only [enc, unhex, h1, h2]
    rw [if_neg (by omega), if_neg (by omega), unhex_enc hf (fun b hb => h b (by simp [hb]))]
    simp only [Option.map_some]
    congr 2; omega
theorem unhex_bad {c : Int} (hc : hexv c = 16) : ∀ (n : Nat) (l : List Int) (j : Nat), l.length ≤ n → j < l.length → unhex (l.set j c) = none
  | 0, l, j, hn, h => by omega
  | n + 1, [], j, hn, h => by simp at h
  | n + 1, [x], j, hn, h => by
    obtain rfl : j = 0 := by simp at h; omega
    rfl
  | n + 1, x :: y :: t, 0, hn, h => by simp only [List.set_cons_zero, unhex]; rw [if_pos hc]
  | n + 1, x :: y :: t, 1, hn, h => by
    simp only [List.set_cons_succ, List.set_cons_zero, unhex]
    by_cases c1 : hexv x = 16
    · rw [if_pos c1]
    · rw [if_neg c1, if_pos hc]
  | n + 1, x :: y :: t, j + 2, hn, h => by
    simp only [List.set_cons_succ, unhex]
    rw [unhex_bad hc n t j (by simp at hn; omega) (by simp at h; omega)]
    split
    · rfl
    · split <;> rfl
theorem bytesOf_strOf {l : List Int} (h : ∀ b ∈ l, 0 ≤ b ∧ b < 256) : bytesOf (strOfNums l) = l := by
  have e : ∃ u : List UInt8, l = u.map fun b => (b.toNat : Int) := by
    refine ⟨l.map fun b => UInt8.ofNat b.toNat, ?_⟩
    rw [List.map_map]
    refine (List.map_id l).symm.trans (List.map_congr_left fun b hb => ?_)
    obtain ⟨h0, h1⟩ := h b hb
    simp only [Function.comp, id]
    rw [show (UInt8.ofNat b.toNat).toNat = b.toNat from UInt8.toNat_ofNat_of_lt' (show b.toNat < 256 by omega)]
    omega
  obtain ⟨u, rfl⟩ := e
  rw [bnums]; rfl
theorem strOf_bytesOf (s : ByteArray) : strOfNums (bytesOf s) = s := by unfold bytesOf; rw [bnums]
theorem strOf_size {l : List Int} (h : ∀ b ∈ l, 0 ≤ b ∧ b < 256) : (strOfNums l).size = l.length := by
  rw [← bytesOf_length, bytesOf_strOf h]
theorem bytes_range (s : ByteArray) : ∀ b ∈ bytesOf s, 0 ≤ b ∧ b < 256 := by
  intro b hb
  unfold bytesOf at hb
  obtain ⟨u, _, rfl⟩ := List.mem_map.1 hb
  have := u.toNat_lt
  omega
theorem hexOut_enc {f : Int → Int} (hf : Dig f) (s : ByteArray) : hexOut (strOfNums (enc f (bytesOf s))) = (s, 0) := by
  have hb := enc_bytes hf (bytes_range s)
  unfold hexOut
  rw [if_pos (by rw [strOf_size hb, enc_len]; omega), bytesOf_strOf hb, unhex_enc hf (bytes_range s)]
  show (strOfNums ([] ++ bytesOf s), (0 : Int)) = (s, 0)
  rw [List.nil_append, strOf_bytesOf]
theorem set_range {l : List Int} {c : Int} {j : Nat} (h : ∀ b ∈ l, 0 ≤ b ∧ b < 256) (h0 : 0 ≤ c) (h1 : c < 256) : ∀ b ∈ l.set j c, 0 ≤ b ∧ b < 256 := by
  intro b hb
  rcases List.mem_or_eq_of_mem_set hb with hb | rfl
  · exact h b hb
  · exact ⟨h0, h1⟩
theorem hexOut_bad {l : List Int} {c : Int} {j : Nat} (h : ∀ b ∈ l, 0 ≤ b ∧ b < 256) (h0 : 0 ≤ c) (h1 : c < 256) (hc : hexv c = 16) (hj : j < l.length) : hexOut (strOfNums (l.set j c)) = (⟨#[]⟩, 111) := by
  have hb := set_range (j := j) h h0 h1
  unfold hexOut
  split
  · rw [bytesOf_strOf hb, unhex_bad hc l.length l j (Nat.le_refl _) hj]; rfl
  · rfl
theorem jrange (a1 : Int) (n : Nat) (h : ¬ (n : Int) = 0) (h2 : n ≤ 2097152) : 0 ≤ wrap64 (Int.tmod (IntKind.u64.wrap a1) (IntKind.u64.wrap (n : Int))) ∧ wrap64 (Int.tmod (IntKind.u64.wrap a1) (IntKind.u64.wrap (n : Int))) < (n : Int) := by
  have hlw : IntKind.u64.wrap (n : Int) = (n : Int) := by rw [IntKind.wrap_u64]; omega
  have hr : 0 ≤ IntKind.u64.wrap a1 := by rw [IntKind.wrap_u64]; omega
  rw [hlw]
  have t0 : 0 ≤ Int.tmod (IntKind.u64.wrap a1) (n : Int) := Int.tmod_nonneg _ hr
  have t1 : Int.tmod (IntKind.u64.wrap a1) (n : Int) < (n : Int) := Int.tmod_lt_of_pos _ (by omega)
  obtain ⟨J, hJ⟩ : ∃ J, J = Int.tmod (IntKind.u64.wrap a1) (n : Int) := ⟨_, rfl⟩
  rw [← hJ] at t0 t1 ⊢
  clear hJ hlw hr
  rw [w64 t0 (by omega)]
  exact ⟨t0, t1⟩
theorem j1_ev (a1 a2 : Int) (l : List Int) (h : ∀ b ∈ l, 0 ≤ b ∧ b < 256) (hl : l.length ≤ 2097152) (h0 : 0 ≤ a2) (h1 : a2 < 256) : Ev (fun k => stratumlaw07_PartHexes.j1 k a1 a2 l false) true := by
  refine Ev.step (fun k => by simp only [stratumlaw07_PartHexes.j1]; rfl) ?_
  simp only [Bool.false_eq_true, if_false]
  by_cases z : (l.length : Int) = 0
  · simp only [if_pos z, ite_self]
    exact Ev.now _
  · have z2 : ¬ IntKind.u64.wrap (l.length : Int) = 0 := by rw [IntKind.wrap_u64]; omega
    have hJ2 := jrange a1 l.length z hl
    obtain ⟨J, hJ⟩ : ∃ J, J = wrap64 (Int.tmod (IntKind.u64.wrap a1) (IntKind.u64.wrap (l.length : Int))) := ⟨_, rfl⟩
    rw [← hJ] at hJ2
    obtain ⟨g0, g1⟩ := hJ2
    simp only [if_neg z, if_neg z2, ← hJ, if_pos g0, if_pos g1]
    clear hJ z2
    by_cases hd : hexv a2 = 16
    · have hx : Ev (fun k => part_Hex.f k (strOfNums (l.set J.toNat a2))) (⟨#[]⟩, 111) := by
        have e := hex_ev (strOfNums (l.set J.toNat a2)) (by rw [strOf_size (set_range h h0 h1), List.length_set]; omega)
        rwa [hexOut_bad h h0 h1 hd (by omega)] at e
      have hn : ¬ (48 ≤ a2 ∧ a2 ≤ 57) ∧ ¬ (97 ≤ a2 ∧ a2 ≤ 102) ∧ ¬ (65 ≤ a2 ∧ a2 ≤ 70) := by
        unfold hexv at hd
        refine ⟨fun x => ?_, fun x => ?_, fun x => ?_⟩
        · rw [if_pos x] at hd; omega
        · rw [if_neg (by omega), if_pos x] at hd; omega
        · rw [if_neg (by omega), if_neg (by omega), if_pos x] at hd; omega
      have fin : Ev (fun k => (part_Hex.f k (strOfNums (l.set J.toNat a2))).bind fun bt => (if bt.1.toList = ([] : List UInt8) then (some (bt.2 == 111)) else (some false))) true := by
        refine Ev.bind hx ?_
        simp only [toList_eq, if_true]
        exact Ev.now _
      by_cases p1 : a2 ≥ 48 <;> by_cases p2 : a2 ≤ 57 <;> by_cases p3 : a2 ≥ 97 <;> by_cases p4 : a2 ≤ 102 <;> by_cases p5 : a2 ≥ 65 <;> by_cases p6 : a2 ≤ 70 <;> first | (exfalso; omega) | (simp only [p1, p2, p3, p4, p5, p6, if_true, if_false]; exact fin)
    · have hn : (48 ≤ a2 ∧ a2 ≤ 57) ∨ (97 ≤ a2 ∧ a2 ≤ 102) ∨ (65 ≤ a2 ∧ a2 ≤ 70) := by
        unfold hexv at hd
        split at hd
        · exact .inl (by assumption)
        · split at hd
          · exact .inr (.inl (by assumption))
          · split at hd
            · exact .inr (.inr (by assumption))
            · exact absurd rfl hd
      by_cases p1 : a2 ≥ 48 <;> by_cases p2 : a2 ≤ 57 <;> by_cases p3 : a2 ≥ 97 <;> by_cases p4 : a2 ≤ 102 <;> by_cases p5 : a2 ≥ 65 <;> by_cases p6 : a2 ≤ 70 <;> first | (exfalso; omega) | (simp only [p1, p2, p3, p4, p5, p6, if_true, if_false]; exact Ev.now _)
theorem PartHexes (a0 : ByteArray) (a1 a2 : Int) (m : Int) (hb : a0.size ≤ 1048576) (y1 : (Lit.int .i64 a1).wf = true) (y2 : (Lit.int .u8 a2).wf = true) : ∃ k, stratumlaw07_PartHexes.f k a0 a1 a2 [m] = some true := by
  have hbd2 := Go.bounds_u8 y2
  have hL : Dig lo := fun d h0 h1 => lo_hex h0 h1
  have hU : Dig up := fun d h0 h1 => up_hex h0 h1
  have hbl := bytesOf_length a0
  refine Ev.rounds ?_
  unfold stratumlaw07_PartHexes.f
  refine Ev.bind (awake_ev m) ?_
  simp only [if_true]
  have key : ∀ (d i : Nat), a0.size - i ≤ d → i ≤ a0.size → Ev (fun k => stratumlaw07_PartHexes.l0 k a0 a1 a2 (enc lo ((bytesOf a0).take i)) (enc up ((bytesOf a0).take i)) (i : Int)) true := by
    intro d
    induction d with
    | zero =>
      intro i hd hi
      obtain rfl : i = a0.size := by omega
      have hrL := enc_bytes hL (bytes_range a0)
      have hrU := enc_bytes hU (bytes_range a0)
      have e1 := hex_ev (strOfNums (enc lo (bytesOf a0))) (by rw [strOf_size hrL, enc_len]; omega)
      have e2 := hex_ev (strOfNums (enc up (bytesOf a0))) (by rw [strOf_size hrU, enc_len]; omega)
      have hz : (strOfNums (enc lo (bytesOf a0)) ++ (⟨#[48]⟩ : ByteArray)).size = 2 * a0.size + 1 := by
        rw [ByteArray.size_append, strOf_size hrL, enc_len, hbl]; rfl
      have e3 := hex_ev (strOfNums (enc lo (bytesOf a0)) ++ (⟨#[48]⟩ : ByteArray)) (by rw [hz]; omega)
      rw [hexOut_enc hL] at e1
      rw [hexOut_enc hU] at e2
      rw [show hexOut (strOfNums (enc lo (bytesOf a0)) ++ (⟨#[48]⟩ : ByteArray)) = (⟨#[]⟩, 111) from by unfold hexOut; rw [if_neg (by rw [hz]; omega)]] at e3
      have g1 : (strOfNums (enc lo (bytesOf a0))).size + 1 ≤ 9223372036854775807 := by rw [strOf_size hrL, enc_len]; omega
      refine Ev.step (fun k => by simp only [stratumlaw07_PartHexes.l0]; rfl) ?_
      rw [List.take_of_length_le (by rw [hbl]; exact Nat.le_refl _)]
      simp only [Int.lt_irrefl, if_false]
      refine Ev.bind e1 ?_
      refine Ev.bind e2 ?_
      simp only [if_pos g1]
      refine Ev.bind e3 ?_
      simp only [toList_eq, if_true]
      exact j1_ev a1 a2 _ hrL (by rw [enc_len]; omega) (by omega) (by omega)
    | succ d ih =>
      intro i hd hi
      by_cases hlt : i < a0.size
      · have hr := bt_range a0 (i : Int)
        have g1 : (i : Int) < (a0.size : Int) := by omega
        have g2 : (0 : Int) ≤ (i : Int) := by omega
        have q1 : Int.tdiv (bt a0 (i : Int)) 16 % 256 = bt a0 (i : Int) / 16 := by rw [Int.tdiv_eq_ediv_of_nonneg (by omega)]; omega
        have q2 : Int.tmod (bt a0 (i : Int)) 16 = bt a0 (i : Int) % 16 := Int.tmod_eq_emod_of_nonneg (by omega)
        have g3 : 0 ≤ bt a0 (i : Int) / 16 := by omega
        have g4 : bt a0 (i : Int) / 16 < 16 := by omega
        have g5 : 0 ≤ bt a0 (i : Int) % 16 := by omega
        have g6 : bt a0 (i : Int) % 16 < 16 := by omega
        have tk : ∀ f : Int → Int, enc f ((bytesOf a0).take (i + 1)) = enc f ((bytesOf a0).take i) ++ [f (bt a0 (i : Int) / 16), f (bt a0 (i : Int) % 16)] := by
          intro f
          rw [List.take_add_one, enc_append]
          congr 1
          have : (bytesOf a0)[i]? = some (bt a0 (i : Int)) := by
            have h := drop_bytes hlt
            have h2 := congrArg (fun l : List Int => l[0]?) h
            simpa using h2
          rw [this]; rfl
        have lt : ∀ f : Int → Int, (enc f ((bytesOf a0).take i)).length + [f (bt a0 (i : Int) / 16), f (bt a0 (i : Int) % 16)].length < 140737488355328 := by
          intro f
          rw [enc_len, List.length_take]
          simp only [List.length_cons, List.length_nil]
          omega
        have ihh := ih (i + 1) (by omega) (by omega)
        rw [tk lo, tk up] at ihh
        have hw : wrap64 ((i : Int) + 1) = ((i + 1 : Nat) : Int) := by rw [w64 (by omega) (by omega)]; rfl
        refine Ev.step (fun k => by simp only [stratumlaw07_PartHexes.l0]; rfl) ?_
        simp only [if_pos g1, if_pos g2, q1, q2, if_pos g3, if_pos g4, if_pos g5, if_pos g6, lo_bt _ g3 g4, lo_bt _ g5 g6, up_bt _ g3 g4, up_bt _ g5 g6, Option.bind_some, if_pos (lt lo), if_pos (lt up), hw]
        exact ihh
      · exact ih i (by omega) hi
  have h0 := key a0.size 0 (by omega) (by omega)
  rw [List.take_zero] at h0
  exact h0
end Go.Proofs.Ythgkemkcepkkcaa.Pure
