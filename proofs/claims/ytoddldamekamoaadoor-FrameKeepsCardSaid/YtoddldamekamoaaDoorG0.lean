/- The walks of frame.Sum, frame.whole, slices.Clone and frame.Scan: what they answer, in plain lists. Conditions: the table holds what the program's text lays, the bytes are bytes, at most 2^47 of them. -/
import Derived.Test.YtoddldamekamoaaDoorY1
import Derived.Test.YtoddldamekamoaaDoorC0
import Derived.Test.YtoddldamekamoaaDoorWWords
import Derived.Test.YtoddldamekamoaaDoorWLast
import Derived.Test.YtoddldamekamoaaDoorWMore
import Derived.Test.YtoddldamekamoaaDoorM
import Derived.BigCall
set_option linter.unusedVariables false
set_option linter.unusedSimpArgs false
namespace Go.Proofs.YtoddldamekamoaaDoor.G
open Go.RowKit Go.Proofs.YtoddldamekamoaaDoorW.PrintWords Go.Proofs.YtoddldamekamoaaDoorW.PrintLast Go.Proofs.YtoddldamekamoaaDoorW.PrintMore

def tableI : List Int := C.table.map fun n : Nat => (n : Int)
def bytesOk (l : List Int) : Prop := ∀ c ∈ l, 0 ≤ c ∧ c < 256
instance (l : List Int) : Decidable (bytesOk l) := inferInstanceAs (Decidable (∀ c ∈ l, 0 ≤ c ∧ c < 256))
/-- The sum. -/
def crcN (l : List Int) : Nat := 4294967295 ^^^ C.run 4294967295 (l.map Int.toNat)
theorem rd_table (i : Nat) (h : i < 16) : rd tableI (i : Int) = ((C.tab i : Nat) : Int) := by
  have key : ∀ j : Nat, j < 16 → rd tableI (j : Int) = ((C.tab j : Nat) : Int) := by decide +kernel
  exact key i h
theorem tab_cell {w : World} (hg : Kd.C (Kd.int .u32) w (some ⟨0, 0, none⟩) tableI.length tableI) (i : Nat) (h : i < 16) : w.cell? ⟨0, i, none⟩ = some (.int .u32 ((C.tab i : Nat) : Int)) := by
  have := glob_cell hg i (by show i < 16; exact h)
  rwa [rd_table i h] at this
theorem and15 (x : Nat) (h : x < 4294967296) : Go.bits .and .u32 (x : Int) 15 = ((x % 16 : Nat) : Int) := by
  have e := u32_and_nat x 15 h (by omega)
  have e2 : x &&& 15 = x % 16 := Nat.and_two_pow_sub_one_eq_mod x 4
  rw [e2] at e; exact e
theorem nib_bits (x : Nat) (h : x < 4294967296) : Go.bits .xor .u32 ((x : Int) / 16) ((C.tab (x % 16) : Nat) : Int) = ((C.nib x : Nat) : Int) := by
  have e : ((x : Int) / 16) = ((x / 16 : Nat) : Int) := by omega
  rw [e]; exact u32_xor_nat _ _ (by omega) (C.tab_lt _)
theorem w64 {x : Int} (h0 : 0 ≤ x) (h1 : x ≤ 4611686018427387904) : wrap64 x = x := by unfold wrap64; omega
def left : Value → Nat
  | .int _ i => i.toNat
  | _ => 0
set_option maxHeartbeats 2000000 in
set_option maxRecDepth 100000 in
theorem sum_calls (A0 : Option Addr) (c0 : Nat) (l0 : List Int) (w : World) (hr0 : Kd.C (Kd.int .u8) w A0 l0.length l0) (hg : Kd.C (Kd.int .u32) w (some ⟨0, 0, none⟩) tableI.length tableI) (hb : bytesOk l0) (hn : l0.length ≤ 140737488355328) :
    Calls Tryd.prog 11 #[.slice A0 l0.length c0] w fun e w' => e = .returned (.int .u32 (crcN l0 : Nat)) ∧ w' = w := by
  have HR0 := Aside0.mk hr0
  have HG := Aside0.mk hg
  have HB := Aside0.mk hb
  have HN := Aside0.mk hn
  clear hr0 hg hb hn
  go_enter Tryd.func11, Tryd.ntmps11
  go_wp2
  go_loopw [3, 8] (fun tx tv wr => ∃ (i x : Nat), tv = .int .i64 (i : Int) ∧ tx = .int .u32 (x : Int) ∧ Aside0 (i ≤ l0.length) ∧ x < 4294967296 ∧ Aside0 (C.run x ((l0.drop i).map Int.toNat) = C.run 4294967295 (l0.map Int.toNat)) ∧ wr = w)
    (fun tx tv _ => l0.length - left tv)
  case atStart => exact ⟨0, 4294967295, rfl, rfl, ⟨Nat.zero_le _⟩, by omega, ⟨rfl⟩, rfl⟩
  case round =>
    obtain ⟨i, x, rfl, rfl, hi, hx, HX, rfl⟩ := hrel
    by_cases c : i < l0.length
    · have c1 : decide ((i : Int) < (l0.length : Int)) = true := decide_eq_true (by omega)
      have c2 : decide (i < l0.length) = true := decide_eq_true c
      obtain ⟨_, _, h2⟩ := Kd.reads_of_C (d := (0 : Int)) (h1 := fun _ => rfl) HR0.out
      obtain ⟨ad, rfl, hc⟩ := h2 (by omega)
      have hcell := hc i c
      obtain ⟨b, hbv⟩ : ∃ b : Int, b = l0.getD i 0 := ⟨_, rfl⟩
      rw [← hbv] at hcell
      have hmem : b ∈ l0 := by
        rw [hbv]; rw [List.getD_eq_getElem?_getD, List.getElem?_eq_getElem c]; exact List.getElem_mem c
      obtain ⟨b0, b1⟩ := HB.out b hmem
      obtain ⟨m, rfl⟩ := Int.eq_ofNat_of_zero_le b0
      have hm : m < 256 := by omega
      have e1 : Go.bits .xor .u32 (x : Int) (m : Int) = ((x ^^^ m : Nat) : Int) := u32_xor_nat x m hx (by omega)
      have e1w : IntKind.u32.wrap (m : Int) = (m : Int) := by rw [IntKind.wrap_u32]; omega
      obtain ⟨y, hy⟩ : ∃ y, y = x ^^^ m := ⟨_, rfl⟩
      have hy1 : y < 4294967296 := by rw [hy]; exact Nat.xor_lt_two_pow (n := 32) hx (by omega)
      rw [← hy] at e1
      have e2 := and15 y hy1
      have e3 := nib_bits y hy1
      have t1 := tab_cell HG.out (y % 16) (by omega)
      obtain ⟨z, hz⟩ : ∃ z, z = C.nib y := ⟨_, rfl⟩
      have hz1 : z < 4294967296 := by rw [hz]; exact C.nib_lt hy1
      rw [← hz] at e3
      have e4 := and15 z hz1
      have e5 := nib_bits z hz1
      have t2 := tab_cell HG.out (z % 16) (by omega)
      have hst : C.nib z = C.step x m := by rw [hz, hy]; rfl
      rw [hst] at e5
      have hs1 : C.step x m < 4294967296 := C.step_lt hx hm
      have hdrop : l0.drop i = (m : Int) :: l0.drop (i + 1) := by
        rw [List.drop_eq_getElem_cons c]; congr 1
        rw [hbv]; rw [List.getD_eq_getElem?_getD, List.getElem?_eq_getElem c]; rfl
      have HX2 : Aside0 (C.run (C.step x m) ((l0.drop (i + 1)).map Int.toNat) = C.run 4294967295 (l0.map Int.toNat)) := ⟨by rw [← HX.out, hdrop]; rfl⟩
      have q1 : y % 16 < 16 := Nat.mod_lt _ (by omega)
      have q2 : z % 16 < 16 := Nat.mod_lt _ (by omega)
      have hw1 : wrap64 ((i : Int) + 1) = ((i + 1 : Nat) : Int) := by unfold wrap64; have := HN.out; omega
      have HW := Aside0.mk hw1
      clear hw1 HX hdrop hbv hmem b0 b1 hy hz hst h2 hc
      go_wp2
      refine ⟨⟨i + 1, C.step x m, by simp, rfl, ⟨by omega⟩, hs1, HX2, trivial⟩, ?_⟩
      show l0.length - ((i : Int) + 1).toNat < l0.length - ((i : Nat) : Int).toNat
      omega
    · have c1 : decide ((i : Int) < (l0.length : Int)) = false := decide_eq_false (by omega)
      have c2 : decide (i < l0.length) = false := decide_eq_false c
      obtain rfl : i = l0.length := by have := hi.out; omega
      have hx2 := HX.out
      rw [List.drop_length] at hx2
      have hx3 : x = C.run 4294967295 (l0.map Int.toNat) := hx2
      have e1 : Go.bits .xor .u32 4294967295 (x : Int) = ((4294967295 ^^^ x : Nat) : Int) := u32_xor_nat 4294967295 x (by omega) hx
      have e3 : (4294967295 ^^^ x : Nat) = crcN l0 := by rw [hx3]; rfl
      have e4 : Go.bits .xor .u32 IntKind.u32.max (x : Int) = ((crcN l0 : Nat) : Int) := by rw [← e3]; exact e1
      clear hx2 HX hx3 e1 e3
      go_wp2
      go_ret
      exact ⟨rfl, rfl⟩

/-! ### frame.number, frame.whole -/
theorem drawn0_below' {w w1 w2 : World} (h : Below w.heap.size w w1) (h2 : Drawn0 w1 w2) : Below w.heap.size w w2 := below_step h h2.below
theorem rd_mem {l : List Int} {i : Nat} (h : i < l.length) : rd l (i : Int) ∈ l := by
  unfold rd; rw [Int.toNat_natCast, List.getD_eq_getElem?_getD, List.getElem?_eq_getElem h]; exact List.getElem_mem h
/-- The number at the front. -/
def num (l : List Int) : Int := rd l 0 + 256 * rd l 1 + 65536 * rd l 2 + 16777216 * rd l 3
theorem number_eq {l : List Int} (hb : bytesOk l) (h : 4 ≤ l.length) : Y.frame_number.f l = some (num l) := by
  have m0 := hb _ (rd_mem (l := l) (i := 0) (by omega))
  have m1 := hb _ (rd_mem (l := l) (i := 1) (by omega))
  have m2 := hb _ (rd_mem (l := l) (i := 2) (by omega))
  have m3 := hb _ (rd_mem (l := l) (i := 3) (by omega))
  change 0 ≤ rd l 0 ∧ rd l 0 < 256 at m0
  change 0 ≤ rd l 1 ∧ rd l 1 < 256 at m1
  change 0 ≤ rd l 2 ∧ rd l 2 < 256 at m2
  change 0 ≤ rd l 3 ∧ rd l 3 < 256 at m3
  obtain ⟨a, ha⟩ := Int.eq_ofNat_of_zero_le m0.1
  obtain ⟨b, hb'⟩ := Int.eq_ofNat_of_zero_le m1.1
  obtain ⟨c, hc⟩ := Int.eq_ofNat_of_zero_le m2.1
  obtain ⟨d, hd⟩ := Int.eq_ofNat_of_zero_le m3.1
  have or_add : ∀ (k x y : Nat), x < 2 ^ k → x ||| 2 ^ k * y = x + 2 ^ k * y := by
    intro k x y hx
    rw [Nat.or_comm, ← Nat.two_pow_add_eq_or_of_lt hx, Nat.add_comm]
  unfold Y.frame_number.f num
  rw [if_pos (by omega), if_pos (by omega), if_pos (by omega), if_pos (by omega), ha, hb', hc, hd]
  congr 1
  have ha1 : a < 256 := by omega
  have hb1 : b < 256 := by omega
  have hc1 : c < 256 := by omega
  have hd1 : d < 256 := by omega
  rw [show ((a : Int) % 4294967296) = ((a : Nat) : Int) by omega, show ((b : Int) % 4294967296) * 256 % 4294967296 = ((2 ^ 8 * b : Nat) : Int) by omega,
    show ((c : Int) % 4294967296) * 65536 % 4294967296 = ((2 ^ 16 * c : Nat) : Int) by omega, show ((d : Int) % 4294967296) * 16777216 % 4294967296 = ((2 ^ 24 * d : Nat) : Int) by omega]
  rw [u32_or_nat _ _ (by omega) (by omega), or_add 8 a b (by omega), u32_or_nat _ _ (by omega) (by omega), or_add 16 _ c (by omega), u32_or_nat _ _ (by omega) (by omega), or_add 24 _ d (by omega)]
  omega
theorem num_range {l : List Int} (hb : bytesOk l) (h : 4 ≤ l.length) : 0 ≤ num l ∧ num l < 4294967296 := by
  have m0 := hb _ (rd_mem (l := l) (i := 0) (by omega))
  have m1 := hb _ (rd_mem (l := l) (i := 1) (by omega))
  have m2 := hb _ (rd_mem (l := l) (i := 2) (by omega))
  have m3 := hb _ (rd_mem (l := l) (i := 3) (by omega))
  change 0 ≤ rd l 0 ∧ rd l 0 < 256 at m0
  change 0 ≤ rd l 1 ∧ rd l 1 < 256 at m1
  change 0 ≤ rd l 2 ∧ rd l 2 < 256 at m2
  change 0 ≤ rd l 3 ∧ rd l 3 < 256 at m3
  unfold num; omega
theorem bytesOk_drop {l : List Int} (h : bytesOk l) (n : Nat) : bytesOk (l.drop n) := fun c hc => h c (List.mem_of_mem_drop hc)
theorem bytesOk_take {l : List Int} (h : bytesOk l) (n : Nat) : bytesOk (l.take n) := fun c hc => h c (List.mem_of_mem_take hc)
/-- The length of the payload of the whole frame at the front; none: none stands there. -/
def whole (l : List Int) : Option Nat :=
  if l.length < 8 then none else
  if num l < 1 ∨ 33554432 < num l ∨ (l.length : Int) - 8 < num l then none else
  if num (l.drop 4) = (crcN ((l.drop 8).take (num l).toNat) : Nat) then some (num l).toNat else none
def wholeOut (l0 : List Int) : Option Nat → Ending → World → Prop
  | none, e, _ => ∃ v : Value, e = .returned (.tuple #[v, .bool false])
  | some n, e, w' => ∃ A c, e = .returned (.tuple #[.slice A n c, .bool true]) ∧ n ≤ c ∧ Kd.C (Kd.int .u8) w' A ((l0.drop 8).take n).length ((l0.drop 8).take n)
set_option maxHeartbeats 2000000 in
set_option maxRecDepth 100000 in
theorem whole_calls (A0 : Option Addr) (c0 : Nat) (l0 : List Int) (w : World) (hr0 : Kd.C (Kd.int .u8) w A0 l0.length l0) (hc0 : l0.length ≤ c0) (hg : Kd.C (Kd.int .u32) w (some ⟨0, 0, none⟩) tableI.length tableI) (hb : bytesOk l0) (hn : l0.length ≤ 140737488355328) :
    Calls Tryd.prog 23 #[.slice A0 l0.length c0] w fun e w' => wholeOut l0 (whole l0) e w' ∧ Below w.heap.size w w' := by
  have HR0 := Aside0.mk hr0
  have HC0 := Aside0.mk hc0
  have HG := Aside0.mk hg
  have HB := Aside0.mk hb
  have HN := Aside0.mk hn
  obtain ⟨o, ho⟩ : ∃ o, o = whole l0 := ⟨_, rfl⟩
  rw [← ho]
  unfold whole at ho
  have HO := Aside0.mk ho
  clear hr0 hg hb ho
  go_enter Tryd.func23, Tryd.ntmps23
  by_cases c : l0.length < 8
  · have c1 : decide ((l0.length : Int) < 8) = true := decide_eq_true (by omega)
    have c2 : decide (l0.length < 8) = true := decide_eq_true c
    go_wp2
    go_ret2
    have h := HO.out
    rw [if_pos c] at h
    subst h
    exact ⟨⟨_, rfl⟩, Below.refl _ _⟩
  · have c1 : decide ((l0.length : Int) < 8) = false := decide_eq_false (by omega)
    have c2 : decide (l0.length < 8) = false := decide_eq_false c
    have hnum := number_eq HB.out (show 4 ≤ l0.length by omega)
    have hrg := num_range HB.out (show 4 ≤ l0.length by omega)
    have HNUM := Aside0.mk hnum
    clear hnum hc0 hn
    obtain ⟨n, hnn⟩ : ∃ n, n = num l0 := ⟨_, rfl⟩
    rw [← hnn] at HNUM hrg HO
    clear hnn
    obtain ⟨hn0, hn1⟩ := hrg
    go_wp2_with (go_at_call 26; refine (Y.frame_number.calls A0 c0 l0 n _ HR0.out HC0.out HNUM.out).mono ?_)
    rintro e w1 ⟨rfl, hd1⟩
    have HB1 := Aside0.mk (hd1.below)
    have HR1 := Aside0.mk (Kd.C_below HR0.out HB1.out)
    have HG1 := Aside0.mk (Kd.C_below HG.out HB1.out)
    clear hd1 HR0 HG
    have e0 : IntKind.u64.wrap n = n := by rw [IntKind.wrap_u64]; omega
    have e1 : wrap64 ((l0.length : Int) - 8) = (l0.length : Int) - 8 := by unfold wrap64; have := HN.out; omega
    have e2 : IntKind.u64.wrap ((l0.length : Int) - 8) = (l0.length : Int) - 8 := by rw [IntKind.wrap_u64]; have := HN.out; omega
    have E1 := Aside0.mk e1
    clear e1
    by_cases cA : n < 1
    · have b1 : decide (n < 1) = true := decide_eq_true cA
      have h := HO.out
      rw [if_neg c, if_pos (.inl cA)] at h
      subst h
      clear HO
      go_wp2
      go_ret2
      exact ⟨⟨_, rfl⟩, HB1.out⟩
    · have b1 : decide (n < 1) = false := decide_eq_false cA
      by_cases cB : 33554432 < n
      · have b2 : decide (33554432 < n) = true := decide_eq_true cB
        have h := HO.out
        rw [if_neg c, if_pos (.inr (.inl cB))] at h
        subst h
        clear HO
        go_wp2
        go_ret2
        exact ⟨⟨_, rfl⟩, HB1.out⟩
      · have b2 : decide (33554432 < n) = false := decide_eq_false cB
        by_cases cC : (l0.length : Int) - 8 < n
        · have b3 : decide ((l0.length : Int) - 8 < n) = true := decide_eq_true cC
          have h := HO.out
          rw [if_neg c, if_pos (.inr (.inr cC))] at h
          subst h
          clear HO
          go_wp2
          go_ret2
          exact ⟨⟨_, rfl⟩, HB1.out⟩
        · have b3 : decide ((l0.length : Int) - 8 < n) = false := decide_eq_false cC
          have h := HO.out
          rw [if_neg c, if_neg (by omega)] at h
          have HO2 := Aside0.mk h
          clear HO h
          obtain ⟨m, rfl⟩ := Int.eq_ofNat_of_zero_le hn0
          have s1 : 8 + (m : Int) ≤ (c0 : Int) := by have := HC0.out; omega
          have s2 : (0 : Int) ≤ 8 + (m : Int) := by omega
          have s3 : (8 + (m : Int)).toNat = 8 + m := by omega
          have s4 : (8 : Int) ≤ 8 + (m : Int) := by omega
          have s5 : 8 + m - 8 = m := by omega
          have s8 : (4 : Int) ≤ (l0.length : Int) := by omega
          have s9 : (4 : Nat) ≤ l0.length := by omega
          have hl8 : m ≤ (l0.drop 8).length := by rw [List.length_drop]; omega
          have hd8 := Kd.C_take (Kd.C_drop (m := 8) (c := c0) HR1.out (by omega) HC0.out) hl8
          have hd4 := Kd.C_drop (m := 4) (c := c0) HR1.out s9 HC0.out
          have hl4 : (l0.drop 4).length = l0.length - 4 := List.length_drop
          have hlt : ((l0.drop 8).take m).length = m := List.length_take_of_le hl8
          have n4 := Aside0.mk (number_eq (bytesOk_drop HB.out 4) (show 4 ≤ (l0.drop 4).length by omega))
          have hcrc := bytesOk_take (bytesOk_drop HB.out 8) m
          have hm47 : m ≤ 140737488355328 := by omega
          have hc8 : m ≤ c0 - 8 := by have := HC0.out; omega
          have hc4 : l0.length - 4 ≤ c0 - 4 := by have := HC0.out; omega
          have k8 : c0 ≠ 8 := by have := HC0.out; omega
          have k4 : c0 ≠ 4 := by have := HC0.out; omega
          rw [if_neg k8] at hd8
          rw [if_neg k4] at hd4
          have HD8 := Aside0.mk hd8
          have HD4 := Aside0.mk hd4
          have HCRC := Aside0.mk hcrc
          clear hd8 hd4 hcrc c
          have E4 : Aside0 (wrap64 (m : Int) = (m : Int)) := ⟨w64 (by omega) (by omega)⟩
          have E5 : Aside0 (wrap64 (8 + (m : Int)) = 8 + (m : Int)) := ⟨w64 (by omega) (by omega)⟩
          have E3 : Aside0 (IntKind.u64.wrap (wrap64 ((l0.length : Int) - 8)) = (l0.length : Int) - 8) := ⟨by rw [E1.out]; exact e2⟩
          clear e2 hn0 hn1 cA cB cC
          have hnc := Y.frame_number.calls _ (c0 - 4) (l0.drop 4) (num (l0.drop 4)) w1 HD4.out (by rw [hl4]; exact hc4) n4.out
          rw [hl4] at hnc
          have HNC := Aside0.mk hnc
          clear hnc
          obtain ⟨q, hq⟩ : ∃ q, q = num (l0.drop 4) := ⟨_, rfl⟩
          rw [← hq] at HNC HO2
          clear hq n4
          have e4 : ∀ [Inhabited Unit], wrap64 (m : Int) = (m : Int) := fun {_} => E4.out
          have e5 : ∀ [Inhabited Unit], wrap64 (8 + (m : Int)) = 8 + (m : Int) := fun {_} => E5.out
          have e3 : ∀ [Inhabited Unit], IntKind.u64.wrap (wrap64 ((l0.length : Int) - 8)) = (l0.length : Int) - 8 := fun {_} => E3.out
          go_wp2_with (go_at_call 26; refine HNC.out.mono ?_)
          rintro e w2 ⟨rfl, hd2⟩
          clear e3 e4 e5
          have HBE := Aside0.mk (drawn0_below' HB1.out hd2)
          have HS := Aside0.mk (sum_calls _ (c0 - 8) ((l0.drop 8).take m) w2 (Kd.C_below HD8.out hd2.below) (Kd.C_below HG1.out hd2.below) HCRC.out (by rw [hlt]; exact hm47))
          have HD9 := Aside0.mk (Kd.C_below HD8.out hd2.below)
          have hs := HS.out
          rw [hlt] at hs
          have HS2 := Aside0.mk hs
          clear hs HS HNC hd2 HD4
          obtain ⟨z, hz⟩ : ∃ z, z = crcN ((l0.drop 8).take m) := ⟨_, rfl⟩
          have h := HO2.out
          rw [show (m : Int).toNat = m from Int.toNat_natCast m, ← hz] at h
          rw [← hz] at HS2
          clear hz
          by_cases cE : q = (z : Int)
          · have b4 : (q == (z : Int)) = true := beq_iff_eq.mpr cE
            rw [if_pos cE] at h
            subst h
            clear HO2
            go_wp2_with (go_at_call 11; refine HS2.out.mono ?_; rintro e w3 ⟨rfl, rfl⟩)
            go_ret2
            exact ⟨⟨_, _, rfl, hc8, HD9.out⟩, HBE.out⟩
          · have b4 : (q == (z : Int)) = false := beq_eq_false_iff_ne.mpr cE
            rw [if_neg cE] at h
            subst h
            clear HO2
            go_wp2_with (go_at_call 11; refine HS2.out.mono ?_; rintro e w3 ⟨rfl, rfl⟩)
            go_ret2
            exact ⟨⟨_, rfl⟩, HBE.out⟩
end Go.Proofs.YtoddldamekamoaaDoor.G
