/- The texts of the law PrintLeaves, put together by a program of this workplace out of its own texts and of what the kit's print has written: walks of the functions, plain laws. No condition but those in the theorems. -/
import Derived.KernelRfl
import Derived.Test.YtaijoghpfobdbaaDoorRows
import Derived.Lib.LaidTab
import Derived.LaidSub
import Derived.LaidLaws
import Derived.Test.YtaijoghpfobdbaaDoorBPrintLeaves0
import Derived.Test.YtaijoghpfobdbaaDoorBPrintLeaves1
import Derived.Test.YtaijoghpfobdbaaDoorBPrintLeaves2
import Derived.Test.YtaijoghpfobdbaaDoorBPrintLeaves3
section
set_option linter.unusedVariables false
set_option linter.unusedSimpArgs false
namespace Go.Proofs.YtaijoghpfobdbaaDoor.W
open Go.RowKit Go.Proofs.YtaijoghpfobdbaaDoor.X Go.Proofs.YtaijoghpfobdbaaDoorW.PrintWords Go.Proofs.YtaijoghpfobdbaaDoorW.PrintLast Go.Proofs.YtaijoghpfobdbaaDoorW.PrintMore
open Go.Proofs.YtaijoghpfobdbaaDoor.P (Tr Nd Wrote puts put fin kv kd sg build dep dmx pile judgeE tx txs txN sepL WF StD VeD EvD wordB nameB emB noV goodB wordList wrs stE allE veE evE wholeE lineT txV stT veT evT schT schE)
theorem flat_get : ∀ (css : List (List Value)) (sz i j : Nat) (cs : List Value), (∀ c, c ∈ css → c.length = sz) → css[i]? = some cs → j < sz → css.flatten[i * sz + j]? = cs[j]?
  | [], sz, i, j, cs, _, h, _ => by simp at h
  | c :: css, sz, 0, j, cs, hl, h, hj => by
    simp only [List.getElem?_cons_zero, Option.some.injEq] at h
    subst h
    rw [List.flatten_cons, Nat.zero_mul, Nat.zero_add, List.getElem?_append_left (by rw [hl c (by simp)]; exact hj)]
  | c :: css, sz, i + 1, j, cs, hl, h, hj => by
    have hc := hl c (by simp)
    rw [List.flatten_cons, List.getElem?_append_right (by rw [hc, Nat.succ_mul]; omega), hc, show (i + 1) * sz + j - sz = i * sz + j by rw [Nat.succ_mul]; omega]
    exact flat_get css sz i j cs (fun d hd => hl d (List.mem_cons_of_mem _ hd)) (by simpa using h) hj
theorem C_rows {α : Type} (d : Kd α) {w : World} {g e : Nat} (xs : List α) (css : List (List Value)) (hl : css.length = xs.length) (hk : ∀ (i : Nat) (x : α) (cs : List Value), xs[i]? = some x → css[i]? = some cs → d.K w x cs)
    (h : w.heap[g]? = some (.cells css.flatten.toArray e (0, 0))) (hn : xs.length ≤ 9223372036854775807) : Kd.C d w (some ⟨g, 0, none⟩) xs.length xs := by
  refine ⟨rfl, hn, fun _ => ⟨_, rfl, fun j p hj => ?_⟩⟩
  have hj2 : j < css.length := by rw [hl]; exact (List.getElem?_eq_some_iff.1 hj).1
  have hcs : css[j]? = some css[j] := List.getElem?_eq_getElem hj2
  have hK := hk j p _ hj hcs
  refine ⟨css[j], d.K_len hK, hK, fun i u hu => ?_⟩
  have hi : i < d.sz := by rw [← d.K_len hK]; exact (List.getElem?_eq_some_iff.1 hu).1
  have hall : ∀ c, c ∈ css → c.length = d.sz := by
    intro c hc
    obtain ⟨m, hm, rfl⟩ := List.getElem_of_mem hc
    have hm2 : m < xs.length := by rw [← hl]; exact hm
    exact d.K_len (hk m xs[m] css[m] (List.getElem?_eq_getElem hm2) (List.getElem?_eq_getElem hm))
  show w.cell? ((⟨g, 0, none⟩ : Addr).add (j * d.sz + i)) = some u
  rw [Lib.add_plain, Nat.zero_add, blk_cell h, List.getElem?_toArray, flat_get css d.sz j i _ hall hcs hi]
  exact hu
def sumN : List Nd := [⟨1, 0, 1, ⟨#[]⟩, 0⟩, ⟨1, 0, 2, ⟨#[]⟩, 0⟩, ⟨1, 0, 3, ⟨#[]⟩, 0⟩, ⟨5, 0, 0, ⟨#[]⟩, 0⟩, ⟨8, 0, 0, ⟨#[]⟩, 0⟩, ⟨6, 0, 0, ⟨#[]⟩, 0⟩]
def sumT : Tr := .mk ⟨6, 0, 0, ⟨#[]⟩, 0⟩ [.mk ⟨1, 0, 1, ⟨#[]⟩, 0⟩ [], .mk ⟨8, 0, 0, ⟨#[]⟩, 0⟩ [.mk ⟨1, 0, 2, ⟨#[]⟩, 0⟩ [], .mk ⟨5, 0, 0, ⟨#[]⟩, 0⟩ [.mk ⟨1, 0, 3, ⟨#[]⟩, 0⟩ []]]]
theorem ba0 : (⟨#[]⟩ : ByteArray).toList = [] := by rw [ByteArray.toList_eq]
theorem sum_build : build sumN [] = some [sumT] := by
  have k1 : ∀ u : Int, kd ⟨1, 0, u, ⟨#[]⟩, 0⟩ = some 0 := fun u => by rw [P.kd_kr]; simp [P.badF, P.kr, ba0]
  have k5 : kd ⟨5, 0, 0, ⟨#[]⟩, 0⟩ = some 1 := by rw [P.kd_kr]; simp [P.badF, P.kr, ba0]
  have k6 : kd ⟨6, 0, 0, ⟨#[]⟩, 0⟩ = some 2 := by rw [P.kd_kr]; simp [P.badF, P.kr, ba0]
  have k8 : kd ⟨8, 0, 0, ⟨#[]⟩, 0⟩ = some 2 := by rw [P.kd_kr]; simp [P.badF, P.kr, ba0]
  simp [sumN, sumT, build, sg, k1, k5, k6, k8]
theorem dec1 (u : Nat) (h : u < 10) : Lib.decDigits u = [UInt8.ofNat (48 + u)] := by rw [Lib.decDigits, dif_pos h]
theorem sum_out : valE sumN = (⟨#[40, 49, 32, 43, 32, 40, 50, 32, 42, 32, 45, 51, 41, 41]⟩, 0) := by
  have hx : tx sumT = [40, 49, 32, 43, 32, 40, 50, 32, 42, 32, 45, 51, 41, 41] := by
    simp [sumT, tx, txs, txN, P.two, dec1]
  have hd : ¬ 100 < dep sumT := by simp [sumT, dep, dmx]
  unfold valE
  rw [sum_build]
  simp only [if_neg hd, hx]
  rfl
def stA : StD := ⟨1, ⟨#[97]⟩, ⟨#[]⟩, ⟨#[]⟩, ⟨#[]⟩, ⟨#[105, 110, 116]⟩, [], 0⟩
def evA : List EvD := [⟨⟨#[101]⟩, [⟨1, [stA], 0⟩, ⟨2, [], 0⟩], 0⟩]
theorem evA_out : schE evA = (⟨#[101, 118, 101, 110, 116, 32, 101, 32, 123, 10, 32, 32, 118, 101, 114, 115, 105, 111, 110, 32, 49, 32, 123, 10, 32, 32, 32, 32, 97, 100, 100, 32, 97, 58, 32, 105, 110, 116, 59, 10, 32, 32, 125, 10, 32, 32, 118, 101, 114, 115, 105, 111, 110, 32, 50, 32, 123, 10, 32, 32, 125, 10, 125, 10]⟩, 0) := by
  have n1 : nameB ⟨#[97]⟩ = true := by kernel_rfl
  have n2 : nameB ⟨#[105, 110, 116]⟩ = true := by kernel_rfl
  have n3 : nameB ⟨#[101]⟩ = true := by kernel_rfl
  have e0 : emB ⟨#[]⟩ = true := by unfold emB; rw [ba0]; rfl
  have hg : goodB stA = true := by
    unfold goodB stA
    simp [n1, n2, e0]
  have hs : stE stA = 0 := by unfold stE; rw [if_pos hg]; rfl
  have hw : wholeE evA = 0 := by
    simp [wholeE, evA, allE, evE, veE, n3, hs, wrs]
  have hx : schT evA = [101, 118, 101, 110, 116, 32, 101, 32, 123, 10, 32, 32, 118, 101, 114, 115, 105, 111, 110, 32, 49, 32, 123, 10, 32, 32, 32, 32, 97, 100, 100, 32, 97, 58, 32, 105, 110, 116, 59, 10, 32, 32, 125, 10, 32, 32, 118, 101, 114, 115, 105, 111, 110, 32, 50, 32, 123, 10, 32, 32, 125, 10, 125, 10] := by
    simp [schT, evA, evT, veT, stT, stA, lineT, dec1]
  unfold schE
  rw [if_pos hw, hx]
  rfl
def ndCs (n : Nd) : List Value := [.int .i64 n.f0, .int .i64 n.f1, .int .u64 n.f2, .string n.f3, .int .i64 n.f4]
theorem sumC {w : World} {g : Nat} (h : w.heap[g]? = some (.cells (sumN.map ndCs).flatten.toArray 46 (0, 0))) : Kd.C k46 w (some ⟨g, 0, none⟩) 6 sumN :=
  C_rows k46 sumN (sumN.map ndCs) (by simp) (fun i x cs hx hc => by
    rw [List.getElem?_map, hx] at hc
    injection hc with hc
    subst hc
    exact k46_mk w x) h (by decide)
set_option maxHeartbeats 2000000 in
set_option maxRecDepth 100000 in
theorem sum_calls (w : World) : Calls Tryd.prog 23 #[] w fun e w' => e = .returned (.slice (some ⟨w.heap.size, 0, none⟩) 6 6) ∧ w' = w.alloc (.cells (sumN.map ndCs).flatten.toArray 46) := by
  go_enter Tryd.func23, Tryd.ntmps23
  go_wp2
  go_ret
  exact ⟨rfl, rfl⟩
set_option maxHeartbeats 4000000 in
set_option maxRecDepth 100000 in
theorem awake_calls (w : World) (hT : U.Tab w.heap.size w) : Calls Tryd.prog 10 #[] w fun e w' => e = .returned (.bool true) ∧ Below w.heap.size w w' := by
  have HT := Aside0.mk hT
  clear hT
  go_enter Tryd.func10, Tryd.ntmps10
  go_wp2_with fail
  refine (sum_calls w).mono ?_
  rintro e w1 ⟨rfl, hw1⟩
  have hb1 : Below w.heap.size w w1 := by rw [hw1]; exact below_alloc (Below.refl _ _) _
  have HC1 := Aside0.mk (sumC (show w1.heap[w.heap.size]? = _ from by rw [hw1]; exact blk_new _ _))
  have HB1 := Aside0.mk hb1
  clear hw1 hb1
  go_wp2_with fail
  refine (value_calls w1 (some ⟨w.heap.size, 0, none⟩) 6 sumN HC1.out (by decide) (by intro n hn; simp only [sumN, List.mem_cons, List.not_mem_nil, or_false] at hn; rcases hn with rfl | rfl | rfl | rfl | rfl | rfl <;> decide) (Tab.high (HT.out.step HB1.out) HB1.out.size)).mono ?_
  rintro e w2 ⟨rfl, hb2⟩
  have HB2 := Aside0.mk (below_step HB1.out hb2)
  rw [sum_out]
  clear hb2
  obtain ⟨w3, hw3⟩ : ∃ w3, w3 = w2.alloc (.cells #[.int .i64 1, .string ⟨#[97]⟩, .string ⟨#[]⟩, .string ⟨#[]⟩, .string ⟨#[]⟩, .string ⟨#[105, 110, 116]⟩, .slice none 0 0, .int .i64 0] 55) := ⟨_, rfl⟩
  obtain ⟨w4, hw4⟩ : ∃ w4, w4 = w3.alloc (.cells #[.int .u64 1, .slice (some ⟨w2.heap.size, 0, none⟩) 1 1, .int .i64 0, .int .u64 2, .slice none 0 0, .int .i64 0] 53) := ⟨_, rfl⟩
  obtain ⟨w5, hw5⟩ : ∃ w5, w5 = w4.alloc (.cells #[.string ⟨#[101]⟩, .slice (some ⟨w3.heap.size, 0, none⟩) 2 2, .int .i64 0] 50) := ⟨_, rfl⟩
  have hb3 : Below w2.heap.size w2 w3 := by rw [hw3]; exact below_alloc (Below.refl _ _) _
  have hb4 : Below w3.heap.size w3 w4 := by rw [hw4]; exact below_alloc (Below.refl _ _) _
  have hb5 : Below w4.heap.size w4 w5 := by rw [hw5]; exact below_alloc (Below.refl _ _) _
  have hcS : Kd.C kS w5 (some ⟨w2.heap.size, 0, none⟩) 1 [stA] := by
    refine C_rows kS [stA] [[.int .i64 1, .string ⟨#[97]⟩, .string ⟨#[]⟩, .string ⟨#[]⟩, .string ⟨#[]⟩, .string ⟨#[105, 110, 116]⟩, .slice none 0 0, .int .i64 0]] rfl (fun i x cs hx hc => ?_) (blk_below (blk_below (show w3.heap[w2.heap.size]? = _ from by rw [hw3]; exact blk_new _ _) hb4) hb5) (by decide)
    match i, hx, hc with
    | 0, hx, hc =>
      injection hx with hx
      injection hc with hc
      subst hx hc
      exact ⟨[_], _, rfl, rfl, [_], _, rfl, rfl, [_], _, rfl, rfl, [_], _, rfl, rfl, [_], _, rfl, rfl, [_], _, rfl, rfl, [_], _, rfl, ⟨none, 0, rfl, Nat.le_refl _, Kd.C_nil _ _⟩, rfl⟩
  have hcV : Kd.C kV w5 (some ⟨w3.heap.size, 0, none⟩) 2 [⟨1, [stA], 0⟩, ⟨2, [], 0⟩] := by
    refine C_rows kV [⟨1, [stA], 0⟩, ⟨2, [], 0⟩] [[.int .u64 1, .slice (some ⟨w2.heap.size, 0, none⟩) 1 1, .int .i64 0], [.int .u64 2, .slice none 0 0, .int .i64 0]] rfl (fun i x cs hx hc => ?_) (blk_below (show w4.heap[w3.heap.size]? = _ from by rw [hw4]; exact blk_new _ _) hb5) (by decide)
    match i, hx, hc with
    | 0, hx, hc =>
      injection hx with hx
      injection hc with hc
      subst hx hc
      exact ⟨[_], _, rfl, rfl, [_], _, rfl, ⟨_, 1, rfl, Nat.le_refl _, hcS⟩, rfl⟩
    | 1, hx, hc =>
      injection hx with hx
      injection hc with hc
      subst hx hc
      exact ⟨[_], _, rfl, rfl, [_], _, rfl, ⟨none, 0, rfl, Nat.le_refl _, Kd.C_nil _ _⟩, rfl⟩
  have hcE : Kd.C kE w5 (some ⟨w4.heap.size, 0, none⟩) 1 evA := by
    refine C_rows kE evA [[.string ⟨#[101]⟩, .slice (some ⟨w3.heap.size, 0, none⟩) 2 2, .int .i64 0]] rfl (fun i x cs hx hc => ?_) (show w5.heap[w4.heap.size]? = _ from by rw [hw5]; exact blk_new _ _) (by decide)
    match i, hx, hc with
    | 0, hx, hc =>
      injection hx with hx
      injection hc with hc
      subst hx hc
      exact ⟨[_], _, rfl, rfl, [_], _, rfl, ⟨_, 2, rfl, Nat.le_refl _, hcV⟩, rfl⟩
  have HCE := Aside0.mk hcE
  have HB5 := Aside0.mk (below_step HB2.out (below_step (below_step hb3 hb4) hb5))
  have HGE : Aside0 (GoodE evA) := ⟨by
    intro e he v hv
    simp only [evA, List.mem_singleton] at he
    subst he
    simp only [List.mem_cons, List.not_mem_nil, or_false] at hv
    rcases hv with rfl | rfl
    · refine ⟨by decide, fun d hd => ?_⟩
      simp only [List.mem_singleton] at hd
      subst hd
      exact ⟨by decide, fun n hn => by cases hn⟩
    · exact ⟨by decide, fun d hd => by cases hd⟩⟩
  have s3 : w3.heap.size = w2.heap.size + 1 := by rw [hw3]; simp
  have s4 : w4.heap.size = w2.heap.size + 2 := by rw [hw4]; simp [s3]
  have HS := Aside0.mk (And.intro s3 s4)
  have H3 := Aside0.mk hw3
  have H4 := Aside0.mk hw4
  have H5 := Aside0.mk hw5
  clear hw3 hw4 hw5 hb3 hb4 hb5 hcS hcV hcE s3 s4
  go_wp2_with fail
  rw [← H3.out, ← HS.out.1, ← H4.out, ← H5.out, show w3.heap.size + 1 = w4.heap.size from by rw [HS.out.1, HS.out.2]]
  refine (schema_calls w5 (some ⟨w4.heap.size, 0, none⟩) 1 evA HCE.out HGE.out (Tab.high (HT.out.step HB5.out) HB5.out.size)).mono ?_
  rintro e w6 ⟨rfl, hb6⟩
  have HB6 := Aside0.mk (below_step HB5.out hb6)
  rw [evA_out]
  clear hb6
  go_wp2
  go_ret
  exact ⟨rfl, HB6.out⟩
end Go.Proofs.YtaijoghpfobdbaaDoor.W
end
section
set_option linter.unusedVariables false
namespace Go.Proofs.YtaijoghpfobdbaaDoor.R
open Go.RowKit Go.Proofs.YtaijoghpfobdbaaDoorW.PrintWords
theorem own : ownKnob Tryd.prog.godebug = none := by kernel_rfl
theorem gTab : Tryd.prog.globalNamed "internal/strconv.uint64pow10" = some 0 := by kernel_rfl
theorem gTabType : (Tryd.prog.globals[0]?).map (·.type) = some 156 := by kernel_rfl
theorem cellsA : Tryd.prog.cellsOf 156 = 20 := by kernel_rfl
theorem cellsE : Tryd.prog.cellsOf 44 = 1 := by kernel_rfl
def laid3 : List (String × DataW Unit) := [("math/bits.deBruijn32tab", Rows.laid_math_bits_deBruijn32tab), ("math/bits.deBruijn64tab", Rows.laid_math_bits_deBruijn64tab), ("internal/strconv.uint64pow10", Rows.laid_internal_strconv_uint64pow10)]
theorem table {W : World} (h : laidMetH Tryd.prog laid3 W) : U.Tab W.heap.size W := by
  have h1 : laidMet Tryd.prog [("internal/strconv.uint64pow10", Lib.tabData .u64 Lib.pow10Tab)] W := laidMet.filter (fun x => x.1 == "internal/strconv.uint64pow10") h
  refine ⟨fun w' hb => ?_⟩
  have t : Lib.TabIs Tryd.prog W "internal/strconv.uint64pow10" .u64 Lib.pow10Tab := Lib.tabIs_of_head (rest := []) gTab gTabType Tryd.underlying156 Tryd.underlying44 cellsE cellsA h1
  unfold Lib.TabIs at t ⊢
  unfold World.var? at t ⊢
  rw [gTab] at t ⊢
  simp only [Option.bind_some] at t ⊢
  have hlt : 0 < W.heap.size := by
    rcases Nat.eq_zero_or_pos W.heap.size with h0 | h0
    · rw [Array.getElem?_eq_none (by omega)] at t; cases t
    · exact h0
  rw [hb.block 0 hlt]
  exact t
def put (zs : List Value) : Obj → Obj
  | .cells _ t frozen => .cells zs.toArray t frozen
  | o => o
def litV : DataW Unit → Value
  | .lit (.int k n) => .int k n
  | _ => .int .i64 0
def tabV : DataW Unit → List Value
  | .agg l => l.map litV
  | _ => []
noncomputable def laidWorld (os : Os) : World :=
  { World.holding Tryd.prog os ⟨#[], #[], []⟩ with heap := (((World.holding Tryd.prog os ⟨#[], #[], []⟩).heap.modify 0 (put (tabV Rows.laid_internal_strconv_uint64pow10))).modify 2 (put (tabV Rows.laid_math_bits_deBruijn32tab))).modify 3 (put (tabV Rows.laid_math_bits_deBruijn64tab)) }
end Go.Proofs.YtaijoghpfobdbaaDoor.R
end
section
set_option linter.unusedVariables false
set_option linter.unusedSimpArgs false
namespace Go.Proofs.YtaijoghpfobdbaaDoor.P
open Go.RowKit Go.Proofs.YtaijoghpfobdbaaDoor.L
theorem dg_data (k : Nat) (h : k < 10) : isD (UInt8.ofNat (48 + k)) = true ∧ isL (UInt8.ofNat (48 + k)) = false ∧ G.dval (UInt8.ofNat (48 + k)) = k ∧ (UInt8.ofNat (48 + k)).toNat = 48 + k := by
  have : ∀ k : Fin 10, isD (UInt8.ofNat (48 + k.1)) = true ∧ isL (UInt8.ofNat (48 + k.1)) = false ∧ G.dval (UInt8.ofNat (48 + k.1)) = k.1 ∧ (UInt8.ofNat (48 + k.1)).toNat = 48 + k.1 := by decide
  exact this ⟨k, h⟩
theorem dec_all (u : Nat) : (∀ b ∈ Lib.decDigits u, isD b = true ∧ isL b = false) ∧ Lib.decDigits u ≠ [] := by
  induction u using Nat.strongRecOn with
  | ind u ih =>
    rw [Lib.decDigits]
    by_cases h : u < 10
    · rw [dif_pos h]
      exact ⟨fun b hb => by rw [List.mem_singleton] at hb; subst hb; have := dg_data u h; exact ⟨this.1, this.2.1⟩, by simp⟩
    · rw [dif_neg h]
      refine ⟨fun b hb => ?_, by simp⟩
      rcases List.mem_append.1 hb with hb | hb
      · exact (ih (u / 10) (by omega)).1 b hb
      · rw [List.mem_singleton] at hb
        subst hb
        have := dg_data (u % 10) (by omega)
        exact ⟨this.1, this.2.1⟩
theorem numv_snoc (b : UInt8) : ∀ (l : List UInt8) (a x : Nat), G.numv a l = some x → x * 10 + G.dval b < 18446744073709551616 → G.numv a (l ++ [b]) = some (x * 10 + G.dval b)
  | [], a, x, h, hx => by
    rw [G.numv] at h
    injection h with h
    subst h
    rw [List.nil_append, G.numv, if_pos hx, G.numv]
  | c :: t, a, x, h, hx => by
    rw [G.numv] at h
    rw [List.cons_append, G.numv]
    split at h
    · rename_i hc
      rw [if_pos hc]
      exact numv_snoc b t _ x h hx
    · cases h
theorem numv_dec (u : Nat) (hu : u < 18446744073709551616) : G.numv 0 (Lib.decDigits u) = some u := by
  induction u using Nat.strongRecOn with
  | ind u ih =>
    rw [Lib.decDigits]
    by_cases h : u < 10
    · rw [dif_pos h, G.numv, (dg_data u h).2.2.1, if_pos (by omega), G.numv]
      simp
    · rw [dif_neg h]
      have hd := (dg_data (u % 10) (by omega)).2.2.1
      rw [numv_snoc _ _ 0 (u / 10) (ih (u / 10) (by omega) (by omega)) (by rw [hd]; omega), hd]
      congr 1; omega
theorem dec_head (u : Nat) (h : 1 ≤ u) : ∀ b t, Lib.decDigits u = b :: t → b.toNat ≠ 48 := by
  induction u using Nat.strongRecOn with
  | ind u ih =>
    intro b t e
    rw [Lib.decDigits] at e
    by_cases h10 : u < 10
    · rw [dif_pos h10] at e
      injection e with e _
      subst e
      rw [(dg_data u h10).2.2.2]; omega
    · rw [dif_neg h10] at e
      cases hd : Lib.decDigits (u / 10) with
      | nil => exact absurd hd (dec_all (u / 10)).2
      | cons c r =>
        rw [hd, List.cons_append] at e
        injection e with e _
        subst e
        exact ih (u / 10) (by omega) (by omega) c r hd
theorem dec_small {u : Nat} (h : 1 < (Lib.decDigits u).length) : 1 ≤ u := by
  rcases Nat.eq_zero_or_pos u with rfl | h0
  · rw [Lib.decDigits, dif_pos (by decide)] at h
    simp at h
  · exact h0
theorem dec_short (u : Nat) (hu : u < 18446744073709551616) : (Lib.decDigits u).length ≤ 20 := by
  rcases Nat.eq_zero_or_pos u with rfl | h
  · rw [Lib.decDigits, dif_pos (by decide)]
    simp
  · rw [Lib.decDigits_length]
    have := Lib.numDigits_eq u h hu
    split at this <;> omega
theorem lead_dec {l : List UInt8} (h : ∀ b ∈ l, isD b = true ∧ isL b = false) : lead isD l = l.length := by
  induction l with
  | nil => rfl
  | cons b t ih =>
    rw [lead, if_pos (h b (by simp)).1, ih (fun c hc => h c (List.mem_cons_of_mem _ hc)), List.length_cons]
theorem tok_dec (u : Nat) (hu : u < 18446744073709551616) : L.tok (Lib.decDigits u) = .ok ⟨2, [], u, (Lib.decDigits u).length⟩ := by
  obtain ⟨ha, hn⟩ := dec_all u
  have hl := lead_dec ha
  have hv := numv_dec u hu
  cases hd : Lib.decDigits u with
  | nil => exact absurd hd hn
  | cons b t =>
    rw [hd] at ha hl hv
    have hb := ha b (by simp)
    rw [L.tok, if_neg (by rw [hb.2]; simp), if_pos hb.1, hl, List.take_length, hv]
theorem Lex_dec (u : Nat) (hu : u < 18446744073709551616) : L.Lex (Lib.decDigits u) = .toks [⟨2, [], u, 0, (Lib.decDigits u).length⟩, ⟨0, [], 0, (Lib.decDigits u).length, (Lib.decDigits u).length⟩] := by
  rw [T.Lex_small (by have := dec_short u hu; omega), lx_alone (tok_dec u hu) rfl]
end Go.Proofs.YtaijoghpfobdbaaDoor.P
namespace Go.Proofs.YtaijoghpfobdbaaDoor.W
end Go.Proofs.YtaijoghpfobdbaaDoor.W
namespace Go.Proofs.YtaijoghpfobdbaaDoor.W
open Go.Proofs.YtaijoghpfobdbaaDoor.P (Tr Nd kd sg build dep dmx tx txs txN)
theorem one_build (n : Nd) (h : kd n = some 0) : build [n] [] = some [.mk n []] := by simp [build, sg, h]
theorem val_one (n : Nd) (h : kd n = some 0) : valE [n] = finT (txN n []) := by
  unfold valE
  rw [one_build n h]
  have hd : ¬ 100 < dep (.mk n []) := by simp [dep, dmx]
  simp only [if_neg hd]
  rw [tx, txs]
theorem kd_num (x p : Int) : kd ⟨1, 0, x, ⟨#[]⟩, p⟩ = some 0 := by rw [P.kd_kr]; simp [P.badF, P.kr, ba0]
theorem kd_text (s : ByteArray) : kd ⟨2, 0, 0, s, 0⟩ = some 0 := by rw [P.kd_kr]; simp [P.badF, P.kr]
theorem val_num (x p : Int) (h0 : 0 ≤ x) (h1 : x < 18446744073709551616) : valE [⟨1, 0, x, ⟨#[]⟩, p⟩] = (⟨(Lib.decDigits x.toNat).toArray⟩, 0) := by
  rw [val_one _ (kd_num x p)]
  unfold finT
  have := P.dec_short x.toNat (by omega)
  rw [if_neg (by show ¬ 1048576 < (Lib.decDigits x.toNat).length; omega)]
  rfl
theorem val_text (s : ByteArray) : valE [⟨2, 0, 0, s, 0⟩] = finT (L.Quote s.data.toList) := by rw [val_one _ (kd_text s)]; rfl
end Go.Proofs.YtaijoghpfobdbaaDoor.W
end
section
set_option linter.unusedVariables false
set_option linter.unusedSimpArgs false
namespace Go.Proofs.YtaijoghpfobdbaaDoor.W
open Go.RowKit Go.Proofs.YtaijoghpfobdbaaDoor.X Go.Proofs.YtaijoghpfobdbaaDoorW.PrintWords Go.Proofs.YtaijoghpfobdbaaDoorW.PrintLast Go.Proofs.YtaijoghpfobdbaaDoorW.PrintMore
open Go.Proofs.YtaijoghpfobdbaaDoor.P (Tr Nd)
theorem oneC {w : World} {g : Nat} {n : Nd} (h : w.heap[g]? = some (.cells (ndCs n).toArray 46 (0, 0))) : Kd.C k46 w (some ⟨g, 0, none⟩) 1 [n] :=
  C_rows (e := 46) k46 [n] [ndCs n] rfl (fun i x cs hx hc => by
    match i, hx, hc with
    | 0, hx, hc =>
      injection hx with hx
      injection hc with hc
      subst hx hc
      exact k46_mk w n) (by rw [h]; simp) (by simp)
set_option maxHeartbeats 4000000 in
set_option maxRecDepth 100000 in
theorem leaves_calls (w : World) (x : Int) (s : ByteArray) (h0 : 0 ≤ x) (h1 : x < 18446744073709551616) (hs : s.size ≤ 1048576) (hT : U.Tab w.heap.size w) :
    Calls Tryd.prog 9 #[.int .u64 x, .string s] w fun e w' => e = .returned (.bool true) ∧ Below w.heap.size w w' := by
  have HT := Aside0.mk hT
  obtain ⟨u, rfl⟩ : ∃ u : Nat, x = (u : Int) := ⟨x.toNat, by omega⟩
  have hu : u < 18446744073709551616 := by omega
  obtain ⟨a, ha⟩ : ∃ a : ByteArray, a = ⟨(Lib.decDigits u).toArray⟩ := ⟨_, rfl⟩
  have had : a.data.toList = Lib.decDigits u := by rw [ha]
  have HV1 := Aside0.mk (val_num (u : Int) (-5) h0 h1)
  rw [Int.toNat_natCast, ← ha] at HV1
  obtain ⟨k, hk⟩ := (T.lexes_ev a).rounds
  rw [had, P.Lex_dec u hu] at hk
  obtain ⟨l, hl⟩ : ∃ l : List S63, l = [T.toS ⟨2, [], u, 0, (Lib.decDigits u).length⟩, T.toS ⟨0, [], 0, (Lib.decDigits u).length, (Lib.decDigits u).length⟩] := ⟨_, rfl⟩
  simp only [T.outL, List.nil_append, List.map_cons, List.map_nil] at hk
  rw [← hl] at hk
  have HLN : Aside0 (l.length = 2) := ⟨by rw [hl]; rfl⟩
  have HL0 : Aside0 ((rd_T63 l 0).f0 = 2 ∧ (rd_T63 l 0).f2 = (u : Int)) := ⟨by rw [hl]; exact ⟨rfl, rfl⟩⟩
  clear hl
  obtain ⟨q, hq⟩ : ∃ q, q = T.ba (L.Quote s.data.toList) := ⟨_, rfl⟩
  obtain ⟨k2, hk2⟩ := (T.quote_ev s (by omega)).rounds
  rw [← hq] at hk2
  have HQ := Aside0.mk (fun w => lex_Quote.calls k2 s q w hk2)
  have HV3 : Aside0 ((1048576 < q.size ∧ valE [⟨2, 0, 0, s, 0⟩] = (⟨#[]⟩, 2)) ∨ (q.size ≤ 1048576 ∧ valE [⟨2, 0, 0, s, 0⟩] = (q, 0))) := ⟨by
    rw [val_text s, hq, T.ba_size]
    unfold finT
    by_cases h : P.M < (L.Quote s.data.toList).length
    · rw [if_pos h]; exact .inl ⟨h, rfl⟩
    · rw [if_neg h]; exact .inr ⟨Nat.le_of_not_lt h, rfl⟩⟩
  have HL := Aside0.mk (fun w => lex_Lex.calls k a _ _ _ w hk)
  have HDF : Aside0 (1 < a.size → bt a 0 ≠ 48) := ⟨fun h => by
    rw [T.size_len, had] at h
    have hh := P.dec_head u (P.dec_small h)
    cases hd : Lib.decDigits u with
    | nil => exact absurd hd (P.dec_all u).2
    | cons b t =>
      have := T.bt_drop (s := a) (i := 0) (b := b) (t := t) (by rw [List.drop_zero, had, hd])
      rw [show ((0 : Nat) : Int) = 0 from rfl] at this
      rw [this]
      have := hh b t hd
      omega⟩
  clear hk hk2 hT ha had hq
  go_enter Tryd.func9, Tryd.ntmps9
  go_wp2_with fail
  refine (awake_calls w HT.out).mono ?_
  rintro e w1 ⟨rfl, hb1⟩
  have HB1 := Aside0.mk hb1
  clear hb1
  go_wp2_with fail
  have HB2 := Aside0.mk (show Below w.heap.size w (w1.alloc (.cells (ndCs ⟨1, 0, (u : Int), ⟨#[]⟩, -5⟩).toArray 46)) from below_step HB1.out (below_alloc (Below.refl _ _) _))
  have HO := Aside0.mk (oneC (n := ⟨1, 0, (u : Int), ⟨#[]⟩, -5⟩) (show (w1.alloc (.cells (ndCs ⟨1, 0, (u : Int), ⟨#[]⟩, -5⟩).toArray 46)).heap[w1.heap.size]? = _ from blk_new _ _))
  refine (value_calls _ (some ⟨w1.heap.size, 0, none⟩) 1 [⟨1, 0, (u : Int), ⟨#[]⟩, -5⟩] HO.out (by simp) (by intro n hn; simp only [List.mem_singleton] at hn; subst hn; exact ⟨h0, h1⟩) (Tab.high (HT.out.step HB2.out) HB2.out.size)).mono ?_
  rintro e w3 ⟨rfl, hb3⟩
  have HB3 := Aside0.mk (below_step HB2.out hb3)
  rw [HV1.out]
  clear hb3
  go_wp2_with fail
  refine (HL.out w3).mono ?_
  rintro e w4 ⟨v4, rfl, hr, hb4⟩
  have HB4 := Aside0.mk (below_step HB3.out hb4)
  obtain ⟨g, c, rfl⟩ : ∃ g c, v4 = .slice (some ⟨g, 0, none⟩) l.length c := by
    obtain ⟨A, c, rfl⟩ := Kd.R_slice hr
    obtain ⟨inner, ho⟩ := Kd.R_own hr
    rcases ho.2 with ⟨_, hz⟩ | ⟨g, cap, cur, hv, _⟩
    · have := HLN.out; omega
    · injection hv with e1 _ _
      rw [e1]
      exact ⟨g, c, rfl⟩
  have hC := (Kd.R_reads' hr).2.2
  obtain ⟨ad, hag, hx0, hx1, hx2, hx3, hx4⟩ := at_T63 hC 0 (by decide) (by rw [HLN.out]; decide)
  rw [HL0.out.1] at hx0
  rw [HL0.out.2] at hx2
  rw [HLN.out]
  clear hb4 hr hC hx1 hx3 hx4
  injection hag with hag
  subst hag
  replace hx0 : w4.cell? ⟨g, 0, none⟩ = some (.int .i64 2) := by rw [Lib.add_plain] at hx0; exact hx0
  replace hx2 : w4.cell? ⟨g, 2, none⟩ = some (.int .u64 (u : Int)) := by rw [Lib.add_plain] at hx2; exact hx2
  by_cases ha : 1 < a.size
  · have c1 : decide ((1 : Int) < (a.size : Int)) = true := decide_eq_true (by omega)
    have hix0 : ∀ W, (Instr.index 9 (.string a) (.int .i64 0)).run Tryd.prog W = .ok (.int .u8 (bt a 0)) W := fun W => by
      rw [run_index_string _ _ a .i64 0 Tryd.underlying9, dif_pos ⟨Int.le_refl _, by omega⟩]
      congr 2
      exact bt_at a 0 (by show 0 < a.size; omega)
    obtain ⟨y, hy⟩ : ∃ y, y = bt a 0 := ⟨_, rfl⟩
    have hix : ∀ W, (Instr.index 9 (.string a) (.int .i64 0)).run Tryd.prog W = .ok (.int .u8 y) W := by rw [hy]; exact hix0
    have c3 : decide (y = 48) = false := decide_eq_false (by rw [hy]; exact HDF.out ha)
    have c4 : (y == 48) = false := beq_eq_false_iff_ne.mpr (by rw [hy]; exact HDF.out ha)
    have c1n : 1 < a.size := ha
    clear HDF hix0 hy ha c1
    have c1 : decide ((1 : Int) < (a.size : Int)) = true := decide_eq_true (by omega)
    clear c1n
    go_wp2_with fail
    clear hx0 hx2
    have HB5 := Aside0.mk (show Below w.heap.size w (w4.alloc (.cells (ndCs ⟨2, 0, 0, s, 0⟩).toArray 46)) from below_step HB4.out (below_alloc (Below.refl _ _) _))
    have HO2 := Aside0.mk (oneC (n := ⟨2, 0, 0, s, 0⟩) (show (w4.alloc (.cells (ndCs ⟨2, 0, 0, s, 0⟩).toArray 46)).heap[w4.heap.size]? = _ from blk_new _ _))
    refine (value_calls _ (some ⟨w4.heap.size, 0, none⟩) 1 [⟨2, 0, 0, s, 0⟩] HO2.out (by simp) (by intro n hn; simp only [List.mem_singleton] at hn; subst hn; exact ⟨Int.le_refl 0, (by decide : (0 : Int) < 18446744073709551616)⟩) (Tab.high (HT.out.step HB5.out) HB5.out.size)).mono ?_
    rintro e w6 ⟨rfl, hb6⟩
    have HB6 := Aside0.mk (below_step HB5.out hb6)
    clear hb6
    rcases HV3.out with ⟨hM, hv⟩ | ⟨hM, hv⟩
    · have d1 : decide ((1048576 : Int) < (q.size : Int)) = true := decide_eq_true (by omega)
      rw [hv]
      go_wp2_with fail
      refine (HQ.out w6).mono ?_
      rintro e w7 ⟨rfl, hb7⟩
      have HB7 := Aside0.mk (below_step HB6.out hb7)
      clear hb7
      go_wp2_with fail
      go_ret
      exact ⟨rfl, HB7.out⟩
    · have d1 : decide ((1048576 : Int) < (q.size : Int)) = false := decide_eq_false (by omega)
      rw [hv]
      go_wp2_with fail
      refine (HQ.out w6).mono ?_
      rintro e w7 ⟨rfl, hb7⟩
      have HB7 := Aside0.mk (below_step HB6.out hb7)
      clear hb7
      go_wp2_with fail
      refine (HQ.out w7).mono ?_
      rintro e w8 ⟨rfl, hb8⟩
      have HB8 := Aside0.mk (below_step HB7.out hb8)
      clear hb8
      go_wp2_with fail
      go_ret
      exact ⟨rfl, HB8.out⟩
  · have c1 : decide ((1 : Int) < (a.size : Int)) = false := decide_eq_false (by omega)
    go_wp2_with fail
    clear hx0 hx2
    have HB5 := Aside0.mk (show Below w.heap.size w (w4.alloc (.cells (ndCs ⟨2, 0, 0, s, 0⟩).toArray 46)) from below_step HB4.out (below_alloc (Below.refl _ _) _))
    have HO2 := Aside0.mk (oneC (n := ⟨2, 0, 0, s, 0⟩) (show (w4.alloc (.cells (ndCs ⟨2, 0, 0, s, 0⟩).toArray 46)).heap[w4.heap.size]? = _ from blk_new _ _))
    refine (value_calls _ (some ⟨w4.heap.size, 0, none⟩) 1 [⟨2, 0, 0, s, 0⟩] HO2.out (by simp) (by intro n hn; simp only [List.mem_singleton] at hn; subst hn; exact ⟨Int.le_refl 0, (by decide : (0 : Int) < 18446744073709551616)⟩) (Tab.high (HT.out.step HB5.out) HB5.out.size)).mono ?_
    rintro e w6 ⟨rfl, hb6⟩
    have HB6 := Aside0.mk (below_step HB5.out hb6)
    clear hb6
    rcases HV3.out with ⟨hM, hv⟩ | ⟨hM, hv⟩
    · have d1 : decide ((1048576 : Int) < (q.size : Int)) = true := decide_eq_true (by omega)
      rw [hv]
      go_wp2_with fail
      refine (HQ.out w6).mono ?_
      rintro e w7 ⟨rfl, hb7⟩
      have HB7 := Aside0.mk (below_step HB6.out hb7)
      clear hb7
      go_wp2_with fail
      go_ret
      exact ⟨rfl, HB7.out⟩
    · have d1 : decide ((1048576 : Int) < (q.size : Int)) = false := decide_eq_false (by omega)
      rw [hv]
      go_wp2_with fail
      refine (HQ.out w6).mono ?_
      rintro e w7 ⟨rfl, hb7⟩
      have HB7 := Aside0.mk (below_step HB6.out hb7)
      clear hb7
      go_wp2_with fail
      refine (HQ.out w7).mono ?_
      rintro e w8 ⟨rfl, hb8⟩
      have HB8 := Aside0.mk (below_step HB7.out hb8)
      clear hb8
      go_wp2_with fail
      go_ret
      exact ⟨rfl, HB8.out⟩
end Go.Proofs.YtaijoghpfobdbaaDoor.W
end
