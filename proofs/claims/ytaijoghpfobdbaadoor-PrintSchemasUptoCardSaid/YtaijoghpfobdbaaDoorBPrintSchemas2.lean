/- The texts of the law PrintSchemas, put together by a program of this workplace out of its own texts and of what the kit's print has written: walks of the functions, plain laws. No condition but those in the theorems. -/
import Derived.Lib.Bytealg
import Derived.KernelRfl
import Derived.Test.YtaijoghpfobdbaaDoorShelf
import Derived.Lib.Strings
import Derived.Lib.Slices
import Derived.Lib.Walk
import Derived.Lib.Builder
import Derived.Lib.AppendStr
import Derived.Lib.UnsafeStr
import Derived.Lib.OthersKept
import Derived.WalkKit
import Derived.Laws.Externs
import Derived.Laws.IdiomCopy
import Derived.Laws.BitsLemmas
import Derived.Shelf.RegionOpenPlain
import Derived.Shelf.LaysM
import Derived.Shelf.Strconv.Itoa1
import Derived.Shelf.Strconv.Itoa2
import Derived.Lib.ItoaMem
import Derived.BigCall
import Derived.BigGuard
import Derived.Deep.LoopGhost
import Derived.Deep.QuietTactic
import Derived.BigQuiet
import Derived.Deep.DeepMust
import Derived.Lib.LazyBuf
import Derived.Lib.Itoa
import Derived.Test.YtaijoghpfobdbaaDoorBPrintSchemas0
import Derived.Test.YtaijoghpfobdbaaDoorBPrintSchemas1
section
namespace Go.Proofs.YtaijoghpfobdbaaDoor.X
open Go.RowKit Go.Proofs.YtaijoghpfobdbaaDoorW.PrintWords Go.Proofs.YtaijoghpfobdbaaDoorW.PrintLast Go.Proofs.YtaijoghpfobdbaaDoorW.PrintMore
attribute [local go_sem] max2_int min2_int max_two min_two max_three min_three max_four min_four   -- for this text's walks alone
set_option linter.unusedVariables false
set_option linter.unusedSimpArgs false
mutual
def lex_Quote.l0 : Nat → ByteArray → List Int → Int → Int → Option (ByteArray)
  | 0, _, _, _, _ => none
  | k + 1, x0, x3, x8, x9 => if x9 < x8 then (if 0 ≤ x9 then (if x9 < (x0.size : Int) then (if (bt x0 x9) = 92 then (lex_Quote.j1 k x0 x3 (bt x0 x9) x8 x9 true) else (lex_Quote.j1 k x0 x3 (bt x0 x9) x8 x9 ((bt x0 x9) == 34))) else (none)) else (none)) else (if x3.length < 140737488355328 then (some (strOfNums (x3 ++ [34]))) else (none))
def lex_Quote.j1 : Nat → ByteArray → List Int → Int → Int → Int → Bool → Option (ByteArray)
  | 0, _, _, _, _, _, _ => none
  | k + 1, x0, x3, x5, x8, x9, x24 => if x24 = true then ((some (([92, x5] : List Int) : List Int)).bind fun y156 => (if x3.length + y156.length < 140737488355328 then (lex_Quote.l0 k x0 (x3 ++ y156) x8 (wrap64 (x9 + 1))) else (none))) else (if x5 = 10 then ((some (([92, 110] : List Int) : List Int)).bind fun y162 => (if x3.length + y162.length < 140737488355328 then (lex_Quote.l0 k x0 (x3 ++ y162) x8 (wrap64 (x9 + 1))) else (none))) else (if x5 = 9 then ((some (([92, 116] : List Int) : List Int)).bind fun y168 => (if x3.length + y168.length < 140737488355328 then (lex_Quote.l0 k x0 (x3 ++ y168) x8 (wrap64 (x9 + 1))) else (none))) else (if x5 ≥ 32 then (if x5 ≤ 126 then (if x3.length < 140737488355328 then (lex_Quote.l0 k x0 (x3 ++ [x5]) x8 (wrap64 (x9 + 1))) else (none)) else (if 0 ≤ (x5 / 16) then (if (x5 / 16) < 16 then (if 0 ≤ (Go.bits .and .u8 x5 15) then (if (Go.bits .and .u8 x5 15) < 16 then ((some (([92, 120, bt (⟨#[48, 49, 50, 51, 52, 53, 54, 55, 56, 57, 97, 98, 99, 100, 101, 102]⟩ : ByteArray) (x5 / 16), bt (⟨#[48, 49, 50, 51, 52, 53, 54, 55, 56, 57, 97, 98, 99, 100, 101, 102]⟩ : ByteArray) (Go.bits .and .u8 x5 15)] : List Int) : List Int)).bind fun y177 => (if x3.length + y177.length < 140737488355328 then (lex_Quote.l0 k x0 (x3 ++ y177) x8 (wrap64 (x9 + 1))) else (none))) else (none)) else (none)) else (none)) else (none))) else (if 0 ≤ (x5 / 16) then (if (x5 / 16) < 16 then (if 0 ≤ (Go.bits .and .u8 x5 15) then (if (Go.bits .and .u8 x5 15) < 16 then ((some (([92, 120, bt (⟨#[48, 49, 50, 51, 52, 53, 54, 55, 56, 57, 97, 98, 99, 100, 101, 102]⟩ : ByteArray) (x5 / 16), bt (⟨#[48, 49, 50, 51, 52, 53, 54, 55, 56, 57, 97, 98, 99, 100, 101, 102]⟩ : ByteArray) (Go.bits .and .u8 x5 15)] : List Int) : List Int)).bind fun y183 => (if x3.length + y183.length < 140737488355328 then (lex_Quote.l0 k x0 (x3 ++ y183) x8 (wrap64 (x9 + 1))) else (none))) else (none)) else (none)) else (none)) else (none)))))
end
def lex_Quote.f (k : Nat) (a0 : ByteArray) : Option (ByteArray) := lex_Quote.l0 k a0 (([34] : List Int)) (a0.size : Int) 0
def lex_Quote.T6 : Bool × List (List Nat × List Nat) := (true, [([], []), ([], []), ([1], [1]), ([2], [2]), ([], []), ([4], [4]), ([5], [5]), ([3, 6], [3, 6]), ([0, 7], [0, 7]), ([8, 8, 0, 1, 2, 3, 4, 5, 6, 7, 8], [0, 8])])
def lex_Quote.B6 : List Nat := [0, 0, 2, 6, 0, 16, 48, 126, 255, 511]
theorem lex_Quote.tab6 : rtab .any (opsOf Tryd.f22 6) = lex_Quote.T6 := by kernel_rfl
theorem lex_Quote.bits6 : waitsOk lex_Quote.T6.2 lex_Quote.B6 = true := by kernel_rfl
set_option maxHeartbeats 8000000 in
set_option maxRecDepth 100000 in
theorem lex_Quote.calls (k : Nat) (a0 : ByteArray) (r : ByteArray) (w : World) (h : lex_Quote.f k a0 = some r) :
    Calls Tryd.prog 22 #[.string a0] w fun e w' => e = .returned (.string r) ∧ Below w.heap.size w w' := by
  have HB := Aside0.mk (Below.refl w.heap.size w)
  have H : (lex_Quote.l0 k a0 (([34] : List Int)) (a0.size : Int) 0) = some r := h
  clear h
  obtain ⟨y150, hy150⟩ : ∃ y_ : List Int, y_ = (([34] : List Int)) := ⟨_, rfl⟩
  replace H : (lex_Quote.l0 k a0 y150 (a0.size : Int) 0) = some r := by first | (rw [hy150]; with_reducible exact H) | (have H2_ := (Option.bind_some _ _).symm.trans H; rw [hy150]; with_reducible exact H2_) | (have H2_ := (Option.bind_some _ _).symm.trans H; with_reducible exact H2_) | with_reducible exact H | (rw [hy150]; exact H) | exact H
  have Ny150 := Aside0.mk hy150
  clear hy150
  have H' := Aside0.mk H
  clear H
  go_enter Tryd.func22, Tryd.ntmps22
  go_wp2_with (first | ((with_reducible refine gate_dst (N := 6) rfl ?_); refine Kd.R_lit (Kd.int .u8) _ 5 ?hg (N := 6) ?hd (xs := ([34] : List Int)) (inner := [.int .u8 34]) (ok := fun _ => True) (okp := fun _ => True) ?hr ?hp (fun _ hk => hk) trivial (Below.refl _ _) (Nat.le_refl _) (by simp) ?_; (case hd => rfl); (case hg => rfl); (case hr => first | (go_simp; done) | (go_simp; rfl)); (case hp => exact (Reps.one (show Kd.M (Kd.int .u8) _ _ _ 34 [.int .u8 34] from rfl) (Reps.none _ _))); intro v151 w2 ho3 hb hg_ hnew_; clear hg_ hnew_; (first | rw [← Ny150.out] at ho3 | (simp only [Int.reduceToNat] at ho3; rw [← Ny150.out] at ho3)); have n0_ := Aside0.mk (Kd.R_lower ho3 (below_size (by repeat (first | (with_reducible first | exact HB.out | apply below_alloc | apply pw_below_drewN | apply below_drew1) | exact HB.out)))); have n1_ := Aside0.mk (below_step (by repeat (first | (with_reducible first | exact HB.out | apply below_alloc | apply pw_below_drewN | apply below_drew1) | exact HB.out)) hb); clear HB; have HO152 := n0_; have HB := n1_; clear n0_ n1_; clear hb ho3))
  go_loopg [3, 9] k (fun kq v3 v9 w' => ∃ (x3_1 : List Int) (x9_1 : Int), v9 = .int .i64 x9_1 ∧ Aside0 (lex_Quote.l0 kq a0 x3_1 (a0.size : Int) x9_1 = some r) ∧ Aside0 (kq ≤ k) ∧ Aside0 (Kd.R (Kd.int .u8) 5 w' w.heap.size (fun _ => True) v3 x3_1) ∧ Aside0 (Below w.heap.size w w'))
  case atStart => exact ⟨(y150), (0), (by first | rfl | (simp; done) | (simp [*]; done)), H', ⟨Nat.le_refl _⟩, ⟨by (with_reducible repeat (first | apply Kd.R_alloc | apply Kd.R_drewN | apply Kd.R_drew)); exact HO152.out⟩, ⟨by repeat (first | (with_reducible first | exact HB.out | apply below_alloc | apply pw_below_drewN | apply below_drew1) | exact HB.out)⟩⟩
  case round =>
    clear H'
    try clear c2
    try clear p2
    obtain ⟨x3_1, x9_1, rfl, HA, HK1, HO_3, HB⟩ := hrel
    cases gk with
    | zero => exact absurd HA.out (by simp [lex_Quote.l0])
    | succ k1 =>
      have H := HA.out
      clear HA
      simp only [lex_Quote.l0] at H
      by_cases c4 : x9_1 < (a0.size : Int)
      · rw [if_pos c4] at H
        have c4b0 : decide (x9_1 < (a0.size : Int)) = true := decide_eq_true c4
        clear c4
        by_cases c5 : 0 ≤ x9_1
        · rw [if_pos c5] at H
          have c5b0 : decide (0 ≤ x9_1) = true := decide_eq_true c5
          clear c5
          by_cases c6 : x9_1 < (a0.size : Int)
          · rw [if_pos c6] at H
            have c6b0 : decide (x9_1 < (a0.size : Int)) = true := decide_eq_true c6
            clear c6
            have HC8 := Aside0.mk H
            clear H
            have p7 : 0 ≤ (x9_1 : Int) := of_decide_eq_true (by first | (with_reducible assumption) | assumption)
            have q7 : x9_1 < (a0.size : Int) := of_decide_eq_true (by first | (with_reducible assumption) | assumption)
            have hx7 := bt_at a0 x9_1
            replace p7 := eq_true p7
            replace q7 := eq_true q7
            go_upto_region 7 with (fail)
            go_cut [24] (fun v24 wc => ∃ (kq : Nat) (x24_7 : Bool), v24 = .bool x24_7 ∧ Aside0 (lex_Quote.j1 kq a0 x3_1 (bt a0 x9_1) (a0.size : Int) x9_1 x24_7 = some r) ∧ Aside0 (kq ≤ k1) ∧ Aside0 (Kd.R (Kd.int .u8) 5 wc w.heap.size (fun _ => True) u3 x3_1) ∧ Aside0 (Below w.heap.size w wc))
            case first =>
              have H := HC8.out
              clear HC8
              by_cases c9 : (bt a0 x9_1) = 92
              · rw [if_pos c9] at H
                have c9b0 : ((bt a0 x9_1) == 92) = true := beq_iff_eq.mpr c9
                have c9b1 : ((bt a0 x9_1) != 92) = false := bne_eq_false_iff_eq.mpr c9
                clear c9
                (first | rw [c9b0] | (simp only [i64_w, i32_w]; rw [c9b0]) | skip)
                have H' := Aside0.mk H
                clear H
                go_wp2
                go_meet
                case rel => exact ⟨_, (true), (by first | rfl | (simp; done) | (simp [*]; done)), H', ⟨by have := HK1.out; first | omega | exact Nat.le_refl _⟩, ⟨by (with_reducible repeat (first | apply Kd.R_alloc | apply Kd.R_drewN | apply Kd.R_drew)); exact HO_3.out⟩, ⟨by repeat (first | (with_reducible first | exact HB.out | apply below_alloc | apply pw_below_drewN | apply below_drew1) | exact HB.out)⟩⟩
              · rw [if_neg c9] at H
                have c9b0 : ((bt a0 x9_1) == 92) = false := beq_eq_false_iff_ne.mpr c9
                have c9b1 : ((bt a0 x9_1) != 92) = true := bne_iff_ne.mpr c9
                (first | rw [c9b0] | (simp only [i64_w, i32_w]; rw [c9b0]) | skip)
                have H' := Aside0.mk H
                clear H
                go_wp2
                go_meet
                case rel => exact ⟨_, (((bt a0 x9_1) == 34)), (by first | rfl | (simp; done) | (simp [*]; done)), H', ⟨by have := HK1.out; first | omega | exact Nat.le_refl _⟩, ⟨by (with_reducible repeat (first | apply Kd.R_alloc | apply Kd.R_drewN | apply Kd.R_drew)); exact HO_3.out⟩, ⟨by repeat (first | (with_reducible first | exact HB.out | apply below_alloc | apply pw_below_drewN | apply below_drew1) | exact HB.out)⟩⟩
            case rest =>
              clear HC8
              try clear c2
              try clear p2
              try clear c4
              try clear c4b0
              try clear c5
              try clear c5b0
              try clear c6
              try clear c6b0
              try clear p7
              try clear q7
              try clear hx7
              try clear c9
              try clear c9b0
              try clear c9b1
              try clear p2
              try clear p7
              try clear q7
              obtain ⟨kq, x24_7, rfl, HA, HJ7, HO_3, HB⟩ := hcut
              cases kq with
              | zero => exact absurd HA.out (by simp [lex_Quote.j1])
              | succ kj7 =>
                have H := HA.out
                clear HA
                simp only [lex_Quote.j1] at H
                by_cases c10 : x24_7 = true
                · subst c10
                  have H1 : ((some (([92, (bt a0 x9_1)] : List Int) : List Int)).bind fun y156 => (if x3_1.length + y156.length < 140737488355328 then (lex_Quote.l0 kj7 a0 (x3_1 ++ y156) (a0.size : Int) (wrap64 (x9_1 + 1))) else (none))) = some r := by rw [if_pos rfl] at H; exact H
                  clear H
                  have H := H1
                  clear H1
                  obtain ⟨y156, hy156⟩ : ∃ y_ : List Int, y_ = (([92, (bt a0 x9_1)] : List Int)) := ⟨_, rfl⟩
                  replace H : (if x3_1.length + y156.length < 140737488355328 then (lex_Quote.l0 kj7 a0 (x3_1 ++ y156) (a0.size : Int) (wrap64 (x9_1 + 1))) else (none)) = some r := by first | (rw [hy156]; with_reducible exact H) | (have H2_ := (Option.bind_some _ _).symm.trans H; rw [hy156]; with_reducible exact H2_) | (have H2_ := (Option.bind_some _ _).symm.trans H; with_reducible exact H2_) | with_reducible exact H | (rw [hy156]; exact H) | exact H
                  have Ny156 := Aside0.mk hy156
                  clear hy156
                  by_cases c11 : x3_1.length + y156.length < 140737488355328
                  · rw [if_pos c11] at H
                    have LMc11 := Aside0.mk c11
                    clear c11
                    obtain ⟨y159, hy159⟩ : ∃ y_ : List Int, y_ = (x3_1 ++ y156) := ⟨_, rfl⟩
                    replace H : (lex_Quote.l0 kj7 a0 y159 (a0.size : Int) (wrap64 (x9_1 + 1))) = some r := by first | (rw [hy159]; with_reducible exact H) | (have H2_ := (Option.bind_some _ _).symm.trans H; rw [hy159]; with_reducible exact H2_) | (have H2_ := (Option.bind_some _ _).symm.trans H; with_reducible exact H2_) | with_reducible exact H | (rw [hy159]; exact H) | exact H
                    have Ny159 := Aside0.mk hy159
                    clear hy159
                    have H' := Aside0.mk H
                    clear H
                    go_wp2_with (first | ((with_reducible refine gate_dst (N := 33) rfl ?_); refine Kd.R_lit (Kd.int .u8) _ 5 ?hg (N := 33) ?hd (xs := ([92, (bt a0 x9_1)] : List Int)) (inner := [.int .u8 92, .int .u8 (bt a0 x9_1)]) (ok := fun _ => True) (okp := fun _ => True) ?hr ?hp (fun _ hk => hk) trivial (Below.refl _ _) (Nat.le_refl _) (by simp) ?_; (case hd => rfl); (case hg => rfl); (case hr => first | (go_simp; done) | (go_simp; rfl)); (case hp => exact (Reps.one (show Kd.M (Kd.int .u8) _ _ _ 92 [.int .u8 92] from rfl) (Reps.one (show Kd.M (Kd.int .u8) _ _ _ (bt a0 x9_1) [.int .u8 (bt a0 x9_1)] from rfl) (Reps.none _ _)))); intro v157 w12 ho13 hb hg_ hnew_; clear hg_ hnew_; (first | rw [← Ny156.out] at ho13 | (simp only [Int.reduceToNat] at ho13; rw [← Ny156.out] at ho13)); have n0_ := Aside0.mk (Kd.R_elder' (by (with_reducible repeat (first | apply Kd.R_alloc | apply Kd.R_drewN | apply Kd.R_drew)); exact HO_3.out) (Kd.R_base ho13) hb); have n1_ := Aside0.mk (Kd.R_lower (Kd.R_new' ho13 (Kd.R_lt (by (with_reducible repeat (first | apply Kd.R_alloc | apply Kd.R_drewN | apply Kd.R_drew)); exact HO_3.out))) (below_size (by repeat (first | (with_reducible first | exact HB.out | apply below_alloc | apply pw_below_drewN | apply below_drew1) | exact HB.out)))); have n2_ := Aside0.mk (below_step (by repeat (first | (with_reducible first | exact HB.out | apply below_alloc | apply pw_below_drewN | apply below_drew1) | exact HB.out)) hb); clear HO_3; clear HB; have HO_3 := n0_; have HO158 := n1_; have HB := n2_; clear n0_ n1_ n2_; clear hb ho13; obtain ⟨Ao15, co15, eo15⟩ := Kd.R_slice HO158.out; subst eo15) | ((with_reducible refine gate_builtin (b := .append) (xs := #[.tmp 31, .tmp 33]) rfl ?_); at_builtin; refine Kd.R_append_rows (Kd.int .u8) (w0 := w) w.heap.size rfl (.tmp 31) (.tmp 33) 70 5 (.int .u8 0) 1 rfl Tryd.underlying70 info5 rfl (by decide) (by omega) u3 x3_1 y156 _ _ _ (fun k_ => some k_ ≠ (.slice Ao15 y156.length co15 : Value).ownBlock) (fun _ => False) rfl rfl ?aO ?aR (fun _ _ h => h) (fun _ h => h.elim) ?aF ?aB ?aS ?aL ?_; (case aR => repeat (first | exact (Kd.R_reads' HO158.out).2.2 | (with_reducible refine Kd.C_alloc ?_ _) | (with_reducible refine Kd.C_drewN ?_ _) | (with_reducible refine Kd.C_drew ?_))); (case aB => exact (by repeat (first | (with_reducible first | exact HB.out | apply below_alloc | apply pw_below_drewN | apply below_drew1) | exact HB.out))); (case aF => exact (fun k_ hk => Kd.fresh' (Kd.R_lt (by (with_reducible repeat (first | apply Kd.R_alloc | apply Kd.R_drewN | apply Kd.R_drew)); exact HO158.out)) k_ hk)); (case aO => exact (by (with_reducible repeat (first | apply Kd.R_alloc | apply Kd.R_drewN | apply Kd.R_drew)); exact Kd.R_mono HO_3.out (fun _ hk => hk.2))); (case aS => exact (below_size (by repeat (first | (with_reducible first | exact HB.out | apply below_alloc | apply pw_below_drewN | apply below_drew1) | exact HB.out)))); (case aL => have := LMc11.out; omega); intro v160 w14 ho hb hg hat; rw [← Ny159.out] at ho; have n0_ := Aside0.mk (Kd.R_after (ok := (fun _ => True)) (by (with_reducible repeat (first | apply Kd.R_alloc | apply Kd.R_drewN | apply Kd.R_drew)); exact HO158.out) hg hat); have n1_ := Aside0.mk (hb); have n2_ := Aside0.mk (ho); clear HO158; clear HB; clear HO_3; have HO158 := n0_; have HB := n1_; have HO161 := n2_; clear n0_ n1_ n2_; clear ho hb hg hat))
                    go_roundg kj7
                    case measure => have := HK1.out; have := HJ7.out; omega
                    case rel => exact ⟨(y159), (wrap64 (x9_1 + 1)), (by first | rfl | (simp; done) | (simp [*]; done)), H', ⟨by have := HK1.out; have := HJ7.out; omega⟩, ⟨by (with_reducible repeat (first | apply Kd.R_alloc | apply Kd.R_drewN | apply Kd.R_drew)); exact Kd.R_mono HO161.out (fun _ hk => trivial)⟩, ⟨by repeat (first | (with_reducible first | exact HB.out | apply below_alloc | apply pw_below_drewN | apply below_drew1) | exact HB.out)⟩⟩
                  · rw [if_neg c11] at H
                    exact absurd H (by simp)
                · replace c10 := Bool.eq_false_iff.mpr c10
                  subst c10
                  have H1 : (if (bt a0 x9_1) = 10 then ((some (([92, 110] : List Int) : List Int)).bind fun y162 => (if x3_1.length + y162.length < 140737488355328 then (lex_Quote.l0 kj7 a0 (x3_1 ++ y162) (a0.size : Int) (wrap64 (x9_1 + 1))) else (none))) else (if (bt a0 x9_1) = 9 then ((some (([92, 116] : List Int) : List Int)).bind fun y168 => (if x3_1.length + y168.length < 140737488355328 then (lex_Quote.l0 kj7 a0 (x3_1 ++ y168) (a0.size : Int) (wrap64 (x9_1 + 1))) else (none))) else (if (bt a0 x9_1) ≥ 32 then (if (bt a0 x9_1) ≤ 126 then (if x3_1.length < 140737488355328 then (lex_Quote.l0 kj7 a0 (x3_1 ++ [(bt a0 x9_1)]) (a0.size : Int) (wrap64 (x9_1 + 1))) else (none)) else (if 0 ≤ ((bt a0 x9_1) / 16) then (if ((bt a0 x9_1) / 16) < 16 then (if 0 ≤ (Go.bits .and .u8 (bt a0 x9_1) 15) then (if (Go.bits .and .u8 (bt a0 x9_1) 15) < 16 then ((some (([92, 120, bt (⟨#[48, 49, 50, 51, 52, 53, 54, 55, 56, 57, 97, 98, 99, 100, 101, 102]⟩ : ByteArray) ((bt a0 x9_1) / 16), bt (⟨#[48, 49, 50, 51, 52, 53, 54, 55, 56, 57, 97, 98, 99, 100, 101, 102]⟩ : ByteArray) (Go.bits .and .u8 (bt a0 x9_1) 15)] : List Int) : List Int)).bind fun y177 => (if x3_1.length + y177.length < 140737488355328 then (lex_Quote.l0 kj7 a0 (x3_1 ++ y177) (a0.size : Int) (wrap64 (x9_1 + 1))) else (none))) else (none)) else (none)) else (none)) else (none))) else (if 0 ≤ ((bt a0 x9_1) / 16) then (if ((bt a0 x9_1) / 16) < 16 then (if 0 ≤ (Go.bits .and .u8 (bt a0 x9_1) 15) then (if (Go.bits .and .u8 (bt a0 x9_1) 15) < 16 then ((some (([92, 120, bt (⟨#[48, 49, 50, 51, 52, 53, 54, 55, 56, 57, 97, 98, 99, 100, 101, 102]⟩ : ByteArray) ((bt a0 x9_1) / 16), bt (⟨#[48, 49, 50, 51, 52, 53, 54, 55, 56, 57, 97, 98, 99, 100, 101, 102]⟩ : ByteArray) (Go.bits .and .u8 (bt a0 x9_1) 15)] : List Int) : List Int)).bind fun y183 => (if x3_1.length + y183.length < 140737488355328 then (lex_Quote.l0 kj7 a0 (x3_1 ++ y183) (a0.size : Int) (wrap64 (x9_1 + 1))) else (none))) else (none)) else (none)) else (none)) else (none))))) = some r := by rw [if_neg (show ¬ (false = true) by decide)] at H; exact H
                  clear H
                  have H := H1
                  clear H1
                  by_cases c16 : (bt a0 x9_1) = 10
                  · rw [if_pos c16] at H
                    have c16b0 : ((bt a0 x9_1) == 10) = true := beq_iff_eq.mpr c16
                    have c16b1 : ((bt a0 x9_1) != 10) = false := bne_eq_false_iff_eq.mpr c16
                    clear c16
                    obtain ⟨y162, hy162⟩ : ∃ y_ : List Int, y_ = (([92, 110] : List Int)) := ⟨_, rfl⟩
                    replace H : (if x3_1.length + y162.length < 140737488355328 then (lex_Quote.l0 kj7 a0 (x3_1 ++ y162) (a0.size : Int) (wrap64 (x9_1 + 1))) else (none)) = some r := by first | (rw [hy162]; with_reducible exact H) | (have H2_ := (Option.bind_some _ _).symm.trans H; rw [hy162]; with_reducible exact H2_) | (have H2_ := (Option.bind_some _ _).symm.trans H; with_reducible exact H2_) | with_reducible exact H | (rw [hy162]; exact H) | exact H
                    have Ny162 := Aside0.mk hy162
                    clear hy162
                    by_cases c17 : x3_1.length + y162.length < 140737488355328
                    · rw [if_pos c17] at H
                      have LMc17 := Aside0.mk c17
                      clear c17
                      obtain ⟨y165, hy165⟩ : ∃ y_ : List Int, y_ = (x3_1 ++ y162) := ⟨_, rfl⟩
                      replace H : (lex_Quote.l0 kj7 a0 y165 (a0.size : Int) (wrap64 (x9_1 + 1))) = some r := by first | (rw [hy165]; with_reducible exact H) | (have H2_ := (Option.bind_some _ _).symm.trans H; rw [hy165]; with_reducible exact H2_) | (have H2_ := (Option.bind_some _ _).symm.trans H; with_reducible exact H2_) | with_reducible exact H | (rw [hy165]; exact H) | exact H
                      have Ny165 := Aside0.mk hy165
                      clear hy165
                      have H' := Aside0.mk H
                      clear H
                      go_wp2_with (first | ((with_reducible refine gate_dst (N := 39) rfl ?_); refine Kd.R_lit (Kd.int .u8) _ 5 ?hg (N := 39) ?hd (xs := ([92, 110] : List Int)) (inner := [.int .u8 92, .int .u8 110]) (ok := fun _ => True) (okp := fun _ => True) ?hr ?hp (fun _ hk => hk) trivial (Below.refl _ _) (Nat.le_refl _) (by simp) ?_; (case hd => rfl); (case hg => rfl); (case hr => first | (go_simp; done) | (go_simp; rfl)); (case hp => exact (Reps.one (show Kd.M (Kd.int .u8) _ _ _ 92 [.int .u8 92] from rfl) (Reps.one (show Kd.M (Kd.int .u8) _ _ _ 110 [.int .u8 110] from rfl) (Reps.none _ _)))); intro v163 w18 ho19 hb hg_ hnew_; clear hg_ hnew_; (first | rw [← Ny162.out] at ho19 | (simp only [Int.reduceToNat] at ho19; rw [← Ny162.out] at ho19)); have n0_ := Aside0.mk (Kd.R_elder' (by (with_reducible repeat (first | apply Kd.R_alloc | apply Kd.R_drewN | apply Kd.R_drew)); exact HO_3.out) (Kd.R_base ho19) hb); have n1_ := Aside0.mk (Kd.R_lower (Kd.R_new' ho19 (Kd.R_lt (by (with_reducible repeat (first | apply Kd.R_alloc | apply Kd.R_drewN | apply Kd.R_drew)); exact HO_3.out))) (below_size (by repeat (first | (with_reducible first | exact HB.out | apply below_alloc | apply pw_below_drewN | apply below_drew1) | exact HB.out)))); have n2_ := Aside0.mk (below_step (by repeat (first | (with_reducible first | exact HB.out | apply below_alloc | apply pw_below_drewN | apply below_drew1) | exact HB.out)) hb); clear HO_3; clear HB; have HO_3 := n0_; have HO164 := n1_; have HB := n2_; clear n0_ n1_ n2_; clear hb ho19; obtain ⟨Ao21, co21, eo21⟩ := Kd.R_slice HO164.out; subst eo21) | ((with_reducible refine gate_builtin (b := .append) (xs := #[.tmp 38, .tmp 39]) rfl ?_); at_builtin; refine Kd.R_append_rows (Kd.int .u8) (w0 := w) w.heap.size rfl (.tmp 38) (.tmp 39) 70 5 (.int .u8 0) 1 rfl Tryd.underlying70 info5 rfl (by decide) (by omega) u3 x3_1 y162 _ _ _ (fun k_ => some k_ ≠ (.slice Ao21 y162.length co21 : Value).ownBlock) (fun _ => False) rfl rfl ?aO ?aR (fun _ _ h => h) (fun _ h => h.elim) ?aF ?aB ?aS ?aL ?_; (case aR => repeat (first | exact (Kd.R_reads' HO164.out).2.2 | (with_reducible refine Kd.C_alloc ?_ _) | (with_reducible refine Kd.C_drewN ?_ _) | (with_reducible refine Kd.C_drew ?_))); (case aB => exact (by repeat (first | (with_reducible first | exact HB.out | apply below_alloc | apply pw_below_drewN | apply below_drew1) | exact HB.out))); (case aF => exact (fun k_ hk => Kd.fresh' (Kd.R_lt (by (with_reducible repeat (first | apply Kd.R_alloc | apply Kd.R_drewN | apply Kd.R_drew)); exact HO164.out)) k_ hk)); (case aO => exact (by (with_reducible repeat (first | apply Kd.R_alloc | apply Kd.R_drewN | apply Kd.R_drew)); exact Kd.R_mono HO_3.out (fun _ hk => hk.2))); (case aS => exact (below_size (by repeat (first | (with_reducible first | exact HB.out | apply below_alloc | apply pw_below_drewN | apply below_drew1) | exact HB.out)))); (case aL => have := LMc17.out; omega); intro v166 w20 ho hb hg hat; rw [← Ny165.out] at ho; have n0_ := Aside0.mk (Kd.R_after (ok := (fun _ => True)) (by (with_reducible repeat (first | apply Kd.R_alloc | apply Kd.R_drewN | apply Kd.R_drew)); exact HO164.out) hg hat); have n1_ := Aside0.mk (hb); have n2_ := Aside0.mk (ho); clear HO164; clear HB; clear HO_3; have HO164 := n0_; have HB := n1_; have HO167 := n2_; clear n0_ n1_ n2_; clear ho hb hg hat))
                      go_roundg kj7
                      case measure => have := HK1.out; have := HJ7.out; omega
                      case rel => exact ⟨(y165), (wrap64 (x9_1 + 1)), (by first | rfl | (simp; done) | (simp [*]; done)), H', ⟨by have := HK1.out; have := HJ7.out; omega⟩, ⟨by (with_reducible repeat (first | apply Kd.R_alloc | apply Kd.R_drewN | apply Kd.R_drew)); exact Kd.R_mono HO167.out (fun _ hk => trivial)⟩, ⟨by repeat (first | (with_reducible first | exact HB.out | apply below_alloc | apply pw_below_drewN | apply below_drew1) | exact HB.out)⟩⟩
                    · rw [if_neg c17] at H
                      exact absurd H (by simp)
                  · rw [if_neg c16] at H
                    have c16b0 : ((bt a0 x9_1) == 10) = false := beq_eq_false_iff_ne.mpr c16
                    have c16b1 : ((bt a0 x9_1) != 10) = true := bne_iff_ne.mpr c16
                    by_cases c22 : (bt a0 x9_1) = 9
                    · rw [if_pos c22] at H
                      have c22b0 : ((bt a0 x9_1) == 9) = true := beq_iff_eq.mpr c22
                      have c22b1 : ((bt a0 x9_1) != 9) = false := bne_eq_false_iff_eq.mpr c22
                      clear c22
                      obtain ⟨y168, hy168⟩ : ∃ y_ : List Int, y_ = (([92, 116] : List Int)) := ⟨_, rfl⟩
                      replace H : (if x3_1.length + y168.length < 140737488355328 then (lex_Quote.l0 kj7 a0 (x3_1 ++ y168) (a0.size : Int) (wrap64 (x9_1 + 1))) else (none)) = some r := by first | (rw [hy168]; with_reducible exact H) | (have H2_ := (Option.bind_some _ _).symm.trans H; rw [hy168]; with_reducible exact H2_) | (have H2_ := (Option.bind_some _ _).symm.trans H; with_reducible exact H2_) | with_reducible exact H | (rw [hy168]; exact H) | exact H
                      have Ny168 := Aside0.mk hy168
                      clear hy168
                      by_cases c23 : x3_1.length + y168.length < 140737488355328
                      · rw [if_pos c23] at H
                        have LMc23 := Aside0.mk c23
                        clear c23
                        obtain ⟨y171, hy171⟩ : ∃ y_ : List Int, y_ = (x3_1 ++ y168) := ⟨_, rfl⟩
                        replace H : (lex_Quote.l0 kj7 a0 y171 (a0.size : Int) (wrap64 (x9_1 + 1))) = some r := by first | (rw [hy171]; with_reducible exact H) | (have H2_ := (Option.bind_some _ _).symm.trans H; rw [hy171]; with_reducible exact H2_) | (have H2_ := (Option.bind_some _ _).symm.trans H; with_reducible exact H2_) | with_reducible exact H | (rw [hy171]; exact H) | exact H
                        have Ny171 := Aside0.mk hy171
                        clear hy171
                        have H' := Aside0.mk H
                        clear H
                        go_wp2_with (first | ((with_reducible refine gate_dst (N := 45) rfl ?_); refine Kd.R_lit (Kd.int .u8) _ 5 ?hg (N := 45) ?hd (xs := ([92, 116] : List Int)) (inner := [.int .u8 92, .int .u8 116]) (ok := fun _ => True) (okp := fun _ => True) ?hr ?hp (fun _ hk => hk) trivial (Below.refl _ _) (Nat.le_refl _) (by simp) ?_; (case hd => rfl); (case hg => rfl); (case hr => first | (go_simp; done) | (go_simp; rfl)); (case hp => exact (Reps.one (show Kd.M (Kd.int .u8) _ _ _ 92 [.int .u8 92] from rfl) (Reps.one (show Kd.M (Kd.int .u8) _ _ _ 116 [.int .u8 116] from rfl) (Reps.none _ _)))); intro v169 w24 ho25 hb hg_ hnew_; clear hg_ hnew_; (first | rw [← Ny168.out] at ho25 | (simp only [Int.reduceToNat] at ho25; rw [← Ny168.out] at ho25)); have n0_ := Aside0.mk (Kd.R_elder' (by (with_reducible repeat (first | apply Kd.R_alloc | apply Kd.R_drewN | apply Kd.R_drew)); exact HO_3.out) (Kd.R_base ho25) hb); have n1_ := Aside0.mk (Kd.R_lower (Kd.R_new' ho25 (Kd.R_lt (by (with_reducible repeat (first | apply Kd.R_alloc | apply Kd.R_drewN | apply Kd.R_drew)); exact HO_3.out))) (below_size (by repeat (first | (with_reducible first | exact HB.out | apply below_alloc | apply pw_below_drewN | apply below_drew1) | exact HB.out)))); have n2_ := Aside0.mk (below_step (by repeat (first | (with_reducible first | exact HB.out | apply below_alloc | apply pw_below_drewN | apply below_drew1) | exact HB.out)) hb); clear HO_3; clear HB; have HO_3 := n0_; have HO170 := n1_; have HB := n2_; clear n0_ n1_ n2_; clear hb ho25; obtain ⟨Ao27, co27, eo27⟩ := Kd.R_slice HO170.out; subst eo27) | ((with_reducible refine gate_builtin (b := .append) (xs := #[.tmp 44, .tmp 45]) rfl ?_); at_builtin; refine Kd.R_append_rows (Kd.int .u8) (w0 := w) w.heap.size rfl (.tmp 44) (.tmp 45) 70 5 (.int .u8 0) 1 rfl Tryd.underlying70 info5 rfl (by decide) (by omega) u3 x3_1 y168 _ _ _ (fun k_ => some k_ ≠ (.slice Ao27 y168.length co27 : Value).ownBlock) (fun _ => False) rfl rfl ?aO ?aR (fun _ _ h => h) (fun _ h => h.elim) ?aF ?aB ?aS ?aL ?_; (case aR => repeat (first | exact (Kd.R_reads' HO170.out).2.2 | (with_reducible refine Kd.C_alloc ?_ _) | (with_reducible refine Kd.C_drewN ?_ _) | (with_reducible refine Kd.C_drew ?_))); (case aB => exact (by repeat (first | (with_reducible first | exact HB.out | apply below_alloc | apply pw_below_drewN | apply below_drew1) | exact HB.out))); (case aF => exact (fun k_ hk => Kd.fresh' (Kd.R_lt (by (with_reducible repeat (first | apply Kd.R_alloc | apply Kd.R_drewN | apply Kd.R_drew)); exact HO170.out)) k_ hk)); (case aO => exact (by (with_reducible repeat (first | apply Kd.R_alloc | apply Kd.R_drewN | apply Kd.R_drew)); exact Kd.R_mono HO_3.out (fun _ hk => hk.2))); (case aS => exact (below_size (by repeat (first | (with_reducible first | exact HB.out | apply below_alloc | apply pw_below_drewN | apply below_drew1) | exact HB.out)))); (case aL => have := LMc23.out; omega); intro v172 w26 ho hb hg hat; rw [← Ny171.out] at ho; have n0_ := Aside0.mk (Kd.R_after (ok := (fun _ => True)) (by (with_reducible repeat (first | apply Kd.R_alloc | apply Kd.R_drewN | apply Kd.R_drew)); exact HO170.out) hg hat); have n1_ := Aside0.mk (hb); have n2_ := Aside0.mk (ho); clear HO170; clear HB; clear HO_3; have HO170 := n0_; have HB := n1_; have HO173 := n2_; clear n0_ n1_ n2_; clear ho hb hg hat))
                        go_roundg kj7
                        case measure => have := HK1.out; have := HJ7.out; omega
                        case rel => exact ⟨(y171), (wrap64 (x9_1 + 1)), (by first | rfl | (simp; done) | (simp [*]; done)), H', ⟨by have := HK1.out; have := HJ7.out; omega⟩, ⟨by (with_reducible repeat (first | apply Kd.R_alloc | apply Kd.R_drewN | apply Kd.R_drew)); exact Kd.R_mono HO173.out (fun _ hk => trivial)⟩, ⟨by repeat (first | (with_reducible first | exact HB.out | apply below_alloc | apply pw_below_drewN | apply below_drew1) | exact HB.out)⟩⟩
                      · rw [if_neg c23] at H
                        exact absurd H (by simp)
                    · rw [if_neg c22] at H
                      have c22b0 : ((bt a0 x9_1) == 9) = false := beq_eq_false_iff_ne.mpr c22
                      have c22b1 : ((bt a0 x9_1) != 9) = true := bne_iff_ne.mpr c22
                      by_cases c28 : (bt a0 x9_1) ≥ 32
                      · rw [if_pos c28] at H
                        have c28b0 : decide (32 ≤ (bt a0 x9_1)) = true := decide_eq_true c28
                        clear c28
                        by_cases c29 : (bt a0 x9_1) ≤ 126
                        · rw [if_pos c29] at H
                          have c29b0 : decide ((bt a0 x9_1) ≤ 126) = true := decide_eq_true c29
                          clear c29
                          by_cases c30 : x3_1.length < 140737488355328
                          · rw [if_pos c30] at H
                            have LMc30 := Aside0.mk c30
                            clear c30
                            obtain ⟨y174, hy174⟩ : ∃ y_ : List Int, y_ = (x3_1 ++ [(bt a0 x9_1)]) := ⟨_, rfl⟩
                            replace H : (lex_Quote.l0 kj7 a0 y174 (a0.size : Int) (wrap64 (x9_1 + 1))) = some r := by first | (rw [hy174]; with_reducible exact H) | (have H2_ := (Option.bind_some _ _).symm.trans H; rw [hy174]; with_reducible exact H2_) | (have H2_ := (Option.bind_some _ _).symm.trans H; with_reducible exact H2_) | with_reducible exact H | (rw [hy174]; exact H) | exact H
                            have Ny174 := Aside0.mk hy174
                            clear hy174
                            have H' := Aside0.mk H
                            clear H
                            go_wp2_with (first | ((with_reducible refine gate_builtin (b := .append) (xs := #[.tmp 54, .tmp 56]) rfl ?_); at_builtin; refine Kd.R_append (Kd.int .u8) (w0 := w) w.heap.size rfl (.tmp 54) (.tmp 56) 70 5 (.int .u8 0) 1 rfl Tryd.underlying70 info5 rfl (by decide) (by omega) u3 x3_1 (bt a0 x9_1) [.int .u8 (bt a0 x9_1)] (fun _ => True) (fun _ => False) rfl rfl ?aP (fun _ hk => hk.elim) ?aF ?aO ?aB ?aS ?aL ?_; (case aP => exact rfl); (case aB => exact (by repeat (first | (with_reducible first | exact HB.out | apply below_alloc | apply pw_below_drewN | apply below_drew1) | exact HB.out))); (case aF => exact (fun _ _ => trivial)); (case aO => exact (by (with_reducible repeat (first | apply Kd.R_alloc | apply Kd.R_drewN | apply Kd.R_drew)); exact HO_3.out)); (case aS => exact (below_size (by repeat (first | (with_reducible first | exact HB.out | apply below_alloc | apply pw_below_drewN | apply below_drew1) | exact HB.out)))); (case aL => have := LMc30.out; omega); intro v175 w31 ho hb hg hat; rw [← Ny174.out] at ho; have n0_ := Aside0.mk (hb); have n1_ := Aside0.mk (ho); clear HB; clear HO_3; have HB := n0_; have HO176 := n1_; clear n0_ n1_; clear ho hb hg hat))
                            go_roundg kj7
                            case measure => have := HK1.out; have := HJ7.out; omega
                            case rel => exact ⟨(y174), (wrap64 (x9_1 + 1)), (by first | rfl | (simp; done) | (simp [*]; done)), H', ⟨by have := HK1.out; have := HJ7.out; omega⟩, ⟨by (with_reducible repeat (first | apply Kd.R_alloc | apply Kd.R_drewN | apply Kd.R_drew)); exact HO176.out⟩, ⟨by repeat (first | (with_reducible first | exact HB.out | apply below_alloc | apply pw_below_drewN | apply below_drew1) | exact HB.out)⟩⟩
                          · rw [if_neg c30] at H
                            exact absurd H (by simp)
                        · rw [if_neg c29] at H
                          have c29b0 : decide ((bt a0 x9_1) ≤ 126) = false := decide_eq_false c29
                          clear c29
                          obtain ⟨ji32, hji32⟩ : ∃ j_ : Int, ((bt a0 x9_1) / 16) = j_ := ⟨_, rfl⟩
                          replace H : (if 0 ≤ (ji32) then (if (ji32) < 16 then (if 0 ≤ (Go.bits .and .u8 (bt a0 x9_1) 15) then (if (Go.bits .and .u8 (bt a0 x9_1) 15) < 16 then ((some (([92, 120, bt (⟨#[48, 49, 50, 51, 52, 53, 54, 55, 56, 57, 97, 98, 99, 100, 101, 102]⟩ : ByteArray) (ji32), bt (⟨#[48, 49, 50, 51, 52, 53, 54, 55, 56, 57, 97, 98, 99, 100, 101, 102]⟩ : ByteArray) (Go.bits .and .u8 (bt a0 x9_1) 15)] : List Int) : List Int)).bind fun y177 => (if x3_1.length + y177.length < 140737488355328 then (lex_Quote.l0 kj7 a0 (x3_1 ++ y177) (a0.size : Int) (wrap64 (x9_1 + 1))) else (none))) else (none)) else (none)) else (none)) else (none)) = some r := by first | (rw [hji32] at H; exact H) | (simp only [hji32] at H ⊢; exact H)
                          by_cases c33 : 0 ≤ (ji32)
                          · rw [if_pos c33] at H
                            have c33b0 : decide (0 ≤ (ji32)) = true := decide_eq_true c33
                            clear c33
                            by_cases c34 : (ji32) < 16
                            · rw [if_pos c34] at H
                              have c34b0 : decide ((ji32) < 16) = true := decide_eq_true c34
                              clear c34
                              by_cases c36 : 0 ≤ (Go.bits .and .u8 (bt a0 x9_1) 15)
                              · rw [if_pos c36] at H
                                have c36b0 : decide (0 ≤ (Go.bits .and .u8 (bt a0 x9_1) 15)) = true := decide_eq_true c36
                                clear c36
                                by_cases c37 : (Go.bits .and .u8 (bt a0 x9_1) 15) < 16
                                · rw [if_pos c37] at H
                                  have c37b0 : decide ((Go.bits .and .u8 (bt a0 x9_1) 15) < 16) = true := decide_eq_true c37
                                  clear c37
                                  obtain ⟨y177, hy177⟩ : ∃ y_ : List Int, y_ = (([92, 120, bt (⟨#[48, 49, 50, 51, 52, 53, 54, 55, 56, 57, 97, 98, 99, 100, 101, 102]⟩ : ByteArray) (ji32), bt (⟨#[48, 49, 50, 51, 52, 53, 54, 55, 56, 57, 97, 98, 99, 100, 101, 102]⟩ : ByteArray) (Go.bits .and .u8 (bt a0 x9_1) 15)] : List Int)) := ⟨_, rfl⟩
                                  replace H : (if x3_1.length + y177.length < 140737488355328 then (lex_Quote.l0 kj7 a0 (x3_1 ++ y177) (a0.size : Int) (wrap64 (x9_1 + 1))) else (none)) = some r := by first | (rw [hy177]; with_reducible exact H) | (have H2_ := (Option.bind_some _ _).symm.trans H; rw [hy177]; with_reducible exact H2_) | (have H2_ := (Option.bind_some _ _).symm.trans H; with_reducible exact H2_) | with_reducible exact H | (rw [hy177]; exact H) | exact H
                                  have Ny177 := Aside0.mk hy177
                                  clear hy177
                                  by_cases c39 : x3_1.length + y177.length < 140737488355328
                                  · rw [if_pos c39] at H
                                    have LMc39 := Aside0.mk c39
                                    clear c39
                                    obtain ⟨y180, hy180⟩ : ∃ y_ : List Int, y_ = (x3_1 ++ y177) := ⟨_, rfl⟩
                                    replace H : (lex_Quote.l0 kj7 a0 y180 (a0.size : Int) (wrap64 (x9_1 + 1))) = some r := by first | (rw [hy180]; with_reducible exact H) | (have H2_ := (Option.bind_some _ _).symm.trans H; rw [hy180]; with_reducible exact H2_) | (have H2_ := (Option.bind_some _ _).symm.trans H; with_reducible exact H2_) | with_reducible exact H | (rw [hy180]; exact H) | exact H
                                    have Ny180 := Aside0.mk hy180
                                    clear hy180
                                    have H' := Aside0.mk H
                                    clear H
                                    try go_wp2
                                    have n0_ := Aside0.mk (Kd.R_drew HO_3.out)
                                    have n1_ := Aside0.mk (below_drew1 HB.out)
                                    clear HO_3
                                    clear HB
                                    have HO_3 := n0_
                                    have HB := n1_
                                    clear n0_ n1_
                                    have p35 : 0 ≤ ((ji32) : Int) := of_decide_eq_true (by first | (with_reducible assumption) | assumption)
                                    have q35 : (ji32) < (16 : Int) := of_decide_eq_true (by first | (with_reducible assumption) | assumption)
                                    have hx35 := bt_at (⟨#[48, 49, 50, 51, 52, 53, 54, 55, 56, 57, 97, 98, 99, 100, 101, 102]⟩ : ByteArray) (ji32)
                                    replace p35 := eq_true p35
                                    replace q35 := eq_true q35
                                    have p38 : 0 ≤ ((Go.bits .and .u8 (bt a0 x9_1) 15) : Int) := of_decide_eq_true (by first | (with_reducible assumption) | assumption)
                                    have q38 : (Go.bits .and .u8 (bt a0 x9_1) 15) < (16 : Int) := of_decide_eq_true (by first | (with_reducible assumption) | assumption)
                                    have hx38 := bt_at (⟨#[48, 49, 50, 51, 52, 53, 54, 55, 56, 57, 97, 98, 99, 100, 101, 102]⟩ : ByteArray) (Go.bits .and .u8 (bt a0 x9_1) 15)
                                    replace p38 := eq_true p38
                                    replace q38 := eq_true q38
                                    refine start_ (n := 10) (S := fun w' => True) (ds := []) #[false, false, false, false, false, false, false, false, false, false] (by kernel_rfl) rfl rfl trivial (fun hHeld => ?_); refine with_tabW lex_Quote.tab6 lex_Quote.bits6 (fun HT_ HW_ => ?_)
                                    generalize wc.drew = w40 at HO_3 HB hHeld ⊢
                                    refine pure_ (i := 0) (N := some 15) (v := ?_) (a' := ?_) #[true, false, false, false, false, false, false, false, false, false] rfl rfl (any_of HT_.out (by kernel_rfl)) (fun _ _ _ h => h) (Or.inl ⟨by rfl, ?_⟩) ?_ ?_
                                    rotate_left
                                    · intro w'
                                      go_simp
                                      with_reducible rfl
                                    rotate_left
                                    · simp only [Act.put, List.setIfInBounds_toArray, List.set_cons_zero, List.set_cons_succ, i64_w, i32_w]
                                      rfl
                                    refine pure_ (i := 1) (N := some 16) (v := ?_) (a' := ?_) #[true, true, false, false, false, false, false, false, false, false] rfl rfl (any_of HT_.out (by kernel_rfl)) (fun _ _ _ h => h) (Or.inl ⟨by rfl, ?_⟩) ?_ ?_
                                    rotate_left
                                    · intro w'
                                      go_simp
                                      with_reducible rfl
                                    rotate_left
                                    · simp only [Act.put, List.setIfInBounds_toArray, List.set_cons_zero, List.set_cons_succ, i64_w, i32_w]
                                      rfl
                                    refine pure_ (i := 2) (N := some 17) (v := ?_) (a' := ?_) #[true, true, true, false, false, false, false, false, false, false] rfl rfl (any_of HT_.out (by kernel_rfl)) (fun _ _ _ h => h) (Or.inl ⟨by rfl, ?_⟩) ?_ ?_
                                    rotate_left
                                    · intro w'
                                      go_simp
                                      with_reducible rfl
                                    rotate_left
                                    · simp only [Act.put, List.setIfInBounds_toArray, List.set_cons_zero, List.set_cons_succ, i64_w, i32_w]
                                      rfl
                                    refine pure_ (i := 4) (N := some 19) (v := ?_) (a' := ?_) #[true, true, true, false, true, false, false, false, false, false] rfl rfl (any_of HT_.out (by kernel_rfl)) (fun _ _ _ h => h) (Or.inl ⟨by rfl, ?_⟩) ?_ ?_
                                    rotate_left
                                    · intro w'
                                      go_simp
                                      with_reducible rfl
                                    rotate_left
                                    · simp only [Act.put, List.setIfInBounds_toArray, List.set_cons_zero, List.set_cons_succ, i64_w, i32_w]
                                      rfl
                                    refine pure_ (i := 5) (N := some 20) (v := ?_) (a' := ?_) #[true, true, true, false, true, true, false, false, false, false] rfl rfl (any_of HT_.out (by kernel_rfl)) (fun _ _ _ h => h) (Or.inl ⟨by rfl, ?_⟩) ?_ ?_
                                    rotate_left
                                    · intro w'
                                      go_simp
                                      with_reducible rfl
                                    rotate_left
                                    · simp only [Act.put, List.setIfInBounds_toArray, List.set_cons_zero, List.set_cons_succ, i64_w, i32_w]
                                      rfl
                                    refine take_ (i := 3) (N := some 18) (v := ?_) (a' := ?_) #[true, true, true, true, true, true, false, false, false, false] rfl rfl (take_ofW HT_.out HW_.out (by kernel_rfl)) (fun _ _ _ h => h) (Or.inl ⟨by rfl, ?_⟩) hHeld ?_ ?_
                                    rotate_left
                                    · intro w' _
                                      go_simp
                                      with_reducible rfl
                                    rotate_left
                                    · simp only [Act.put, List.setIfInBounds_toArray, List.set_cons_zero, List.set_cons_succ, i64_w, i32_w]
                                      rfl
                                    refine take_ (i := 6) (N := some 21) (v := ?_) (a' := ?_) #[true, true, true, true, true, true, true, false, false, false] rfl rfl (take_ofW HT_.out HW_.out (by kernel_rfl)) (fun _ _ _ h => h) (Or.inl ⟨by rfl, ?_⟩) hHeld ?_ ?_
                                    rotate_left
                                    · intro w' _
                                      go_simp
                                      with_reducible rfl
                                    rotate_left
                                    · simp only [Act.put, List.setIfInBounds_toArray, List.set_cons_zero, List.set_cons_succ, i64_w, i32_w]
                                      rfl
                                    refine one_ (i := 7) (N := some 22) #[true, true, true, true, true, true, true, true, false, false] rfl rfl (one_of HT_.out (by kernel_rfl)) (by decide) (fun K hK => ?_)
                                    refine Kd.R_lit_step (Kd.int .u8) _ 5 ?hg (N := 22) ?hd (xs := ([92, 120, bt (⟨#[48, 49, 50, 51, 52, 53, 54, 55, 56, 57, 97, 98, 99, 100, 101, 102]⟩ : ByteArray) (ji32), bt (⟨#[48, 49, 50, 51, 52, 53, 54, 55, 56, 57, 97, 98, 99, 100, 101, 102]⟩ : ByteArray) (Go.bits .and .u8 (bt a0 x9_1) 15)] : List Int)) (inner := [.int .u8 92, .int .u8 120, .int .u8 (bt (⟨#[48, 49, 50, 51, 52, 53, 54, 55, 56, 57, 97, 98, 99, 100, 101, 102]⟩ : ByteArray) (ji32)), .int .u8 (bt (⟨#[48, 49, 50, 51, 52, 53, 54, 55, 56, 57, 97, 98, 99, 100, 101, 102]⟩ : ByteArray) (Go.bits .and .u8 (bt a0 x9_1) 15))]) (ok := fun _ => True) (okp := fun _ => True) ?hr ?hp (fun _ hk => hk) trivial (Below.refl _ _) (Nat.le_refl _) (by simp) ?_; (case hd => rfl); (case hg => rfl); (case hr => first | (go_simp; done) | (go_simp; rfl)); (case hp => exact (Reps.one (show Kd.M (Kd.int .u8) _ _ _ 92 [.int .u8 92] from rfl) (Reps.one (show Kd.M (Kd.int .u8) _ _ _ 120 [.int .u8 120] from rfl) (Reps.one (show Kd.M (Kd.int .u8) _ _ _ (bt (⟨#[48, 49, 50, 51, 52, 53, 54, 55, 56, 57, 97, 98, 99, 100, 101, 102]⟩ : ByteArray) (ji32)) [.int .u8 (bt (⟨#[48, 49, 50, 51, 52, 53, 54, 55, 56, 57, 97, 98, 99, 100, 101, 102]⟩ : ByteArray) (ji32))] from rfl) (Reps.one (show Kd.M (Kd.int .u8) _ _ _ (bt (⟨#[48, 49, 50, 51, 52, 53, 54, 55, 56, 57, 97, 98, 99, 100, 101, 102]⟩ : ByteArray) (Go.bits .and .u8 (bt a0 x9_1) 15)) [.int .u8 (bt (⟨#[48, 49, 50, 51, 52, 53, 54, 55, 56, 57, 97, 98, 99, 100, 101, 102]⟩ : ByteArray) (Go.bits .and .u8 (bt a0 x9_1) 15))] from rfl) (Reps.none _ _))))))
                                    intro v178 w41 ho42 hb hg_ hnew_
                                    clear hg_ hnew_
                                    (first | rw [← Ny177.out] at ho42 | (simp only [Int.reduceToNat] at ho42; rw [← Ny177.out] at ho42))
                                    have n0_ := Aside0.mk (Kd.R_elder' (by (with_reducible repeat (first | apply Kd.R_alloc | apply Kd.R_drewN | apply Kd.R_drew)); exact HO_3.out) (Kd.R_base ho42) hb)
                                    have n1_ := Aside0.mk (Kd.R_lower (Kd.R_new' ho42 (Kd.R_lt (by (with_reducible repeat (first | apply Kd.R_alloc | apply Kd.R_drewN | apply Kd.R_drew)); exact HO_3.out))) (below_size (by repeat (first | (with_reducible first | exact HB.out | apply below_alloc | apply pw_below_drewN | apply below_drew1) | exact HB.out))))
                                    have n2_ := Aside0.mk (below_step (by repeat (first | (with_reducible first | exact HB.out | apply below_alloc | apply pw_below_drewN | apply below_drew1) | exact HB.out)) hb)
                                    clear HO_3
                                    clear HB
                                    have HO_3 := n0_
                                    have HO179 := n1_
                                    have HB := n2_
                                    clear n0_ n1_ n2_
                                    clear hb ho42
                                    obtain ⟨Ao44, co44, eo44⟩ := Kd.R_slice HO179.out
                                    (first | subst eo44 | (injection eo44 with f1_ f2_ f3_; have f4_ := f1_.symm; have f5_ := f3_.symm; clear f1_ f2_ f3_; subst f4_; subst f5_))
                                    refine hK.out _ _ trivial (fun hHeld => ?_)
                                    clear hK K
                                    refine norm_ (a' := ?_) ?_ ?_
                                    rotate_left
                                    · show Act.put _ (some 22) _ = _
                                      simp only [Act.put, List.setIfInBounds_toArray, List.set_cons_zero, List.set_cons_succ, i64_w, i32_w]
                                      rfl
                                    refine one_ (i := 8) (N := some 23) #[true, true, true, true, true, true, true, true, true, false] rfl rfl (one_of HT_.out (by kernel_rfl)) (by decide) (fun K hK => ?_)
                                    refine Kd.R_append_rows_step (Kd.int .u8) (w0 := w) w.heap.size (by rfl) (.tmp 15) (.tmp 22) 70 5 (.int .u8 0) 1 rfl Tryd.underlying70 info5 rfl (by decide) (by omega) u3 x3_1 y177 _ _ _ (fun k_ => some k_ ≠ (.slice Ao44 y177.length co44 : Value).ownBlock) (fun _ => False) rfl rfl ?aO ?aR (fun _ _ h => h) (fun _ h => h.elim) ?aF ?aB ?aS ?aL ?_
                                    (case aR => repeat (first | exact (Kd.R_reads' HO179.out).2.2 | (with_reducible refine Kd.C_alloc ?_ _) | (with_reducible refine Kd.C_drewN ?_ _) | (with_reducible refine Kd.C_drew ?_)))
                                    (case aB => exact (by repeat (first | (with_reducible first | exact HB.out | apply below_alloc | apply pw_below_drewN | apply below_drew1) | exact HB.out)))
                                    (case aF => exact (fun k_ hk => Kd.fresh' (Kd.R_lt (by (with_reducible repeat (first | apply Kd.R_alloc | apply Kd.R_drewN | apply Kd.R_drew)); exact HO179.out)) k_ hk))
                                    (case aO => exact (by (with_reducible repeat (first | apply Kd.R_alloc | apply Kd.R_drewN | apply Kd.R_drew)); exact Kd.R_mono HO_3.out (fun _ hk => hk.2)))
                                    (case aS => exact (below_size (by repeat (first | (with_reducible first | exact HB.out | apply below_alloc | apply pw_below_drewN | apply below_drew1) | exact HB.out))))
                                    (case aL => have := LMc39.out; omega)
                                    intro v181 w43 ho hb hg hat
                                    rw [← Ny180.out] at ho
                                    have n0_ := Aside0.mk (Kd.R_after (ok := (fun _ => True)) (by (with_reducible repeat (first | apply Kd.R_alloc | apply Kd.R_drewN | apply Kd.R_drew)); exact HO179.out) hg hat)
                                    have n1_ := Aside0.mk (hb)
                                    have n2_ := Aside0.mk (ho)
                                    clear HO179
                                    clear HB
                                    clear HO_3
                                    have HO179 := n0_
                                    have HB := n1_
                                    have HO182 := n2_
                                    clear n0_ n1_ n2_
                                    clear ho hb hg hat
                                    refine hK.out _ _ trivial (fun hHeld => ?_)
                                    clear hK K
                                    refine norm_ (a' := ?_) ?_ ?_
                                    rotate_left
                                    · show Act.put _ (some 23) _ = _
                                      simp only [Act.put, List.setIfInBounds_toArray, List.set_cons_zero, List.set_cons_succ, i64_w, i32_w]
                                      rfl
                                    refine pure_ (i := 9) (N := some 3) (v := ?_) (a' := ?_) #[true, true, true, true, true, true, true, true, true, true] rfl rfl (any_of HT_.out (by kernel_rfl)) (fun _ _ _ h => h) (Or.inl ⟨by rfl, ?_⟩) ?_ ?_
                                    rotate_left
                                    · intro w'
                                      go_simp
                                      with_reducible rfl
                                    rotate_left
                                    · simp only [Act.put, List.setIfInBounds_toArray, List.set_cons_zero, List.set_cons_succ, i64_w, i32_w]
                                      rfl
                                    refine done_ (done_of HT_.out (by kernel_rfl)) ?_
                                    try go_wp2
                                    go_roundg kj7
                                    case measure => have := HK1.out; have := HJ7.out; omega
                                    case rel => exact ⟨(y180), (wrap64 (x9_1 + 1)), (by first | rfl | (simp; done) | (simp [*]; done)), H', ⟨by have := HK1.out; have := HJ7.out; omega⟩, ⟨by (with_reducible repeat (first | apply Kd.R_alloc | apply Kd.R_drewN | apply Kd.R_drew)); exact Kd.R_mono HO182.out (fun _ hk => trivial)⟩, ⟨by repeat (first | (with_reducible first | exact HB.out | apply below_alloc | apply pw_below_drewN | apply below_drew1) | exact HB.out)⟩⟩
                                  · rw [if_neg c39] at H
                                    exact absurd H (by simp)
                                · rw [if_neg c37] at H
                                  exact absurd H (by simp)
                              · rw [if_neg c36] at H
                                exact absurd H (by simp)
                            · rw [if_neg c34] at H
                              exact absurd H (by simp)
                          · rw [if_neg c33] at H
                            exact absurd H (by simp)
                      · rw [if_neg c28] at H
                        have c28b0 : decide (32 ≤ (bt a0 x9_1)) = false := decide_eq_false c28
                        clear c28
                        try clear hji32
                        try clear hji32w
                        obtain ⟨ji45, hji45⟩ : ∃ j_ : Int, ((bt a0 x9_1) / 16) = j_ := ⟨_, rfl⟩
                        replace H : (if 0 ≤ (ji45) then (if (ji45) < 16 then (if 0 ≤ (Go.bits .and .u8 (bt a0 x9_1) 15) then (if (Go.bits .and .u8 (bt a0 x9_1) 15) < 16 then ((some (([92, 120, bt (⟨#[48, 49, 50, 51, 52, 53, 54, 55, 56, 57, 97, 98, 99, 100, 101, 102]⟩ : ByteArray) (ji45), bt (⟨#[48, 49, 50, 51, 52, 53, 54, 55, 56, 57, 97, 98, 99, 100, 101, 102]⟩ : ByteArray) (Go.bits .and .u8 (bt a0 x9_1) 15)] : List Int) : List Int)).bind fun y183 => (if x3_1.length + y183.length < 140737488355328 then (lex_Quote.l0 kj7 a0 (x3_1 ++ y183) (a0.size : Int) (wrap64 (x9_1 + 1))) else (none))) else (none)) else (none)) else (none)) else (none)) = some r := by first | (rw [hji45] at H; exact H) | (simp only [hji45] at H ⊢; exact H)
                        by_cases c46 : 0 ≤ (ji45)
                        · rw [if_pos c46] at H
                          have c46b0 : decide (0 ≤ (ji45)) = true := decide_eq_true c46
                          clear c46
                          by_cases c47 : (ji45) < 16
                          · rw [if_pos c47] at H
                            have c47b0 : decide ((ji45) < 16) = true := decide_eq_true c47
                            clear c47
                            by_cases c49 : 0 ≤ (Go.bits .and .u8 (bt a0 x9_1) 15)
                            · rw [if_pos c49] at H
                              have c49b0 : decide (0 ≤ (Go.bits .and .u8 (bt a0 x9_1) 15)) = true := decide_eq_true c49
                              clear c49
                              by_cases c50 : (Go.bits .and .u8 (bt a0 x9_1) 15) < 16
                              · rw [if_pos c50] at H
                                have c50b0 : decide ((Go.bits .and .u8 (bt a0 x9_1) 15) < 16) = true := decide_eq_true c50
                                clear c50
                                obtain ⟨y183, hy183⟩ : ∃ y_ : List Int, y_ = (([92, 120, bt (⟨#[48, 49, 50, 51, 52, 53, 54, 55, 56, 57, 97, 98, 99, 100, 101, 102]⟩ : ByteArray) (ji45), bt (⟨#[48, 49, 50, 51, 52, 53, 54, 55, 56, 57, 97, 98, 99, 100, 101, 102]⟩ : ByteArray) (Go.bits .and .u8 (bt a0 x9_1) 15)] : List Int)) := ⟨_, rfl⟩
                                replace H : (if x3_1.length + y183.length < 140737488355328 then (lex_Quote.l0 kj7 a0 (x3_1 ++ y183) (a0.size : Int) (wrap64 (x9_1 + 1))) else (none)) = some r := by first | (rw [hy183]; with_reducible exact H) | (have H2_ := (Option.bind_some _ _).symm.trans H; rw [hy183]; with_reducible exact H2_) | (have H2_ := (Option.bind_some _ _).symm.trans H; with_reducible exact H2_) | with_reducible exact H | (rw [hy183]; exact H) | exact H
                                have Ny183 := Aside0.mk hy183
                                clear hy183
                                by_cases c52 : x3_1.length + y183.length < 140737488355328
                                · rw [if_pos c52] at H
                                  have LMc52 := Aside0.mk c52
                                  clear c52
                                  obtain ⟨y186, hy186⟩ : ∃ y_ : List Int, y_ = (x3_1 ++ y183) := ⟨_, rfl⟩
                                  replace H : (lex_Quote.l0 kj7 a0 y186 (a0.size : Int) (wrap64 (x9_1 + 1))) = some r := by first | (rw [hy186]; with_reducible exact H) | (have H2_ := (Option.bind_some _ _).symm.trans H; rw [hy186]; with_reducible exact H2_) | (have H2_ := (Option.bind_some _ _).symm.trans H; with_reducible exact H2_) | with_reducible exact H | (rw [hy186]; exact H) | exact H
                                  have Ny186 := Aside0.mk hy186
                                  clear hy186
                                  have H' := Aside0.mk H
                                  clear H
                                  try go_wp2
                                  have n0_ := Aside0.mk (Kd.R_drew HO_3.out)
                                  have n1_ := Aside0.mk (below_drew1 HB.out)
                                  clear HO_3
                                  clear HB
                                  have HO_3 := n0_
                                  have HB := n1_
                                  clear n0_ n1_
                                  have p48 : 0 ≤ ((ji45) : Int) := of_decide_eq_true (by first | (with_reducible assumption) | assumption)
                                  have q48 : (ji45) < (16 : Int) := of_decide_eq_true (by first | (with_reducible assumption) | assumption)
                                  have hx48 := bt_at (⟨#[48, 49, 50, 51, 52, 53, 54, 55, 56, 57, 97, 98, 99, 100, 101, 102]⟩ : ByteArray) (ji45)
                                  replace p48 := eq_true p48
                                  replace q48 := eq_true q48
                                  have p51 : 0 ≤ ((Go.bits .and .u8 (bt a0 x9_1) 15) : Int) := of_decide_eq_true (by first | (with_reducible assumption) | assumption)
                                  have q51 : (Go.bits .and .u8 (bt a0 x9_1) 15) < (16 : Int) := of_decide_eq_true (by first | (with_reducible assumption) | assumption)
                                  have hx51 := bt_at (⟨#[48, 49, 50, 51, 52, 53, 54, 55, 56, 57, 97, 98, 99, 100, 101, 102]⟩ : ByteArray) (Go.bits .and .u8 (bt a0 x9_1) 15)
                                  replace p51 := eq_true p51
                                  replace q51 := eq_true q51
                                  refine start_ (n := 10) (S := fun w' => True) (ds := []) #[false, false, false, false, false, false, false, false, false, false] (by kernel_rfl) rfl rfl trivial (fun hHeld => ?_); refine with_tabW lex_Quote.tab6 lex_Quote.bits6 (fun HT_ HW_ => ?_)
                                  generalize wc.drew = w53 at HO_3 HB hHeld ⊢
                                  refine pure_ (i := 0) (N := some 15) (v := ?_) (a' := ?_) #[true, false, false, false, false, false, false, false, false, false] rfl rfl (any_of HT_.out (by kernel_rfl)) (fun _ _ _ h => h) (Or.inl ⟨by rfl, ?_⟩) ?_ ?_
                                  rotate_left
                                  · intro w'
                                    go_simp
                                    with_reducible rfl
                                  rotate_left
                                  · simp only [Act.put, List.setIfInBounds_toArray, List.set_cons_zero, List.set_cons_succ, i64_w, i32_w]
                                    rfl
                                  refine pure_ (i := 1) (N := some 16) (v := ?_) (a' := ?_) #[true, true, false, false, false, false, false, false, false, false] rfl rfl (any_of HT_.out (by kernel_rfl)) (fun _ _ _ h => h) (Or.inl ⟨by rfl, ?_⟩) ?_ ?_
                                  rotate_left
                                  · intro w'
                                    go_simp
                                    with_reducible rfl
                                  rotate_left
                                  · simp only [Act.put, List.setIfInBounds_toArray, List.set_cons_zero, List.set_cons_succ, i64_w, i32_w]
                                    rfl
                                  refine pure_ (i := 2) (N := some 17) (v := ?_) (a' := ?_) #[true, true, true, false, false, false, false, false, false, false] rfl rfl (any_of HT_.out (by kernel_rfl)) (fun _ _ _ h => h) (Or.inl ⟨by rfl, ?_⟩) ?_ ?_
                                  rotate_left
                                  · intro w'
                                    go_simp
                                    with_reducible rfl
                                  rotate_left
                                  · simp only [Act.put, List.setIfInBounds_toArray, List.set_cons_zero, List.set_cons_succ, i64_w, i32_w]
                                    rfl
                                  refine pure_ (i := 4) (N := some 19) (v := ?_) (a' := ?_) #[true, true, true, false, true, false, false, false, false, false] rfl rfl (any_of HT_.out (by kernel_rfl)) (fun _ _ _ h => h) (Or.inl ⟨by rfl, ?_⟩) ?_ ?_
                                  rotate_left
                                  · intro w'
                                    go_simp
                                    with_reducible rfl
                                  rotate_left
                                  · simp only [Act.put, List.setIfInBounds_toArray, List.set_cons_zero, List.set_cons_succ, i64_w, i32_w]
                                    rfl
                                  refine pure_ (i := 5) (N := some 20) (v := ?_) (a' := ?_) #[true, true, true, false, true, true, false, false, false, false] rfl rfl (any_of HT_.out (by kernel_rfl)) (fun _ _ _ h => h) (Or.inl ⟨by rfl, ?_⟩) ?_ ?_
                                  rotate_left
                                  · intro w'
                                    go_simp
                                    with_reducible rfl
                                  rotate_left
                                  · simp only [Act.put, List.setIfInBounds_toArray, List.set_cons_zero, List.set_cons_succ, i64_w, i32_w]
                                    rfl
                                  refine take_ (i := 3) (N := some 18) (v := ?_) (a' := ?_) #[true, true, true, true, true, true, false, false, false, false] rfl rfl (take_ofW HT_.out HW_.out (by kernel_rfl)) (fun _ _ _ h => h) (Or.inl ⟨by rfl, ?_⟩) hHeld ?_ ?_
                                  rotate_left
                                  · intro w' _
                                    go_simp
                                    with_reducible rfl
                                  rotate_left
                                  · simp only [Act.put, List.setIfInBounds_toArray, List.set_cons_zero, List.set_cons_succ, i64_w, i32_w]
                                    rfl
                                  refine take_ (i := 6) (N := some 21) (v := ?_) (a' := ?_) #[true, true, true, true, true, true, true, false, false, false] rfl rfl (take_ofW HT_.out HW_.out (by kernel_rfl)) (fun _ _ _ h => h) (Or.inl ⟨by rfl, ?_⟩) hHeld ?_ ?_
                                  rotate_left
                                  · intro w' _
                                    go_simp
                                    with_reducible rfl
                                  rotate_left
                                  · simp only [Act.put, List.setIfInBounds_toArray, List.set_cons_zero, List.set_cons_succ, i64_w, i32_w]
                                    rfl
                                  refine one_ (i := 7) (N := some 22) #[true, true, true, true, true, true, true, true, false, false] rfl rfl (one_of HT_.out (by kernel_rfl)) (by decide) (fun K hK => ?_)
                                  refine Kd.R_lit_step (Kd.int .u8) _ 5 ?hg (N := 22) ?hd (xs := ([92, 120, bt (⟨#[48, 49, 50, 51, 52, 53, 54, 55, 56, 57, 97, 98, 99, 100, 101, 102]⟩ : ByteArray) (ji45), bt (⟨#[48, 49, 50, 51, 52, 53, 54, 55, 56, 57, 97, 98, 99, 100, 101, 102]⟩ : ByteArray) (Go.bits .and .u8 (bt a0 x9_1) 15)] : List Int)) (inner := [.int .u8 92, .int .u8 120, .int .u8 (bt (⟨#[48, 49, 50, 51, 52, 53, 54, 55, 56, 57, 97, 98, 99, 100, 101, 102]⟩ : ByteArray) (ji45)), .int .u8 (bt (⟨#[48, 49, 50, 51, 52, 53, 54, 55, 56, 57, 97, 98, 99, 100, 101, 102]⟩ : ByteArray) (Go.bits .and .u8 (bt a0 x9_1) 15))]) (ok := fun _ => True) (okp := fun _ => True) ?hr ?hp (fun _ hk => hk) trivial (Below.refl _ _) (Nat.le_refl _) (by simp) ?_; (case hd => rfl); (case hg => rfl); (case hr => first | (go_simp; done) | (go_simp; rfl)); (case hp => exact (Reps.one (show Kd.M (Kd.int .u8) _ _ _ 92 [.int .u8 92] from rfl) (Reps.one (show Kd.M (Kd.int .u8) _ _ _ 120 [.int .u8 120] from rfl) (Reps.one (show Kd.M (Kd.int .u8) _ _ _ (bt (⟨#[48, 49, 50, 51, 52, 53, 54, 55, 56, 57, 97, 98, 99, 100, 101, 102]⟩ : ByteArray) (ji45)) [.int .u8 (bt (⟨#[48, 49, 50, 51, 52, 53, 54, 55, 56, 57, 97, 98, 99, 100, 101, 102]⟩ : ByteArray) (ji45))] from rfl) (Reps.one (show Kd.M (Kd.int .u8) _ _ _ (bt (⟨#[48, 49, 50, 51, 52, 53, 54, 55, 56, 57, 97, 98, 99, 100, 101, 102]⟩ : ByteArray) (Go.bits .and .u8 (bt a0 x9_1) 15)) [.int .u8 (bt (⟨#[48, 49, 50, 51, 52, 53, 54, 55, 56, 57, 97, 98, 99, 100, 101, 102]⟩ : ByteArray) (Go.bits .and .u8 (bt a0 x9_1) 15))] from rfl) (Reps.none _ _))))))
                                  intro v184 w54 ho55 hb hg_ hnew_
                                  clear hg_ hnew_
                                  (first | rw [← Ny183.out] at ho55 | (simp only [Int.reduceToNat] at ho55; rw [← Ny183.out] at ho55))
                                  have n0_ := Aside0.mk (Kd.R_elder' (by (with_reducible repeat (first | apply Kd.R_alloc | apply Kd.R_drewN | apply Kd.R_drew)); exact HO_3.out) (Kd.R_base ho55) hb)
                                  have n1_ := Aside0.mk (Kd.R_lower (Kd.R_new' ho55 (Kd.R_lt (by (with_reducible repeat (first | apply Kd.R_alloc | apply Kd.R_drewN | apply Kd.R_drew)); exact HO_3.out))) (below_size (by repeat (first | (with_reducible first | exact HB.out | apply below_alloc | apply pw_below_drewN | apply below_drew1) | exact HB.out))))
                                  have n2_ := Aside0.mk (below_step (by repeat (first | (with_reducible first | exact HB.out | apply below_alloc | apply pw_below_drewN | apply below_drew1) | exact HB.out)) hb)
                                  clear HO_3
                                  clear HB
                                  have HO_3 := n0_
                                  have HO185 := n1_
                                  have HB := n2_
                                  clear n0_ n1_ n2_
                                  clear hb ho55
                                  obtain ⟨Ao57, co57, eo57⟩ := Kd.R_slice HO185.out
                                  (first | subst eo57 | (injection eo57 with f1_ f2_ f3_; have f4_ := f1_.symm; have f5_ := f3_.symm; clear f1_ f2_ f3_; subst f4_; subst f5_))
                                  refine hK.out _ _ trivial (fun hHeld => ?_)
                                  clear hK K
                                  refine norm_ (a' := ?_) ?_ ?_
                                  rotate_left
                                  · show Act.put _ (some 22) _ = _
                                    simp only [Act.put, List.setIfInBounds_toArray, List.set_cons_zero, List.set_cons_succ, i64_w, i32_w]
                                    rfl
                                  refine one_ (i := 8) (N := some 23) #[true, true, true, true, true, true, true, true, true, false] rfl rfl (one_of HT_.out (by kernel_rfl)) (by decide) (fun K hK => ?_)
                                  refine Kd.R_append_rows_step (Kd.int .u8) (w0 := w) w.heap.size (by rfl) (.tmp 15) (.tmp 22) 70 5 (.int .u8 0) 1 rfl Tryd.underlying70 info5 rfl (by decide) (by omega) u3 x3_1 y183 _ _ _ (fun k_ => some k_ ≠ (.slice Ao57 y183.length co57 : Value).ownBlock) (fun _ => False) rfl rfl ?aO ?aR (fun _ _ h => h) (fun _ h => h.elim) ?aF ?aB ?aS ?aL ?_
                                  (case aR => repeat (first | exact (Kd.R_reads' HO185.out).2.2 | (with_reducible refine Kd.C_alloc ?_ _) | (with_reducible refine Kd.C_drewN ?_ _) | (with_reducible refine Kd.C_drew ?_)))
                                  (case aB => exact (by repeat (first | (with_reducible first | exact HB.out | apply below_alloc | apply pw_below_drewN | apply below_drew1) | exact HB.out)))
                                  (case aF => exact (fun k_ hk => Kd.fresh' (Kd.R_lt (by (with_reducible repeat (first | apply Kd.R_alloc | apply Kd.R_drewN | apply Kd.R_drew)); exact HO185.out)) k_ hk))
                                  (case aO => exact (by (with_reducible repeat (first | apply Kd.R_alloc | apply Kd.R_drewN | apply Kd.R_drew)); exact Kd.R_mono HO_3.out (fun _ hk => hk.2)))
                                  (case aS => exact (below_size (by repeat (first | (with_reducible first | exact HB.out | apply below_alloc | apply pw_below_drewN | apply below_drew1) | exact HB.out))))
                                  (case aL => have := LMc52.out; omega)
                                  intro v187 w56 ho hb hg hat
                                  rw [← Ny186.out] at ho
                                  have n0_ := Aside0.mk (Kd.R_after (ok := (fun _ => True)) (by (with_reducible repeat (first | apply Kd.R_alloc | apply Kd.R_drewN | apply Kd.R_drew)); exact HO185.out) hg hat)
                                  have n1_ := Aside0.mk (hb)
                                  have n2_ := Aside0.mk (ho)
                                  clear HO185
                                  clear HB
                                  clear HO_3
                                  have HO185 := n0_
                                  have HB := n1_
                                  have HO188 := n2_
                                  clear n0_ n1_ n2_
                                  clear ho hb hg hat
                                  refine hK.out _ _ trivial (fun hHeld => ?_)
                                  clear hK K
                                  refine norm_ (a' := ?_) ?_ ?_
                                  rotate_left
                                  · show Act.put _ (some 23) _ = _
                                    simp only [Act.put, List.setIfInBounds_toArray, List.set_cons_zero, List.set_cons_succ, i64_w, i32_w]
                                    rfl
                                  refine pure_ (i := 9) (N := some 3) (v := ?_) (a' := ?_) #[true, true, true, true, true, true, true, true, true, true] rfl rfl (any_of HT_.out (by kernel_rfl)) (fun _ _ _ h => h) (Or.inl ⟨by rfl, ?_⟩) ?_ ?_
                                  rotate_left
                                  · intro w'
                                    go_simp
                                    with_reducible rfl
                                  rotate_left
                                  · simp only [Act.put, List.setIfInBounds_toArray, List.set_cons_zero, List.set_cons_succ, i64_w, i32_w]
                                    rfl
                                  refine done_ (done_of HT_.out (by kernel_rfl)) ?_
                                  try go_wp2
                                  go_roundg kj7
                                  case measure => have := HK1.out; have := HJ7.out; omega
                                  case rel => exact ⟨(y186), (wrap64 (x9_1 + 1)), (by first | rfl | (simp; done) | (simp [*]; done)), H', ⟨by have := HK1.out; have := HJ7.out; omega⟩, ⟨by (with_reducible repeat (first | apply Kd.R_alloc | apply Kd.R_drewN | apply Kd.R_drew)); exact Kd.R_mono HO188.out (fun _ hk => trivial)⟩, ⟨by repeat (first | (with_reducible first | exact HB.out | apply below_alloc | apply pw_below_drewN | apply below_drew1) | exact HB.out)⟩⟩
                                · rw [if_neg c52] at H
                                  exact absurd H (by simp)
                              · rw [if_neg c50] at H
                                exact absurd H (by simp)
                            · rw [if_neg c49] at H
                              exact absurd H (by simp)
                          · rw [if_neg c47] at H
                            exact absurd H (by simp)
                        · rw [if_neg c46] at H
                          exact absurd H (by simp)
          · rw [if_neg c6] at H
            exact absurd H (by simp)
        · rw [if_neg c5] at H
          exact absurd H (by simp)
      · rw [if_neg c4] at H
        have c4b0 : decide (x9_1 < (a0.size : Int)) = false := decide_eq_false c4
        clear c4
        by_cases c58 : x3_1.length < 140737488355328
        · rw [if_pos c58] at H
          have LMc58 := Aside0.mk c58
          clear c58
          obtain ⟨y153, hy153⟩ : ∃ y_ : List Int, y_ = (x3_1 ++ [34]) := ⟨_, rfl⟩
          replace H : (some (strOfNums y153)) = some r := by first | (rw [hy153]; with_reducible exact H) | (have H2_ := (Option.bind_some _ _).symm.trans H; rw [hy153]; with_reducible exact H2_) | (have H2_ := (Option.bind_some _ _).symm.trans H; with_reducible exact H2_) | with_reducible exact H | (rw [hy153]; exact H) | exact H
          have Ny153 := Aside0.mk hy153
          clear hy153
          obtain rfl := Option.some.inj H
          go_wp2_with (first | ((with_reducible refine gate_builtin (b := .append) (xs := #[.tmp 59, .tmp 60]) rfl ?_); at_builtin; refine Kd.R_append (Kd.int .u8) (w0 := w) w.heap.size rfl (.tmp 59) (.tmp 60) 70 5 (.int .u8 0) 1 rfl Tryd.underlying70 info5 rfl (by decide) (by omega) u3 x3_1 34 [.int .u8 34] (fun _ => True) (fun _ => False) rfl rfl ?aP (fun _ hk => hk.elim) ?aF ?aO ?aB ?aS ?aL ?_; (case aP => exact rfl); (case aB => exact (by repeat (first | (with_reducible first | exact HB.out | apply below_alloc | apply pw_below_drewN | apply below_drew1) | exact HB.out))); (case aF => exact (fun _ _ => trivial)); (case aO => exact (by (with_reducible repeat (first | apply Kd.R_alloc | apply Kd.R_drewN | apply Kd.R_drew)); exact HO_3.out)); (case aS => exact (below_size (by repeat (first | (with_reducible first | exact HB.out | apply below_alloc | apply pw_below_drewN | apply below_drew1) | exact HB.out)))); (case aL => have := LMc58.out; omega); intro v154 w59 ho hb hg hat; rw [← Ny153.out] at ho; have n0_ := Aside0.mk (hb); have n1_ := Aside0.mk (ho); clear HB; clear HO_3; have HB := n0_; have HO155 := n1_; clear n0_ n1_; clear ho hb hg hat; have hcv60 := own_string (P := Tryd.prog) Tryd.underlying70 Tryd.underlying5 Tryd.underlying9 (Kd.own_of_R HO155.out)))
          go_ret
          exact ⟨by first | rfl | (simp [errW_none, errW_some] <;> rfl) | (simp [*, errW_none, errW_some] <;> rfl), by repeat (first | (with_reducible first | exact HB.out | apply below_alloc | apply pw_below_drewN | apply below_drew1) | exact HB.out)⟩
        · rw [if_neg c58] at H
          exact absurd H (by simp)
end Go.Proofs.YtaijoghpfobdbaaDoor.X
end
section
set_option linter.unusedVariables false
set_option linter.unusedSimpArgs false
namespace Go.Proofs.YtaijoghpfobdbaaDoor.L
open Go.Proofs.YtaijoghpfobdbaaDoor
def isD (b : UInt8) : Bool := G.dig (b.toNat : Int)
def isL (b : UInt8) : Bool := G.letr (b.toNat : Int)
def isW (b : UInt8) : Bool := isL b || isD b
def blank (b : UInt8) : Bool := decide (b.toNat = 32 ∨ b.toNat = 9 ∨ b.toNat = 10 ∨ b.toNat = 13)
def lead (p : UInt8 → Bool) : List UInt8 → Nat
  | [] => 0
  | b :: t => if p b then lead p t + 1 else 0
def hexv (b : UInt8) : Option Nat :=
  if 48 ≤ b.toNat ∧ b.toNat ≤ 57 then some (b.toNat - 48)
  else if 97 ≤ b.toNat ∧ b.toNat ≤ 102 then some (b.toNat - 87)
  else if 65 ≤ b.toNat ∧ b.toNat ≤ 70 then some (b.toNat - 55) else none
def escx : List UInt8 → Option (UInt8 × Nat)
  | a :: b :: _ => match hexv a, hexv b with
    | some x, some y => some ((16 * x + y).toUInt8, 3)
    | _, _ => none
  | _ => none
def esc : List UInt8 → Option (UInt8 × Nat)
  | [] => none
  | c :: t => if c.toNat = 92 ∨ c.toNat = 34 then some (c, 1) else if c.toNat = 110 then some (10, 1) else if c.toNat = 116 then some (9, 1)
    else if c.toNat = 120 then escx t
    else none
structure Tk where
  kind : Nat
  text : List UInt8
  num : Nat
  len : Nat
inductive R where
  | ok (t : Tk)
  | bad (off : Nat) (e : Nat)
def tx (off : Nat) (acc : List UInt8) (l : List UInt8) : R :=
  match l with
  | [] => .bad 0 81
  | b :: t =>
    if b.toNat = 10 then .bad 0 81
    else if b.toNat = 34 then .ok ⟨3, acc, 0, off + 1⟩
    else if b.toNat = 92 then
      match esc t with
      | none => .bad off 82
      | some (c, n) => tx (off + n + 1) (acc ++ [c]) (t.drop n)
    else tx (off + 1) (acc ++ [b]) t
termination_by l.length
decreasing_by all_goals (simp only [List.length_cons, List.length_drop]; omega)
structure Tok where
  kind : Nat
  text : List UInt8
  num : Nat
  at' : Nat
  fin : Nat
inductive LR where
  | toks (l : List Tok)
  | bad (at' : Nat) (e : Nat)
def LR.push (t : Tok) : LR → LR
  | .toks l => .toks (t :: l)
  | .bad a e => .bad a e
def Tk.at_ (t : Tk) (o : Nat) : Tok := ⟨t.kind, t.text, t.num, o, o + t.len⟩
def Name (l : List UInt8) : Bool := match l with
  | [] => false
  | b :: t => decide (l.length ≤ 64) && isL b && decide (lead isW l = l.length)
def hx (n : Nat) : UInt8 := (if n < 10 then 48 + n else 87 + n).toUInt8
def qb (b : UInt8) : List UInt8 :=
  if b.toNat = 92 ∨ b.toNat = 34 then [92, b] else if b.toNat = 10 then [92, 110] else if b.toNat = 9 then [92, 116]
  else if 32 ≤ b.toNat ∧ b.toNat ≤ 126 then [b] else [92, 120, hx (b.toNat / 16), hx (b.toNat % 16)]
def qs : List UInt8 → List UInt8
  | [] => []
  | b :: t => qb b ++ qs t
def Quote (l : List UInt8) : List UInt8 := 34 :: (qs l ++ [34])
end Go.Proofs.YtaijoghpfobdbaaDoor.L
end
section
set_option linter.unusedVariables false
set_option linter.unusedSimpArgs false
namespace Go.Proofs.YtaijoghpfobdbaaDoor.L
open Go.Proofs.YtaijoghpfobdbaaDoor
def headN (p : UInt8 → Bool) (r : List UInt8) : Prop := ∀ b t, r = b :: t → p b = false
def stop (kind : Nat) (r : List UInt8) : Prop := (kind = 1 → headN isW r) ∧ (kind = 2 → headN isD r)
def gs : Bool → List UInt8 → Option Bool
  | r, [] => some r
  | false, b :: t => if blank b then gs false t else if b.toNat = 35 then gs true t else none
  | true, b :: t => gs (b.toNat != 10) t
end Go.Proofs.YtaijoghpfobdbaaDoor.L
end
section
set_option linter.unusedVariables false
set_option linter.unusedSimpArgs false
namespace Go.Proofs.YtaijoghpfobdbaaDoor.L
open Go.Proofs.YtaijoghpfobdbaaDoor
def stripT (t : Tok) : Nat × List UInt8 × Nat × Nat := (t.kind, t.text, t.num, t.fin - t.at')
def st : LR → Option (List (Nat × List UInt8 × Nat × Nat))
  | .toks l => some (l.map stripT)
  | .bad _ _ => none
theorem qb_len (b : UInt8) : 1 ≤ (qb b).length ∧ (qb b).length ≤ 4 := by unfold qb; split; simp; split; simp; split; simp; split <;> simp
theorem qs_len (s : List UInt8) : s.length ≤ (qs s).length ∧ (qs s).length ≤ 4 * s.length := by
  induction s with
  | nil => simp [qs]
  | cons b t ih => have := qb_len b; rw [qs, List.length_append, List.length_cons]; omega
end Go.Proofs.YtaijoghpfobdbaaDoor.L
end
section
set_option linter.unusedVariables false
set_option linter.unusedSimpArgs false
namespace Go.Proofs.YtaijoghpfobdbaaDoor.T
open Go.RowKit Go.Proofs.YtaijoghpfobdbaaDoor Go.Proofs.YtaijoghpfobdbaaDoor.X Go.Proofs.YtaijoghpfobdbaaDoor.L Go.Proofs.YtaijoghpfobdbaaDoorW.PrintWords Go.Proofs.YtaijoghpfobdbaaDoorW.PrintLast Go.Proofs.YtaijoghpfobdbaaDoorW.PrintMore
theorem size_len (s : ByteArray) : s.size = s.data.toList.length := (data_length s).symm
theorem ext_list (s : ByteArray) (i j : Nat) : (s.extract i j).data.toList = (s.data.toList.drop i).take (j - i) := by
  rw [ByteArray.data_extract, Array.toList_extract, List.extract_eq_take_drop]
def ba (l : List UInt8) : ByteArray := ⟨l.toArray⟩
theorem ba_list (l : List UInt8) : (ba l).data.toList = l := rfl
theorem ba_of (s : ByteArray) : ba s.data.toList = s := rfl
theorem ba_eq {s : ByteArray} {l : List UInt8} (h : s.data.toList = l) : s = ba l := by rw [← h, ba_of]
theorem ba_ext (s : ByteArray) (i j : Nat) : s.extract i j = ba ((s.data.toList.drop i).take (j - i)) := ba_eq (ext_list s i j)
theorem w64s {x : Int} (h0 : -4611686018427387904 ≤ x) (h1 : x ≤ 4611686018427387904) : wrap64 x = x := by unfold wrap64; omega
theorem w1 {i : Nat} (n : Nat) (h : i + n ≤ 4611686018427387904) : wrap64 ((i : Int) + (n : Int)) = ((i + n : Nat) : Int) := by
  rw [w64s (by omega) (by omega)]; rfl
theorem drop_len {s : ByteArray} {i : Nat} {l : List UInt8} (h : s.data.toList.drop i = l) (hi : i ≤ s.size) : s.size = i + l.length := by
  rw [← h, List.length_drop, ← size_len]; omega
theorem drop_next {s : ByteArray} {i : Nat} {b : UInt8} {t : List UInt8} (h : s.data.toList.drop i = b :: t) : s.data.toList.drop (i + 1) = t := by
  rw [← List.drop_drop, h]; rfl
theorem drop_lt {s : ByteArray} {i : Nat} {b : UInt8} {t : List UInt8} (h : s.data.toList.drop i = b :: t) : i < s.size := by
  rw [size_len]
  have := congrArg List.length h
  rw [List.length_drop, List.length_cons] at this; omega
theorem bt_drop {s : ByteArray} {i : Nat} {b : UInt8} {t : List UInt8} (h : s.data.toList.drop i = b :: t) : bt s (i : Int) = (b.toNat : Int) := by
  have hi := drop_lt h
  have h2 : i < s.data.toList.length := by rw [← size_len]; exact hi
  have e := List.drop_eq_getElem_cons h2
  rw [h] at e
  injection e with e1 e2
  unfold bt
  rw [dif_pos (show ((i : Int)).toNat < s.size by rw [Int.toNat_natCast]; exact hi), e1]
  congr 2
theorem isL_eq (b : UInt8) : lex_isLetter.f (b.toNat : Int) = some (isL b) := by
  unfold lex_isLetter.f isL G.letr
  have e : ∀ x : Bool, (x = true ↔ ((97 ≤ (b.toNat : Int) ∧ (b.toNat : Int) ≤ 122) ∨ (65 ≤ (b.toNat : Int) ∧ (b.toNat : Int) ≤ 90) ∨ (b.toNat : Int) = 95)) → some x = some (decide ((97 ≤ (b.toNat : Int) ∧ (b.toNat : Int) ≤ 122) ∨ (65 ≤ (b.toNat : Int) ∧ (b.toNat : Int) ≤ 90) ∨ (b.toNat : Int) = 95)) := fun x h => by rw [Option.some.injEq, Bool.eq_iff_iff, decide_eq_true_iff]; exact h
  repeat' split
  all_goals refine e _ ?_
  all_goals first | (simp only [true_iff]; omega) | (rw [beq_iff_eq]; omega)
theorem isD_iff (b : UInt8) : isD b = true ↔ (48 ≤ b.toNat ∧ b.toNat ≤ 57) := by
  unfold isD G.dig; rw [decide_eq_true_iff]; omega
def nums (l : List UInt8) : List Int := l.map fun b => (b.toNat : Int)
theorem nums_snoc (l : List UInt8) (b : UInt8) : nums l ++ [(b.toNat : Int)] = nums (l ++ [b]) := by unfold nums; simp
theorem nums_len (l : List UInt8) : (nums l).length = l.length := by unfold nums; simp
theorem strOf (l : List UInt8) : strOfNums (nums l) = ba l := by
  unfold strOfNums nums ba
  rw [List.map_map]
  congr 2
  conv => rhs; rw [← List.map_id l]
  apply List.map_congr_left
  intro b hb
  simp
theorem tw_lead (n : Nat) (p : UInt8 → Bool) (hp : ∀ b : UInt8, G.okb n (b.toNat : Int) = p b) (l : List UInt8) : G.tw n l = lead p l := by
  induction l with
  | nil => rfl
  | cons b t ih => rw [G.tw_cons, lead, hp b, ih]
theorem run_eq {n : Nat} {p : UInt8 → Bool} (hn : n = 80 ∨ n = 102 ∨ n = 79) (hp : ∀ b : UInt8, G.okb n (b.toNat : Int) = p b) (s : ByteArray) (hs : s.size ≤ 70368744177664) (i : Nat) (hi : i ≤ s.size) :
    lex_run.f s (i : Int) n = some ((i + lead p (s.data.toList.drop i) : Nat) : Int) := by
  unfold lex_run.f
  rw [if_pos ⟨by omega, by omega, by omega, hn⟩, Int.toNat_natCast, tw_lead n p hp]
end Go.Proofs.YtaijoghpfobdbaaDoor.T
end
section
set_option linter.unusedVariables false
set_option linter.unusedSimpArgs false
namespace Go.Proofs.YtaijoghpfobdbaaDoor.T
open Go.RowKit Go.Proofs.YtaijoghpfobdbaaDoor Go.Proofs.YtaijoghpfobdbaaDoor.X Go.Proofs.YtaijoghpfobdbaaDoor.L Go.Proofs.YtaijoghpfobdbaaDoorW.PrintWords Go.Proofs.YtaijoghpfobdbaaDoorW.PrintLast Go.Proofs.YtaijoghpfobdbaaDoorW.PrintMore
theorem name_eq (s : ByteArray) : lex_Name.f s = some (L.Name s.data.toList) := by
  unfold lex_Name.f
  cases hl : s.data.toList with
  | nil =>
    have : s.size = 0 := by rw [size_len, hl]; rfl
    rw [if_neg (by omega)]; rfl
  | cons b t =>
    have hsz : s.size = t.length + 1 := by rw [size_len, hl]; rfl
    rw [if_pos (by omega)]
    unfold L.Name
    simp only [List.length_cons]
    by_cases h1 : s.size ≤ 64
    · have hd : s.data.toList.drop 0 = b :: t := hl
      have hbt := bt_drop hd
      rw [if_pos (by omega), if_pos (by omega), show bt s 0 = (b.toNat : Int) from hbt, isL_eq, Option.bind_some, decide_eq_true (show t.length + 1 ≤ 64 by omega), Bool.true_and]
      by_cases h2 : isL b = true
      · have hr := run_eq (n := 102) (p := isW) (.inr (.inl rfl)) (fun b => rfl) s (by omega) 0 (by omega)
        rw [hd, Nat.zero_add] at hr
        rw [if_pos h2, show lex_run.f s 0 102 = _ from hr, Option.bind_some, h2, Bool.true_and]
        congr 1
        rw [Bool.eq_iff_iff, beq_iff_eq, decide_eq_true_iff]
        omega
      · rw [if_neg h2]; simp [h2]
    · rw [if_neg (by omega), decide_eq_false (show ¬ t.length + 1 ≤ 64 by omega)]; rfl
theorem ba_size (l : List UInt8) : (ba l).size = l.length := by rw [size_len, ba_list]
def digs : ByteArray := ⟨#[48, 49, 50, 51, 52, 53, 54, 55, 56, 57, 97, 98, 99, 100, 101, 102]⟩
theorem digs_hx : ∀ n : Nat, n < 16 → bt digs (n : Int) = ((L.hx n).toNat : Int) := by
  have : ∀ n : Fin 16, bt digs (n.val : Int) = ((L.hx n.val).toNat : Int) := by decide
  exact fun n h => this ⟨n, h⟩
theorem and15 (b : UInt8) : Go.bits .and .u8 (b.toNat : Int) 15 = ((b.toNat % 16 : Nat) : Int) := by
  have : ∀ n : Fin 256, Go.bits .and .u8 (n.val : Int) 15 = ((n.val % 16 : Nat) : Int) := by decide +kernel
  exact this ⟨b.toNat, b.toNat_lt⟩
theorem nums_app (l m : List UInt8) : nums l ++ nums m = nums (l ++ m) := by unfold nums; rw [List.map_append]
theorem quote_ev (s : ByteArray) (hs : s.size ≤ 4398046511104) : Ev (fun k => lex_Quote.f k s) (ba (L.Quote s.data.toList)) := by
  have key : ∀ (d i : Nat) (acc : List UInt8), s.size - i ≤ d → i ≤ s.size → acc.length ≤ 4 * i + 1 → Ev (fun k => lex_Quote.l0 k s (nums acc) (s.size : Int) (i : Int)) (ba (acc ++ (qs (s.data.toList.drop i) ++ [34]))) := by
    intro d
    induction d with
    | zero =>
      intro i acc hd hi ha
      have e : s.data.toList.drop i = [] := List.drop_of_length_le (by rw [← size_len]; omega)
      refine Ev.step (fun k => by simp only [lex_Quote.l0]; rfl) ?_
      rw [e]
      simp only [if_neg (show ¬ (i : Int) < (s.size : Int) by omega), if_pos (show (nums acc).length < 140737488355328 by rw [nums_len]; omega), qs, List.nil_append]
      rw [show nums acc ++ [34] = nums (acc ++ [34]) from nums_snoc acc 34, strOf]
      exact Ev.now _
    | succ d ih =>
      intro i acc hd hi ha
      cases hl : s.data.toList.drop i with
      | nil =>
        have := drop_len hl hi
        simp only [List.length_nil] at this
        have := ih i acc (by omega) hi ha
        rw [hl] at this; exact this
      | cons b t =>
        have hlt := drop_lt hl
        have hbt := bt_drop hl
        have hnx := drop_next hl
        have W : Aside0 (wrap64 ((i : Int) + 1) = ((i + 1 : Nat) : Int)) := ⟨w1 1 (by omega)⟩
        have hq := qb_len b
        have ihn := ih (i + 1) (acc ++ qb b) (by omega) (by omega) (by rw [List.length_append]; omega)
        rw [hnx] at ihn
        have hlen : (nums acc).length < 140737488355000 := by rw [nums_len]; omega
        have hb := b.toNat_lt
        have goal : acc ++ (qs (b :: t) ++ [34]) = acc ++ qb b ++ (qs t ++ [34]) := by rw [qs]; simp only [List.append_assoc]
        rw [goal]
        have fin : ∀ (e : List UInt8), qb b = e → Ev (fun k => lex_Quote.l0 k s (nums acc ++ nums e) (s.size : Int) ((i + 1 : Nat) : Int)) (ba (acc ++ qb b ++ (qs t ++ [34]))) := by
          intro e he; rw [← he, nums_app]; exact ihn
        have hj : ∀ x : Bool, (x = true ↔ (b.toNat = 92 ∨ b.toNat = 34)) → Ev (fun k => lex_Quote.j1 k s (nums acc) (b.toNat : Int) (s.size : Int) (i : Int) x) (ba (acc ++ qb b ++ (qs t ++ [34]))) := by
          intro x hxx
          refine Ev.step (fun k => by simp only [lex_Quote.j1]; rfl) ?_
          simp only [Option.bind_some, List.length_cons, List.length_nil, W.out]
          by_cases h1 : b.toNat = 92 ∨ b.toNat = 34
          · simp only [hxx.2 h1, if_true, if_pos (show (nums acc).length + (0 + 1 + 1) < 140737488355328 by omega)]
            exact fin [92, b] (by unfold qb; rw [if_pos h1])
          have hxf : ¬ x = true := fun h => h1 (hxx.1 h)
          simp only [if_neg hxf]
          by_cases h2 : b.toNat = 10
          · simp only [if_pos (show (b.toNat : Int) = 10 by omega), if_pos (show (nums acc).length + (0 + 1 + 1) < 140737488355328 by omega)]
            exact fin [92, 110] (by unfold qb; rw [if_neg h1, if_pos h2])
          simp only [if_neg (show ¬ (b.toNat : Int) = 10 by omega)]
          by_cases h3 : b.toNat = 9
          · simp only [if_pos (show (b.toNat : Int) = 9 by omega), if_pos (show (nums acc).length + (0 + 1 + 1) < 140737488355328 by omega)]
            exact fin [92, 116] (by unfold qb; rw [if_neg h1, if_neg h2, if_pos h3])
          simp only [if_neg (show ¬ (b.toNat : Int) = 9 by omega)]
          by_cases h4 : 32 ≤ b.toNat ∧ b.toNat ≤ 126
          · simp only [if_pos (show (b.toNat : Int) ≥ 32 by omega), if_pos (show (b.toNat : Int) ≤ 126 by omega), if_pos (show (nums acc).length < 140737488355328 by omega)]
            exact fin [b] (by unfold qb; rw [if_neg h1, if_neg h2, if_neg h3, if_pos h4])
          have d16 : (b.toNat : Int) / 16 = ((b.toNat / 16 : Nat) : Int) := rfl
          have dg1 : bt (⟨#[48, 49, 50, 51, 52, 53, 54, 55, 56, 57, 97, 98, 99, 100, 101, 102]⟩ : ByteArray) ((b.toNat / 16 : Nat) : Int) = ((L.hx (b.toNat / 16)).toNat : Int) := digs_hx _ (by omega)
          have dg2 : bt (⟨#[48, 49, 50, 51, 52, 53, 54, 55, 56, 57, 97, 98, 99, 100, 101, 102]⟩ : ByteArray) ((b.toNat % 16 : Nat) : Int) = ((L.hx (b.toNat % 16)).toNat : Int) := digs_hx _ (by omega)
          have last := fin [92, 120, L.hx (b.toNat / 16), L.hx (b.toNat % 16)] (by unfold qb; rw [if_neg h1, if_neg h2, if_neg h3, if_neg h4])
          by_cases h5 : (b.toNat : Int) ≥ 32
          · simp only [if_pos h5, if_neg (show ¬ (b.toNat : Int) ≤ 126 by omega), and15, d16, dg1, dg2, if_pos (show (0 : Int) ≤ ((b.toNat / 16 : Nat) : Int) by omega), if_pos (show ((b.toNat / 16 : Nat) : Int) < 16 by omega), if_pos (show (0 : Int) ≤ ((b.toNat % 16 : Nat) : Int) by omega), if_pos (show ((b.toNat % 16 : Nat) : Int) < 16 by omega), if_pos (show (nums acc).length + (0 + 1 + 1 + 1 + 1) < 140737488355328 by omega)]
            exact last
          · simp only [if_neg h5, and15, d16, dg1, dg2, if_pos (show (0 : Int) ≤ ((b.toNat / 16 : Nat) : Int) by omega), if_pos (show ((b.toNat / 16 : Nat) : Int) < 16 by omega), if_pos (show (0 : Int) ≤ ((b.toNat % 16 : Nat) : Int) by omega), if_pos (show ((b.toNat % 16 : Nat) : Int) < 16 by omega), if_pos (show (nums acc).length + (0 + 1 + 1 + 1 + 1) < 140737488355328 by omega)]
            exact last
        refine Ev.step (fun k => by simp only [lex_Quote.l0]; rfl) ?_
        simp only [if_pos (show (i : Int) < (s.size : Int) by omega), if_pos (show (0 : Int) ≤ (i : Int) by omega), hbt]
        by_cases h0 : b.toNat = 92
        · simp only [if_pos (show (b.toNat : Int) = 92 by omega)]
          exact hj true (by simp [h0])
        · simp only [if_neg (show ¬ (b.toNat : Int) = 92 by omega)]
          exact hj _ (by rw [beq_iff_eq]; omega)
  have := key s.size 0 [34] (by omega) (by omega) (by simp)
  rw [List.drop_zero] at this
  exact Ev.congr (fun k => rfl) this
end Go.Proofs.YtaijoghpfobdbaaDoor.T
end
section
set_option linter.unusedVariables false
set_option linter.unusedSimpArgs false
namespace Go.Proofs.YtaijoghpfobdbaaDoor.P
open Go.RowKit Go.Proofs.YtaijoghpfobdbaaDoor.X Go.Proofs.YtaijoghpfobdbaaDoorW.PrintWords Go.Proofs.YtaijoghpfobdbaaDoorW.PrintLast
mutual
def dep : Tr → Nat
  | .mk _ ks => dmx ks + 1
/-- The greatest depth. -/
def dmx : List Tr → Nat
  | [] => 0
  | t :: ts => max (dep t) (dmx ts)
end
theorem mx_app (a b : List Tr) : dmx (a ++ b) = max (dmx a) (dmx b) := by
  induction a with
  | nil => simp [dmx]
  | cons t a ih => rw [List.cons_append, dmx, dmx, ih]; omega
theorem dep_le_mx {t : Tr} {l : List Tr} (h : t ∈ l) : dep t ≤ dmx l := by
  induction l with
  | nil => cases h
  | cons x l ih =>
    rw [dmx]
    rcases List.mem_cons.1 h with rfl | h
    · omega
    · have := ih h; omega
theorem mx_split (st : List Tr) (k : Nat) : dmx st = max (dmx (st.take k)) (dmx (st.drop k)) := by rw [← mx_app, List.take_append_drop]
def sg (st : List Tr) (n : Nd) : Option (List Tr) :=
  match kd n with
  | none => none
  | some k => if k ≤ st.length then some (st.take (st.length - k) ++ [.mk n (st.drop (st.length - k))]) else none
def build : List Nd → List Tr → Option (List Tr)
  | [], st => some st
  | n :: ns, st => (sg st n).bind (build ns)
theorem sg_some {st st' : List Tr} {n : Nd} (h : sg st n = some st') : ∃ k, kd n = some k ∧ k ≤ st.length ∧ st' = st.take (st.length - k) ++ [.mk n (st.drop (st.length - k))] := by
  unfold sg at h
  split at h
  · cases h
  · split at h
    · rename_i k hk hl
      cases h
      exact ⟨k, hk, hl, rfl⟩
    · cases h
theorem sg_len {st st' : List Tr} {n : Nd} (h : sg st n = some st') : 1 ≤ st'.length ∧ st'.length ≤ st.length + 1 := by
  obtain ⟨k, _, hl, rfl⟩ := sg_some h
  rw [List.length_append, List.length_take, List.length_singleton]; omega
theorem sg_mx {st st' : List Tr} {n : Nd} (h : sg st n = some st') : dmx st' ≤ dmx st + 1 ∧ dmx st ≤ dmx st' := by
  obtain ⟨k, _, hl, rfl⟩ := sg_some h
  have := mx_split st (st.length - k)
  rw [mx_app, dmx, dmx, dep]
  omega
def judgeE (ns : List Nd) : Int :=
  match build ns [] with
  | some [t] => if 100 < dep t then 91 else 0
  | _ => 1
def pile (st : List Tr) : List Int := st.map fun t => (dep t : Int)
theorem pile_len (st : List Tr) : (pile st).length = st.length := List.length_map _
theorem pile_rd (st : List Tr) (j : Nat) (hj : j < st.length) : rd (pile st) (j : Int) = (dep st[j] : Int) := by
  unfold rd pile
  rw [Int.toNat_natCast, List.getD_eq_getElem?_getD, List.getElem?_map, List.getElem?_eq_getElem hj]; rfl
def kr (n : Nd) : Int :=
  if n.f0 = 1 ∨ n.f0 = 2 ∨ n.f0 = 3 ∨ n.f0 = 4 then 0 else if n.f0 = 5 ∨ n.f0 = 11 ∨ n.f0 = 12 then 1
  else if n.f0 = 6 ∨ n.f0 = 7 ∨ n.f0 = 8 ∨ n.f0 = 10 then 2 else if n.f0 = 9 then (if n.f1 ≥ 1 then n.f1 else -1) else -1
theorem r2_ev (x : Int) (b : Bool) (a0 a1 a2 : Int) (a3 : ByteArray) (a4 : Int) : Ev (fun k => stratumref10_kids.j2 k x b a0 a1 a2 a3 a4) (if b = true then 2 else if x = 9 then (if a1 ≥ 1 then a1 else -1) else -1) := by
  refine Ev.step (fun k => by simp only [stratumref10_kids.j2]; rfl) ?_
  by_cases h : b = true
  · simp only [if_pos h]; exact Ev.now _
  · by_cases h2 : x = 9
    · by_cases h3 : a1 ≥ 1
      · simp only [if_neg h, if_pos h2, if_pos h3]; exact Ev.now _
      · simp only [if_neg h, if_pos h2, if_neg h3]; exact Ev.now _
    · simp only [if_neg h, if_neg h2]; exact Ev.now _
theorem r1_ev (x : Int) (b : Bool) (a0 a1 a2 : Int) (a3 : ByteArray) (a4 : Int) : Ev (fun k => stratumref10_kids.j1 k x b a0 a1 a2 a3 a4) (if b = true then 1 else if x = 6 ∨ x = 7 ∨ x = 8 ∨ x = 10 then 2 else if x = 9 then (if a1 ≥ 1 then a1 else -1) else -1) := by
  refine Ev.step (fun k => by simp only [stratumref10_kids.j1]; rfl) ?_
  by_cases h : b = true
  · simp only [if_pos h]; exact Ev.now _
  simp only [if_neg h]
  have key : ∀ c : Bool, (c = true ↔ (x = 6 ∨ x = 7 ∨ x = 8 ∨ x = 10)) → Ev (fun k => stratumref10_kids.j2 k x c a0 a1 a2 a3 a4) (if x = 6 ∨ x = 7 ∨ x = 8 ∨ x = 10 then 2 else if x = 9 then (if a1 ≥ 1 then a1 else -1) else -1) := by
    intro c hc
    have := r2_ev x c a0 a1 a2 a3 a4
    by_cases hx : x = 6 ∨ x = 7 ∨ x = 8 ∨ x = 10
    · rw [if_pos (hc.2 hx)] at this; rw [if_pos hx]; exact this
    · rw [if_neg (fun e => hx (hc.1 e))] at this; rw [if_neg hx]; exact this
  by_cases h6 : x = 6
  · simp only [if_pos h6]; exact key _ (by simp [h6])
  by_cases h7 : x = 7
  · simp only [if_neg h6, if_pos h7]; exact key _ (by simp [h7])
  by_cases h8 : x = 8
  · simp only [if_neg h6, if_neg h7, if_pos h8]; exact key _ (by simp [h8])
  · simp only [if_neg h6, if_neg h7, if_neg h8]; exact key _ (by simp [h6, h7, h8])
theorem r0_ev (x : Int) (b : Bool) (a0 a1 a2 : Int) (a3 : ByteArray) (a4 : Int) : Ev (fun k => stratumref10_kids.j0 k x b a0 a1 a2 a3 a4) (if b = true then 0 else if x = 5 ∨ x = 11 ∨ x = 12 then 1 else if x = 6 ∨ x = 7 ∨ x = 8 ∨ x = 10 then 2 else if x = 9 then (if a1 ≥ 1 then a1 else -1) else -1) := by
  refine Ev.step (fun k => by simp only [stratumref10_kids.j0]; rfl) ?_
  by_cases h : b = true
  · simp only [if_pos h]; exact Ev.now _
  simp only [if_neg h]
  have key : ∀ c : Bool, (c = true ↔ (x = 5 ∨ x = 11 ∨ x = 12)) → Ev (fun k => stratumref10_kids.j1 k x c a0 a1 a2 a3 a4) (if x = 5 ∨ x = 11 ∨ x = 12 then 1 else if x = 6 ∨ x = 7 ∨ x = 8 ∨ x = 10 then 2 else if x = 9 then (if a1 ≥ 1 then a1 else -1) else -1) := by
    intro c hc
    have := r1_ev x c a0 a1 a2 a3 a4
    by_cases hx : x = 5 ∨ x = 11 ∨ x = 12
    · rw [if_pos (hc.2 hx)] at this; rw [if_pos hx]; exact this
    · rw [if_neg (fun e => hx (hc.1 e))] at this; rw [if_neg hx]; exact this
  by_cases h5 : x = 5
  · simp only [if_pos h5]; exact key _ (by simp [h5])
  by_cases h11 : x = 11
  · simp only [if_neg h5, if_pos h11]; exact key _ (by simp [h11])
  · simp only [if_neg h5, if_neg h11]; exact key _ (by simp [h5, h11])
theorem rkids_ev (n : Nd) : Ev (fun k => stratumref10_kids.f k n.f0 n.f1 n.f2 n.f3 n.f4) (kr n) := by
  have key : ∀ c : Bool, (c = true ↔ (n.f0 = 1 ∨ n.f0 = 2 ∨ n.f0 = 3 ∨ n.f0 = 4)) → Ev (fun k => stratumref10_kids.j0 k n.f0 c n.f0 n.f1 n.f2 n.f3 n.f4) (kr n) := by
    intro c hc
    have := r0_ev n.f0 c n.f0 n.f1 n.f2 n.f3 n.f4
    unfold kr
    by_cases hx : n.f0 = 1 ∨ n.f0 = 2 ∨ n.f0 = 3 ∨ n.f0 = 4
    · rw [if_pos (hc.2 hx)] at this; rw [if_pos hx]; exact this
    · rw [if_neg (fun e => hx (hc.1 e))] at this; rw [if_neg hx]; exact this
  unfold stratumref10_kids.f
  by_cases h5 : n.f0 = 1
  · simp only [if_pos h5]; exact key _ (by simp [h5])
  by_cases h6 : n.f0 = 2
  · simp only [if_neg h5, if_pos h6]; exact key _ (by simp [h6])
  by_cases h7 : n.f0 = 3
  · simp only [if_neg h5, if_neg h6, if_pos h7]; exact key _ (by simp [h7])
  · simp only [if_neg h5, if_neg h6, if_neg h7]; exact key _ (by simp [h5, h6, h7])
theorem fields_eq (n : Nd) : stratumref10_fields.f n.f0 n.f1 n.f2 n.f3 n.f4 = some (decide (¬ badF n)) := by
  unfold stratumref10_fields.f
  by_cases h1 : n.f1 = 0 <;> by_cases h9 : n.f0 = 9 <;> by_cases h2 : n.f2 = 0 <;> by_cases hn : n.f0 = 1 <;> by_cases h3 : n.f3.toList = []
  all_goals first | (exfalso; omega) | skip
  all_goals first | rw [if_pos h1] | rw [if_neg h1]
  all_goals first | rw [if_pos h9] | rw [if_neg h9] | skip
  all_goals first | rw [if_pos h2] | rw [if_neg h2] | skip
  all_goals first | rw [if_pos hn] | rw [if_neg hn] | skip
  all_goals first | rw [if_pos h3] | rw [if_neg h3] | skip
  all_goals (congr 1; rw [Bool.eq_iff_iff]; simp [badF, h1, h2, h3, h9, hn])
theorem kd_kr (n : Nd) : kd n = if kr n < 0 ∨ badF n then none else some (kr n).toNat := by
  unfold kd kv kr
  by_cases hb : badF n
  · simp [hb]
  · simp only [if_neg hb]
    by_cases h1 : n.f0 = 1 ∨ n.f0 = 2 ∨ n.f0 = 3 ∨ n.f0 = 4
    · simp [h1, hb]
    by_cases h2 : n.f0 = 5 ∨ n.f0 = 11 ∨ n.f0 = 12
    · simp [h1, h2, hb]
    by_cases h3 : n.f0 = 6 ∨ n.f0 = 7 ∨ n.f0 = 8 ∨ n.f0 = 10
    · simp [h1, h2, h3, hb]
    by_cases h4 : n.f0 = 9
    · by_cases h5 : n.f1 ≥ 1
      · simp only [if_neg h1, if_neg h2, if_neg h3, if_pos h4, if_pos h5, decide_eq_true h5, if_true]
        rw [if_neg (by rintro (h | h); omega; exact hb h)]
      · simp only [if_neg h1, if_neg h2, if_neg h3, if_pos h4, if_neg h5, decide_eq_false h5]
        rw [if_neg (by decide), if_pos (.inl (by omega))]
    · simp [h1, h2, h3, h4]
def l1end (k : Nat) (x0 : List Nd) (x4 : List Int) (x5 x6 x7 x8 : Int) : Option (Bool × Int) :=
  if 0 ≤ (wrap64 ((x4.length : Int) - x7)) then (if (wrap64 ((x4.length : Int) - x7)) ≤ (x4.length : Int) then ((some (x4.take ((wrap64 ((x4.length : Int) - x7)) : Int).toNat : List Int)).bind fun y200 => (if y200.length < 17592186044416 then ((some (y200 ++ [wrap64 (x8 + 1)] : List Int)).bind fun y203 => (if (wrap64 (x8 + 1)) > x5 then (stratumref10_judge.l0 k x0 y203 (wrap64 (x8 + 1)) (wrap64 (x6 + 1))) else (stratumref10_judge.l0 k x0 y203 x5 (wrap64 (x6 + 1))))) else (none))) else (none)) else (none)
theorem l1_ev (x0 : List Nd) (st : List Tr) (x5 x6 x7 : Int) (r : Bool × Int) (hst : st.length ≤ 4611686018427387904) : ∀ (d j m : Nat), st.length - j ≤ d → j ≤ st.length → Ev (fun k => l1end k x0 (pile st) x5 x6 x7 ((max m (dmx (st.drop j)) : Nat) : Int)) r →
    Ev (fun k => stratumref10_judge.l1 k x0 (pile st) x5 x6 x7 (m : Int) (j : Int)) r := by
  intro d
  induction d with
  | zero =>
    intro j m hd hj h
    obtain rfl : j = st.length := by omega
    rw [List.drop_length, dmx, Nat.max_zero] at h
    refine Ev.step (fun k => by simp only [stratumref10_judge.l1]; rfl) ?_
    simp only [if_neg (show ¬ ((st.length : Nat) : Int) < ((pile st).length : Int) by rw [pile_len]; omega)]
    exact h
  | succ d ih =>
    intro j m hd hj h
    by_cases hlt : j < st.length
    · refine Ev.step (fun k => by simp only [stratumref10_judge.l1]; rfl) ?_
      have W : wrap64 ((j : Int) + 1) = ((j + 1 : Nat) : Int) := by unfold wrap64; omega
      simp only [if_pos (show (j : Int) < ((pile st).length : Int) by rw [pile_len]; omega), if_pos (show (0 : Int) ≤ (j : Int) by omega), pile_rd st j hlt, W]
      rw [List.drop_eq_getElem_cons hlt, dmx] at h
      by_cases hm : ((dep st[j] : Nat) : Int) > (m : Int)
      · simp only [if_pos hm]
        refine ih (j + 1) (dep st[j]) (by omega) (by omega) ?_
        rw [show max (dep st[j]) (dmx (st.drop (j + 1))) = max m (max (dep st[j]) (dmx (st.drop (j + 1)))) by omega]; exact h
      · simp only [if_neg hm]
        refine ih (j + 1) m (by omega) (by omega) ?_
        rw [show max m (dmx (st.drop (j + 1))) = max m (max (dep st[j]) (dmx (st.drop (j + 1)))) by omega]; exact h
    · exact ih j m (by omega) hj h
theorem rd_nd (ns : List Nd) (i : Nat) (n : Nd) (t : List Nd) (h : ns.drop i = n :: t) : rd_T46 ns (i : Int) = n := by
  unfold rd_T46
  rw [Int.toNat_natCast, List.getD_eq_getElem?_getD]
  have : (ns.drop i)[0]? = some n := by rw [h]; rfl
  rw [List.getElem?_drop, Nat.add_zero] at this
  rw [this]; rfl
def rj (r : Option (List Tr)) : Bool × Int :=
  match r with
  | some st => (((pile st).length : Int) == 1, (dmx st : Int))
  | none => (false, 0)
theorem rj_ev (ns : List Nd) (hns : ns.length ≤ 8796093022208) : ∀ (d i : Nat) (st : List Tr), ns.length - i ≤ d → i ≤ ns.length → st.length ≤ i → dmx st ≤ i → Ev (fun k => stratumref10_judge.l0 k ns (pile st) (dmx st : Int) (i : Int)) (rj (build (ns.drop i) st)) := by
  intro d
  induction d with
  | zero =>
    intro i st hd hi hl hm
    obtain rfl : i = ns.length := by omega
    rw [List.drop_length, build]
    refine Ev.step (fun k => by simp only [stratumref10_judge.l0]; rfl) ?_
    simp only [if_neg (show ¬ ((ns.length : Nat) : Int) < (ns.length : Int) by omega)]
    exact Ev.now _
  | succ d ih =>
    intro i st hd hi hl hm
    cases hn : ns.drop i with
    | nil =>
      have hlen : ns.length = i := by have := congrArg List.length hn; rw [List.length_drop, List.length_nil] at this; omega
      have := ih i st (by omega) hi hl hm
      rw [hn] at this; exact this
    | cons n t =>
      have hlt : i < ns.length := by have := congrArg List.length hn; rw [List.length_drop, List.length_cons] at this; omega
      have ht : ns.drop (i + 1) = t := by rw [← List.drop_drop, hn]; rfl
      have hr := rd_nd ns i n t hn
      refine Ev.step (fun k => by simp only [stratumref10_judge.l0]; rfl) ?_
      simp only [if_pos (show (i : Int) < (ns.length : Int) by omega), if_pos (show (0 : Int) ≤ (i : Int) by omega), hr]
      refine Ev.bind (rkids_ev n) ?_
      have no : kd n = none ∨ (∃ k, kd n = some k ∧ st.length < k) → Ev (fun k => stratumref10_judge.j1 k ns (pile st) (dmx st : Int) (i : Int) (kr n) true) (rj (build (n :: t) st)) := by
        intro h
        have e : build (n :: t) st = none := by
          rw [build, sg]
          rcases h with h | ⟨k, h, hk⟩
          · rw [h]; rfl
          · rw [h]; simp only [if_neg (show ¬ k ≤ st.length by omega)]; rfl
        rw [e]
        refine Ev.step (fun k => by simp only [stratumref10_judge.j1]; rfl) ?_
        simp only [if_true]
        exact Ev.now _
      by_cases h1 : kr n < 0
      · simp only [if_pos h1]
        exact no (.inl (by rw [kd_kr, if_pos (.inl h1)]))
      · simp only [if_neg h1, fields_eq, Option.bind_some]
        by_cases h2 : badF n
        · simp only [decide_eq_true_eq, if_neg (show ¬ ¬ badF n from fun h => h h2)]
          exact no (.inl (by rw [kd_kr, if_pos (.inr h2)]))
        · simp only [decide_eq_true_eq, if_pos h2]
          have hk : kd n = some (kr n).toNat := by rw [kd_kr, if_neg (by rintro (h | h); exact h1 h; exact h2 h)]
          by_cases h3 : kr n > ((pile st).length : Int)
          · simp only [decide_eq_true h3]
            exact no (.inr ⟨_, hk, by rw [pile_len] at h3; omega⟩)
          · simp only [decide_eq_false h3]
            rw [pile_len] at h3
            obtain ⟨q, hq⟩ : ∃ q : Nat, kr n = (q : Int) := ⟨(kr n).toNat, by omega⟩
            rw [hq, Int.toNat_natCast] at hk
            rw [hq] at h3 ⊢
            have hql : q ≤ st.length := by omega
            have hsg : sg st n = some (st.take (st.length - q) ++ [.mk n (st.drop (st.length - q))]) := by rw [sg, hk]; simp only [if_pos hql]
            have hmx := sg_mx hsg
            have hln := sg_len hsg
            have ihn := ih (i + 1) _ (by omega) (by omega) (Nat.le_trans hln.2 (by omega)) (Nat.le_trans hmx.1 (by omega))
            rw [ht] at ihn
            rw [build, hsg, Option.bind_some]
            refine Ev.step (fun k => by simp only [stratumref10_judge.j1]; rfl) ?_
            have hmx2 : dmx (st.take (st.length - q) ++ [.mk n (st.drop (st.length - q))]) = max (dmx (st.take (st.length - q))) (dmx (st.drop (st.length - q)) + 1) := by rw [mx_app, dmx, dmx, dep, Nat.max_zero]
            have hsp := mx_split st (st.length - q)
            have h44 : ((pile st).take (st.length - q)).length < 17592186044416 := by rw [List.length_take, pile_len]; omega
            have e1 : ((dmx (st.drop (st.length - q)) + 1 : Nat) : Int) > (dmx st : Int) → max (dmx (st.take (st.length - q))) (dmx (st.drop (st.length - q)) + 1) = dmx (st.drop (st.length - q)) + 1 := by intro h; omega
            have e2 : ¬ ((dmx (st.drop (st.length - q)) + 1 : Nat) : Int) > (dmx st : Int) → max (dmx (st.take (st.length - q))) (dmx (st.drop (st.length - q)) + 1) = dmx st := by intro h; omega
            have hmd : dmx (st.drop (st.length - q)) ≤ dmx st := by omega
            have b1 : st.length ≤ 4611686018427387904 := by omega
            have b2 : st.length - (st.length - q) ≤ st.length := by omega
            have b3 : st.length - q ≤ st.length := by omega
            have c1 : (0 : Int) ≤ ((st.length - q : Nat) : Int) := by omega
            have c2 : ((st.length - q : Nat) : Int) ≤ (st.length : Int) := by omega
            have W : Aside0 (wrap64 ((st.length : Int) - (q : Int)) = ((st.length - q : Nat) : Int)) := ⟨by unfold wrap64; omega⟩
            have W2 : Aside0 (wrap64 (((max 0 (dmx (st.drop (st.length - q))) : Nat) : Int) + 1) = ((dmx (st.drop (st.length - q)) + 1 : Nat) : Int)) := ⟨by rw [Nat.zero_max]; unfold wrap64; omega⟩
            have W3 : Aside0 (wrap64 ((i : Int) + 1) = ((i + 1 : Nat) : Int)) := ⟨by unfold wrap64; omega⟩
            have hp : (pile st).take (st.length - q) ++ [((dmx (st.drop (st.length - q)) + 1 : Nat) : Int)] = pile (st.take (st.length - q) ++ [.mk n (st.drop (st.length - q))]) := by
              unfold pile; rw [List.map_append, List.map_take]; rfl
            simp only [Bool.false_eq_true, if_false, pile_len, W.out]
            refine l1_ev ns st _ _ _ _ b1 st.length (st.length - q) 0 b2 b3 ?_
            simp only [l1end, pile_len, W.out, W2.out, W3.out, if_pos c1, if_pos c2, Int.toNat_natCast, Option.bind_some, hp, if_pos h44]
            by_cases h5 : ((dmx (st.drop (st.length - q)) + 1 : Nat) : Int) > (dmx st : Int)
            · simp only [if_pos h5]
              rw [hmx2, e1 h5] at ihn
              exact ihn
            · simp only [if_neg h5]
              rw [hmx2, e2 h5] at ihn
              exact ihn
theorem rjudge_ev (ns : List Nd) (hns : ns.length ≤ 8796093022208) : Ev (fun k => stratumref10_judge.f k ns) (rj (build ns [])) := rj_ev ns hns ns.length 0 [] (by omega) (by omega) (by simp) (by simp [dmx])
end Go.Proofs.YtaijoghpfobdbaaDoor.P
end
section
set_option linter.unusedVariables false
set_option linter.unusedSimpArgs false
namespace Go.Proofs.YtaijoghpfobdbaaDoor.Bd
open Go.RowKit
theorem sizeBuilder : (Tryd.prog.info? 72).map (·.size) = some 2 := by kernel_rfl
theorem liesBuilder : liesAt Tryd.prog Tryd.prog.depth 74 (2 / Tryd.prog.cellsOf 74) 0 72 1 = true := by kernel_rfl
theorem infoByte : (Tryd.prog.info? 5).map (fun i => (i.zero, i.size, i.bytes)) = some (some (.int .u8 0), 1, 1) := by kernel_rfl
abbrev IsW := Lib.IsBuilder 74 5
abbrev OK := Lib.OthersKept 5
theorem ok_set (b : Nat) (w : World) (i : Nat) (v : Value) : OK (some b) w (w.setCell ⟨b, i, none⟩ v) := by
  intro k o hk hb _
  rw [Below.heap_setCell w ⟨b, i, none⟩ v k (fun e => hb (by rw [e]))]; exact hk
theorem ok_below {b : Option Nat} {w w' : World} (h : Below w.heap.size w w') : OK b w w' := by
  intro k o hk _ _
  have hlt : k < w.heap.size := by
    rcases Nat.lt_or_ge k w.heap.size with h' | h'
    · exact h'
    · simp [Array.getElem?_eq_none h'] at hk
  rw [h.block k hlt]; exact hk
set_option maxHeartbeats 1000000 in
set_option maxRecDepth 100000 in
theorem copyCheck_used (b : Nat) (w : World) (h0 : w.cell? ⟨b, 0, none⟩ = some (.pointer (some ⟨b, 0, none⟩))) :
    Calls Tryd.prog 86 #[.pointer (some ⟨b, 0, none⟩)] w fun e w' => e = .returned (.tuple #[]) ∧ w' = w := by
  obtain ⟨j, hj, _⟩ := Option.map_eq_some_iff.1 sizeBuilder
  have hne := Lib.run_neq_ptr_same (P := Tryd.prog) w (⟨b, 0, none⟩ : Addr) Tryd.underlying69 hj
  go_enter Tryd.func86, Tryd.ntmps86
  go_wp2
  go_end0
  exact ⟨rfl, rfl⟩
set_option maxHeartbeats 1000000 in
set_option maxRecDepth 100000 in
theorem copyCheck_fresh (b : Nat) (w : World) (h0 : w.cell? ⟨b, 0, none⟩ = some (.pointer none)) (hsh : w.shape? b = some (74, 2)) (hfz : w.frozen? ⟨b, 0, none⟩ = false) :
    Calls Tryd.prog 86 #[.pointer (some ⟨b, 0, none⟩)] w fun e w' => e = .returned (.tuple #[]) ∧ w' = w.setCell ⟨b, 0, none⟩ (.pointer (some ⟨b, 0, none⟩)) := by
  obtain ⟨j, hj, hjs⟩ := Option.map_eq_some_iff.1 sizeBuilder
  have h1 := Lib.run_to_unsafe (P := Tryd.prog) w (⟨b, 0, none⟩ : Addr) Tryd.underlying69 Tryd.underlying152 hj (by rw [hjs]; decide) hsh (Nat.zero_lt_succ 1)
  have h2 := Lib.run_from_unsafe (P := Tryd.prog) w (⟨b, 0, none⟩ : Addr) Tryd.underlying152 Tryd.underlying69 hj hsh liesBuilder
  go_enter Tryd.func86, Tryd.ntmps86
  go_wp2
  rw [run_callFunc_extern Tryd.func104 (by kernel_rfl) (by kernel_rfl) (by kernel_rfl) (e := Extern.AbiNoEscape.same) (by kernel_rfl)]
  rw [Lib.run_noEscape]
  simp only [Result.andThen]
  rw [Oper.upon_value]
  go_wp2
  go_end0
  exact ⟨rfl, rfl⟩
theorem copyCheck_any (B b : Nat) (bs : List Value) (w : World) (h : IsW B b bs w) :
    Calls Tryd.prog 86 #[.pointer (some ⟨b, 0, none⟩)] w fun e w' => e = .returned (.tuple #[]) ∧ (Lib.BuilderAt 74 5 B b (.pointer (some ⟨b, 0, none⟩)) bs w' ∧ Below B w w' ∧ OK (some b) w w') := by
  rcases h with h | h
  · refine (copyCheck_fresh b w h.cell0 h.shape h.frozen0).mono ?_
    rintro e w' ⟨rfl, rfl⟩
    exact ⟨rfl, h.used _, (Below.refl B w).setCell (p := ⟨b, 0, none⟩) h.1 _, ok_set b w 0 _⟩
  · refine (copyCheck_used b w h.cell0).mono ?_
    rintro e w' ⟨rfl, rfl⟩
    exact ⟨rfl, h, Below.refl B _, Lib.OthersKept.refl _ _ _⟩
set_option maxHeartbeats 1000000 in
set_option maxRecDepth 100000 in
theorem len_calls (B b : Nat) (bs : List Value) (w : World) (h : IsW B b bs w) :
    Calls Tryd.prog 55 #[.pointer (some ⟨b, 0, none⟩)] w fun e w' => e = .returned (.int .i64 bs.length) ∧ w' = w := by
  obtain ⟨p, hB, v, hbk, hown, hne⟩ : ∃ p, Lib.BuilderAt 74 5 B b p bs w := by
    rcases h with h | h
    · exact ⟨_, h⟩
    · exact ⟨_, h⟩
  obtain ⟨ao, cap, rfl⟩ : ∃ ao cap, v = .slice ao bs.length cap := by
    rcases hown.2 with ⟨hv, h0⟩ | ⟨g, cap, cur, hv, _⟩
    · exact ⟨none, 0, by rw [hv, h0]⟩
    · exact ⟨_, _, hv⟩
  have c1 : w.cell? ⟨b, 1, none⟩ = some (.slice ao bs.length cap) := by rw [Lib.cell_of_heap hbk]; rfl
  go_enter Tryd.func55, Tryd.ntmps55
  go_wp2
  go_ret
  exact ⟨rfl, rfl⟩
set_option maxHeartbeats 2000000 in
set_option maxRecDepth 100000 in
theorem write_calls (B b : Nat) (bs : List Value) (s : ByteArray) (w : World) (h : IsW B b bs w) (hlen : bs.length + s.size ≤ 140737488355328) (hBw : B ≤ w.heap.size) :
    Calls Tryd.prog 56 #[.pointer (some ⟨b, 0, none⟩), .string s] w fun e w' => e = .returned (.tuple #[.int .i64 s.size, .nilIface]) ∧ IsW B b (bs ++ Lib.strCells s) w' ∧ Below B w w' ∧ OK (some b) w w' := by
  obtain ⟨i0, hi, hz0, hz1, hz2⟩ := info_parts infoByte
  go_enter Tryd.func56, Tryd.ntmps56
  go_wp2_with (go_at_call 86; refine (copyCheck_any B b bs _ h).mono ?_)
  rintro e w1 ⟨rfl, h1, hb1, hk1⟩
  obtain ⟨hB, v, hbk, hown, hne⟩ := h1
  have c0 : w1.cell? ⟨b, 0, none⟩ = some (.pointer (some ⟨b, 0, none⟩)) := by rw [Lib.cell_of_heap hbk]; rfl
  have c1 : w1.cell? ⟨b, 1, none⟩ = some v := by rw [Lib.cell_of_heap hbk]; rfl
  go_wp2_with (at_builtin; refine Lib.wpList_append_own_string _ rfl _ _ 70 9 rfl B 5 i0 Tryd.underlying70 Tryd.underlying9 hi hz0 hz1 hz2 _ _ _ rfl hown s rfl ?c3 ?c4 ?c5 ?_)
  case c3 => unfold maxLen; omega
  case c4 => omega
  case c5 => have := hb1.size; omega
  intro v' w2 hown' hgrow _
  have hlt : b < w1.heap.size := by
    rcases Nat.lt_or_ge b w1.heap.size with h' | h'
    · exact h'
    · simp [Array.getElem?_eq_none h'] at hbk
  have hb2 : w2.heap[b]? = some (.cells #[.pointer (some ⟨b, 0, none⟩), v] 74 (0, 0)) := by
    rw [hgrow.block b hlt (fun e => hne e.symm)]
    exact hbk
  have d0 : w2.cell? ⟨b, 0, none⟩ = some (.pointer (some ⟨b, 0, none⟩)) := by rw [Lib.cell_of_heap hb2]; rfl
  have d1 : w2.cell? ⟨b, 1, none⟩ = some v := by rw [Lib.cell_of_heap hb2]; rfl
  have f1 : w2.frozen? ⟨b, 1, none⟩ = false := Lib.frozen_of_heap hb2 1
  obtain ⟨ao, n', cap, rfl⟩ : ∃ ao n' cap, v' = .slice ao n' cap := by
    rcases hown'.2 with ⟨hv, _⟩ | ⟨g, cap, cur, hv, _⟩
    · exact ⟨_, _, _, hv⟩
    · exact ⟨_, _, _, hv⟩
  have hk2 : OK (some b) w1 w2 := by
    intro k o hk hb hc
    have hlk : k < w1.heap.size := by
      rcases Nat.lt_or_ge k w1.heap.size with h' | h'
      · exact h'
      · simp [Array.getElem?_eq_none h'] at hk
    rw [hgrow.block k hlk (fun e => ?_)]
    · exact hk
    · rcases hown.2 with ⟨hv, _⟩ | ⟨g, cap, cur, hv, _, hg, _⟩
      · rw [hv] at e; simp [Value.ownBlock] at e
      · rw [hv] at e
        simp only [Value.ownBlock, Option.some.injEq] at e
        subst e
        rw [hg] at hk
        exact hc cur (0, 0) (by injection hk with hk; exact hk.symm)
  go_wp2
  go_ret2
  refine ⟨rfl, ?_, ?_, (hk1.trans hk2).trans (ok_set b w2 1 _)⟩
  · exact .inr (Lib.BuilderAt.put (T := 74) (e := 5) hB hb2 (bs' := bs ++ Lib.strCells s) (by simpa [Lib.strCells_length] using hown') (by decide))
  · exact (hb1.grown hgrow (by have := hb1.size; omega) (fun k hk => (hown.lt k hk).1)).setCell (p := ⟨b, 1, none⟩) hB _
theorem cellsByte : Tryd.prog.cellsOf 5 = 1 := by kernel_rfl
set_option maxHeartbeats 2000000 in
set_option maxRecDepth 100000 in
theorem string_some (B b : Nat) (l : List UInt8) (w : World) (h : IsW B b (Lib.byteCells l) w) (h0 : l ≠ []) :
    Calls Tryd.prog 58 #[.pointer (some ⟨b, 0, none⟩)] w fun e w' => e = .returned (.string ⟨l.toArray⟩) ∧ Below B w w' := by
  obtain ⟨p, hB, v, hbk, hown, hne⟩ : ∃ p, Lib.BuilderAt 74 5 B b p (Lib.byteCells l) w := by
    rcases h with h | h
    · exact ⟨_, h⟩
    · exact ⟨_, h⟩
  have hl0 : l.length ≠ 0 := by simpa using h0
  rw [Lib.byteCells_length] at hown
  obtain ⟨g, cap, cur, rfl, hbg, hg, hnc, hcm, hcs, htake⟩ : ∃ g cap cur, v = .slice (some ⟨g, 0, none⟩) l.length cap ∧ B ≤ g ∧ w.heap[g]? = some (.cells cur 5 (0, 0)) ∧ l.length ≤ cap ∧ cap ≤ maxLen ∧ cur.size = cap * 1 ∧ cur.toList.take (l.length * 1) = Lib.byteCells l := by
    rcases hown.2 with ⟨_, hz⟩ | ⟨g, cap, cur, hv, r⟩
    · exact absurd hz hl0
    · exact ⟨g, cap, cur, hv, r⟩
  have c1 : w.drew.cell? ⟨b, 1, none⟩ = some (.slice (some ⟨g, 0, none⟩) l.length cap) := by
    have : w.drew.heap[b]? = some (.cells #[p, .slice (some ⟨g, 0, none⟩) l.length cap] 74 (0, 0)) := hbk
    rw [Lib.cell_of_heap this]; rfl
  have hSD : (Builtin.unsafeSliceData_ #[70] 142 #[.slice (some ⟨g, 0, none⟩) l.length cap]).run Tryd.prog w.drew = .ok (.pointer (some ⟨g, 0, none⟩)) w.drew :=
    Lib.run_unsafeSliceData_row _ _ _ _ _ _ (by omega)
  have hUS : (Builtin.unsafeString_ #[142, 3] 9 #[.pointer (some ⟨g, 0, none⟩), .int .i64 l.length]).run Tryd.prog w.drew = .ok (.string ⟨l.toArray⟩) (w.drew.freeze ⟨g, 0, none⟩ l.length) := by
    refine Lib.run_unsafeString_row w.drew 142 3 9 5 Tryd.underlying142 cellsByte g cur.size (by have hg' : w.drew.heap[g]? = some (.cells cur 5 (0, 0)) := hg; simp [World.shape?, hg']) l h0 (by omega) (by unfold maxLen at hcm; omega) ?_
    intro j x hx
    have := hown.cells (g := g) rfl j (.int .u8 x.toNat) (by simp [Lib.byteCells, hx])
    exact this
  go_enter Tryd.func58, Tryd.ntmps58
  go_wp2
  go_region
  all_goals (go_wp2; go_ret; exact ⟨rfl, Lib.below_freeze (Below.drew (Below.refl B w)) (p := ⟨g, 0, none⟩) hbg _⟩)
theorem us_none (W : World) (q : Option Addr) : (Builtin.unsafeString_ #[142, 3] 9 #[.pointer q, .int .i64 0]).run Tryd.prog W = .ok (.string .empty) W :=
  Lib.run_unsafeString_none W _ _ _ q
set_option maxHeartbeats 2000000 in
set_option maxRecDepth 100000 in
theorem string_nil (B b : Nat) (p : Value) (w : World) (hbk : w.heap[b]? = some (.cells #[p, .slice none 0 0] 74 (0, 0))) :
    Calls Tryd.prog 58 #[.pointer (some ⟨b, 0, none⟩)] w fun e w' => e = .returned (.string ⟨#[]⟩) ∧ Below B w w' := by
  have hUS := us_none
  have c1 : w.drew.cell? ⟨b, 1, none⟩ = some (.slice none 0 0) := by
    have : w.drew.heap[b]? = some (.cells #[p, .slice none 0 0] 74 (0, 0)) := hbk
    rw [Lib.cell_of_heap this]; rfl
  have hSD : (Builtin.unsafeSliceData_ #[70] 142 #[.slice none 0 0]).run Tryd.prog w.drew = .ok (.pointer none) w.drew := rfl
  go_enter Tryd.func58, Tryd.ntmps58
  go_wp2
  go_region
  all_goals (go_wp2; go_ret; exact ⟨rfl, Below.drew (Below.refl B w)⟩)
set_option maxHeartbeats 2000000 in
set_option maxRecDepth 100000 in
theorem string_noroom (B b g : Nat) (p : Value) (cur : Array Value) (w : World) (hBw : B ≤ w.heap.size) (hbk : w.heap[b]? = some (.cells #[p, .slice (some ⟨g, 0, none⟩) 0 0] 74 (0, 0))) (hg : w.heap[g]? = some (.cells cur 5 (0, 0))) :
    Calls Tryd.prog 58 #[.pointer (some ⟨b, 0, none⟩)] w fun e w' => e = .returned (.string ⟨#[]⟩) ∧ Below B w w' := by
  have hUS := us_none
  have hlt : b < w.heap.size := by
    rcases Nat.lt_or_ge b w.heap.size with h' | h'
    · exact h'
    · simp [Array.getElem?_eq_none h'] at hbk
  have c1 : w.drew.cell? ⟨b, 1, none⟩ = some (.slice (some ⟨g, 0, none⟩) 0 0) := by
    have : w.drew.heap[b]? = some (.cells #[p, .slice (some ⟨g, 0, none⟩) 0 0] 74 (0, 0)) := hbk
    rw [Lib.cell_of_heap this]; rfl
  have hSD : (Builtin.unsafeSliceData_ #[70] 142 #[.slice (some ⟨g, 0, none⟩) 0 0]).run Tryd.prog w.drew = .ok (.pointer (some ⟨w.drew.heap.size, 0, none⟩)) (w.drew.alloc (.view ⟨g, 0, none⟩ 5)) :=
    Lib.run_unsafeSliceData_zero w.drew _ _ 5 Tryd.underlying142 ⟨g, 0, none⟩ 0 (5, cur.size) (by have hg' : w.drew.heap[g]? = some (.cells cur 5 (0, 0)) := hg; simp [World.shape?, hg'])
  have c2 : (w.drew.alloc (.view ⟨g, 0, none⟩ 5)).cell? ⟨b, 1, none⟩ = some (.slice (some ⟨g, 0, none⟩) 0 0) := by
    have : (w.drew.alloc (.view ⟨g, 0, none⟩ 5)).heap[b]? = _ := (Lib.alloc_old w.drew _ b hlt).trans hbk
    rw [Lib.cell_of_heap this]; rfl
  have c3 : (w.alloc (.view ⟨g, 0, none⟩ 5)).drew.cell? ⟨b, 1, none⟩ = some (.slice (some ⟨g, 0, none⟩) 0 0) := c2
  have c0 : w.cell? ⟨b, 1, none⟩ = some (.slice (some ⟨g, 0, none⟩) 0 0) := c1
  go_enter Tryd.func58, Tryd.ntmps58
  go_wp2
  go_region
  all_goals (go_wp2; go_ret; exact ⟨rfl, (Below.drew (Below.refl B w)).alloc hBw _⟩)
set_option maxHeartbeats 2000000 in
set_option maxRecDepth 100000 in
theorem string_room (B b g cap : Nat) (p : Value) (w : World) (hc0 : cap ≠ 0) (hbk : w.heap[b]? = some (.cells #[p, .slice (some ⟨g, 0, none⟩) 0 cap] 74 (0, 0))) :
    Calls Tryd.prog 58 #[.pointer (some ⟨b, 0, none⟩)] w fun e w' => e = .returned (.string ⟨#[]⟩) ∧ Below B w w' := by
  have hUS := us_none
  have c1 : w.drew.cell? ⟨b, 1, none⟩ = some (.slice (some ⟨g, 0, none⟩) 0 cap) := by
    have : w.drew.heap[b]? = some (.cells #[p, .slice (some ⟨g, 0, none⟩) 0 cap] 74 (0, 0)) := hbk
    rw [Lib.cell_of_heap this]; rfl
  have hSD : (Builtin.unsafeSliceData_ #[70] 142 #[.slice (some ⟨g, 0, none⟩) 0 cap]).run Tryd.prog w.drew = .ok (.pointer (some ⟨g, 0, none⟩)) w.drew :=
    Lib.run_unsafeSliceData_row _ _ _ _ _ _ hc0
  clear hc0
  go_enter Tryd.func58, Tryd.ntmps58
  go_wp2
  go_region
  all_goals (go_wp2; go_ret; exact ⟨rfl, Below.drew (Below.refl B w)⟩)
theorem string_calls (B b : Nat) (l : List UInt8) (w : World) (h : IsW B b (Lib.byteCells l) w) (hBw : B ≤ w.heap.size) :
    Calls Tryd.prog 58 #[.pointer (some ⟨b, 0, none⟩)] w fun e w' => e = .returned (.string ⟨l.toArray⟩) ∧ Below B w w' := by
  cases l with
  | cons x r => exact string_some B b (x :: r) w h (by simp)
  | nil =>
    obtain ⟨p, hB, v, hbk, hown, hne⟩ : ∃ p, Lib.BuilderAt 74 5 B b p [] w := by
      rcases h with h | h
      · exact ⟨_, h⟩
      · exact ⟨_, h⟩
    rcases hown.2 with ⟨rfl, _⟩ | ⟨g, cap, cur, rfl, hbg, hg, _, _, _, _⟩
    · exact string_nil B b p w hbk
    · by_cases hc0 : cap = 0
      · subst hc0
        exact string_noroom B b g p cur w hBw hbk hg
      · exact string_room B b g cap p w hc0 hbk
end Go.Proofs.YtaijoghpfobdbaaDoor.Bd
end
section
set_option linter.unusedVariables false
set_option linter.unusedSimpArgs false
namespace Go.Proofs.YtaijoghpfobdbaaDoor.U
open Go.RowKit Go.Sort Go.Lib Go.Proofs.YtaijoghpfobdbaaDoorW.PrintWords Go.Proofs.YtaijoghpfobdbaaDoorW.PrintLast
abbrev enc8 : UInt8 → Value := fun b => Value.int .u8 (b.toNat : Int)
structure Tab (B : Nat) (w : World) : Prop where
  out : ∀ w', Below B w w' → Lib.TabIs Tryd.prog w' "internal/strconv.uint64pow10" .u64 Lib.pow10Tab
theorem Tab.step {B : Nat} {w w' : World} (h : Tab B w) (hb : Below B w w') : Tab B w' := ⟨fun _ k => h.out _ (hb.trans k)⟩
theorem holds_zero0 (w : World) (T : TypeId) (nd : Nat) (hs : nd ≤ 24) : Holds enc8 (w.alloc (.cells zeros24 T)) w.heap.size 0 (Array.replicate nd (0 : UInt8)) := fun j hj => by
  have hj' : j < nd := by simpa using hj
  refine ⟨?_, World.frozen?_alloc_new _ _ _ _⟩
  rw [World.cell?_alloc_new, zeros24_at _ (by omega), getElem!_pos _ j hj]
  simp
theorem fin_zero (w : World) (o : Obj) (dk : Array UInt8) (k : Nat) : ∃ os, (putRow enc8 (w.alloc o) w.heap.size 0 dk).drewN k = grow (w.drewN k) os := by
  rw [alloc_eq_grow]
  obtain ⟨os', _, e⟩ := putRow_grow_new enc8 w #[o] w.heap.size 0 dk (Nat.le_refl _)
  exact ⟨os', by rw [e]; rfl⟩
theorem below_grow (w : World) (k : Nat) (os : Array Obj) : Below w.heap.size w (grow (w.drewN k) os) := by
  have h : Below w.heap.size w (w.drewN k) := pw_below_drewN (Below.refl _ _) k
  refine ⟨h.os, h.tape, h.output, ?_, ?_⟩
  · show w.heap.size ≤ ((w.drewN k).heap ++ os).size
    have := h.size
    rw [Array.size_append]; omega
  · intro i hi
    show ((w.drewN k).heap ++ os)[i]? = _
    rw [Array.getElem?_append_left (by have := h.size; omega)]
    exact h.block i hi
def dec (u : Nat) : ByteArray := ⟨(Lib.decDigits u).toArray⟩
set_option maxHeartbeats 6400000 in
set_option maxRecDepth 100000 in
theorem inner_calls (u : Nat) (hu64 : u < 18446744073709551616) (w : World) (htab : Lib.TabIs Tryd.prog (w.alloc (.cells zeros24 137)) "internal/strconv.uint64pow10" .u64 Lib.pow10Tab) :
    Calls Tryd.prog 57 #[.int .u64 u, .int .i64 10] w fun e w' => e = .returned (.string (dec u)) ∧ Below w.heap.size w w' := by
  by_cases hs : u < 100
  · have hd : decide ((u : Int) < 100) = true := decide_eq_true (by omega)
    have hw : IntKind.i64.wrap (u : Int) = (u : Int) := by unfold IntKind.wrap; simp [IntKind.bits, IntKind.signed]; omega
    have HS := Aside0.mk hs
    clear htab hs hu64
    go_enter Tryd.func57, Tryd.ntmps57
    go_wp2_with (go_at_call 87; refine (Tryd.internal_strconv_small u HS.out _).mono ?_; rintro e w' ⟨rfl, rfl⟩)
    go_ret
    exact ⟨rfl, Below.refl _ _⟩
  · have hd : decide ((u : Int) < 100) = false := decide_eq_false (by omega)
    have hu1 : 1 ≤ u := by omega
    have hnd20 : Lib.nDigits u ≤ 20 := by have := Lib.numDigits_eq u hu1 hu64; split at this <;> omega
    have hal : Tryd.prog.arrayLen 137 = 24 := by kernel_rfl
    have hsl : ∀ W, (Instr.sliceAt 137 (.pointer (some ⟨w.heap.size, 0, none⟩)) none (some (.int .i64 (Lib.nDigits u : Int))) none).run Tryd.prog W = .ok (.slice (some ⟨w.heap.size, 0, none⟩) (Lib.nDigits u) 24) W := fun W => by
      rw [run_sliceAt_array_h W 137 ⟨w.heap.size, 0, none⟩ Tryd.underlying137 .i64 (Lib.nDigits u : Int) (by omega) (by rw [hal]; omega)]
      rw [hal]
      go_simp
    have hH0 := holds_zero0 w 137 (Lib.nDigits u) (by omega)
    have hfmt := Tryd.internal_strconv_formatBase10 w.heap.size 0 24 u (Array.replicate (Lib.nDigits u) 0) (w.alloc (.cells Lib.zeros24 137)) hH0 (by rw [Array.size_replicate]; exact Lib.lt_pow_nDigits u) hu64 (by rw [Array.size_replicate]; omega)
    rw [Array.size_replicate] at hfmt
    have HH0 := Aside0.mk hH0
    have HT := Aside0.mk htab
    have HU1 := Aside0.mk hu1
    have HU := Aside0.mk hu64
    have HF := Aside0.mk hfmt
    clear hH0 hal htab hfmt hs hnd20 hu1 hu64
    go_enter Tryd.func57, Tryd.ntmps57
    go_wp2_with (first
      | (go_at_call 88; refine (Tryd.internal_strconv_numDigits u HU1.out HU.out _ HT.out).mono ?_; rintro e w' ⟨rfl, rfl⟩))
    refine HF.out.mono ?_
    rintro e w' ⟨rfl, k, v', dk, rfl, hF⟩
    have hcv : (convert 70 9 (.slice (some ⟨w.heap.size, 0, none⟩) (Lib.nDigits u) 24)).run Tryd.prog ((putRow enc8 (w.alloc (.cells Lib.zeros24 137)) w.heap.size 0 dk).drewN k) = .ok (.string ⟨(Lib.decDigits u).toArray⟩) ((putRow enc8 (w.alloc (.cells Lib.zeros24 137)) w.heap.size 0 dk).drewN k) := by
      have h := run_convert_bytes_back (P := Tryd.prog) ((putRow enc8 (w.alloc (.cells Lib.zeros24 137)) w.heap.size 0 dk).drewN k) 70 9 5 ⟨w.heap.size, 0, none⟩ 24 (Lib.decDigits u) Tryd.underlying70 Tryd.underlying5 Tryd.underlying9 (fun j hj => by
        rw [Lib.row_is_numeral hF j hj, Lib.add_plain, World.cell?_drewN]
        exact cell?_putRow enc8 _ w.heap.size 0 _ dk HH0.out (by rw [hF.size, Array.size_replicate]) j (by rw [hF.size]; rw [Lib.decDigits_length] at hj; exact hj))
      rw [Lib.decDigits_length] at h
      exact h
    go_wp2
    go_ret
    obtain ⟨os, eo⟩ := fin_zero w (.cells Lib.zeros24 137) dk k
    refine ⟨rfl, ?_⟩
    rw [eo]
    exact below_grow w k os
theorem format_calls {B : Nat} {w : World} (u : Nat) (hu64 : u < 18446744073709551616) (hB : B ≤ w.heap.size) (hT : Tab B w) :
    Calls Tryd.prog 27 #[.int .u64 u, .int .i64 10] w fun e w' => e = .returned (.string (dec u)) ∧ Below w.heap.size w w' := by
  have HI := Aside0.mk (inner_calls u hu64 w (hT.out _ ((Below.refl B w).alloc hB _)))
  clear hT hu64
  go_enter Tryd.func27, Tryd.ntmps27
  go_wp2_with (go_at_call 57; refine HI.out.mono ?_; rintro e w' ⟨rfl, hb⟩; have HB := Aside0.mk hb; clear hb)
  go_ret
  exact ⟨rfl, HB.out⟩
end Go.Proofs.YtaijoghpfobdbaaDoor.U
end
section
set_option linter.unusedVariables false
set_option linter.unusedSimpArgs false
namespace Go.Proofs.YtaijoghpfobdbaaDoor.W
open Go.RowKit Go.Proofs.YtaijoghpfobdbaaDoor.X Go.Proofs.YtaijoghpfobdbaaDoorW.PrintWords Go.Proofs.YtaijoghpfobdbaaDoorW.PrintLast Go.Proofs.YtaijoghpfobdbaaDoorW.PrintMore
open Go.Proofs.YtaijoghpfobdbaaDoor.P (Wrote puts put fin)
def left : Value → Nat
  | .int _ i => i.toNat
  | _ => 0
structure Wr (w : World) (B b : Nat) (bs : List UInt8) : Prop where
  isW : Bd.IsW B b (Lib.byteCells bs) w
  len : bs.length ≤ 9437184
  base : B ≤ w.heap.size
structure Fw (B b : Nat) (w w' : World) : Prop where
  below : Below B w w'
  ok : Bd.OK (some b) w w'
section
variable {w w' w1 w2 : World} {B b : Nat} {bs : List UInt8}
theorem Fw.refl (B b : Nat) (w : World) : Fw B b w w := ⟨Below.refl _ _, Lib.OthersKept.refl _ _ _⟩
theorem Fw.trans (h : Fw B b w w1) (k : Fw B b w1 w2) : Fw B b w w2 := ⟨h.below.trans k.below, Lib.OthersKept.trans h.ok k.ok⟩
theorem Below.lowr {B' : Nat} (h : Below B' w w') (hb : B ≤ B') : Below B w w' := ⟨h.os, h.tape, h.output, h.size, fun i hi => h.block i (by omega)⟩
theorem Fw.of_below (h : Below w.heap.size w w') (hb : B ≤ w.heap.size) : Fw B b w w' := ⟨Below.lowr h hb, Bd.ok_below h⟩
theorem atW {p : Value} (h : Lib.BuilderAt 74 5 B b p (Lib.byteCells bs) w) : ∃ p v, w.heap[b]? = some (.cells #[p, v] 74 (0, 0)) := by
  obtain ⟨_, v, hb, _⟩ := h
  exact ⟨p, v, hb⟩
theorem Wr.blk (h : Wr w B b bs) : ∃ p v, w.heap[b]? = some (.cells #[p, v] 74 (0, 0)) := by
  rcases h.isW with h | h
  · exact atW h
  · exact atW h
theorem Wr.lt (h : Wr w B b bs) : b < w.heap.size := by
  obtain ⟨p, v, hb⟩ := h.blk
  exact blk_lt hb
theorem Fw.blk (h : Fw B b w w') (hW : Wr w B b bs) {k : Nat} {cs : Array Value} {t : TypeId} {f : Nat × Nat} (hk : w.heap[k]? = some (.cells cs t f)) (h5 : t ≠ 5) (h74 : t ≠ 74) : w'.heap[k]? = some (.cells cs t f) := by
  refine h.ok k _ hk (fun e => ?_) (fun c fz e => ?_)
  · injection e with e
    subst e
    obtain ⟨p, v, hb⟩ := hW.blk
    rw [hb] at hk
    injection hk with hk
    injection hk with _ hk _
    exact h74 hk.symm
  · injection e with _ e _
    exact h5 e
theorem own_below {v : Value} {e n : Nat} {s : Nat} {xs : List Value} (h : w.ownsRow B e s v n xs) (hb : Below w.heap.size w w') : w'.ownsRow B e s v n xs := by
  refine own_move h (fun k hk => ?_)
  have hlt : k < w.heap.size := (h.lt k hk).2
  exact hb.block k hlt
theorem at_below {p : Value} (h : Lib.BuilderAt 74 5 B b p (Lib.byteCells bs) w) (hb : Below w.heap.size w w') : Lib.BuilderAt 74 5 B b p (Lib.byteCells bs) w' := by
  obtain ⟨h1, v, h2, h3, h4⟩ := h
  exact ⟨h1, v, blk_below h2 hb, own_below h3 hb, h4⟩
theorem Wr.below (h : Wr w B b bs) (hb : Below w.heap.size w w') : Wr w' B b bs :=
  ⟨by
    rcases h.isW with k | k
    · exact .inl (at_below k hb)
    · exact .inr (at_below k hb), h.len, Nat.le_trans h.base hb.size⟩
end
theorem strCells_eq (s : ByteArray) : Lib.strCells s = Lib.byteCells s.data.toList := by
  first | rfl | simp [Lib.strCells, Lib.byteCells]
theorem byteCells_append (a b : List UInt8) : Lib.byteCells (a ++ b) = Lib.byteCells a ++ Lib.byteCells b := by
  first | rfl | simp [Lib.byteCells]
theorem getD_str (ps : List ByteArray) (i : Nat) (hi : i < ps.length) : (ps.map Value.string).toArray[i]? = some (.string (ps.getD i ByteArray.empty)) := by
  simp [List.getD_eq_getElem?_getD, hi]
theorem puts_next (bs : List UInt8) (ps : List ByteArray) (i : Nat) (hi : i < ps.length) : puts bs (ps.take (i + 1)) = put (puts bs (ps.take i)) (ps.getD i ByteArray.empty).data.toList := by
  unfold puts
  rw [List.take_succ_eq_append_getElem hi, List.foldl_append, List.getD_eq_getElem?_getD, List.getElem?_eq_getElem hi]
  rfl
set_option maxHeartbeats 2000000 in
set_option maxRecDepth 100000 in
theorem say_calls {B b : Nat} {bs : List UInt8} (w : World) (g n c : Nat) (ps : List ByteArray) (hW : Wr w B b bs) (hg : w.heap[g]? = some (.cells (ps.map Value.string).toArray 9 (0, 0))) (hn : n = ps.length) (hnn : n ≤ 100) (hp : ∀ p ∈ ps, p.size ≤ 8388608) :
    Calls Tryd.prog 26 #[.pointer (some ⟨b, 0, none⟩), .slice (some ⟨g, 0, none⟩) n c] w fun e w' => e = .returned (.tuple #[]) ∧ Wr w' B b (puts bs ps) ∧ Fw B b w w' := by
  subst hn
  have HW := Aside0.mk hW
  have HG := Aside0.mk hg
  have HP := Aside0.mk hp
  have HN := Aside0.mk hnn
  clear hW hg hp hnn
  go_enter Tryd.func26, Tryd.ntmps26
  go_wp2
  go_loopw [5, 8] (fun t5 ti wr => ∃ i : Nat, ti = .int .i64 (i : Int) ∧ Aside0 (i ≤ ps.length) ∧ Aside0 (Wr wr B b (puts bs (ps.take i))) ∧ Aside0 (Fw B b w wr)) (fun _ ti _ => ps.length - left ti)
  case atStart => exact ⟨0, rfl, ⟨Nat.zero_le _⟩, ⟨HW.out⟩, ⟨Fw.refl _ _ _⟩⟩
  case round =>
    obtain ⟨i, rfl, hi, HWr, HF⟩ := hrel
    by_cases ci : i < ps.length
    · have c1 : decide ((i : Int) < (ps.length : Int)) = true := decide_eq_true (by omega)
      have c2 : decide (i < ps.length) = true := decide_eq_true ci
      have hcell : wr.cell? ⟨g, i, none⟩ = some (.string (ps.getD i ByteArray.empty)) := (blk_cell (HF.out.blk HW.out HG.out (by decide) (by decide)) i).trans (getD_str ps i ci)
      have HC := Aside0.mk ci
      have HL : Aside0 ((ps.getD i ByteArray.empty).size ≤ 8388608) := ⟨by
        rw [List.getD_eq_getElem?_getD, List.getElem?_eq_getElem ci]; exact HP.out _ (List.getElem_mem ci)⟩
      have HNX : Aside0 (wrap64 ((i : Int) + 1) = ((i + 1 : Nat) : Int)) := ⟨by have := HN.out; unfold wrap64; omega⟩
      obtain ⟨q, hq⟩ : ∃ q, q = ps.getD i ByteArray.empty := ⟨_, rfl⟩
      have HPN := Aside0.mk (puts_next bs ps i ci)
      rw [← hq] at hcell HL HPN
      clear hq
      by_cases hM : (puts bs (ps.take i)).length ≤ P.M
      · have hd : decide ((((Lib.byteCells (puts bs (ps.take i))).length : Nat) : Int) ≤ 1048576) = true := decide_eq_true (by have : P.M = 1048576 := rfl; rw [Lib.byteCells_length]; omega)
        have HPU : Aside0 (put (puts bs (ps.take i)) q.data.toList = puts bs (ps.take i) ++ q.data.toList) := ⟨by unfold put; rw [if_pos hM]⟩
        have HM := Aside0.mk hM
        clear hM
        go_wp2_with (first
          | (go_at_call 55; refine (Bd.len_calls B b _ _ HWr.out.isW).mono ?_; rintro e w1 ⟨rfl, rfl⟩)
          | (go_at_call 56; refine (Bd.write_calls B b _ q _ HWr.out.isW (by have := HL.out; have := HWr.out.len; rw [Lib.byteCells_length]; omega) HWr.out.base).mono ?_; rintro e w2 ⟨rfl, hw2, hb2, hk2⟩; have HW2 := Aside0.mk hw2; have HB2 := Aside0.mk hb2; have HK2 := Aside0.mk hk2; clear hw2 hb2 hk2))
        rw [HNX.out]
        go_roundw
        case measure => have := HC.out; simp only [left, Int.toNat_natCast]; omega
        case rel =>
          have hM' : P.M = 1048576 := rfl
          refine ⟨i + 1, rfl, ⟨HC.out⟩, ⟨?_, ?_, Nat.le_trans HWr.out.base HB2.out.size⟩, ⟨HF.out.trans ⟨HB2.out, HK2.out⟩⟩⟩
          · rw [HPN.out, HPU.out, byteCells_append, ← strCells_eq]; exact HW2.out
          · have := HM.out; have := HL.out; rw [HPN.out, HPU.out, List.length_append, data_length]; omega
      · have hd : decide ((((Lib.byteCells (puts bs (ps.take i))).length : Nat) : Int) ≤ 1048576) = false := decide_eq_false (by have : P.M = 1048576 := rfl; rw [Lib.byteCells_length]; omega)
        have HPU : Aside0 (put (puts bs (ps.take i)) q.data.toList = puts bs (ps.take i)) := ⟨by unfold put; rw [if_neg hM]⟩
        clear hM
        go_wp2_with (first
          | (go_at_call 55; refine (Bd.len_calls B b _ _ HWr.out.isW).mono ?_; rintro e w1 ⟨rfl, rfl⟩))
        rw [HNX.out]
        go_roundw
        case measure => have := HC.out; simp only [left, Int.toNat_natCast]; omega
        case rel => exact ⟨i + 1, rfl, ⟨HC.out⟩, ⟨by rw [HPN.out, HPU.out]; exact HWr.out⟩, ⟨HF.out⟩⟩
    · have c1 : decide ((i : Int) < (ps.length : Int)) = false := decide_eq_false (by omega)
      have c2 : decide (i < ps.length) = false := decide_eq_false ci
      have HI : Aside0 (ps.take i = ps) := ⟨List.take_of_length_le (by omega)⟩
      go_wp2
      go_end0
      exact ⟨rfl, by rw [← HI.out]; exact HWr.out, HF.out⟩
end Go.Proofs.YtaijoghpfobdbaaDoor.W
end
section
set_option linter.unusedVariables false
set_option linter.unusedSimpArgs false
namespace Go.Proofs.YtaijoghpfobdbaaDoor.W
open Go.RowKit Go.Proofs.YtaijoghpfobdbaaDoor.X Go.Proofs.YtaijoghpfobdbaaDoorW.PrintWords Go.Proofs.YtaijoghpfobdbaaDoorW.PrintLast Go.Proofs.YtaijoghpfobdbaaDoorW.PrintMore
open Go.Proofs.YtaijoghpfobdbaaDoor.P (Tr Nd Wrote puts put fin kv kd sg build dep dmx pile judgeE)
attribute [local go_sem] max2_int min2_int max_two min_two
def anyD (st : List Tr) : Bool := decide (100 < dmx st)
theorem kids_calls (n : Nd) (w : World) : Calls Tryd.prog 61 #[.agg #[.int .i64 n.f0, .int .i64 n.f1, .int .u64 n.f2, .string n.f3, .int .i64 n.f4]] w fun e w' => e = .returned (.tuple #[.int .i64 (kv n).1, .bool (kv n).2]) ∧ Below w.heap.size w w' := by
  obtain ⟨k, hk⟩ := (P.kids_ev n).rounds
  exact print_kids.calls k n.f0 n.f1 n.f2 n.f3 n.f4 (kv n).1 (kv n).2 w hk
theorem judgeE_of {ns : List Nd} {st : List Tr} (h : build ns [] = some st) : judgeE ns = if st.length = 1 then (if anyD st = true then 91 else 0) else 1 := by
  unfold judgeE
  rw [h]
  match st with
  | [] => rfl
  | [t] => simp [anyD, dmx]
  | a :: b :: l => simp
theorem drop_build {ns : List Nd} {i : Nat} {st : List Tr} (hlt : i < ns.length) : build (ns.drop i) st = (sg st (rd_T46 ns (i : Int))).bind (build (ns.drop (i + 1))) := by
  have h := List.drop_eq_getElem_cons hlt
  rw [P.rd_nd ns i _ _ h, h, build]
set_option maxHeartbeats 4000000 in
set_option maxRecDepth 100000 in
theorem judge_calls (w : World) (A : Option Addr) (c : Nat) (ns : List Nd) (hC : Kd.C k46 w A ns.length ns) (hns : ns.length ≤ 8796093022208) :
    Calls Tryd.prog 32 #[.slice A ns.length c] w fun e w' => e = .returned (.int .i64 (judgeE ns)) ∧ Below w.heap.size w w' := by
  have HC := Aside0.mk hC
  have HN := Aside0.mk hns
  clear hC hns
  go_enter Tryd.func32, Tryd.ntmps32
  go_wp2
  go_loopw [3, 4, 14] (fun t3 t4 ti wr => ∃ (i : Nat) (st : List Tr), ti = .int .i64 (i : Int) ∧ t4 = .bool (anyD st) ∧ Aside0 (i ≤ ns.length) ∧ Aside0 (build ns [] = build (ns.drop i) st) ∧ Aside0 (st.length ≤ i ∧ dmx st ≤ i) ∧ Aside0 (Kd.R (Kd.int .i64) 3 wr w.heap.size (fun _ => True) t3 (pile st)) ∧ Aside0 (Below w.heap.size w wr)) (fun _ _ ti _ => ns.length - left ti)
  case atStart => exact ⟨0, [], rfl, rfl, ⟨Nat.zero_le _⟩, ⟨rfl⟩, ⟨by simp [dmx]⟩, ⟨Kd.R_nil _ _ _ _ _⟩, ⟨Below.refl _ _⟩⟩
  case round =>
    obtain ⟨i, st, rfl, rfl, hi, HBu, HL, HR, HB⟩ := hrel
    by_cases ci : i < ns.length
    · have c1 : decide ((i : Int) < (ns.length : Int)) = true := decide_eq_true (by omega)
      have c2 : decide (i < ns.length) = true := decide_eq_true ci
      obtain ⟨ad, rfl, hx0, hx1, hx2, hx3, hx4⟩ := at_T46 (Kd.C_below HC.out HB.out) (i : Int) (by omega) (by omega)
      rw [Int.toNat_natCast] at hx0 hx1 hx2 hx3 hx4
      have HDB := Aside0.mk (drop_build (st := st) ci)
      obtain ⟨n, hn⟩ : ∃ n, n = rd_T46 ns (i : Int) := ⟨_, rfl⟩
      rw [← hn] at hx0 hx1 hx2 hx3 hx4 HDB
      clear hn
      obtain ⟨Ap, cp, hv⟩ := Kd.R_slice HR.out
      rw [P.pile_len] at hv
      subst hv
      have HI := Aside0.mk ci
      go_wp2_with fail
      refine (kids_calls n _).mono ?_
      rintro e w1 ⟨rfl, hb1⟩
      have HB1 := Aside0.mk (below_step (below_alloc HB.out (.cells #[.int .i64 n.f0, .int .i64 n.f1, .int .u64 n.f2, .string n.f3, .int .i64 n.f4] 46)) hb1)
      have HR1 := Aside0.mk (Kd.R_below (Kd.R_alloc HR.out (.cells #[.int .i64 n.f0, .int .i64 n.f1, .int .u64 n.f2, .string n.f3, .int .i64 n.f4] 46)) hb1)
      clear hb1 HB HR hx0 hx1 hx2 hx3 hx4
      have HKD : Aside0 (kd n = if (kv n).2 = true then some (kv n).1.toNat else none) := ⟨rfl⟩
      have HNN := Aside0.mk (P.kv_nn n)
      obtain ⟨kk, hkk⟩ : ∃ kk, kk = (kv n).1 := ⟨_, rfl⟩
      obtain ⟨bb, hbb⟩ : ∃ bb, bb = (kv n).2 := ⟨_, rfl⟩
      rw [← hkk, ← hbb] at HKD HNN ⊢
      clear hkk hbb
      cases bb with
      | false =>
        have HE : Aside0 (judgeE ns = 1) := ⟨by unfold judgeE; rw [HBu.out, HDB.out, sg, HKD.out]; rfl⟩
        go_wp2
        go_ret
        exact ⟨by rw [HE.out]; rfl, HB1.out⟩
      | true =>
        obtain ⟨q, rfl⟩ : ∃ q : Nat, kk = (q : Int) := ⟨kk.toNat, by have := HNN.out rfl; omega⟩
        have HKQ : Aside0 (kd n = some q) := ⟨by rw [HKD.out, if_pos rfl, Int.toNat_natCast]⟩
        clear HKD HNN
        by_cases cq : q ≤ st.length
        · have d1 : decide ((st.length : Int) < (q : Int)) = false := decide_eq_false (by omega)
          have d2 : decide (st.length < q) = false := decide_eq_false (by omega)
          have W0 : ∀ [Inhabited Unit], wrap64 ((st.length : Int) - (q : Int)) = ((st.length - q : Nat) : Int) := by intro _; have := HL.out.1; have := HN.out; unfold wrap64; omega
          obtain ⟨a, ha⟩ : ∃ a, a = st.length - q := ⟨_, rfl⟩
          rw [← ha] at W0
          have haq : a + q = st.length := by omega
          have HAQ := Aside0.mk haq
          obtain ⟨i0, hi0, _, hsz0, _⟩ := info_parts info3
          have hroom := (Kd.R_reads' HR1.out).2.1
          have hCp : Kd.C (Kd.int .i64) w1 Ap (pile st).length (pile st) := (Kd.R_reads' HR1.out).2.2
          have hcut := cut_from (P := Tryd.prog) 85 3 .i64 Tryd.underlying85 hi0 1 hsz0 Ap st.length cp (a : Int) (by omega) (by omega)
          have hcuto := cut_to (P := Tryd.prog) 85 3 .i64 Tryd.underlying85 hi0 Ap st.length cp (a : Int) (by omega) (by omega) hroom
          have hdr := Kd.C_drop (m := a) (c := cp) hCp (by rw [P.pile_len]; omega) (by rw [P.pile_len]; exact hroom)
          rw [Int.toNat_natCast] at hcut hcuto
          have hpd : (pile st).drop a = pile (st.drop a) := by unfold pile; rw [List.map_drop]
          rw [hpd, P.pile_len, List.length_drop, show st.length - a = q by omega] at hdr
          rw [show st.length - a = q by omega] at hcut
          obtain ⟨A2, hA2⟩ : ∃ A2, A2 = (if cp = a then Ap else Ap.map (·.add (a * 1))) := ⟨_, rfl⟩
          have hdr2 : Kd.C (Kd.int .i64) w1 A2 q (pile (st.drop a)) := by rw [hA2]; exact hdr
          rw [← hA2] at hcut
          have HD := Aside0.mk hdr2
          clear hdr hdr2 hA2 hpd hCp hroom hi0 hsz0
          obtain ⟨ks, hks⟩ : ∃ ks, ks = st.drop a := ⟨_, rfl⟩
          have HKL : Aside0 (ks.length = q) := ⟨by rw [hks, List.length_drop]; omega⟩
          have HKM : Aside0 (dmx ks ≤ dmx st) := ⟨by rw [hks]; have := P.mx_split st a; omega⟩
          rw [← hks] at HD
          have HKS := Aside0.mk hks
          clear ha haq hks
          go_wp2
          go_loopw [9, 38] (fun t9 tj wr2 => ∃ j : Nat, tj = .int .i64 (j : Int) ∧ t9 = .int .i64 ((dmx (ks.take j) + 1 : Nat) : Int) ∧ Aside0 (j ≤ q) ∧ Aside0 (Below w1.heap.size w1 wr2)) (fun _ tj _ => q - left tj)
          case atStart => exact ⟨0, rfl, rfl, ⟨Nat.zero_le _⟩, ⟨Below.refl _ _⟩⟩
          case round =>
            obtain ⟨j, rfl, rfl, hj, HB2⟩ := hrel
            by_cases cj : j < q
            · have e1 : decide ((j : Int) < (q : Int)) = true := decide_eq_true (by omega)
              have e2 : decide (j < q) = true := decide_eq_true cj
              obtain ⟨ad2, hA, hy⟩ := Kd.at_int (Kd.C_below HD.out HB2.out) (j : Int) (by omega) (by omega)
              subst hA
              rw [Int.toNat_natCast, P.pile_rd ks j (by have := HKL.out; omega)] at hy
              have hmx : dmx (ks.take (j + 1)) = max (dmx (ks.take j)) (dep (ks[j]'(by have := HKL.out; omega))) := by
                rw [List.take_succ_eq_append_getElem (by have := HKL.out; omega), P.mx_app, dmx, dmx, Nat.max_zero]
              have hle := P.dep_le_mx (List.getElem_mem (l := ks) (n := j) (by have := HKL.out; omega))
              have W2 : ∀ [Inhabited Unit], wrap64 (((dep (ks[j]'(by have := HKL.out; omega)) : Nat) : Int) + 1) = ((dep (ks[j]'(by have := HKL.out; omega)) + 1 : Nat) : Int) := by intro _; have := HL.out.2; have := HKM.out; have := HN.out; unfold wrap64; omega
              have W1 : Aside0 (wrap64 ((j : Int) + 1) = ((j + 1 : Nat) : Int)) := ⟨by have := HL.out.1; have := HAQ.out; have := HN.out; unfold wrap64; omega⟩
              obtain ⟨dj, hdj⟩ : ∃ dj, dj = dep (ks[j]'(by have := HKL.out; omega)) := ⟨_, rfl⟩
              rw [← hdj] at hy hmx W2
              have HMX := Aside0.mk hmx
              obtain ⟨m, hm⟩ : ∃ m, m = dmx (ks.take j) := ⟨_, rfl⟩
              rw [← hm] at HMX ⊢
              have HCJ := Aside0.mk cj
              clear hdj hm hle hmx
              go_wp2
              refine ⟨⟨j + 1, by rw [W1.out], ?_, ⟨HCJ.out⟩, HB2⟩, ?_⟩
              · rw [HMX.out]
                congr 1
                split <;> omega
              · rw [W1.out]; have := HCJ.out; simp only [left, Int.toNat_natCast]; omega
            · have e1 : decide ((j : Int) < (q : Int)) = false := decide_eq_false (by omega)
              have e2 : decide (j < q) = false := decide_eq_false cj
              have hjq : j = q := by have := hj.out; omega
              subst hjq
              rw [List.take_of_length_le (by have := HKL.out; omega)]
              have HSG : Aside0 (sg st n = some (st.take a ++ [.mk n ks])) := ⟨by
                have h1 : st.length - j = a := by have := HAQ.out; omega
                rw [sg, HKQ.out, HKS.out]; simp only [if_pos cq, h1]⟩
              have HDP : Aside0 (dmx (st.take a ++ [.mk n ks]) = max (dmx (st.take a)) (dmx ks + 1) ∧ dmx st = max (dmx (st.take a)) (dmx ks)) := ⟨by
                rw [HKS.out]; exact ⟨by rw [P.mx_app, dmx, dmx, dep, Nat.max_zero], P.mx_split st a⟩⟩
              have HPP : Aside0 ((pile st).take a ++ [((dmx ks : Nat) : Int) + 1] = pile (st.take a ++ [.mk n ks])) := ⟨by
                unfold pile; rw [List.map_append, List.map_take]; rfl⟩
              have HRT := Aside0.mk (Kd.R_take (m := a) (Kd.R_below HR1.out HB2.out) (by rw [P.pile_len]; have := HAQ.out; omega))
              have HB3 := Aside0.mk (below_step HB1.out HB2.out)
              have HLP : Aside0 (((pile st).take a).length ≤ 8796093022207) := ⟨by rw [List.length_take, P.pile_len]; have := HL.out.1; have := HI.out; have := HN.out; omega⟩
              obtain ⟨m, hm⟩ : ∃ m, m = dmx ks := ⟨_, rfl⟩
              rw [← hm] at HDP HPP ⊢
              obtain ⟨dp, hdp⟩ : ∃ dp, dp = anyD st := ⟨_, rfl⟩
              obtain ⟨d9, hd9⟩ : ∃ d9, d9 = decide (100 < (m : Int) + 1) := ⟨_, rfl⟩
              have W1 : Aside0 (wrap64 ((i : Int) + 1) = ((i + 1 : Nat) : Int)) := ⟨by have := HI.out; have := HN.out; unfold wrap64; omega⟩
              have HAN : Aside0 (anyD (st.take a ++ [.mk n ks]) = (dp || d9)) := ⟨by
                rw [hdp, hd9]; unfold anyD; rw [HDP.out.1, HDP.out.2, Bool.eq_iff_iff]; simp only [decide_eq_true_eq, Bool.or_eq_true]; omega⟩
              rw [← hdp]
              have hd9' := hd9.symm
              clear hm hdp hd9 hcut
              have fin : ∀ (b : Bool), b = (dp || d9) → True := fun _ _ => trivial
              cases dp <;> cases d9
              all_goals
                clear fin
                go_wp2_with ((with_reducible refine gate_builtin (b := .append) (xs := #[.tmp 57, .tmp 59]) rfl ?_); at_builtin; refine Kd.R_append (Kd.int .i64) (w0 := w) w.heap.size rfl (.tmp 57) (.tmp 59) 85 3 (.int .i64 0) 8 rfl Tryd.underlying85 info3 rfl (by decide) (by omega) (.slice Ap a cp) ((pile st).take a) ((m : Int) + 1) [.int .i64 ((m : Int) + 1)] (fun _ => True) (fun _ => False) rfl rfl rfl (fun _ hk => hk.elim) (fun _ _ => trivial) HRT.out HB3.out HB3.out.size (by have := HLP.out; omega) ?_; intro v1 w4 ho hb hg hat; have HO4 := Aside0.mk ho; have HB4 := Aside0.mk hb; clear ho hb hg hat)
                rw [W1.out]
                go_roundw
                case measure => have := HI.out; simp only [left, Int.toNat_natCast]; omega
                case rel =>
                  refine ⟨i + 1, st.take a ++ [.mk n ks], rfl, by rw [HAN.out]; rfl, ⟨HI.out⟩, ⟨by rw [HBu.out, HDB.out, HSG.out]; rfl⟩, ⟨?_⟩, ⟨by rw [← HPP.out]; exact HO4.out⟩, ⟨HB4.out⟩⟩
                  have h1 := P.sg_len HSG.out
                  have h2 := P.sg_mx HSG.out
                  have := HL.out
                  omega
        · have d1 : decide ((st.length : Int) < (q : Int)) = true := decide_eq_true (by omega)
          have d2 : decide (st.length < q) = true := decide_eq_true (by omega)
          have HE : Aside0 (judgeE ns = 1) := ⟨by unfold judgeE; rw [HBu.out, HDB.out, sg, HKQ.out]; simp only [if_neg cq]; rfl⟩
          go_wp2
          go_ret
          exact ⟨by rw [HE.out]; rfl, HB1.out⟩
    · have c1 : decide ((i : Int) < (ns.length : Int)) = false := decide_eq_false (by omega)
      have c2 : decide (i < ns.length) = false := decide_eq_false ci
      have HI : Aside0 (ns.drop i = []) := ⟨List.drop_of_length_le (by omega)⟩
      have HE : Aside0 (judgeE ns = if st.length = 1 then (if anyD st = true then 91 else 0) else 1) := ⟨judgeE_of (by rw [HBu.out, HI.out]; rfl)⟩
      obtain ⟨Ap, cp, hv⟩ := Kd.R_slice HR.out
      rw [P.pile_len] at hv
      subst hv
      obtain ⟨dp, hdp⟩ : ∃ dp, dp = anyD st := ⟨_, rfl⟩
      rw [← hdp] at HE ⊢
      clear hdp
      by_cases h1 : st.length = 1
      · have e1 : ((st.length : Int) != 1) = false := by rw [h1]; rfl
        have HE2 : Aside0 (judgeE ns = if dp = true then 91 else 0) := ⟨by rw [HE.out, if_pos h1]⟩
        cases dp with
        | true =>
          clear h1
          go_wp2
          go_ret
          exact ⟨by rw [HE2.out]; rfl, HB.out⟩
        | false =>
          clear h1
          go_wp2
          go_ret
          exact ⟨by rw [HE2.out]; rfl, HB.out⟩
      · have e1 : ((st.length : Int) != 1) = true := by rw [bne_iff_ne]; omega
        have HE2 : Aside0 (judgeE ns = 1) := ⟨by rw [HE.out, if_neg h1]⟩
        clear h1
        go_wp2
        go_ret
        exact ⟨by rw [HE2.out]; rfl, HB.out⟩
end Go.Proofs.YtaijoghpfobdbaaDoor.W
end
section
set_option linter.unusedVariables false
set_option linter.unusedSimpArgs false
namespace Go.Proofs.YtaijoghpfobdbaaDoor.W
open Go.RowKit Go.Proofs.YtaijoghpfobdbaaDoor.X Go.Proofs.YtaijoghpfobdbaaDoorW.PrintWords Go.Proofs.YtaijoghpfobdbaaDoorW.PrintLast Go.Proofs.YtaijoghpfobdbaaDoorW.PrintMore
open Go.Proofs.YtaijoghpfobdbaaDoor.P (Tr Nd Wrote puts put fin kv kd sg build dep dmx pile judgeE)
structure Sl where
  A : Option Addr
  n : Nat
  c : Nat
def Sl.v (s : Sl) : Value := .slice s.A s.n s.c
def ksl : Kd Sl := Kd.scalar Sl.v (fun _ => rfl)
structure TV where
  n : Nd
  s : Sl
def kt : Kd TV := Kd.iso (Kd.pair (Kd.int .i64) (Kd.pair (Kd.int .i64) (Kd.pair (Kd.int .u64) (Kd.pair Kd.string (Kd.pair (Kd.int .i64) ksl))))) (fun x : TV => (x.n.f0, x.n.f1, x.n.f2, x.n.f3, x.n.f4, x.s))
def tvCs (x : TV) : List Value := [.int .i64 x.n.f0, .int .i64 x.n.f1, .int .u64 x.n.f2, .string x.n.f3, .int .i64 x.n.f4, .slice x.s.A x.s.n x.s.c]
theorem kt_mkM (w : World) (base : Nat) (ok : Nat → Prop) (x : TV) : kt.M w base ok x (tvCs x) := ⟨[_], [_, _, _, _, _], rfl, rfl, ⟨[_], [_, _, _, _], rfl, rfl, ⟨[_], [_, _, _], rfl, rfl, ⟨[_], [_, _], rfl, rfl, ⟨[_], [_], rfl, rfl, rfl⟩⟩⟩⟩⟩
theorem kt_open {w : World} {x : TV} {cs : List Value} (h : kt.K w x cs) : cs = tvCs x := by
  obtain ⟨_, _, rfl, rfl, ⟨_, _, rfl, rfl, ⟨_, _, rfl, rfl, ⟨_, _, rfl, rfl, ⟨_, _, rfl, rfl, rfl⟩⟩⟩⟩⟩ := h
  exact rfl
def Flat {α : Type} (d : Kd α) : Prop := ∀ {w w' : World} {base base' : Nat} {ok ok' : Nat → Prop} {x : α} {cs : List Value}, d.M w base ok x cs → d.M w' base' ok' x cs
theorem flat_t : Flat kt := fun h => h
theorem R_flat {α : Type} {d : Kd α} (hf : Flat d) {e : Nat} {w w' : World} {base base' : Nat} {ok : Nat → Prop} {v : Value} {xs : List α} (h : d.R e w base ok v xs) (hm : ∀ k, v.ownBlock = some k → w'.heap[k]? = w.heap[k]?) (hb : ∀ k, v.ownBlock = some k → base' ≤ k) : d.R e w' base' (fun _ => True) v xs := by
  obtain ⟨_, inner, ho, hr⟩ := h
  have ho' := own_move ho hm
  refine ⟨fun _ _ => trivial, inner, ⟨ho'.1, ?_⟩, hr.imp_ (fun _ _ hp => hf hp)⟩
  rcases ho'.2 with h2 | ⟨g, cap, cur, rfl, hg, rest⟩
  · exact .inl h2
  · exact .inr ⟨g, cap, cur, rfl, hb g (by simp [Value.ownBlock]), rest⟩
theorem infoT : (Tryd.prog.info? 93).map (fun i => (i.zero, i.size, i.bytes)) = some (some (.agg #[.int .i64 0, .int .i64 0, .int .u64 0, .string ⟨#[]⟩, .int .i64 0, .slice none 0 0]), 6, 72) := by kernel_rfl
theorem R_blk {α : Type} {d : Kd α} {e g n c : Nat} {w : World} {base : Nat} {ok : Nat → Prop} {xs : List α} (h : d.R e w base ok (.slice (some ⟨g, 0, none⟩) n c) xs) : ∃ cur, w.heap[g]? = some (.cells cur e (0, 0)) := by
  obtain ⟨inner, ho⟩ := Kd.R_own h
  rcases ho.2 with ⟨hv, _⟩ | ⟨g', cap, cur, hv, _, hg, _⟩
  · cases hv
  · injection hv with h1 _ _
    injection h1 with h1
    injection h1 with h1
    subst h1
    exact ⟨cur, hg⟩
inductive IsT (w : World) (ok : Nat → Prop) : Tr → TV → Prop
  | leaf (n : Nd) (A : Option Addr) (c : Nat) : IsT w ok (.mk n []) ⟨n, ⟨A, 0, c⟩⟩
  | node (n : Nd) (ks : List Tr) (g c : Nat) (xs : List TV) (hl : xs.length = ks.length) (hok : ok g) (hr : Kd.R kt 93 w 0 (fun _ => True) (.slice (some ⟨g, 0, none⟩) xs.length c) xs)
      (hk : ∀ (i : Nat) (h1 : i < ks.length) (h2 : i < xs.length), IsT w ok ks[i] xs[i]) : IsT w ok (.mk n ks) ⟨n, ⟨some ⟨g, 0, none⟩, xs.length, c⟩⟩
theorem IsT.move {w w' : World} {ok ok' : Nat → Prop} {t : Tr} {x : TV} (h : IsT w ok t x) (hm : ∀ (g : Nat) (cur : Array Value), ok g → w.heap[g]? = some (.cells cur 93 (0, 0)) → w'.heap[g]? = w.heap[g]? ∧ ok' g) : IsT w' ok' t x := by
  induction h with
  | leaf n A c => exact .leaf n A c
  | node n ks g c xs hl hok hr hk ih =>
    obtain ⟨cur, hg⟩ := R_blk hr
    obtain ⟨e1, e2⟩ := hm g cur hok hg
    refine .node n ks g c xs hl e2 (R_flat flat_t hr (fun k hkk => ?_) (fun _ _ => Nat.zero_le _)) (fun i h1 h2 => ih i h1 h2)
    simp only [Value.ownBlock, Option.some.injEq] at hkk
    subst hkk
    exact e1
structure TL (w : World) (ok : Nat → Prop) (ts : List Tr) (xs : List TV) : Prop where
  len : xs.length = ts.length
  get : ∀ (i : Nat) (h1 : i < ts.length) (h2 : i < xs.length), IsT w ok ts[i] xs[i]
section
variable {w w' : World} {ok ok' : Nat → Prop} {ts : List Tr} {xs : List TV}
theorem TL.nil (w : World) (ok : Nat → Prop) : TL w ok [] [] := ⟨rfl, fun i h => by simp at h⟩
theorem TL.move (h : TL w ok ts xs) (hm : ∀ (g : Nat) (cur : Array Value), ok g → w.heap[g]? = some (.cells cur 93 (0, 0)) → w'.heap[g]? = w.heap[g]? ∧ ok' g) : TL w' ok' ts xs := ⟨h.len, fun i h1 h2 => (h.get i h1 h2).move hm⟩
theorem TL.take (h : TL w ok ts xs) (k : Nat) : TL w ok (ts.take k) (xs.take k) :=
  ⟨by rw [List.length_take, List.length_take, h.len], fun i h1 h2 => by
    rw [List.length_take] at h1 h2
    rw [List.getElem_take, List.getElem_take]
    exact h.get i (by omega) (by omega)⟩
theorem TL.drop (h : TL w ok ts xs) (k : Nat) : TL w ok (ts.drop k) (xs.drop k) :=
  ⟨by rw [List.length_drop, List.length_drop, h.len], fun i h1 h2 => by
    rw [List.length_drop] at h1 h2
    rw [List.getElem_drop, List.getElem_drop]
    exact h.get (k + i) (by omega) (by omega)⟩
theorem TL.snoc {t : Tr} {x : TV} (h : TL w ok ts xs) (ht : IsT w ok t x) : TL w ok (ts ++ [t]) (xs ++ [x]) :=
  ⟨by rw [List.length_append, List.length_append, h.len]; rfl, fun i h1 h2 => by
    by_cases hi : i < ts.length
    · rw [List.getElem_append_left hi, List.getElem_append_left (by rw [h.len]; exact hi)]
      exact h.get i hi (by rw [h.len]; exact hi)
    · rw [List.length_append, List.length_singleton] at h1
      obtain rfl : i = ts.length := by omega
      rw [List.getElem_append_right (Nat.le_refl _), List.getElem_append_right (by rw [h.len]; exact Nat.le_refl _)]
      simp only [Nat.sub_self, h.len, List.getElem_cons_zero]
      exact ht⟩
theorem TL.node {n : Nd} {A : Option Addr} {k c base : Nat} (h : TL w ok ts xs) (hr : Kd.R kt 93 w base (fun _ => True) (.slice A k c) xs) (hok : ∀ g, base ≤ g → g < w.heap.size → ok g) : IsT w ok (.mk n ts) ⟨n, ⟨A, k, c⟩⟩ := by
  obtain ⟨inner, ho⟩ := Kd.R_own hr
  have hk : k = xs.length := by
    obtain ⟨A', c', he⟩ := own_slice ho
    injection he
  subst hk
  rcases ho.2 with ⟨hv, h0⟩ | ⟨g, cap, cur, hv, hb, hg, _⟩
  · have hts : ts = [] := List.length_eq_zero_iff.1 (by rw [← h.len]; exact h0)
    subst hts
    rw [h0]
    exact .leaf n A c
  · injection hv with h1 h2 h3
    subst h1
    exact .node n ts g c xs h.len (hok g hb (blk_lt hg)) (R_flat flat_t hr (fun _ _ => rfl) (fun _ _ => Nat.zero_le _)) h.get
end
set_option maxHeartbeats 1000000 in
set_option maxRecDepth 100000 in
theorem clone_calls (w : World) (A : Option Addr) (c : Nat) (xs : List TV) (hC : Kd.C kt w A xs.length xs) (hn : xs.length ≤ 1099511627776) (hnil : A = none → xs = []) :
    Calls Tryd.prog 65 #[.slice A xs.length c] w fun e w' => ∃ A' c', e = .returned (.slice A' xs.length c') ∧ Kd.R kt 93 w' w.heap.size (fun _ => True) (.slice A' xs.length c') xs ∧ Below w.heap.size w w' := by
  have hu := Tryd.underlying91
  have HC := Aside0.mk hC
  have HN := Aside0.mk hn
  cases A with
  | none =>
    have HE : Aside0 (xs = []) := ⟨hnil rfl⟩
    have hq : ∀ (m : Nat) (W : World), (binOp .eql 91 (.slice none m c) (.slice none 0 0)).run Tryd.prog W = .ok (.bool true) W := fun m W => Go.run_eql_slice_nil W 91 93 none m c hu
    clear hC hn hnil
    go_enter Tryd.func65, Tryd.ntmps65
    go_wp2
    go_ret
    exact ⟨none, 0, by rw [HE.out]; rfl, by rw [HE.out]; exact Kd.R_nil _ _ _ _ _, Below.refl _ _⟩
  | some a =>
    have hq : ∀ (m : Nat) (W : World), (binOp .eql 91 (.slice (some a) m c) (.slice none 0 0)).run Tryd.prog W = .ok (.bool false) W := fun m W => Go.run_eql_slice_nil W 91 93 (some a) m c hu
    clear hC hn hnil
    go_enter Tryd.func65, Tryd.ntmps65
    go_wp2_with ((with_reducible refine gate_builtin (b := .append) (xs := #[.tmp 5, .tmp 6]) rfl ?_); at_builtin; refine Kd.R_append_rows kt (Rr := kt.K (w.alloc (.cells #[] 93))) (w0 := w) w.heap.size rfl (.tmp 5) (.tmp 6) 91 93 (.agg #[.int .i64 0, .int .i64 0, .int .u64 0, .string ⟨#[]⟩, .int .i64 0, .slice none 0 0]) 72 rfl Tryd.underlying91 infoT rfl (by decide) (by omega) (.slice (some ⟨w.heap.size, 0, none⟩) 0 0) [] xs (some a) xs.length c (fun _ => True) (fun _ => False) rfl rfl ?aO (Kd.C_below HC.out (below_alloc (Below.refl _ _) _)) ?aK (fun _ hk => hk.elim) (fun _ _ => trivial) (below_alloc (Below.refl _ _) _) (by simp) (by have := HN.out; simp; omega) ?_; (case aO => exact ⟨fun _ _ => trivial, [], (show (w.alloc (.cells #[] 93)).ownsRow w.heap.size 93 6 (.slice (some ⟨w.heap.size, 0, none⟩) 0 0) 0 [] by simpa using World.ownsRow_lit (base := w.heap.size) (e := 93) (size := 6) w #[] 0 (Nat.le_refl _) (by simp) (by simp)), Reps.none _ _⟩); (case aK => intro x cs hk; obtain rfl := kt_open hk; exact kt_mkM _ _ _ x); intro v1 w1 ho hb hg hat; rw [List.nil_append] at ho; obtain ⟨A1, c1, hv1⟩ := Kd.R_slice ho; subst hv1; have HO := Aside0.mk ho; have HB := Aside0.mk hb; clear ho hb hg hat)
    go_ret
    exact ⟨_, _, rfl, HO.out, HB.out⟩
end Go.Proofs.YtaijoghpfobdbaaDoor.W
end
section
set_option linter.unusedVariables false
set_option linter.unusedSimpArgs false
namespace Go.Proofs.YtaijoghpfobdbaaDoorW.PrintWords
open Go.RowKit
def Went (W w1 : World) (v v1 : Value) (n : Nat) : Prop :=
  (∃ g c, v = .slice (some ⟨g, 0, none⟩) n c ∧ v1 = .slice (some ⟨g, 0, none⟩) (n + 1) c ∧ W.grownBy w1 (some g)) ∨ (∃ b, v1.ownBlock = some b ∧ W.heap.size ≤ b ∧ W.grownBy w1 none)
theorem Went.grown {W w1 : World} {v v1 : Value} {n : Nat} (h : Went W w1 v v1 n) : W.grownBy w1 v.ownBlock := by
  rcases h with ⟨g, c, rfl, _, h⟩ | ⟨b, _, _, h⟩
  · simpa [Value.ownBlock] using h
  · exact ⟨h.os, h.tape, h.output, h.size, fun k hk _ => h.block k hk (by simp)⟩
theorem Went.at {W w1 : World} {v v1 : Value} {n : Nat} (h : Went W w1 v v1 n) : v1.ownBlock = v.ownBlock ∨ ∃ b, v1.ownBlock = some b ∧ W.heap.size ≤ b := by
  rcases h with ⟨g, c, rfl, rfl, h⟩ | ⟨b, h1, h2, _⟩
  · exact .inl (by simp [Value.ownBlock])
  · exact .inr ⟨b, h1, h2⟩
theorem grown_new (w : World) (o : Obj) (row : Option Nat) : w.grownBy (w.drew.alloc o) row := ⟨rfl, rfl, rfl, by simp, fun k hk _ => heap_alloc_old w.drew _ hk⟩
theorem own_went {P : Program} (w : World) (base : Nat) (t ty e : TypeId) (i : TypeInfo) (z : Value) (size bytes : Nat) (ht : P.underlying t = some (.slice e)) (hi : P.info? e = some i) (hz : i.zero = some z)
    (hsize : i.size = size) (hby : i.bytes = bytes) (hzs : z.cells.size = size) (hsz : 0 < size)
    (v : Value) (n : Nat) (xs : List Value) (hown : w.ownsRow base e size v n xs)
    (a : Addr) (c : Nat) (news : List Value) (hl : news.length = size) (hnews : ∀ j u, news[j]? = some u → w.cell? (a.add j) = some u) (h1 : ∀ u ∈ news, u.oneCell' = true)
    (hb0 : 0 < bytes) (hbytes : (n + 1) * bytes ≤ 140737488355328) (hbase : base ≤ w.heap.size) :
    ∃ v' w', (Builtin.append_ #[t, t] ty #[v, .slice (some a) 1 c]).run P w = .ok v' w' ∧ w'.ownsRow base e size v' (n + 1) (xs ++ news) ∧ Went w w' v v' n := by
  have hn : n + 1 ≤ 140737488355328 := Nat.le_trans (Nat.le_mul_of_pos_right _ hb0) hbytes
  have hl1 : news.length = 1 * size := by omega
  obtain ⟨v', w', hr, ho, hg, _⟩ := run_append_own (P := P) w base t ty e i z size bytes ht hi hz hsize hby hzs hsz v n xs hown a 1 c news hl1 hnews h1 (by simp only [maxLen]; omega) hbytes hbase
  refine ⟨v', w', hr, ho, ?_⟩
  subst hsize
  subst hby
  rcases hown.2 with ⟨rfl, rfl⟩ | ⟨g, cap, cur, rfl, hbg, hgc, hnc, hcm, hcs, htake⟩
  · have h2 := run_append_nil (P := P) w t ty e i z ht hi hz a 1 c news hl1 hnews (by omega) (by omega) (by omega)
    rw [hr] at h2
    injection h2 with e1 e2
    subst e1 e2
    exact .inr ⟨_, rfl, Nat.le_refl _, grown_new _ _ _⟩
  · by_cases hroom : n + 1 ≤ cap
    · have hfit : n * i.size + news.length ≤ cur.size := by
        rw [hl1, hcs, ← Nat.add_mul]; exact Nat.mul_le_mul_right _ hroom
      have h2 := run_append_room (P := P) w t ty e i ht hi g n cap cur hgc a 1 c news hl1 hnews h1 hroom hfit
      rw [hr] at h2
      injection h2 with e1 e2
      subst e1
      exact .inl ⟨g, cap, rfl, rfl, by simpa [Value.ownBlock] using hg⟩
    · have holds : ∀ j u, xs[j]? = some u → w.cell? ((⟨g, 0, none⟩ : Addr).add j) = some u := hown.cells (g := g) rfl
      have h2 := run_append_grow (P := P) w t ty e i z ht hi hz ⟨g, 0, none⟩ n cap xs hown.1 holds a 1 c news hl1 hnews (by omega) (by omega) (growslice_fits (by omega) hbytes)
      rw [hr] at h2
      injection h2 with e1 e2
      subst e1 e2
      exact .inr ⟨_, rfl, Nat.le_refl _, grown_new _ _ _⟩
namespace Kd
section
variable {α : Type} {P : Program} {ops : Array Oper} {rest : List Oper} {o : Oper} {a : Act} {Q' : Exit → Act → World → Prop}
theorem R_step_at {Kc : Act → World → Prop} {N : Option Tmp} (hN : o.dst = N) (d : Kd α) {w0 W : World} (base : Nat) (hw : Region.wanted o (yielded ops a.tmps) = true) (s x : Operand) (t e : TypeId) (z : Value) (bytes : Nat)
    (ho : o.op = .call { callee := .builtin .append, args := #[s, x], argTypes := #[t, t] })
    (ht : P.underlying t = some (.slice e)) (hinfo : (P.info? e).map (fun i => (i.zero, i.size, i.bytes)) = some (some z, d.sz, bytes)) (hz : z.cells.size = d.sz) (hs0 : 0 < d.sz) (hb0 : 0 < bytes)
    (v : Value) (xs : List α) (p : α) (cs : List Value) (ok okp : Nat → Prop) (hs : a.eval s = v) (a0 : Addr) (c0 : Nat) (hx : a.eval x = .slice (some a0) 1 c0) (hnews : ∀ j u, cs[j]? = some u → W.cell? (a0.add j) = some u) (hp : d.M W base okp p cs) (hokp : ∀ k, okp k → ok k ∧ some k ≠ v.ownBlock) (hfresh : ∀ k, W.heap.size ≤ k → ok k)
    (HO : d.R e W base ok v xs) (HB : Below base w0 W) (hbase : base ≤ W.heap.size) (hl : (xs.length + 1) * bytes ≤ 140737488355328)
    (h : ∀ v1 w1, d.R e w1 base ok v1 (xs ++ [p]) → Below base w0 w1 → Went W w1 v v1 xs.length → Kc (a.put N v1) w1) :
    if Region.wanted o (yielded ops a.tmps) = true then Oper.wp P o a W Kc Q' else Kc (a.put N undef) W := by
  subst hN
  rw [if_pos hw]
  obtain ⟨h0, inner, hown, hr⟩ := HO
  obtain ⟨i0, hi, hzz⟩ := Option.map_eq_some_iff.1 hinfo
  simp only [Prod.mk.injEq] at hzz
  obtain ⟨hz0, hz1, hz2⟩ := hzz
  have hcl := d.K_len (d.K_of_M hp)
  obtain ⟨v1, w1, hrun, hq1, hwent⟩ := own_went (P := P) W base t o.type e i0 z d.sz bytes ht hi hz0 hz1 hz2 hz hs0 v xs.length inner hown a0 c0 cs hcl hnews (d.K_one (d.K_of_M hp)) hb0 hl hbase
  unfold Oper.wp execOp
  simp only [ho, resolve, invoke, builtin, Sem.run_bind, Sem.run_pure, Result.andThen_ok, List.map_toArray, List.map_cons, List.map_nil, hs, hx, hrun]
  exact h v1 w1 (R_appended h0 hr hp hokp hfresh hq1 hwent.grown hwent.at) (HB.grown hwent.grown hbase (fun k hk => own_base hown k hk)) hwent
end
section
variable {α : Type} {d : Kd α} {e base : Nat} {ok : Nat → Prop} {W w1 : World} {v : Value} {xs : List α}
end
end Kd
end Go.Proofs.YtaijoghpfobdbaaDoorW.PrintWords
end
section
set_option linter.unusedVariables false
set_option linter.unusedSimpArgs false
namespace Go.Proofs.YtaijoghpfobdbaaDoor.W
open Go.RowKit Go.Proofs.YtaijoghpfobdbaaDoor.X Go.Proofs.YtaijoghpfobdbaaDoorW.PrintWords Go.Proofs.YtaijoghpfobdbaaDoorW.PrintLast Go.Proofs.YtaijoghpfobdbaaDoorW.PrintMore
open Go.Proofs.YtaijoghpfobdbaaDoor.P (Tr Nd Wrote puts put fin kv kd sg build dep dmx pile judgeE)
theorem ndCells {w : World} {b : Nat} {n : Nd} (h : w.heap[b]? = some (.cells #[.int .i64 n.f0, .int .i64 n.f1, .int .u64 n.f2, .string n.f3, .int .i64 n.f4] 46 (0, 0))) :
    w.cell? ⟨b, 0, none⟩ = some (.int .i64 n.f0) ∧ w.cell? ⟨b, 1, none⟩ = some (.int .i64 n.f1) ∧ w.cell? ⟨b, 2, none⟩ = some (.int .u64 n.f2) ∧ w.cell? ⟨b, 3, none⟩ = some (.string n.f3) ∧ w.cell? ⟨b, 4, none⟩ = some (.int .i64 n.f4) :=
  ⟨(blk_cell h 0).trans rfl, (blk_cell h 1).trans rfl, (blk_cell h 2).trans rfl, (blk_cell h 3).trans rfl, (blk_cell h 4).trans rfl⟩
theorem at_TV {w : World} {A : Option Addr} {n : Nat} {xs : List TV} (h : Kd.C kt w A n xs) (i : Nat) (hi : i < n) (x : TV) (hx : xs[i]? = some x) : ∃ ad, A = some ad ∧ w.cell? (ad.add (i * 6)) = some (.int .i64 x.n.f0) ∧ w.cell? ⟨(ad.add (i * 6)).block, (ad.add (i * 6)).off + 1, none⟩ = some (.int .i64 x.n.f1) ∧ w.cell? ⟨(ad.add (i * 6)).block, (ad.add (i * 6)).off + 2, none⟩ = some (.int .u64 x.n.f2) ∧ w.cell? ⟨(ad.add (i * 6)).block, (ad.add (i * 6)).off + 3, none⟩ = some (.string x.n.f3) ∧ w.cell? ⟨(ad.add (i * 6)).block, (ad.add (i * 6)).off + 4, none⟩ = some (.int .i64 x.n.f4) ∧ w.cell? ⟨(ad.add (i * 6)).block, (ad.add (i * 6)).off + 5, none⟩ = some (.slice x.s.A x.s.n x.s.c) := by
  obtain ⟨ad, c, e, _, hK, hc0⟩ := Kd.C_get h x (i : Int) (by omega) (by omega)
  rw [Int.toNat_natCast] at hK hc0
  have hx2 : xs.getD i x = x := by rw [List.getD_eq_getElem?_getD, hx]; rfl
  rw [hx2] at hK
  have hc : ∀ j u, c[j]? = some u → w.cell? (ad.add (i * 6 + j)) = some u := hc0
  obtain rfl := kt_open hK
  exact ⟨ad, e, hc 0 _ rfl, by rw [← add_field _ _ 1 (by omega)]; exact hc 1 _ rfl, by rw [← add_field _ _ 2 (by omega)]; exact hc 2 _ rfl, by rw [← add_field _ _ 3 (by omega)]; exact hc 3 _ rfl, by rw [← add_field _ _ 4 (by omega)]; exact hc 4 _ rfl, by rw [← add_field _ _ 5 (by omega)]; exact hc 5 _ rfl⟩
structure Hg (w0 wr : World) (st : List Tr) (xs : List TV) (Ap : Option Addr) (cp : Nat) : Prop where
  r : Kd.R kt 93 wr w0.heap.size (fun _ => True) (.slice Ap xs.length cp) xs
  tl : TL wr (fun g => w0.heap.size ≤ g ∧ (Value.slice Ap xs.length cp).ownBlock ≠ some g) st xs
  be : Below w0.heap.size w0 wr
theorem Hg.below {w0 wr w' : World} {st : List Tr} {xs : List TV} {Ap : Option Addr} {cp : Nat} (h : Hg w0 wr st xs Ap cp) (hb : Below wr.heap.size wr w') : Hg w0 w' st xs Ap cp :=
  ⟨Kd.R_below h.r hb, h.tl.move (fun g cur hok hg => ⟨hb.block g (blk_lt hg), hok⟩), below_step h.be hb⟩
theorem R_none {α : Type} {d : Kd α} {e n c : Nat} {w : World} {base : Nat} {ok : Nat → Prop} {xs : List α} (h : d.R e w base ok (.slice none n c) xs) : xs = [] := by
  obtain ⟨inner, ho⟩ := Kd.R_own h
  rcases ho.2 with ⟨_, h0⟩ | ⟨g, cap, cur, hv, _⟩
  · exact List.length_eq_zero_iff.1 h0
  · cases hv
theorem own_len (A : Option Addr) (n m c : Nat) : (Value.slice A n c).ownBlock = (Value.slice A m c).ownBlock := by cases A <;> rfl
theorem Hg.next {w0 w2 W w3 : World} {st : List Tr} {xs : List TV} {Ap A' Ap3 : Option Addr} {cp c' cp3 a q : Nat} {n : Nd} (h : Hg w0 w2 st xs Ap cp) (haq : a + q = xs.length)
    (hk : Kd.R kt 93 w2 W.heap.size (fun _ => True) (.slice A' q c') (xs.drop a)) (hW : w0.heap.size ≤ W.heap.size) (hlt : ∀ k, (Value.slice Ap xs.length cp).ownBlock = some k → k < W.heap.size)
    {w2b : World} (hb : Below w2.heap.size w2 w2b)
    (ho : Kd.R kt 93 w3 w0.heap.size (fun _ => True) (.slice Ap3 (a + 1) cp3) (xs.take a ++ [⟨n, ⟨A', q, c'⟩⟩])) (hg : w2b.grownBy w3 (Value.slice Ap a cp).ownBlock)
    (hat : (Value.slice Ap3 (a + 1) cp3).ownBlock = (Value.slice Ap a cp).ownBlock ∨ ∃ b, (Value.slice Ap3 (a + 1) cp3).ownBlock = some b ∧ w2b.heap.size ≤ b) (h3 : Below w0.heap.size w0 w3) :
    Hg w0 w3 (st.take a ++ [.mk n (st.drop a)]) (xs.take a ++ [⟨n, ⟨A', q, c'⟩⟩]) Ap3 cp3 := by
  have hlen : (xs.take a ++ [(⟨n, ⟨A', q, c'⟩⟩ : TV)]).length = a + 1 := by rw [List.length_append, List.length_take, List.length_singleton]; omega
  have h2 := h.below hb
  have hk2 := Kd.R_below hk hb
  -- the kids' trees, and the new node, at w2b, in blocks that are not the pile's
  have hnode : IsT w2b (fun g => w0.heap.size ≤ g ∧ (Value.slice Ap xs.length cp).ownBlock ≠ some g) (.mk n (st.drop a)) ⟨n, ⟨A', q, c'⟩⟩ :=
    (h2.tl.drop a).node hk2 (fun g h1 _ => ⟨by omega, fun e => by have := hlt g e; omega⟩)
  have hall := (h2.tl.take a).snoc hnode
  refine ⟨by rw [hlen]; exact ho, ?_, h3⟩
  rw [hlen]
  refine hall.move (fun g cur hok hgc => ?_)
  have hne : (Value.slice Ap a cp).ownBlock ≠ some g := fun e => hok.2 (by rw [own_len Ap xs.length a cp]; exact e)
  refine ⟨hg.block g (blk_lt hgc) (fun e => hne e.symm), hok.1, fun e => ?_⟩
  rcases hat with h1 | ⟨b, h1, h2⟩
  · rw [h1] at e; exact hne e
  · rw [h1] at e
    injection e with e
    have := blk_lt hgc
    omega
theorem results_c {P : Program} {fn : Func} {p : Tmp} {ty : TypeId} (h : fn.results = #[.cell p ty]) (tmps : Array Value) (w : World) (g : Nat) (t : TypeId) (cs : Array Value) (fr : Nat × Nat) (d : TypeDesc)
    (hp : tmps.getD p undef = .pointer (some ⟨g, 0, none⟩)) (hg : w.heap[g]? = some (.cells cs t fr))
    (hu : P.underlying ty = some d) (hd : (match d with | .struct _ | .array _ _ => true | _ => false) = true) (hi : (P.info? ty).map (·.size) = some cs.size) :
    (results fn tmps).run P w = .ok (.agg cs) w := by
  have hp' : tmps[p]?.getD undef = .pointer (some ⟨g, 0, none⟩) := by simpa using hp
  simp [results, h, hp', asAddr, run_loadVar_row w g t ty cs fr d hg hu hd hi]
theorem set6 {W : World} {b : Nat} {a0 a1 a2 a3 a4 a5 v0 v1 v2 v3 v4 v5 : Value} {t : TypeId} (h : W.heap[b]? = some (.cells #[a0, a1, a2, a3, a4, a5] t (0, 0))) :
    ((((((W.setCell ⟨b, 0, none⟩ v0).setCell ⟨b, 1, none⟩ v1).setCell ⟨b, 2, none⟩ v2).setCell ⟨b, 3, none⟩ v3).setCell ⟨b, 4, none⟩ v4).setCell ⟨b, 5, none⟩ v5).heap[b]? = some (.cells #[v0, v1, v2, v3, v4, v5] t (0, 0)) :=
  blk_set (blk_set (blk_set (blk_set (blk_set (blk_set h 0 v0) 1 v1) 2 v2) 3 v3) 4 v4) 5 v5
theorem kept6 {W : World} {b g : Nat} {v0 v1 v2 v3 v4 v5 : Value} (h : g ≠ b) :
    ((((((W.setCell ⟨b, 0, none⟩ v0).setCell ⟨b, 1, none⟩ v1).setCell ⟨b, 2, none⟩ v2).setCell ⟨b, 3, none⟩ v3).setCell ⟨b, 4, none⟩ v4).setCell ⟨b, 5, none⟩ v5).heap[g]? = W.heap[g]? := by
  rw [Below.heap_setCell _ ⟨b, 5, none⟩ v5 g h, Below.heap_setCell _ ⟨b, 4, none⟩ v4 g h, Below.heap_setCell _ ⟨b, 3, none⟩ v3 g h, Below.heap_setCell _ ⟨b, 2, none⟩ v2 g h, Below.heap_setCell _ ⟨b, 1, none⟩ v1 g h, Below.heap_setCell _ ⟨b, 0, none⟩ v0 g h]
theorem below6 {B : Nat} {w W : World} {b : Nat} {v0 v1 v2 v3 v4 v5 : Value} (h : Below B w W) (hb : B ≤ b) :
    Below B w ((((((W.setCell ⟨b, 0, none⟩ v0).setCell ⟨b, 1, none⟩ v1).setCell ⟨b, 2, none⟩ v2).setCell ⟨b, 3, none⟩ v3).setCell ⟨b, 4, none⟩ v4).setCell ⟨b, 5, none⟩ v5) :=
  (((((h.setCell hb v0).setCell hb v1).setCell hb v2).setCell hb v3).setCell hb v4).setCell hb v5
theorem keep3 {w w' : World} {g : Option Nat} {b : Nat} {o : Obj} (hx : w.heap[b]? = some o) (hg : w.grownBy w' g) (hb : some b ≠ g) : w'.heap[b]? = some o := (hg.block b (blk_lt hx) hb).trans hx
theorem own_typ {α : Type} {d : Kd α} {e b : Nat} {w : World} {base : Nat} {ok : Nat → Prop} {v : Value} {xs : List α} {cs : Array Value} {t : TypeId} {f : Nat × Nat} (h : d.R e w base ok v xs) (hb : w.heap[b]? = some (.cells cs t f)) (hne : t ≠ e) : v.ownBlock ≠ some b := by
  intro e1
  obtain ⟨inner, ho⟩ := Kd.R_own h
  rcases ho.2 with ⟨hv, _⟩ | ⟨g, cap, cur, hv, _, hg, _⟩
  · rw [hv] at e1; simp [Value.ownBlock] at e1
  · rw [hv] at e1
    simp only [Value.ownBlock, Option.some.injEq] at e1
    subst e1
    rw [hg] at hb
    injection hb with hb
    injection hb with _ hb _
    exact hne hb.symm
set_option maxHeartbeats 8000000 in
set_option maxRecDepth 100000 in
theorem grown_calls (w : World) (A : Option Addr) (c : Nat) (ns : List Nd) (t : Tr) (hC : Kd.C k46 w A ns.length ns) (hns : ns.length ≤ 1099511627776) (hbt : build ns [] = some [t]) :
    Calls Tryd.prog 34 #[.slice A ns.length c] w fun e w' => ∃ x : TV, e = .returned (.agg (tvCs x).toArray) ∧ IsT w' (fun g => w.heap.size ≤ g) t x ∧ Below w.heap.size w w' := by
  have HC := Aside0.mk hC
  have HN := Aside0.mk hns
  have HT := Aside0.mk hbt
  obtain ⟨w0, hw0⟩ : ∃ w0, w0 = w.alloc (.cells #[.int .i64 0, .int .i64 0, .int .u64 0, .string ⟨#[]⟩, .int .i64 0, .slice none 0 0] 93) := ⟨_, rfl⟩
  have hB0 : Below w.heap.size w w0 := by rw [hw0]; exact below_alloc (Below.refl _ _) _
  have HB0 := Aside0.mk hB0
  have HX0 := Aside0.mk (show w0.heap[w.heap.size]? = some (.cells #[.int .i64 0, .int .i64 0, .int .u64 0, .string ⟨#[]⟩, .int .i64 0, .slice none 0 0] 93 (0, 0)) from by rw [hw0]; exact blk_new _ _)
  have HS0 := Aside0.mk (show w0.heap.size = w.heap.size + 1 from by rw [hw0]; simp)
  obtain ⟨b0, hb0⟩ : ∃ b0, b0 = w.heap.size := ⟨_, rfl⟩
  have HW0 := Aside0.mk hw0
  clear hC hns hbt hB0 hw0
  go_enter Tryd.func34, Tryd.ntmps34
  go_wp2
  rw [← HW0.out]
  rw [← hb0] at HX0 HS0 ⊢
  have HE0 := Aside0.mk hb0
  clear hb0
  go_wp2
  go_loopw [3, 11] (fun t3 ti wr => ∃ (i : Nat) (st : List Tr) (xs : List TV) (Ap : Option Addr) (cp : Nat), ti = .int .i64 (i : Int) ∧ t3 = .slice Ap xs.length cp ∧ Aside0 (i ≤ ns.length) ∧ Aside0 (build ns [] = build (ns.drop i) st) ∧ Aside0 (st.length ≤ i) ∧ Aside0 (Hg w0 wr st xs Ap cp)) (fun _ ti _ => ns.length - left ti)
  case atStart => exact ⟨0, [], [], none, 0, rfl, rfl, ⟨Nat.zero_le _⟩, ⟨rfl⟩, ⟨by simp⟩, ⟨⟨Kd.R_nil _ _ _ _ _, TL.nil _ _, Below.refl _ _⟩⟩⟩
  case round =>
    obtain ⟨i, st, xs, Ap, cp, rfl, rfl, hi, HBu, HL, HG⟩ := hrel
    by_cases ci : i < ns.length
    · have c1 : decide ((i : Int) < (ns.length : Int)) = true := decide_eq_true (by omega)
      have c2 : decide (i < ns.length) = true := decide_eq_true ci
      obtain ⟨ad, rfl, hx0, hx1, hx2, hx3, hx4⟩ := at_T46 (Kd.C_below HC.out (below_step HB0.out HG.out.be)) (i : Int) (by omega) (by omega)
      rw [Int.toNat_natCast] at hx0 hx1 hx2 hx3 hx4
      have HDB := Aside0.mk (drop_build (st := st) ci)
      obtain ⟨n, hn⟩ : ∃ n, n = rd_T46 ns (i : Int) := ⟨_, rfl⟩
      rw [← hn] at hx0 hx1 hx2 hx3 hx4 HDB
      clear hn
      have HI := Aside0.mk ci
      -- the node is one, and has its kids
      obtain ⟨q, hkq, hql⟩ : ∃ q : Nat, kv n = ((q : Int), true) ∧ kd n = some q ∧ q ≤ st.length := by
        cases hs : sg st n with
        | none =>
          have := HT.out
          rw [HBu.out, HDB.out, hs] at this
          cases this
        | some st' =>
          obtain ⟨k, h1, h2, _⟩ := P.sg_some hs
          have h3 := h1
          unfold kd at h3
          split at h3
          · rename_i h4
            injection h3 with h3
            have := P.kv_nn n h4
            exact ⟨k, Prod.ext (by show (kv n).1 = _; omega) h4, h1, h2⟩
          · cases h3
      have HKD := Aside0.mk hql
      have hlx := HG.out.tl.len
      obtain ⟨a, haq⟩ : ∃ a, a + q = xs.length := ⟨xs.length - q, by omega⟩
      have HAQ := Aside0.mk haq
      have HLX := Aside0.mk hlx
      have W0 : ∀ [Inhabited Unit], wrap64 ((xs.length : Int) - (q : Int)) = (a : Int) := by intro _; have := HL.out; have := HN.out; have := HI.out; unfold wrap64; omega
      obtain ⟨wA, hwA⟩ : ∃ wA, wA = wr.alloc (.cells #[.int .i64 n.f0, .int .i64 n.f1, .int .u64 n.f2, .string n.f3, .int .i64 n.f4] 46) := ⟨_, rfl⟩
      have hbA : Below wr.heap.size wr wA := by rw [hwA]; exact below_alloc (Below.refl _ _) _
      have HGA := Aside0.mk (HG.out.below hbA)
      obtain ⟨b5, hb5⟩ : ∃ b5, b5 = wr.heap.size := ⟨_, rfl⟩
      have HN5 := Aside0.mk (show wA.heap[b5]? = some (.cells #[.int .i64 n.f0, .int .i64 n.f1, .int .u64 n.f2, .string n.f3, .int .i64 n.f4] 46 (0, 0)) from by rw [hwA, hb5]; exact blk_new _ _)
      have hk := kids_calls n wA
      rw [hkq] at hk
      have HK := Aside0.mk hk
      have HWA := Aside0.mk hwA
      clear hk hkq hql hlx haq hbA hwA HG
      go_wp2_with fail
      rw [← HWA.out, ← hb5]
      clear hx0 hx1 hx2 hx3 hx4
      refine HK.out.mono ?_
      rintro e w1 ⟨rfl, hb1⟩
      have HG1 := Aside0.mk (HGA.out.below hb1)
      have HN1 := Aside0.mk (blk_below HN5.out hb1)
      clear hb1 hb5
      obtain ⟨y0, y1, y2, y3, y4⟩ := ndCells HN1.out
      have haq := HAQ.out
      obtain ⟨i0, hi0, _, hsz0, _⟩ := info_parts infoT
      have hroom := (Kd.R_reads' HG1.out.r).2.1
      have hCp := (Kd.R_reads' HG1.out.r).2.2
      have hcut := cut_from (P := Tryd.prog) 91 93 .i64 Tryd.underlying91 hi0 6 hsz0 Ap xs.length cp (a : Int) (by omega) (by omega)
      have hcuto := cut_to (P := Tryd.prog) 91 93 .i64 Tryd.underlying91 hi0 Ap xs.length cp (a : Int) (by omega) (by omega) hroom
      have hdr := Kd.C_drop (m := a) (c := cp) hCp (by omega) hroom
      rw [Int.toNat_natCast] at hcut hcuto
      have hxl : xs.length - a = q := by omega
      rw [List.length_drop, hxl] at hdr
      rw [hxl] at hcut
      obtain ⟨A2, hA2⟩ : ∃ A2, A2 = (if cp = a then Ap else Ap.map (·.add (a * 6))) := ⟨_, rfl⟩
      have hdr2 : Kd.C kt w1 A2 q (xs.drop a) := by rw [hA2]; exact hdr
      rw [← hA2] at hcut
      have hnil : A2 = none → xs.drop a = [] := fun e => by
        cases Ap with
        | none => rw [R_none HG1.out.r, List.drop_nil]
        | some z => rw [hA2] at e; split at e <;> cases e
      have HCL : Aside0 (∀ W, Below w1.heap.size w1 W → Calls Tryd.prog 65 #[.slice A2 q (cp - a)] W fun e w' => ∃ A' c', e = .returned (.slice A' q c') ∧ Kd.R kt 93 w' W.heap.size (fun _ => True) (.slice A' q c') (xs.drop a) ∧ Below W.heap.size W w') := ⟨fun W hb => by
        have hq2 : (xs.drop a).length = q := by rw [List.length_drop]; omega
        have := clone_calls W A2 (cp - a) (xs.drop a) (by rw [hq2]; exact Kd.C_below hdr2 hb) (by rw [hq2]; have := HL.out; have := HLX.out; have := HI.out; have := HN.out; omega) hnil
        rw [hq2] at this
        exact this⟩
      clear hdr hdr2 hA2 hCp hroom hi0 hsz0 hxl hnil haq
      have S0 : (fun w' : World => w'.cell? ⟨b5, 0, none⟩ = some (.int .i64 n.f0) ∧ w'.cell? ⟨b5, 1, none⟩ = some (.int .i64 n.f1) ∧ w'.cell? ⟨b5, 2, none⟩ = some (.int .u64 n.f2) ∧ w'.cell? ⟨b5, 3, none⟩ = some (.string n.f3) ∧ w'.cell? ⟨b5, 4, none⟩ = some (.int .i64 n.f4)) w1.drew := ⟨y0, y1, y2, y3, y4⟩
      go_wp2
      refine start_ (n := 12) (S := (fun w' : World => w'.cell? ⟨b5, 0, none⟩ = some (.int .i64 n.f0) ∧ w'.cell? ⟨b5, 1, none⟩ = some (.int .i64 n.f1) ∧ w'.cell? ⟨b5, 2, none⟩ = some (.int .u64 n.f2) ∧ w'.cell? ⟨b5, 3, none⟩ = some (.string n.f3) ∧ w'.cell? ⟨b5, 4, none⟩ = some (.int .i64 n.f4))) (ds := []) #[false, false, false, false, false, false, false, false, false, false, false, false] (by kernel_rfl) rfl rfl (S0) (fun hHeld => ?_)
      refine pure_ (i := 0) (N := some 24) (v := ?_) (a' := ?_) #[true, false, false, false, false, false, false, false, false, false, false, false] rfl rfl (by kernel_rfl) (fun _ _ _ h => h) (Or.inl ⟨by rfl, ?_⟩) ?_ ?_
      rotate_left
      · intro w'
        go_simp
        with_reducible rfl
      rotate_left
      · simp only [Act.put, List.setIfInBounds_toArray, List.set_cons_zero, List.set_cons_succ, i64_w, i32_w]
        rfl
      refine pure_ (i := 1) (N := some 25) (v := ?_) (a' := ?_) #[true, true, false, false, false, false, false, false, false, false, false, false] rfl rfl (by kernel_rfl) (fun _ _ _ h => h) (Or.inl ⟨by rfl, ?_⟩) ?_ ?_
      rotate_left
      · intro w'
        go_simp
        with_reducible rfl
      rotate_left
      · simp only [Act.put, List.setIfInBounds_toArray, List.set_cons_zero, List.set_cons_succ, i64_w, i32_w]
        rfl
      refine pure_ (i := 2) (N := some 26) (v := ?_) (a' := ?_) #[true, true, true, false, false, false, false, false, false, false, false, false] rfl rfl (by kernel_rfl) (fun _ _ _ h => h) (Or.inl ⟨by rfl, ?_⟩) ?_ ?_
      rotate_left
      · intro w'
        go_simp
        with_reducible rfl
      rotate_left
      · simp only [Act.put, List.setIfInBounds_toArray, List.set_cons_zero, List.set_cons_succ, i64_w, i32_w]
        rfl
      refine take_ (i := 3) (N := some 27) (v := ?_) (a' := ?_) #[true, true, true, true, false, false, false, false, false, false, false, false] rfl rfl (by kernel_rfl) (fun _ _ _ h => h) (Or.inl ⟨by rfl, ?_⟩) hHeld ?_ ?_
      rotate_left
      · intro w' hS'
        obtain ⟨s0, s1, s2, s3, s4⟩ : w'.cell? ⟨b5, 0, none⟩ = some (.int .i64 n.f0) ∧ w'.cell? ⟨b5, 1, none⟩ = some (.int .i64 n.f1) ∧ w'.cell? ⟨b5, 2, none⟩ = some (.int .u64 n.f2) ∧ w'.cell? ⟨b5, 3, none⟩ = some (.string n.f3) ∧ w'.cell? ⟨b5, 4, none⟩ = some (.int .i64 n.f4) := hS'
        go_simp
        with_reducible rfl
      rotate_left
      · simp only [Act.put, List.setIfInBounds_toArray, List.set_cons_zero, List.set_cons_succ, i64_w, i32_w]
        rfl
      refine pure_ (i := 4) (N := some 28) (v := ?_) (a' := ?_) #[true, true, true, true, true, false, false, false, false, false, false, false] rfl rfl (by kernel_rfl) (fun _ _ _ h => h) (Or.inl ⟨by rfl, ?_⟩) ?_ ?_
      rotate_left
      · intro w'
        go_simp
        with_reducible rfl
      rotate_left
      · simp only [Act.put, List.setIfInBounds_toArray, List.set_cons_zero, List.set_cons_succ, i64_w, i32_w]
        rfl
      refine pure_ (i := 5) (N := some 29) (v := ?_) (a' := ?_) #[true, true, true, true, true, true, false, false, false, false, false, false] rfl rfl (by kernel_rfl) (fun _ _ _ h => h) (Or.inl ⟨by rfl, ?_⟩) ?_ ?_
      rotate_left
      · intro w'
        go_simp
        with_reducible rfl
      rotate_left
      · simp only [Act.put, List.setIfInBounds_toArray, List.set_cons_zero, List.set_cons_succ, i64_w, i32_w]
        rfl
      refine pure_ (i := 6) (N := some 30) (v := ?_) (a' := ?_) #[true, true, true, true, true, true, true, false, false, false, false, false] rfl rfl (by kernel_rfl) (fun _ _ _ h => h) (Or.inl ⟨by rfl, ?_⟩) ?_ ?_
      rotate_left
      · intro w'
        go_simp
        with_reducible rfl
      rotate_left
      · simp only [Act.put, List.setIfInBounds_toArray, List.set_cons_zero, List.set_cons_succ, i64_w, i32_w]
        rfl
      refine one_ (i := 7) (N := some 31) #[true, true, true, true, true, true, true, true, false, false, false, false] rfl rfl (by kernel_rfl) (by decide) (fun K hK => ?_)
      refine goes_ Tryd.func65 (by kernel_rfl) rfl #[.slice A2 q (cp - a)] (by rfl) rfl rfl (by (try simp only [List.map_toArray, List.map_cons, List.map_nil]); first | done | rfl) ?_
      refine (HCL.out w1.drew (below_drew1 (Below.refl _ _))).mono ?_
      rintro e w2 ⟨A', c', rfl, hrk, hb2⟩
      have hbd : Below w1.heap.size w1 w2 := below_step (below_drew1 (Below.refl _ _)) hb2
      have HN2 := Aside0.mk (blk_below HN1.out hbd)
      have HG2 := Aside0.mk (HG1.out.below hbd)
      have HRK := Aside0.mk hrk
      have SC : (fun w' : World => w'.cell? ⟨b5, 0, none⟩ = some (.int .i64 n.f0) ∧ w'.cell? ⟨b5, 1, none⟩ = some (.int .i64 n.f1) ∧ w'.cell? ⟨b5, 2, none⟩ = some (.int .u64 n.f2) ∧ w'.cell? ⟨b5, 3, none⟩ = some (.string n.f3) ∧ w'.cell? ⟨b5, 4, none⟩ = some (.int .i64 n.f4)) w2 := ndCells HN2.out
      have HSZ : Aside0 (w1.drew.heap.size = w1.heap.size) := ⟨rfl⟩
      have HSZ2 := Aside0.mk hbd.size
      clear hrk hb2 hbd
      refine ⟨_, rfl, ?_⟩
      refine hK.out _ _ (SC) (fun hHeld => ?_)
      clear hK K
      refine pure_ (i := 8) (N := some 32) (v := ?_) (a' := ?_) #[true, true, true, true, true, true, true, true, true, false, false, false] rfl rfl (by kernel_rfl) (fun _ _ _ h => h) (Or.inl ⟨by rfl, ?_⟩) ?_ ?_
      rotate_left
      · intro w'
        go_simp
        with_reducible rfl
      rotate_left
      · simp only [Act.put, List.setIfInBounds_toArray, List.set_cons_zero, List.set_cons_succ, i64_w, i32_w]
        rfl
      obtain ⟨w2b, hw2b⟩ : ∃ w2b, w2b = w2.alloc (.cells (tvCs ⟨n, ⟨A', q, c'⟩⟩).toArray 93) := ⟨_, rfl⟩
      have hb2b : Below w2.heap.size w2 w2b := by rw [hw2b]; exact below_alloc (Below.refl _ _) _
      have HB2B := Aside0.mk hb2b
      have SB : (fun w' : World => w'.cell? ⟨b5, 0, none⟩ = some (.int .i64 n.f0) ∧ w'.cell? ⟨b5, 1, none⟩ = some (.int .i64 n.f1) ∧ w'.cell? ⟨b5, 2, none⟩ = some (.int .u64 n.f2) ∧ w'.cell? ⟨b5, 3, none⟩ = some (.string n.f3) ∧ w'.cell? ⟨b5, 4, none⟩ = some (.int .i64 n.f4)) w2b := ndCells (blk_below HN2.out hb2b)
      have HW2B := Aside0.mk hw2b
      refine one_ (i := 9) (N := some 33) #[true, true, true, true, true, true, true, true, true, true, false, false] rfl rfl (by kernel_rfl) (by decide) (fun K hK => ?_)
      refine value_ (w1 := w2b) (v := ?_) (by rfl) rfl ?_ ?_
      rotate_left
      · rw [hw2b]
        go_simp
        first | rfl | (constructor <;> rfl)
      clear hw2b hb2b
      refine hK.out _ _ (SB) (fun hHeld => ?_)
      clear hK K
      refine one_ (i := 10) (N := some 34) #[true, true, true, true, true, true, true, true, true, true, true, false] rfl rfl (by kernel_rfl) (by decide) (fun K hK => ?_)
      refine Kd.R_step_at (N := some 34) rfl kt (w0 := w0) w0.heap.size (by rfl) (.tmp 26) (.tmp 33) 91 93 (.agg #[.int .i64 0, .int .i64 0, .int .u64 0, .string ⟨#[]⟩, .int .i64 0, .slice none 0 0]) 72 rfl Tryd.underlying91 infoT rfl (by decide) (by omega) (.slice Ap a cp) (xs.take a) (⟨n, ⟨A', q, c'⟩⟩ : TV) (tvCs ⟨n, ⟨A', q, c'⟩⟩) (fun _ => True) (fun _ => False) (by rfl) ⟨w2.heap.size, 0, none⟩ 1 (by rfl) (by rw [HW2B.out]; exact World.news_of_block (cs := (tvCs ⟨n, ⟨A', q, c'⟩⟩).toArray) (t := 93) (fr := (0, 0)) (heap_alloc_new _ _)) (kt_mkM _ _ _ (⟨n, ⟨A', q, c'⟩⟩ : TV)) (fun _ hk => hk.elim) (fun _ _ => trivial) (Kd.R_take (m := a) (HG2.out.below HB2B.out).r (by have := HAQ.out; omega)) (HG2.out.below HB2B.out).be (HG2.out.below HB2B.out).be.size (by rw [List.length_take]; have := HLX.out; have := HL.out; have := HI.out; have := HN.out; omega) ?_
      intro v1 w3 ho hb3 hw
      obtain ⟨Ap3, cp3, hv3⟩ := Kd.R_slice ho
      have hlen3 : (xs.take a ++ [(⟨n, ⟨A', q, c'⟩⟩ : TV)]).length = a + 1 := by rw [List.length_append, List.length_take, List.length_singleton]; have := HAQ.out; omega
      rw [hlen3] at hv3
      subst hv3
      have HG3 := Aside0.mk (Hg.next HG2.out HAQ.out HRK.out HG1.out.be.size (fun k hk => by have := Kd.R_lt HG1.out.r k hk; exact this) HB2B.out ho hw.grown hw.at hb3)
      have SA : (fun w' : World => w'.cell? ⟨b5, 0, none⟩ = some (.int .i64 n.f0) ∧ w'.cell? ⟨b5, 1, none⟩ = some (.int .i64 n.f1) ∧ w'.cell? ⟨b5, 2, none⟩ = some (.int .u64 n.f2) ∧ w'.cell? ⟨b5, 3, none⟩ = some (.string n.f3) ∧ w'.cell? ⟨b5, 4, none⟩ = some (.int .i64 n.f4)) w3 := ndCells (keep3 (blk_below HN2.out HB2B.out) hw.grown (fun e => own_typ HG2.out.r HN2.out (by decide) (by rw [own_len Ap xs.length a cp]; exact e.symm)))
      clear ho hb3 hw
      refine hK.out _ _ (SA) (fun hHeld => ?_)
      clear hK K
      refine pure_ (i := 11) (N := some 3) (v := ?_) (a' := ?_) #[true, true, true, true, true, true, true, true, true, true, true, true] rfl rfl (by kernel_rfl) (fun _ _ _ h => h) (Or.inl ⟨by rfl, ?_⟩) ?_ ?_
      rotate_left
      · intro w'
        go_simp
        with_reducible rfl
      rotate_left
      · simp only [Act.put, List.setIfInBounds_toArray, List.set_cons_zero, List.set_cons_succ, i64_w, i32_w]
        rfl
      refine done_ (by kernel_rfl) ?_
      have W1 : Aside0 (wrap64 ((i : Int) + 1) = ((i + 1 : Nat) : Int)) := ⟨by have := HI.out; have := HN.out; unfold wrap64; omega⟩
      have HSG : Aside0 (sg st n = some (st.take a ++ [.mk n (st.drop a)])) := ⟨by
        have h1 : st.length - q = a := by have := HAQ.out; have := HLX.out; omega
        rw [sg, HKD.out.1]; simp only [if_pos HKD.out.2, h1]⟩
      clear W0 hcut hcuto SA SB SC S0 y0 y1 y2 y3 y4
      go_wp2
      rw [W1.out]
      go_roundw
      case measure => have := HI.out; simp only [left, Int.toNat_natCast]; omega
      case rel =>
        refine ⟨i + 1, st.take a ++ [.mk n (st.drop a)], xs.take a ++ [⟨n, ⟨A', q, c'⟩⟩], Ap3, cp3, rfl, by rw [hlen3], ⟨HI.out⟩, ⟨by rw [HBu.out, HDB.out, HSG.out]; rfl⟩, ⟨?_⟩, HG3⟩
        have h1 := P.sg_len HSG.out
        have := HL.out
        omega
    · have c1 : decide ((i : Int) < (ns.length : Int)) = false := decide_eq_false (by omega)
      have c2 : decide (i < ns.length) = false := decide_eq_false ci
      have HST : Aside0 (st = [t]) := ⟨by
        have := HT.out
        rw [HBu.out, List.drop_of_length_le (by omega), build] at this
        injection this⟩
      obtain ⟨x, hx⟩ : ∃ x, xs = [x] := by
        have h := HG.out.tl.len
        rw [HST.out] at h
        match xs, h with
        | [x], _ => exact ⟨x, rfl⟩
      subst hx
      have HTL := HG.out.tl
      rw [HST.out] at HTL
      have HIT := Aside0.mk (HTL.get 0 (by simp) (by simp))
      obtain ⟨ad, rfl, hx0, hx1, hx2, hx3, hx4, hx5⟩ := at_TV (Kd.R_reads' HG.out.r).2.2 0 (by simp) x rfl
      rw [Nat.zero_mul, show ad.add 0 = ad by simp [Addr.add]] at hx0 hx1 hx2 hx3 hx4 hx5
      have HB0' := Aside0.mk (blk_below HX0.out HG.out.be)
      have hz := fun j => blk_frozen HB0'.out j
      have z0 := hz 0
      have z1 := hz 1
      have z2 := hz 2
      have z3 := hz 3
      have z4 := hz 4
      have z5 := hz 5
      have o0 : wr.cell? ⟨b0, 0, none⟩ = some (.int .i64 0) := (blk_cell HB0'.out 0).trans rfl
      have o1 : wr.cell? ⟨b0, 1, none⟩ = some (.int .i64 0) := (blk_cell HB0'.out 1).trans rfl
      have o2 : wr.cell? ⟨b0, 2, none⟩ = some (.int .u64 0) := (blk_cell HB0'.out 2).trans rfl
      have o3 : wr.cell? ⟨b0, 3, none⟩ = some (.string ⟨#[]⟩) := (blk_cell HB0'.out 3).trans rfl
      have o4 : wr.cell? ⟨b0, 4, none⟩ = some (.int .i64 0) := (blk_cell HB0'.out 4).trans rfl
      have o5 : wr.cell? ⟨b0, 5, none⟩ = some (.slice none 0 0) := (blk_cell HB0'.out 5).trans rfl
      clear hz HTL
      go_wp2
      have HAD := Aside0.mk (show Below w.heap.size w wr from below_step HB0.out HG.out.be)
      refine bodyPost_ret (results_c rfl _ _ b0 93 (tvCs x).toArray (0, 0) _ rfl (set6 HB0'.out) Tryd.underlying93 rfl (by kernel_rfl)) rfl ⟨x, rfl, ?_, ?_⟩
      · refine HIT.out.move (fun g cur hok hg => ⟨?_, by have := hok.1; have := HS0.out; have := HE0.out; omega⟩)
        have hne : g ≠ b0 := by have := hok.1; have := HS0.out; omega
        exact kept6 hne
      · exact below6 HAD.out (by rw [HE0.out]; exact Nat.le_refl _)
end Go.Proofs.YtaijoghpfobdbaaDoor.W
end
section
set_option linter.unusedVariables false
set_option linter.unusedSimpArgs false
namespace Go.Proofs.YtaijoghpfobdbaaDoor.P
open Go.RowKit Go.Proofs.YtaijoghpfobdbaaDoor.X Go.Proofs.YtaijoghpfobdbaaDoorW.PrintWords Go.Proofs.YtaijoghpfobdbaaDoorW.PrintLast
def sepL : List (List UInt8) → List UInt8
  | [] => []
  | a :: l => a ++ l.flatMap fun x => [44, 32] ++ x
def two (m : List UInt8) (l : List (List UInt8)) : List UInt8 := [40] ++ (l.getD 0 [] ++ ([32] ++ m ++ [32] ++ (l.getD 1 [] ++ [41])))
def fnc (m : List UInt8) (l : List (List UInt8)) : List UInt8 := m ++ [40] ++ (sepL l ++ [41])
def txN (n : Nd) (l : List (List UInt8)) : List UInt8 :=
  if n.f0 = 1 then Lib.decDigits n.f2.toNat
  else if n.f0 = 2 then L.Quote n.f3.data.toList
  else if n.f0 = 3 then [116, 114, 117, 101]
  else if n.f0 = 4 then [102, 97, 108, 115, 101]
  else if n.f0 = 5 then [45] ++ l.getD 0 []
  else if n.f0 = 6 then two [43] l
  else if n.f0 = 7 then two [45] l
  else if n.f0 = 8 then two [42] l
  else if n.f0 = 9 then fnc [99, 97, 116] l
  else if n.f0 = 10 then fnc [114, 101, 112] l
  else if n.f0 = 11 then fnc [108, 101, 110] l
  else fnc [104, 101, 120] l
mutual
def tx : Tr → List UInt8
  | .mk n ks => txN n (txs ks)
def txs : List Tr → List (List UInt8)
  | [] => []
  | t :: ts => tx t :: txs ts
end
theorem txs_map (l : List Tr) : txs l = l.map tx := by
  induction l with
  | nil => rfl
  | cons t l ih => rw [txs, List.map_cons, ih]
theorem txs_len (l : List Tr) : (txs l).length = l.length := by rw [txs_map, List.length_map]
inductive WF : Tr → Prop
  | mk (n : Nd) (ks : List Tr) (hk : kd n = some ks.length) (hr : 0 ≤ n.f2 ∧ n.f2 < 18446744073709551616) (h : ∀ t, t ∈ ks → WF t) : WF (.mk n ks)
theorem sg_wf {st st' : List Tr} {n : Nd} (h : sg st n = some st') (hr : 0 ≤ n.f2 ∧ n.f2 < 18446744073709551616) (hw : ∀ t, t ∈ st → WF t) : ∀ t, t ∈ st' → WF t := by
  obtain ⟨k, hk, hl, rfl⟩ := sg_some h
  intro t ht
  rcases List.mem_append.1 ht with ht | ht
  · exact hw t (List.mem_of_mem_take ht)
  · rw [List.mem_singleton] at ht
    subst ht
    refine .mk n _ (by rw [hk, List.length_drop]; congr 1; omega) hr (fun t ht => hw t (List.mem_of_mem_drop ht))
theorem build_wf : ∀ {ns : List Nd} {st st' : List Tr}, build ns st = some st' → (∀ n, n ∈ ns → 0 ≤ n.f2 ∧ n.f2 < 18446744073709551616) → (∀ t, t ∈ st → WF t) → ∀ t, t ∈ st' → WF t
  | [], st, st', h, _, hw => by rw [build] at h; injection h with h; subst h; exact hw
  | n :: ns, st, st', h, hr, hw => by
    rw [build] at h
    cases hs : sg st n with
    | none => rw [hs] at h; cases h
    | some s2 => rw [hs] at h; exact build_wf h (fun m hm => hr m (List.mem_cons_of_mem _ hm)) (sg_wf hs (hr n List.mem_cons_self) hw)
theorem kd_op {n : Nd} {k : Nat} (h : kd n = some k) : (k = 0 ∧ (n.f0 = 1 ∨ n.f0 = 2 ∨ n.f0 = 3 ∨ n.f0 = 4)) ∨ (k = 1 ∧ (n.f0 = 5 ∨ n.f0 = 11 ∨ n.f0 = 12)) ∨ (k = 2 ∧ (n.f0 = 6 ∨ n.f0 = 7 ∨ n.f0 = 8 ∨ n.f0 = 10)) ∨ (1 ≤ k ∧ n.f0 = 9 ∧ (k : Int) = n.f1) := by
  rw [kd_kr] at h
  split at h
  · cases h
  · rename_i hb
    injection h with h
    unfold kr at h hb
    by_cases h1 : n.f0 = 1 ∨ n.f0 = 2 ∨ n.f0 = 3 ∨ n.f0 = 4
    · rw [if_pos h1] at h; exact .inl ⟨by omega, h1⟩
    rw [if_neg h1] at h hb
    by_cases h2 : n.f0 = 5 ∨ n.f0 = 11 ∨ n.f0 = 12
    · rw [if_pos h2] at h; exact .inr (.inl ⟨by omega, h2⟩)
    rw [if_neg h2] at h hb
    by_cases h3 : n.f0 = 6 ∨ n.f0 = 7 ∨ n.f0 = 8 ∨ n.f0 = 10
    · rw [if_pos h3] at h; exact .inr (.inr (.inl ⟨by omega, h3⟩))
    rw [if_neg h3] at h hb
    by_cases h4 : n.f0 = 9
    · rw [if_pos h4] at h hb
      by_cases h5 : n.f1 ≥ 1
      · rw [if_pos h5] at h; exact .inr (.inr (.inr ⟨by omega, h4, by omega⟩))
      · rw [if_neg h5] at hb; exact absurd (.inl (by omega)) hb
    · rw [if_neg h4] at hb; exact absurd (.inl (by omega)) hb
theorem sepL_snoc : ∀ (l : List (List UInt8)) (a : List UInt8), sepL (l ++ [a]) = if l = [] then a else sepL l ++ ([44, 32] ++ a)
  | [], a => by simp [sepL]
  | b :: l, a => by simp [sepL, List.flatMap_append]
theorem qs_len (s : List UInt8) : s.length ≤ (L.qs s).length ∧ (L.qs s).length ≤ 4 * s.length := by
  induction s with
  | nil => simp [L.qs]
  | cons b t ih =>
    rw [L.qs, List.length_append, List.length_cons]
    have : 1 ≤ (L.qb b).length ∧ (L.qb b).length ≤ 4 := by
      unfold L.qb
      split
      · simp
      · split
        · simp
        · split
          · simp
          · split <;> simp
    omega
theorem quote_len (s : List UInt8) : s.length + 2 ≤ (L.Quote s).length ∧ (L.Quote s).length ≤ 4 * s.length + 2 := by
  have := qs_len s
  unfold L.Quote
  rw [List.length_cons, List.length_append, List.length_singleton]
  omega
theorem Wrote.cut {a s r : List UInt8} (h : Wrote a (L.Quote (s.take M)) r) : Wrote a (L.Quote s) r := by
  by_cases hs : s.length ≤ M
  · rw [List.take_of_length_le hs] at h; exact h
  · have h1 := (quote_len (s.take M)).1
    have h2 := (quote_len s).1
    rw [List.length_take] at h1
    exact h.long (by omega) (by omega)
end Go.Proofs.YtaijoghpfobdbaaDoor.P
end
section
set_option linter.unusedVariables false
set_option linter.unusedSimpArgs false
namespace Go.Proofs.YtaijoghpfobdbaaDoor.W
open Go.RowKit Go.Proofs.YtaijoghpfobdbaaDoor.X Go.Proofs.YtaijoghpfobdbaaDoorW.PrintWords Go.Proofs.YtaijoghpfobdbaaDoorW.PrintLast Go.Proofs.YtaijoghpfobdbaaDoorW.PrintMore
open Go.Proofs.YtaijoghpfobdbaaDoor.P (Tr Nd Wrote puts put fin kv kd sg build dep dmx pile judgeE tx txs txN sepL WF)
set_option maxHeartbeats 2000000 in
set_option maxRecDepth 100000 in
theorem text_calls {B b : Nat} {bs : List UInt8} (w : World) (hW : Wr w B b bs) :
    Calls Tryd.prog 28 #[.pointer (some ⟨b, 0, none⟩)] w fun e w' => e = .returned (.tuple #[.string (fin bs).1, .int .i64 (fin bs).2]) ∧ Below B w w' := by
  have HW := Aside0.mk hW
  clear hW
  by_cases hM : P.M < bs.length
  · have hd : decide (1048576 < (((Lib.byteCells bs).length : Nat) : Int)) = true := decide_eq_true (by have : P.M = 1048576 := rfl; rw [Lib.byteCells_length]; omega)
    have HF : Aside0 (fin bs = (⟨#[]⟩, 2)) := ⟨if_pos hM⟩
    clear hM
    go_enter Tryd.func28, Tryd.ntmps28
    go_wp2_with (first | (go_at_call 55; refine (Bd.len_calls B b _ _ HW.out.isW).mono ?_; rintro e w1 ⟨rfl, rfl⟩))
    go_ret2
    exact ⟨by rw [HF.out]; rfl, Below.refl _ _⟩
  · have hd : decide (1048576 < (((Lib.byteCells bs).length : Nat) : Int)) = false := decide_eq_false (by have : P.M = 1048576 := rfl; rw [Lib.byteCells_length]; omega)
    have HF : Aside0 (fin bs = (⟨bs.toArray⟩, 0)) := ⟨if_neg hM⟩
    clear hM
    go_enter Tryd.func28, Tryd.ntmps28
    go_wp2_with (first | (go_at_call 55; refine (Bd.len_calls B b _ _ HW.out.isW).mono ?_; rintro e w1 ⟨rfl, rfl⟩) | (go_at_call 58; refine (Bd.string_calls B b bs _ HW.out.isW HW.out.base).mono ?_; rintro e w2 ⟨rfl, hb⟩; have HB := Aside0.mk hb; clear hb))
    go_ret2
    exact ⟨by rw [HF.out]; rfl, HB.out⟩
theorem say_lit {B b : Nat} {bs : List UInt8} (W : World) (ps : List ByteArray) (n : Nat) (hn : n = ps.length) (hW : Wr W B b bs) (hnn : ps.length ≤ 100) (hp : ∀ p ∈ ps, p.size ≤ 8388608) :
    Calls Tryd.prog 26 #[.pointer (some ⟨b, 0, none⟩), .slice (some ⟨W.heap.size, 0, none⟩) n n] (W.alloc (.cells (ps.map Value.string).toArray 9)) fun e w' => e = .returned (.tuple #[]) ∧ ∃ r, Wr w' B b r ∧ Wrote bs (ps.flatMap fun p => p.data.toList) r ∧ Fw B b W w' := by
  refine (say_calls _ W.heap.size n n ps (hW.below (below_alloc (Below.refl _ _) _)) (blk_new _ _) hn (by omega) hp).mono ?_
  rintro e w' ⟨rfl, h1, h2⟩
  exact ⟨rfl, _, h1, Wrote.puts bs ps, (Fw.of_below (below_alloc (Below.refl _ _) _) hW.base).trans h2⟩
theorem Fw.size {B b : Nat} {w w' : World} (h : Fw B b w w') : w.heap.size ≤ w'.heap.size := h.below.size
set_option maxHeartbeats 2000000 in
set_option maxRecDepth 100000 in
theorem quote_calls {B b : Nat} {bs : List UInt8} (w : World) (s : ByteArray) (hW : Wr w B b bs) :
    Calls Tryd.prog 62 #[.pointer (some ⟨b, 0, none⟩), .string s] w fun e w' => e = .returned (.tuple #[]) ∧ ∃ r, Wr w' B b r ∧ Wrote bs (L.Quote s.data.toList) r ∧ Fw B b w w' := by
  obtain ⟨s2, hs2⟩ : ∃ s2 : ByteArray, s2 = T.ba (s.data.toList.take P.M) := ⟨_, rfl⟩
  have hl2 : s2.size ≤ 1048576 := by rw [hs2, T.ba_size, List.length_take]; exact Nat.min_le_left _ _
  have hd2 : s2.data.toList = s.data.toList.take P.M := by rw [hs2, T.ba_list]
  obtain ⟨k, hk⟩ := (T.quote_ev s2 (by omega)).rounds
  have HQ := Aside0.mk (fun w => lex_Quote.calls k s2 (T.ba (L.Quote s2.data.toList)) w hk)
  have hql := (P.quote_len s2.data.toList).2
  rw [data_length] at hql
  have HSZ : Aside0 ((T.ba (L.Quote s2.data.toList)).size ≤ 8388608) := ⟨by rw [T.ba_size]; omega⟩
  have HW := Aside0.mk hW
  have HD2 := Aside0.mk hd2
  obtain ⟨q, hq⟩ : ∃ q, q = T.ba (L.Quote s2.data.toList) := ⟨_, rfl⟩
  rw [← hq] at HQ HSZ
  have HQD : Aside0 (q.data.toList = L.Quote (s.data.toList.take P.M)) := ⟨by rw [hq, T.ba_list, hd2]⟩
  have fin : ∀ (w1 : World) (e : Ending) (w' : World), Fw B b w w1 → (e = .returned (.tuple #[]) ∧ ∃ r, Wr w' B b r ∧ Wrote bs ([q].flatMap fun p => p.data.toList) r ∧ Fw B b w1 w') → e = .returned (.tuple #[]) ∧ ∃ r, Wr w' B b r ∧ Wrote bs (L.Quote s.data.toList) r ∧ Fw B b w w' := by
    rintro w1 e w' h1 ⟨rfl, r, h2, h3, h4⟩
    refine ⟨rfl, r, h2, ?_, h1.trans h4⟩
    rw [List.flatMap_cons, List.flatMap_nil, List.append_nil, HQD.out] at h3
    exact h3.cut
  have HFIN := Aside0.mk fin
  have HSAY : Aside0 (∀ w1, Wr w1 B b bs → Calls Tryd.prog 26 #[.pointer (some ⟨b, 0, none⟩), .slice (some ⟨w1.heap.size, 0, none⟩) 1 1] (w1.alloc (.cells #[.string q] 9)) fun e w' => e = .returned (.tuple #[]) ∧ ∃ r, Wr w' B b r ∧ Wrote bs ([q].flatMap fun p => p.data.toList) r ∧ Fw B b w1 w') := ⟨fun w1 h => say_lit w1 [q] 1 rfl h (by simp) (by intro p hp; rw [List.mem_singleton] at hp; subst hp; exact HSZ.out)⟩
  by_cases hM : s.size > 1048576
  · have c1 : decide (1048576 < (s.size : Int)) = true := decide_eq_true (by omega)
    have c2 : decide (1048576 < s.size) = true := decide_eq_true hM
    have he : s.extract 0 1048576 = s2 := by rw [T.ba_ext, hs2]; rfl
    clear hs2 hl2 hd2 hk hql hW hq fin
    go_enter Tryd.func62, Tryd.ntmps62
    go_wp2_with (first | (go_at_call 22; refine (HQ.out w).mono ?_; rintro e w1 ⟨rfl, hb1⟩; have HB1 := Aside0.mk hb1; clear hb1) | (go_at_call 26; refine (HSAY.out _ (HW.out.below HB1.out)).mono ?_; intro e w2 hh; have HH := Aside0.mk (HFIN.out _ _ _ (Fw.of_below HB1.out HW.out.base) hh); clear hh; obtain ⟨rfl, _⟩ := HH.out))
    go_end0
    exact ⟨rfl, HH.out.2⟩
  · have c1 : decide (1048576 < (s.size : Int)) = false := decide_eq_false (by omega)
    have c2 : decide (1048576 < s.size) = false := decide_eq_false hM
    have he : s = s2 := by
      rw [hs2, List.take_of_length_le (by rw [data_length]; have : P.M = 1048576 := rfl; omega)]; rfl
    subst he
    clear hs2 hl2 hd2 hk hql hW hq fin
    go_enter Tryd.func62, Tryd.ntmps62
    go_wp2_with (first | (go_at_call 22; refine (HQ.out w).mono ?_; rintro e w1 ⟨rfl, hb1⟩; have HB1 := Aside0.mk hb1; clear hb1) | (go_at_call 26; refine (HSAY.out _ (HW.out.below HB1.out)).mono ?_; intro e w2 hh; have HH := Aside0.mk (HFIN.out _ _ _ (Fw.of_below HB1.out HW.out.base) hh); clear hh; obtain ⟨rfl, _⟩ := HH.out))
    go_end0
    exact ⟨rfl, HH.out.2⟩
structure Kids (w : World) (ks : List Tr) (s : Sl) (xs : List TV) : Prop where
  len : s.n = ks.length
  row : (xs = [] ∧ s.n = 0) ∨ ∃ g, s.A = some ⟨g, 0, none⟩ ∧ Kd.R kt 93 w 0 (fun _ => True) (.slice s.A s.n s.c) xs
  tl : TL w (fun _ => True) ks xs
theorem IsT.kids {w : World} {ok : Nat → Prop} {t : Tr} {x : TV} (h : IsT w ok t x) : ∃ n ks xs, t = .mk n ks ∧ x.n = n ∧ Kids w ks x.s xs := by
  cases h with
  | leaf n A c => exact ⟨n, [], [], rfl, rfl, ⟨rfl, .inl ⟨rfl, rfl⟩, TL.nil _ _⟩⟩
  | node n ks g c xs hl hok hr hk => exact ⟨n, ks, xs, rfl, rfl, ⟨hl, .inr ⟨g, rfl, hr⟩, ⟨hl, fun i h1 h2 => (hk i h1 h2).move (fun g cur _ _ => ⟨rfl, trivial⟩)⟩⟩⟩
section
variable {w w' : World} {B b : Nat} {bs : List UInt8}
theorem IsT.fw {t : Tr} {x : TV} (h : IsT w (fun _ => True) t x) (hW : Wr w B b bs) (hf : Fw B b w w') : IsT w' (fun _ => True) t x :=
  h.move fun g cur _ hg => ⟨(hf.blk hW hg (by decide) (by decide)).trans hg.symm, trivial⟩
theorem IsT.beneath {t : Tr} {x : TV} (h : IsT w (fun _ => True) t x) (hb : Below w.heap.size w w') : IsT w' (fun _ => True) t x :=
  h.move fun g cur _ hg => ⟨hb.block g (blk_lt hg), trivial⟩
theorem Kids.fw {ks : List Tr} {s : Sl} {xs : List TV} (h : Kids w ks s xs) (hW : Wr w B b bs) (hf : Fw B b w w') : Kids w' ks s xs := by
  refine ⟨h.len, ?_, h.tl.move fun g cur _ hg => ⟨(hf.blk hW hg (by decide) (by decide)).trans hg.symm, trivial⟩⟩
  rcases h.row with h0 | ⟨g, hA, hr⟩
  · exact .inl h0
  · refine .inr ⟨g, hA, R_flat flat_t hr (fun k hk => ?_) (fun _ _ => Nat.zero_le _)⟩
    rw [hA] at hr hk
    obtain ⟨cur, hg⟩ := R_blk hr
    simp only [Value.ownBlock, Option.some.injEq] at hk
    subst hk
    exact (hf.blk hW hg (by decide) (by decide)).trans hg.symm
theorem Kids.below {ks : List Tr} {s : Sl} {xs : List TV} (h : Kids w ks s xs) (hb : Below w.heap.size w w') : Kids w' ks s xs := by
  refine ⟨h.len, ?_, h.tl.move fun g cur _ hg => ⟨hb.block g (blk_lt hg), trivial⟩⟩
  rcases h.row with h0 | ⟨g, hA, hr⟩
  · exact .inl h0
  · exact .inr ⟨g, hA, Kd.R_below hr hb⟩
end
theorem Kids.at {w : World} {ks : List Tr} {g n c : Nat} {xs : List TV} (h : Kids w ks ⟨some ⟨g, 0, none⟩, n, c⟩ xs) (i : Nat) (hi : i < ks.length) :
    ∃ x, IsT w (fun _ => True) ks[i] x ∧ ∀ (j : Nat) (v : Value), (tvCs x)[j]? = some v → w.cell? ⟨g, i * 6 + j, none⟩ = some v := by
  have hx : i < xs.length := by rw [h.tl.len]; exact hi
  refine ⟨xs[i], h.tl.get i hi hx, fun j v hv => ?_⟩
  rcases h.row with ⟨h0, _⟩ | ⟨g', hA, hr⟩
  · rw [h0] at hx; simp at hx
  · have hC := (Kd.R_reads' hr).2.2
    have hn : n = xs.length := by have h1 : n = ks.length := h.len; have := h.tl.len; omega
    obtain ⟨ad, cs, e, _, hK, hc⟩ := Kd.C_get hC xs[i] (i : Int) (by omega) (by omega)
    rw [Int.toNat_natCast] at hK hc
    rw [List.getD_eq_getElem?_getD, List.getElem?_eq_getElem hx, Option.getD_some] at hK
    obtain rfl := kt_open hK
    have h2 := hc j v hv
    injection e with e
    rw [← e, Lib.add_plain, Nat.zero_add] at h2
    exact h2
theorem Kids.some {w : World} {ks : List Tr} {s : Sl} {xs : List TV} (h : Kids w ks s xs) (h0 : ks ≠ []) : ∃ g c, s = ⟨some ⟨g, 0, none⟩, ks.length, c⟩ := by
  obtain ⟨A, n, c⟩ := s
  rcases h.row with ⟨hx, hn⟩ | ⟨g, hA, _⟩
  · exact absurd (List.length_eq_zero_iff.1 (h.len ▸ hn)) h0
  · have := h.len
    simp only at this hA
    subst this
    subst hA
    exact ⟨g, c, rfl⟩
def ExprOk (B b : Nat) (t : Tr) : Prop := ∀ (w : World) (x : TV) (bs : List UInt8), Wr w B b bs → IsT w (fun _ => True) t x → U.Tab B w →
  Calls Tryd.prog 33 #[.pointer (some ⟨b, 0, none⟩), .agg (tvCs x).toArray] w fun e w' => e = .returned (.tuple #[]) ∧ ∃ r, Wr w' B b r ∧ Wrote bs (tx t) r ∧ Fw B b w w'
theorem one_piece (p : ByteArray) : ([p].flatMap fun p => p.data.toList) = p.data.toList := by simp
set_option maxHeartbeats 4000000 in
set_option maxRecDepth 100000 in
theorem between_calls {B b : Nat} {bs : List UInt8} (w : World) (m : ByteArray) (k0 k1 : Tr) (g c : Nat) (xs : List TV) (hm : m.size ≤ 8388608) (hW : Wr w B b bs) (hK : Kids w [k0, k1] ⟨some ⟨g, 0, none⟩, 2, c⟩ xs) (hT : U.Tab B w) (h0 : ExprOk B b k0) (h1 : ExprOk B b k1) :
    Calls Tryd.prog 63 #[.pointer (some ⟨b, 0, none⟩), .string m, .slice (some ⟨g, 0, none⟩) 2 c] w fun e w' => e = .returned (.tuple #[]) ∧ ∃ r, Wr w' B b r ∧ Wrote bs (P.two m.data.toList [tx k0, tx k1]) r ∧ Fw B b w w' := by
  have HW := Aside0.mk hW
  have HK := Aside0.mk hK
  have HT := Aside0.mk hT
  have H0 := Aside0.mk h0
  have H1 := Aside0.mk h1
  have HM := Aside0.mk hm
  clear hW hK hT h0 h1 hm
  go_enter Tryd.func63, Tryd.ntmps63
  go_wp2_with fail
  refine (say_lit w [⟨#[40]⟩] 1 rfl HW.out (by simp) (by intro p hp; rw [List.mem_singleton] at hp; subst hp; decide)).mono ?_
  rintro e w1 ⟨rfl, r1, hW1, hr1, hf1⟩
  have HW1 := Aside0.mk hW1
  have HR1 := Aside0.mk hr1
  have HF1 := Aside0.mk hf1
  have HK1 := Aside0.mk (HK.out.fw HW.out hf1)
  clear hW1 hr1 hf1
  obtain ⟨x0, hx0, hc0⟩ := HK1.out.at 0 (by simp)
  have HX0 := Aside0.mk hx0
  have q0 : w1.cell? ⟨g, 0, none⟩ = some (.int .i64 x0.n.f0) := hc0 0 _ rfl
  have q1 : w1.cell? ⟨g, 1, none⟩ = some (.int .i64 x0.n.f1) := hc0 1 _ rfl
  have q2 : w1.cell? ⟨g, 2, none⟩ = some (.int .u64 x0.n.f2) := hc0 2 _ rfl
  have q3 : w1.cell? ⟨g, 3, none⟩ = some (.string x0.n.f3) := hc0 3 _ rfl
  have q4 : w1.cell? ⟨g, 4, none⟩ = some (.int .i64 x0.n.f4) := hc0 4 _ rfl
  have q5 : w1.cell? ⟨g, 5, none⟩ = some (.slice x0.s.A x0.s.n x0.s.c) := hc0 5 _ rfl
  clear hx0 hc0
  go_wp2_with fail
  refine (H0.out w1 x0 r1 HW1.out HX0.out (HT.out.step HF1.out.below)).mono ?_
  rintro e w2 ⟨rfl, r2, hW2, hr2, hf2⟩
  have HW2 := Aside0.mk hW2
  have HR2 := Aside0.mk hr2
  have HF2 := Aside0.mk (HF1.out.trans hf2)
  have HK2 := Aside0.mk (HK1.out.fw HW1.out hf2)
  clear hW2 hr2 hf2 q0 q1 q2 q3 q4 q5
  go_wp2_with fail
  refine (say_lit w2 [⟨#[32]⟩, m, ⟨#[32]⟩] 3 rfl HW2.out (by simp) (by intro p hp; simp only [List.mem_cons, List.not_mem_nil, or_false] at hp; rcases hp with rfl | rfl | rfl; decide; exact HM.out; decide)).mono ?_
  rintro e w3 ⟨rfl, r3, hW3, hr3, hf3⟩
  have HW3 := Aside0.mk hW3
  have HR3 := Aside0.mk hr3
  have HF3 := Aside0.mk (HF2.out.trans hf3)
  have HK3 := Aside0.mk (HK2.out.fw HW2.out hf3)
  clear hW3 hr3 hf3
  obtain ⟨x1, hx1, hc1⟩ := HK3.out.at 1 (by simp)
  have HX1 := Aside0.mk hx1
  have q0 : w3.cell? ⟨g, 6, none⟩ = some (.int .i64 x1.n.f0) := hc1 0 _ rfl
  have q1 : w3.cell? ⟨g, 7, none⟩ = some (.int .i64 x1.n.f1) := hc1 1 _ rfl
  have q2 : w3.cell? ⟨g, 8, none⟩ = some (.int .u64 x1.n.f2) := hc1 2 _ rfl
  have q3 : w3.cell? ⟨g, 9, none⟩ = some (.string x1.n.f3) := hc1 3 _ rfl
  have q4 : w3.cell? ⟨g, 10, none⟩ = some (.int .i64 x1.n.f4) := hc1 4 _ rfl
  have q5 : w3.cell? ⟨g, 11, none⟩ = some (.slice x1.s.A x1.s.n x1.s.c) := hc1 5 _ rfl
  clear hx1 hc1
  go_wp2_with fail
  refine (H1.out w3 x1 r3 HW3.out HX1.out (HT.out.step HF3.out.below)).mono ?_
  rintro e w4 ⟨rfl, r4, hW4, hr4, hf4⟩
  have HW4 := Aside0.mk hW4
  have HR4 := Aside0.mk hr4
  have HF4 := Aside0.mk (HF3.out.trans hf4)
  clear hW4 hr4 hf4 q0 q1 q2 q3 q4 q5
  go_wp2_with fail
  refine (say_lit w4 [⟨#[41]⟩] 1 rfl HW4.out (by simp) (by intro p hp; rw [List.mem_singleton] at hp; subst hp; decide)).mono ?_
  rintro e w5 ⟨rfl, r5, hW5, hr5, hf5⟩
  have HW5 := Aside0.mk hW5
  have HR5 := Aside0.mk hr5
  have HF5 := Aside0.mk (HF4.out.trans hf5)
  clear hW5 hr5 hf5
  go_wp2
  go_end0
  refine ⟨rfl, r5, HW5.out, ?_, HF5.out⟩
  have h := (((HR1.out.trans HR2.out).trans HR3.out).trans HR4.out).trans HR5.out
  have e : P.two m.data.toList [tx k0, tx k1] = (((([(⟨#[40]⟩ : ByteArray)].flatMap fun p => p.data.toList) ++ tx k0) ++ ([(⟨#[32]⟩ : ByteArray), m, ⟨#[32]⟩].flatMap fun p => p.data.toList)) ++ tx k1) ++ ([(⟨#[41]⟩ : ByteArray)].flatMap fun p => p.data.toList) := by
    simp [P.two]
  rw [e]; exact h
theorem sep_next (l : List Tr) (j : Nat) (hj : j < l.length) : sepL (txs (l.take (j + 1))) = sepL (txs (l.take j)) ++ ((if 0 < j then [44, 32] else []) ++ tx l[j]) := by
  rw [List.take_succ_eq_append_getElem hj, P.txs_map, List.map_append, List.map_singleton, P.sepL_snoc, ← P.txs_map]
  by_cases h : j = 0
  · subst h; simp [P.txs, sepL]
  · rw [if_neg (fun e => by have := congrArg List.length e; rw [P.txs_len, List.length_take, List.length_nil] at this; omega), if_pos (by omega)]
set_option maxHeartbeats 4000000 in
set_option maxRecDepth 100000 in
theorem call_calls {B b : Nat} {bs : List UInt8} (w : World) (m : ByteArray) (ks : List Tr) (g c : Nat) (xs : List TV) (hm : m.size ≤ 8388608) (hks : ks ≠ []) (hkl : ks.length ≤ 9223372036854775807) (hW : Wr w B b bs) (hK : Kids w ks ⟨some ⟨g, 0, none⟩, ks.length, c⟩ xs) (hT : U.Tab B w) (hE : ∀ t, t ∈ ks → ExprOk B b t) :
    Calls Tryd.prog 64 #[.pointer (some ⟨b, 0, none⟩), .string m, .slice (some ⟨g, 0, none⟩) ks.length c] w fun e w' => e = .returned (.tuple #[]) ∧ ∃ r, Wr w' B b r ∧ Wrote bs (P.fnc m.data.toList (txs ks)) r ∧ Fw B b w w' := by
  have HW := Aside0.mk hW
  have HK := Aside0.mk hK
  have HT := Aside0.mk hT
  have HE := Aside0.mk hE
  have HM := Aside0.mk hm
  have HKL := Aside0.mk hkl
  clear hW hK hT hE hm hks hkl
  go_enter Tryd.func64, Tryd.ntmps64
  go_wp2_with fail
  refine (say_lit w [m, ⟨#[40]⟩] 2 rfl HW.out (by simp) (by intro p hp; simp only [List.mem_cons, List.not_mem_nil, or_false] at hp; rcases hp with rfl | rfl; exact HM.out; decide)).mono ?_
  rintro e w1 ⟨rfl, r1, hW1, hr1, hf1⟩
  have HW1 := Aside0.mk hW1
  have HR1 := Aside0.mk hr1
  have HF1 := Aside0.mk hf1
  have HK1 := Aside0.mk (HK.out.fw HW.out hf1)
  clear hW1 hr1 hf1
  go_wp2_with fail
  go_loopw [14] (fun ti wr => ∃ (j : Nat) (r : List UInt8), ti = .int .i64 (j : Int) ∧ Aside0 (j ≤ ks.length) ∧ Aside0 (Wr wr B b r) ∧ Aside0 (Wrote r1 (sepL (txs (ks.take j))) r) ∧ Aside0 (Fw B b w1 wr)) (fun ti _ => ks.length - left ti)
  case atStart => exact ⟨0, r1, rfl, ⟨Nat.zero_le _⟩, HW1, ⟨Wrote.refl _⟩, ⟨Fw.refl _ _ _⟩⟩
  case round =>
    obtain ⟨j, r, rfl, hj, HWr, HRr, HFr⟩ := hrel
    by_cases cj : j < ks.length
    · have c1 : decide ((j : Int) < (ks.length : Int)) = true := decide_eq_true (by omega)
      have c2 : decide (j < ks.length) = true := decide_eq_true cj
      have HKr := Aside0.mk (HK1.out.fw HW1.out HFr.out)
      obtain ⟨x0, hx0, hc0⟩ := HKr.out.at j cj
      have HX0 := Aside0.mk hx0
      have q0 : wr.cell? ⟨g, j * 6, none⟩ = some (.int .i64 x0.n.f0) := hc0 0 _ rfl
      have q1 : wr.cell? ⟨g, j * 6 + 1, none⟩ = some (.int .i64 x0.n.f1) := hc0 1 _ rfl
      have q2 : wr.cell? ⟨g, j * 6 + 2, none⟩ = some (.int .u64 x0.n.f2) := hc0 2 _ rfl
      have q3 : wr.cell? ⟨g, j * 6 + 3, none⟩ = some (.string x0.n.f3) := hc0 3 _ rfl
      have q4 : wr.cell? ⟨g, j * 6 + 4, none⟩ = some (.int .i64 x0.n.f4) := hc0 4 _ rfl
      have q5 : wr.cell? ⟨g, j * 6 + 5, none⟩ = some (.slice x0.s.A x0.s.n x0.s.c) := hc0 5 _ rfl
      clear hx0 hc0
      have HCJ := Aside0.mk cj
      have W1 : Aside0 (wrap64 ((j : Int) + 1) = ((j + 1 : Nat) : Int)) := ⟨by have := HKL.out; unfold wrap64; omega⟩
      have HSN := Aside0.mk (sep_next ks j cj)
      have HEJ := Aside0.mk (HE.out ks[j] (List.getElem_mem cj))
      obtain ⟨tj, htj⟩ : ∃ tj, tj = ks[j] := ⟨_, rfl⟩
      rw [← htj] at HX0 HSN HEJ
      clear htj
      obtain ⟨wA, hwA⟩ : ∃ wA, wA = wr.alloc (.cells #[.int .i64 x0.n.f0, .int .i64 x0.n.f1, .int .u64 x0.n.f2, .string x0.n.f3, .int .i64 x0.n.f4, .slice x0.s.A x0.s.n x0.s.c] 93) := ⟨_, rfl⟩
      have hbA : Below wr.heap.size wr wA := by rw [hwA]; exact below_alloc (Below.refl _ _) _
      have hszA : wA.heap.size = wr.heap.size + 1 := by rw [hwA]; simp
      have HWA := Aside0.mk (HWr.out.below hbA)
      have HXA := Aside0.mk (HX0.out.beneath hbA)
      have HFA := Aside0.mk (HFr.out.trans (Fw.of_below hbA HWr.out.base))
      have HAN : Aside0 (wA.heap[wr.heap.size]? = some (.cells #[.int .i64 x0.n.f0, .int .i64 x0.n.f1, .int .u64 x0.n.f2, .string x0.n.f3, .int .i64 x0.n.f4, .slice x0.s.A x0.s.n x0.s.c] 93 (0, 0))) := ⟨by rw [hwA]; exact blk_new _ _⟩
      have HWE := Aside0.mk hwA
      have HSZ := Aside0.mk hszA
      clear hwA hbA hszA
      by_cases cz : 0 < j
      · have z1 : decide (0 < (j : Int)) = true := decide_eq_true (by omega)
        have z2 : decide (0 < j) = true := decide_eq_true cz
        have HCZ := Aside0.mk cz
        clear cz
        go_wp2_with fail
        rw [← HWE.out, ← HSZ.out]
        refine (say_lit wA [⟨#[44, 32]⟩] 1 rfl HWA.out (by simp) (by intro p hp; rw [List.mem_singleton] at hp; subst hp; decide)).mono ?_
        rintro e w2 ⟨rfl, r2, hW2, hr2, hf2⟩
        have HW2 := Aside0.mk hW2
        have HR2 := Aside0.mk hr2
        have HF2 := Aside0.mk (HFA.out.trans hf2)
        have HX2 := Aside0.mk (HXA.out.fw HWA.out hf2)
        have hbx := hf2.blk HWA.out HAN.out (by decide) (by decide)
        have y0 := (blk_cell hbx 0).trans rfl
        have y1 := (blk_cell hbx 1).trans rfl
        have y2 := (blk_cell hbx 2).trans rfl
        have y3 := (blk_cell hbx 3).trans rfl
        have y4 := (blk_cell hbx 4).trans rfl
        have y5 := (blk_cell hbx 5).trans rfl
        clear hW2 hr2 hf2 hbx q0 q1 q2 q3 q4 q5
        go_wp2_with fail
        refine (HEJ.out w2 x0 r2 HW2.out HX2.out (HT.out.step (HF1.out.trans HF2.out).below)).mono ?_
        rintro e w3 ⟨rfl, r3, hW3, hr3, hf3⟩
        have HW3 := Aside0.mk hW3
        have HR3 := Aside0.mk hr3
        have HF3 := Aside0.mk (HF2.out.trans hf3)
        clear hW3 hr3 hf3 y0 y1 y2 y3 y4 y5
        go_wp2
        rw [W1.out]
        go_roundw
        case measure => have := HCJ.out; simp only [left, Int.toNat_natCast]; omega
        case rel =>
          refine ⟨j + 1, r3, rfl, ⟨HCJ.out⟩, HW3, ⟨?_⟩, HF3⟩
          have h := (HRr.out.trans HR2.out).trans HR3.out
          rw [one_piece, List.append_assoc] at h
          rw [HSN.out, if_pos HCZ.out]; exact h
      · have z1 : decide (0 < (j : Int)) = false := decide_eq_false (by omega)
        have z2 : decide (0 < j) = false := decide_eq_false cz
        have HCZ := Aside0.mk cz
        clear cz
        go_wp2_with fail
        rw [← HWE.out]
        refine (HEJ.out wA x0 r HWA.out HXA.out (HT.out.step (HF1.out.trans HFA.out).below)).mono ?_
        rintro e w3 ⟨rfl, r3, hW3, hr3, hf3⟩
        have HW3 := Aside0.mk hW3
        have HR3 := Aside0.mk hr3
        have HF3 := Aside0.mk (HFA.out.trans hf3)
        clear hW3 hr3 hf3
        go_wp2
        rw [W1.out]
        go_roundw
        case measure => have := HCJ.out; simp only [left, Int.toNat_natCast]; omega
        case rel =>
          refine ⟨j + 1, r3, rfl, ⟨HCJ.out⟩, HW3, ⟨?_⟩, HF3⟩
          have h := HRr.out.trans HR3.out
          rw [HSN.out, if_neg HCZ.out, List.nil_append]; exact h
    · have c1 : decide ((j : Int) < (ks.length : Int)) = false := decide_eq_false (by omega)
      have c2 : decide (j < ks.length) = false := decide_eq_false cj
      have HJ : Aside0 (ks.take j = ks) := ⟨List.take_of_length_le (by omega)⟩
      go_wp2_with fail
      refine (say_lit wr [⟨#[41]⟩] 1 rfl HWr.out (by simp) (by intro p hp; rw [List.mem_singleton] at hp; subst hp; decide)).mono ?_
      rintro e w5 ⟨rfl, r5, hW5, hr5, hf5⟩
      have HW5 := Aside0.mk hW5
      have HR5 := Aside0.mk hr5
      have HF5 := Aside0.mk ((HF1.out.trans HFr.out).trans hf5)
      clear hW5 hr5 hf5
      go_wp2
      go_end0
      refine ⟨rfl, r5, HW5.out, ?_, HF5.out⟩
      have h := (HR1.out.trans HRr.out).trans HR5.out
      rw [HJ.out] at h
      have e : P.fnc m.data.toList (txs ks) = (([m, (⟨#[40]⟩ : ByteArray)].flatMap fun p => p.data.toList) ++ sepL (txs ks)) ++ ([(⟨#[41]⟩ : ByteArray)].flatMap fun p => p.data.toList) := by
        simp [P.fnc]
      rw [e]; exact h
end Go.Proofs.YtaijoghpfobdbaaDoor.W
end
section
set_option linter.unusedVariables false
set_option linter.unusedSimpArgs false
namespace Go.Proofs.YtaijoghpfobdbaaDoor.W
open Go.RowKit Go.Proofs.YtaijoghpfobdbaaDoor.X Go.Proofs.YtaijoghpfobdbaaDoorW.PrintWords Go.Proofs.YtaijoghpfobdbaaDoorW.PrintLast Go.Proofs.YtaijoghpfobdbaaDoorW.PrintMore
open Go.Proofs.YtaijoghpfobdbaaDoor.P (Tr Nd Wrote puts put fin kv kd sg build dep dmx pile judgeE tx txs txN sepL WF)
theorem Kids.max {w : World} {ks : List Tr} {s : Sl} {xs : List TV} (h : Kids w ks s xs) : ks.length ≤ 9223372036854775807 := by
  rcases h.row with ⟨h0, h1⟩ | ⟨g, hA, hr⟩
  · have := h.len; omega
  · have h1 := (Kd.R_reads' hr).2.2.2.1
    have := h.tl.len
    omega
theorem IsT.inv {w : World} {ok : Nat → Prop} {n : Nd} {ks : List Tr} {x : TV} (h : IsT w ok (.mk n ks) x) : ∃ xs, x.n = n ∧ Kids w ks x.s xs := by
  obtain ⟨n', ks', xs, e, hx, hk⟩ := h.kids
  injection e with e1 e2
  subst e1 e2
  exact ⟨xs, hx, hk⟩
set_option maxHeartbeats 4000000 in
set_option maxRecDepth 100000 in
theorem e0_ok {B b : Nat} {bs : List UInt8} (w : World) (f0 f1 f2 : Int) (f3 : ByteArray) (f4 : Int) (s : Sl) (x : List UInt8) (hW : Wr w B b bs) (hM : ¬ bs.length ≤ P.M) :
    Calls Tryd.prog 33 #[.pointer (some ⟨b, 0, none⟩), .agg #[.int .i64 f0, .int .i64 f1, .int .u64 f2, .string f3, .int .i64 f4, .slice s.A s.n s.c]] w fun e w' => e = .returned (.tuple #[]) ∧ ∃ r, Wr w' B b r ∧ Wrote bs x r ∧ Fw B b w w' := by
  have hd : decide (1048576 < (((Lib.byteCells bs).length : Nat) : Int)) = true := decide_eq_true (by have : P.M = 1048576 := rfl; rw [Lib.byteCells_length]; omega)
  obtain ⟨wA, hwA⟩ : ∃ wA, wA = w.alloc (.cells #[.int .i64 f0, .int .i64 f1, .int .u64 f2, .string f3, .int .i64 f4, .slice s.A s.n s.c] 93) := ⟨_, rfl⟩
  have hbA : Below w.heap.size w wA := by rw [hwA]; exact below_alloc (Below.refl _ _) _
  have HWA := Aside0.mk (hW.below hbA)
  have HFA := Aside0.mk (Fw.of_below (b := b) hbA hW.base)
  have HE := Aside0.mk hwA
  have HOV : Aside0 (Wrote bs x bs) := ⟨Wrote.over (by omega) (by omega)⟩
  clear hM hW hwA hbA
  go_enter Tryd.func33, Tryd.ntmps33
  go_wp2_with fail
  rw [← HE.out]
  refine (Bd.len_calls B b _ wA HWA.out.isW).mono ?_
  rintro e w1 ⟨rfl, hw1⟩
  subst hw1
  go_wp2
  refine bodyPost_ret (results_none rfl _ _ _) rfl ?_
  exact ⟨rfl, bs, HWA.out, HOV.out, HFA.out⟩
set_option maxHeartbeats 4000000 in
set_option maxRecDepth 100000 in
theorem e3_ok {B b : Nat} {bs : List UInt8} (w : World) (f1 f2 : Int) (f3 : ByteArray) (f4 : Int) (s : Sl) (ks : List Tr) (xs : List TV) (hW : Wr w B b bs) (hM : bs.length ≤ P.M) (hK : Kids w ks s xs) (hT : U.Tab B w) :
    Calls Tryd.prog 33 #[.pointer (some ⟨b, 0, none⟩), .agg #[.int .i64 3, .int .i64 f1, .int .u64 f2, .string f3, .int .i64 f4, .slice s.A s.n s.c]] w fun e w' => e = .returned (.tuple #[]) ∧ ∃ r, Wr w' B b r ∧ Wrote bs (txN ⟨3, f1, f2, f3, f4⟩ (txs ks)) r ∧ Fw B b w w' := by
  have hd : decide (1048576 < (((Lib.byteCells bs).length : Nat) : Int)) = false := decide_eq_false (by have : P.M = 1048576 := rfl; rw [Lib.byteCells_length]; omega)
  obtain ⟨wA, hwA⟩ : ∃ wA, wA = w.alloc (.cells #[.int .i64 3, .int .i64 f1, .int .u64 f2, .string f3, .int .i64 f4, .slice s.A s.n s.c] 93) := ⟨_, rfl⟩
  have hbA : Below w.heap.size w wA := by rw [hwA]; exact below_alloc (Below.refl _ _) _
  have HWA := Aside0.mk (hW.below hbA)
  have HTA := Aside0.mk (hT.step (Fw.of_below (b := b) hbA hW.base).below)
  have HKA := Aside0.mk (hK.below hbA)
  have HFA := Aside0.mk (Fw.of_below (b := b) hbA hW.base)
  have HE := Aside0.mk hwA
  have HSZ : Aside0 (wA.heap.size = w.heap.size + 1) := ⟨by rw [hwA]; simp⟩
  clear hM hW hK hT hwA hbA
  go_enter Tryd.func33, Tryd.ntmps33
  go_wp2_with fail
  rw [← HE.out]
  refine (Bd.len_calls B b _ wA HWA.out.isW).mono ?_
  rintro e w1 ⟨rfl, hw1⟩
  subst hw1
  rw [HE.out]
  go_wp2_with fail
  rw [← HE.out, ← HSZ.out]
  refine (say_lit w1 [⟨#[116, 114, 117, 101]⟩] 1 rfl HWA.out (by simp) (by intro p hp; rw [List.mem_singleton] at hp; subst hp; decide)).mono ?_
  rintro e w2 ⟨rfl, r2, hW2, hr2, hf2⟩
  have HW2 := Aside0.mk hW2
  have HR2 := Aside0.mk hr2
  have HF2 := Aside0.mk hf2
  clear hW2 hr2 hf2
  go_wp2
  go_end0
  exact ⟨rfl, r2, HW2.out, by rw [one_piece] at HR2; exact HR2.out, HFA.out.trans HF2.out⟩
set_option maxHeartbeats 4000000 in
set_option maxRecDepth 100000 in
theorem e4_ok {B b : Nat} {bs : List UInt8} (w : World) (f1 f2 : Int) (f3 : ByteArray) (f4 : Int) (s : Sl) (ks : List Tr) (xs : List TV) (hW : Wr w B b bs) (hM : bs.length ≤ P.M) (hK : Kids w ks s xs) (hT : U.Tab B w) :
    Calls Tryd.prog 33 #[.pointer (some ⟨b, 0, none⟩), .agg #[.int .i64 4, .int .i64 f1, .int .u64 f2, .string f3, .int .i64 f4, .slice s.A s.n s.c]] w fun e w' => e = .returned (.tuple #[]) ∧ ∃ r, Wr w' B b r ∧ Wrote bs (txN ⟨4, f1, f2, f3, f4⟩ (txs ks)) r ∧ Fw B b w w' := by
  have hd : decide (1048576 < (((Lib.byteCells bs).length : Nat) : Int)) = false := decide_eq_false (by have : P.M = 1048576 := rfl; rw [Lib.byteCells_length]; omega)
  obtain ⟨wA, hwA⟩ : ∃ wA, wA = w.alloc (.cells #[.int .i64 4, .int .i64 f1, .int .u64 f2, .string f3, .int .i64 f4, .slice s.A s.n s.c] 93) := ⟨_, rfl⟩
  have hbA : Below w.heap.size w wA := by rw [hwA]; exact below_alloc (Below.refl _ _) _
  have HWA := Aside0.mk (hW.below hbA)
  have HTA := Aside0.mk (hT.step (Fw.of_below (b := b) hbA hW.base).below)
  have HKA := Aside0.mk (hK.below hbA)
  have HFA := Aside0.mk (Fw.of_below (b := b) hbA hW.base)
  have HE := Aside0.mk hwA
  have HSZ : Aside0 (wA.heap.size = w.heap.size + 1) := ⟨by rw [hwA]; simp⟩
  clear hM hW hK hT hwA hbA
  go_enter Tryd.func33, Tryd.ntmps33
  go_wp2_with fail
  rw [← HE.out]
  refine (Bd.len_calls B b _ wA HWA.out.isW).mono ?_
  rintro e w1 ⟨rfl, hw1⟩
  subst hw1
  rw [HE.out]
  go_wp2_with fail
  rw [← HE.out, ← HSZ.out]
  refine (say_lit w1 [⟨#[102, 97, 108, 115, 101]⟩] 1 rfl HWA.out (by simp) (by intro p hp; rw [List.mem_singleton] at hp; subst hp; decide)).mono ?_
  rintro e w2 ⟨rfl, r2, hW2, hr2, hf2⟩
  have HW2 := Aside0.mk hW2
  have HR2 := Aside0.mk hr2
  have HF2 := Aside0.mk hf2
  clear hW2 hr2 hf2
  go_wp2
  go_end0
  exact ⟨rfl, r2, HW2.out, by rw [one_piece] at HR2; exact HR2.out, HFA.out.trans HF2.out⟩
set_option maxHeartbeats 4000000 in
set_option maxRecDepth 100000 in
theorem e2_ok {B b : Nat} {bs : List UInt8} (w : World) (f1 f2 : Int) (f3 : ByteArray) (f4 : Int) (s : Sl) (ks : List Tr) (xs : List TV) (hW : Wr w B b bs) (hM : bs.length ≤ P.M) (hK : Kids w ks s xs) (hT : U.Tab B w) :
    Calls Tryd.prog 33 #[.pointer (some ⟨b, 0, none⟩), .agg #[.int .i64 2, .int .i64 f1, .int .u64 f2, .string f3, .int .i64 f4, .slice s.A s.n s.c]] w fun e w' => e = .returned (.tuple #[]) ∧ ∃ r, Wr w' B b r ∧ Wrote bs (txN ⟨2, f1, f2, f3, f4⟩ (txs ks)) r ∧ Fw B b w w' := by
  have hd : decide (1048576 < (((Lib.byteCells bs).length : Nat) : Int)) = false := decide_eq_false (by have : P.M = 1048576 := rfl; rw [Lib.byteCells_length]; omega)
  obtain ⟨wA, hwA⟩ : ∃ wA, wA = w.alloc (.cells #[.int .i64 2, .int .i64 f1, .int .u64 f2, .string f3, .int .i64 f4, .slice s.A s.n s.c] 93) := ⟨_, rfl⟩
  have hbA : Below w.heap.size w wA := by rw [hwA]; exact below_alloc (Below.refl _ _) _
  have HWA := Aside0.mk (hW.below hbA)
  have HTA := Aside0.mk (hT.step (Fw.of_below (b := b) hbA hW.base).below)
  have HKA := Aside0.mk (hK.below hbA)
  have HFA := Aside0.mk (Fw.of_below (b := b) hbA hW.base)
  have HE := Aside0.mk hwA
  have HSZ : Aside0 (wA.heap.size = w.heap.size + 1) := ⟨by rw [hwA]; simp⟩
  clear hM hW hK hT hwA hbA
  go_enter Tryd.func33, Tryd.ntmps33
  go_wp2_with fail
  rw [← HE.out]
  refine (Bd.len_calls B b _ wA HWA.out.isW).mono ?_
  rintro e w1 ⟨rfl, hw1⟩
  subst hw1
  rw [HE.out]
  go_wp2_with fail
  rw [← HE.out]
  refine (quote_calls w1 f3 HWA.out).mono ?_
  rintro e w2 ⟨rfl, r2, hW2, hr2, hf2⟩
  have HW2 := Aside0.mk hW2
  have HR2 := Aside0.mk hr2
  have HF2 := Aside0.mk hf2
  clear hW2 hr2 hf2
  go_wp2
  go_end0
  exact ⟨rfl, r2, HW2.out, HR2.out, HFA.out.trans HF2.out⟩
set_option maxHeartbeats 4000000 in
set_option maxRecDepth 100000 in
theorem e1_ok {B b : Nat} {bs : List UInt8} (w : World) (f1 f2 : Int) (f3 : ByteArray) (f4 : Int) (s : Sl) (ks : List Tr) (xs : List TV) (hW : Wr w B b bs) (hM : bs.length ≤ P.M) (hK : Kids w ks s xs) (hT : U.Tab B w) (hr : 0 ≤ f2 ∧ f2 < 18446744073709551616) :
    Calls Tryd.prog 33 #[.pointer (some ⟨b, 0, none⟩), .agg #[.int .i64 1, .int .i64 f1, .int .u64 f2, .string f3, .int .i64 f4, .slice s.A s.n s.c]] w fun e w' => e = .returned (.tuple #[]) ∧ ∃ r, Wr w' B b r ∧ Wrote bs (txN ⟨1, f1, f2, f3, f4⟩ (txs ks)) r ∧ Fw B b w w' := by
  have hd : decide (1048576 < (((Lib.byteCells bs).length : Nat) : Int)) = false := decide_eq_false (by have : P.M = 1048576 := rfl; rw [Lib.byteCells_length]; omega)
  obtain ⟨wA, hwA⟩ : ∃ wA, wA = w.alloc (.cells #[.int .i64 1, .int .i64 f1, .int .u64 f2, .string f3, .int .i64 f4, .slice s.A s.n s.c] 93) := ⟨_, rfl⟩
  have hbA : Below w.heap.size w wA := by rw [hwA]; exact below_alloc (Below.refl _ _) _
  have HWA := Aside0.mk (hW.below hbA)
  have HTA := Aside0.mk (hT.step (Fw.of_below (b := b) hbA hW.base).below)
  have HKA := Aside0.mk (hK.below hbA)
  have HFA := Aside0.mk (Fw.of_below (b := b) hbA hW.base)
  have HE := Aside0.mk hwA
  have HSZ : Aside0 (wA.heap.size = w.heap.size + 1) := ⟨by rw [hwA]; simp⟩
  obtain ⟨u, rfl⟩ : ∃ u : Nat, f2 = (u : Int) := ⟨f2.toNat, by omega⟩
  have HU := Aside0.mk (show u < 18446744073709551616 by omega)
  clear hr
  clear hM hW hK hT hwA hbA
  go_enter Tryd.func33, Tryd.ntmps33
  go_wp2_with fail
  rw [← HE.out]
  refine (Bd.len_calls B b _ wA HWA.out.isW).mono ?_
  rintro e w1 ⟨rfl, hw1⟩
  subst hw1
  rw [HE.out]
  go_wp2_with fail
  rw [← HE.out]
  refine (U.format_calls u HU.out HWA.out.base HTA.out).mono ?_
  rintro e w2 ⟨rfl, hb2⟩
  have HB2 := Aside0.mk hb2
  have HWB := Aside0.mk (HWA.out.below hb2)
  clear hb2
  go_wp2_with fail
  have hdl : (U.dec u).size ≤ 8388608 := by
    show (Lib.decDigits u).toArray.size ≤ 8388608
    rw [List.size_toArray, Lib.decDigits_length]
    by_cases hu : 1 ≤ u
    · have := Lib.numDigits_eq u hu HU.out; split at this <;> omega
    · obtain rfl : u = 0 := by omega
      rw [Lib.nDigits_small (by omega)]; omega
  have HDL := Aside0.mk hdl
  clear hdl
  refine (say_lit w2 [U.dec u] 1 rfl HWB.out (by simp) (by intro p hp; rw [List.mem_singleton] at hp; subst hp; exact HDL.out)).mono ?_
  rintro e w3 ⟨rfl, r2, hW2, hr2, hf2⟩
  have HW2 := Aside0.mk hW2
  have HR2 := Aside0.mk hr2
  have HF2 := Aside0.mk ((Fw.of_below HB2.out HWA.out.base).trans hf2)
  clear hW2 hr2 hf2
  go_wp2
  go_end0
  exact ⟨rfl, r2, HW2.out, by rw [one_piece] at HR2; exact HR2.out, HFA.out.trans HF2.out⟩
set_option maxHeartbeats 4000000 in
set_option maxRecDepth 100000 in
theorem e5_ok {B b : Nat} {bs : List UInt8} (w : World) (f1 f2 : Int) (f3 : ByteArray) (f4 : Int) (s : Sl) (ks : List Tr) (xs : List TV) (hW : Wr w B b bs) (hM : bs.length ≤ P.M) (hK : Kids w ks s xs) (hT : U.Tab B w) (k0 : Tr) (hks : ks = [k0]) (h0 : ExprOk B b k0) :
    Calls Tryd.prog 33 #[.pointer (some ⟨b, 0, none⟩), .agg #[.int .i64 5, .int .i64 f1, .int .u64 f2, .string f3, .int .i64 f4, .slice s.A s.n s.c]] w fun e w' => e = .returned (.tuple #[]) ∧ ∃ r, Wr w' B b r ∧ Wrote bs (txN ⟨5, f1, f2, f3, f4⟩ (txs ks)) r ∧ Fw B b w w' := by
  subst hks
  obtain ⟨g, c, hs⟩ := hK.some (by simp)
  subst hs
  have H0 := Aside0.mk h0
  clear h0
  have hd : decide (1048576 < (((Lib.byteCells bs).length : Nat) : Int)) = false := decide_eq_false (by have : P.M = 1048576 := rfl; rw [Lib.byteCells_length]; omega)
  obtain ⟨wA, hwA⟩ : ∃ wA, wA = w.alloc (.cells #[.int .i64 5, .int .i64 f1, .int .u64 f2, .string f3, .int .i64 f4, .slice (some ⟨g, 0, none⟩) 1 c] 93) := ⟨_, rfl⟩
  have hbA : Below w.heap.size w wA := by rw [hwA]; exact below_alloc (Below.refl _ _) _
  have HWA := Aside0.mk (hW.below hbA)
  have HTA := Aside0.mk (hT.step (Fw.of_below (b := b) hbA hW.base).below)
  have HKA := Aside0.mk (hK.below hbA)
  have HFA := Aside0.mk (Fw.of_below (b := b) hbA hW.base)
  have HE := Aside0.mk hwA
  have HSZ : Aside0 (wA.heap.size = w.heap.size + 1) := ⟨by rw [hwA]; simp⟩
  clear hM hW hK hT hwA hbA
  go_enter Tryd.func33, Tryd.ntmps33
  go_wp2_with fail
  rw [← HE.out]
  refine (Bd.len_calls B b _ wA HWA.out.isW).mono ?_
  rintro e w1 ⟨rfl, hw1⟩
  subst hw1
  rw [HE.out]
  go_wp2_with fail
  rw [← HE.out, ← HSZ.out]
  refine (say_lit w1 [⟨#[45]⟩] 1 rfl HWA.out (by simp) (by intro p hp; rw [List.mem_singleton] at hp; subst hp; decide)).mono ?_
  rintro e w2 ⟨rfl, r2, hW2, hr2, hf2⟩
  have HW2 := Aside0.mk hW2
  have HR2 := Aside0.mk hr2
  have HF2 := Aside0.mk hf2
  clear hW2 hr2 hf2
  have HK2 := Aside0.mk (HKA.out.fw HWA.out HF2.out)
  obtain ⟨x0, hx0, hc0⟩ := HK2.out.at 0 (by simp)
  have HX0 := Aside0.mk hx0
  have q0 : w2.cell? ⟨g, 0, none⟩ = some (.int .i64 x0.n.f0) := hc0 0 _ rfl
  have q1 : w2.cell? ⟨g, 1, none⟩ = some (.int .i64 x0.n.f1) := hc0 1 _ rfl
  have q2 : w2.cell? ⟨g, 2, none⟩ = some (.int .u64 x0.n.f2) := hc0 2 _ rfl
  have q3 : w2.cell? ⟨g, 3, none⟩ = some (.string x0.n.f3) := hc0 3 _ rfl
  have q4 : w2.cell? ⟨g, 4, none⟩ = some (.int .i64 x0.n.f4) := hc0 4 _ rfl
  have q5 : w2.cell? ⟨g, 5, none⟩ = some (.slice x0.s.A x0.s.n x0.s.c) := hc0 5 _ rfl
  have hbx := HF2.out.blk HWA.out (show w1.heap[w.heap.size]? = some (.cells #[.int .i64 5, .int .i64 f1, .int .u64 f2, .string f3, .int .i64 f4, .slice (some ⟨g, 0, none⟩) 1 c] 93 (0, 0)) from by rw [HE.out]; exact blk_new _ _) (by decide) (by decide)
  have y5 := (blk_cell hbx 5).trans rfl
  clear hx0 hc0 hbx
  go_wp2_with fail
  refine (H0.out w2 x0 r2 HW2.out HX0.out (HTA.out.step HF2.out.below)).mono ?_
  rintro e w3 ⟨rfl, r3, hW3, hr3, hf3⟩
  have HW3 := Aside0.mk hW3
  have HR3 := Aside0.mk hr3
  have HF3 := Aside0.mk (HF2.out.trans hf3)
  clear hW3 hr3 hf3
  go_wp2
  go_end0
  refine ⟨rfl, r3, HW3.out, ?_, HFA.out.trans HF3.out⟩
  have h := HR2.out.trans HR3.out
  rw [one_piece] at h
  exact h
set_option maxHeartbeats 4000000 in
set_option maxRecDepth 100000 in
theorem e6_ok {B b : Nat} {bs : List UInt8} (w : World) (f1 f2 : Int) (f3 : ByteArray) (f4 : Int) (s : Sl) (ks : List Tr) (xs : List TV) (hW : Wr w B b bs) (hM : bs.length ≤ P.M) (hK : Kids w ks s xs) (hT : U.Tab B w) (k0 k1 : Tr) (hks : ks = [k0, k1]) (h0 : ExprOk B b k0) (h1 : ExprOk B b k1) :
    Calls Tryd.prog 33 #[.pointer (some ⟨b, 0, none⟩), .agg #[.int .i64 6, .int .i64 f1, .int .u64 f2, .string f3, .int .i64 f4, .slice s.A s.n s.c]] w fun e w' => e = .returned (.tuple #[]) ∧ ∃ r, Wr w' B b r ∧ Wrote bs (txN ⟨6, f1, f2, f3, f4⟩ (txs ks)) r ∧ Fw B b w w' := by
  subst hks
  obtain ⟨g, c, hs⟩ := hK.some (by simp)
  subst hs
  have H0 := Aside0.mk h0
  have H1 := Aside0.mk h1
  clear h0 h1
  have hd : decide (1048576 < (((Lib.byteCells bs).length : Nat) : Int)) = false := decide_eq_false (by have : P.M = 1048576 := rfl; rw [Lib.byteCells_length]; omega)
  obtain ⟨wA, hwA⟩ : ∃ wA, wA = w.alloc (.cells #[.int .i64 6, .int .i64 f1, .int .u64 f2, .string f3, .int .i64 f4, .slice (some ⟨g, 0, none⟩) 2 c] 93) := ⟨_, rfl⟩
  have hbA : Below w.heap.size w wA := by rw [hwA]; exact below_alloc (Below.refl _ _) _
  have HWA := Aside0.mk (hW.below hbA)
  have HTA := Aside0.mk (hT.step (Fw.of_below (b := b) hbA hW.base).below)
  have HKA := Aside0.mk (hK.below hbA)
  have HFA := Aside0.mk (Fw.of_below (b := b) hbA hW.base)
  have HE := Aside0.mk hwA
  have HSZ : Aside0 (wA.heap.size = w.heap.size + 1) := ⟨by rw [hwA]; simp⟩
  clear hM hW hK hT hwA hbA
  go_enter Tryd.func33, Tryd.ntmps33
  go_wp2_with fail
  rw [← HE.out]
  refine (Bd.len_calls B b _ wA HWA.out.isW).mono ?_
  rintro e w1 ⟨rfl, hw1⟩
  subst hw1
  rw [HE.out]
  go_wp2_with fail
  rw [← HE.out]
  refine (between_calls w1 ⟨#[43]⟩ k0 k1 g c xs (by decide) HWA.out HKA.out HTA.out H0.out H1.out).mono ?_
  rintro e w2 ⟨rfl, r2, hW2, hr2, hf2⟩
  have HW2 := Aside0.mk hW2
  have HR2 := Aside0.mk hr2
  have HF2 := Aside0.mk hf2
  clear hW2 hr2 hf2
  go_wp2
  go_end0
  exact ⟨rfl, r2, HW2.out, HR2.out, HFA.out.trans HF2.out⟩
set_option maxHeartbeats 4000000 in
set_option maxRecDepth 100000 in
theorem e7_ok {B b : Nat} {bs : List UInt8} (w : World) (f1 f2 : Int) (f3 : ByteArray) (f4 : Int) (s : Sl) (ks : List Tr) (xs : List TV) (hW : Wr w B b bs) (hM : bs.length ≤ P.M) (hK : Kids w ks s xs) (hT : U.Tab B w) (k0 k1 : Tr) (hks : ks = [k0, k1]) (h0 : ExprOk B b k0) (h1 : ExprOk B b k1) :
    Calls Tryd.prog 33 #[.pointer (some ⟨b, 0, none⟩), .agg #[.int .i64 7, .int .i64 f1, .int .u64 f2, .string f3, .int .i64 f4, .slice s.A s.n s.c]] w fun e w' => e = .returned (.tuple #[]) ∧ ∃ r, Wr w' B b r ∧ Wrote bs (txN ⟨7, f1, f2, f3, f4⟩ (txs ks)) r ∧ Fw B b w w' := by
  subst hks
  obtain ⟨g, c, hs⟩ := hK.some (by simp)
  subst hs
  have H0 := Aside0.mk h0
  have H1 := Aside0.mk h1
  clear h0 h1
  have hd : decide (1048576 < (((Lib.byteCells bs).length : Nat) : Int)) = false := decide_eq_false (by have : P.M = 1048576 := rfl; rw [Lib.byteCells_length]; omega)
  obtain ⟨wA, hwA⟩ : ∃ wA, wA = w.alloc (.cells #[.int .i64 7, .int .i64 f1, .int .u64 f2, .string f3, .int .i64 f4, .slice (some ⟨g, 0, none⟩) 2 c] 93) := ⟨_, rfl⟩
  have hbA : Below w.heap.size w wA := by rw [hwA]; exact below_alloc (Below.refl _ _) _
  have HWA := Aside0.mk (hW.below hbA)
  have HTA := Aside0.mk (hT.step (Fw.of_below (b := b) hbA hW.base).below)
  have HKA := Aside0.mk (hK.below hbA)
  have HFA := Aside0.mk (Fw.of_below (b := b) hbA hW.base)
  have HE := Aside0.mk hwA
  have HSZ : Aside0 (wA.heap.size = w.heap.size + 1) := ⟨by rw [hwA]; simp⟩
  clear hM hW hK hT hwA hbA
  go_enter Tryd.func33, Tryd.ntmps33
  go_wp2_with fail
  rw [← HE.out]
  refine (Bd.len_calls B b _ wA HWA.out.isW).mono ?_
  rintro e w1 ⟨rfl, hw1⟩
  subst hw1
  rw [HE.out]
  go_wp2_with fail
  rw [← HE.out]
  refine (between_calls w1 ⟨#[45]⟩ k0 k1 g c xs (by decide) HWA.out HKA.out HTA.out H0.out H1.out).mono ?_
  rintro e w2 ⟨rfl, r2, hW2, hr2, hf2⟩
  have HW2 := Aside0.mk hW2
  have HR2 := Aside0.mk hr2
  have HF2 := Aside0.mk hf2
  clear hW2 hr2 hf2
  go_wp2
  go_end0
  exact ⟨rfl, r2, HW2.out, HR2.out, HFA.out.trans HF2.out⟩
set_option maxHeartbeats 4000000 in
set_option maxRecDepth 100000 in
theorem e8_ok {B b : Nat} {bs : List UInt8} (w : World) (f1 f2 : Int) (f3 : ByteArray) (f4 : Int) (s : Sl) (ks : List Tr) (xs : List TV) (hW : Wr w B b bs) (hM : bs.length ≤ P.M) (hK : Kids w ks s xs) (hT : U.Tab B w) (k0 k1 : Tr) (hks : ks = [k0, k1]) (h0 : ExprOk B b k0) (h1 : ExprOk B b k1) :
    Calls Tryd.prog 33 #[.pointer (some ⟨b, 0, none⟩), .agg #[.int .i64 8, .int .i64 f1, .int .u64 f2, .string f3, .int .i64 f4, .slice s.A s.n s.c]] w fun e w' => e = .returned (.tuple #[]) ∧ ∃ r, Wr w' B b r ∧ Wrote bs (txN ⟨8, f1, f2, f3, f4⟩ (txs ks)) r ∧ Fw B b w w' := by
  subst hks
  obtain ⟨g, c, hs⟩ := hK.some (by simp)
  subst hs
  have H0 := Aside0.mk h0
  have H1 := Aside0.mk h1
  clear h0 h1
  have hd : decide (1048576 < (((Lib.byteCells bs).length : Nat) : Int)) = false := decide_eq_false (by have : P.M = 1048576 := rfl; rw [Lib.byteCells_length]; omega)
  obtain ⟨wA, hwA⟩ : ∃ wA, wA = w.alloc (.cells #[.int .i64 8, .int .i64 f1, .int .u64 f2, .string f3, .int .i64 f4, .slice (some ⟨g, 0, none⟩) 2 c] 93) := ⟨_, rfl⟩
  have hbA : Below w.heap.size w wA := by rw [hwA]; exact below_alloc (Below.refl _ _) _
  have HWA := Aside0.mk (hW.below hbA)
  have HTA := Aside0.mk (hT.step (Fw.of_below (b := b) hbA hW.base).below)
  have HKA := Aside0.mk (hK.below hbA)
  have HFA := Aside0.mk (Fw.of_below (b := b) hbA hW.base)
  have HE := Aside0.mk hwA
  have HSZ : Aside0 (wA.heap.size = w.heap.size + 1) := ⟨by rw [hwA]; simp⟩
  clear hM hW hK hT hwA hbA
  go_enter Tryd.func33, Tryd.ntmps33
  go_wp2_with fail
  rw [← HE.out]
  refine (Bd.len_calls B b _ wA HWA.out.isW).mono ?_
  rintro e w1 ⟨rfl, hw1⟩
  subst hw1
  rw [HE.out]
  go_wp2_with fail
  rw [← HE.out]
  refine (between_calls w1 ⟨#[42]⟩ k0 k1 g c xs (by decide) HWA.out HKA.out HTA.out H0.out H1.out).mono ?_
  rintro e w2 ⟨rfl, r2, hW2, hr2, hf2⟩
  have HW2 := Aside0.mk hW2
  have HR2 := Aside0.mk hr2
  have HF2 := Aside0.mk hf2
  clear hW2 hr2 hf2
  go_wp2
  go_end0
  exact ⟨rfl, r2, HW2.out, HR2.out, HFA.out.trans HF2.out⟩
set_option maxHeartbeats 4000000 in
set_option maxRecDepth 100000 in
theorem e9_ok {B b : Nat} {bs : List UInt8} (w : World) (f1 f2 : Int) (f3 : ByteArray) (f4 : Int) (s : Sl) (ks : List Tr) (xs : List TV) (hW : Wr w B b bs) (hM : bs.length ≤ P.M) (hK : Kids w ks s xs) (hT : U.Tab B w) (hks : ks ≠ []) (hE : ∀ t, t ∈ ks → ExprOk B b t) :
    Calls Tryd.prog 33 #[.pointer (some ⟨b, 0, none⟩), .agg #[.int .i64 9, .int .i64 f1, .int .u64 f2, .string f3, .int .i64 f4, .slice s.A s.n s.c]] w fun e w' => e = .returned (.tuple #[]) ∧ ∃ r, Wr w' B b r ∧ Wrote bs (txN ⟨9, f1, f2, f3, f4⟩ (txs ks)) r ∧ Fw B b w w' := by
  obtain ⟨g, c, hs⟩ := hK.some hks
  subst hs
  have HKS := Aside0.mk hks
  have HEA := Aside0.mk hE
  have HMX := Aside0.mk hK.max
  clear hks hE
  have hd : decide (1048576 < (((Lib.byteCells bs).length : Nat) : Int)) = false := decide_eq_false (by have : P.M = 1048576 := rfl; rw [Lib.byteCells_length]; omega)
  obtain ⟨wA, hwA⟩ : ∃ wA, wA = w.alloc (.cells #[.int .i64 9, .int .i64 f1, .int .u64 f2, .string f3, .int .i64 f4, .slice (some ⟨g, 0, none⟩) ks.length c] 93) := ⟨_, rfl⟩
  have hbA : Below w.heap.size w wA := by rw [hwA]; exact below_alloc (Below.refl _ _) _
  have HWA := Aside0.mk (hW.below hbA)
  have HTA := Aside0.mk (hT.step (Fw.of_below (b := b) hbA hW.base).below)
  have HKA := Aside0.mk (hK.below hbA)
  have HFA := Aside0.mk (Fw.of_below (b := b) hbA hW.base)
  have HE := Aside0.mk hwA
  have HSZ : Aside0 (wA.heap.size = w.heap.size + 1) := ⟨by rw [hwA]; simp⟩
  clear hM hW hK hT hwA hbA
  go_enter Tryd.func33, Tryd.ntmps33
  go_wp2_with fail
  rw [← HE.out]
  refine (Bd.len_calls B b _ wA HWA.out.isW).mono ?_
  rintro e w1 ⟨rfl, hw1⟩
  subst hw1
  rw [HE.out]
  go_wp2_with fail
  rw [← HE.out]
  refine (call_calls w1 ⟨#[99, 97, 116]⟩ ks g c xs (by decide) HKS.out HMX.out HWA.out HKA.out HTA.out HEA.out).mono ?_
  rintro e w2 ⟨rfl, r2, hW2, hr2, hf2⟩
  have HW2 := Aside0.mk hW2
  have HR2 := Aside0.mk hr2
  have HF2 := Aside0.mk hf2
  clear hW2 hr2 hf2
  go_wp2
  go_end0
  exact ⟨rfl, r2, HW2.out, HR2.out, HFA.out.trans HF2.out⟩
set_option maxHeartbeats 4000000 in
set_option maxRecDepth 100000 in
theorem e10_ok {B b : Nat} {bs : List UInt8} (w : World) (f1 f2 : Int) (f3 : ByteArray) (f4 : Int) (s : Sl) (ks : List Tr) (xs : List TV) (hW : Wr w B b bs) (hM : bs.length ≤ P.M) (hK : Kids w ks s xs) (hT : U.Tab B w) (hks : ks ≠ []) (hE : ∀ t, t ∈ ks → ExprOk B b t) :
    Calls Tryd.prog 33 #[.pointer (some ⟨b, 0, none⟩), .agg #[.int .i64 10, .int .i64 f1, .int .u64 f2, .string f3, .int .i64 f4, .slice s.A s.n s.c]] w fun e w' => e = .returned (.tuple #[]) ∧ ∃ r, Wr w' B b r ∧ Wrote bs (txN ⟨10, f1, f2, f3, f4⟩ (txs ks)) r ∧ Fw B b w w' := by
  obtain ⟨g, c, hs⟩ := hK.some hks
  subst hs
  have HKS := Aside0.mk hks
  have HEA := Aside0.mk hE
  have HMX := Aside0.mk hK.max
  clear hks hE
  have hd : decide (1048576 < (((Lib.byteCells bs).length : Nat) : Int)) = false := decide_eq_false (by have : P.M = 1048576 := rfl; rw [Lib.byteCells_length]; omega)
  obtain ⟨wA, hwA⟩ : ∃ wA, wA = w.alloc (.cells #[.int .i64 10, .int .i64 f1, .int .u64 f2, .string f3, .int .i64 f4, .slice (some ⟨g, 0, none⟩) ks.length c] 93) := ⟨_, rfl⟩
  have hbA : Below w.heap.size w wA := by rw [hwA]; exact below_alloc (Below.refl _ _) _
  have HWA := Aside0.mk (hW.below hbA)
  have HTA := Aside0.mk (hT.step (Fw.of_below (b := b) hbA hW.base).below)
  have HKA := Aside0.mk (hK.below hbA)
  have HFA := Aside0.mk (Fw.of_below (b := b) hbA hW.base)
  have HE := Aside0.mk hwA
  have HSZ : Aside0 (wA.heap.size = w.heap.size + 1) := ⟨by rw [hwA]; simp⟩
  clear hM hW hK hT hwA hbA
  go_enter Tryd.func33, Tryd.ntmps33
  go_wp2_with fail
  rw [← HE.out]
  refine (Bd.len_calls B b _ wA HWA.out.isW).mono ?_
  rintro e w1 ⟨rfl, hw1⟩
  subst hw1
  rw [HE.out]
  go_wp2_with fail
  rw [← HE.out]
  refine (call_calls w1 ⟨#[114, 101, 112]⟩ ks g c xs (by decide) HKS.out HMX.out HWA.out HKA.out HTA.out HEA.out).mono ?_
  rintro e w2 ⟨rfl, r2, hW2, hr2, hf2⟩
  have HW2 := Aside0.mk hW2
  have HR2 := Aside0.mk hr2
  have HF2 := Aside0.mk hf2
  clear hW2 hr2 hf2
  go_wp2
  go_end0
  exact ⟨rfl, r2, HW2.out, HR2.out, HFA.out.trans HF2.out⟩
set_option maxHeartbeats 4000000 in
set_option maxRecDepth 100000 in
theorem e11_ok {B b : Nat} {bs : List UInt8} (w : World) (f1 f2 : Int) (f3 : ByteArray) (f4 : Int) (s : Sl) (ks : List Tr) (xs : List TV) (hW : Wr w B b bs) (hM : bs.length ≤ P.M) (hK : Kids w ks s xs) (hT : U.Tab B w) (hks : ks ≠ []) (hE : ∀ t, t ∈ ks → ExprOk B b t) :
    Calls Tryd.prog 33 #[.pointer (some ⟨b, 0, none⟩), .agg #[.int .i64 11, .int .i64 f1, .int .u64 f2, .string f3, .int .i64 f4, .slice s.A s.n s.c]] w fun e w' => e = .returned (.tuple #[]) ∧ ∃ r, Wr w' B b r ∧ Wrote bs (txN ⟨11, f1, f2, f3, f4⟩ (txs ks)) r ∧ Fw B b w w' := by
  obtain ⟨g, c, hs⟩ := hK.some hks
  subst hs
  have HKS := Aside0.mk hks
  have HEA := Aside0.mk hE
  have HMX := Aside0.mk hK.max
  clear hks hE
  have hd : decide (1048576 < (((Lib.byteCells bs).length : Nat) : Int)) = false := decide_eq_false (by have : P.M = 1048576 := rfl; rw [Lib.byteCells_length]; omega)
  obtain ⟨wA, hwA⟩ : ∃ wA, wA = w.alloc (.cells #[.int .i64 11, .int .i64 f1, .int .u64 f2, .string f3, .int .i64 f4, .slice (some ⟨g, 0, none⟩) ks.length c] 93) := ⟨_, rfl⟩
  have hbA : Below w.heap.size w wA := by rw [hwA]; exact below_alloc (Below.refl _ _) _
  have HWA := Aside0.mk (hW.below hbA)
  have HTA := Aside0.mk (hT.step (Fw.of_below (b := b) hbA hW.base).below)
  have HKA := Aside0.mk (hK.below hbA)
  have HFA := Aside0.mk (Fw.of_below (b := b) hbA hW.base)
  have HE := Aside0.mk hwA
  have HSZ : Aside0 (wA.heap.size = w.heap.size + 1) := ⟨by rw [hwA]; simp⟩
  clear hM hW hK hT hwA hbA
  go_enter Tryd.func33, Tryd.ntmps33
  go_wp2_with fail
  rw [← HE.out]
  refine (Bd.len_calls B b _ wA HWA.out.isW).mono ?_
  rintro e w1 ⟨rfl, hw1⟩
  subst hw1
  rw [HE.out]
  go_wp2_with fail
  rw [← HE.out]
  refine (call_calls w1 ⟨#[108, 101, 110]⟩ ks g c xs (by decide) HKS.out HMX.out HWA.out HKA.out HTA.out HEA.out).mono ?_
  rintro e w2 ⟨rfl, r2, hW2, hr2, hf2⟩
  have HW2 := Aside0.mk hW2
  have HR2 := Aside0.mk hr2
  have HF2 := Aside0.mk hf2
  clear hW2 hr2 hf2
  go_wp2
  go_end0
  exact ⟨rfl, r2, HW2.out, HR2.out, HFA.out.trans HF2.out⟩
set_option maxHeartbeats 4000000 in
set_option maxRecDepth 100000 in
theorem e12_ok {B b : Nat} {bs : List UInt8} (w : World) (f1 f2 : Int) (f3 : ByteArray) (f4 : Int) (s : Sl) (ks : List Tr) (xs : List TV) (hW : Wr w B b bs) (hM : bs.length ≤ P.M) (hK : Kids w ks s xs) (hT : U.Tab B w) (hks : ks ≠ []) (hE : ∀ t, t ∈ ks → ExprOk B b t) :
    Calls Tryd.prog 33 #[.pointer (some ⟨b, 0, none⟩), .agg #[.int .i64 12, .int .i64 f1, .int .u64 f2, .string f3, .int .i64 f4, .slice s.A s.n s.c]] w fun e w' => e = .returned (.tuple #[]) ∧ ∃ r, Wr w' B b r ∧ Wrote bs (txN ⟨12, f1, f2, f3, f4⟩ (txs ks)) r ∧ Fw B b w w' := by
  obtain ⟨g, c, hs⟩ := hK.some hks
  subst hs
  have HKS := Aside0.mk hks
  have HEA := Aside0.mk hE
  have HMX := Aside0.mk hK.max
  clear hks hE
  have hd : decide (1048576 < (((Lib.byteCells bs).length : Nat) : Int)) = false := decide_eq_false (by have : P.M = 1048576 := rfl; rw [Lib.byteCells_length]; omega)
  obtain ⟨wA, hwA⟩ : ∃ wA, wA = w.alloc (.cells #[.int .i64 12, .int .i64 f1, .int .u64 f2, .string f3, .int .i64 f4, .slice (some ⟨g, 0, none⟩) ks.length c] 93) := ⟨_, rfl⟩
  have hbA : Below w.heap.size w wA := by rw [hwA]; exact below_alloc (Below.refl _ _) _
  have HWA := Aside0.mk (hW.below hbA)
  have HTA := Aside0.mk (hT.step (Fw.of_below (b := b) hbA hW.base).below)
  have HKA := Aside0.mk (hK.below hbA)
  have HFA := Aside0.mk (Fw.of_below (b := b) hbA hW.base)
  have HE := Aside0.mk hwA
  have HSZ : Aside0 (wA.heap.size = w.heap.size + 1) := ⟨by rw [hwA]; simp⟩
  clear hM hW hK hT hwA hbA
  go_enter Tryd.func33, Tryd.ntmps33
  go_wp2_with fail
  rw [← HE.out]
  refine (Bd.len_calls B b _ wA HWA.out.isW).mono ?_
  rintro e w1 ⟨rfl, hw1⟩
  subst hw1
  rw [HE.out]
  go_wp2_with fail
  rw [← HE.out]
  refine (call_calls w1 ⟨#[104, 101, 120]⟩ ks g c xs (by decide) HKS.out HMX.out HWA.out HKA.out HTA.out HEA.out).mono ?_
  rintro e w2 ⟨rfl, r2, hW2, hr2, hf2⟩
  have HW2 := Aside0.mk hW2
  have HR2 := Aside0.mk hr2
  have HF2 := Aside0.mk hf2
  clear hW2 hr2 hf2
  go_wp2
  go_end0
  exact ⟨rfl, r2, HW2.out, HR2.out, HFA.out.trans HF2.out⟩
theorem expr_ok {B b : Nat} : ∀ (d : Nat) (t : Tr), dep t ≤ d → WF t → ExprOk B b t := by
  intro d
  induction d with
  | zero => intro t h; obtain ⟨n, ks⟩ := t; rw [dep] at h; omega
  | succ d ih =>
    intro t hd hwf w x bs hW hI hT
    obtain ⟨n, ks⟩ := t
    obtain ⟨xs, hx, hK⟩ := hI.inv
    obtain ⟨⟨f0, f1, f2, f3, f4⟩, s⟩ := x
    simp only at hx hK
    subst hx
    cases hwf with
    | mk _ _ hk hr hws =>
    have hkid : ∀ t, t ∈ ks → ExprOk B b t := fun t ht => ih t (by have := P.dep_le_mx ht; rw [dep] at hd; omega) (hws t ht)
    by_cases hM : bs.length ≤ P.M
    · rcases P.kd_op hk with ⟨h0, h1⟩ | ⟨h0, h1⟩ | ⟨h0, h1⟩ | ⟨h0, h1, _⟩
      · simp only at h1
        rcases h1 with rfl | rfl | rfl | rfl
        · exact e1_ok w f1 f2 f3 f4 s ks xs hW hM hK hT hr
        · exact e2_ok w f1 f2 f3 f4 s ks xs hW hM hK hT
        · exact e3_ok w f1 f2 f3 f4 s ks xs hW hM hK hT
        · exact e4_ok w f1 f2 f3 f4 s ks xs hW hM hK hT
      · simp only at h1
        match ks, h0 with
        | [k0], _ =>
        rcases h1 with rfl | rfl | rfl
        · exact e5_ok w f1 f2 f3 f4 s [k0] xs hW hM hK hT k0 rfl (hkid k0 (by simp))
        · exact e11_ok w f1 f2 f3 f4 s [k0] xs hW hM hK hT (by simp) hkid
        · exact e12_ok w f1 f2 f3 f4 s [k0] xs hW hM hK hT (by simp) hkid
      · simp only at h1
        match ks, h0 with
        | [k0, k1], _ =>
        rcases h1 with rfl | rfl | rfl | rfl
        · exact e6_ok w f1 f2 f3 f4 s [k0, k1] xs hW hM hK hT k0 k1 rfl (hkid k0 (by simp)) (hkid k1 (by simp))
        · exact e7_ok w f1 f2 f3 f4 s [k0, k1] xs hW hM hK hT k0 k1 rfl (hkid k0 (by simp)) (hkid k1 (by simp))
        · exact e8_ok w f1 f2 f3 f4 s [k0, k1] xs hW hM hK hT k0 k1 rfl (hkid k0 (by simp)) (hkid k1 (by simp))
        · exact e10_ok w f1 f2 f3 f4 s [k0, k1] xs hW hM hK hT (by simp) hkid
      · simp only at h1
        subst h1
        exact e9_ok w f1 f2 f3 f4 s ks xs hW hM hK hT (by intro e; rw [e] at h0; simp at h0) hkid
    · exact e0_ok w f0 f1 f2 f3 f4 s (tx (.mk ⟨f0, f1, f2, f3, f4⟩ ks)) hW hM
end Go.Proofs.YtaijoghpfobdbaaDoor.W
end
section
set_option linter.unusedVariables false
set_option linter.unusedSimpArgs false
namespace Go.Proofs.YtaijoghpfobdbaaDoor.W
open Go.RowKit Go.Proofs.YtaijoghpfobdbaaDoor.X Go.Proofs.YtaijoghpfobdbaaDoorW.PrintWords Go.Proofs.YtaijoghpfobdbaaDoorW.PrintLast Go.Proofs.YtaijoghpfobdbaaDoorW.PrintMore
open Go.Proofs.YtaijoghpfobdbaaDoor.P (Tr Nd Wrote puts put fin kv kd sg build dep dmx pile judgeE tx txs txN sepL WF)
def finT (s : List UInt8) : ByteArray × Int := if P.M < s.length then (⟨#[]⟩, 2) else (⟨s.toArray⟩, 0)
theorem fin_T {s r : List UInt8} (h : Wrote [] s r) : fin r = finT s := by
  unfold finT
  rcases h with ⟨h1, rfl⟩ | ⟨h1, h2⟩
  · rw [List.nil_append] at *
    unfold fin
    rfl
  · rw [List.nil_append] at h1
    unfold fin
    rw [if_pos h2, if_pos h1]
def valE (ns : List Nd) : ByteArray × Int :=
  match build ns [] with
  | some [t] => if 100 < dep t then (⟨#[]⟩, 91) else finT (tx t)
  | _ => (⟨#[]⟩, 1)
def Rng (ns : List Nd) : Prop := ∀ n, n ∈ ns → 0 ≤ n.f2 ∧ n.f2 < 18446744073709551616
theorem valE_one {ns : List Nd} {t : Tr} (h : build ns [] = some [t]) : valE ns = if 100 < dep t then (⟨#[]⟩, 91) else finT (tx t) := by unfold valE; rw [h]
theorem valE_none {ns : List Nd} (h : ¬ ∃ t, build ns [] = some [t]) : valE ns = (⟨#[]⟩, 1) := by
  unfold valE
  split
  · rename_i t ht; exact absurd ⟨t, ht⟩ h
  · rfl
theorem judgeE_one {ns : List Nd} {t : Tr} (h : build ns [] = some [t]) : judgeE ns = if 100 < dep t then 91 else 0 := by unfold judgeE; rw [h]
theorem judgeE_none {ns : List Nd} (h : ¬ ∃ t, build ns [] = some [t]) : judgeE ns = 1 := by
  unfold judgeE
  split
  · rename_i t ht; exact absurd ⟨t, ht⟩ h
  · rfl
theorem judge_zero {ns : List Nd} (h : judgeE ns = 0) : ∃ t, build ns [] = some [t] ∧ valE ns = finT (tx t) := by
  by_cases hx : ∃ t, build ns [] = some [t]
  · obtain ⟨t, ht⟩ := hx
    refine ⟨t, ht, ?_⟩
    rw [judgeE_one ht] at h
    rw [valE_one ht]
    by_cases hd : 100 < dep t
    · rw [if_pos hd] at h; cases h
    · rw [if_neg hd]
  · rw [judgeE_none hx] at h; cases h
theorem judge_not {ns : List Nd} (h : judgeE ns ≠ 0) : valE ns = (⟨#[]⟩, judgeE ns) := by
  by_cases hx : ∃ t, build ns [] = some [t]
  · obtain ⟨t, ht⟩ := hx
    rw [judgeE_one ht] at h ⊢
    rw [valE_one ht]
    by_cases hd : 100 < dep t
    · rw [if_pos hd, if_pos hd]
    · rw [if_neg hd] at h; exact absurd rfl h
  · rw [judgeE_none hx, valE_none hx]
theorem Tab.high {B B' : Nat} {w : World} (h : U.Tab B w) (hb : B ≤ B') : U.Tab B' w := ⟨fun w' k => h.out w' (Below.lowr k hb)⟩
theorem fresh_w (w : World) : Wr (w.alloc (.cells #[.pointer none, .slice none 0 0] 74)) w.heap.size w.heap.size [] :=
  ⟨Lib.fresh_isBuilder _ _ w, by simp, by simp⟩
set_option maxHeartbeats 4000000 in
set_option maxRecDepth 100000 in
theorem value_calls (w : World) (A : Option Addr) (c : Nat) (ns : List Nd) (hC : Kd.C k46 w A ns.length ns) (hns : ns.length ≤ 1099511627776) (hr : Rng ns) (hT : U.Tab w.heap.size w) :
    Calls Tryd.prog 14 #[.slice A ns.length c] w fun e w' => e = .returned (.tuple #[.string (valE ns).1, .int .i64 (valE ns).2]) ∧ Below w.heap.size w w' := by
  have HC := Aside0.mk hC
  have HN := Aside0.mk hns
  have HR := Aside0.mk hr
  have HT := Aside0.mk hT
  clear hC hns hr hT
  obtain ⟨j, hj⟩ : ∃ j, j = judgeE ns := ⟨_, rfl⟩
  have HJ := Aside0.mk (judge_calls w A c ns HC.out (by have := HN.out; omega))
  rw [← hj] at HJ
  by_cases h0 : j = 0
  · subst h0
    obtain ⟨t, hb, hv⟩ := judge_zero hj.symm
    have HB := Aside0.mk hb
    have HV := Aside0.mk hv
    have HWF := Aside0.mk (P.build_wf hb HR.out (by simp) t (by simp))
    clear hj hb hv
    go_enter Tryd.func14, Tryd.ntmps14
    go_wp2_with fail
    refine HJ.out.mono ?_
    rintro e w1 ⟨rfl, hb1⟩
    have HB1 := Aside0.mk hb1
    obtain ⟨w2, hw2⟩ : ∃ w2, w2 = w1.alloc (.cells #[.pointer none, .slice none 0 0] 74) := ⟨_, rfl⟩
    have hb2 : Below w1.heap.size w1 w2 := by rw [hw2]; exact below_alloc (Below.refl _ _) _
    have HB2 := Aside0.mk (below_step hb1 hb2)
    have HW2 : Aside0 (Wr w2 w1.heap.size w1.heap.size []) := ⟨by rw [hw2]; exact fresh_w w1⟩
    have HE2 := Aside0.mk hw2
    have HB12 := Aside0.mk hb2
    clear hb1 hb2 hw2
    go_wp2_with fail
    rw [← HE2.out]
    refine (grown_calls w2 A c ns t (Kd.C_below HC.out HB2.out) HN.out HB.out).mono ?_
    rintro e w3 ⟨x, rfl, hi, hb3⟩
    have HI3 := Aside0.mk (hi.move (ok' := fun _ => True) (fun g cur _ _ => ⟨rfl, trivial⟩))
    have HW3 := Aside0.mk (HW2.out.below hb3)
    have HB3 := Aside0.mk (below_step HB2.out hb3)
    have HB13 := Aside0.mk (below_step HB12.out hb3)
    clear hi hb3
    go_wp2_with fail
    refine (expr_ok (dep t) t (Nat.le_refl _) HWF.out w3 x [] HW3.out HI3.out (Tab.high (HT.out.step HB3.out) HB1.out.size)).mono ?_
    rintro e w4 ⟨rfl, r, hW4, hr4, hf4⟩
    have HW4 := Aside0.mk hW4
    have HR4 := Aside0.mk hr4
    have HF4 := Aside0.mk hf4
    clear hW4 hr4 hf4
    go_wp2_with fail
    refine (text_calls w4 HW4.out).mono ?_
    rintro e w5 ⟨rfl, hb5⟩
    have HB5 := Aside0.mk hb5
    have HFI : Aside0 (fin r = valE ns) := ⟨by rw [HV.out]; exact fin_T HR4.out⟩
    rw [HFI.out]
    clear hb5
    go_wp2
    go_ret2
    refine ⟨rfl, ?_⟩
    have h1 := Below.lowr (HF4.out.below.trans HB5.out) HB1.out.size
    exact HB3.out.trans h1
  · have HV := Aside0.mk (judge_not (by rw [← hj]; exact h0))
    rw [← hj] at HV
    have c1 : (j != 0) = true := bne_iff_ne.2 h0
    clear hj h0
    go_enter Tryd.func14, Tryd.ntmps14
    go_wp2_with fail
    refine HJ.out.mono ?_
    rintro e w1 ⟨rfl, hb1⟩
    have HB1 := Aside0.mk hb1
    clear hb1
    go_wp2
    go_ret2
    exact ⟨by rw [HV.out]; rfl, HB1.out⟩
end Go.Proofs.YtaijoghpfobdbaaDoor.W
end
section
set_option linter.unusedVariables false
set_option linter.unusedSimpArgs false
namespace Go.Proofs.YtaijoghpfobdbaaDoor.P
open Go.RowKit Go.Proofs.YtaijoghpfobdbaaDoor.X Go.Proofs.YtaijoghpfobdbaaDoorW.PrintWords Go.Proofs.YtaijoghpfobdbaaDoorW.PrintLast
structure StD where
  k : Int
  a : ByteArray
  b : ByteArray
  c : ByteArray
  sep : ByteArray
  ty : ByteArray
  val : List Nd
  pl : Int
structure VeD where
  num : Int
  steps : List StD
  pl : Int
structure EvD where
  name : ByteArray
  vers : List VeD
  pl : Int
def wordList : List ByteArray := [⟨#[101, 118, 101, 110, 116]⟩, ⟨#[118, 101, 114, 115, 105, 111, 110]⟩, ⟨#[97, 100, 100]⟩, ⟨#[114, 101, 110, 97, 109, 101]⟩, ⟨#[115, 112, 108, 105, 116]⟩, ⟨#[106, 111, 105, 110]⟩, ⟨#[114, 101, 116, 121, 112, 101]⟩, ⟨#[100, 114, 111, 112]⟩, ⟨#[116, 111]⟩, ⟨#[97, 116]⟩, ⟨#[105, 110, 116, 111]⟩, ⟨#[119, 105, 116, 104]⟩, ⟨#[116, 114, 117, 101]⟩, ⟨#[102, 97, 108, 115, 101]⟩, ⟨#[99, 97, 116]⟩, ⟨#[114, 101, 112]⟩, ⟨#[108, 101, 110]⟩, ⟨#[104, 101, 120]⟩]
def wordB (s : ByteArray) : Bool := Lib.containsS (wordList.take 18) s
def nameB (s : ByteArray) : Bool := L.Name s.data.toList && !(wordB s)
def emB (s : ByteArray) : Bool := s.toList == []
def noV (d : StD) : Bool := decide (d.val.length = 0)
def goodB (d : StD) : Bool :=
  if d.k = 1 then [d.a, d.ty].all nameB && [d.b, d.c, d.sep].all emB
  else if d.k = 2 then [d.a, d.b].all nameB && emB d.c && (emB d.sep && emB d.ty && noV d)
  else if d.k = 3 ∨ d.k = 4 then [d.a, d.b, d.c].all nameB && emB d.ty && noV d
  else if d.k = 5 then [d.a, d.ty].all nameB && [d.b, d.c, d.sep].all emB && noV d
  else if d.k = 6 then [d.a].all nameB && [d.b, d.c].all emB && (emB d.sep && emB d.ty && noV d)
  else false
def wrs (a b : Int) : Int := if a = 1 ∨ b = 1 then 1 else if a = 91 ∨ b = 91 then 91 else 0
def stE (d : StD) : Int := if goodB d = true then (if d.val.length = 0 then 0 else judgeE d.val) else 1
def allE {α : Type} (f : α → Int) (l : List α) : Int := l.foldl (fun e x => wrs e (f x)) 0
def veE (v : VeD) : Int := allE stE v.steps
def evE (e : EvD) : Int := if nameB e.name = true ∧ e.vers.length ≠ 0 then allE veE e.vers else 1
def wholeE (l : List EvD) : Int := allE evE l
def txV (ns : List Nd) : List UInt8 :=
  match build ns [] with
  | some [t] => tx t
  | _ => []
def lineT (d : StD) : List UInt8 :=
  if d.k = 1 then [97, 100, 100, 32] ++ d.a.data.toList ++ [58, 32] ++ d.ty.data.toList ++ (if d.val.length = 0 then [] else [32, 61, 32] ++ txV d.val)
  else if d.k = 2 then [114, 101, 110, 97, 109, 101, 32] ++ d.a.data.toList ++ [32, 116, 111, 32] ++ d.b.data.toList
  else if d.k = 3 then [115, 112, 108, 105, 116, 32] ++ d.a.data.toList ++ [32, 97, 116, 32] ++ (L.Quote d.sep.data.toList ++ ([32, 105, 110, 116, 111, 32] ++ d.b.data.toList ++ [44, 32] ++ d.c.data.toList))
  else if d.k = 4 then [106, 111, 105, 110, 32] ++ d.a.data.toList ++ [44, 32] ++ d.b.data.toList ++ [32, 119, 105, 116, 104, 32] ++ (L.Quote d.sep.data.toList ++ ([32, 105, 110, 116, 111, 32] ++ d.c.data.toList))
  else if d.k = 5 then [114, 101, 116, 121, 112, 101, 32] ++ d.a.data.toList ++ [32, 116, 111, 32] ++ d.ty.data.toList
  else [100, 114, 111, 112, 32] ++ d.a.data.toList
def stT (d : StD) : List UInt8 := [32, 32, 32, 32] ++ (lineT d ++ [59, 10])
def veT (v : VeD) : List UInt8 := ([32, 32, 118, 101, 114, 115, 105, 111, 110, 32] ++ Lib.decDigits v.num.toNat ++ [32, 123, 10]) ++ (v.steps.flatMap stT ++ [32, 32, 125, 10])
def evT (e : EvD) : List UInt8 := ([101, 118, 101, 110, 116, 32] ++ e.name.data.toList ++ [32, 123, 10]) ++ (e.vers.flatMap veT ++ [125, 10])
def schT (l : List EvD) : List UInt8 := l.flatMap evT
def schE (l : List EvD) : ByteArray × Int := if wholeE l = 0 then W.finT (schT l) else (⟨#[]⟩, wholeE l)
theorem name_size {s : ByteArray} (h : nameB s = true) : s.size ≤ 64 := by
  unfold nameB at h
  rw [Bool.and_eq_true] at h
  have h1 := h.1
  rw [← data_length]
  cases hl : s.data.toList with
  | nil => simp
  | cons b t =>
    rw [hl] at h1
    unfold L.Name at h1
    simp only [Bool.and_eq_true, decide_eq_true_eq] at h1
    exact h1.1.1
def okE (e : Int) : Prop := e = 0 ∨ e = 1 ∨ e = 91
theorem wrs_ok (a b : Int) : okE (wrs a b) := by
  unfold wrs okE
  split
  · exact .inr (.inl rfl)
  · split
    · exact .inr (.inr rfl)
    · exact .inl rfl
theorem judgeE_ok (ns : List Nd) : okE (judgeE ns) := by
  unfold judgeE okE
  split
  · split <;> simp
  · simp
theorem fold_ok {α : Type} (f : α → Int) : ∀ (l : List α) (e : Int), okE e → okE (l.foldl (fun e x => wrs e (f x)) e)
  | [], e, h => h
  | x :: l, e, h => fold_ok f l _ (wrs_ok _ _)
theorem allE_ok {α : Type} (f : α → Int) (l : List α) : okE (allE f l) := fold_ok f l 0 (.inl rfl)
theorem allE_snoc {α : Type} (f : α → Int) (l : List α) (x : α) : allE f (l ++ [x]) = wrs (allE f l) (f x) := by unfold allE; rw [List.foldl_append]; rfl
theorem allE_one {α : Type} (f : α → Int) : ∀ (l m : List α), allE f l = 1 → allE f (l ++ m) = 1
  | l, [], h => by rw [List.append_nil]; exact h
  | l, x :: m, h => by
    rw [show l ++ x :: m = (l ++ [x]) ++ m by simp]
    exact allE_one f _ m (by rw [allE_snoc, h]; rfl)
theorem allE_bad {α : Type} (f : α → Int) (l : List α) (i : Nat) (hi : i < l.length) (h : f l[i] = 1) : allE f l = 1 := by
  have e : l = (l.take i ++ [l[i]]) ++ l.drop (i + 1) := by
    rw [List.append_assoc, List.singleton_append, ← List.drop_eq_getElem_cons hi, List.take_append_drop]
  have h2 : allE f (l.take i ++ [l[i]]) = 1 := by rw [allE_snoc, h]; unfold wrs; rw [if_pos (.inr rfl)]
  rw [e]
  exact allE_one f _ _ h2
theorem allE_next {α : Type} (f : α → Int) (l : List α) (i : Nat) (hi : i < l.length) : allE f (l.take (i + 1)) = wrs (allE f (l.take i)) (f l[i]) := by
  rw [List.take_succ_eq_append_getElem hi, allE_snoc]
theorem wrs_zero {a b : Int} (h : wrs a b = 0) (ha : okE a) (hb : okE b) : a = 0 ∧ b = 0 := by
  unfold wrs at h
  unfold okE at ha hb
  split at h
  · cases h
  · split at h
    · cases h
    · omega
theorem fold_zero {α : Type} (f : α → Int) (hf : ∀ x, okE (f x)) : ∀ (l : List α) (e : Int), okE e → l.foldl (fun e x => wrs e (f x)) e = 0 → e = 0 ∧ ∀ x, x ∈ l → f x = 0
  | [], e, _, h => ⟨h, fun x hx => by cases hx⟩
  | y :: l, e, he, h => by
    obtain ⟨h1, h2⟩ := fold_zero f hf l _ (wrs_ok _ _) h
    obtain ⟨h3, h4⟩ := wrs_zero h1 he (hf y)
    refine ⟨h3, fun x hx => ?_⟩
    rcases List.mem_cons.1 hx with rfl | hx
    · exact h4
    · exact h2 x hx
theorem allE_zero {α : Type} (f : α → Int) (hf : ∀ x, okE (f x)) (l : List α) (h : allE f l = 0) (x : α) (hx : x ∈ l) : f x = 0 := (fold_zero f hf l 0 (.inl rfl) h).2 x hx
theorem stE_ok (d : StD) : okE (stE d) := by
  unfold stE
  split
  · split
    · exact .inl rfl
    · exact judgeE_ok _
  · exact .inr (.inl rfl)
theorem veE_ok (v : VeD) : okE (veE v) := allE_ok _ _
theorem evE_ok (e : EvD) : okE (evE e) := by
  unfold evE
  split
  · exact allE_ok _ _
  · exact .inr (.inl rfl)
end Go.Proofs.YtaijoghpfobdbaaDoor.P
end
section
set_option linter.unusedVariables false
set_option linter.unusedSimpArgs false
namespace Go.Proofs.YtaijoghpfobdbaaDoor.W
open Go.RowKit Go.Proofs.YtaijoghpfobdbaaDoor.X Go.Proofs.YtaijoghpfobdbaaDoorW.PrintWords Go.Proofs.YtaijoghpfobdbaaDoorW.PrintLast Go.Proofs.YtaijoghpfobdbaaDoorW.PrintMore
open Go.Proofs.YtaijoghpfobdbaaDoor.P (Tr Nd Wrote puts put fin kv kd sg build dep dmx pile judgeE tx txs txN sepL WF StD VeD EvD wordB nameB emB noV goodB wordList)
theorem str_cell {w : World} {g : Nat} {ps : List ByteArray} (h : w.heap[g]? = some (.cells (ps.map Value.string).toArray 9 (0, 0))) (i : Nat) (hi : i < ps.length) : w.cell? ⟨g, i, none⟩ = some (.string (ps.getD i ByteArray.empty)) := (blk_cell h i).trans (getD_str ps i hi)
theorem lname_calls (s : ByteArray) (w : World) : Calls Tryd.prog 83 #[.string s] w fun e w' => e = .returned (.bool (L.Name s.data.toList)) ∧ Below w.heap.size w w' := by
  refine (lex_Name.calls s _ w (T.name_eq s)).mono ?_
  rintro e w' ⟨rfl, h⟩
  exact ⟨rfl, h.below⟩
set_option maxHeartbeats 2000000 in
set_option maxRecDepth 100000 in
theorem word_calls (s : ByteArray) (w : World) : Calls Tryd.prog 84 #[.string s] w fun e w' => e = .returned (.bool (wordB s)) ∧ Below w.heap.size w w' := by
  have hb : Below w.heap.size w (w.alloc (.cells (wordList.map Value.string).toArray 9)) := below_alloc (Below.refl _ _) _
  have HC := Aside0.mk (Tryd.slices_Contains_string w.heap.size 0 18 18 wordList s (w.alloc (.cells (wordList.map Value.string).toArray 9)) (by decide) (by decide) (fun j hj => by rw [Nat.zero_add]; exact str_cell (blk_new _ _) j hj))
  have HB := Aside0.mk hb
  clear hb
  go_enter Tryd.func84, Tryd.ntmps84
  go_wp2_with fail
  refine HC.out.mono ?_
  rintro e w1 ⟨rfl, rfl⟩
  go_wp2
  go_ret
  exact ⟨rfl, HB.out⟩
theorem all_next {f : ByteArray → Bool} (ps : List ByteArray) (i : Nat) (hi : i < ps.length) : (ps.take (i + 1)).all f = ((ps.take i).all f && f (ps.getD i ByteArray.empty)) := by
  rw [List.take_succ_eq_append_getElem hi, List.all_append, List.getD_eq_getElem?_getD, List.getElem?_eq_getElem hi]
  simp
theorem all_false {f : ByteArray → Bool} (ps : List ByteArray) (i : Nat) (hi : i < ps.length) (h : f (ps.getD i ByteArray.empty) = false) : ps.all f = false := by
  have h2 := all_next (f := f) ps i hi
  rw [h, Bool.and_false] at h2
  rw [← List.take_append_drop (i + 1) ps, List.all_append, h2, Bool.false_and]
set_option maxHeartbeats 2000000 in
set_option maxRecDepth 100000 in
theorem names_calls (w : World) (g n c : Nat) (ps : List ByteArray) (hg : w.heap[g]? = some (.cells (ps.map Value.string).toArray 9 (0, 0))) (hn : n = ps.length) (hnn : n ≤ 100) :
    Calls Tryd.prog 47 #[.slice (some ⟨g, 0, none⟩) n c] w fun e w' => e = .returned (.bool (ps.all nameB)) ∧ Below w.heap.size w w' := by
  subst hn
  have HG := Aside0.mk hg
  have HN := Aside0.mk hnn
  clear hg hnn
  go_enter Tryd.func47, Tryd.ntmps47
  go_wp2
  go_loopw [7] (fun ti wr => ∃ i : Nat, ti = .int .i64 (i : Int) ∧ Aside0 (i ≤ ps.length) ∧ Aside0 ((ps.take i).all nameB = true) ∧ Aside0 (Below w.heap.size w wr)) (fun ti _ => ps.length - left ti)
  case atStart => exact ⟨0, rfl, ⟨Nat.zero_le _⟩, ⟨rfl⟩, ⟨Below.refl _ _⟩⟩
  case round =>
    obtain ⟨i, rfl, hi, HA, HB⟩ := hrel
    by_cases ci : i < ps.length
    · have c1 : decide ((i : Int) < (ps.length : Int)) = true := decide_eq_true (by omega)
      have c2 : decide (i < ps.length) = true := decide_eq_true ci
      have hcell := str_cell (blk_below HG.out HB.out) i ci
      have HC := Aside0.mk ci
      have HNX : Aside0 (wrap64 ((i : Int) + 1) = ((i + 1 : Nat) : Int)) := ⟨by have := HN.out; unfold wrap64; omega⟩
      have HALL := Aside0.mk (all_next (f := nameB) ps i ci)
      have HFL := Aside0.mk (all_false (f := nameB) ps i ci)
      obtain ⟨q, hq⟩ : ∃ q, q = ps.getD i ByteArray.empty := ⟨_, rfl⟩
      rw [← hq] at hcell HALL HFL
      obtain ⟨b1, hb1⟩ : ∃ b1, b1 = L.Name q.data.toList := ⟨_, rfl⟩
      obtain ⟨b2, hb2⟩ : ∃ b2, b2 = wordB q := ⟨_, rfl⟩
      have HNB : Aside0 (nameB q = (b1 && !b2)) := ⟨by rw [hb1, hb2]; rfl⟩
      have HL := Aside0.mk (fun w => lname_calls q w)
      have HW := Aside0.mk (fun w => word_calls q w)
      rw [← hb1] at HL
      rw [← hb2] at HW
      clear hq hb1 hb2
      go_wp2_with fail
      refine (HL.out wr).mono ?_
      rintro e w1 ⟨rfl, hb1⟩
      have HB1 := Aside0.mk (below_step HB.out hb1)
      clear hb1
      cases b1 with
      | false =>
        go_wp2
        go_ret
        exact ⟨by rw [HFL.out (by rw [HNB.out]; rfl)]; rfl, HB1.out⟩
      | true =>
        go_wp2_with fail
        refine (HW.out w1).mono ?_
        rintro e w2 ⟨rfl, hb2⟩
        have HB2 := Aside0.mk (below_step HB1.out hb2)
        clear hb2
        cases b2 with
        | true =>
          go_wp2
          go_ret
          exact ⟨by rw [HFL.out (by rw [HNB.out]; rfl)]; rfl, HB2.out⟩
        | false =>
          go_wp2
          rw [HNX.out]
          go_roundw
          case measure => have := HC.out; simp only [left, Int.toNat_natCast]; omega
          case rel => exact ⟨i + 1, rfl, ⟨HC.out⟩, ⟨by rw [HALL.out, HA.out, HNB.out]; rfl⟩, HB2⟩
    · have c1 : decide ((i : Int) < (ps.length : Int)) = false := decide_eq_false (by omega)
      have c2 : decide (i < ps.length) = false := decide_eq_false ci
      have HI : Aside0 (ps.take i = ps) := ⟨List.take_of_length_le (by omega)⟩
      go_wp2
      go_ret
      exact ⟨by rw [← HI.out, HA.out]; rfl, HB.out⟩
set_option maxHeartbeats 2000000 in
set_option maxRecDepth 100000 in
theorem empty_calls (w : World) (g n c : Nat) (ps : List ByteArray) (hg : w.heap[g]? = some (.cells (ps.map Value.string).toArray 9 (0, 0))) (hn : n = ps.length) (hnn : n ≤ 100) :
    Calls Tryd.prog 85 #[.slice (some ⟨g, 0, none⟩) n c] w fun e w' => e = .returned (.bool (ps.all emB)) ∧ Below w.heap.size w w' := by
  subst hn
  have HG := Aside0.mk hg
  have HN := Aside0.mk hnn
  clear hg hnn
  go_enter Tryd.func85, Tryd.ntmps85
  go_wp2
  go_loopw [7] (fun ti wr => ∃ i : Nat, ti = .int .i64 (i : Int) ∧ Aside0 (i ≤ ps.length) ∧ Aside0 ((ps.take i).all emB = true) ∧ Aside0 (Below w.heap.size w wr)) (fun ti _ => ps.length - left ti)
  case atStart => exact ⟨0, rfl, ⟨Nat.zero_le _⟩, ⟨rfl⟩, ⟨Below.refl _ _⟩⟩
  case round =>
    obtain ⟨i, rfl, hi, HA, HB⟩ := hrel
    by_cases ci : i < ps.length
    · have c1 : decide ((i : Int) < (ps.length : Int)) = true := decide_eq_true (by omega)
      have c2 : decide (i < ps.length) = true := decide_eq_true ci
      have hcell := str_cell (blk_below HG.out HB.out) i ci
      have HC := Aside0.mk ci
      have HNX : Aside0 (wrap64 ((i : Int) + 1) = ((i + 1 : Nat) : Int)) := ⟨by have := HN.out; unfold wrap64; omega⟩
      have HALL := Aside0.mk (all_next (f := emB) ps i ci)
      have HFL := Aside0.mk (all_false (f := emB) ps i ci)
      obtain ⟨q, hq⟩ : ∃ q, q = ps.getD i ByteArray.empty := ⟨_, rfl⟩
      rw [← hq] at hcell HALL HFL
      clear hq
      by_cases hz : q.toList = []
      · have z1 : (q.toList == []) = true := beq_iff_eq.2 hz
        have z2 : (q.toList != []) = false := by rw [bne, z1]; rfl
        have HNB : Aside0 (emB q = true) := ⟨z1⟩
        clear hz
        go_wp2
        rw [HNX.out]
        go_roundw
        case measure => have := HC.out; simp only [left, Int.toNat_natCast]; omega
        case rel => exact ⟨i + 1, rfl, ⟨HC.out⟩, ⟨by rw [HALL.out, HA.out, HNB.out]; rfl⟩, HB⟩
      · have z1 : (q.toList == []) = false := beq_eq_false_iff_ne.2 hz
        have z2 : (q.toList != []) = true := by rw [bne, z1]; rfl
        have HNB : Aside0 (emB q = false) := ⟨z1⟩
        clear hz
        go_wp2
        go_ret
        exact ⟨by rw [HFL.out HNB.out]; rfl, HB.out⟩
    · have c1 : decide ((i : Int) < (ps.length : Int)) = false := decide_eq_false (by omega)
      have c2 : decide (i < ps.length) = false := decide_eq_false ci
      have HI : Aside0 (ps.take i = ps) := ⟨List.take_of_length_le (by omega)⟩
      go_wp2
      go_ret
      exact ⟨by rw [← HI.out, HA.out]; rfl, HB.out⟩
end Go.Proofs.YtaijoghpfobdbaaDoor.W
end
