/- apart: each list filled and grown by itself holds its own mark alone. Conditions: those in the theorems. -/
import Derived.Test.YtoddldamekamoaaDoorK0
import Derived.Test.YtoddldamekamoaaDoorM
import Derived.Test.YtoddldamekamoaaDoorWLast
import Derived.Test.YtoddldamekamoaaDoorX1
import Derived.Laws.MakeOwn
import Derived.WalkKit
import Derived.KernelRfl
import Derived.Deep.LoopGhost
import Derived.Deep.QuietTactic
import Derived.BigQuiet
set_option linter.unusedVariables false
set_option linter.unusedSimpArgs false
namespace Go.Proofs.YtoddldamekamoaaDoor.K
open Go.RowKit Go.Proofs.YtoddldamekamoaaDoor.X Go.Proofs.YtoddldamekamoaaDoorW.PrintWords Go.Proofs.YtoddldamekamoaaDoorW.PrintLast Go.Proofs.YtoddldamekamoaaDoorW.PrintMore
theorem nextN (i n : Nat) (hn : n ≤ 9223372036854775807) (h : i < n) : wrap64 ((i : Int) + 1) = ((i + 1 : Nat) : Int) := by unfold wrap64; omega
theorem lessN (i n : Nat) (hn : n ≤ 9223372036854775807) (h : i < n) : n - (wrap64 ((i : Int) + 1)).toNat < n - ((i : Nat) : Int).toNat := by
  rw [nextN i n hn h, Int.toNat_natCast, Int.toNat_natCast]; omega
def left : Value → Nat
  | .int _ i => i.toNat
  | _ => 0
def mark (i : Nat) : Int := (i : Int) + 1
def Fill (w : World) (b : Nat) (rs : List Rw) (i : Nat) : Prop := ∀ (j : Nat) (r : Rw), rs[j]? = some r → ∃ xs, RB w b r.v xs ∧ (j < i → xs = mks (mark j) r.n)
theorem infoL : (Tryd.prog.info? 27).map (fun i => (i.zero, i.size, i.bytes)) = some (some (.slice none 0 0), 1, 24) := by kernel_rfl
abbrev kv : Kd Rw := Kd.scalar Rw.v (fun _ => rfl)
theorem reps_map {xs : List Rw} {inner : List Value} {P : Rw → List Value → Prop} (hP : ∀ x c, P x c → c = [x.v]) (h : Reps P 1 xs inner) : inner = xs.map Rw.v := by
  obtain ⟨h0, h1⟩ := h
  apply List.ext_getElem
  · simpa using h0
  · intro j h2 h3
    have hx : j < xs.length := by simpa using h3
    have := hP _ _ (h1 j xs[j] (List.getElem?_eq_getElem hx))
    rw [Nat.mul_one] at this
    have h5 : ((inner.drop j).take 1)[0]? = some xs[j].v := by rw [this]; rfl
    rw [List.getElem?_take_of_lt (by omega), List.getElem?_drop, Nat.add_zero, List.getElem?_eq_getElem h2] at h5
    injection h5 with h5
    rw [h5, List.getElem_map]
theorem HD_of_kv {w : World} {base c n : Nat} {A : Option Addr} {t : Nat} {vs : List Rw} (hp : 0 < vs.length) (h : Kd.R kv t w base (fun _ => True) (.slice A n c) vs) : ∃ g, A = some ⟨g, 0, none⟩ ∧ base ≤ g ∧ HD w t g (vs.map Rw.v) := by
  obtain ⟨g, cap, e, hb, _⟩ := Kd.R_form h hp
  injection e with e1
  subst e1
  obtain ⟨_, inner, how, hr⟩ := h
  refine ⟨g, rfl, hb, ?_⟩
  have hi : inner = vs.map Rw.v := reps_map (fun _ _ h => h) hr
  subst hi
  have hn : n = vs.length := by rcases how.2 with ⟨e, _⟩ | ⟨_, _, _, e, _⟩ <;> (injection e)
  subst hn
  exact HD_of_own how
/-- Beside row i: the other rows, those ahead of it filled, and the lists of lists. -/
structure OthA (w : World) (b t go gb : Nat) (rs gs : List Rw) (i : Nat) : Prop where
  ho : HD w t go (rs.map Rw.v)
  hg : HD w t gb (gs.map Rw.v)
  rows : ∀ (j : Nat) (r : Rw), j ≠ i → rs[j]? = some r → ∃ xs, RB w b r.v xs ∧ (j < i → xs = mks (mark j) r.n)
theorem OthA.grown {w w1 : World} {b t go gb i : Nat} {rs gs : List Rw} (h : OthA w b t go gb rs gs i) {row : Option Nat} (hg : w.grownBy w1 row) (h1 : some go ≠ row) (h2 : some gb ≠ row) (hr : ∀ (j : Nat) (r : Rw), j ≠ i → rs[j]? = some r → ∀ k, row = some k → some k ≠ r.v.ownBlock) : OthA w1 b t go gb rs gs i :=
  ⟨h.ho.grown hg h1, h.hg.grown hg h2, fun j r hj hjr => by
    obtain ⟨xs, hx, hm⟩ := h.rows j r hj hjr
    exact ⟨xs, keep8 hx hg (hr j r hj hjr), hm⟩⟩
theorem set_rd {xs : List Int} {i : Nat} {m : Int} (hi : i < xs.length) (h : ∀ j, j < i → rd xs (j : Int) = m) : ∀ j, j < i + 1 → rd (xs.set i m) (j : Int) = m := fun j hj => by
  unfold rd at *
  rw [Int.toNat_natCast]
  by_cases e : j = i
  · subst e; rw [List.getD_eq_getElem?_getD, List.getElem?_set_self hi]; rfl
  · rw [List.getD_eq_getElem?_getD, List.getElem?_set_ne (Ne.symm e), ← List.getD_eq_getElem?_getD]
    have := h j (by omega); rwa [Int.toNat_natCast] at this
theorem all_mk {xs : List Int} {m : Int} {n : Nat} (hl : xs.length = n) (h : ∀ j, j < n → rd xs (j : Int) = m) : xs = mks m n := by
  apply List.ext_getElem
  · rw [mks_len, hl]
  · intro j h1 h2
    have := h j (by omega)
    unfold rd at this
    rw [Int.toNat_natCast, List.getD_eq_getElem?_getD, List.getElem?_eq_getElem h1] at this
    have e : (mks m n)[j] = m := by simp [mks]
    rw [e]; simpa using this
set_option maxHeartbeats 4000000 in
set_option maxRecDepth 100000 in
theorem apart_calls (w : World) (b go c n : Nat) (rs : List Rw) (hn : rs.length = n) (h4 : n ≤ 200) (hp : 0 < n) (hnc : n ≤ c) (ho : HD w 27 go (rs.map Rw.v)) (hr : Fill w b rs 0) (hap : NoTwo rs) (hb : b ≤ w.heap.size) (hsm : ∀ r ∈ rs, r.n ≤ 140737488355232) :
    Calls Tryd.prog 20 #[.slice (some ⟨go, 0, none⟩) n c] w fun e w' => e = .returned (.bool true) ∧ Below b w w' := by
  have HN := Aside0.mk hn
  have HO := Aside0.mk ho
  have HR := Aside0.mk hr
  have HAP := Aside0.mk hap
  have HBS := Aside0.mk hb
  have HSM := Aside0.mk hsm
  have H4 := Aside0.mk h4
  have hj0 : decide (0 ≤ (n : Int)) = true := decide_eq_true (by omega)
  have hj1 : decide ((n : Int).toNat ≤ 281474976710656) = true := decide_eq_true (by omega)
  clear hn ho hr hap hb hsm
  go_enter Tryd.func20, Tryd.ntmps20
  go_wp2_with ((with_reducible refine gate_dst (N := 13) rfl ?_); refine Kd.R_make kv _ 27 rfl (N := 13) rfl 22 _ _ rfl (n : Int) rfl rfl Tryd.underlying22 (.slice none 0 0) 24 infoL rfl (by decide) (by omega) (⟨none, 0, 0⟩ : Rw) (ok := fun _ => True) (okp := fun _ => True) rfl (fun _ hk => hk) trivial (by omega) (by have := H4.out; omega) (Below.refl _ _) (Nat.le_refl _) ?_; intro vg w1 ho1 hb1 hg_ hnew_; rw [Int.toNat_natCast] at ho1; have HG := Aside0.mk ho1; have HB1 := Aside0.mk hb1; clear ho1 hb1 hg_ hnew_)
  obtain ⟨Ag, cg, hvg⟩ := Kd.R_slice HG.out
  rw [List.length_replicate] at hvg
  subst hvg
  obtain ⟨gb, hgb, hgbb, hdg⟩ := HD_of_kv (by rw [List.length_replicate]; exact hp) HG.out
  subst hgb
  obtain ⟨gs0, hgs0⟩ : ∃ gs0, gs0 = List.replicate n (⟨none, 0, 0⟩ : Rw) := ⟨_, rfl⟩
  rw [← hgs0] at hdg
  have HGS : Aside0 (gs0.length = n) := ⟨by rw [hgs0, List.length_replicate]⟩
  have HGB : Aside0 (w.heap.size ≤ gb) := ⟨hgbb⟩
  have HGO : Aside0 (gb ≠ go) := ⟨by have := HO.out.lt; omega⟩
  have HO1 : Aside0 (HD w1 27 go (rs.map Rw.v)) := ⟨HO.out.below HB1.out⟩
  have HG1 : Aside0 (HD w1 27 gb (gs0.map Rw.v)) := ⟨hdg⟩
  have HF1 : Aside0 (Fill w1 b rs 0) := ⟨fun j r hj => by obtain ⟨xs, hx, hm⟩ := HR.out j r hj; exact ⟨xs, Kd.R_below hx HB1.out, hm⟩⟩
  have HB1b : Aside0 (Below b w w1) := ⟨⟨HB1.out.os, HB1.out.tape, HB1.out.output, HB1.out.size, fun k hk => HB1.out.block k (by have := HBS.out; omega)⟩⟩
  clear hdg hgs0 HG hgbb
  go_loopw [4] (fun ti wr => ∃ i : Nat, ti = .int .i64 (i : Int) ∧ Aside0 (i ≤ n) ∧ Aside0 (Fill wr b rs i) ∧ Aside0 (HD wr 27 go (rs.map Rw.v)) ∧ Aside0 (HD wr 27 gb (gs0.map Rw.v)) ∧ Aside0 (Below b w wr)) (fun ti _ => n - left ti)
  case atStart => exact ⟨0, rfl, ⟨Nat.zero_le _⟩, HF1, HO1, HG1, HB1b⟩
  case round =>
    obtain ⟨i, rfl, hi, HF, HOi, HGi, HB⟩ := hrel
    by_cases ci : i < n
    · have d1 : decide ((i : Int) < (n : Int)) = true := decide_eq_true (by omega)
      have d2 : decide (i < n) = true := decide_eq_true ci
      have HW := Aside0.mk (nextN i n (by have := H4.out; omega) ci)
      have ML := Aside0.mk (lessN i n (by have := H4.out; omega) ci)
      obtain ⟨r, hri⟩ : ∃ r, rs[i]? = some r := ⟨rs[i]'(by have := HN.out; omega), List.getElem?_eq_getElem _⟩
      have hcell : wr.cell? ⟨go, i, none⟩ = some (.slice r.A r.n r.c) := HOi.out.cell (by rw [List.getElem?_map, hri]; rfl)
      obtain ⟨xs0, hx0, _⟩ := HF.out i r hri
      have HX0 := Aside0.mk hx0
      have HL0 : Aside0 (xs0.length = r.n) := ⟨(Kd.R_reads' hx0).1.symm⟩
      have HRI := Aside0.mk hri
      have HOA : Aside0 (OthA wr b 27 go gb rs gs0 i) := ⟨⟨HOi.out, HGi.out, fun j r' hj hr' => HF.out j r' hr'⟩⟩
      have HMX : Aside0 (r.n ≤ 9223372036854775807) := ⟨by have := Kd.C_max (Kd.R_reads' hx0).2.2; have := HL0.out; omega⟩
      clear hx0 hri
      obtain ⟨W1, hW1⟩ : ∃ W1, W1 = wr := ⟨_, rfl⟩
      rw [← hW1] at HX0 HOA HB hcell
      rw [← hW1]
      clear hW1
      go_wp2
      go_loopw [5] (fun tk wr => ∃ (k : Nat) (xs : List Int), tk = .int .i64 (k : Int) ∧ Aside0 (k ≤ r.n) ∧ Aside0 (xs.length = r.n) ∧ Aside0 (RB wr b r.v xs) ∧ Aside0 (∀ q, q < k → rd xs (q : Int) = mark i) ∧ Aside0 (OthA wr b 27 go gb rs gs0 i) ∧ Aside0 (Below b w wr)) (fun tk _ => r.n - left tk)
      case atStart => exact ⟨0, xs0, rfl, ⟨Nat.zero_le _⟩, HL0, HX0, ⟨fun q hq => absurd hq (by omega)⟩, HOA, HB⟩
      case round =>
        obtain ⟨k, xs, rfl, hk, HXL, HX, HXT, HOk, HBk⟩ := hrel
        have hcell2 : wr.cell? ⟨go, i, none⟩ = some (.slice r.A r.n r.c) := HOk.out.ho.cell (by rw [List.getElem?_map, HRI.out]; rfl)
        by_cases ck : k < r.n
        · have d3 : decide ((k : Int) < (r.n : Int)) = true := decide_eq_true (by omega)
          have d4 : decide (k < r.n) = true := decide_eq_true ck
          have HW2 := Aside0.mk (nextN k r.n HMX.out ck)
          have ML2 := Aside0.mk (lessN k r.n HMX.out ck)
          obtain ⟨g, cap, hgv, _⟩ := Kd.R_form HX.out (by have := HXL.out; omega)
          have hA : r.A = some ⟨g, 0, none⟩ := by unfold Rw.v at hgv; injection hgv
          rw [hA] at hcell2
          have HX2 : Aside0 (RB wr b (.slice (some ⟨g, 0, none⟩) r.n r.c) xs) := ⟨by have := HX.out; unfold Rw.v at this; rwa [hA] at this⟩
          obtain ⟨hx, hz⟩ := Kd.R_celln 0 HX2.out (k : Int) (by omega) (by omega)
          rw [Int.toNat_natCast] at hx hz
          have HPUT := Aside0.mk (Kd.R_putg HX2.out (k : Int) (mark i))
          have HGA := Aside0.mk hA
          clear hA hgv
          go_wp2
          refine ⟨⟨k + 1, xs.set k (mark i), by rw [HW2.out], ⟨by omega⟩, ⟨by rw [List.length_set]; exact HXL.out⟩, ⟨by unfold Rw.v; rw [HGA.out]; exact HPUT.out.1⟩, ⟨set_rd (by have := HXL.out; omega) HXT.out⟩, ⟨HOk.out.grown HPUT.out.2 (HOk.out.ho.ne HX2.out (by decide)) (HOk.out.hg.ne HX2.out (by decide)) (fun j r' hj hr' q hq e => ?_)⟩, ⟨HBk.out.setCell (p := ⟨g, k, none⟩) (Kd.R_base HX2.out g (by simp [Value.ownBlock])) _⟩⟩, ML2.out⟩
          injection hq with hq
          subst hq
          exact HAP.out i j r r' (Ne.symm hj) HRI.out hr' g (by unfold Rw.v; rw [HGA.out]; simp [Value.ownBlock]) e.symm
        · have d3 : decide ((k : Int) < (r.n : Int)) = false := decide_eq_false (by omega)
          have d4 : decide (k < r.n) = false := decide_eq_false ck
          have HDONE : Aside0 (xs = mks (mark i) r.n) := ⟨all_mk HXL.out (fun j hj => HXT.out j (by omega))⟩
          go_wp2
          refine ⟨⟨i + 1, by first | rw [HW.out] | rfl, ⟨by omega⟩, ⟨fun j r' hr' => ?_⟩, ⟨HOk.out.ho⟩, ⟨HOk.out.hg⟩, HBk⟩, by first | exact ML.out | (show n - ((i : Int) + 1).toNat < n - ((i : Nat) : Int).toNat; omega)⟩
          by_cases e : j = i
          · subst e
            have hrr : r' = r := Option.some.inj (hr'.symm.trans HRI.out)
            subst hrr
            exact ⟨xs, HX.out, fun _ => HDONE.out⟩
          · obtain ⟨ys, hy, hm⟩ := HOk.out.rows j r' e hr'
            exact ⟨ys, hy, fun h => hm (by omega)⟩
    · have d1 : decide ((i : Int) < (n : Int)) = false := decide_eq_false (by omega)
      have d2 : decide (i < n) = false := decide_eq_false ci
      have HALL : Aside0 (∀ (j : Nat) (r : Rw), rs[j]? = some r → RB wr b r.v (mks (mark j) r.n)) := ⟨fun j r hr => by
        obtain ⟨xs, hx, hm⟩ := HF.out j r hr
        have : j < rs.length := (List.getElem?_eq_some_iff.1 hr).1
        rw [hm (by have := HN.out; omega)] at hx; exact hx⟩
      obtain ⟨W2, hW2⟩ : ∃ W2, W2 = wr := ⟨_, rfl⟩
      rw [← hW2] at HALL HOi HGi HB
      rw [← hW2]
      clear hW2 ci HF
      go_wp2
      clear d1 d2
      go_loopw [6] (fun ti wr => ∃ (i : Nat) (gs : List Rw), ti = .int .i64 (i : Int) ∧ Aside0 (i ≤ n) ∧ Aside0 (gs.length = n) ∧ Aside0 (HD wr 27 go (rs.map Rw.v)) ∧ Aside0 (HD wr 27 gb (gs.map Rw.v)) ∧ Aside0 (Done wr b gb mark rs gs i) ∧ Aside0 (Below b w wr)) (fun ti _ => n - left ti)
      case atStart => exact ⟨0, gs0, rfl, ⟨Nat.zero_le _⟩, HGS, HOi, HGi, ⟨Done.start HGi.out (by decide) HALL.out⟩, HB⟩
      case round =>
        obtain ⟨i, gs, rfl, hi2, HGL, HO2, HG2, HD2, HB2⟩ := hrel
        by_cases ci : i < n
        · have d1 : decide ((i : Int) < (n : Int)) = true := decide_eq_true (by omega)
          have d2 : decide (i < n) = true := decide_eq_true ci
          have HW := Aside0.mk (nextN i n (by have := H4.out; omega) ci)
          have ML := Aside0.mk (lessN i n (by have := H4.out; omega) ci)
          obtain ⟨r, hri⟩ : ∃ r, rs[i]? = some r := ⟨rs[i]'(by have := HN.out; omega), List.getElem?_eq_getElem _⟩
          have hcell : wr.cell? ⟨go, i, none⟩ = some (.slice r.A r.n r.c) := HO2.out.cell (by rw [List.getElem?_map, hri]; rfl)
          have hx0 := HD2.out.todo i r (Nat.le_refl _) hri
          have HRI := Aside0.mk hri
          have HALT := Aside0.mk (Alt.start hx0)
          have HOT := Aside0.mk (HD2.out.oth HO2.out HG2.out)
          have HFR : Aside0 (∀ k, r.v.ownBlock = some k → Free k go gb rs gs i) := ⟨fun k hk => HD2.out.free (by decide) HO2.out HG2.out HAP.out hri hk⟩
          have HTW : Aside0 (∀ (j j' : Nat) (g r : Rw), j < i → i < j' → gs[j]? = some g → rs[j']? = some r → ∀ k, g.v.ownBlock = some k → r.v.ownBlock ≠ some k) := ⟨fun j j' g r h1 h2 h3 h4 => HD2.out.two j j' g r h1 (by omega) h3 h4⟩
          have HRN : Aside0 (r.n * 1 ≤ 140737488355232) := ⟨by have := HSM.out r (List.mem_of_getElem? hri); omega⟩
          have CI := Aside0.mk ci
          clear hx0 hri
          obtain ⟨W3, hW3⟩ : ∃ W3, W3 = wr := ⟨_, rfl⟩
          rw [← hW3] at hcell HALT HOT HB2
          rw [← hW3]
          clear hW3 HO2 HG2 HD2
          go_wp2
          clear hcell ci
          go_loopw [7, 8] (fun tg tk wr => ∃ (k : Nat) (g : Rw), tk = .int .i64 (k : Int) ∧ tg = .slice g.A (r.n + k) g.c ∧ Aside0 (k ≤ 16) ∧ Aside0 (Alt wr b r g (mark i) k) ∧ Aside0 (Oth wr b 27 go gb mark rs gs i) ∧ Aside0 (∀ q, g.v.ownBlock = some q → Free q go gb rs gs i) ∧ Aside0 (Below b w wr)) (fun _ tk _ => 16 - left tk)
          case atStart => exact ⟨0, r, rfl, rfl, ⟨by omega⟩, HALT, HOT, HFR, HB2⟩
          case round =>
            obtain ⟨k, g, rfl, rfl, hk, HALk, HOTk, HFRk, HBk⟩ := hrel
            by_cases ck : k < 16
            · have e1 : decide ((k : Int) < 16) = true := decide_eq_true (by omega)
              have e2 : decide (k < 16) = true := decide_eq_true ck
              have CK := Aside0.mk ck
              have HW2 := Aside0.mk (nextN k 16 (by omega) ck)
              have ML2 := Aside0.mk (lessN k 16 (by omega) ck)
              have HGV : Aside0 (RB wr b (.slice g.A (r.n + k) g.c) (mks (mark i) (r.n + k))) := ⟨by have := HALk.out.1; unfold Rw.v at this; rwa [HALk.out.2.1] at this⟩
              have h5 : (i : Int) < 200 := by have := H4.out; have := CI.out; omega
              have h6 : 0 ≤ (i : Int) + 1 := by omega
              have h7 : (i : Int) + 1 < 256 := by omega
              clear ck
              go_wp2_with ((with_reducible refine gate_builtin (b := .append) (xs := #[.tmp 52, .tmp 56]) rfl ?_); at_builtin; refine Kd.R_went (Kd.int .u8) (w0 := w) b rfl (.tmp 52) (.tmp 56) 27 5 (.int .u8 0) 1 rfl Tryd.underlying27 info5 rfl (by decide) (by omega) (.slice g.A (r.n + k) g.c) (mks (mark i) (r.n + k)) (mark i) [.int .u8 (mark i)] (fun _ => True) (fun _ => False) rfl rfl (show Kd.M (Kd.int .u8) _ _ _ (mark i) [.int .u8 (mark i)] from rfl) (fun _ hk => hk.elim) (fun _ _ => trivial) HGV.out HBk.out ?aS ?aL ?_; (case aS => have := HBk.out.size; have := HBS.out; omega); (case aL => rw [mks_len]; have := HRN.out; have := CK.out; omega); intro v1 w5 ho hb hw; rw [mks_len] at hw; have HVO := Aside0.mk ho; have HB5 := Aside0.mk hb; have HW5 := Aside0.mk hw; clear ho hb hw)
              have HWG : Aside0 (Went wr w5 g.v v1 (r.n + k)) := ⟨by have := HW5.out; unfold Rw.v; rwa [HALk.out.2.1]⟩
              obtain ⟨g1, hg1, hal⟩ := HALk.out.step HVO.out HWG.out
              have hgn : g1.n = r.n + (k + 1) := hal.2.1
              have hgrow := HWG.out.grown
              refine ⟨⟨k + 1, g1, by rw [HW2.out], by rw [hg1]; unfold Rw.v; rw [hgn], ⟨by have := CK.out; omega⟩, ⟨hal⟩, ⟨HOTk.out.grown hgrow (fun q hq => HFRk.out q hq)⟩, ⟨fun q hq => ?_⟩, HB5⟩, ML2.out⟩
              rcases HWG.out.at with e | ⟨q', e, hle⟩
              · rw [← hg1, e] at hq; exact HFRk.out q hq
              · rw [← hg1, e] at hq; injection hq with hq; subst hq
                exact HOTk.out.fresh hle
            · have e1 : decide ((k : Int) < 16) = false := decide_eq_false (by omega)
              have e2 : decide (k < 16) = false := decide_eq_false ck
              obtain rfl : k = 16 := by have := hk.out; omega
              clear ck
              have hcw := HOTk.out.hg.frozen i
              obtain ⟨ge, hge⟩ : ∃ ge, gs[i]? = some ge := ⟨gs[i]'(by have := HGL.out; have := CI.out; omega), List.getElem?_eq_getElem _⟩
              have hcv : wr.cell? ⟨gb, i, none⟩ = some (.slice ge.A ge.n ge.c) := HOTk.out.hg.cell (by rw [List.getElem?_map, hge]; rfl)
              have hin : i < n := CI.out
              have hin2 : (i : Int) < (n : Int) := by omega
              have HNX := Aside0.mk (HOTk.out.next (by decide) HAP.out HTW.out HRI.out (by have := HGL.out; omega) HGO.out HALk.out HFRk.out)
              have HGV : Aside0 (g.v = .slice g.A (r.n + 16) g.c) := ⟨by unfold Rw.v; rw [HALk.out.2.1]⟩
              rw [HGV.out] at HNX
              clear hge
              go_wp2
              refine ⟨⟨i + 1, gs.set i g, by first | rw [HW.out] | rfl, ⟨by have := CI.out; omega⟩, ⟨by rw [List.length_set]; exact HGL.out⟩, ⟨HNX.out.1⟩, ⟨HNX.out.2.1⟩, ⟨HNX.out.2.2⟩, ⟨HBk.out.setCell (p := ⟨gb, i, none⟩) (by have := HGB.out; have := HBS.out; show b ≤ gb; omega) _⟩⟩, by first | exact ML.out | (show n - ((i : Int) + 1).toNat < n - ((i : Nat) : Int).toNat; omega)⟩
        · have d1 : decide ((i : Int) < (n : Int)) = false := decide_eq_false (by omega)
          have d2 : decide (i < n) = false := decide_eq_false ci
          obtain rfl : i = n := by have := hi2.out; omega
          obtain ⟨W3, hW3⟩ : ∃ W3, W3 = wr := ⟨_, rfl⟩
          rw [← hW3] at HO2 HG2 HD2 HB2
          rw [← hW3]
          clear hW3 ci
          go_wp2
          clear d1 d2
          go_loop [9] (fun ti => ∃ i' : Nat, ti = .int .i64 (i' : Int) ∧ Aside0 (i' ≤ i)) (fun ti => i - left ti)
          case atStart => exact ⟨0, rfl, ⟨Nat.zero_le _⟩⟩
          case round =>
            obtain ⟨j, rfl, hj⟩ := hrel
            by_cases cj : j < i
            · have d1 : decide ((j : Int) < (i : Int)) = true := decide_eq_true (by omega)
              have d2 : decide (j < i) = true := decide_eq_true cj
              have HW := Aside0.mk (nextN j i (by have := H4.out; omega) cj)
              have ML := Aside0.mk (lessN j i (by have := H4.out; omega) cj)
              obtain ⟨r, hri⟩ : ∃ r, rs[j]? = some r := ⟨rs[j]'(by have := HN.out; omega), List.getElem?_eq_getElem _⟩
              obtain ⟨g, hgi⟩ : ∃ g, gs[j]? = some g := ⟨gs[j]'(by have := HGL.out; omega), List.getElem?_eq_getElem _⟩
              have hc1 : W3.cell? ⟨go, j, none⟩ = some (.slice r.A r.n r.c) := HO2.out.cell (by rw [List.getElem?_map, hri]; rfl)
              have hc2 : W3.cell? ⟨gb, j, none⟩ = some (.slice g.A g.n g.c) := HG2.out.cell (by rw [List.getElem?_map, hgi]; rfl)
              obtain ⟨hgn, hF1, hF2⟩ := HD2.out.done j r g cj hri hgi
              have HC1 := Aside0.mk (Kd.F_now hF1)
              have HC2 := Aside0.mk (Kd.F_now hF2)
              have HGN := Aside0.mk hgn
              have HMX : Aside0 (g.n ≤ 9223372036854775807) := ⟨by have := Kd.C_max HC2.out; rwa [mks_len] at this⟩
              have CJ := Aside0.mk cj
              have h5 : (j : Int) < 200 := by have := H4.out; omega
              have h6 : 0 ≤ (j : Int) + 1 := by omega
              have h7 : (j : Int) + 1 < 256 := by omega
              clear hri hgi hgn hF1 hF2
              go_wp2
              go_loop [10] (fun tk => ∃ k : Nat, tk = .int .i64 (k : Int) ∧ Aside0 (k ≤ g.n)) (fun tk => g.n - left tk)
              case atStart => exact ⟨0, rfl, ⟨Nat.zero_le _⟩⟩
              case round =>
                obtain ⟨k, rfl, hk⟩ := hrel
                by_cases ck : k < g.n
                · have d3 : decide ((k : Int) < (g.n : Int)) = true := decide_eq_true (by omega)
                  have d4 : decide (k < g.n) = true := decide_eq_true ck
                  have HW2 := Aside0.mk (nextN k g.n HMX.out ck)
                  have ML2 := Aside0.mk (lessN k g.n HMX.out ck)
                  obtain ⟨ad, had, hcg⟩ := Kd.at_int HC2.out (k : Int) (by omega) (by rw [mks_len]; omega)
                  rw [Int.toNat_natCast, mks_rd ck] at hcg
                  have hcg2 : W3.cell? (ad.add k) = some (.int .u8 ((j : Int) + 1)) := hcg
                  rw [had] at hc2
                  have d7 : ((j : Int) + 1 == (j : Int) + 1) = true := beq_self_eq_true _
                  by_cases cr : k < r.n
                  · have d5 : decide ((k : Int) < (r.n : Int)) = true := decide_eq_true (by omega)
                    have d6 : decide (k < r.n) = true := decide_eq_true cr
                    obtain ⟨ad2, had2, hcr⟩ := Kd.at_int HC1.out (k : Int) (by omega) (by rw [mks_len]; omega)
                    rw [Int.toNat_natCast, mks_rd cr] at hcr
                    have hcr2 : W3.cell? (ad2.add k) = some (.int .u8 ((j : Int) + 1)) := hcr
                    rw [had2] at hc1
                    clear hcg hcr had had2
                    go_wp2
                    refine ⟨⟨k + 1, by first | rw [HW2.out] | rfl, ⟨by omega⟩⟩, by first | exact ML2.out | (show g.n - ((k : Int) + 1).toNat < g.n - ((k : Nat) : Int).toNat; omega)⟩
                  · have d5 : decide ((k : Int) < (r.n : Int)) = false := decide_eq_false (by omega)
                    have d6 : decide (k < r.n) = false := decide_eq_false cr
                    clear hcg had
                    go_wp2
                    refine ⟨⟨k + 1, by first | rw [HW2.out] | rfl, ⟨by omega⟩⟩, by first | exact ML2.out | (show g.n - ((k : Int) + 1).toNat < g.n - ((k : Nat) : Int).toNat; omega)⟩
                · have d3 : decide ((k : Int) < (g.n : Int)) = false := decide_eq_false (by omega)
                  have d4 : decide (k < g.n) = false := decide_eq_false ck
                  clear ck
                  go_wp2
                  refine ⟨⟨j + 1, by first | rw [HW.out] | rfl, ⟨by have := CJ.out; omega⟩⟩, by first | exact ML.out | (show i - ((j : Int) + 1).toNat < i - ((j : Nat) : Int).toNat; omega)⟩
            · have d1 : decide ((j : Int) < (i : Int)) = false := decide_eq_false (by omega)
              have d2 : decide (j < i) = false := decide_eq_false cj
              go_wp2
              go_ret
              exact ⟨rfl, HB2.out⟩
end Go.Proofs.YtoddldamekamoaaDoor.K
