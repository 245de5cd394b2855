/- The texts of the law ParseBlanks, put together by a program of this workplace out of its own texts and of what the kit's print has written: walks of the functions, plain laws. No condition but those in the theorems. -/
import Derived.Test.YtbdcndkafaajpaaBParseBlanks0
import Derived.Test.YtbdcndkafaajpaaBParseBlanks1
import Derived.Test.YtbdcndkafaajpaaBParseBlanks2
section
set_option linter.unusedVariables false
set_option linter.unusedSimpArgs false
namespace Go.Proofs.Ytbdcndkafaajpaa.A
open Go.RowKit Go.Proofs.Ytbdcndkafaajpaa.X Go.Proofs.YtbdcndkafaajpaaW.PrintWords Go.Proofs.YtbdcndkafaajpaaW.PrintLast Go.Proofs.YtbdcndkafaajpaaW.PrintMore
open Go.Proofs.Ytbdcndkafaajpaa.P (Nd EO Res hd isT isM takeM mxl comb mk1 StD VeD EvD)
theorem Up.len {w : World} {A : Option Addr} {c : Nat} {L : List Tk} {g : Nat} {s : US} (h : Up w A c L g s) : ∀ ts, s = .ok ts → ts.length ≤ L.length := by
  rintro ts rfl
  obtain ⟨q, lv, v5, v6, hq, hp⟩ := h
  rw [← hq.2, List.length_drop]; omega
theorem rows_news {w' w0 : World} {B : Nat} {q : Row} {l m : List Row} (h : Rows w' B (q :: l)) (hm : Rows w' w0.heap.size m) (hB : B ≤ w0.heap.size) (h0 : Rows w0 B (q :: l)) : Rows w' B (q :: (m ++ l)) := by
  have hj := hm.join (base := B) h.tail hB (fun i hi => (h0.tail.in_ i hi).2)
  refine ⟨fun r hr => ?_, ⟨fun k hk hmem => ?_, hj.lone⟩⟩
  · rcases List.mem_cons.1 hr with rfl | hr
    · exact h.head
    · exact hj.holds r hr
  · rw [List.map_append] at hmem
    rcases List.mem_append.1 hmem with hmem | hmem
    · have h1 := (hm.in_ k hmem).1
      have h2 := (h0.in_ k (by rw [← hk]; exact List.mem_cons_self)).2
      omega
    · exact h.lone.1 k hk hmem
structure EvL (F : Res EvD) (nm : ByteArray) (p : Int) (w : World) (A : Option Addr) (c : Nat) (L : List Tk) (g b2 b3 B N : Nat) (k : Nat) (wr : World) (S : US) (v : Sl) (sv : List VeV) (l : List Row) (ds : List VeD) : Prop where
  up : Up wr A c L g S
  gr : w.grownBy wr (some g)
  bx : wr.heap[b3]? = some (.cells #[.string nm, .slice v.A v.n v.c, .int .i64 p] 57 (0, 0))
  by_ : wr.heap[b2]? = some (.cells #[.string ⟨#[]⟩, .slice none 0 0, .int .i64 0] 57 (0, 0))
  rows : Rows wr B (Row.v v sv :: l)
  bl : B ≤ wr.heap.size
  nn : sv.length + k ≤ N
  tr : ∀ r, S = .ok r → All2 (VeT l) ds sv
  co : Co F (fun r => (P.versionsW k ds r).bind fun l r => (takeM 125 r).bind fun _ r => .ok ⟨nm, l, p⟩ r) S
theorem len4 {s : US} {L : List Tk} {r : List Tk} (h : ∀ ts, s = .ok ts → ts.length ≤ L.length) (hr : (((s.step (P.wordW P.sEvent)).step P.nameW).step (takeM 123)) = .ok r) : r.length ≤ L.length := by
  obtain ⟨t2, a2, h2, k2⟩ := step_okS hr
  obtain ⟨t1, a1, h1, k1⟩ := step_okS h2
  obtain ⟨t0, a0, h0, k0⟩ := step_okS h1
  have e0 := h _ h0
  have e1 := P.wordW_ok k0
  have e2 := P.nameW_ok k1
  have e3 := (P.takeM_ok k2).2.2.2
  omega
theorem Co.is {β : Type} {F : Res β} {f g : List Tk → Res β} {S : US} {k : Int} {x : ByteArray} {b : Bool} (h : Co F (fun r => if isT k x r then f r else g r) S) (hb : S.is k x = b) : Co F (if b then f else g) S := by
  refine h.to (fun r hr => ?_)
  subst hr
  have hb : isT k x r = b := hb
  rw [hb]
  cases b <;> rfl
set_option maxHeartbeats 16000000 in
set_option maxRecDepth 100000 in
theorem event_calls (w : World) (A : Option Addr) (c : Nat) (L : List Tk) (g : Nat) (s : US) (hG : Good L) (hL : L.length ≤ 33554432) (h : Up w A c L g s) :
    Calls Try.prog 40 #[.pointer (some ⟨g, 0, none⟩)] w fun e w' => ∃ x l, e = .returned (.agg #[.string x.name, .slice x.vers.A x.vers.n x.vers.c, .int .i64 x.pl]) ∧ Rows w' w.heap.size l ∧ Up w' A c L g (s.step P.eventW) ∧ w.grownBy w' (some g) ∧ ∀ ts d r, s = .ok ts → P.eventW ts = .ok d r → EvT l d x := by
  obtain ⟨w0, hw0⟩ : ∃ w0, w0 = w.alloc (.cells #[.string ⟨#[]⟩, .slice none 0 0, .int .i64 0] 57) := ⟨_, rfl⟩
  obtain ⟨b2, hb2⟩ : ∃ b2, b2 = w.heap.size := ⟨_, rfl⟩
  have hB0 : Below w.heap.size w w0 := by rw [hw0]; exact below_alloc (Below.refl _ _) _
  have HU0 := Aside0.mk (h.below hB0)
  have HR0 := Aside0.mk (grown_below hB0 (some g))
  have HY0 := Aside0.mk (show w0.heap[b2]? = some (.cells #[.string ⟨#[]⟩, .slice none 0 0, .int .i64 0] 57 (0, 0)) from by rw [hw0, hb2]; exact blk_new _ _)
  have GB2 : Aside0 (g < b2) := ⟨by rw [hb2]; exact h.glt⟩
  have NB2 : Aside0 (b2 ≠ g) := ⟨by have := GB2.out; omega⟩
  have LB2 : Aside0 (w.heap.size ≤ b2) := ⟨by rw [hb2]; exact Nat.le_refl _⟩
  have HB2 := Aside0.mk hb2
  have HW0 := Aside0.mk hw0
  have HG := Aside0.mk hG
  have HL := Aside0.mk hL
  have HSZ := Aside0.mk h.len
  obtain ⟨F, hF0, hFe⟩ := Co.start s P.eventW
  have HNE : Aside0 (∀ p, F ≠ .bad 0 p) := ⟨by
    intro p hp
    cases s with
    | ok ts => exact P.eventW_ne ts p (Eq.trans (Eq.symm hF0) hp)
    | bad e q =>
      obtain ⟨_, _, _, _, hq, _⟩ := h
      have : F = .bad e q := hF0
      rw [this] at hp
      cases hp
      exact hq.2.2 rfl⟩
  have HF0 := Aside0.mk hF0
  have HFE := Aside0.mk hFe
  have HC0 := Aside0.mk (show Co F (fun ts => (P.wordW P.sEvent ts).bind fun t r => (P.nameW r).bind fun m r => (takeM 123 r).bind fun _ r => (P.versionsW (r.length + 1) [] r).bind fun l r => (takeM 125 r).bind fun _ r => .ok ⟨m.f1, l, t.f3⟩ r) s from hF0)
  have HCL := Aside0.mk (uword_calls HG.out P.sEvent HU0.out)
  clear h hw0 hb2 hB0 hG hL hF0 hFe
  go_enter Try.func40, Try.ntmps40
  go_wp2_with fail
  rw [← HW0.out, ← HB2.out]
  refine HCL.out.mono ?_
  rintro e w1 ⟨⟨⟨k1, s1, n1, p1, e1⟩, hfr, rfl⟩, hu, hg⟩
  clear HCL
  have HC1 := Aside0.mk ((HC0.out).word hfr)
  have HU1 := Aside0.mk hu
  have HR1 := Aside0.mk (HR0.out.trans hg)
  have HY1 := Aside0.mk (keepB hg HY0.out NB2.out)
  clear hu hg hfr
  obtain ⟨fd0, fd1, fd2, fd3⟩ := fld ⟨k1, s1, n1, p1, e1⟩
  have HCL := Aside0.mk (uname_calls HG.out HU1.out)
  go_wp2_with fail
  refine HCL.out.mono ?_
  rintro e w4 ⟨⟨⟨k3, nm, n3, p3, e3⟩, hfr, rfl⟩, hu, hg⟩
  clear HCL
  have HC4 := Aside0.mk (Co.name HC1.out hfr)
  have HU4 := Aside0.mk hu
  have HR4 := Aside0.mk (HR1.out.trans hg)
  have HY4 := Aside0.mk (keepB hg HY1.out NB2.out)
  clear hu hg hfr
  obtain ⟨b3, hb3⟩ : ∃ b3, b3 = w4.heap.size := ⟨_, rfl⟩
  obtain ⟨w5, hw5⟩ : ∃ w5, w5 = w4.alloc (.cells #[.string nm, .slice none 0 0, .int .i64 p1] 57) := ⟨_, rfl⟩
  have hb : Below w4.heap.size w4 w5 := by rw [hw5]; exact below_alloc (Below.refl _ _) _
  have HU5 := Aside0.mk (HU4.out.below hb)
  have HR5 := Aside0.mk (HR4.out.trans (grown_below hb _))
  have HY5 := Aside0.mk (blk_below HY4.out hb)
  have HX5 := Aside0.mk (show w5.heap[b3]? = some (.cells #[.string nm, .slice none 0 0, .int .i64 p1] 57 (0, 0)) from by rw [hw5, hb3]; exact blk_new _ _)
  have GB3 : Aside0 (g < b3) := ⟨by rw [hb3]; exact HU4.out.glt⟩
  have NB3 : Aside0 (b3 ≠ g) := ⟨by have := GB3.out; omega⟩
  have LB3 : Aside0 (w.heap.size ≤ b3) := ⟨by rw [hb3]; exact HR4.out.size⟩
  have NB23 : Aside0 (b2 ≠ b3) := ⟨by have := blk_lt HY4.out; rw [hb3]; omega⟩
  have HB3 := Aside0.mk hb3
  have HW5 := Aside0.mk hw5
  clear hb hw5 hb3
  have HCL := Aside0.mk (umark_calls HG.out 123 HU5.out)
  go_wp2_with fail
  rw [← HW5.out, ← HB3.out]
  refine HCL.out.mono ?_
  rintro e w6 ⟨⟨tq, hfr, rfl⟩, hu, hg⟩
  clear HCL
  have HC6 := Aside0.mk ((HC4.out).mark hfr)
  obtain ⟨S6, hS6⟩ : ∃ S6, S6 = (((s.step (P.wordW P.sEvent)).step P.nameW).step (takeM 123)) := ⟨_, rfl⟩
  have HSL : Aside0 (∀ r, S6 = .ok r → r.length ≤ L.length) := ⟨fun r hr => by rw [hS6] at hr; exact len4 HSZ.out hr⟩
  obtain ⟨N, hN, hN2⟩ : ∃ N, N ≤ 33554433 ∧ ∀ r, S6 = .ok r → N = r.length + 1 := by
    cases hx : S6 with
    | ok r => exact ⟨r.length + 1, by have := HSL.out r hx; have := HL.out; omega, fun r' h => by cases h; rfl⟩
    | bad e p => exact ⟨0, by omega, fun r' h => by cases h⟩
  have HLP : Aside0 (EvL F nm p1 w A c L g b2 b3 w6.heap.size N N w6 S6 ⟨none, 0, 0⟩ [] [] []) := ⟨{
    up := by rw [hS6]; exact hu
    gr := HR5.out.trans hg
    bx := keepB hg HX5.out NB3.out
    by_ := keepB hg HY5.out NB2.out
    rows := ⟨fun r hr => by rw [List.mem_singleton.1 hr]; exact Kd.R_nil _ _ _ _ _, ⟨fun k hk => by simp [Row.own, Row.sl, Sl.v, Value.ownBlock] at hk, trivial⟩⟩
    bl := Nat.le_refl _
    nn := by simp
    tr := fun _ _ => trivial
    co := by
      rw [hS6]
      exact HC6.out.to (fun r hr => by rw [hN2 r (by rw [hS6]; exact hr)]) }⟩
  have HB6 : Aside0 (b3 < w6.heap.size ∧ b2 < w6.heap.size ∧ g < w6.heap.size ∧ w.heap.size ≤ w6.heap.size) := ⟨blk_lt (keepB hg HX5.out NB3.out), blk_lt (keepB hg HY5.out NB2.out), hu.glt, (HR5.out.trans hg).size⟩
  obtain ⟨B6, hB6⟩ : ∃ B6, B6 = w6.heap.size := ⟨_, rfl⟩
  rw [← hB6] at HLP HB6
  have HN := Aside0.mk hN
  clear hu hg hfr hN2 hS6 hB6
  go_wp2_with fail
  go_loopg [] N (fun k wr => ∃ S v sv l ds, Aside0 (EvL F nm p1 w A c L g b2 b3 B6 N k wr S v sv l ds))
  case atStart => exact ⟨_, _, _, _, _, HLP⟩
  case round =>
    obtain ⟨S, ⟨Av, nv, cv⟩, sv, l, ds, HV⟩ := hrel
    have HPOS : Aside0 (∀ r, S = .ok r → 0 < gk) := ⟨fun r hr => by
      have := HV.out.co
      subst hr
      rcases Nat.eq_zero_or_pos gk with h | h
      · subst h; exact absurd this (HNE.out 0)
      · exact h⟩
    have HCO : Aside0 (Co F (fun r => (P.versionW r).bind fun d r => if isT 1 P.sVersion r then (P.versionsW (gk - 1) (ds ++ [d]) r).bind fun l r => (takeM 125 r).bind fun _ r => .ok (⟨nm, l, p1⟩ : EvD) r else (takeM 125 r).bind fun _ r => .ok (⟨nm, ds ++ [d], p1⟩ : EvD) r) S) := ⟨HV.out.co.to (fun r hr => by
      obtain ⟨m, hm⟩ : ∃ m, gk = m + 1 := ⟨gk - 1, by have := HPOS.out r hr; omega⟩
      subst hm
      show (P.versionsW (m + 1) ds r).bind _ = _
      rw [P.versionsW, bindA]
      congr 1
      funext d r
      by_cases ht : isT 1 P.sVersion r = true
      · rw [if_pos ht, if_pos ht]; rfl
      · rw [if_neg ht, if_neg ht]; rfl)⟩
    obtain ⟨dd, hdd⟩ : ∃ dd, ∀ ts d r', S = .ok ts → P.versionW ts = .ok d r' → d = dd := by
      cases hS : S with
      | ok r =>
        cases hx : P.versionW r with
        | ok d r' => exact ⟨d, fun ts d' r'' h1 h2 => by cases h1; rw [hx] at h2; cases h2; rfl⟩
        | bad e q => exact ⟨⟨0, [], 0⟩, fun ts d' r'' h1 h2 => by cases h1; rw [hx] at h2; cases h2⟩
      | bad e q => exact ⟨⟨0, [], 0⟩, fun ts d' r'' h1 h2 => by cases h1⟩
    have HDD := Aside0.mk hdd
    have HC7 := Aside0.mk (Co.call (P := fun _ => True) (g' := fun r => if isT 1 P.sVersion r then (P.versionsW (gk - 1) (ds ++ [dd]) r).bind fun l r => (takeM 125 r).bind fun _ r => .ok (⟨nm, l, p1⟩ : EvD) r else (takeM 125 r).bind fun _ r => .ok (⟨nm, ds ++ [dd], p1⟩ : EvD) r) HCO.out (fun ts a r h1 h2 => by rw [hdd ts a r h1 h2]))
    clear hdd
    have S0 : (fun w' : World => w'.cell? ⟨b3, 1, none⟩ = some (.slice Av nv cv)) wr.drew := (blk_cell HV.out.bx 1).trans rfl
    go_wp2
    refine start_ (n := 8) (S := fun w' => w'.cell? ⟨b3, 1, none⟩ = some (.slice Av nv cv)) (ds := [7]) #[false, false, false, false, false, false, false, false] (by kernel_rfl) rfl rfl (S0) (fun hHeld => ?_)
    refine pure_ (i := 0) (N := some 12) (v := ?_) (a' := ?_) #[true, false, false, false, false, false, false, false] rfl rfl (by kernel_rfl) (fun _ _ _ h => h) (Or.inl ⟨by rfl, ?_⟩) ?_ ?_
    rotate_left
    · intro w'
      go_simp
      with_reducible rfl
    rotate_left
    · simp only [Act.put, List.setIfInBounds_toArray, List.set_cons_zero, List.set_cons_succ, i64_w, i32_w]
      rfl
    refine take_ (i := 1) (N := some 13) (v := ?_) (a' := ?_) #[true, true, false, false, false, false, false, false] rfl rfl (by kernel_rfl) (fun _ _ _ h => h) (Or.inl ⟨by rfl, ?_⟩) hHeld ?_ ?_
    rotate_left
    · intro w' hS'
      have hS2 : w'.cell? ⟨b3, 1, none⟩ = some (.slice Av nv cv) := hS'
      clear hS'
      go_simp
      with_reducible rfl
    rotate_left
    · simp only [Act.put, List.setIfInBounds_toArray, List.set_cons_zero, List.set_cons_succ, i64_w, i32_w]
      rfl
    refine pure_ (i := 2) (N := some 14) (v := ?_) (a' := ?_) #[true, true, true, false, false, false, false, false] rfl rfl (by kernel_rfl) (fun _ _ _ h => h) (Or.inl ⟨by rfl, ?_⟩) ?_ ?_
    rotate_left
    · intro w'
      go_simp
      with_reducible rfl
    rotate_left
    · simp only [Act.put, List.setIfInBounds_toArray, List.set_cons_zero, List.set_cons_succ, i64_w, i32_w]
      rfl
    refine one_ (i := 3) (N := some 15) #[true, true, true, true, false, false, false, false] rfl rfl (by kernel_rfl) (by decide) (fun K hK => ?_)
    refine goes_ Try.func62 (by kernel_rfl) rfl #[.pointer (some ⟨g, 0, none⟩)] (by rfl) rfl rfl (by (try simp only [List.map_toArray, List.map_cons, List.map_nil]); first | done | rfl) ?_
    refine (version_calls wr.drew A c L g S HG.out HL.out (HV.out.up.below (below_drew1 (Below.refl _ _))) HV.out.up.len).mono ?_
    rintro e w8 ⟨x, lx, rfl, hrn, hu, hg, hval⟩
    have hgd : wr.grownBy w8 (some g) := (grown_below (below_drew1 (Below.refl _ _)) _).trans hg
    have HX8 := Aside0.mk (keepB hgd HV.out.bx NB3.out)
    have HY8 := Aside0.mk (keepB hgd HV.out.by_ NB2.out)
    have HR8 := Aside0.mk (HV.out.gr.trans hgd)
    have HQ8 := Aside0.mk (rows_news (w0 := wr) (HV.out.rows.grown hgd (by have := HB6.out; omega)) hrn HV.out.bl HV.out.rows)
    have HU8 := Aside0.mk hu
    have HVAL := Aside0.mk hval
    have HZ8 : Aside0 (B6 ≤ w8.heap.size) := ⟨Nat.le_trans HV.out.bl hgd.size⟩
    have SC : (fun w' : World => w'.cell? ⟨b3, 1, none⟩ = some (.slice Av nv cv)) w8 := (blk_cell HX8.out 1).trans rfl
    clear hrn hu hg hval hgd
    refine ⟨_, rfl, ?_⟩
    refine hK.out _ _ (SC) (fun hHeld => ?_)
    clear hK K
    have HBZ := Aside0.mk (show Below w8.heap.size w8 (w8.alloc (.cells #[.int .u64 x.num, .slice x.steps.A x.steps.n x.steps.c, .int .i64 x.pl] 60)) from below_alloc (Below.refl _ _) _)
    have SB : (fun w' : World => w'.cell? ⟨b3, 1, none⟩ = some (.slice Av nv cv)) (w8.alloc (.cells #[.int .u64 x.num, .slice x.steps.A x.steps.n x.steps.c, .int .i64 x.pl] 60)) := (blk_cell (blk_below HX8.out HBZ.out) 1).trans rfl
    refine one_ (i := 4) (N := some 16) #[true, true, true, true, true, false, false, false] rfl rfl (by kernel_rfl) (by decide) (fun K hK => ?_)
    refine value_ (w1 := ?_) (v := ?_) (by rfl) rfl ?_ ?_
    rotate_left 2
    · go_simp
      first | rfl | (constructor <;> rfl)
    refine hK.out _ _ (SB) (fun hHeld => ?_)
    clear hK K
    refine one_ (i := 5) (N := some 17) #[true, true, true, true, true, true, false, false] rfl rfl (by kernel_rfl) (by decide) (fun K hK => ?_)
    refine Kd.R_step_at (N := some 17) rfl kve (w0 := w8) B6 (by rfl) (.tmp 13) (.tmp 16) 55 60 (.agg #[.int .u64 0, .slice none 0 0, .int .i64 0]) 40 rfl Try.underlying55 infoV rfl (by decide) (by omega) (.slice Av nv cv) sv x (veCs x) (fun _ => True) (fun _ => False) (by rfl) ⟨w8.heap.size, 0, none⟩ 1 (by rfl) (World.news_of_block (cs := (veCs x).toArray) (t := 60) (fr := (0, 0)) (heap_alloc_new _ _)) (kve_mkM _ _ _ x) (fun _ hk => hk.elim) (fun _ _ => trivial) (Kd.R_below (d := kve) HQ8.out.head HBZ.out) (HBZ.out.mono HZ8.out) (by have := HZ8.out; have := HBZ.out.size; omega) (by have := HV.out.nn; have := HN.out; omega) ?_
    intro v2 w9 ho hb hw
    obtain ⟨A2, c2_, hv2⟩ := Kd.R_slice ho
    rw [List.length_append, List.length_singleton] at hv2
    subst hv2
    have hq9 : Rows w9 B6 (Row.v ⟨A2, sv.length + 1, c2_⟩ (sv ++ [x]) :: (lx ++ l)) := (HQ8.out.keep (fun k _ hk => HBZ.out.block k hk)).grow hw.grown ho hw.at
    have hne3 : some b3 ≠ (Value.slice Av nv cv).ownBlock := fun e => by have := (HQ8.out.in_ b3 (by rw [e]; exact List.mem_cons_self)).1; have := HB6.out; omega
    have hne2 : some b2 ≠ (Value.slice Av nv cv).ownBlock := fun e => by have := (HQ8.out.in_ b2 (by rw [e]; exact List.mem_cons_self)).1; have := HB6.out; omega
    have HX9 := Aside0.mk (blk_grown (blk_below HX8.out HBZ.out) hw.grown hne3)
    have HY9 := Aside0.mk (blk_grown (blk_below HY8.out HBZ.out) hw.grown hne2)
    have HU9 := Aside0.mk (up_grown (HU8.out.below HBZ.out) hw.grown (fun k hk => by have := (HQ8.out.in_ k (by rw [← hk]; exact List.mem_cons_self)).1; have := HB6.out; omega))
    have HR9 := Aside0.mk (grown_over (HR8.out.trans (grown_below HBZ.out _)) hw.grown (fun k hk => by have := (HQ8.out.in_ k (by rw [← hk]; exact List.mem_cons_self)).1; have := HB6.out; omega))
    have HZ9 : Aside0 (B6 ≤ w9.heap.size) := ⟨by have := HZ8.out; have := HBZ.out.size; have := hw.grown.size; omega⟩
    have HQ9 := Aside0.mk hq9
    have SA : (fun w' : World => w'.cell? ⟨b3, 1, none⟩ = some (.slice Av nv cv)) w9 := (blk_cell HX9.out 1).trans rfl
    have c1_9 : w9.cell? ⟨b3, 1, none⟩ = some (.slice Av nv cv) := SA
    have f1_9 := blk_frozen HX9.out 1
    clear ho hb hw hq9 hne3 hne2
    refine hK.out _ _ (SA) (fun hHeld => ?_)
    clear hK K
    refine pure_ (i := 6) (N := some 18) (v := ?_) (a' := ?_) #[true, true, true, true, true, true, true, false] rfl rfl (by kernel_rfl) (fun _ _ _ h => h) (Or.inl ⟨by rfl, ?_⟩) ?_ ?_
    rotate_left
    · intro w'
      go_simp
      with_reducible rfl
    rotate_left
    · simp only [Act.put, List.setIfInBounds_toArray, List.set_cons_zero, List.set_cons_succ, i64_w, i32_w]
      rfl
    refine last_ (i := 7) (N := none) #[true, true, true, true, true, true, true, true] rfl rfl (by kernel_rfl) (by decide) (fun K hK => ?_)
    refine skip_ (w1 := ?_) (by rfl) rfl ?_ ?_
    rotate_left
    · go_simp
      first | rfl | (constructor <;> rfl)
    refine hK.out _ _ ?_
    clear hK K
    refine done_ (by kernel_rfl) ?_
    obtain ⟨wa, hwa⟩ : ∃ wa, wa = w9.setCell ⟨b3, 1, none⟩ (.slice A2 (sv.length + 1) c2_) := ⟨_, rfl⟩
    have HUA := Aside0.mk (show Up wa A c L g _ from by rw [hwa]; exact HU9.out.far GB3.out 1 _)
    have HRA := Aside0.mk (show w.grownBy wa (some g) from by rw [hwa]; exact grown_far (g := g) HR9.out LB3.out 1 _)
    have HXA := Aside0.mk (show wa.heap[b3]? = some (.cells #[.string nm, .slice A2 (sv.length + 1) c2_, .int .i64 p1] 57 (0, 0)) from by rw [hwa]; exact (blk_setS HX9.out _).trans (by rfl))
    have HYA := Aside0.mk (show wa.heap[b2]? = some (.cells #[.string ⟨#[]⟩, .slice none 0 0, .int .i64 0] 57 (0, 0)) from by rw [hwa]; exact blk_setN NB23.out HY9.out _)
    have HQA := Aside0.mk (show Rows wa B6 _ from by rw [hwa]; exact HQ9.out.far (by have := HB6.out; omega))
    have HZA : Aside0 (B6 ≤ wa.heap.size) := ⟨by rw [hwa]; simpa using HZ9.out⟩
    have HTA : Aside0 (∀ r1, S.step P.versionW = .ok r1 → All2 (VeT (lx ++ l)) (ds ++ [dd]) (sv ++ [x])) := ⟨fun r1 hr1 => by
      obtain ⟨ts, a, h1, h2⟩ := step_okS hr1
      have hd := HDD.out ts a r1 h1 h2
      subst hd
      exact ((HV.out.tr ts h1).imp (fun _ _ h => h.mono (fun _ hm => List.mem_append_right _ hm))).snoc ((HVAL.out ts a r1 h1 h2).mono (fun _ hm => List.mem_append_left _ hm))⟩
    have HWA := Aside0.mk hwa
    clear hwa
    have HIS := Aside0.mk (uis_calls 1 P.sVersion HUA.out)
    go_wp2_with fail
    rw [← HWA.out]
    cases hb : (S.step P.versionW).is 1 P.sVersion with
    | true =>
      have HCN := Aside0.mk (HC7.out.is hb)
      have HGK : Aside0 (0 < gk) := ⟨by
        cases hS : S with
        | ok r => exact HPOS.out r hS
        | bad e q => rw [hS] at hb; cases hb⟩
      rw [hb] at HIS
      clear hb
      refine HIS.out.mono ?_
      rintro e w7 ⟨rfl, hb7⟩
      have HU7 := Aside0.mk (HUA.out.below hb7)
      have HX7 := Aside0.mk (blk_below HXA.out hb7)
      have HY7 := Aside0.mk (blk_below HYA.out hb7)
      have HR7 := Aside0.mk (HRA.out.trans (grown_below hb7 _))
      have HQ7 := Aside0.mk (HQA.out.keep (fun k _ hk => hb7.block k hk))
      have HZ7 : Aside0 (B6 ≤ w7.heap.size) := ⟨Nat.le_trans HZA.out hb7.size⟩
      clear hb7
      go_wp2
      go_roundg (gk - 1)
      case measure => have := HGK.out; omega
      case rel =>
        refine ⟨S.step P.versionW, ⟨A2, sv.length + 1, c2_⟩, sv ++ [x], lx ++ l, ds ++ [dd], ⟨{ up := HU7.out, gr := HR7.out, bx := HX7.out, by_ := HY7.out, rows := HQ7.out, bl := HZ7.out, nn := ?_, tr := HTA.out, co := HCN.out }⟩⟩
        have := HV.out.nn; have := HGK.out; rw [List.length_append, List.length_singleton]; omega
    | false =>
      have HCE := Aside0.mk (show Co F (fun r => (takeM 125 r).bind fun _ r => .ok (⟨nm, ds ++ [dd], p1⟩ : EvD) r) (S.step P.versionW) from HC7.out.is hb)
      rw [hb] at HIS
      clear hb
      refine HIS.out.mono ?_
      rintro e w7 ⟨rfl, hb7⟩
      have HU7 := Aside0.mk (HUA.out.below hb7)
      have HX7 := Aside0.mk (blk_below HXA.out hb7)
      have HY7 := Aside0.mk (blk_below HYA.out hb7)
      have HR7 := Aside0.mk (HRA.out.trans (grown_below hb7 _))
      have HQ7 := Aside0.mk (HQA.out.keep (fun k _ hk => hb7.block k hk))
      clear hb7
      have HCL := Aside0.mk (umark_calls HG.out 125 HU7.out)
      go_wp2_with fail
      refine HCL.out.mono ?_
      rintro e wz ⟨⟨tz, hfr, rfl⟩, hu, hg⟩
      clear HCL
      have HCZ := Aside0.mk ((HCE.out).mark hfr)
      have HXZ := Aside0.mk (keepB hg HX7.out NB3.out)
      have HYZ := Aside0.mk (keepB hg HY7.out NB2.out)
      have HRZ := Aside0.mk (HR7.out.trans hg)
      have HQZ := Aside0.mk (HQ7.out.grown hg (by have := HB6.out; omega))
      have HUZ := Aside0.mk hu
      clear hu hg hfr
      have d0 := (blk_cell HXZ.out 0).trans rfl
      have d1 := (blk_cell HXZ.out 1).trans rfl
      have d2 := (blk_cell HXZ.out 2).trans rfl
      have y0 := (blk_cell HYZ.out 0).trans rfl
      have y1 := (blk_cell HYZ.out 1).trans rfl
      have y2 := (blk_cell HYZ.out 2).trans rfl
      have g0 := blk_frozen HYZ.out 0
      have g1 := blk_frozen HYZ.out 1
      have g2 := blk_frozen HYZ.out 2
      go_wp2
      refine bodyPost_ret (results_c rfl _ _ b2 57 #[.string nm, .slice A2 (sv.length + 1) c2_, .int .i64 p1] (0, 0) _ rfl (set3 HYZ.out) Try.underlying57 rfl (by kernel_rfl)) rfl ?_
      refine ⟨⟨nm, ⟨A2, sv.length + 1, c2_⟩, p1⟩, Row.v ⟨A2, sv.length + 1, c2_⟩ (sv ++ [x]) :: (lx ++ l), rfl, (((HQZ.out.far (by have := HB6.out; omega)).far (by have := HB6.out; omega)).far (by have := HB6.out; omega)).lower (by have := HB6.out; omega), ?_, grown3 HRZ.out LB2.out, fun ts d r h1 h2 => ?_⟩
      · rw [← HFE.out _ (Co.end_' HCZ.out)]
        exact up3 HUZ.out GB2.out
      · have := Co.val HCZ.out HF0.out ts d r h1 h2
        subst this
        refine ⟨rfl, ⟨sv ++ [x], List.mem_cons_self, ?_⟩, rfl⟩
        obtain ⟨r1, hr1⟩ := okOf HCZ.out HF0.out h1 h2 HNE.out
        exact (HTA.out r1 hr1).imp (fun _ _ h => h.mono (fun _ hm => List.mem_cons_of_mem _ hm))
end Go.Proofs.Ytbdcndkafaajpaa.A
end
section
set_option linter.unusedVariables false
set_option linter.unusedSimpArgs false
namespace Go.Proofs.Ytbdcndkafaajpaa.A
open Go.RowKit Go.Proofs.Ytbdcndkafaajpaa.X Go.Proofs.YtbdcndkafaajpaaW.PrintWords Go.Proofs.YtbdcndkafaajpaaW.PrintLast Go.Proofs.YtbdcndkafaajpaaW.PrintMore
open Go.Proofs.Ytbdcndkafaajpaa.P (Nd EO Res hd isT isM takeM mxl comb mk1 StD VeD EvD)
theorem endW_ne (ts : List Tk) : ∀ p, P.endW ts ≠ .bad 0 p := by
  intro p e
  unfold P.endW at e
  split at e
  · cases e
  · cases e
theorem schemaW_ne (ts : List Tk) : ∀ p, P.schemaW ts ≠ .bad 0 p := by
  unfold P.schemaW
  exact P.bind_ne (P.eventsW_ne _ _ _ (Nat.lt_succ_self _)) fun l r _ => P.bind_ne (endW_ne _) fun _ r _ => P.ok_ne _ _
section
variable {w w' : World} {A : Option Addr} {c : Nat} {L : List Tk} {g : Nat} {s : US}
theorem uend_calls (hG : Good L) (b : Bool) (h : Up w A c L g s) (hb : ∀ ts, s = .ok ts → b = ((hd ts).f0 == 0)) : Calls Try.prog 31 #[.pointer (some ⟨g, 0, none⟩), .bool b] w fun e w' =>
    (∃ t, Fr s t ∧ e = .returned (.agg #[.int .i64 t.f0, .string t.f1, .int .u64 t.f2, .int .i64 t.f3, .int .i64 t.f4])) ∧ Up w' A c L g (s.step P.endW) ∧ w.grownBy w' (some g) := by
  obtain ⟨q, lv, v5, v6, hq, hp⟩ := h
  refine (take_calls w A c L g q _ _ _ b hp hG).mono fun e w' ⟨he, hp'⟩ => ⟨⟨_, hq.fr hp.lt, he⟩, ?_, hp'.2⟩
  have hp' := hp'.1
  cases s with
  | ok ts =>
    obtain ⟨h1, rfl⟩ := hq
    have hb := hb _ rfl
    unfold takeQ at hp'
    rw [if_pos h1] at hp'
    have hh := hd_drop hp.lt
    by_cases h0 : (hd (L.drop q.at_)).f0 = 0
    · have : b = true := by rw [hb, h0]; rfl
      subst this
      rw [if_pos rfl, if_pos (by rw [← hh]; exact h0)] at hp'
      have he : (US.ok (L.drop q.at_)).step P.endW = .ok (L.drop q.at_) := step_ok (a := hd (L.drop q.at_)) (by unfold P.endW; rw [if_pos h0])
      rw [he]
      exact ⟨q, _, _, _, ⟨h1, rfl⟩, hp'⟩
    · have : b = false := by rw [hb]; exact beq_eq_false_iff_ne.2 h0
      subst this
      rw [if_neg (by decide)] at hp'
      unfold failQ at hp'
      rw [if_pos h1] at hp'
      have he : (US.ok (L.drop q.at_)).step P.endW = .bad 90 (hd (L.drop q.at_)).f3 := step_bad2 (by unfold P.endW; rw [if_neg h0])
      rw [he]
      exact ⟨_, _, _, _, ⟨rfl, by rw [hh], by decide⟩, hp'⟩
  | bad e p =>
    obtain ⟨h1, h2, h0⟩ := hq
    unfold takeQ at hp'
    rw [if_neg (by rw [h1]; exact h0)] at hp'
    exact ⟨_, _, _, _, ⟨h1, h2, h0⟩, hp'⟩
end
structure ScL (F : Res (List EvD)) (w : World) (A : Option Addr) (c : Nat) (L : List Tk) (g b2 b3 B N : Nat) (k : Nat) (wr : World) (S : US) (v : Sl) (sv : List EvV) (l : List Row) (ds : List EvD) : Prop where
  up : Up wr A c L g S
  gr : w.grownBy wr (some g)
  bx : wr.heap[b3]? = some (.cells #[.slice v.A v.n v.c] 27 (0, 0))
  by_ : wr.heap[b2]? = some (.cells #[.slice none 0 0] 27 (0, 0))
  rows : Rows wr B (Row.e v sv :: l)
  bl : B ≤ wr.heap.size
  nn : sv.length + k ≤ N
  tr : ∀ r, S = .ok r → All2 (EvT l) ds sv
  co : Co F (fun r => (P.eventsW k ds r).bind fun l r => (P.endW r).bind fun _ r => .ok l r) S
set_option maxHeartbeats 16000000 in
set_option maxRecDepth 100000 in
theorem schema_calls (w : World) (A : Option Addr) (c : Nat) (L : List Tk) (g : Nat) (s : US) (hG : Good L) (hL : L.length ≤ 33554432) (h : Up w A c L g s) :
    Calls Try.prog 24 #[.pointer (some ⟨g, 0, none⟩)] w fun e w' => ∃ v l, e = .returned (.agg #[.slice v.A v.n v.c]) ∧ Rows w' w.heap.size l ∧ Up w' A c L g (s.step P.schemaW) ∧ w.grownBy w' (some g) ∧ ∀ ts ds r, s = .ok ts → P.schemaW ts = .ok ds r → ∃ xs, Row.e v xs ∈ l ∧ All2 (EvT l) ds xs := by
  obtain ⟨w0, hw0⟩ : ∃ w0, w0 = w.alloc (.cells #[.slice none 0 0] 27) := ⟨_, rfl⟩
  obtain ⟨w6, hw6⟩ : ∃ w6, w6 = w0.alloc (.cells #[.slice none 0 0] 27) := ⟨_, rfl⟩
  obtain ⟨b2, hb2⟩ : ∃ b2, b2 = w.heap.size := ⟨_, rfl⟩
  obtain ⟨b3, hb3⟩ : ∃ b3, b3 = w0.heap.size := ⟨_, rfl⟩
  have hB0 : Below w.heap.size w w0 := by rw [hw0]; exact below_alloc (Below.refl _ _) _
  have hB6 : Below w0.heap.size w0 w6 := by rw [hw6]; exact below_alloc (Below.refl _ _) _
  have hu := (h.below hB0).below hB6
  have hgr := (grown_below hB0 (some g)).trans (grown_below hB6 (some g))
  have hy0 : w0.heap[b2]? = some (.cells #[.slice none 0 0] 27 (0, 0)) := by rw [hw0, hb2]; exact blk_new _ _
  have hx6 : w6.heap[b3]? = some (.cells #[.slice none 0 0] 27 (0, 0)) := by rw [hw6, hb3]; exact blk_new _ _
  have hs0 : w0.heap.size = w.heap.size + 1 := by rw [hw0]; exact Array.size_push _
  have GB2 : Aside0 (g < b2) := ⟨by rw [hb2]; exact h.glt⟩
  have NB2 : Aside0 (b2 ≠ g) := ⟨by have := GB2.out; omega⟩
  have LB2 : Aside0 (w.heap.size ≤ b2) := ⟨by rw [hb2]; exact Nat.le_refl _⟩
  have GB3 : Aside0 (g < b3) := ⟨by have := GB2.out; omega⟩
  have NB3 : Aside0 (b3 ≠ g) := ⟨by have := GB3.out; omega⟩
  have LB3 : Aside0 (w.heap.size ≤ b3) := ⟨by omega⟩
  have NB23 : Aside0 (b2 ≠ b3) := ⟨by omega⟩
  have HG := Aside0.mk hG
  have HL := Aside0.mk hL
  obtain ⟨F, hF0, hFe⟩ := Co.start s P.schemaW
  have HNE : Aside0 (∀ p, F ≠ .bad 0 p) := ⟨by
    intro p hp
    cases s with
    | ok ts => exact schemaW_ne ts p (Eq.trans (Eq.symm hF0) hp)
    | bad e q =>
      obtain ⟨_, _, _, _, hq, _⟩ := h
      have : F = .bad e q := hF0
      rw [this] at hp
      cases hp
      exact hq.2.2 rfl⟩
  have HF0 := Aside0.mk hF0
  have HFE := Aside0.mk hFe
  obtain ⟨N, hN, hN2⟩ : ∃ N, N ≤ 33554433 ∧ ∀ r, s = .ok r → N = r.length + 1 := by
    cases hx : s with
    | ok r => exact ⟨r.length + 1, by have := h.len r hx; have := HL.out; omega, fun r' h => by cases h; rfl⟩
    | bad e p => exact ⟨0, by omega, fun r' h => by cases h⟩
  have HLP : Aside0 (ScL F w A c L g b2 b3 w6.heap.size N N w6 s ⟨none, 0, 0⟩ [] [] []) := ⟨{
    up := hu
    gr := hgr
    bx := hx6
    by_ := blk_below hy0 hB6
    rows := ⟨fun r hr => by rw [List.mem_singleton.1 hr]; exact Kd.R_nil _ _ _ _ _, ⟨fun k hk => by simp [Row.own, Row.sl, Sl.v, Value.ownBlock] at hk, trivial⟩⟩
    bl := Nat.le_refl _
    nn := by simp
    tr := fun _ _ => trivial
    co := HF0.out.to (fun r hr => by rw [hN2 r hr]; rfl) }⟩
  have HB6 : Aside0 (b3 < w6.heap.size ∧ b2 < w6.heap.size ∧ g < w6.heap.size ∧ w.heap.size ≤ w6.heap.size) := ⟨blk_lt hx6, blk_lt (blk_below hy0 hB6), hu.glt, hgr.size⟩
  obtain ⟨B6, hB6e⟩ : ∃ B6, B6 = w6.heap.size := ⟨_, rfl⟩
  rw [← hB6e] at HLP HB6
  have HN := Aside0.mk hN
  have hb3' : b3 = w.heap.size + 1 := by rw [hb3, hs0]
  have HB2 := Aside0.mk hb2
  have HB3 := Aside0.mk hb3'
  rw [hw0] at hw6
  have HW6 := Aside0.mk hw6
  clear h hw0 hw6 hb2 hb3 hb3' hB0 hB6 hu hgr hy0 hx6 hs0 hG hL hF0 hFe hN2 hB6e
  go_enter Try.func24, Try.ntmps24
  go_wp2_with fail
  rw [← HW6.out, ← HB3.out, ← HB2.out]
  go_loopg [] N (fun k wr => ∃ S v sv l ds, Aside0 (ScL F w A c L g b2 b3 B6 N k wr S v sv l ds))
  case atStart => exact ⟨_, _, _, _, _, HLP⟩
  case round =>
    obtain ⟨S, ⟨Av, nv, cv⟩, sv, l, ds, HV⟩ := hrel
    have HPOS : Aside0 (∀ r, S = .ok r → 0 < gk) := ⟨fun r hr => by
      have := HV.out.co
      subst hr
      rcases Nat.eq_zero_or_pos gk with h | h
      · subst h; exact absurd this (HNE.out 0)
      · exact h⟩
    have HCO : Aside0 (Co F (fun r => if isT 1 P.sEvent r then (P.eventW r).bind fun d r => (P.eventsW (gk - 1) (ds ++ [d]) r).bind fun l r => (P.endW r).bind fun _ r => .ok l r else (P.endW r).bind fun _ r => .ok ds r) S) := ⟨HV.out.co.to (fun r hr => by
      obtain ⟨m, hm⟩ : ∃ m, gk = m + 1 := ⟨gk - 1, by have := HPOS.out r hr; omega⟩
      subst hm
      show (P.eventsW (m + 1) ds r).bind _ = _
      rw [P.eventsW]
      by_cases ht : isT 1 P.sEvent r = true
      · rw [if_pos ht, if_pos ht, bindA]; rfl
      · rw [if_neg ht, if_neg ht]; rfl)⟩
    have HIS := Aside0.mk (uis_calls 1 P.sEvent HV.out.up)
    go_wp2_with fail
    cases hb : S.is 1 P.sEvent with
    | true =>
      have HCN := Aside0.mk (show Co F (fun r => (P.eventW r).bind fun d r => (P.eventsW (gk - 1) (ds ++ [d]) r).bind fun l r => (P.endW r).bind fun _ r => .ok l r) S from HCO.out.is hb)
      have HGK : Aside0 (0 < gk) := ⟨by
        cases hS : S with
        | ok r => exact HPOS.out r hS
        | bad e q => rw [hS] at hb; cases hb⟩
      rw [hb] at HIS
      clear hb
      refine HIS.out.mono ?_
      rintro e w7 ⟨rfl, hb7⟩
      have HU7 := Aside0.mk (HV.out.up.below hb7)
      have HX7 := Aside0.mk (blk_below HV.out.bx hb7)
      have HY7 := Aside0.mk (blk_below HV.out.by_ hb7)
      have HR7 := Aside0.mk (HV.out.gr.trans (grown_below hb7 _))
      have HQ7 := Aside0.mk (HV.out.rows.keep (fun k _ hk => hb7.block k hk))
      have HZ7 : Aside0 (B6 ≤ w7.heap.size) := ⟨Nat.le_trans HV.out.bl hb7.size⟩
      clear hb7
      obtain ⟨dd, hdd⟩ : ∃ dd, ∀ ts d r', S = .ok ts → P.eventW ts = .ok d r' → d = dd := by
        cases hS : S with
        | ok r =>
          cases hx : P.eventW r with
          | ok d r' => exact ⟨d, fun ts d' r'' h1 h2 => by cases h1; rw [hx] at h2; cases h2; rfl⟩
          | bad e q => exact ⟨⟨⟨#[]⟩, [], 0⟩, fun ts d' r'' h1 h2 => by cases h1; rw [hx] at h2; cases h2⟩
        | bad e q => exact ⟨⟨⟨#[]⟩, [], 0⟩, fun ts d' r'' h1 h2 => by cases h1⟩
      have HDD := Aside0.mk hdd
      have HC7 := Aside0.mk (Co.call (P := fun _ => True) (g' := fun r => (P.eventsW (gk - 1) (ds ++ [dd]) r).bind fun l r => (P.endW r).bind fun _ r => .ok l r) HCN.out (fun ts a r h1 h2 => by rw [hdd ts a r h1 h2]))
      clear hdd
      have S0 : (fun w' : World => w'.cell? ⟨b3, 0, none⟩ = some (.slice Av nv cv)) w7.drew := (blk_cell HX7.out 0).trans rfl
      go_wp2
      refine start_ (n := 8) (S := fun w' => w'.cell? ⟨b3, 0, none⟩ = some (.slice Av nv cv)) (ds := [7]) #[false, false, false, false, false, false, false, false] (by kernel_rfl) rfl rfl (S0) (fun hHeld => ?_)
      refine pure_ (i := 0) (N := some 6) (v := ?_) (a' := ?_) #[true, false, false, false, false, false, false, false] rfl rfl (by kernel_rfl) (fun _ _ _ h => h) (Or.inl ⟨by rfl, ?_⟩) ?_ ?_
      rotate_left
      · intro w'
        go_simp
        with_reducible rfl
      rotate_left
      · simp only [Act.put, List.setIfInBounds_toArray, List.set_cons_zero, List.set_cons_succ, i64_w, i32_w]
        rfl
      refine take_ (i := 1) (N := some 7) (v := ?_) (a' := ?_) #[true, true, false, false, false, false, false, false] rfl rfl (by kernel_rfl) (fun _ _ _ h => h) (Or.inl ⟨by rfl, ?_⟩) hHeld ?_ ?_
      rotate_left
      · intro w' hS'
        have hS2 : w'.cell? ⟨b3, 0, none⟩ = some (.slice Av nv cv) := hS'
        clear hS'
        go_simp
        with_reducible rfl
      rotate_left
      · simp only [Act.put, List.setIfInBounds_toArray, List.set_cons_zero, List.set_cons_succ, i64_w, i32_w]
        rfl
      refine pure_ (i := 2) (N := some 8) (v := ?_) (a' := ?_) #[true, true, true, false, false, false, false, false] rfl rfl (by kernel_rfl) (fun _ _ _ h => h) (Or.inl ⟨by rfl, ?_⟩) ?_ ?_
      rotate_left
      · intro w'
        go_simp
        with_reducible rfl
      rotate_left
      · simp only [Act.put, List.setIfInBounds_toArray, List.set_cons_zero, List.set_cons_succ, i64_w, i32_w]
        rfl
      refine one_ (i := 3) (N := some 9) #[true, true, true, true, false, false, false, false] rfl rfl (by kernel_rfl) (by decide) (fun K hK => ?_)
      refine goes_ Try.func40 (by kernel_rfl) rfl #[.pointer (some ⟨g, 0, none⟩)] (by rfl) rfl rfl (by (try simp only [List.map_toArray, List.map_cons, List.map_nil]); first | done | rfl) ?_
      refine (event_calls w7.drew A c L g S HG.out HL.out (HU7.out.below (below_drew1 (Below.refl _ _)))).mono ?_
      rintro e w8 ⟨x, lx, rfl, hrn, hu, hg, hval⟩
      have hgd : w7.grownBy w8 (some g) := (grown_below (below_drew1 (Below.refl _ _)) _).trans hg
      have HX8 := Aside0.mk (keepB hgd HX7.out NB3.out)
      have HY8 := Aside0.mk (keepB hgd HY7.out NB2.out)
      have HR8 := Aside0.mk (HR7.out.trans hgd)
      have HQ8 := Aside0.mk (rows_news (w0 := w7) (HQ7.out.grown hgd (by have := HB6.out; omega)) hrn HZ7.out HQ7.out)
      have HU8 := Aside0.mk hu
      have HVAL := Aside0.mk hval
      have HZ8 : Aside0 (B6 ≤ w8.heap.size) := ⟨Nat.le_trans HZ7.out hgd.size⟩
      have SC : (fun w' : World => w'.cell? ⟨b3, 0, none⟩ = some (.slice Av nv cv)) w8 := (blk_cell HX8.out 0).trans rfl
      clear hrn hu hg hval hgd
      refine ⟨_, rfl, ?_⟩
      refine hK.out _ _ (SC) (fun hHeld => ?_)
      clear hK K
      have HBZ := Aside0.mk (show Below w8.heap.size w8 (w8.alloc (.cells #[.string x.name, .slice x.vers.A x.vers.n x.vers.c, .int .i64 x.pl] 57)) from below_alloc (Below.refl _ _) _)
      have SB : (fun w' : World => w'.cell? ⟨b3, 0, none⟩ = some (.slice Av nv cv)) (w8.alloc (.cells #[.string x.name, .slice x.vers.A x.vers.n x.vers.c, .int .i64 x.pl] 57)) := (blk_cell (blk_below HX8.out HBZ.out) 0).trans rfl
      refine one_ (i := 4) (N := some 10) #[true, true, true, true, true, false, false, false] rfl rfl (by kernel_rfl) (by decide) (fun K hK => ?_)
      refine value_ (w1 := ?_) (v := ?_) (by rfl) rfl ?_ ?_
      rotate_left 2
      · go_simp
        first | rfl | (constructor <;> rfl)
      refine hK.out _ _ (SB) (fun hHeld => ?_)
      clear hK K
      refine one_ (i := 5) (N := some 11) #[true, true, true, true, true, true, false, false] rfl rfl (by kernel_rfl) (by decide) (fun K hK => ?_)
      refine Kd.R_step_at (N := some 11) rfl kev (w0 := w8) B6 (by rfl) (.tmp 7) (.tmp 10) 25 57 (.agg #[.string ⟨#[]⟩, .slice none 0 0, .int .i64 0]) 48 rfl Try.underlying25 infoE rfl (by decide) (by omega) (.slice Av nv cv) sv x (evCs x) (fun _ => True) (fun _ => False) (by rfl) ⟨w8.heap.size, 0, none⟩ 1 (by rfl) (World.news_of_block (cs := (evCs x).toArray) (t := 57) (fr := (0, 0)) (heap_alloc_new _ _)) (kev_mkM _ _ _ x) (fun _ hk => hk.elim) (fun _ _ => trivial) (Kd.R_below (d := kev) HQ8.out.head HBZ.out) (HBZ.out.mono HZ8.out) (by have := HZ8.out; have := HBZ.out.size; omega) (by have := HV.out.nn; have := HN.out; omega) ?_
      intro v2 w9 ho hb hw
      obtain ⟨A2, c2_, hv2⟩ := Kd.R_slice ho
      rw [List.length_append, List.length_singleton] at hv2
      subst hv2
      have hq9 : Rows w9 B6 (Row.e ⟨A2, sv.length + 1, c2_⟩ (sv ++ [x]) :: (lx ++ l)) := (HQ8.out.keep (fun k _ hk => HBZ.out.block k hk)).grow hw.grown ho hw.at
      have hne3 : some b3 ≠ (Value.slice Av nv cv).ownBlock := fun e => by have := (HQ8.out.in_ b3 (by rw [e]; exact List.mem_cons_self)).1; have := HB6.out; omega
      have hne2 : some b2 ≠ (Value.slice Av nv cv).ownBlock := fun e => by have := (HQ8.out.in_ b2 (by rw [e]; exact List.mem_cons_self)).1; have := HB6.out; omega
      have HX9 := Aside0.mk (blk_grown (blk_below HX8.out HBZ.out) hw.grown hne3)
      have HY9 := Aside0.mk (blk_grown (blk_below HY8.out HBZ.out) hw.grown hne2)
      have HU9 := Aside0.mk (up_grown (HU8.out.below HBZ.out) hw.grown (fun k hk => by have := (HQ8.out.in_ k (by rw [← hk]; exact List.mem_cons_self)).1; have := HB6.out; omega))
      have HR9 := Aside0.mk (grown_over (HR8.out.trans (grown_below HBZ.out _)) hw.grown (fun k hk => by have := (HQ8.out.in_ k (by rw [← hk]; exact List.mem_cons_self)).1; have := HB6.out; omega))
      have HZ9 : Aside0 (B6 ≤ w9.heap.size) := ⟨by have := HZ8.out; have := HBZ.out.size; have := hw.grown.size; omega⟩
      have HQ9 := Aside0.mk hq9
      have SA : (fun w' : World => w'.cell? ⟨b3, 0, none⟩ = some (.slice Av nv cv)) w9 := (blk_cell HX9.out 0).trans rfl
      have c1_9 : w9.cell? ⟨b3, 0, none⟩ = some (.slice Av nv cv) := SA
      have f1_9 := blk_frozen HX9.out 0
      clear ho hb hw hq9 hne3 hne2
      refine hK.out _ _ (SA) (fun hHeld => ?_)
      clear hK K
      refine pure_ (i := 6) (N := some 12) (v := ?_) (a' := ?_) #[true, true, true, true, true, true, true, false] rfl rfl (by kernel_rfl) (fun _ _ _ h => h) (Or.inl ⟨by rfl, ?_⟩) ?_ ?_
      rotate_left
      · intro w'
        go_simp
        with_reducible rfl
      rotate_left
      · simp only [Act.put, List.setIfInBounds_toArray, List.set_cons_zero, List.set_cons_succ, i64_w, i32_w]
        rfl
      refine last_ (i := 7) (N := none) #[true, true, true, true, true, true, true, true] rfl rfl (by kernel_rfl) (by decide) (fun K hK => ?_)
      refine skip_ (w1 := ?_) (by rfl) rfl ?_ ?_
      rotate_left
      · go_simp
        first | rfl | (constructor <;> rfl)
      refine hK.out _ _ ?_
      clear hK K
      refine done_ (by kernel_rfl) ?_
      go_wp2
      go_roundg (gk - 1)
      case measure => have := HGK.out; omega
      case rel =>
        refine ⟨S.step P.eventW, ⟨A2, sv.length + 1, c2_⟩, sv ++ [x], lx ++ l, ds ++ [dd], ⟨{ up := ?_, gr := ?_, bx := ?_, by_ := ?_, rows := ?_, bl := ?_, nn := ?_, tr := ?_, co := HC7.out }⟩⟩
        · exact HU9.out.far GB3.out 0 _
        · exact grown_far (g := g) HR9.out LB3.out 0 _
        · exact (blk_setS HX9.out _).trans (by rfl)
        · exact blk_setN NB23.out HY9.out _
        · exact HQ9.out.far (by have := HB6.out; omega)
        · simpa using HZ9.out
        · have := HV.out.nn; have := HGK.out; rw [List.length_append, List.length_singleton]; omega
        · intro r1 hr1
          obtain ⟨ts, a, h1, h2⟩ := step_okS hr1
          have hd := HDD.out ts a r1 h1 h2
          subst hd
          exact ((HV.out.tr ts h1).imp (fun _ _ h => h.mono (fun _ hm => List.mem_append_right _ hm))).snoc ((HVAL.out ts a r1 h1 h2).mono (fun _ hm => List.mem_append_left _ hm))
    | false =>
      have HCE := Aside0.mk (show Co F (fun r => (P.endW r).bind fun _ r => .ok ds r) S from HCO.out.is hb)
      rw [hb] at HIS
      clear hb
      refine HIS.out.mono ?_
      rintro e w7 ⟨rfl, hb7⟩
      have HU7 := Aside0.mk (HV.out.up.below hb7)
      have HX7 := Aside0.mk (blk_below HV.out.bx hb7)
      have HY7 := Aside0.mk (blk_below HV.out.by_ hb7)
      have HR7 := Aside0.mk (HV.out.gr.trans (grown_below hb7 _))
      have HQ7 := Aside0.mk (HV.out.rows.keep (fun k _ hk => hb7.block k hk))
      clear hb7
      go_wp2_with fail
      refine (unow_calls HU7.out).mono ?_
      rintro e w8 ⟨⟨k2, s2, n2, p2, e2⟩, hf2, rfl, hb⟩
      have HT2 := Aside0.mk hf2
      have HU8 := Aside0.mk (HU7.out.below hb)
      have HX8 := Aside0.mk (blk_below HX7.out hb)
      have HY8 := Aside0.mk (blk_below HY7.out hb)
      have HR8 := Aside0.mk (HR7.out.trans (grown_below hb _))
      have HQ8 := Aside0.mk (HQ7.out.keep (fun k _ hk => hb.block k hk))
      clear hb hf2
      obtain ⟨gd0, gd1, gd2, gd3⟩ := fld ⟨k2, s2, n2, p2, e2⟩
      have HCL := Aside0.mk (uend_calls HG.out (k2 == 0) HU8.out (fun ts hs => by rw [← HT2.out ts hs]))
      go_wp2_with fail
      refine HCL.out.mono ?_
      rintro e wz ⟨⟨tz, hfr, rfl⟩, hu, hg⟩
      clear HCL
      have HCZ := Aside0.mk (Co.call (P := fun _ => True) (g' := fun r => .ok ds r) HCE.out (fun _ _ _ _ _ => rfl))
      have HXZ := Aside0.mk (keepB hg HX8.out NB3.out)
      have HYZ := Aside0.mk (keepB hg HY8.out NB2.out)
      have HRZ := Aside0.mk (HR8.out.trans hg)
      have HQZ := Aside0.mk (HQ8.out.grown hg (by have := HB6.out; omega))
      have HUZ := Aside0.mk hu
      clear hu hg hfr
      have d0 := (blk_cell HXZ.out 0).trans rfl
      have y0 := (blk_cell HYZ.out 0).trans rfl
      have g0 := blk_frozen HYZ.out 0
      go_wp2
      refine bodyPost_ret (results_c rfl _ _ b2 27 #[.slice Av nv cv] (0, 0) _ rfl (blk_put HYZ.out 0 _ rfl) Try.underlying27 rfl (by kernel_rfl)) rfl ?_
      refine ⟨⟨Av, nv, cv⟩, Row.e ⟨Av, nv, cv⟩ sv :: l, rfl, (HQZ.out.far (by have := HB6.out; omega)).lower (by have := HB6.out; omega), ?_, grown_far (g := g) HRZ.out LB2.out 0 _, fun ts d r h1 h2 => ?_⟩
      · rw [← HFE.out _ (Co.end_' HCZ.out)]
        exact HUZ.out.far GB2.out 0 _
      · have := Co.val HCZ.out HF0.out ts d r h1 h2
        subst this
        refine ⟨sv, List.mem_cons_self, ?_⟩
        obtain ⟨r1, hr1⟩ := okOf HCZ.out HF0.out h1 h2 HNE.out
        exact (HV.out.tr r1 hr1).imp (fun _ _ h => h.mono (fun _ hm => List.mem_cons_of_mem _ hm))
end Go.Proofs.Ytbdcndkafaajpaa.A
end
section
namespace Go.Proofs.Ytbdcndkafaajpaa.X
open Go.RowKit Go.Proofs.YtbdcndkafaajpaaW.PrintWords Go.Proofs.YtbdcndkafaajpaaW.PrintLast Go.Proofs.YtbdcndkafaajpaaW.PrintMore
attribute [local go_sem] max2_int min2_int max_two min_two max_three min_three max_four min_four   -- for this text's walks alone
set_option linter.unusedVariables false
set_option linter.unusedSimpArgs false
def strings_IndexByte.f (a0 : ByteArray) (a1 : Int) : Option Int := some (Lib.indexByte a0.data.toList a1.toNat.toUInt8)
theorem strings_IndexByte.calls (a0 : ByteArray) (a1 : Int) (r : Int) (w : World) (h : strings_IndexByte.f a0 a1 = some r) :
    Calls Try.prog 52 #[.string a0, .int .u8 a1] w fun e w' => e = .returned (.int .i64 r) ∧ Drawn0 w w' := by
  obtain rfl := Option.some.inj h
  refine (Try.strings_IndexByte a0 a1 w).mono ?_
  rintro e w' ⟨rfl, rfl⟩
  exact ⟨rfl, Drawn0.refl _⟩
mutual
def lex_skip.l0 : Nat → ByteArray → Int → Option (Int)
  | 0, _, _ => none
  | k + 1, x0, x1 => if x1 < (x0.size : Int) then (if 0 ≤ x1 then (if (bt x0 x1) = 32 then (lex_skip.j1 k x0 x1 (bt x0 x1) ((bt x0 x1) == 32)) else (if (bt x0 x1) = 9 then (lex_skip.j1 k x0 x1 (bt x0 x1) ((bt x0 x1) == 9)) else (if (bt x0 x1) = 10 then (lex_skip.j1 k x0 x1 (bt x0 x1) ((bt x0 x1) == 10)) else (lex_skip.j1 k x0 x1 (bt x0 x1) ((bt x0 x1) == 13))))) else (none)) else (some x1)
def lex_skip.j1 : Nat → ByteArray → Int → Int → Bool → Option (Int)
  | 0, _, _, _, _ => none
  | k + 1, x0, x1, x12, x14 => if x14 = true then (lex_skip.l0 k x0 (wrap64 (x1 + 1))) else (if x12 = 35 then (if 0 ≤ x1 then (if x1 ≤ (x0.size : Int) then ((strings_IndexByte.f (x0.extract (x1 : Int).toNat x0.size) 10).bind fun t101 => (if t101 < 0 then (some (x0.size : Int)) else (lex_skip.l0 k x0 (wrap64 (x1 + t101))))) else (none)) else (none)) else (some x1))
end
def lex_skip.f (k : Nat) (a0 : ByteArray) (a1 : Int) : Option (Int) := lex_skip.l0 k a0 a1
theorem lex_skip.mono_l : ∀ k, (∀ y0 y1, LeO (lex_skip.l0 k y0 y1) (lex_skip.l0 (k + 1) y0 y1)) ∧ (∀ y0 y1 y2 y3, LeO (lex_skip.j1 k y0 y1 y2 y3) (lex_skip.j1 (k + 1) y0 y1 y2 y3))
  | 0 => ⟨fun _ _ r h => by simp [lex_skip.l0] at h, fun _ _ _ _ r h => by simp [lex_skip.j1] at h⟩
  | k + 1 => by
    obtain ⟨ih0, ih1⟩ := lex_skip.mono_l k
    refine ⟨?_, ?_⟩
    · intro y0 y1
      unfold lex_skip.l0
      repeat' first
      | (with_reducible exact ih0 _ _)
      | (with_reducible exact ih1 _ _ _ _)
      | (with_reducible exact LeO.refl _)
      | (with_reducible exact LeO.none _)
      | (with_reducible refine LeO.ite ?_ ?_)
      | (with_reducible refine LeO.bind ?_ (fun _ => ?_))
      | exact ih0 _ _
      | exact ih1 _ _ _ _
      | exact LeO.none _
      | refine LeO.ite ?_ ?_
      | refine LeO.bind ?_ (fun _ => ?_)
    · intro y0 y1 y2 y3
      unfold lex_skip.j1
      repeat' first
      | (with_reducible exact ih0 _ _)
      | (with_reducible exact ih1 _ _ _ _)
      | (with_reducible exact LeO.refl _)
      | (with_reducible exact LeO.none _)
      | (with_reducible refine LeO.ite ?_ ?_)
      | (with_reducible refine LeO.bind ?_ (fun _ => ?_))
      | exact ih0 _ _
      | exact ih1 _ _ _ _
      | exact LeO.none _
      | refine LeO.ite ?_ ?_
      | refine LeO.bind ?_ (fun _ => ?_)
theorem lex_skip.mono : ∀ a0 a1 k, LeO (lex_skip.f k a0 a1) (lex_skip.f (k + 1) a0 a1) := by
  intro a0 a1 k
  obtain ⟨ih0, ih1⟩ := lex_skip.mono_l k
  unfold lex_skip.f
  repeat' first
      | (with_reducible exact ih0 _ _)
      | (with_reducible exact ih1 _ _ _ _)
      | (with_reducible exact LeO.refl _)
      | (with_reducible exact LeO.none _)
      | (with_reducible refine LeO.ite ?_ ?_)
      | (with_reducible refine LeO.bind ?_ (fun _ => ?_))
      | exact ih0 _ _
      | exact ih1 _ _ _ _
      | exact LeO.none _
      | refine LeO.ite ?_ ?_
      | refine LeO.bind ?_ (fun _ => ?_)
set_option maxHeartbeats 8000000 in
set_option maxRecDepth 100000 in
theorem lex_skip.calls (k : Nat) (a0 : ByteArray) (a1 : Int) (r : Int) (w : World) (h : lex_skip.f k a0 a1 = some r) :
    Calls Try.prog 34 #[.string a0, .int .i64 a1] w fun e w' => e = .returned (.int .i64 r) ∧ Drawn0 w w' := by
  have H : (lex_skip.l0 k a0 a1) = some r := h
  clear h
  have H' := Aside0.mk H
  clear H
  go_enter Try.func34, Try.ntmps34
  go_wp2
  go_loopg [1] k (fun kq v1 w' => ∃ (x1_1 : Int), v1 = .int .i64 x1_1 ∧ Aside0 (lex_skip.l0 kq a0 x1_1 = some r) ∧ Aside0 (kq ≤ k) ∧ Drawn0 w w')
  case atStart => exact ⟨(a1), (by first | rfl | (simp; done) | (simp [*]; done)), H', ⟨Nat.le_refl _⟩, by repeat (first | exact Drawn0.refl _ | apply Drawn0.step)⟩
  case round =>
    clear H'
    try clear p2
    obtain ⟨x1_1, rfl, HA, HK1, ⟨m1, rfl⟩⟩ := hrel
    cases gk with
    | zero => exact absurd HA.out (by simp [lex_skip.l0])
    | succ k1 =>
      have H := HA.out
      clear HA
      simp only [lex_skip.l0] at H
      by_cases c3 : x1_1 < (a0.size : Int)
      · rw [if_pos c3] at H
        have c3b0 : decide (x1_1 < (a0.size : Int)) = true := decide_eq_true c3
        clear c3
        by_cases c4 : 0 ≤ x1_1
        · rw [if_pos c4] at H
          have c4b0 : decide (0 ≤ x1_1) = true := decide_eq_true c4
          clear c4
          have HC6 := Aside0.mk H
          clear H
          have p5 : 0 ≤ (x1_1 : Int) := of_decide_eq_true (by first | (with_reducible assumption) | assumption)
          have q5 : x1_1 < (a0.size : Int) := of_decide_eq_true (by first | (with_reducible assumption) | assumption)
          have hx5 := bt_at a0 x1_1
          replace p5 := eq_true p5
          replace q5 := eq_true q5
          go_upto_if 14 with (fail)
          go_cut [14] (fun v14 wc => ∃ (kq : Nat) (x14_5 : Bool), v14 = .bool x14_5 ∧ Aside0 (lex_skip.j1 kq a0 x1_1 (bt a0 x1_1) x14_5 = some r) ∧ Aside0 (kq ≤ k1) ∧ Drawn0 w wc)
          case first =>
            have H := HC6.out
            clear HC6
            by_cases c7 : (bt a0 x1_1) = 32
            · rw [if_pos c7] at H
              have c7b0 : ((bt a0 x1_1) == 32) = true := beq_iff_eq.mpr c7
              have c7b1 : ((bt a0 x1_1) != 32) = false := bne_eq_false_iff_eq.mpr c7
              clear c7
              (first | rw [c7b0] | (simp only [i64_w, i32_w]; rw [c7b0]) | skip)
              have H' := Aside0.mk H
              clear H
              go_wp2
              go_meet
              case rel => exact ⟨_, (((bt a0 x1_1) == 32)), (by first | rfl | (simp; done) | (simp [*]; done)), H', ⟨by have := HK1.out; first | omega | exact Nat.le_refl _⟩, by repeat (first | exact Drawn0.refl _ | apply Drawn0.step)⟩
            · rw [if_neg c7] at H
              have c7b0 : ((bt a0 x1_1) == 32) = false := beq_eq_false_iff_ne.mpr c7
              have c7b1 : ((bt a0 x1_1) != 32) = true := bne_iff_ne.mpr c7
              (first | rw [c7b0] | (simp only [i64_w, i32_w]; rw [c7b0]) | skip)
              by_cases c8 : (bt a0 x1_1) = 9
              · rw [if_pos c8] at H
                have c8b0 : ((bt a0 x1_1) == 9) = true := beq_iff_eq.mpr c8
                have c8b1 : ((bt a0 x1_1) != 9) = false := bne_eq_false_iff_eq.mpr c8
                clear c8
                have H' := Aside0.mk H
                clear H
                go_wp2
                go_meet
                case rel => exact ⟨_, (((bt a0 x1_1) == 9)), (by first | rfl | (simp; done) | (simp [*]; done)), H', ⟨by have := HK1.out; first | omega | exact Nat.le_refl _⟩, by repeat (first | exact Drawn0.refl _ | apply Drawn0.step)⟩
              · rw [if_neg c8] at H
                have c8b0 : ((bt a0 x1_1) == 9) = false := beq_eq_false_iff_ne.mpr c8
                have c8b1 : ((bt a0 x1_1) != 9) = true := bne_iff_ne.mpr c8
                by_cases c9 : (bt a0 x1_1) = 10
                · rw [if_pos c9] at H
                  have c9b0 : ((bt a0 x1_1) == 10) = true := beq_iff_eq.mpr c9
                  have c9b1 : ((bt a0 x1_1) != 10) = false := bne_eq_false_iff_eq.mpr c9
                  clear c9
                  have H' := Aside0.mk H
                  clear H
                  go_wp2
                  go_meet
                  case rel => exact ⟨_, (((bt a0 x1_1) == 10)), (by first | rfl | (simp; done) | (simp [*]; done)), H', ⟨by have := HK1.out; first | omega | exact Nat.le_refl _⟩, by repeat (first | exact Drawn0.refl _ | apply Drawn0.step)⟩
                · rw [if_neg c9] at H
                  have c9b0 : ((bt a0 x1_1) == 10) = false := beq_eq_false_iff_ne.mpr c9
                  have c9b1 : ((bt a0 x1_1) != 10) = true := bne_iff_ne.mpr c9
                  have H' := Aside0.mk H
                  clear H
                  go_wp2
                  go_meet
                  case rel => exact ⟨_, (((bt a0 x1_1) == 13)), (by first | rfl | (simp; done) | (simp [*]; done)), H', ⟨by have := HK1.out; first | omega | exact Nat.le_refl _⟩, by repeat (first | exact Drawn0.refl _ | apply Drawn0.step)⟩
          case rest =>
            clear HC6
            try clear p2
            try clear c3
            try clear c3b0
            try clear c4
            try clear c4b0
            try clear p5
            try clear q5
            try clear hx5
            try clear c7
            try clear c7b0
            try clear c7b1
            try clear c8
            try clear c8b0
            try clear c8b1
            try clear c9
            try clear c9b0
            try clear c9b1
            try clear p2
            try clear p5
            try clear q5
            obtain ⟨kq, x14_5, rfl, HA, HJ5, ⟨mc5, rfl⟩⟩ := hcut
            cases kq with
            | zero => exact absurd HA.out (by simp [lex_skip.j1])
            | succ kj5 =>
              have H := HA.out
              clear HA
              simp only [lex_skip.j1] at H
              by_cases c10 : x14_5 = true
              · subst c10
                have H1 : (lex_skip.l0 kj5 a0 (wrap64 (x1_1 + 1))) = some r := by rw [if_pos rfl] at H; exact H
                clear H
                have H := H1
                clear H1
                have H' := Aside0.mk H
                clear H
                go_wp2
                go_roundg kj5
                case measure => have := HK1.out; have := HJ5.out; omega
                case rel => exact ⟨(wrap64 (x1_1 + 1)), (by first | rfl | (simp; done) | (simp [*]; done)), H', ⟨by have := HK1.out; have := HJ5.out; omega⟩, by repeat (first | exact Drawn0.refl _ | apply Drawn0.step)⟩
              · replace c10 := Bool.eq_false_iff.mpr c10
                subst c10
                have H1 : (if (bt a0 x1_1) = 35 then (if 0 ≤ x1_1 then (if x1_1 ≤ (a0.size : Int) then ((strings_IndexByte.f (a0.extract (x1_1 : Int).toNat a0.size) 10).bind fun t101 => (if t101 < 0 then (some (a0.size : Int)) else (lex_skip.l0 kj5 a0 (wrap64 (x1_1 + t101))))) else (none)) else (none)) else (some x1_1)) = some r := by rw [if_neg (show ¬ (false = true) by decide)] at H; exact H
                clear H
                have H := H1
                clear H1
                by_cases c11 : (bt a0 x1_1) = 35
                · rw [if_pos c11] at H
                  have c11b0 : ((bt a0 x1_1) == 35) = true := beq_iff_eq.mpr c11
                  have c11b1 : ((bt a0 x1_1) != 35) = false := bne_eq_false_iff_eq.mpr c11
                  clear c11
                  by_cases c12 : 0 ≤ x1_1
                  · rw [if_pos c12] at H
                    have c12b0 := eq_true c12
                    have c12b1 : decide (0 ≤ x1_1) = true := decide_eq_true c12
                    clear c12
                    by_cases c13 : x1_1 ≤ (a0.size : Int)
                    · rw [if_pos c13] at H
                      have c13b0 := eq_true c13
                      have c13b1 : decide (x1_1 ≤ (a0.size : Int)) = true := decide_eq_true c13
                      clear c13
                      replace H := Option.bind_eq_some_iff.mp H
                      obtain ⟨t101, A140, H⟩ := H
                      replace H : (if t101 < 0 then (some (a0.size : Int)) else (lex_skip.l0 kj5 a0 (wrap64 (x1_1 + t101)))) = some r := H
                      have A14 := Aside0.mk A140
                      clear A140
                      by_cases c15 : t101 < 0
                      · rw [if_pos c15] at H
                        have c15b0 : decide (t101 < 0) = true := decide_eq_true c15
                        clear c15
                        obtain rfl := Option.some.inj H
                        go_wp2_with (first | ((with_reducible refine gate_callee (f := 52) rfl ?_); refine goesL_ (some 26) rfl rfl Try.func52 (by kernel_rfl) rfl #[.string (a0.extract (x1_1 : Int).toNat a0.size), .int .u8 10] rfl (by (try simp only [List.map_toArray, List.map_cons, List.map_nil]); first | done | rfl | (simp only [List.length_drop, List.length_take]; rfl)) ?_; (with_reducible refine (strings_IndexByte.calls (a0.extract (x1_1 : Int).toNat a0.size) 10 t101 _ A14.out).mono ?_); rintro e w' ⟨rfl, ⟨nd, rfl⟩⟩; refine ⟨_, rfl, ?_⟩))
                        go_ret
                        exact ⟨by first | rfl | (simp; done) | (simp [*]; done), by repeat (first | exact Drawn0.refl _ | apply Drawn0.step)⟩
                      · rw [if_neg c15] at H
                        have c15b0 : decide (t101 < 0) = false := decide_eq_false c15
                        clear c15
                        have H' := Aside0.mk H
                        clear H
                        go_wp2_with (first | ((with_reducible refine gate_callee (f := 52) rfl ?_); refine goesL_ (some 26) rfl rfl Try.func52 (by kernel_rfl) rfl #[.string (a0.extract (x1_1 : Int).toNat a0.size), .int .u8 10] rfl (by (try simp only [List.map_toArray, List.map_cons, List.map_nil]); first | done | rfl | (simp only [List.length_drop, List.length_take]; rfl)) ?_; (with_reducible refine (strings_IndexByte.calls (a0.extract (x1_1 : Int).toNat a0.size) 10 t101 _ A14.out).mono ?_); rintro e w' ⟨rfl, ⟨nd, rfl⟩⟩; refine ⟨_, rfl, ?_⟩))
                        go_roundg kj5
                        case measure => have := HK1.out; have := HJ5.out; omega
                        case rel => exact ⟨(wrap64 (x1_1 + t101)), (by first | rfl | (simp; done) | (simp [*]; done)), H', ⟨by have := HK1.out; have := HJ5.out; omega⟩, by repeat (first | exact Drawn0.refl _ | apply Drawn0.step)⟩
                    · rw [if_neg c13] at H
                      exact absurd H (by simp)
                  · rw [if_neg c12] at H
                    exact absurd H (by simp)
                · rw [if_neg c11] at H
                  have c11b0 : ((bt a0 x1_1) == 35) = false := beq_eq_false_iff_ne.mpr c11
                  have c11b1 : ((bt a0 x1_1) != 35) = true := bne_iff_ne.mpr c11
                  obtain rfl := Option.some.inj H
                  go_wp2
                  go_ret
                  exact ⟨by first | rfl | (simp; done) | (simp [*]; done), by repeat (first | exact Drawn0.refl _ | apply Drawn0.step)⟩
        · rw [if_neg c4] at H
          exact absurd H (by simp)
      · rw [if_neg c3] at H
        have c3b0 : decide (x1_1 < (a0.size : Int)) = false := decide_eq_false c3
        clear c3
        obtain rfl := Option.some.inj H
        go_wp2
        go_ret
        exact ⟨by first | rfl | (simp; done) | (simp [*]; done), by repeat (first | exact Drawn0.refl _ | apply Drawn0.step)⟩
def lex_isLetter.f (a0 : Int) : Option (Bool) := if a0 ≥ 97 then (if a0 ≤ 122 then (some true) else (if a0 ≥ 65 then (if a0 ≤ 90 then (some true) else (some (a0 == 95))) else (some (a0 == 95)))) else (if a0 ≥ 65 then (if a0 ≤ 90 then (some true) else (some (a0 == 95))) else (some (a0 == 95)))
set_option maxHeartbeats 8000000 in
set_option maxRecDepth 100000 in
theorem lex_isLetter.calls (a0 : Int) (r : Bool) (w : World) (h : lex_isLetter.f a0 = some r) :
    Calls Try.prog 53 #[.int .u8 a0] w fun e w' => e = .returned (.bool r) ∧ Drawn0 w w' := by
  have H : (if a0 ≥ 97 then (if a0 ≤ 122 then (some true) else (if a0 ≥ 65 then (if a0 ≤ 90 then (some true) else (some (a0 == 95))) else (some (a0 == 95)))) else (if a0 ≥ 65 then (if a0 ≤ 90 then (some true) else (some (a0 == 95))) else (some (a0 == 95)))) = some r := h
  clear h
  by_cases c2 : a0 ≥ 97
  · rw [if_pos c2] at H
    have c2b0 : decide (97 ≤ a0) = true := decide_eq_true c2
    clear c2
    by_cases c3 : a0 ≤ 122
    · rw [if_pos c3] at H
      have c3b0 : decide (a0 ≤ 122) = true := decide_eq_true c3
      clear c3
      obtain rfl := Option.some.inj H
      go_enter Try.func53, Try.ntmps53
      go_wp2
      go_ret
      exact ⟨by first | rfl | (simp; done) | (simp [*]; done), by repeat (first | exact Drawn0.refl _ | apply Drawn0.step)⟩
    · rw [if_neg c3] at H
      have c3b0 : decide (a0 ≤ 122) = false := decide_eq_false c3
      clear c3
      by_cases c4 : a0 ≥ 65
      · rw [if_pos c4] at H
        have c4b0 : decide (65 ≤ a0) = true := decide_eq_true c4
        clear c4
        by_cases c5 : a0 ≤ 90
        · rw [if_pos c5] at H
          have c5b0 : decide (a0 ≤ 90) = true := decide_eq_true c5
          clear c5
          obtain rfl := Option.some.inj H
          go_enter Try.func53, Try.ntmps53
          go_wp2
          go_ret
          exact ⟨by first | rfl | (simp; done) | (simp [*]; done), by repeat (first | exact Drawn0.refl _ | apply Drawn0.step)⟩
        · rw [if_neg c5] at H
          have c5b0 : decide (a0 ≤ 90) = false := decide_eq_false c5
          clear c5
          obtain rfl := Option.some.inj H
          go_enter Try.func53, Try.ntmps53
          go_wp2
          go_ret
          exact ⟨by first | rfl | (simp; done) | (simp [*]; done), by repeat (first | exact Drawn0.refl _ | apply Drawn0.step)⟩
      · rw [if_neg c4] at H
        have c4b0 : decide (65 ≤ a0) = false := decide_eq_false c4
        clear c4
        obtain rfl := Option.some.inj H
        go_enter Try.func53, Try.ntmps53
        go_wp2
        go_ret
        exact ⟨by first | rfl | (simp; done) | (simp [*]; done), by repeat (first | exact Drawn0.refl _ | apply Drawn0.step)⟩
  · rw [if_neg c2] at H
    have c2b0 : decide (97 ≤ a0) = false := decide_eq_false c2
    clear c2
    by_cases c6 : a0 ≥ 65
    · rw [if_pos c6] at H
      have c6b0 : decide (65 ≤ a0) = true := decide_eq_true c6
      clear c6
      by_cases c7 : a0 ≤ 90
      · rw [if_pos c7] at H
        have c7b0 : decide (a0 ≤ 90) = true := decide_eq_true c7
        clear c7
        obtain rfl := Option.some.inj H
        go_enter Try.func53, Try.ntmps53
        go_wp2
        go_ret
        exact ⟨by first | rfl | (simp; done) | (simp [*]; done), by repeat (first | exact Drawn0.refl _ | apply Drawn0.step)⟩
      · rw [if_neg c7] at H
        have c7b0 : decide (a0 ≤ 90) = false := decide_eq_false c7
        clear c7
        obtain rfl := Option.some.inj H
        go_enter Try.func53, Try.ntmps53
        go_wp2
        go_ret
        exact ⟨by first | rfl | (simp; done) | (simp [*]; done), by repeat (first | exact Drawn0.refl _ | apply Drawn0.step)⟩
    · rw [if_neg c6] at H
      have c6b0 : decide (65 ≤ a0) = false := decide_eq_false c6
      clear c6
      obtain rfl := Option.some.inj H
      go_enter Try.func53, Try.ntmps53
      go_wp2
      go_ret
      exact ⟨by first | rfl | (simp; done) | (simp [*]; done), by repeat (first | exact Drawn0.refl _ | apply Drawn0.step)⟩
def lex_run.f (a0 : ByteArray) (a1 : Int) (a2 : Nat) : Option Int := if 0 ≤ a1 ∧ a1 ≤ (a0.size : Int) ∧ a0.size ≤ 2305843009213693952 ∧ (a2 = 56 ∨ a2 = 55) then some ((a1.toNat + G.tw a2 (a0.data.toList.drop a1.toNat) : Nat) : Int) else none
theorem lex_run.calls (a0 : ByteArray) (a1 : Int) (a2 : Nat) (r : Int) (w : World) (h : lex_run.f a0 a1 a2 = some r) :
    Calls Try.prog 54 #[.string a0, .int .i64 a1, .func (.func a2) #[] #[]] w fun e w' => e = .returned (.int .i64 r) ∧ Drawn0 w w' := by
  unfold lex_run.f at h
  split at h
  · rename_i hs
    obtain ⟨h0, h1, h2, h3⟩ := hs
    obtain rfl := Option.some.inj h
    obtain ⟨n, rfl⟩ := Int.eq_ofNat_of_zero_le h0
    rw [Int.toNat_natCast]
    rcases h3 with rfl | rfl
    · exact G.runDig a0 n w (by omega) h2
    · exact G.runToken a0 n w (by omega) h2
  · cases h
def lex_isDigit.f (a0 : Int) : Option (Bool) := if a0 ≥ 48 then (some (decide (a0 ≤ 57))) else (some false)
set_option maxHeartbeats 8000000 in
set_option maxRecDepth 100000 in
theorem lex_isDigit.calls (a0 : Int) (r : Bool) (w : World) (h : lex_isDigit.f a0 = some r) :
    Calls Try.prog 56 #[.int .u8 a0] w fun e w' => e = .returned (.bool r) ∧ Drawn0 w w' := by
  have H : (if a0 ≥ 48 then (some (decide (a0 ≤ 57))) else (some false)) = some r := h
  clear h
  by_cases c2 : a0 ≥ 48
  · rw [if_pos c2] at H
    have c2b0 : decide (48 ≤ a0) = true := decide_eq_true c2
    clear c2
    obtain rfl := Option.some.inj H
    go_enter Try.func56, Try.ntmps56
    go_wp2
    go_ret
    exact ⟨by first | rfl | (simp; done) | (simp [*]; done), by repeat (first | exact Drawn0.refl _ | apply Drawn0.step)⟩
  · rw [if_neg c2] at H
    have c2b0 : decide (48 ≤ a0) = false := decide_eq_false c2
    clear c2
    obtain rfl := Option.some.inj H
    go_enter Try.func56, Try.ntmps56
    go_wp2
    go_ret
    exact ⟨by first | rfl | (simp; done) | (simp [*]; done), by repeat (first | exact Drawn0.refl _ | apply Drawn0.step)⟩
def lex_number.f (a0 : ByteArray) : Option (Int × Bool) := if a0.size ≤ 2305843009213693952 then some (match G.numv 0 a0.data.toList with | some x => ((x : Int), true) | none => (0, false)) else none
theorem lex_number.calls (a0 : ByteArray) (r1 : Int) (r2 : Bool) (w : World) (h : lex_number.f a0 = some (r1, r2)) :
    Calls Try.prog 57 #[.string a0] w fun e w' => e = .returned (.tuple #[.int .u64 r1, .bool r2]) ∧ Drawn0 w w' := by
  unfold lex_number.f at h
  split at h
  · rename_i hs
    refine (G.number_calls a0 w hs).mono ?_
    rintro e w' ⟨rfl, rfl⟩
    refine ⟨?_, Drawn0.refl _⟩
    have h2 := Option.some.inj h
    revert h2
    cases G.numv 0 a0.data.toList with
    | none => intro h2; rw [Prod.mk.injEq] at h2; obtain ⟨rfl, rfl⟩ := h2; rfl
    | some x => intro h2; rw [Prod.mk.injEq] at h2; obtain ⟨rfl, rfl⟩ := h2; rfl
  · cases h
def lex_hex.j0 : Nat → Int → Bool → Option (Int)
  | 0, _, _ => none
  | k + 1, x0, x9 => if x9 = true then (some (((x0 - 97) % 256) + 10)) else (if x0 ≥ 65 then (if x0 ≤ 70 then (some (((x0 - 65) % 256) + 10)) else (some (-1))) else (some (-1)))
def lex_hex.f (k : Nat) (a0 : Int) : Option (Int) := (lex_isDigit.f a0).bind fun t102 => (if t102 = true then (some ((a0 - 48) % 256)) else (if a0 ≥ 97 then (lex_hex.j0 k a0 (decide (a0 ≤ 102))) else (lex_hex.j0 k a0 false)))
theorem lex_hex.mono_l : ∀ k, (∀ y0 y1, LeO (lex_hex.j0 k y0 y1) (lex_hex.j0 (k + 1) y0 y1))
  | 0 => fun _ _ r h => by simp [lex_hex.j0] at h
  | k + 1 => by
    have ih0 := lex_hex.mono_l k
    · intro y0 y1
      unfold lex_hex.j0
      repeat' first
      | (with_reducible exact ih0 _ _)
      | (with_reducible exact LeO.refl _)
      | (with_reducible exact LeO.none _)
      | (with_reducible refine LeO.ite ?_ ?_)
      | (with_reducible refine LeO.bind ?_ (fun _ => ?_))
      | exact ih0 _ _
      | exact LeO.none _
      | refine LeO.ite ?_ ?_
      | refine LeO.bind ?_ (fun _ => ?_)
theorem lex_hex.mono : ∀ a0 k, LeO (lex_hex.f k a0) (lex_hex.f (k + 1) a0) := by
  intro a0 k
  have ih0 := lex_hex.mono_l k
  unfold lex_hex.f
  repeat' first
      | (with_reducible exact ih0 _ _)
      | (with_reducible exact LeO.refl _)
      | (with_reducible exact LeO.none _)
      | (with_reducible refine LeO.ite ?_ ?_)
      | (with_reducible refine LeO.bind ?_ (fun _ => ?_))
      | exact ih0 _ _
      | exact LeO.none _
      | refine LeO.ite ?_ ?_
      | refine LeO.bind ?_ (fun _ => ?_)
set_option maxHeartbeats 8000000 in
set_option maxRecDepth 100000 in
theorem lex_hex.calls (k : Nat) (a0 : Int) (r : Int) (w : World) (h : lex_hex.f k a0 = some r) :
    Calls Try.prog 89 #[.int .u8 a0] w fun e w' => e = .returned (.int .i64 r) ∧ Drawn0 w w' := by
  have H : ((lex_isDigit.f a0).bind fun t102 => (if t102 = true then (some ((a0 - 48) % 256)) else (if a0 ≥ 97 then (lex_hex.j0 k a0 (decide (a0 ≤ 102))) else (lex_hex.j0 k a0 false)))) = some r := h
  clear h
  replace H := Option.bind_eq_some_iff.mp H
  obtain ⟨t102, A20, H⟩ := H
  replace H : (if t102 = true then (some ((a0 - 48) % 256)) else (if a0 ≥ 97 then (lex_hex.j0 k a0 (decide (a0 ≤ 102))) else (lex_hex.j0 k a0 false))) = some r := H
  have A2 := Aside0.mk A20
  clear A20
  by_cases c3 : t102 = true
  · subst c3
    have H1 : (some ((a0 - 48) % 256)) = some r := by rw [if_pos rfl] at H; exact H
    clear H
    have H := H1
    clear H1
    obtain rfl := Option.some.inj H
    go_enter Try.func89, Try.ntmps89
    go_wp2_with (first | ((with_reducible refine gate_callee (f := 56) rfl ?_); refine goesL_ (some 5) rfl rfl Try.func56 (by kernel_rfl) rfl #[.int .u8 a0] rfl (by (try simp only [List.map_toArray, List.map_cons, List.map_nil]); first | done | rfl | (simp only [List.length_drop, List.length_take]; rfl)) ?_; (with_reducible refine (lex_isDigit.calls a0 true _ A2.out).mono ?_); rintro e w' ⟨rfl, ⟨nd, rfl⟩⟩; refine ⟨_, rfl, ?_⟩))
    go_ret
    exact ⟨by first | rfl | (simp; done) | (simp [*]; done), by repeat (first | exact Drawn0.refl _ | apply Drawn0.step)⟩
  · replace c3 := Bool.eq_false_iff.mpr c3
    subst c3
    have H1 : (if a0 ≥ 97 then (lex_hex.j0 k a0 (decide (a0 ≤ 102))) else (lex_hex.j0 k a0 false)) = some r := by rw [if_neg (show ¬ (false = true) by decide)] at H; exact H
    clear H
    have H := H1
    clear H1
    have HC4 := Aside0.mk H
    clear H
    go_enter Try.func89, Try.ntmps89
    go_upto_region 3 with (first | ((with_reducible refine gate_callee (f := 56) rfl ?_); refine goesL_ (some 5) rfl rfl Try.func56 (by kernel_rfl) rfl #[.int .u8 a0] rfl (by (try simp only [List.map_toArray, List.map_cons, List.map_nil]); first | done | rfl | (simp only [List.length_drop, List.length_take]; rfl)) ?_; (with_reducible refine (lex_isDigit.calls a0 false _ A2.out).mono ?_); rintro e w' ⟨rfl, ⟨nd, rfl⟩⟩; refine ⟨_, rfl, ?_⟩))
    (try simp only [Act.put, List.setIfInBounds_toArray, List.set_cons_zero, List.set_cons_succ])
    go_cut [9] (fun v9 wc => ∃ (kq : Nat) (x9_3 : Bool), v9 = .bool x9_3 ∧ Aside0 (lex_hex.j0 kq a0 x9_3 = some r) ∧ Aside0 (kq ≤ k) ∧ Drawn0 w wc)
    case first =>
      have H := HC4.out
      clear HC4
      by_cases c5 : a0 ≥ 97
      · rw [if_pos c5] at H
        have c5b0 : decide (97 ≤ a0) = true := decide_eq_true c5
        clear c5
        (first | rw [c5b0] | (simp only [i64_w, i32_w]; rw [c5b0]) | skip)
        have H' := Aside0.mk H
        clear H
        go_wp2
        go_meet
        case rel => exact ⟨_, (decide (a0 ≤ 102)), (by first | rfl | (simp; done) | (simp [*]; done)), H', ⟨by first | omega | exact Nat.le_refl _⟩, by repeat (first | exact Drawn0.refl _ | apply Drawn0.step)⟩
      · rw [if_neg c5] at H
        have c5b0 : decide (97 ≤ a0) = false := decide_eq_false c5
        clear c5
        (first | rw [c5b0] | (simp only [i64_w, i32_w]; rw [c5b0]) | skip)
        have H' := Aside0.mk H
        clear H
        go_wp2
        go_meet
        case rel => exact ⟨_, (false), (by first | rfl | (simp; done) | (simp [*]; done)), H', ⟨by first | omega | exact Nat.le_refl _⟩, by repeat (first | exact Drawn0.refl _ | apply Drawn0.step)⟩
    case rest =>
      clear HC4
      try clear p2
      try clear c3
      try clear c5
      try clear c5b0
      obtain ⟨kq, x9_3, rfl, HA, HJ3, ⟨mc3, rfl⟩⟩ := hcut
      cases kq with
      | zero => exact absurd HA.out (by simp [lex_hex.j0])
      | succ kj3 =>
        have H := HA.out
        clear HA
        simp only [lex_hex.j0] at H
        by_cases c6 : x9_3 = true
        · subst c6
          have H1 : (some (((a0 - 97) % 256) + 10)) = some r := by rw [if_pos rfl] at H; exact H
          clear H
          have H := H1
          clear H1
          obtain rfl := Option.some.inj H
          go_wp2
          go_ret
          exact ⟨by first | rfl | (simp; done) | (simp [*]; done), by repeat (first | exact Drawn0.refl _ | apply Drawn0.step)⟩
        · replace c6 := Bool.eq_false_iff.mpr c6
          subst c6
          have H1 : (if a0 ≥ 65 then (if a0 ≤ 70 then (some (((a0 - 65) % 256) + 10)) else (some (-1))) else (some (-1))) = some r := by rw [if_neg (show ¬ (false = true) by decide)] at H; exact H
          clear H
          have H := H1
          clear H1
          by_cases c7 : a0 ≥ 65
          · rw [if_pos c7] at H
            have c7b0 : decide (65 ≤ a0) = true := decide_eq_true c7
            clear c7
            by_cases c8 : a0 ≤ 70
            · rw [if_pos c8] at H
              have c8b0 : decide (a0 ≤ 70) = true := decide_eq_true c8
              clear c8
              obtain rfl := Option.some.inj H
              go_wp2
              go_ret
              exact ⟨by first | rfl | (simp; done) | (simp [*]; done), by repeat (first | exact Drawn0.refl _ | apply Drawn0.step)⟩
            · rw [if_neg c8] at H
              have c8b0 : decide (a0 ≤ 70) = false := decide_eq_false c8
              clear c8
              obtain rfl := Option.some.inj H
              go_wp2
              go_ret
              exact ⟨by first | rfl | (simp; done) | (simp [*]; done), by repeat (first | exact Drawn0.refl _ | apply Drawn0.step)⟩
          · rw [if_neg c7] at H
            have c7b0 : decide (65 ≤ a0) = false := decide_eq_false c7
            clear c7
            obtain rfl := Option.some.inj H
            go_wp2
            go_ret
            exact ⟨by first | rfl | (simp; done) | (simp [*]; done), by repeat (first | exact Drawn0.refl _ | apply Drawn0.step)⟩
end Go.Proofs.Ytbdcndkafaajpaa.X
end
section
namespace Go.Proofs.Ytbdcndkafaajpaa.X
open Go.RowKit Go.Proofs.YtbdcndkafaajpaaW.PrintWords Go.Proofs.YtbdcndkafaajpaaW.PrintLast Go.Proofs.YtbdcndkafaajpaaW.PrintMore
attribute [local go_sem] max2_int min2_int max_two min_two max_three min_three max_four min_four   -- for this text's walks alone
set_option linter.unusedVariables false
set_option linter.unusedSimpArgs false
mutual
def lex_escape.j0 : Nat → ByteArray → Int → Int → Bool → Option (Int × Int)
  | 0, _, _, _, _ => none
  | k + 1, x0, x1, x14, x15 => if x15 = true then (if 0 ≤ (wrap64 (x1 + 1)) then (if (wrap64 (x1 + 1)) < (x0.size : Int) then (some (bt x0 (wrap64 (x1 + 1)), wrap64 (x1 + 2))) else (none)) else (none)) else (if x14 = 110 then (some (10, wrap64 (x1 + 2))) else (if x14 = 116 then (some (9, wrap64 (x1 + 2))) else (if x14 = 120 then (if (wrap64 (x1 + 3)) < (x0.size : Int) then (if 0 ≤ (wrap64 (x1 + 2)) then (if (wrap64 (x1 + 2)) < (x0.size : Int) then ((lex_hex.f k (bt x0 (wrap64 (x1 + 2)))).bind fun t103 => (if t103 ≥ 0 then (if 0 ≤ (wrap64 (x1 + 3)) then ((lex_hex.f k (bt x0 (wrap64 (x1 + 3)))).bind fun t104 => (lex_escape.j1 k x0 x1 (decide (t104 ≥ 0)))) else (none)) else (lex_escape.j1 k x0 x1 false))) else (none)) else (none)) else (lex_escape.j1 k x0 x1 false)) else (some (0, 0)))))
def lex_escape.j1 : Nat → ByteArray → Int → Bool → Option (Int × Int)
  | 0, _, _, _ => none
  | k + 1, x0, x1, x54 => if x54 = true then (if 0 ≤ (wrap64 (x1 + 2)) then (if (wrap64 (x1 + 2)) < (x0.size : Int) then ((lex_hex.f k (bt x0 (wrap64 (x1 + 2)))).bind fun t105 => (if 0 ≤ (wrap64 (x1 + 3)) then (if (wrap64 (x1 + 3)) < (x0.size : Int) then ((lex_hex.f k (bt x0 (wrap64 (x1 + 3)))).bind fun t106 => (some ((wrap64 ((wrap64 (16 * t105)) + t106)) % 256, wrap64 (x1 + 4)))) else (none)) else (none))) else (none)) else (none)) else (some (0, 0))
end
def lex_escape.f (k : Nat) (a0 : ByteArray) (a1 : Int) : Option (Int × Int) := if (wrap64 (a1 + 1)) ≥ (a0.size : Int) then (some (0, 0)) else (if 0 ≤ (wrap64 (a1 + 1)) then (if (wrap64 (a1 + 1)) < (a0.size : Int) then (if (bt a0 (wrap64 (a1 + 1))) = 92 then (lex_escape.j0 k a0 a1 (bt a0 (wrap64 (a1 + 1))) ((bt a0 (wrap64 (a1 + 1))) == 92)) else (lex_escape.j0 k a0 a1 (bt a0 (wrap64 (a1 + 1))) ((bt a0 (wrap64 (a1 + 1))) == 34))) else (none)) else (none))
theorem lex_escape.mono_l : ∀ k, (∀ y0 y1 y2 y3, LeO (lex_escape.j0 k y0 y1 y2 y3) (lex_escape.j0 (k + 1) y0 y1 y2 y3)) ∧ (∀ y0 y1 y2, LeO (lex_escape.j1 k y0 y1 y2) (lex_escape.j1 (k + 1) y0 y1 y2))
  | 0 => ⟨fun _ _ _ _ r h => by simp [lex_escape.j0] at h, fun _ _ _ r h => by simp [lex_escape.j1] at h⟩
  | k + 1 => by
    obtain ⟨ih0, ih1⟩ := lex_escape.mono_l k
    refine ⟨?_, ?_⟩
    · intro y0 y1 y2 y3
      unfold lex_escape.j0
      repeat' first
      | (with_reducible exact ih0 _ _ _ _)
      | (with_reducible exact ih1 _ _ _)
      | (with_reducible exact lex_hex.mono _ _)
      | (with_reducible exact LeO.refl _)
      | (with_reducible exact LeO.none _)
      | (with_reducible refine LeO.ite ?_ ?_)
      | (with_reducible refine LeO.bind ?_ (fun _ => ?_))
      | exact ih0 _ _ _ _
      | exact ih1 _ _ _
      | exact lex_hex.mono _ _
      | exact LeO.none _
      | refine LeO.ite ?_ ?_
      | refine LeO.bind ?_ (fun _ => ?_)
    · intro y0 y1 y2
      unfold lex_escape.j1
      repeat' first
      | (with_reducible exact ih0 _ _ _ _)
      | (with_reducible exact ih1 _ _ _)
      | (with_reducible exact lex_hex.mono _ _)
      | (with_reducible exact LeO.refl _)
      | (with_reducible exact LeO.none _)
      | (with_reducible refine LeO.ite ?_ ?_)
      | (with_reducible refine LeO.bind ?_ (fun _ => ?_))
      | exact ih0 _ _ _ _
      | exact ih1 _ _ _
      | exact lex_hex.mono _ _
      | exact LeO.none _
      | refine LeO.ite ?_ ?_
      | refine LeO.bind ?_ (fun _ => ?_)
theorem lex_escape.mono : ∀ a0 a1 k, LeO (lex_escape.f k a0 a1) (lex_escape.f (k + 1) a0 a1) := by
  intro a0 a1 k
  obtain ⟨ih0, ih1⟩ := lex_escape.mono_l k
  unfold lex_escape.f
  repeat' first
      | (with_reducible exact ih0 _ _ _ _)
      | (with_reducible exact ih1 _ _ _)
      | (with_reducible exact lex_hex.mono _ _)
      | (with_reducible exact LeO.refl _)
      | (with_reducible exact LeO.none _)
      | (with_reducible refine LeO.ite ?_ ?_)
      | (with_reducible refine LeO.bind ?_ (fun _ => ?_))
      | exact ih0 _ _ _ _
      | exact ih1 _ _ _
      | exact lex_hex.mono _ _
      | exact LeO.none _
      | refine LeO.ite ?_ ?_
      | refine LeO.bind ?_ (fun _ => ?_)
set_option maxHeartbeats 8000000 in
set_option maxRecDepth 100000 in
theorem lex_escape.calls (k : Nat) (a0 : ByteArray) (a1 : Int) (r1 : Int) (r2 : Int) (w : World) (h : lex_escape.f k a0 a1 = some (r1, r2)) :
    Calls Try.prog 80 #[.string a0, .int .i64 a1] w fun e w' => e = .returned (.tuple #[.int .u8 r1, .int .i64 r2]) ∧ Drawn0 w w' := by
  have H : (if (wrap64 (a1 + 1)) ≥ (a0.size : Int) then (some (0, 0)) else (if 0 ≤ (wrap64 (a1 + 1)) then (if (wrap64 (a1 + 1)) < (a0.size : Int) then (if (bt a0 (wrap64 (a1 + 1))) = 92 then (lex_escape.j0 k a0 a1 (bt a0 (wrap64 (a1 + 1))) ((bt a0 (wrap64 (a1 + 1))) == 92)) else (lex_escape.j0 k a0 a1 (bt a0 (wrap64 (a1 + 1))) ((bt a0 (wrap64 (a1 + 1))) == 34))) else (none)) else (none))) = some (r1, r2) := h
  clear h
  by_cases c3 : (wrap64 (a1 + 1)) ≥ (a0.size : Int)
  · rw [if_pos c3] at H
    have c3b0 : decide ((a0.size : Int) ≤ (wrap64 (a1 + 1))) = true := decide_eq_true c3
    clear c3
    simp only [Option.some.injEq, Prod.mk.injEq] at H
    obtain ⟨rfl, rfl⟩ := H
    go_enter Try.func80, Try.ntmps80
    go_wp2
    repeat (go_quiet (fail); try go_wp2)
    go_ret2
    exact ⟨by first | rfl | (simp; done) | (simp [*]; done), by repeat (first | exact Drawn0.refl _ | apply Drawn0.step)⟩
  · rw [if_neg c3] at H
    have c3b0 : decide ((a0.size : Int) ≤ (wrap64 (a1 + 1))) = false := decide_eq_false c3
    clear c3
    obtain ⟨ji4, hji4⟩ : ∃ j_ : Int, (wrap64 (a1 + 1)) = j_ := ⟨_, rfl⟩
    replace H : (if 0 ≤ (ji4) then (if (ji4) < (a0.size : Int) then (if (bt a0 (ji4)) = 92 then (lex_escape.j0 k a0 a1 (bt a0 (ji4)) ((bt a0 (ji4)) == 92)) else (lex_escape.j0 k a0 a1 (bt a0 (ji4)) ((bt a0 (ji4)) == 34))) else (none)) else (none)) = some (r1, r2) := by first | (rw [hji4] at H; exact H) | (simp only [hji4] at H ⊢; exact H)
    (try rw [hji4] at c3b0)
    have hji4w : (IntKind.i64.wrap (a1 + 1)) = ji4 := (i64_w _).trans hji4
    by_cases c5 : 0 ≤ (ji4)
    · rw [if_pos c5] at H
      have c5b0 : decide (0 ≤ (ji4)) = true := decide_eq_true c5
      clear c5
      by_cases c6 : (ji4) < (a0.size : Int)
      · rw [if_pos c6] at H
        have c6b0 : decide ((ji4) < (a0.size : Int)) = true := decide_eq_true c6
        clear c6
        have HC8 := Aside0.mk H
        clear H
        have p7 : 0 ≤ ((ji4) : Int) := of_decide_eq_true (by first | (with_reducible assumption) | assumption)
        have q7 : (ji4) < (a0.size : Int) := of_decide_eq_true (by first | (with_reducible assumption) | assumption)
        have hx7 := bt_at a0 (ji4)
        replace p7 := eq_true p7
        replace q7 := eq_true q7
        go_enter Try.func80, Try.ntmps80
        go_upto_if 15 with (fail)
        repeat (go_quiet (fail); go_upto_if 15 with (fail))
        go_cut [15] (fun v15 wc => ∃ (kq : Nat) (x15_7 : Bool), v15 = .bool x15_7 ∧ Aside0 (lex_escape.j0 kq a0 a1 (bt a0 (ji4)) x15_7 = some (r1, r2)) ∧ Aside0 (kq ≤ k) ∧ Drawn0 w wc)
        case first =>
          have H := HC8.out
          clear HC8
          by_cases c9 : (bt a0 (ji4)) = 92
          · rw [if_pos c9] at H
            have c9b0 : ((bt a0 (ji4)) == 92) = true := beq_iff_eq.mpr c9
            have c9b1 : ((bt a0 (ji4)) != 92) = false := bne_eq_false_iff_eq.mpr c9
            clear c9
            (first | rw [c9b0] | (simp only [i64_w, i32_w]; rw [c9b0]) | skip)
            have H' := Aside0.mk H
            clear H
            go_wp2
            repeat (go_quiet (fail); try go_wp2)
            go_meet
            case rel => exact ⟨_, (((bt a0 (ji4)) == 92)), (by first | rfl | (simp; done) | (simp [*]; done) | (simp [i64_w, IntKind.wrap_u8]; done) | ((try simp only [← hji4]); (first | rfl | (simp; done))) | (simp [*]; done)), H', ⟨by first | omega | exact Nat.le_refl _⟩, by repeat (first | exact Drawn0.refl _ | apply Drawn0.step)⟩
          · rw [if_neg c9] at H
            have c9b0 : ((bt a0 (ji4)) == 92) = false := beq_eq_false_iff_ne.mpr c9
            have c9b1 : ((bt a0 (ji4)) != 92) = true := bne_iff_ne.mpr c9
            (first | rw [c9b0] | (simp only [i64_w, i32_w]; rw [c9b0]) | skip)
            have H' := Aside0.mk H
            clear H
            go_wp2
            repeat (go_quiet (fail); try go_wp2)
            go_meet
            case rel => exact ⟨_, (((bt a0 (ji4)) == 34)), (by first | rfl | (simp; done) | (simp [*]; done) | (simp [i64_w, IntKind.wrap_u8]; done) | ((try simp only [← hji4]); (first | rfl | (simp; done))) | (simp [*]; done)), H', ⟨by first | omega | exact Nat.le_refl _⟩, by repeat (first | exact Drawn0.refl _ | apply Drawn0.step)⟩
        case rest =>
          clear HC8
          try clear p2
          try clear c3
          try clear c3b0
          try clear c5
          try clear c5b0
          try clear c6
          try clear c6b0
          try clear p6
          try clear p7
          try clear q7
          try clear hx7
          try clear c8
          try clear c9
          try clear c9b0
          try clear c9b1
          try clear p7
          try clear q7
          obtain ⟨kq, x15_7, rfl, HA, HJ7, ⟨mc7, rfl⟩⟩ := hcut
          cases kq with
          | zero => exact absurd HA.out (by simp [lex_escape.j0])
          | succ kj7 =>
            have H := HA.out
            clear HA
            simp only [lex_escape.j0] at H
            by_cases c10 : x15_7 = true
            · subst c10
              have H1 : (if 0 ≤ (wrap64 (a1 + 1)) then (if (wrap64 (a1 + 1)) < (a0.size : Int) then (some (bt a0 (wrap64 (a1 + 1)), wrap64 (a1 + 2))) else (none)) else (none)) = some (r1, r2) := by rw [if_pos rfl] at H; exact H
              clear H
              have H := H1
              clear H1
              try clear hji4
              try clear hji4w
              obtain ⟨ji11, hji11⟩ : ∃ j_ : Int, (wrap64 (a1 + 1)) = j_ := ⟨_, rfl⟩
              replace H : (if 0 ≤ (ji11) then (if (ji11) < (a0.size : Int) then (some (bt a0 (ji11), wrap64 (a1 + 2))) else (none)) else (none)) = some (r1, r2) := by first | (rw [hji11] at H; exact H) | (simp only [hji11] at H ⊢; exact H)
              (try rw [hji11] at c3b0)
              have hji11w : (IntKind.i64.wrap (a1 + 1)) = ji11 := (i64_w _).trans hji11
              by_cases c12 : 0 ≤ (ji11)
              · rw [if_pos c12] at H
                have c12b0 : decide (0 ≤ (ji11)) = true := decide_eq_true c12
                clear c12
                by_cases c13 : (ji11) < (a0.size : Int)
                · rw [if_pos c13] at H
                  have c13b0 : decide ((ji11) < (a0.size : Int)) = true := decide_eq_true c13
                  clear c13
                  simp only [Option.some.injEq, Prod.mk.injEq] at H
                  obtain ⟨rfl, rfl⟩ := H
                  have p14 : 0 ≤ ((ji11) : Int) := of_decide_eq_true (by first | (with_reducible assumption) | assumption)
                  have q14 : (ji11) < (a0.size : Int) := of_decide_eq_true (by first | (with_reducible assumption) | assumption)
                  have hx14 := bt_at a0 (ji11)
                  replace p14 := eq_true p14
                  replace q14 := eq_true q14
                  go_wp2
                  repeat (go_quiet (fail); try go_wp2)
                  go_ret2
                  exact ⟨by first | rfl | (simp; done) | (simp [*]; done) | (simp [i64_w, IntKind.wrap_u8]; done) | ((try simp only [← hji4]); (try simp only [← hji11]); (first | rfl | (simp; done))) | (simp [*]; done), by repeat (first | exact Drawn0.refl _ | apply Drawn0.step)⟩
                · rw [if_neg c13] at H
                  exact absurd H (by simp)
              · rw [if_neg c12] at H
                exact absurd H (by simp)
            · replace c10 := Bool.eq_false_iff.mpr c10
              subst c10
              have H1 : (if (bt a0 (ji4)) = 110 then (some (10, wrap64 (a1 + 2))) else (if (bt a0 (ji4)) = 116 then (some (9, wrap64 (a1 + 2))) else (if (bt a0 (ji4)) = 120 then (if (wrap64 (a1 + 3)) < (a0.size : Int) then (if 0 ≤ (wrap64 (a1 + 2)) then (if (wrap64 (a1 + 2)) < (a0.size : Int) then ((lex_hex.f kj7 (bt a0 (wrap64 (a1 + 2)))).bind fun t103 => (if t103 ≥ 0 then (if 0 ≤ (wrap64 (a1 + 3)) then ((lex_hex.f kj7 (bt a0 (wrap64 (a1 + 3)))).bind fun t104 => (lex_escape.j1 kj7 a0 a1 (decide (t104 ≥ 0)))) else (none)) else (lex_escape.j1 kj7 a0 a1 false))) else (none)) else (none)) else (lex_escape.j1 kj7 a0 a1 false)) else (some (0, 0))))) = some (r1, r2) := by rw [if_neg (show ¬ (false = true) by decide)] at H; exact H
              clear H
              have H := H1
              clear H1
              by_cases c15 : (bt a0 (ji4)) = 110
              · rw [if_pos c15] at H
                have c15b0 : ((bt a0 (ji4)) == 110) = true := beq_iff_eq.mpr c15
                have c15b1 : ((bt a0 (ji4)) != 110) = false := bne_eq_false_iff_eq.mpr c15
                clear c15
                simp only [Option.some.injEq, Prod.mk.injEq] at H
                obtain ⟨rfl, rfl⟩ := H
                go_wp2
                repeat (go_quiet (fail); try go_wp2)
                go_ret2
                exact ⟨by first | rfl | (simp; done) | (simp [*]; done) | (simp [i64_w, IntKind.wrap_u8]; done) | ((try simp only [← hji4]); (first | rfl | (simp; done))) | (simp [*]; done), by repeat (first | exact Drawn0.refl _ | apply Drawn0.step)⟩
              · rw [if_neg c15] at H
                have c15b0 : ((bt a0 (ji4)) == 110) = false := beq_eq_false_iff_ne.mpr c15
                have c15b1 : ((bt a0 (ji4)) != 110) = true := bne_iff_ne.mpr c15
                by_cases c16 : (bt a0 (ji4)) = 116
                · rw [if_pos c16] at H
                  have c16b0 : ((bt a0 (ji4)) == 116) = true := beq_iff_eq.mpr c16
                  have c16b1 : ((bt a0 (ji4)) != 116) = false := bne_eq_false_iff_eq.mpr c16
                  clear c16
                  simp only [Option.some.injEq, Prod.mk.injEq] at H
                  obtain ⟨rfl, rfl⟩ := H
                  go_wp2
                  repeat (go_quiet (fail); try go_wp2)
                  go_ret2
                  exact ⟨by first | rfl | (simp; done) | (simp [*]; done) | (simp [i64_w, IntKind.wrap_u8]; done) | ((try simp only [← hji4]); (first | rfl | (simp; done))) | (simp [*]; done), by repeat (first | exact Drawn0.refl _ | apply Drawn0.step)⟩
                · rw [if_neg c16] at H
                  have c16b0 : ((bt a0 (ji4)) == 116) = false := beq_eq_false_iff_ne.mpr c16
                  have c16b1 : ((bt a0 (ji4)) != 116) = true := bne_iff_ne.mpr c16
                  by_cases c17 : (bt a0 (ji4)) = 120
                  · rw [if_pos c17] at H
                    have c17b0 : ((bt a0 (ji4)) == 120) = true := beq_iff_eq.mpr c17
                    have c17b1 : ((bt a0 (ji4)) != 120) = false := bne_eq_false_iff_eq.mpr c17
                    clear c17
                    have HC18 := Aside0.mk H
                    clear H
                    go_upto_region 12 with (fail)
                    repeat (go_quiet (fail); go_upto_region 12 with (fail))
                    go_cut [54] (fun v54 wc => ∃ (kq : Nat) (x54_17 : Bool), v54 = .bool x54_17 ∧ Aside0 (lex_escape.j1 kq a0 a1 x54_17 = some (r1, r2)) ∧ Aside0 (kq ≤ kj7) ∧ Drawn0 w wc)
                    case first =>
                      have H := HC18.out
                      clear HC18
                      by_cases c19 : (wrap64 (a1 + 3)) < (a0.size : Int)
                      · rw [if_pos c19] at H
                        have c19b0 : decide ((wrap64 (a1 + 3)) < (a0.size : Int)) = true := decide_eq_true c19
                        clear c19
                        (first | rw [c19b0] | (simp only [i64_w, i32_w]; rw [c19b0]) | skip)
                        obtain ⟨ji20, hji20⟩ : ∃ j_ : Int, (wrap64 (a1 + 2)) = j_ := ⟨_, rfl⟩
                        replace H : (if 0 ≤ (ji20) then (if (ji20) < (a0.size : Int) then ((lex_hex.f kj7 (bt a0 (ji20))).bind fun t103 => (if t103 ≥ 0 then (if 0 ≤ (wrap64 (a1 + 3)) then ((lex_hex.f kj7 (bt a0 (wrap64 (a1 + 3)))).bind fun t104 => (lex_escape.j1 kj7 a0 a1 (decide (t104 ≥ 0)))) else (none)) else (lex_escape.j1 kj7 a0 a1 false))) else (none)) else (none)) = some (r1, r2) := by first | (rw [hji20] at H; exact H) | (simp only [hji20] at H ⊢; exact H)
                        have hji20w : (IntKind.i64.wrap (a1 + 2)) = ji20 := (i64_w _).trans hji20
                        by_cases c21 : 0 ≤ (ji20)
                        · rw [if_pos c21] at H
                          have c21b0 : decide (0 ≤ (ji20)) = true := decide_eq_true c21
                          clear c21
                          by_cases c22 : (ji20) < (a0.size : Int)
                          · rw [if_pos c22] at H
                            have c22b0 : decide ((ji20) < (a0.size : Int)) = true := decide_eq_true c22
                            clear c22
                            replace H := Option.bind_eq_some_iff.mp H
                            obtain ⟨t103, A240, H⟩ := H
                            replace H : (if t103 ≥ 0 then (if 0 ≤ (wrap64 (a1 + 3)) then ((lex_hex.f kj7 (bt a0 (wrap64 (a1 + 3)))).bind fun t104 => (lex_escape.j1 kj7 a0 a1 (decide (t104 ≥ 0)))) else (none)) else (lex_escape.j1 kj7 a0 a1 false)) = some (r1, r2) := H
                            have A24 := Aside0.mk A240
                            clear A240
                            by_cases c25 : t103 ≥ 0
                            · rw [if_pos c25] at H
                              have c25b0 : decide (0 ≤ t103) = true := decide_eq_true c25
                              clear c25
                              obtain ⟨ji26, hji26⟩ : ∃ j_ : Int, (wrap64 (a1 + 3)) = j_ := ⟨_, rfl⟩
                              replace H : (if 0 ≤ (ji26) then ((lex_hex.f kj7 (bt a0 (ji26))).bind fun t104 => (lex_escape.j1 kj7 a0 a1 (decide (t104 ≥ 0)))) else (none)) = some (r1, r2) := by first | (rw [hji26] at H; exact H) | (simp only [hji26] at H ⊢; exact H)
                              (try rw [hji26] at c19b0)
                              (try rw [hji26] at A24)
                              have hji26w : (IntKind.i64.wrap (a1 + 3)) = ji26 := (i64_w _).trans hji26
                              by_cases c27 : 0 ≤ (ji26)
                              · rw [if_pos c27] at H
                                have c27b0 : decide (0 ≤ (ji26)) = true := decide_eq_true c27
                                clear c27
                                replace H := Option.bind_eq_some_iff.mp H
                                obtain ⟨t104, A290, H⟩ := H
                                replace H : (lex_escape.j1 kj7 a0 a1 (decide (t104 ≥ 0))) = some (r1, r2) := H
                                have A29 := Aside0.mk A290
                                clear A290
                                have H' := Aside0.mk H
                                clear H
                                have p23 : 0 ≤ ((ji20) : Int) := of_decide_eq_true (by first | (with_reducible assumption) | assumption)
                                have q23 : (ji20) < (a0.size : Int) := of_decide_eq_true (by first | (with_reducible assumption) | assumption)
                                have hx23 := bt_at a0 (ji20)
                                replace p23 := eq_true p23
                                replace q23 := eq_true q23
                                go_wp2_with (first | (go_at_call 89; (with_reducible refine (lex_hex.calls kj7 (bt a0 (ji20)) t103 _ A24.out).mono ?_); rintro e w' ⟨rfl, ⟨nd, rfl⟩⟩; (try first | exact ⟨rfl, _, World.drewN_drewN _ _ _⟩ | exact ⟨rfl, _, Eq.trans (World.drewN_drewN _ _ _) (congrArg (World.drewN _) (Nat.add_assoc _ _ _))⟩); have p28 : 0 ≤ ((ji26) : Int) := of_decide_eq_true (by first | (with_reducible assumption) | assumption); have q28 : (ji26) < (a0.size : Int) := of_decide_eq_true (by first | (with_reducible assumption) | assumption); have hx28 := bt_at a0 (ji26); replace p28 := eq_true p28; replace q28 := eq_true q28) | (go_at_call 89; (with_reducible refine (lex_hex.calls kj7 (bt a0 (ji26)) t104 _ A29.out).mono ?_); rintro e w' ⟨rfl, ⟨nd, rfl⟩⟩; (try first | exact ⟨rfl, _, World.drewN_drewN _ _ _⟩ | exact ⟨rfl, _, Eq.trans (World.drewN_drewN _ _ _) (congrArg (World.drewN _) (Nat.add_assoc _ _ _))⟩)))
                                repeat (go_quiet (first | (go_at_call 89; (with_reducible refine (lex_hex.calls kj7 (bt a0 (ji20)) t103 _ A24.out).mono ?_); rintro e w' ⟨rfl, ⟨nd, rfl⟩⟩; (try first | exact ⟨rfl, _, World.drewN_drewN _ _ _⟩ | exact ⟨rfl, _, Eq.trans (World.drewN_drewN _ _ _) (congrArg (World.drewN _) (Nat.add_assoc _ _ _))⟩); have p28 : 0 ≤ ((ji26) : Int) := of_decide_eq_true (by first | (with_reducible assumption) | assumption); have q28 : (ji26) < (a0.size : Int) := of_decide_eq_true (by first | (with_reducible assumption) | assumption); have hx28 := bt_at a0 (ji26); replace p28 := eq_true p28; replace q28 := eq_true q28) | (go_at_call 89; (with_reducible refine (lex_hex.calls kj7 (bt a0 (ji26)) t104 _ A29.out).mono ?_); rintro e w' ⟨rfl, ⟨nd, rfl⟩⟩; (try first | exact ⟨rfl, _, World.drewN_drewN _ _ _⟩ | exact ⟨rfl, _, Eq.trans (World.drewN_drewN _ _ _) (congrArg (World.drewN _) (Nat.add_assoc _ _ _))⟩))); try go_wp2_with (first | (go_at_call 89; (with_reducible refine (lex_hex.calls kj7 (bt a0 (ji20)) t103 _ A24.out).mono ?_); rintro e w' ⟨rfl, ⟨nd, rfl⟩⟩; (try first | exact ⟨rfl, _, World.drewN_drewN _ _ _⟩ | exact ⟨rfl, _, Eq.trans (World.drewN_drewN _ _ _) (congrArg (World.drewN _) (Nat.add_assoc _ _ _))⟩); have p28 : 0 ≤ ((ji26) : Int) := of_decide_eq_true (by first | (with_reducible assumption) | assumption); have q28 : (ji26) < (a0.size : Int) := of_decide_eq_true (by first | (with_reducible assumption) | assumption); have hx28 := bt_at a0 (ji26); replace p28 := eq_true p28; replace q28 := eq_true q28) | (go_at_call 89; (with_reducible refine (lex_hex.calls kj7 (bt a0 (ji26)) t104 _ A29.out).mono ?_); rintro e w' ⟨rfl, ⟨nd, rfl⟩⟩; (try first | exact ⟨rfl, _, World.drewN_drewN _ _ _⟩ | exact ⟨rfl, _, Eq.trans (World.drewN_drewN _ _ _) (congrArg (World.drewN _) (Nat.add_assoc _ _ _))⟩))))
                                go_meet
                                case rel => exact ⟨_, (decide (t104 ≥ 0)), (by first | rfl | (simp; done) | (simp [*]; done)), H', ⟨by have := HJ7.out; first | omega | exact Nat.le_refl _⟩, by repeat (first | exact Drawn0.refl _ | apply Drawn0.step)⟩
                              · rw [if_neg c27] at H
                                exact absurd H (by simp)
                            · rw [if_neg c25] at H
                              have c25b0 : decide (0 ≤ t103) = false := decide_eq_false c25
                              clear c25
                              have H' := Aside0.mk H
                              clear H
                              have p23 : 0 ≤ ((ji20) : Int) := of_decide_eq_true (by first | (with_reducible assumption) | assumption)
                              have q23 : (ji20) < (a0.size : Int) := of_decide_eq_true (by first | (with_reducible assumption) | assumption)
                              have hx23 := bt_at a0 (ji20)
                              replace p23 := eq_true p23
                              replace q23 := eq_true q23
                              go_wp2_with (first | (go_at_call 89; (with_reducible refine (lex_hex.calls kj7 (bt a0 (ji20)) t103 _ A24.out).mono ?_); rintro e w' ⟨rfl, ⟨nd, rfl⟩⟩; (try first | exact ⟨rfl, _, World.drewN_drewN _ _ _⟩ | exact ⟨rfl, _, Eq.trans (World.drewN_drewN _ _ _) (congrArg (World.drewN _) (Nat.add_assoc _ _ _))⟩)))
                              repeat (go_quiet (first | (go_at_call 89; (with_reducible refine (lex_hex.calls kj7 (bt a0 (ji20)) t103 _ A24.out).mono ?_); rintro e w' ⟨rfl, ⟨nd, rfl⟩⟩; (try first | exact ⟨rfl, _, World.drewN_drewN _ _ _⟩ | exact ⟨rfl, _, Eq.trans (World.drewN_drewN _ _ _) (congrArg (World.drewN _) (Nat.add_assoc _ _ _))⟩))); try go_wp2_with (first | (go_at_call 89; (with_reducible refine (lex_hex.calls kj7 (bt a0 (ji20)) t103 _ A24.out).mono ?_); rintro e w' ⟨rfl, ⟨nd, rfl⟩⟩; (try first | exact ⟨rfl, _, World.drewN_drewN _ _ _⟩ | exact ⟨rfl, _, Eq.trans (World.drewN_drewN _ _ _) (congrArg (World.drewN _) (Nat.add_assoc _ _ _))⟩))))
                              go_meet
                              case rel => exact ⟨_, (false), (by first | rfl | (simp; done) | (simp [*]; done)), H', ⟨by have := HJ7.out; first | omega | exact Nat.le_refl _⟩, by repeat (first | exact Drawn0.refl _ | apply Drawn0.step)⟩
                          · rw [if_neg c22] at H
                            exact absurd H (by simp)
                        · rw [if_neg c21] at H
                          exact absurd H (by simp)
                      · rw [if_neg c19] at H
                        have c19b0 : decide ((wrap64 (a1 + 3)) < (a0.size : Int)) = false := decide_eq_false c19
                        clear c19
                        (first | rw [c19b0] | (simp only [i64_w, i32_w]; rw [c19b0]) | skip)
                        have H' := Aside0.mk H
                        clear H
                        go_wp2
                        repeat (go_quiet (fail); try go_wp2)
                        go_meet
                        case rel => exact ⟨_, (false), (by first | rfl | (simp; done) | (simp [*]; done)), H', ⟨by have := HJ7.out; first | omega | exact Nat.le_refl _⟩, by repeat (first | exact Drawn0.refl _ | apply Drawn0.step)⟩
                    case rest =>
                      clear HC18
                      try clear c1
                      try clear p1
                      try clear q1
                      try clear hx1
                      try clear c2
                      try clear p2
                      try clear q2
                      try clear hx2
                      try clear c3
                      try clear c3b0
                      try clear c5
                      try clear c5b0
                      try clear c6
                      try clear c6b0
                      try clear p6
                      try clear c7
                      try clear p7
                      try clear q7
                      try clear hx7
                      try clear c8
                      try clear c9
                      try clear c9b0
                      try clear c9b1
                      try clear c10
                      try clear c12
                      try clear c12b0
                      try clear c13
                      try clear c13b0
                      try clear p14
                      try clear q14
                      try clear hx14
                      try clear c15
                      try clear c15b0
                      try clear c15b1
                      try clear c16
                      try clear c16b0
                      try clear c16b1
                      try clear c17
                      try clear c17b0
                      try clear c17b1
                      try clear c19
                      try clear c19b0
                      try clear c21
                      try clear c21b0
                      try clear c22
                      try clear c22b0
                      try clear p23
                      try clear q23
                      try clear hx23
                      try clear c25
                      try clear c25b0
                      try clear c27
                      try clear c27b0
                      try clear p28
                      try clear q28
                      try clear hx28
                      try clear p14
                      try clear p2
                      try clear p23
                      try clear p28
                      try clear p6
                      try clear p7
                      try clear q14
                      try clear q23
                      try clear q28
                      try clear q7
                      obtain ⟨kq, x54_17, rfl, HA, HJ17, ⟨mc17, rfl⟩⟩ := hcut
                      cases kq with
                      | zero => exact absurd HA.out (by simp [lex_escape.j1])
                      | succ kj17 =>
                        have H := HA.out
                        clear HA
                        simp only [lex_escape.j1] at H
                        by_cases c30 : x54_17 = true
                        · subst c30
                          have H1 : (if 0 ≤ (wrap64 (a1 + 2)) then (if (wrap64 (a1 + 2)) < (a0.size : Int) then ((lex_hex.f kj17 (bt a0 (wrap64 (a1 + 2)))).bind fun t105 => (if 0 ≤ (wrap64 (a1 + 3)) then (if (wrap64 (a1 + 3)) < (a0.size : Int) then ((lex_hex.f kj17 (bt a0 (wrap64 (a1 + 3)))).bind fun t106 => (some ((wrap64 ((wrap64 (16 * t105)) + t106)) % 256, wrap64 (a1 + 4)))) else (none)) else (none))) else (none)) else (none)) = some (r1, r2) := by rw [if_pos rfl] at H; exact H
                          clear H
                          have H := H1
                          clear H1
                          try clear hji20
                          try clear hji20w
                          obtain ⟨ji31, hji31⟩ : ∃ j_ : Int, (wrap64 (a1 + 2)) = j_ := ⟨_, rfl⟩
                          replace H : (if 0 ≤ (ji31) then (if (ji31) < (a0.size : Int) then ((lex_hex.f kj17 (bt a0 (ji31))).bind fun t105 => (if 0 ≤ (wrap64 (a1 + 3)) then (if (wrap64 (a1 + 3)) < (a0.size : Int) then ((lex_hex.f kj17 (bt a0 (wrap64 (a1 + 3)))).bind fun t106 => (some ((wrap64 ((wrap64 (16 * t105)) + t106)) % 256, wrap64 (a1 + 4)))) else (none)) else (none))) else (none)) else (none)) = some (r1, r2) := by first | (rw [hji31] at H; exact H) | (simp only [hji31] at H ⊢; exact H)
                          have hji31w : (IntKind.i64.wrap (a1 + 2)) = ji31 := (i64_w _).trans hji31
                          by_cases c32 : 0 ≤ (ji31)
                          · rw [if_pos c32] at H
                            have c32b0 : decide (0 ≤ (ji31)) = true := decide_eq_true c32
                            clear c32
                            by_cases c33 : (ji31) < (a0.size : Int)
                            · rw [if_pos c33] at H
                              have c33b0 : decide ((ji31) < (a0.size : Int)) = true := decide_eq_true c33
                              clear c33
                              replace H := Option.bind_eq_some_iff.mp H
                              obtain ⟨t105, A350, H⟩ := H
                              replace H : (if 0 ≤ (wrap64 (a1 + 3)) then (if (wrap64 (a1 + 3)) < (a0.size : Int) then ((lex_hex.f kj17 (bt a0 (wrap64 (a1 + 3)))).bind fun t106 => (some ((wrap64 ((wrap64 (16 * t105)) + t106)) % 256, wrap64 (a1 + 4)))) else (none)) else (none)) = some (r1, r2) := H
                              have A35 := Aside0.mk A350
                              clear A350
                              try clear hji26
                              try clear hji26w
                              obtain ⟨ji36, hji36⟩ : ∃ j_ : Int, (wrap64 (a1 + 3)) = j_ := ⟨_, rfl⟩
                              replace H : (if 0 ≤ (ji36) then (if (ji36) < (a0.size : Int) then ((lex_hex.f kj17 (bt a0 (ji36))).bind fun t106 => (some ((wrap64 ((wrap64 (16 * t105)) + t106)) % 256, wrap64 (a1 + 4)))) else (none)) else (none)) = some (r1, r2) := by first | (rw [hji36] at H; exact H) | (simp only [hji36] at H ⊢; exact H)
                              (try rw [hji36] at A35)
                              have hji36w : (IntKind.i64.wrap (a1 + 3)) = ji36 := (i64_w _).trans hji36
                              by_cases c37 : 0 ≤ (ji36)
                              · rw [if_pos c37] at H
                                have c37b0 : decide (0 ≤ (ji36)) = true := decide_eq_true c37
                                clear c37
                                by_cases c38 : (ji36) < (a0.size : Int)
                                · rw [if_pos c38] at H
                                  have c38b0 : decide ((ji36) < (a0.size : Int)) = true := decide_eq_true c38
                                  clear c38
                                  replace H := Option.bind_eq_some_iff.mp H
                                  obtain ⟨t106, A400, H⟩ := H
                                  replace H : (some ((wrap64 ((wrap64 (16 * t105)) + t106)) % 256, wrap64 (a1 + 4))) = some (r1, r2) := H
                                  have A40 := Aside0.mk A400
                                  clear A400
                                  simp only [Option.some.injEq, Prod.mk.injEq] at H
                                  obtain ⟨rfl, rfl⟩ := H
                                  have p34 : 0 ≤ ((ji31) : Int) := of_decide_eq_true (by first | (with_reducible assumption) | assumption)
                                  have q34 : (ji31) < (a0.size : Int) := of_decide_eq_true (by first | (with_reducible assumption) | assumption)
                                  have hx34 := bt_at a0 (ji31)
                                  replace p34 := eq_true p34
                                  replace q34 := eq_true q34
                                  go_wp2_with (first | (go_at_call 89; (with_reducible refine (lex_hex.calls kj17 (bt a0 (ji31)) t105 _ A35.out).mono ?_); rintro e w' ⟨rfl, ⟨nd, rfl⟩⟩; (try first | exact ⟨rfl, _, World.drewN_drewN _ _ _⟩ | exact ⟨rfl, _, Eq.trans (World.drewN_drewN _ _ _) (congrArg (World.drewN _) (Nat.add_assoc _ _ _))⟩); have p39 : 0 ≤ ((ji36) : Int) := of_decide_eq_true (by first | (with_reducible assumption) | assumption); have q39 : (ji36) < (a0.size : Int) := of_decide_eq_true (by first | (with_reducible assumption) | assumption); have hx39 := bt_at a0 (ji36); replace p39 := eq_true p39; replace q39 := eq_true q39) | (go_at_call 89; (with_reducible refine (lex_hex.calls kj17 (bt a0 (ji36)) t106 _ A40.out).mono ?_); rintro e w' ⟨rfl, ⟨nd, rfl⟩⟩; (try first | exact ⟨rfl, _, World.drewN_drewN _ _ _⟩ | exact ⟨rfl, _, Eq.trans (World.drewN_drewN _ _ _) (congrArg (World.drewN _) (Nat.add_assoc _ _ _))⟩)))
                                  repeat (go_quiet (first | (go_at_call 89; (with_reducible refine (lex_hex.calls kj17 (bt a0 (ji31)) t105 _ A35.out).mono ?_); rintro e w' ⟨rfl, ⟨nd, rfl⟩⟩; (try first | exact ⟨rfl, _, World.drewN_drewN _ _ _⟩ | exact ⟨rfl, _, Eq.trans (World.drewN_drewN _ _ _) (congrArg (World.drewN _) (Nat.add_assoc _ _ _))⟩); have p39 : 0 ≤ ((ji36) : Int) := of_decide_eq_true (by first | (with_reducible assumption) | assumption); have q39 : (ji36) < (a0.size : Int) := of_decide_eq_true (by first | (with_reducible assumption) | assumption); have hx39 := bt_at a0 (ji36); replace p39 := eq_true p39; replace q39 := eq_true q39) | (go_at_call 89; (with_reducible refine (lex_hex.calls kj17 (bt a0 (ji36)) t106 _ A40.out).mono ?_); rintro e w' ⟨rfl, ⟨nd, rfl⟩⟩; (try first | exact ⟨rfl, _, World.drewN_drewN _ _ _⟩ | exact ⟨rfl, _, Eq.trans (World.drewN_drewN _ _ _) (congrArg (World.drewN _) (Nat.add_assoc _ _ _))⟩))); try go_wp2_with (first | (go_at_call 89; (with_reducible refine (lex_hex.calls kj17 (bt a0 (ji31)) t105 _ A35.out).mono ?_); rintro e w' ⟨rfl, ⟨nd, rfl⟩⟩; (try first | exact ⟨rfl, _, World.drewN_drewN _ _ _⟩ | exact ⟨rfl, _, Eq.trans (World.drewN_drewN _ _ _) (congrArg (World.drewN _) (Nat.add_assoc _ _ _))⟩); have p39 : 0 ≤ ((ji36) : Int) := of_decide_eq_true (by first | (with_reducible assumption) | assumption); have q39 : (ji36) < (a0.size : Int) := of_decide_eq_true (by first | (with_reducible assumption) | assumption); have hx39 := bt_at a0 (ji36); replace p39 := eq_true p39; replace q39 := eq_true q39) | (go_at_call 89; (with_reducible refine (lex_hex.calls kj17 (bt a0 (ji36)) t106 _ A40.out).mono ?_); rintro e w' ⟨rfl, ⟨nd, rfl⟩⟩; (try first | exact ⟨rfl, _, World.drewN_drewN _ _ _⟩ | exact ⟨rfl, _, Eq.trans (World.drewN_drewN _ _ _) (congrArg (World.drewN _) (Nat.add_assoc _ _ _))⟩))))
                                  go_ret2
                                  exact ⟨by first | rfl | (simp; done) | (simp [*]; done) | (simp [i64_w, IntKind.wrap_u8]; done) | ((try simp only [← hji4]); (try simp only [← hji31]); (try simp only [← hji36]); (first | rfl | (simp; done))) | (simp [*]; done), by repeat (first | exact Drawn0.refl _ | apply Drawn0.step)⟩
                                · rw [if_neg c38] at H
                                  exact absurd H (by simp)
                              · rw [if_neg c37] at H
                                exact absurd H (by simp)
                            · rw [if_neg c33] at H
                              exact absurd H (by simp)
                          · rw [if_neg c32] at H
                            exact absurd H (by simp)
                        · replace c30 := Bool.eq_false_iff.mpr c30
                          subst c30
                          have H1 : (some (0, 0)) = some (r1, r2) := by rw [if_neg (show ¬ (false = true) by decide)] at H; exact H
                          clear H
                          have H := H1
                          clear H1
                          simp only [Option.some.injEq, Prod.mk.injEq] at H
                          obtain ⟨rfl, rfl⟩ := H
                          go_wp2
                          repeat (go_quiet (fail); try go_wp2)
                          go_ret2
                          exact ⟨by first | rfl | (simp; done) | (simp [*]; done) | (simp [i64_w, IntKind.wrap_u8]; done) | ((try simp only [← hji4]); (first | rfl | (simp; done))) | (simp [*]; done), by repeat (first | exact Drawn0.refl _ | apply Drawn0.step)⟩
                  · rw [if_neg c17] at H
                    have c17b0 : ((bt a0 (ji4)) == 120) = false := beq_eq_false_iff_ne.mpr c17
                    have c17b1 : ((bt a0 (ji4)) != 120) = true := bne_iff_ne.mpr c17
                    simp only [Option.some.injEq, Prod.mk.injEq] at H
                    obtain ⟨rfl, rfl⟩ := H
                    go_wp2
                    repeat (go_quiet (fail); try go_wp2)
                    go_ret2
                    exact ⟨by first | rfl | (simp; done) | (simp [*]; done) | (simp [i64_w, IntKind.wrap_u8]; done) | ((try simp only [← hji4]); (first | rfl | (simp; done))) | (simp [*]; done), by repeat (first | exact Drawn0.refl _ | apply Drawn0.step)⟩
      · rw [if_neg c6] at H
        exact absurd H (by simp)
    · rw [if_neg c5] at H
      exact absurd H (by simp)
mutual
def lex_text.l0 : Nat → ByteArray → Int → List Int → Int → Option (Int × ByteArray × Int × Int × Int × Int × Int)
  | 0, _, _, _, _ => none
  | k + 1, x0, x1, x7, x8 => if x8 < (x0.size : Int) then (if 0 ≤ x8 then (lex_text.j1 k x0 x1 x7 x8 ((bt x0 x8) != 10)) else (none)) else (lex_text.j1 k x0 x1 x7 x8 false)
def lex_text.j1 : Nat → ByteArray → Int → List Int → Int → Bool → Option (Int × ByteArray × Int × Int × Int × Int × Int)
  | 0, _, _, _, _, _ => none
  | k + 1, x0, x1, x7, x8, x22 => if x22 = true then (if 0 ≤ x8 then (if x8 < (x0.size : Int) then (if (bt x0 x8) = 34 then (some (3, strOfNums x7, 0, x1, wrap64 (x8 + 1), 0, 0)) else (if (bt x0 x8) = 92 then ((lex_escape.f k x0 x8).bind fun bt108 => (if bt108.2 = 0 then (some (0, (⟨#[]⟩ : ByteArray), 0, 0, 0, x8, 82)) else (if x7.length < 140737488355328 then (lex_text.l0 k x0 x1 (x7 ++ [bt108.1]) bt108.2) else (none)))) else (if x7.length < 140737488355328 then (lex_text.l0 k x0 x1 (x7 ++ [bt x0 x8]) (wrap64 (x8 + 1))) else (none)))) else (none)) else (none)) else (some (0, (⟨#[]⟩ : ByteArray), 0, 0, 0, x1, 81))
end
def lex_text.f (k : Nat) (a0 : ByteArray) (a1 : Int) : Option (Int × ByteArray × Int × Int × Int × Int × Int) := lex_text.l0 k a0 a1 ([] : List Int) (wrap64 (a1 + 1))
theorem lex_text.mono_l : ∀ k, (∀ y0 y1 y2 y3, LeO (lex_text.l0 k y0 y1 y2 y3) (lex_text.l0 (k + 1) y0 y1 y2 y3)) ∧ (∀ y0 y1 y2 y3 y4, LeO (lex_text.j1 k y0 y1 y2 y3 y4) (lex_text.j1 (k + 1) y0 y1 y2 y3 y4))
  | 0 => ⟨fun _ _ _ _ r h => by simp [lex_text.l0] at h, fun _ _ _ _ _ r h => by simp [lex_text.j1] at h⟩
  | k + 1 => by
    obtain ⟨ih0, ih1⟩ := lex_text.mono_l k
    refine ⟨?_, ?_⟩
    · intro y0 y1 y2 y3
      unfold lex_text.l0
      repeat' first
      | (with_reducible exact ih0 _ _ _ _)
      | (with_reducible exact ih1 _ _ _ _ _)
      | (with_reducible exact lex_escape.mono _ _ _)
      | (with_reducible exact LeO.refl _)
      | (with_reducible exact LeO.none _)
      | (with_reducible refine LeO.ite ?_ ?_)
      | (with_reducible refine LeO.bind ?_ (fun _ => ?_))
      | exact ih0 _ _ _ _
      | exact ih1 _ _ _ _ _
      | exact lex_escape.mono _ _ _
      | exact LeO.none _
      | refine LeO.ite ?_ ?_
      | refine LeO.bind ?_ (fun _ => ?_)
    · intro y0 y1 y2 y3 y4
      unfold lex_text.j1
      repeat' first
      | (with_reducible exact ih0 _ _ _ _)
      | (with_reducible exact ih1 _ _ _ _ _)
      | (with_reducible exact lex_escape.mono _ _ _)
      | (with_reducible exact LeO.refl _)
      | (with_reducible exact LeO.none _)
      | (with_reducible refine LeO.ite ?_ ?_)
      | (with_reducible refine LeO.bind ?_ (fun _ => ?_))
      | exact ih0 _ _ _ _
      | exact ih1 _ _ _ _ _
      | exact lex_escape.mono _ _ _
      | exact LeO.none _
      | refine LeO.ite ?_ ?_
      | refine LeO.bind ?_ (fun _ => ?_)
theorem lex_text.mono : ∀ a0 a1 k, LeO (lex_text.f k a0 a1) (lex_text.f (k + 1) a0 a1) := by
  intro a0 a1 k
  obtain ⟨ih0, ih1⟩ := lex_text.mono_l k
  unfold lex_text.f
  repeat' first
      | (with_reducible exact ih0 _ _ _ _)
      | (with_reducible exact ih1 _ _ _ _ _)
      | (with_reducible exact lex_escape.mono _ _ _)
      | (with_reducible exact LeO.refl _)
      | (with_reducible exact LeO.none _)
      | (with_reducible refine LeO.ite ?_ ?_)
      | (with_reducible refine LeO.bind ?_ (fun _ => ?_))
      | exact ih0 _ _ _ _
      | exact ih1 _ _ _ _ _
      | exact lex_escape.mono _ _ _
      | exact LeO.none _
      | refine LeO.ite ?_ ?_
      | refine LeO.bind ?_ (fun _ => ?_)
set_option maxHeartbeats 8000000 in
set_option maxRecDepth 100000 in
theorem lex_text.calls (k : Nat) (a0 : ByteArray) (a1 : Int) (r1 : Int) (r2 : ByteArray) (r3 : Int) (r4 : Int) (r5 : Int) (r6 : Int) (r7 : Int) (w : World) (h : lex_text.f k a0 a1 = some (r1, r2, r3, r4, r5, r6, r7)) :
    Calls Try.prog 58 #[.string a0, .int .i64 a1] w fun e w' => e = .returned (.tuple #[.agg #[.int .i64 r1, .string r2, .int .u64 r3, .int .i64 r4, .int .i64 r5], .int .i64 r6, .int .i64 r7]) ∧ Below w.heap.size w w' := by
  have hu47 := Try.underlying47
  have HB := Aside0.mk (Below.refl w.heap.size w)
  have H : (lex_text.l0 k a0 a1 ([] : List Int) (wrap64 (a1 + 1))) = some (r1, r2, r3, r4, r5, r6, r7) := h
  clear h
  have H' := Aside0.mk H
  clear H
  go_enter Try.func58, Try.ntmps58
  go_wp2_with (first | ((with_reducible refine gate_dst (N := 4) rfl ?_); refine box_event ?hg (N := 4) ?hd (cs := #[.int .i64 0, .string (⟨#[]⟩ : ByteArray), .int .u64 0, .int .i64 0, .int .i64 0]) (t := 47) ?hr ?_; (case hd => rfl); (case hg => rfl); (case hr => first | (go_simp; done) | (go_simp; rfl)); intro gb107 hg w3 hbox hb; have n0_ := Aside0.mk (below_step (by repeat (first | (with_reducible first | exact HB.out | apply below_alloc | apply pw_below_drewN | apply below_drew1) | exact HB.out)) hb); have n1_ := Aside0.mk (hbox); have n2_ := Aside0.mk ((by rw [hg]; exact (below_size (by repeat (first | (with_reducible first | exact HB.out | apply below_alloc | apply pw_below_drewN | apply below_drew1) | exact HB.out))) : w.heap.size ≤ gb107)); have n3_ := Aside0.mk ((by rw [hg]; exact (below_size (by repeat (first | (with_reducible first | exact HB.out | apply below_alloc | apply pw_below_drewN | apply below_drew1) | exact HB.out))) : w.heap.size ≤ gb107)); clear HB; have HB := n0_; have BK107 := n1_; have GW107 := n2_; have GE107 := n3_; clear n0_ n1_ n2_ n3_; clear hb hbox hg))
  go_loopg [7, 8] k (fun kq v7 v8 w' => ∃ (x7_1 : List Int) (x8_1 : Int) (x108000_1 : Int) (x108001_1 : ByteArray) (x108002_1 : Int) (x108003_1 : Int) (x108004_1 : Int), v8 = .int .i64 x8_1 ∧ Aside0 (lex_text.l0 kq a0 a1 x7_1 x8_1 = some (r1, r2, r3, r4, r5, r6, r7)) ∧ Aside0 (kq ≤ k) ∧ Aside0 (Kd.R (Kd.int .u8) 5 w' w.heap.size (fun _ => True) v7 x7_1) ∧ Aside0 (w'.heap[gb107]? = some (.cells #[.int .i64 x108000_1, .string x108001_1, .int .u64 x108002_1, .int .i64 x108003_1, .int .i64 x108004_1] 47 (0, 0))) ∧ Aside0 (Below w.heap.size w w'))
  case atStart => exact ⟨(([] : List Int)), (wrap64 (a1 + 1)), (0), ((⟨#[]⟩ : ByteArray)), (0), (0), (0), (by first | rfl | (simp; done) | (simp [*]; done)), H', ⟨Nat.le_refl _⟩, ⟨by first | exact Kd.R_nil _ _ _ _ _ | exact Kd.N_nil _ _ _ _ _ | exact Kd.V_nil _ _ _ _ _ | exact Kd.Q_nil _ _ _ _ _ | exact Kd.S_nil _ _ _ _ _⟩, ⟨by (with_reducible repeat (first | refine blk_drewN ?_ _ | refine blk_drew ?_ | refine blk_alloc ?_ _)); exact BK107.out⟩, ⟨by repeat (first | (with_reducible first | exact HB.out | apply below_alloc | apply pw_below_drewN | apply below_drew1 | refine below_set ?_ GE107.out) | exact HB.out)⟩⟩
  case round =>
    clear H'
    try clear p2
    obtain ⟨x7_1, x8_1, x108000_1, x108001_1, x108002_1, x108003_1, x108004_1, rfl, HA, HK1, HO_7, BK107, HB⟩ := hrel
    cases gk with
    | zero => exact absurd HA.out (by simp [lex_text.l0])
    | succ k1 =>
      have H := HA.out
      clear HA
      simp only [lex_text.l0] at H
      have HC4 := Aside0.mk H
      clear H
      go_upto_region 3 with (fail)
      go_cut [22] (fun v22 wc => ∃ (kq : Nat) (x22_3 : Bool), v22 = .bool x22_3 ∧ Aside0 (lex_text.j1 kq a0 a1 x7_1 x8_1 x22_3 = some (r1, r2, r3, r4, r5, r6, r7)) ∧ Aside0 (kq ≤ k1) ∧ Aside0 (Kd.R (Kd.int .u8) 5 wc w.heap.size (fun _ => True) u7 x7_1) ∧ Aside0 (wc.heap[gb107]? = some (.cells #[.int .i64 x108000_1, .string x108001_1, .int .u64 x108002_1, .int .i64 x108003_1, .int .i64 x108004_1] 47 (0, 0))) ∧ Aside0 (Below w.heap.size w wc))
      case first =>
        have H := HC4.out
        clear HC4
        by_cases c5 : x8_1 < (a0.size : Int)
        · rw [if_pos c5] at H
          have c5b0 : decide (x8_1 < (a0.size : Int)) = true := decide_eq_true c5
          clear c5
          (first | rw [c5b0] | (simp only [i64_w, i32_w]; rw [c5b0]) | skip)
          by_cases c6 : 0 ≤ x8_1
          · rw [if_pos c6] at H
            have c6b0 : decide (0 ≤ x8_1) = true := decide_eq_true c6
            clear c6
            have H' := Aside0.mk H
            clear H
            have p7 : 0 ≤ (x8_1 : Int) := of_decide_eq_true (by first | (with_reducible assumption) | assumption)
            have q7 : x8_1 < (a0.size : Int) := of_decide_eq_true (by first | (with_reducible assumption) | assumption)
            have hx7 := bt_at a0 x8_1
            replace p7 := eq_true p7
            replace q7 := eq_true q7
            go_wp2
            go_meet
            case rel => exact ⟨_, (((bt a0 x8_1) != 10)), (by first | rfl | (simp; done) | (simp [*]; done)), H', ⟨by have := HK1.out; first | omega | exact Nat.le_refl _⟩, ⟨by (with_reducible repeat (first | apply Kd.R_alloc | apply Kd.R_drewN | apply Kd.R_drew)); exact HO_7.out⟩, ⟨by (with_reducible repeat (first | refine blk_drewN ?_ _ | refine blk_drew ?_ | refine blk_alloc ?_ _)); exact BK107.out⟩, ⟨by repeat (first | (with_reducible first | exact HB.out | apply below_alloc | apply pw_below_drewN | apply below_drew1 | refine below_set ?_ GE107.out) | exact HB.out)⟩⟩
          · rw [if_neg c6] at H
            exact absurd H (by simp)
        · rw [if_neg c5] at H
          have c5b0 : decide (x8_1 < (a0.size : Int)) = false := decide_eq_false c5
          clear c5
          (first | rw [c5b0] | (simp only [i64_w, i32_w]; rw [c5b0]) | skip)
          have H' := Aside0.mk H
          clear H
          go_wp2
          go_meet
          case rel => exact ⟨_, (false), (by first | rfl | (simp; done) | (simp [*]; done)), H', ⟨by have := HK1.out; first | omega | exact Nat.le_refl _⟩, ⟨by (with_reducible repeat (first | apply Kd.R_alloc | apply Kd.R_drewN | apply Kd.R_drew)); exact HO_7.out⟩, ⟨by (with_reducible repeat (first | refine blk_drewN ?_ _ | refine blk_drew ?_ | refine blk_alloc ?_ _)); exact BK107.out⟩, ⟨by repeat (first | (with_reducible first | exact HB.out | apply below_alloc | apply pw_below_drewN | apply below_drew1 | refine below_set ?_ GE107.out) | exact HB.out)⟩⟩
      case rest =>
        clear HC4
        try clear p2
        try clear c5
        try clear c5b0
        try clear c6
        try clear c6b0
        try clear p6
        try clear p7
        try clear q7
        try clear hx7
        try clear p2
        try clear p7
        try clear q7
        obtain ⟨kq, x22_3, rfl, HA, HJ3, HO_7, BK107, HB⟩ := hcut
        cases kq with
        | zero => exact absurd HA.out (by simp [lex_text.j1])
        | succ kj3 =>
          have H := HA.out
          clear HA
          simp only [lex_text.j1] at H
          by_cases c8 : x22_3 = true
          · subst c8
            have H1 : (if 0 ≤ x8_1 then (if x8_1 < (a0.size : Int) then (if (bt a0 x8_1) = 34 then (some (3, strOfNums x7_1, 0, a1, wrap64 (x8_1 + 1), 0, 0)) else (if (bt a0 x8_1) = 92 then ((lex_escape.f kj3 a0 x8_1).bind fun bt108 => (if bt108.2 = 0 then (some (0, (⟨#[]⟩ : ByteArray), 0, 0, 0, x8_1, 82)) else (if x7_1.length < 140737488355328 then (lex_text.l0 kj3 a0 a1 (x7_1 ++ [bt108.1]) bt108.2) else (none)))) else (if x7_1.length < 140737488355328 then (lex_text.l0 kj3 a0 a1 (x7_1 ++ [bt a0 x8_1]) (wrap64 (x8_1 + 1))) else (none)))) else (none)) else (none)) = some (r1, r2, r3, r4, r5, r6, r7) := by rw [if_pos rfl] at H; exact H
            clear H
            have H := H1
            clear H1
            by_cases c9 : 0 ≤ x8_1
            · rw [if_pos c9] at H
              have c9b0 : decide (0 ≤ x8_1) = true := decide_eq_true c9
              clear c9
              by_cases c10 : x8_1 < (a0.size : Int)
              · rw [if_pos c10] at H
                have c10b0 : decide (x8_1 < (a0.size : Int)) = true := decide_eq_true c10
                clear c10
                by_cases c12 : (bt a0 x8_1) = 34
                · rw [if_pos c12] at H
                  have c12b0 : ((bt a0 x8_1) == 34) = true := beq_iff_eq.mpr c12
                  have c12b1 : ((bt a0 x8_1) != 34) = false := bne_eq_false_iff_eq.mpr c12
                  clear c12
                  simp only [Option.some.injEq, Prod.mk.injEq] at H
                  obtain ⟨rfl, rfl, rfl, rfl, rfl, rfl, rfl⟩ := H
                  have p11 : 0 ≤ (x8_1 : Int) := of_decide_eq_true (by first | (with_reducible assumption) | assumption)
                  have q11 : x8_1 < (a0.size : Int) := of_decide_eq_true (by first | (with_reducible assumption) | assumption)
                  have hx11 := bt_at a0 x8_1
                  replace p11 := eq_true p11
                  replace q11 := eq_true q11
                  have hcv13 := own_string (P := Try.prog) Try.underlying36 Try.underlying5 Try.underlying9 (Kd.own_of_R HO_7.out)
                  have hcz14_0 : wc.cell? ⟨gb107, 0, none⟩ = some (.int .i64 x108000_1) := (blk_cell BK107.out 0).trans rfl
                  have hcz14_1 : wc.cell? ⟨gb107, 1, none⟩ = some (.string x108001_1) := (blk_cell BK107.out 1).trans rfl
                  have hcz14_2 : wc.cell? ⟨gb107, 2, none⟩ = some (.int .u64 x108002_1) := (blk_cell BK107.out 2).trans rfl
                  have hcz14_3 : wc.cell? ⟨gb107, 3, none⟩ = some (.int .i64 x108003_1) := (blk_cell BK107.out 3).trans rfl
                  have hcz14_4 : wc.cell? ⟨gb107, 4, none⟩ = some (.int .i64 x108004_1) := (blk_cell BK107.out 4).trans rfl
                  have hfz14_0 := blk_frozen BK107.out 0
                  have hfz14_1 := blk_frozen BK107.out 1
                  have hfz14_2 := blk_frozen BK107.out 2
                  have hfz14_3 := blk_frozen BK107.out 3
                  have hfz14_4 := blk_frozen BK107.out 4
                  go_wp2
                  refine bodyPost_ret (results_ctt rfl _ _ gb107 47 #[.int .i64 3, .string (strOfNums x7_1), .int .u64 0, .int .i64 a1, .int .i64 (wrap64 (x8_1 + 1))] (0, 0) _ rfl (by (with_reducible repeat (first | refine blk_drewN ?_ _ | refine blk_drew ?_ | refine blk_alloc ?_ _)); refine blk_put (cs := #[.int .i64 3, .string (strOfNums x7_1), .int .u64 0, .int .i64 a1, .int .i64 x108004_1]) ?_ 4 _ rfl; (with_reducible repeat (first | refine blk_drewN ?_ _ | refine blk_drew ?_ | refine blk_alloc ?_ _)); refine blk_put (cs := #[.int .i64 3, .string (strOfNums x7_1), .int .u64 0, .int .i64 x108003_1, .int .i64 x108004_1]) ?_ 3 _ rfl; (with_reducible repeat (first | refine blk_drewN ?_ _ | refine blk_drew ?_ | refine blk_alloc ?_ _)); refine blk_put (cs := #[.int .i64 3, .string (strOfNums x7_1), .int .u64 x108002_1, .int .i64 x108003_1, .int .i64 x108004_1]) ?_ 2 _ rfl; (with_reducible repeat (first | refine blk_drewN ?_ _ | refine blk_drew ?_ | refine blk_alloc ?_ _)); refine blk_put (cs := #[.int .i64 3, .string x108001_1, .int .u64 x108002_1, .int .i64 x108003_1, .int .i64 x108004_1]) ?_ 1 _ rfl; (with_reducible repeat (first | refine blk_drewN ?_ _ | refine blk_drew ?_ | refine blk_alloc ?_ _)); refine blk_put (cs := #[.int .i64 x108000_1, .string x108001_1, .int .u64 x108002_1, .int .i64 x108003_1, .int .i64 x108004_1]) ?_ 0 _ rfl; (with_reducible repeat (first | refine blk_drewN ?_ _ | refine blk_drew ?_ | refine blk_alloc ?_ _)); exact BK107.out) Try.underlying47 rfl (by kernel_rfl)) rfl ?_
                  exact ⟨by first | rfl | (simp [errW_none, errW_some] <;> rfl) | (simp [*, errW_none, errW_some] <;> rfl), by repeat (first | (with_reducible first | exact HB.out | apply below_alloc | apply pw_below_drewN | apply below_drew1 | refine below_set ?_ GE107.out) | exact HB.out)⟩
                · rw [if_neg c12] at H
                  have c12b0 : ((bt a0 x8_1) == 34) = false := beq_eq_false_iff_ne.mpr c12
                  have c12b1 : ((bt a0 x8_1) != 34) = true := bne_iff_ne.mpr c12
                  by_cases c15 : (bt a0 x8_1) = 92
                  · rw [if_pos c15] at H
                    have c15b0 : ((bt a0 x8_1) == 92) = true := beq_iff_eq.mpr c15
                    have c15b1 : ((bt a0 x8_1) != 92) = false := bne_eq_false_iff_eq.mpr c15
                    clear c15
                    replace H := Option.bind_eq_some_iff.mp H
                    obtain ⟨⟨t108, t109⟩, A160, H⟩ := H
                    replace H : (if t109 = 0 then (some (0, (⟨#[]⟩ : ByteArray), 0, 0, 0, x8_1, 82)) else (if x7_1.length < 140737488355328 then (lex_text.l0 kj3 a0 a1 (x7_1 ++ [t108]) t109) else (none))) = some (r1, r2, r3, r4, r5, r6, r7) := H
                    have A16 := Aside0.mk A160
                    clear A160
                    by_cases c17 : t109 = 0
                    · rw [if_pos c17] at H
                      have c17b0 : (t109 == 0) = true := beq_iff_eq.mpr c17
                      have c17b1 : (t109 != 0) = false := bne_eq_false_iff_eq.mpr c17
                      clear c17
                      simp only [Option.some.injEq, Prod.mk.injEq] at H
                      obtain ⟨rfl, rfl, rfl, rfl, rfl, rfl, rfl⟩ := H
                      have p11 : 0 ≤ (x8_1 : Int) := of_decide_eq_true (by first | (with_reducible assumption) | assumption)
                      have q11 : x8_1 < (a0.size : Int) := of_decide_eq_true (by first | (with_reducible assumption) | assumption)
                      have hx11 := bt_at a0 x8_1
                      replace p11 := eq_true p11
                      replace q11 := eq_true q11
                      go_wp2_with (first | ((with_reducible refine gate_callee (f := 80) rfl ?_); refine goesL_ (some 47) rfl rfl Try.func80 (by kernel_rfl) rfl #[.string a0, .int .i64 x8_1] rfl (by (try simp only [List.map_toArray, List.map_cons, List.map_nil]); first | done | rfl | (simp only [List.length_drop, List.length_take]; rfl)) ?_; (with_reducible refine (lex_escape.calls kj3 a0 x8_1 t108 t109 _ A16.out).mono ?_); rintro e w' ⟨rfl, ⟨nd, rfl⟩⟩; refine ⟨_, rfl, ?_⟩; (try (rw [drewN_self wc]; generalize hq_ : World.drewN wc _ = wc; have n0_ : Aside0 (Kd.R (Kd.int .u8) 5 wc w.heap.size (fun _ => True) u7 x7_1) := ⟨by rw [← hq_]; exact (by (with_reducible repeat (first | apply Kd.R_alloc | apply Kd.R_drewN | apply Kd.R_drew)); exact HO_7.out)⟩; have n1_ : Aside0 (wc.heap[gb107]? = some (.cells #[.int .i64 x108000_1, .string x108001_1, .int .u64 x108002_1, .int .i64 x108003_1, .int .i64 x108004_1] 47 (0, 0))) := ⟨by rw [← hq_]; exact (by (with_reducible repeat (first | refine blk_drewN ?_ _ | refine blk_drew ?_ | refine blk_alloc ?_ _)); exact BK107.out)⟩; have n2_ : Aside0 (Below w.heap.size w wc) := ⟨by rw [← hq_]; exact (by repeat (first | (with_reducible first | exact HB.out | apply below_alloc | apply pw_below_drewN | apply below_drew1 | refine below_set ?_ GE107.out) | exact HB.out))⟩; clear HO_7 BK107 HB hq_; have HO_7 := n0_; have BK107 := n1_; have HB := n2_; clear n0_ n1_ n2_)); have hcz18_0 : wc.cell? ⟨gb107, 0, none⟩ = some (.int .i64 x108000_1) := (blk_cell BK107.out 0).trans rfl; have hcz18_1 : wc.cell? ⟨gb107, 1, none⟩ = some (.string x108001_1) := (blk_cell BK107.out 1).trans rfl; have hcz18_2 : wc.cell? ⟨gb107, 2, none⟩ = some (.int .u64 x108002_1) := (blk_cell BK107.out 2).trans rfl; have hcz18_3 : wc.cell? ⟨gb107, 3, none⟩ = some (.int .i64 x108003_1) := (blk_cell BK107.out 3).trans rfl; have hcz18_4 : wc.cell? ⟨gb107, 4, none⟩ = some (.int .i64 x108004_1) := (blk_cell BK107.out 4).trans rfl; have hfz18_0 := blk_frozen BK107.out 0; have hfz18_1 := blk_frozen BK107.out 1; have hfz18_2 := blk_frozen BK107.out 2; have hfz18_3 := blk_frozen BK107.out 3; have hfz18_4 := blk_frozen BK107.out 4))
                      refine bodyPost_ret (results_ctt rfl _ _ gb107 47 #[.int .i64 0, .string (⟨#[]⟩ : ByteArray), .int .u64 0, .int .i64 0, .int .i64 0] (0, 0) _ rfl (by (with_reducible repeat (first | refine blk_drewN ?_ _ | refine blk_drew ?_ | refine blk_alloc ?_ _)); refine blk_put (cs := #[.int .i64 0, .string (⟨#[]⟩ : ByteArray), .int .u64 0, .int .i64 0, .int .i64 x108004_1]) ?_ 4 _ rfl; (with_reducible repeat (first | refine blk_drewN ?_ _ | refine blk_drew ?_ | refine blk_alloc ?_ _)); refine blk_put (cs := #[.int .i64 0, .string (⟨#[]⟩ : ByteArray), .int .u64 0, .int .i64 x108003_1, .int .i64 x108004_1]) ?_ 3 _ rfl; (with_reducible repeat (first | refine blk_drewN ?_ _ | refine blk_drew ?_ | refine blk_alloc ?_ _)); refine blk_put (cs := #[.int .i64 0, .string (⟨#[]⟩ : ByteArray), .int .u64 x108002_1, .int .i64 x108003_1, .int .i64 x108004_1]) ?_ 2 _ rfl; (with_reducible repeat (first | refine blk_drewN ?_ _ | refine blk_drew ?_ | refine blk_alloc ?_ _)); refine blk_put (cs := #[.int .i64 0, .string x108001_1, .int .u64 x108002_1, .int .i64 x108003_1, .int .i64 x108004_1]) ?_ 1 _ rfl; (with_reducible repeat (first | refine blk_drewN ?_ _ | refine blk_drew ?_ | refine blk_alloc ?_ _)); refine blk_put (cs := #[.int .i64 x108000_1, .string x108001_1, .int .u64 x108002_1, .int .i64 x108003_1, .int .i64 x108004_1]) ?_ 0 _ rfl; (with_reducible repeat (first | refine blk_drewN ?_ _ | refine blk_drew ?_ | refine blk_alloc ?_ _)); exact BK107.out) Try.underlying47 rfl (by kernel_rfl)) rfl ?_
                      exact ⟨by first | rfl | (simp [errW_none, errW_some] <;> rfl) | (simp [*, errW_none, errW_some] <;> rfl), by repeat (first | (with_reducible first | exact HB.out | apply below_alloc | apply pw_below_drewN | apply below_drew1 | refine below_set ?_ GE107.out) | exact HB.out)⟩
                    · rw [if_neg c17] at H
                      have c17b0 : (t109 == 0) = false := beq_eq_false_iff_ne.mpr c17
                      have c17b1 : (t109 != 0) = true := bne_iff_ne.mpr c17
                      by_cases c19 : x7_1.length < 140737488355328
                      · rw [if_pos c19] at H
                        have LMc19 := Aside0.mk c19
                        clear c19
                        obtain ⟨y110, hy110⟩ : ∃ y_ : List Int, y_ = (x7_1 ++ [t108]) := ⟨_, rfl⟩
                        replace H : (lex_text.l0 kj3 a0 a1 y110 t109) = some (r1, r2, r3, r4, r5, r6, r7) := by first | (rw [hy110]; with_reducible exact H) | (have H2_ := (Option.bind_some _ _).symm.trans H; rw [hy110]; with_reducible exact H2_) | (have H2_ := (Option.bind_some _ _).symm.trans H; with_reducible exact H2_) | with_reducible exact H | (rw [hy110]; exact H) | exact H
                        have Ny110 := Aside0.mk hy110
                        clear hy110
                        have H' := Aside0.mk H
                        clear H
                        have p11 : 0 ≤ (x8_1 : Int) := of_decide_eq_true (by first | (with_reducible assumption) | assumption)
                        have q11 : x8_1 < (a0.size : Int) := of_decide_eq_true (by first | (with_reducible assumption) | assumption)
                        have hx11 := bt_at a0 x8_1
                        replace p11 := eq_true p11
                        replace q11 := eq_true q11
                        go_wp2_with (first | ((with_reducible refine gate_callee (f := 80) rfl ?_); refine goesL_ (some 47) rfl rfl Try.func80 (by kernel_rfl) rfl #[.string a0, .int .i64 x8_1] rfl (by (try simp only [List.map_toArray, List.map_cons, List.map_nil]); first | done | rfl | (simp only [List.length_drop, List.length_take]; rfl)) ?_; (with_reducible refine (lex_escape.calls kj3 a0 x8_1 t108 t109 _ A16.out).mono ?_); rintro e w' ⟨rfl, ⟨nd, rfl⟩⟩; refine ⟨_, rfl, ?_⟩) | ((with_reducible refine gate_builtin (b := .append) (xs := #[.tmp 54, .tmp 56]) rfl ?_); at_builtin; refine Kd.R_append (Kd.int .u8) (w0 := w) w.heap.size rfl (.tmp 54) (.tmp 56) 36 5 (.int .u8 0) 1 rfl Try.underlying36 info5 rfl (by decide) (by omega) u7 x7_1 t108 [.int .u8 t108] (fun _ => True) (fun _ => False) rfl rfl ?aP (fun _ hk => hk.elim) ?aF ?aO ?aB ?aS ?aL ?_; (case aP => exact rfl); (case aB => exact (by repeat (first | (with_reducible first | exact HB.out | apply below_alloc | apply pw_below_drewN | apply below_drew1 | refine below_set ?_ GE107.out) | exact HB.out))); (case aF => exact (fun _ _ => trivial)); (case aO => exact (by (with_reducible repeat (first | apply Kd.R_alloc | apply Kd.R_drewN | apply Kd.R_drew)); exact HO_7.out)); (case aS => exact (below_size (by repeat (first | (with_reducible first | exact HB.out | apply below_alloc | apply pw_below_drewN | apply below_drew1 | refine below_set ?_ GE107.out) | exact HB.out)))); (case aL => have := LMc19.out; omega); intro v111 w20 ho hb hg hat; rw [← Ny110.out] at ho; have n0_ := Aside0.mk (blk_grown (g := gb107) (o := .cells #[.int .i64 x108000_1, .string x108001_1, .int .u64 x108002_1, .int .i64 x108003_1, .int .i64 x108004_1] 47 (0, 0)) (by (with_reducible repeat (first | refine blk_drewN ?_ _ | refine blk_drew ?_ | refine blk_alloc ?_ _)); exact BK107.out) hg (Kd.R_ne HO_7.out BK107.out (by decide))); have n1_ := Aside0.mk (hb); have n2_ := Aside0.mk (ho); clear BK107; clear HB; clear HO_7; have BK107 := n0_; have HB := n1_; have HO112 := n2_; clear n0_ n1_ n2_; clear ho hb hg hat))
                        go_roundg kj3
                        case measure => have := HK1.out; have := HJ3.out; omega
                        case rel => exact ⟨(y110), (t109), (x108000_1), (x108001_1), (x108002_1), (x108003_1), (x108004_1), (by first | rfl | (simp; done) | (simp [*]; done)), H', ⟨by have := HK1.out; have := HJ3.out; omega⟩, ⟨by (with_reducible repeat (first | apply Kd.R_alloc | apply Kd.R_drewN | apply Kd.R_drew)); exact HO112.out⟩, ⟨by (with_reducible repeat (first | refine blk_drewN ?_ _ | refine blk_drew ?_ | refine blk_alloc ?_ _)); exact BK107.out⟩, ⟨by repeat (first | (with_reducible first | exact HB.out | apply below_alloc | apply pw_below_drewN | apply below_drew1 | refine below_set ?_ GE107.out) | exact HB.out)⟩⟩
                      · rw [if_neg c19] at H
                        exact absurd H (by simp)
                  · rw [if_neg c15] at H
                    have c15b0 : ((bt a0 x8_1) == 92) = false := beq_eq_false_iff_ne.mpr c15
                    have c15b1 : ((bt a0 x8_1) != 92) = true := bne_iff_ne.mpr c15
                    by_cases c22 : x7_1.length < 140737488355328
                    · rw [if_pos c22] at H
                      have LMc22 := Aside0.mk c22
                      clear c22
                      obtain ⟨y113, hy113⟩ : ∃ y_ : List Int, y_ = (x7_1 ++ [bt a0 x8_1]) := ⟨_, rfl⟩
                      replace H : (lex_text.l0 kj3 a0 a1 y113 (wrap64 (x8_1 + 1))) = some (r1, r2, r3, r4, r5, r6, r7) := by first | (rw [hy113]; with_reducible exact H) | (have H2_ := (Option.bind_some _ _).symm.trans H; rw [hy113]; with_reducible exact H2_) | (have H2_ := (Option.bind_some _ _).symm.trans H; with_reducible exact H2_) | with_reducible exact H | (rw [hy113]; exact H) | exact H
                      have Ny113 := Aside0.mk hy113
                      clear hy113
                      have H' := Aside0.mk H
                      clear H
                      have p11 : 0 ≤ (x8_1 : Int) := of_decide_eq_true (by first | (with_reducible assumption) | assumption)
                      have q11 : x8_1 < (a0.size : Int) := of_decide_eq_true (by first | (with_reducible assumption) | assumption)
                      have hx11 := bt_at a0 x8_1
                      replace p11 := eq_true p11
                      replace q11 := eq_true q11
                      have p21 : 0 ≤ (x8_1 : Int) := of_decide_eq_true (by first | (with_reducible assumption) | assumption)
                      have q21 : x8_1 < (a0.size : Int) := of_decide_eq_true (by first | (with_reducible assumption) | assumption)
                      have hx21 := bt_at a0 x8_1
                      replace p21 := eq_true p21
                      replace q21 := eq_true q21
                      go_wp2_with (first | ((with_reducible refine gate_builtin (b := .append) (xs := #[.tmp 26, .tmp 30]) rfl ?_); at_builtin; refine Kd.R_append (Kd.int .u8) (w0 := w) w.heap.size rfl (.tmp 26) (.tmp 30) 36 5 (.int .u8 0) 1 rfl Try.underlying36 info5 rfl (by decide) (by omega) u7 x7_1 (bt a0 x8_1) [.int .u8 (bt a0 x8_1)] (fun _ => True) (fun _ => False) rfl rfl ?aP (fun _ hk => hk.elim) ?aF ?aO ?aB ?aS ?aL ?_; (case aP => exact rfl); (case aB => exact (by repeat (first | (with_reducible first | exact HB.out | apply below_alloc | apply pw_below_drewN | apply below_drew1 | refine below_set ?_ GE107.out) | exact HB.out))); (case aF => exact (fun _ _ => trivial)); (case aO => exact (by (with_reducible repeat (first | apply Kd.R_alloc | apply Kd.R_drewN | apply Kd.R_drew)); exact HO_7.out)); (case aS => exact (below_size (by repeat (first | (with_reducible first | exact HB.out | apply below_alloc | apply pw_below_drewN | apply below_drew1 | refine below_set ?_ GE107.out) | exact HB.out)))); (case aL => have := LMc22.out; omega); intro v114 w23 ho hb hg hat; rw [← Ny113.out] at ho; have n0_ := Aside0.mk (blk_grown (g := gb107) (o := .cells #[.int .i64 x108000_1, .string x108001_1, .int .u64 x108002_1, .int .i64 x108003_1, .int .i64 x108004_1] 47 (0, 0)) (by (with_reducible repeat (first | refine blk_drewN ?_ _ | refine blk_drew ?_ | refine blk_alloc ?_ _)); exact BK107.out) hg (Kd.R_ne HO_7.out BK107.out (by decide))); have n1_ := Aside0.mk (hb); have n2_ := Aside0.mk (ho); clear BK107; clear HB; clear HO_7; have BK107 := n0_; have HB := n1_; have HO115 := n2_; clear n0_ n1_ n2_; clear ho hb hg hat))
                      go_roundg kj3
                      case measure => have := HK1.out; have := HJ3.out; omega
                      case rel => exact ⟨(y113), (wrap64 (x8_1 + 1)), (x108000_1), (x108001_1), (x108002_1), (x108003_1), (x108004_1), (by first | rfl | (simp; done) | (simp [*]; done)), H', ⟨by have := HK1.out; have := HJ3.out; omega⟩, ⟨by (with_reducible repeat (first | apply Kd.R_alloc | apply Kd.R_drewN | apply Kd.R_drew)); exact HO115.out⟩, ⟨by (with_reducible repeat (first | refine blk_drewN ?_ _ | refine blk_drew ?_ | refine blk_alloc ?_ _)); exact BK107.out⟩, ⟨by repeat (first | (with_reducible first | exact HB.out | apply below_alloc | apply pw_below_drewN | apply below_drew1 | refine below_set ?_ GE107.out) | exact HB.out)⟩⟩
                    · rw [if_neg c22] at H
                      exact absurd H (by simp)
              · rw [if_neg c10] at H
                exact absurd H (by simp)
            · rw [if_neg c9] at H
              exact absurd H (by simp)
          · replace c8 := Bool.eq_false_iff.mpr c8
            subst c8
            have H1 : (some (0, (⟨#[]⟩ : ByteArray), 0, 0, 0, a1, 81)) = some (r1, r2, r3, r4, r5, r6, r7) := by rw [if_neg (show ¬ (false = true) by decide)] at H; exact H
            clear H
            have H := H1
            clear H1
            simp only [Option.some.injEq, Prod.mk.injEq] at H
            obtain ⟨rfl, rfl, rfl, rfl, rfl, rfl, rfl⟩ := H
            have hcz24_0 : wc.cell? ⟨gb107, 0, none⟩ = some (.int .i64 x108000_1) := (blk_cell BK107.out 0).trans rfl
            have hcz24_1 : wc.cell? ⟨gb107, 1, none⟩ = some (.string x108001_1) := (blk_cell BK107.out 1).trans rfl
            have hcz24_2 : wc.cell? ⟨gb107, 2, none⟩ = some (.int .u64 x108002_1) := (blk_cell BK107.out 2).trans rfl
            have hcz24_3 : wc.cell? ⟨gb107, 3, none⟩ = some (.int .i64 x108003_1) := (blk_cell BK107.out 3).trans rfl
            have hcz24_4 : wc.cell? ⟨gb107, 4, none⟩ = some (.int .i64 x108004_1) := (blk_cell BK107.out 4).trans rfl
            have hfz24_0 := blk_frozen BK107.out 0
            have hfz24_1 := blk_frozen BK107.out 1
            have hfz24_2 := blk_frozen BK107.out 2
            have hfz24_3 := blk_frozen BK107.out 3
            have hfz24_4 := blk_frozen BK107.out 4
            go_wp2
            refine bodyPost_ret (results_ctt rfl _ _ gb107 47 #[.int .i64 0, .string (⟨#[]⟩ : ByteArray), .int .u64 0, .int .i64 0, .int .i64 0] (0, 0) _ rfl (by (with_reducible repeat (first | refine blk_drewN ?_ _ | refine blk_drew ?_ | refine blk_alloc ?_ _)); refine blk_put (cs := #[.int .i64 0, .string (⟨#[]⟩ : ByteArray), .int .u64 0, .int .i64 0, .int .i64 x108004_1]) ?_ 4 _ rfl; (with_reducible repeat (first | refine blk_drewN ?_ _ | refine blk_drew ?_ | refine blk_alloc ?_ _)); refine blk_put (cs := #[.int .i64 0, .string (⟨#[]⟩ : ByteArray), .int .u64 0, .int .i64 x108003_1, .int .i64 x108004_1]) ?_ 3 _ rfl; (with_reducible repeat (first | refine blk_drewN ?_ _ | refine blk_drew ?_ | refine blk_alloc ?_ _)); refine blk_put (cs := #[.int .i64 0, .string (⟨#[]⟩ : ByteArray), .int .u64 x108002_1, .int .i64 x108003_1, .int .i64 x108004_1]) ?_ 2 _ rfl; (with_reducible repeat (first | refine blk_drewN ?_ _ | refine blk_drew ?_ | refine blk_alloc ?_ _)); refine blk_put (cs := #[.int .i64 0, .string x108001_1, .int .u64 x108002_1, .int .i64 x108003_1, .int .i64 x108004_1]) ?_ 1 _ rfl; (with_reducible repeat (first | refine blk_drewN ?_ _ | refine blk_drew ?_ | refine blk_alloc ?_ _)); refine blk_put (cs := #[.int .i64 x108000_1, .string x108001_1, .int .u64 x108002_1, .int .i64 x108003_1, .int .i64 x108004_1]) ?_ 0 _ rfl; (with_reducible repeat (first | refine blk_drewN ?_ _ | refine blk_drew ?_ | refine blk_alloc ?_ _)); exact BK107.out) Try.underlying47 rfl (by kernel_rfl)) rfl ?_
            exact ⟨by first | rfl | (simp [errW_none, errW_some] <;> rfl) | (simp [*, errW_none, errW_some] <;> rfl), by repeat (first | (with_reducible first | exact HB.out | apply below_alloc | apply pw_below_drewN | apply below_drew1 | refine below_set ?_ GE107.out) | exact HB.out)⟩
end Go.Proofs.Ytbdcndkafaajpaa.X
end
