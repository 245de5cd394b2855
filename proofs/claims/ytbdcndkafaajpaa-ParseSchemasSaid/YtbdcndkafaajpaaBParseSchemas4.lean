/- Walks and plain laws behind ParseSchemas. Conditions: those in the theorems. -/
import Derived.Lib.Bytealg
import Derived.KernelRfl
import Derived.Test.YtbdcndkafaajpaaBParseSchemas0
import Derived.Test.YtbdcndkafaajpaaBParseSchemas1
import Derived.Test.YtbdcndkafaajpaaBParseSchemas2
import Derived.Test.YtbdcndkafaajpaaBParseSchemas3
set_option linter.unusedVariables false
set_option linter.unusedSimpArgs false
set_option maxHeartbeats 16000000
set_option maxRecDepth 100000
section
namespace Go.Proofs.Ytbdcndkafaajpaa.A
open Go.RowKit Ytbdcndkafaajpaa.X YtbdcndkafaajpaaW.PrintWords YtbdcndkafaajpaaW.PrintLast YtbdcndkafaajpaaW.PrintMore
open Ytbdcndkafaajpaa.P (Nd EO Res hd isT isM Qar mxl comb mk1 StD VeD EvD)
theorem Qrm (ts : List Tk) : ∀ p, P.endW ts ≠ .bad 0 p := by
 intro p e
 unfold P.endW at e
 split at e
 ·cases e
 ·cases e
theorem Qg0 (ts : List Tk) : ∀ p, P.Qdj ts ≠ .bad 0 p := by
 unfold P.Qdj
 exact P.Qbk (P.Qiv _ _ _ (Nat.lt_succ_self _)) fun l r _ => P.Qbk (Qrm _) fun _ r _ => P.Qfo _ _
section
variable {w w' : World} {A : Option Addr} {c : Nat} {L : List Tk} {g : Nat} {s : US}
theorem Qip (hG : Good L) (b : Bool) (h : Up w A c L g s) (hb : ∀ ts, s = .ok ts → b = ((hd ts).f0 == 0)) : Calls Try.prog 31 #[.pointer (some ⟨g, 0, none⟩), .bool b] w fun e w' =>
  (∃ t, Fr s t ∧ e = .returned (.agg #[.int .i64 t.f0, .string t.f1, .int .u64 t.f2, .int .i64 t.f3, .int .i64 t.f4])) ∧ Up w' A c L g (s.step P.endW) ∧ w.grownBy w' (some g) := by
 obtain ⟨q, lv, v5, v6, hq, hp⟩ := h
 refine (Qd5 w A c L g q _ _ _ b hp hG).mono fun e w' ⟨he, hp'⟩ => ⟨⟨_, hq.fr hp.lt, he⟩, ?_, hp'.2⟩
 have hp' := hp'.1
 cases s with
 | ok ts =>
  obtain ⟨h1, rfl⟩ := hq
  have hb := hb _ rfl
  unfold Qcv at hp'
  rw [if_pos h1] at hp'
  have hh := Qcg hp.lt
  by_cases h0 : (hd (L.drop q.at_)).f0 = 0
  ·have : b = true := by rw [hb, h0]; rfl
   subst this
   rw [if_pos rfl, if_pos (by rw [← hh]; exact h0)] at hp'
   have he : (US.ok (L.drop q.at_)).step P.endW = .ok (L.drop q.at_) := step_ok (a := hd (L.drop q.at_)) (by unfold P.endW; rw [if_pos h0])
   rw [he]
   exact ⟨q, _, _, _, ⟨h1, rfl⟩, hp'⟩
  ·have : b = false := by rw [hb]; exact beq_eq_false_iff_ne.2 h0
   subst this
   rw [if_neg (by decide)] at hp'
   unfold Qcy at hp'
   rw [if_pos h1] at hp'
   have he : (US.ok (L.drop q.at_)).step P.endW = .bad 90 (hd (L.drop q.at_)).f3 := Qfq (by unfold P.endW; rw [if_neg h0])
   rw [he]
   exact ⟨_, _, _, _, ⟨rfl, by rw [hh], by decide⟩, hp'⟩
 | bad e p =>
  obtain ⟨h1, h2, h0⟩ := hq
  unfold Qcv at hp'
  rw [if_neg (by rw [h1]; exact h0)] at hp'
  exact ⟨_, _, _, _, ⟨h1, h2, h0⟩, hp'⟩
end
structure ScL (F : Res (List EvD)) (w : World) (A : Option Addr) (c : Nat) (L : List Tk) (g b2 b3 B N : Nat) (k : Nat) (wr : World) (S : US) (v : Sl) (sv : List EvV) (l : List Row) (ds : List EvD) : Prop where
 up : Up wr A c L g S
 gr : w.grownBy wr (some g)
 bx : wr.heap[b3]? = some (.cells #[.slice v.A v.n v.c] 27 (0, 0))
 by_ : wr.heap[b2]? = some (.cells #[.slice none 0 0] 27 (0, 0))
 rows : Rows wr B (Row.e v sv :: l)
 bl : B ≤ wr.heap.size
 nn : sv.length + k ≤ N
 tr : ∀ r, S = .ok r → All2 (EvT l) ds sv
 co : Co F (fun r => (P.Qc3 k ds r).bind fun l r => (P.endW r).bind fun _ r => .ok l r) S
theorem Qjo (w : World) (A : Option Addr) (c : Nat) (L : List Tk) (g : Nat) (s : US) (hG : Good L) (hL : L.length ≤ 33554432) (h : Up w A c L g s) :
  Calls Try.prog 24 #[.pointer (some ⟨g, 0, none⟩)] w fun e w' => ∃ v l, e = .returned (.agg #[.slice v.A v.n v.c]) ∧ Rows w' w.heap.size l ∧ Up w' A c L g (s.step P.Qdj) ∧ w.grownBy w' (some g) ∧ ∀ ts ds r, s = .ok ts → P.Qdj ts = .ok ds r → ∃ xs, Row.e v xs ∈ l ∧ All2 (EvT l) ds xs := by
 obtain ⟨w0, hw0⟩ : ∃ w0, w0 = w.alloc (.cells #[.slice none 0 0] 27) := ⟨_, rfl⟩
 obtain ⟨w6, hw6⟩ : ∃ w6, w6 = w0.alloc (.cells #[.slice none 0 0] 27) := ⟨_, rfl⟩
 obtain ⟨b2, hb2⟩ : ∃ b2, b2 = w.heap.size := ⟨_, rfl⟩
 obtain ⟨b3, hb3⟩ : ∃ b3, b3 = w0.heap.size := ⟨_, rfl⟩
 have hB0 : Below w.heap.size w w0 := by rw [hw0]; exact Qab (Below.refl _ _) _
 have hB6 : Below w0.heap.size w0 w6 := by rw [hw6]; exact Qab (Below.refl _ _) _
 have hu := (h.below hB0).below hB6
 have hgr := (Qaj hB0 (some g)).trans (Qaj hB6 (some g))
 have hy0 : w0.heap[b2]? = some (.cells #[.slice none 0 0] 27 (0, 0)) := by rw [hw0, hb2]; exact Qay _ _
 have hx6 : w6.heap[b3]? = some (.cells #[.slice none 0 0] 27 (0, 0)) := by rw [hw6, hb3]; exact Qay _ _
 have hs0 : w0.heap.size = w.heap.size + 1 := by rw [hw0]; exact Array.size_push _
 have GB2 : J0 (g < b2) := ⟨by rw [hb2]; exact h.glt⟩
 have NB2 : J0 (b2 ≠ g) := ⟨by have := GB2.o; omega⟩
 have LB2 : J0 (w.heap.size ≤ b2) := ⟨by rw [hb2]; exact Nat.le_refl _⟩
 have GB3 : J0 (g < b3) := ⟨by have := GB2.o; omega⟩
 have NB3 : J0 (b3 ≠ g) := ⟨by have := GB3.o; omega⟩
 have LB3 : J0 (w.heap.size ≤ b3) := ⟨by omega⟩
 have NB23 : J0 (b2 ≠ b3) := ⟨by omega⟩
 have HG := J0.m hG
 have HL := J0.m hL
 obtain ⟨F, hF0, hFe⟩ := Co.start s P.Qdj
 have HNE : J0 (∀ p, F ≠ .bad 0 p) := ⟨by
  intro p hp
  cases s with
  | ok ts => exact Qg0 ts p (Eq.trans (Eq.symm hF0) hp)
  | bad e q =>
   obtain ⟨_, _, _, _, hq, _⟩ := h
   have : F = .bad e q := hF0
   rw [this] at hp
   cases hp
   exact hq.2.2 rfl⟩
 have HF0 := J0.m hF0
 have HFE := J0.m hFe
 obtain ⟨N, hN, hN2⟩ : ∃ N, N ≤ 33554433 ∧ ∀ r, s = .ok r → N = r.length + 1 := by
  cases hx : s with
  | ok r => exact ⟨r.length + 1, by have := h.len r hx; have := HL.o; omega, fun r' h => by cases h; rfl⟩
  | bad e p => exact ⟨0, by omega, fun r' h => by cases h⟩
 have HLP : J0 (ScL F w A c L g b2 b3 w6.heap.size N N w6 s ⟨none, 0, 0⟩ [] [] []) := ⟨{
  up := hu
  gr := hgr
  bx := hx6
  by_ := Qae hy0 hB6
  rows := ⟨fun r hr => by rw [List.mem_singleton.1 hr]; exact Kd.Qdd _ _ _ _ _, ⟨fun k hk => by simp [Row.own, Row.sl, Sl.v, Value.ownBlock] at hk, trivial⟩⟩
  bl := Nat.le_refl _
  nn := by simp
  tr := fun _ _ => trivial
  co := HF0.o.to (fun r hr => by rw [hN2 r hr]; rfl) }⟩
 have HB6 : J0 (b3 < w6.heap.size ∧ b2 < w6.heap.size ∧ g < w6.heap.size ∧ w.heap.size ≤ w6.heap.size) := ⟨Qb3 hx6, Qb3 (Qae hy0 hB6), hu.glt, hgr.size⟩
 obtain ⟨B6, hB6e⟩ : ∃ B6, B6 = w6.heap.size := ⟨_, rfl⟩
 rw [← hB6e] at HLP HB6
 have HN := J0.m hN
 have hb3' : b3 = w.heap.size + 1 := by rw [hb3, hs0]
 have HB2 := J0.m hb2
 have HB3 := J0.m hb3'
 rw [hw0] at hw6
 have HW6 := J0.m hw6
 clear h hw0 hw6 hb2 hb3 hb3' hB0 hB6 hu hgr hy0 hx6 hs0 hG hL hF0 hFe hN2 hB6e
 go_enter Try.func24, Try.ntmps24
 go_wp2_with fail
 rw [← HW6.o, ← HB3.o, ← HB2.o]
 go_loopg [] N (fun k wr => ∃ S v sv l ds, J0 (ScL F w A c L g b2 b3 B6 N k wr S v sv l ds))
 case atStart => exact ⟨_, _, _, _, _, HLP⟩
 case round =>
  obtain ⟨S, ⟨Av, nv, cv⟩, sv, l, ds, HV⟩ := hrel
  have HPOS : J0 (∀ r, S = .ok r → 0 < gk) := ⟨fun r hr => by
   have := HV.o.co
   subst hr
   rcases Nat.eq_zero_or_pos gk with h | h
   ·subst h; exact absurd this (HNE.o 0)
   ·exact h⟩
  have HCO : J0 (Co F (fun r => if isT 1 P.Qeg r then (P.Qdf r).bind fun d r => (P.Qc3 (gk - 1) (ds ++ [d]) r).bind fun l r => (P.endW r).bind fun _ r => .ok l r else (P.endW r).bind fun _ r => .ok ds r) S) := ⟨HV.o.co.to (fun r hr => by
   obtain ⟨m, hm⟩ : ∃ m, gk = m + 1 := ⟨gk - 1, by have := HPOS.o r hr; omega⟩
   subst hm
   show (P.Qc3 (m + 1) ds r).bind _ = _
   rw [P.Qc3]
   by_cases ht : isT 1 P.Qeg r = true
   ·rw [if_pos ht, if_pos ht, Qg3]; rfl
   ·rw [if_neg ht, if_neg ht]; rfl)⟩
  have HIS := J0.m (Qcn 1 P.Qeg HV.o.up)
  go_wp2_with fail
  cases hb : S.is 1 P.Qeg with
  | true =>
   have HCN := J0.m (show Co F (fun r => (P.Qdf r).bind fun d r => (P.Qc3 (gk - 1) (ds ++ [d]) r).bind fun l r => (P.endW r).bind fun _ r => .ok l r) S from HCO.o.is hb)
   have HGK : J0 (0 < gk) := ⟨by
    cases hS : S with
    | ok r => exact HPOS.o r hS
    | bad e q => rw [hS] at hb; cases hb⟩
   rw [hb] at HIS
   clear hb
   refine HIS.o.mono ?_
   rintro e w7 ⟨rfl, hb7⟩
   have HU7 := J0.m (HV.o.up.below hb7)
   have HX7 := J0.m (Qae HV.o.bx hb7)
   have HY7 := J0.m (Qae HV.o.by_ hb7)
   have HR7 := J0.m (HV.o.gr.trans (Qaj hb7 _))
   have HQ7 := J0.m (HV.o.rows.keep (fun k _ hk => hb7.block k hk))
   have HZ7 : J0 (B6 ≤ w7.heap.size) := ⟨Nat.le_trans HV.o.bl hb7.size⟩
   clear hb7
   obtain ⟨dd, hdd⟩ : ∃ dd, ∀ ts d r', S = .ok ts → P.Qdf ts = .ok d r' → d = dd := by
    cases hS : S with
    | ok r =>
     cases hx : P.Qdf r with
     | ok d r' => exact ⟨d, fun ts d' r'' h1 h2 => by cases h1; rw [hx] at h2; cases h2; rfl⟩
     | bad e q => exact ⟨⟨⟨#[]⟩, [], 0⟩, fun ts d' r'' h1 h2 => by cases h1; rw [hx] at h2; cases h2⟩
    | bad e q => exact ⟨⟨⟨#[]⟩, [], 0⟩, fun ts d' r'' h1 h2 => by cases h1⟩
   have HDD := J0.m hdd
   have HC7 := J0.m (Co.call (P := fun _ => True) (g' := fun r => (P.Qc3 (gk - 1) (ds ++ [dd]) r).bind fun l r => (P.endW r).bind fun _ r => .ok l r) HCN.o (fun ts a r h1 h2 => by rw [hdd ts a r h1 h2]))
   clear hdd
   have S0 : (fun w' : World => w'.cell? ⟨b3, 0, none⟩ = some (.slice Av nv cv)) w7.drew := (Qac HX7.o 0).trans rfl
   go_wp2
   refine Qfr (n := 8) (S := fun w' => w'.cell? ⟨b3, 0, none⟩ = some (.slice Av nv cv)) (ds := [7]) #[false, false, false, false, false, false, false, false] (by kernel_rfl) rfl rfl (S0) (fun hHeld => ?_)
   refine Qcd (i := 0) (N := some 6) (v := ?_) (a' := ?_) #[true, false, false, false, false, false, false, false] rfl rfl (by kernel_rfl) (fun _ _ _ h => h) (Or.inl ⟨by rfl, ?_⟩) ?_ ?_
   rotate_left
   ·intro w'
    go_simp
    with_reducible rfl
   rotate_left
   ·simp only [Act.put, List.setIfInBounds_toArray, List.set_cons_zero, List.set_cons_succ, Qbj, Qbp]
    rfl
   refine Qge (i := 1) (N := some 7) (v := ?_) (a' := ?_) #[true, true, false, false, false, false, false, false] rfl rfl (by kernel_rfl) (fun _ _ _ h => h) (Or.inl ⟨by rfl, ?_⟩) hHeld ?_ ?_
   rotate_left
   ·intro w' hS'
    have hS2 : w'.cell? ⟨b3, 0, none⟩ = some (.slice Av nv cv) := hS'
    clear hS'
    go_simp
    with_reducible rfl
   rotate_left
   ·simp only [Act.put, List.setIfInBounds_toArray, List.set_cons_zero, List.set_cons_succ, Qbj, Qbp]
    rfl
   refine Qcd (i := 2) (N := some 8) (v := ?_) (a' := ?_) #[true, true, true, false, false, false, false, false] rfl rfl (by kernel_rfl) (fun _ _ _ h => h) (Or.inl ⟨by rfl, ?_⟩) ?_ ?_
   rotate_left
   ·intro w'
    go_simp
    with_reducible rfl
   rotate_left
   ·simp only [Act.put, List.setIfInBounds_toArray, List.set_cons_zero, List.set_cons_succ, Qbj, Qbp]
    rfl
   refine one_ (i := 3) (N := some 9) #[true, true, true, true, false, false, false, false] rfl rfl (by kernel_rfl) (by decide) (fun K hK => ?_)
   refine Qk4 Try.func40 (by kernel_rfl) rfl #[.pointer (some ⟨g, 0, none⟩)] (by rfl) rfl rfl (by (try simp only [List.map_toArray, List.map_cons, List.map_nil]); first | done | rfl) ?_
   refine (Qlb w7.drew A c L g S HG.o HL.o (HU7.o.below (Qaf (Below.refl _ _)))).mono ?_
   rintro e w8 ⟨x, lx, rfl, hrn, hu, hg, hval⟩
   have hgd : w7.grownBy w8 (some g) := (Qaj (Qaf (Below.refl _ _)) _).trans hg
   have HX8 := J0.m (Qas hgd HX7.o NB3.o)
   have HY8 := J0.m (Qas hgd HY7.o NB2.o)
   have HR8 := J0.m (HR7.o.trans hgd)
   have HQ8 := J0.m (Qft (w0 := w7) (HQ7.o.grown hgd (by have := HB6.o; omega)) hrn HZ7.o HQ7.o)
   have HU8 := J0.m hu
   have HVAL := J0.m hval
   have HZ8 : J0 (B6 ≤ w8.heap.size) := ⟨Nat.le_trans HZ7.o hgd.size⟩
   have SC : (fun w' : World => w'.cell? ⟨b3, 0, none⟩ = some (.slice Av nv cv)) w8 := (Qac HX8.o 0).trans rfl
   clear hrn hu hg hval hgd
   refine ⟨_, rfl, ?_⟩
   refine hK.out _ _ (SC) (fun hHeld => ?_)
   clear hK K
   have HBZ := J0.m (show Below w8.heap.size w8 (w8.alloc (.cells #[.string x.name, .slice x.vers.A x.vers.n x.vers.c, .int .i64 x.pl] 57)) from Qab (Below.refl _ _) _)
   have SB : (fun w' : World => w'.cell? ⟨b3, 0, none⟩ = some (.slice Av nv cv)) (w8.alloc (.cells #[.string x.name, .slice x.vers.A x.vers.n x.vers.c, .int .i64 x.pl] 57)) := (Qac (Qae HX8.o HBZ.o) 0).trans rfl
   refine one_ (i := 4) (N := some 10) #[true, true, true, true, true, false, false, false] rfl rfl (by kernel_rfl) (by decide) (fun K hK => ?_)
   refine Qf7 (w1 := ?_) (v := ?_) (by rfl) rfl ?_ ?_
   rotate_left 2
   ·go_simp
    first | rfl | (constructor <;> rfl)
   refine hK.out _ _ (SB) (fun hHeld => ?_)
   clear hK K
   refine one_ (i := 5) (N := some 11) #[true, true, true, true, true, true, false, false] rfl rfl (by kernel_rfl) (by decide) (fun K hK => ?_)
   refine Kd.Qds (N := some 11) rfl kev (w0 := w8) B6 (by rfl) (.tmp 7) (.tmp 10) 25 57 (.agg #[.string ⟨#[]⟩, .slice none 0 0, .int .i64 0]) 48 rfl Try.underlying25 infoE rfl (by decide) (by omega) (.slice Av nv cv) sv x (evCs x) (fun _ => True) (fun _ => False) (by rfl) ⟨w8.heap.size, 0, none⟩ 1 (by rfl) (World.news_of_block (cs := (evCs x).toArray) (t := 57) (fr := (0, 0)) (heap_alloc_new _ _)) (Qnr _ _ _ x) (fun _ hk => hk.elim) (fun _ _ => trivial) (Kd.Qb4 (d := kev) HQ8.o.head HBZ.o) (HBZ.o.mono HZ8.o) (by have := HZ8.o; have := HBZ.o.size; omega) (by have := HV.o.nn; have := HN.o; omega) ?_
   intro v2 w9 ho hb hw
   obtain ⟨A2, c2_, hv2⟩ := Kd.Qcp ho
   rw [List.length_append, List.length_singleton] at hv2
   subst hv2
   have hq9 : Rows w9 B6 (Row.e ⟨A2, sv.length + 1, c2_⟩ (sv ++ [x]) :: (lx ++ l)) := (HQ8.o.keep (fun k _ hk => HBZ.o.block k hk)).grow hw.grown ho hw.at
   have hne3 : some b3 ≠ (Value.slice Av nv cv).ownBlock := fun e => by have := (HQ8.o.in_ b3 (by rw [e]; exact List.mem_cons_self)).1; have := HB6.o; omega
   have hne2 : some b2 ≠ (Value.slice Av nv cv).ownBlock := fun e => by have := (HQ8.o.in_ b2 (by rw [e]; exact List.mem_cons_self)).1; have := HB6.o; omega
   have HX9 := J0.m (Qbh (Qae HX8.o HBZ.o) hw.grown hne3)
   have HY9 := J0.m (Qbh (Qae HY8.o HBZ.o) hw.grown hne2)
   have HU9 := J0.m (Qey (HU8.o.below HBZ.o) hw.grown (fun k hk => by have := (HQ8.o.in_ k (by rw [← hk]; exact List.mem_cons_self)).1; have := HB6.o; omega))
   have HR9 := J0.m (Qd8 (HR8.o.trans (Qaj HBZ.o _)) hw.grown (fun k hk => by have := (HQ8.o.in_ k (by rw [← hk]; exact List.mem_cons_self)).1; have := HB6.o; omega))
   have HZ9 : J0 (B6 ≤ w9.heap.size) := ⟨by have := HZ8.o; have := HBZ.o.size; have := hw.grown.size; omega⟩
   have HQ9 := J0.m hq9
   have SA : (fun w' : World => w'.cell? ⟨b3, 0, none⟩ = some (.slice Av nv cv)) w9 := (Qac HX9.o 0).trans rfl
   have c1_9 : w9.cell? ⟨b3, 0, none⟩ = some (.slice Av nv cv) := SA
   have f1_9 := Qaa HX9.o 0
   clear ho hb hw hq9 hne3 hne2
   refine hK.out _ _ (SA) (fun hHeld => ?_)
   clear hK K
   refine Qcd (i := 6) (N := some 12) (v := ?_) (a' := ?_) #[true, true, true, true, true, true, true, false] rfl rfl (by kernel_rfl) (fun _ _ _ h => h) (Or.inl ⟨by rfl, ?_⟩) ?_ ?_
   rotate_left
   ·intro w'
    go_simp
    with_reducible rfl
   rotate_left
   ·simp only [Act.put, List.setIfInBounds_toArray, List.set_cons_zero, List.set_cons_succ, Qbj, Qbp]
    rfl
   refine Qil (i := 7) (N := none) #[true, true, true, true, true, true, true, true] rfl rfl (by kernel_rfl) (by decide) (fun K hK => ?_)
   refine Qgz (w1 := ?_) (by rfl) rfl ?_ ?_
   rotate_left
   ·go_simp
    first | rfl | (constructor <;> rfl)
   refine hK.out _ _ ?_
   clear hK K
   refine Qh4 (by kernel_rfl) ?_
   go_wp2
   go_roundg (gk - 1)
   case measure => have := HGK.o; omega
   case rel =>
    refine ⟨S.step P.Qdf, ⟨A2, sv.length + 1, c2_⟩, sv ++ [x], lx ++ l, ds ++ [dd], ⟨{ up := ?_, gr := ?_, bx := ?_, by_ := ?_, rows := ?_, bl := ?_, nn := ?_, tr := ?_, co := HC7.o }⟩⟩
    ·exact HU9.o.far GB3.o 0 _
    ·exact Qau (g := g) HR9.o LB3.o 0 _
    ·exact (Qa8 HX9.o _).trans (by rfl)
    ·exact Qa2 NB23.o HY9.o _
    ·exact HQ9.o.far (by have := HB6.o; omega)
    ·simpa using HZ9.o
    ·have := HV.o.nn; have := HGK.o; rw [List.length_append, List.length_singleton]; omega
    ·intro r1 hr1
     obtain ⟨ts, a, h1, h2⟩ := Qct hr1
     have hd := HDD.o ts a r1 h1 h2
     subst hd
     exact ((HV.o.tr ts h1).imp (fun _ _ h => h.mono (fun _ hm => List.mem_append_right _ hm))).snoc ((HVAL.o ts a r1 h1 h2).mono (fun _ hm => List.mem_append_left _ hm))
  | false =>
   have HCE := J0.m (show Co F (fun r => (P.endW r).bind fun _ r => .ok ds r) S from HCO.o.is hb)
   rw [hb] at HIS
   clear hb
   refine HIS.o.mono ?_
   rintro e w7 ⟨rfl, hb7⟩
   have HU7 := J0.m (HV.o.up.below hb7)
   have HX7 := J0.m (Qae HV.o.bx hb7)
   have HY7 := J0.m (Qae HV.o.by_ hb7)
   have HR7 := J0.m (HV.o.gr.trans (Qaj hb7 _))
   have HQ7 := J0.m (HV.o.rows.keep (fun k _ hk => hb7.block k hk))
   clear hb7
   go_wp2_with fail
   refine (Qen HU7.o).mono ?_
   rintro e w8 ⟨⟨k2, s2, n2, p2, e2⟩, hf2, rfl, hb⟩
   have HT2 := J0.m hf2
   have HU8 := J0.m (HU7.o.below hb)
   have HX8 := J0.m (Qae HX7.o hb)
   have HY8 := J0.m (Qae HY7.o hb)
   have HR8 := J0.m (HR7.o.trans (Qaj hb _))
   have HQ8 := J0.m (HQ7.o.keep (fun k _ hk => hb.block k hk))
   clear hb hf2
   obtain ⟨gd0, gd1, gd2, gd3⟩ := fld ⟨k2, s2, n2, p2, e2⟩
   have HCL := J0.m (Qip HG.o (k2 == 0) HU8.o (fun ts hs => by rw [← HT2.o ts hs]))
   go_wp2_with fail
   refine HCL.o.mono ?_
   rintro e wz ⟨⟨tz, hfr, rfl⟩, hu, hg⟩
   clear HCL
   have HCZ := J0.m (Co.call (P := fun _ => True) (g' := fun r => .ok ds r) HCE.o (fun _ _ _ _ _ => rfl))
   have HXZ := J0.m (Qas hg HX8.o NB3.o)
   have HYZ := J0.m (Qas hg HY8.o NB2.o)
   have HRZ := J0.m (HR8.o.trans hg)
   have HQZ := J0.m (HQ8.o.grown hg (by have := HB6.o; omega))
   have HUZ := J0.m hu
   clear hu hg hfr
   have d0 := (Qac HXZ.o 0).trans rfl
   have y0 := (Qac HYZ.o 0).trans rfl
   have g0 := Qaa HYZ.o 0
   go_wp2
   refine bodyPost_ret (Qbm rfl _ _ b2 27 #[.slice Av nv cv] (0, 0) _ rfl (Qby HYZ.o 0 _ rfl) Try.underlying27 rfl (by kernel_rfl)) rfl ?_
   refine ⟨⟨Av, nv, cv⟩, Row.e ⟨Av, nv, cv⟩ sv :: l, rfl, (HQZ.o.far (by have := HB6.o; omega)).lower (by have := HB6.o; omega), ?_, Qau (g := g) HRZ.o LB2.o 0 _, fun ts d r h1 h2 => ?_⟩
   ·rw [← HFE.o _ (Co.Qej HCZ.o)]
    exact HUZ.o.far GB2.o 0 _
   ·have := Co.val HCZ.o HF0.o ts d r h1 h2
    subst this
    refine ⟨sv, List.mem_cons_self, ?_⟩
    obtain ⟨r1, hr1⟩ := okOf HCZ.o HF0.o h1 h2 HNE.o
    exact (HV.o.tr r1 hr1).imp (fun _ _ h => h.mono (fun _ hm => List.mem_cons_of_mem _ hm))
end Go.Proofs.Ytbdcndkafaajpaa.A
end
section
namespace Go.Proofs.Ytbdcndkafaajpaa.X
open Go.RowKit YtbdcndkafaajpaaW.PrintWords YtbdcndkafaajpaaW.PrintLast YtbdcndkafaajpaaW.PrintMore
theorem mQ {α : Type} {a b : α} (h : a = b := by (try simp only [List.map_toArray, List.map_cons, List.map_nil]); first | done | rfl | (simp only [List.length_drop, List.length_take]; rfl)) : a = b := h
theorem bR {b : Nat} {w w' : World} (h : Below b w w' := by repeat (first | (with_reducible first | exact HB.o | apply Qab | apply Qad | apply Qaf) | exact HB.o)) : Below b w w' := h
theorem dR {w w' : World} (h : Qbe w w' := by repeat (first | exact Qbe.refl _ | apply Qbe.step)) : Qbe w w' := h
theorem eQ {p : Prop} {w w' : World} (h : p := by first | rfl | (simp; done) | (simp [*]; done)) (k : Qbe w w' := by repeat (first | exact Qbe.refl _ | apply Qbe.step)) : p ∧ Qbe w w' := ⟨h, k⟩
attribute [local go_sem] Qdz Qdx Qes Qer Qdm Qdl Qdy Qdw
def strings_IndexByte.f (a0 : ByteArray) (a1 : Int) : Option Int := some (Lib.indexByte a0.data.toList a1.toNat.toUInt8)
theorem strings_IndexByte.calls (a0 : ByteArray) (a1 : Int) (r : Int) (w : World) (h : strings_IndexByte.f a0 a1 = some r) :
  Calls Try.prog 52 #[.string a0, .int .u8 a1] w fun e w' => e = .returned (.int .i64 r) ∧ Qbe w w' := by
 obtain rfl := Option.some.inj h
 refine (Try.strings_IndexByte a0 a1 w).mono ?_
 rintro e w' ⟨rfl, rfl⟩
 exact ⟨rfl, Qbe.refl _⟩
mutual
def Qa9.l0 : Nat → ByteArray → Int → Option (Int)
 | 0, _, _ => none
 | k + 1, x0, x1 => if x1 < (x0.size : Int) then (if 0 ≤ x1 then (if (bt x0 x1) = 32 then (Qa9.j1 k x0 x1 (bt x0 x1) ((bt x0 x1) == 32)) else (if (bt x0 x1) = 9 then (Qa9.j1 k x0 x1 (bt x0 x1) ((bt x0 x1) == 9)) else (if (bt x0 x1) = 10 then (Qa9.j1 k x0 x1 (bt x0 x1) ((bt x0 x1) == 10)) else (Qa9.j1 k x0 x1 (bt x0 x1) ((bt x0 x1) == 13))))) else (none)) else (some x1)
def Qa9.j1 : Nat → ByteArray → Int → Int → Bool → Option (Int)
 | 0, _, _, _, _ => none
 | k + 1, x0, x1, x12, x14 => if x14 = true then (Qa9.l0 k x0 (wrap64 (x1 + 1))) else (if x12 = 35 then (if 0 ≤ x1 then (if x1 ≤ (x0.size : Int) then ((strings_IndexByte.f (x0.extract (x1 : Int).toNat x0.size) 10).bind fun t101 => (if t101 < 0 then (some (x0.size : Int)) else (Qa9.l0 k x0 (wrap64 (x1 + t101))))) else (none)) else (none)) else (some x1))
end
def Qa9.f (k : Nat) (a0 : ByteArray) (a1 : Int) : Option (Int) := Qa9.l0 k a0 a1
theorem Qa9.Qe1 : ∀ k, (∀ y0 y1, LeO (Qa9.l0 k y0 y1) (Qa9.l0 (k + 1) y0 y1)) ∧ (∀ y0 y1 y2 y3, LeO (Qa9.j1 k y0 y1 y2 y3) (Qa9.j1 (k + 1) y0 y1 y2 y3))
 | 0 => ⟨fun _ _ r h => by simp [Qa9.l0] at h, fun _ _ _ _ r h => by simp [Qa9.j1] at h⟩
 | k + 1 => by
  obtain ⟨ih0, ih1⟩ := Qa9.Qe1 k
  refine ⟨?_, ?_⟩
  ·intro y0 y1
   unfold Qa9.l0
   repeat' first
   | (with_reducible exact ih0 _ _)
   | (with_reducible exact ih1 _ _ _ _)
   | (with_reducible exact LeO.refl _)
   | (with_reducible exact LeO.none _)
   | (with_reducible refine LeO.ite ?_ ?_)
   | (with_reducible refine LeO.bind ?_ (fun _ => ?_))
   | exact ih0 _ _
   | exact ih1 _ _ _ _
   | exact LeO.none _
   | refine LeO.ite ?_ ?_
   | refine LeO.bind ?_ (fun _ => ?_)
  ·intro y0 y1 y2 y3
   unfold Qa9.j1
   repeat' first
   | (with_reducible exact ih0 _ _)
   | (with_reducible exact ih1 _ _ _ _)
   | (with_reducible exact LeO.refl _)
   | (with_reducible exact LeO.none _)
   | (with_reducible refine LeO.ite ?_ ?_)
   | (with_reducible refine LeO.bind ?_ (fun _ => ?_))
   | exact ih0 _ _
   | exact ih1 _ _ _ _
   | exact LeO.none _
   | refine LeO.ite ?_ ?_
   | refine LeO.bind ?_ (fun _ => ?_)
theorem Qa9.mono : ∀ a0 a1 k, LeO (Qa9.f k a0 a1) (Qa9.f (k + 1) a0 a1) := by
 intro a0 a1 k
 obtain ⟨ih0, ih1⟩ := Qa9.Qe1 k
 unfold Qa9.f
 repeat' first
   | (with_reducible exact ih0 _ _)
   | (with_reducible exact ih1 _ _ _ _)
   | (with_reducible exact LeO.refl _)
   | (with_reducible exact LeO.none _)
   | (with_reducible refine LeO.ite ?_ ?_)
   | (with_reducible refine LeO.bind ?_ (fun _ => ?_))
   | exact ih0 _ _
   | exact ih1 _ _ _ _
   | exact LeO.none _
   | refine LeO.ite ?_ ?_
   | refine LeO.bind ?_ (fun _ => ?_)
theorem Qa9.calls (k : Nat) (a0 : ByteArray) (a1 : Int) (r : Int) (w : World) (h : Qa9.f k a0 a1 = some r) :
  Calls Try.prog 34 #[.string a0, .int .i64 a1] w fun e w' => e = .returned (.int .i64 r) ∧ Qbe w w' := by
 have H : (Qa9.l0 k a0 a1) = some r := h
 clear h
 have H' := J0.m H
 clear H
 go_enter Try.func34, Try.ntmps34
 go_wp2
 go_loopg [1] k (fun kq v1 w' => ∃ (x1_1 : Int), v1 = .int .i64 x1_1 ∧ J0 (Qa9.l0 kq a0 x1_1 = some r) ∧ J0 (kq ≤ k) ∧ Qbe w w')
 case atStart => exact ⟨(a1), (by first | rfl | (simp; done) | (simp [*]; done)), H', ⟨Nat.le_refl _⟩, dR⟩
 case round =>
  clear H'
  try clear p2
  obtain ⟨x1_1, rfl, HA, HK1, ⟨m1, rfl⟩⟩ := hrel
  cases gk with
  | zero => exact absurd HA.o (by simp [Qa9.l0])
  | succ k1 =>
   have H := HA.o
   clear HA
   simp only [Qa9.l0] at H
   by_cases c3 : x1_1 < (a0.size : Int)
   ·rw [if_pos c3] at H
    have c3b0 : decide (x1_1 < (a0.size : Int)) = true := decide_eq_true c3
    clear c3
    by_cases c4 : 0 ≤ x1_1
    ·rw [if_pos c4] at H
     have c4b0 : decide (0 ≤ x1_1) = true := decide_eq_true c4
     clear c4
     have HC6 := J0.m H
     clear H
     have p5 : 0 ≤ (x1_1 : Int) := dQ
     have q5 : x1_1 < (a0.size : Int) := dQ
     have hx5 := Qb2 a0 x1_1
     replace p5 := eq_true p5
     replace q5 := eq_true q5
     go_upto_if 14 with (fail)
     go_cut [14] (fun v14 wc => ∃ (kq : Nat) (x14_5 : Bool), v14 = .bool x14_5 ∧ J0 (Qa9.j1 kq a0 x1_1 (bt a0 x1_1) x14_5 = some r) ∧ J0 (kq ≤ k1) ∧ Qbe w wc)
     case first =>
      have H := HC6.o
      clear HC6
      by_cases c7 : (bt a0 x1_1) = 32
      ·rw [if_pos c7] at H
       have c7b0 : ((bt a0 x1_1) == 32) = true := beq_iff_eq.mpr c7
       have c7b1 : ((bt a0 x1_1) != 32) = false := bne_eq_false_iff_eq.mpr c7
       clear c7
       (first | rw [c7b0] | (simp only [Qbj, Qbp]; rw [c7b0]) | skip)
       have H' := J0.m H
       clear H
       go_wp2
       go_meet
       case rel => exact ⟨_, (((bt a0 x1_1) == 32)), (by first | rfl | (simp; done) | (simp [*]; done)), H', ⟨by have := HK1.o; first | omega | exact Nat.le_refl _⟩, dR⟩
      ·rw [if_neg c7] at H
       have c7b0 : ((bt a0 x1_1) == 32) = false := beq_eq_false_iff_ne.mpr c7
       have c7b1 : ((bt a0 x1_1) != 32) = true := bne_iff_ne.mpr c7
       (first | rw [c7b0] | (simp only [Qbj, Qbp]; rw [c7b0]) | skip)
       by_cases c8 : (bt a0 x1_1) = 9
       ·rw [if_pos c8] at H
        have c8b0 : ((bt a0 x1_1) == 9) = true := beq_iff_eq.mpr c8
        have c8b1 : ((bt a0 x1_1) != 9) = false := bne_eq_false_iff_eq.mpr c8
        clear c8
        have H' := J0.m H
        clear H
        go_wp2
        go_meet
        case rel => exact ⟨_, (((bt a0 x1_1) == 9)), (by first | rfl | (simp; done) | (simp [*]; done)), H', ⟨by have := HK1.o; first | omega | exact Nat.le_refl _⟩, dR⟩
       ·rw [if_neg c8] at H
        have c8b0 : ((bt a0 x1_1) == 9) = false := beq_eq_false_iff_ne.mpr c8
        have c8b1 : ((bt a0 x1_1) != 9) = true := bne_iff_ne.mpr c8
        by_cases c9 : (bt a0 x1_1) = 10
        ·rw [if_pos c9] at H
         have c9b0 : ((bt a0 x1_1) == 10) = true := beq_iff_eq.mpr c9
         have c9b1 : ((bt a0 x1_1) != 10) = false := bne_eq_false_iff_eq.mpr c9
         clear c9
         have H' := J0.m H
         clear H
         go_wp2
         go_meet
         case rel => exact ⟨_, (((bt a0 x1_1) == 10)), (by first | rfl | (simp; done) | (simp [*]; done)), H', ⟨by have := HK1.o; first | omega | exact Nat.le_refl _⟩, dR⟩
        ·rw [if_neg c9] at H
         have c9b0 : ((bt a0 x1_1) == 10) = false := beq_eq_false_iff_ne.mpr c9
         have c9b1 : ((bt a0 x1_1) != 10) = true := bne_iff_ne.mpr c9
         have H' := J0.m H
         clear H
         go_wp2
         go_meet
         case rel => exact ⟨_, (((bt a0 x1_1) == 13)), (by first | rfl | (simp; done) | (simp [*]; done)), H', ⟨by have := HK1.o; first | omega | exact Nat.le_refl _⟩, dR⟩
     case rest =>
      clear HC6
      try clear p2
      try clear c3
      try clear c3b0
      try clear c4
      try clear c4b0
      try clear p5
      try clear q5
      try clear hx5
      try clear c7
      try clear c7b0
      try clear c7b1
      try clear c8
      try clear c8b0
      try clear c8b1
      try clear c9
      try clear c9b0
      try clear c9b1
      try clear p2
      try clear p5
      try clear q5
      obtain ⟨kq, x14_5, rfl, HA, HJ5, ⟨mc5, rfl⟩⟩ := hcut
      cases kq with
      | zero => exact absurd HA.o (by simp [Qa9.j1])
      | succ kj5 =>
       have H := HA.o
       clear HA
       simp only [Qa9.j1] at H
       by_cases c10 : x14_5 = true
       ·subst c10
        have H1 : (Qa9.l0 kj5 a0 (wrap64 (x1_1 + 1))) = some r := by rw [if_pos rfl] at H; exact H
        clear H
        have H := H1
        clear H1
        have H' := J0.m H
        clear H
        go_wp2
        go_roundg kj5
        case measure => have := HK1.o; have := HJ5.o; omega
        case rel => exact ⟨(wrap64 (x1_1 + 1)), (by first | rfl | (simp; done) | (simp [*]; done)), H', ⟨by have := HK1.o; have := HJ5.o; omega⟩, dR⟩
       ·replace c10 := Bool.eq_false_iff.mpr c10
        subst c10
        have H1 : (if (bt a0 x1_1) = 35 then (if 0 ≤ x1_1 then (if x1_1 ≤ (a0.size : Int) then ((strings_IndexByte.f (a0.extract (x1_1 : Int).toNat a0.size) 10).bind fun t101 => (if t101 < 0 then (some (a0.size : Int)) else (Qa9.l0 kj5 a0 (wrap64 (x1_1 + t101))))) else (none)) else (none)) else (some x1_1)) = some r := by rw [if_neg (show ¬ (false = true) by decide)] at H; exact H
        clear H
        have H := H1
        clear H1
        by_cases c11 : (bt a0 x1_1) = 35
        ·rw [if_pos c11] at H
         have c11b0 : ((bt a0 x1_1) == 35) = true := beq_iff_eq.mpr c11
         have c11b1 : ((bt a0 x1_1) != 35) = false := bne_eq_false_iff_eq.mpr c11
         clear c11
         by_cases c12 : 0 ≤ x1_1
         ·rw [if_pos c12] at H
          have c12b0 := eq_true c12
          have c12b1 : decide (0 ≤ x1_1) = true := decide_eq_true c12
          clear c12
          by_cases c13 : x1_1 ≤ (a0.size : Int)
          ·rw [if_pos c13] at H
           have c13b0 := eq_true c13
           have c13b1 : decide (x1_1 ≤ (a0.size : Int)) = true := decide_eq_true c13
           clear c13
           replace H := Option.bind_eq_some_iff.mp H
           obtain ⟨t101, A140, H⟩ := H
           replace H : (if t101 < 0 then (some (a0.size : Int)) else (Qa9.l0 kj5 a0 (wrap64 (x1_1 + t101)))) = some r := H
           have A14 := J0.m A140
           clear A140
           by_cases c15 : t101 < 0
           ·rw [if_pos c15] at H
            have c15b0 : decide (t101 < 0) = true := decide_eq_true c15
            clear c15
            obtain rfl := Option.some.inj H
            go_wp2_with (first | ((with_reducible refine Qat (f := 52) rfl ?_); refine Qbt (some 26) rfl rfl Try.func52 (by kernel_rfl) rfl #[.string (a0.extract (x1_1 : Int).toNat a0.size), .int .u8 10] rfl mQ ?_; (with_reducible refine (strings_IndexByte.calls (a0.extract (x1_1 : Int).toNat a0.size) 10 t101 _ A14.o).mono ?_); rintro e w' ⟨rfl, ⟨nd, rfl⟩⟩; refine ⟨_, rfl, ?_⟩))
            go_ret
            exact eQ
           ·rw [if_neg c15] at H
            have c15b0 : decide (t101 < 0) = false := decide_eq_false c15
            clear c15
            have H' := J0.m H
            clear H
            go_wp2_with (first | ((with_reducible refine Qat (f := 52) rfl ?_); refine Qbt (some 26) rfl rfl Try.func52 (by kernel_rfl) rfl #[.string (a0.extract (x1_1 : Int).toNat a0.size), .int .u8 10] rfl mQ ?_; (with_reducible refine (strings_IndexByte.calls (a0.extract (x1_1 : Int).toNat a0.size) 10 t101 _ A14.o).mono ?_); rintro e w' ⟨rfl, ⟨nd, rfl⟩⟩; refine ⟨_, rfl, ?_⟩))
            go_roundg kj5
            case measure => have := HK1.o; have := HJ5.o; omega
            case rel => exact ⟨(wrap64 (x1_1 + t101)), (by first | rfl | (simp; done) | (simp [*]; done)), H', ⟨by have := HK1.o; have := HJ5.o; omega⟩, dR⟩
          ·rw [if_neg c13] at H
           exact absurd H (by simp)
         ·rw [if_neg c12] at H
          exact absurd H (by simp)
        ·rw [if_neg c11] at H
         have c11b0 : ((bt a0 x1_1) == 35) = false := beq_eq_false_iff_ne.mpr c11
         have c11b1 : ((bt a0 x1_1) != 35) = true := bne_iff_ne.mpr c11
         obtain rfl := Option.some.inj H
         go_wp2
         go_ret
         exact eQ
    ·rw [if_neg c4] at H
     exact absurd H (by simp)
   ·rw [if_neg c3] at H
    have c3b0 : decide (x1_1 < (a0.size : Int)) = false := decide_eq_false c3
    clear c3
    obtain rfl := Option.some.inj H
    go_wp2
    go_ret
    exact eQ
def Qbr.f (a0 : Int) : Option (Bool) := if a0 ≥ 97 then (if a0 ≤ 122 then (some true) else (if a0 ≥ 65 then (if a0 ≤ 90 then (some true) else (some (a0 == 95))) else (some (a0 == 95)))) else (if a0 ≥ 65 then (if a0 ≤ 90 then (some true) else (some (a0 == 95))) else (some (a0 == 95)))
theorem Qbr.calls (a0 : Int) (r : Bool) (w : World) (h : Qbr.f a0 = some r) :
  Calls Try.prog 53 #[.int .u8 a0] w fun e w' => e = .returned (.bool r) ∧ Qbe w w' := by
 have H : (if a0 ≥ 97 then (if a0 ≤ 122 then (some true) else (if a0 ≥ 65 then (if a0 ≤ 90 then (some true) else (some (a0 == 95))) else (some (a0 == 95)))) else (if a0 ≥ 65 then (if a0 ≤ 90 then (some true) else (some (a0 == 95))) else (some (a0 == 95)))) = some r := h
 clear h
 by_cases c2 : a0 ≥ 97
 ·rw [if_pos c2] at H
  have c2b0 : decide (97 ≤ a0) = true := decide_eq_true c2
  clear c2
  by_cases c3 : a0 ≤ 122
  ·rw [if_pos c3] at H
   have c3b0 : decide (a0 ≤ 122) = true := decide_eq_true c3
   clear c3
   obtain rfl := Option.some.inj H
   go_enter Try.func53, Try.ntmps53
   go_wp2
   go_ret
   exact eQ
  ·rw [if_neg c3] at H
   have c3b0 : decide (a0 ≤ 122) = false := decide_eq_false c3
   clear c3
   by_cases c4 : a0 ≥ 65
   ·rw [if_pos c4] at H
    have c4b0 : decide (65 ≤ a0) = true := decide_eq_true c4
    clear c4
    by_cases c5 : a0 ≤ 90
    ·rw [if_pos c5] at H
     have c5b0 : decide (a0 ≤ 90) = true := decide_eq_true c5
     clear c5
     obtain rfl := Option.some.inj H
     go_enter Try.func53, Try.ntmps53
     go_wp2
     go_ret
     exact eQ
    ·rw [if_neg c5] at H
     have c5b0 : decide (a0 ≤ 90) = false := decide_eq_false c5
     clear c5
     obtain rfl := Option.some.inj H
     go_enter Try.func53, Try.ntmps53
     go_wp2
     go_ret
     exact eQ
   ·rw [if_neg c4] at H
    have c4b0 : decide (65 ≤ a0) = false := decide_eq_false c4
    clear c4
    obtain rfl := Option.some.inj H
    go_enter Try.func53, Try.ntmps53
    go_wp2
    go_ret
    exact eQ
 ·rw [if_neg c2] at H
  have c2b0 : decide (97 ≤ a0) = false := decide_eq_false c2
  clear c2
  by_cases c6 : a0 ≥ 65
  ·rw [if_pos c6] at H
   have c6b0 : decide (65 ≤ a0) = true := decide_eq_true c6
   clear c6
   by_cases c7 : a0 ≤ 90
   ·rw [if_pos c7] at H
    have c7b0 : decide (a0 ≤ 90) = true := decide_eq_true c7
    clear c7
    obtain rfl := Option.some.inj H
    go_enter Try.func53, Try.ntmps53
    go_wp2
    go_ret
    exact eQ
   ·rw [if_neg c7] at H
    have c7b0 : decide (a0 ≤ 90) = false := decide_eq_false c7
    clear c7
    obtain rfl := Option.some.inj H
    go_enter Try.func53, Try.ntmps53
    go_wp2
    go_ret
    exact eQ
  ·rw [if_neg c6] at H
   have c6b0 : decide (65 ≤ a0) = false := decide_eq_false c6
   clear c6
   obtain rfl := Option.some.inj H
   go_enter Try.func53, Try.ntmps53
   go_wp2
   go_ret
   exact eQ
def Qda.f (a0 : ByteArray) (a1 : Int) (a2 : Nat) : Option Int := if 0 ≤ a1 ∧ a1 ≤ (a0.size : Int) ∧ a0.size ≤ 2305843009213693952 ∧ (a2 = 56 ∨ a2 = 55) then some ((a1.toNat + G.tw a2 (a0.data.toList.drop a1.toNat) : Nat) : Int) else none
theorem Qda.calls (a0 : ByteArray) (a1 : Int) (a2 : Nat) (r : Int) (w : World) (h : Qda.f a0 a1 a2 = some r) :
  Calls Try.prog 54 #[.string a0, .int .i64 a1, .func (.func a2) #[] #[]] w fun e w' => e = .returned (.int .i64 r) ∧ Qbe w w' := by
 unfold Qda.f at h
 split at h
 ·rename_i hs
  obtain ⟨h0, h1, h2, h3⟩ := hs
  obtain rfl := Option.some.inj h
  obtain ⟨n, rfl⟩ := Int.eq_ofNat_of_zero_le h0
  rw [Int.toNat_natCast]
  rcases h3 with rfl | rfl
  ·exact G.runDig a0 n w (by omega) h2
  ·exact G.Qoy a0 n w (by omega) h2
 ·cases h
def Qbo.f (a0 : Int) : Option (Bool) := if a0 ≥ 48 then (some (decide (a0 ≤ 57))) else (some false)
theorem Qbo.calls (a0 : Int) (r : Bool) (w : World) (h : Qbo.f a0 = some r) :
  Calls Try.prog 56 #[.int .u8 a0] w fun e w' => e = .returned (.bool r) ∧ Qbe w w' := by
 have H : (if a0 ≥ 48 then (some (decide (a0 ≤ 57))) else (some false)) = some r := h
 clear h
 by_cases c2 : a0 ≥ 48
 ·rw [if_pos c2] at H
  have c2b0 : decide (48 ≤ a0) = true := decide_eq_true c2
  clear c2
  obtain rfl := Option.some.inj H
  go_enter Try.func56, Try.ntmps56
  go_wp2
  go_ret
  exact eQ
 ·rw [if_neg c2] at H
  have c2b0 : decide (48 ≤ a0) = false := decide_eq_false c2
  clear c2
  obtain rfl := Option.some.inj H
  go_enter Try.func56, Try.ntmps56
  go_wp2
  go_ret
  exact eQ
def Qci.f (a0 : ByteArray) : Option (Int × Bool) := if a0.size ≤ 2305843009213693952 then some (match G.numv 0 a0.data.toList with | some x => ((x : Int), true) | none => (0, false)) else none
theorem Qci.calls (a0 : ByteArray) (r1 : Int) (r2 : Bool) (w : World) (h : Qci.f a0 = some (r1, r2)) :
  Calls Try.prog 57 #[.string a0] w fun e w' => e = .returned (.tuple #[.int .u64 r1, .bool r2]) ∧ Qbe w w' := by
 unfold Qci.f at h
 split at h
 ·rename_i hs
  refine (G.Qjz a0 w hs).mono ?_
  rintro e w' ⟨rfl, rfl⟩
  refine ⟨?_, Qbe.refl _⟩
  have h2 := Option.some.inj h
  revert h2
  cases G.numv 0 a0.data.toList with
  | none => intro h2; rw [Prod.mk.injEq] at h2; obtain ⟨rfl, rfl⟩ := h2; rfl
  | some x => intro h2; rw [Prod.mk.injEq] at h2; obtain ⟨rfl, rfl⟩ := h2; rfl
 ·cases h
def Qba.j0 : Nat → Int → Bool → Option (Int)
 | 0, _, _ => none
 | k + 1, x0, x9 => if x9 = true then (some (((x0 - 97) % 256) + 10)) else (if x0 ≥ 65 then (if x0 ≤ 70 then (some (((x0 - 65) % 256) + 10)) else (some (-1))) else (some (-1)))
def Qba.f (k : Nat) (a0 : Int) : Option (Int) := (Qbo.f a0).bind fun t102 => (if t102 = true then (some ((a0 - 48) % 256)) else (if a0 ≥ 97 then (Qba.j0 k a0 (decide (a0 ≤ 102))) else (Qba.j0 k a0 false)))
theorem Qba.Qe1 : ∀ k, (∀ y0 y1, LeO (Qba.j0 k y0 y1) (Qba.j0 (k + 1) y0 y1))
 | 0 => fun _ _ r h => by simp [Qba.j0] at h
 | k + 1 => by
  have ih0 := Qba.Qe1 k
  ·intro y0 y1
   unfold Qba.j0
   repeat' first
   | (with_reducible exact ih0 _ _)
   | (with_reducible exact LeO.refl _)
   | (with_reducible exact LeO.none _)
   | (with_reducible refine LeO.ite ?_ ?_)
   | (with_reducible refine LeO.bind ?_ (fun _ => ?_))
   | exact ih0 _ _
   | exact LeO.none _
   | refine LeO.ite ?_ ?_
   | refine LeO.bind ?_ (fun _ => ?_)
theorem Qba.mono : ∀ a0 k, LeO (Qba.f k a0) (Qba.f (k + 1) a0) := by
 intro a0 k
 have ih0 := Qba.Qe1 k
 unfold Qba.f
 repeat' first
   | (with_reducible exact ih0 _ _)
   | (with_reducible exact LeO.refl _)
   | (with_reducible exact LeO.none _)
   | (with_reducible refine LeO.ite ?_ ?_)
   | (with_reducible refine LeO.bind ?_ (fun _ => ?_))
   | exact ih0 _ _
   | exact LeO.none _
   | refine LeO.ite ?_ ?_
   | refine LeO.bind ?_ (fun _ => ?_)
theorem Qba.calls (k : Nat) (a0 : Int) (r : Int) (w : World) (h : Qba.f k a0 = some r) :
  Calls Try.prog 89 #[.int .u8 a0] w fun e w' => e = .returned (.int .i64 r) ∧ Qbe w w' := by
 have H : ((Qbo.f a0).bind fun t102 => (if t102 = true then (some ((a0 - 48) % 256)) else (if a0 ≥ 97 then (Qba.j0 k a0 (decide (a0 ≤ 102))) else (Qba.j0 k a0 false)))) = some r := h
 clear h
 replace H := Option.bind_eq_some_iff.mp H
 obtain ⟨t102, A20, H⟩ := H
 replace H : (if t102 = true then (some ((a0 - 48) % 256)) else (if a0 ≥ 97 then (Qba.j0 k a0 (decide (a0 ≤ 102))) else (Qba.j0 k a0 false))) = some r := H
 have A2 := J0.m A20
 clear A20
 by_cases c3 : t102 = true
 ·subst c3
  have H1 : (some ((a0 - 48) % 256)) = some r := by rw [if_pos rfl] at H; exact H
  clear H
  have H := H1
  clear H1
  obtain rfl := Option.some.inj H
  go_enter Try.func89, Try.ntmps89
  go_wp2_with (first | ((with_reducible refine Qat (f := 56) rfl ?_); refine Qbt (some 5) rfl rfl Try.func56 (by kernel_rfl) rfl #[.int .u8 a0] rfl mQ ?_; (with_reducible refine (Qbo.calls a0 true _ A2.o).mono ?_); rintro e w' ⟨rfl, ⟨nd, rfl⟩⟩; refine ⟨_, rfl, ?_⟩))
  go_ret
  exact eQ
 ·replace c3 := Bool.eq_false_iff.mpr c3
  subst c3
  have H1 : (if a0 ≥ 97 then (Qba.j0 k a0 (decide (a0 ≤ 102))) else (Qba.j0 k a0 false)) = some r := by rw [if_neg (show ¬ (false = true) by decide)] at H; exact H
  clear H
  have H := H1
  clear H1
  have HC4 := J0.m H
  clear H
  go_enter Try.func89, Try.ntmps89
  go_upto_region 3 with (first | ((with_reducible refine Qat (f := 56) rfl ?_); refine Qbt (some 5) rfl rfl Try.func56 (by kernel_rfl) rfl #[.int .u8 a0] rfl mQ ?_; (with_reducible refine (Qbo.calls a0 false _ A2.o).mono ?_); rintro e w' ⟨rfl, ⟨nd, rfl⟩⟩; refine ⟨_, rfl, ?_⟩))
  (try simp only [Act.put, List.setIfInBounds_toArray, List.set_cons_zero, List.set_cons_succ])
  go_cut [9] (fun v9 wc => ∃ (kq : Nat) (x9_3 : Bool), v9 = .bool x9_3 ∧ J0 (Qba.j0 kq a0 x9_3 = some r) ∧ J0 (kq ≤ k) ∧ Qbe w wc)
  case first =>
   have H := HC4.o
   clear HC4
   by_cases c5 : a0 ≥ 97
   ·rw [if_pos c5] at H
    have c5b0 : decide (97 ≤ a0) = true := decide_eq_true c5
    clear c5
    (first | rw [c5b0] | (simp only [Qbj, Qbp]; rw [c5b0]) | skip)
    have H' := J0.m H
    clear H
    go_wp2
    go_meet
    case rel => exact ⟨_, (decide (a0 ≤ 102)), (by first | rfl | (simp; done) | (simp [*]; done)), H', ⟨by first | omega | exact Nat.le_refl _⟩, dR⟩
   ·rw [if_neg c5] at H
    have c5b0 : decide (97 ≤ a0) = false := decide_eq_false c5
    clear c5
    (first | rw [c5b0] | (simp only [Qbj, Qbp]; rw [c5b0]) | skip)
    have H' := J0.m H
    clear H
    go_wp2
    go_meet
    case rel => exact ⟨_, (false), (by first | rfl | (simp; done) | (simp [*]; done)), H', ⟨by first | omega | exact Nat.le_refl _⟩, dR⟩
  case rest =>
   clear HC4
   try clear p2
   try clear c3
   try clear c5
   try clear c5b0
   obtain ⟨kq, x9_3, rfl, HA, HJ3, ⟨mc3, rfl⟩⟩ := hcut
   cases kq with
   | zero => exact absurd HA.o (by simp [Qba.j0])
   | succ kj3 =>
    have H := HA.o
    clear HA
    simp only [Qba.j0] at H
    by_cases c6 : x9_3 = true
    ·subst c6
     have H1 : (some (((a0 - 97) % 256) + 10)) = some r := by rw [if_pos rfl] at H; exact H
     clear H
     have H := H1
     clear H1
     obtain rfl := Option.some.inj H
     go_wp2
     go_ret
     exact eQ
    ·replace c6 := Bool.eq_false_iff.mpr c6
     subst c6
     have H1 : (if a0 ≥ 65 then (if a0 ≤ 70 then (some (((a0 - 65) % 256) + 10)) else (some (-1))) else (some (-1))) = some r := by rw [if_neg (show ¬ (false = true) by decide)] at H; exact H
     clear H
     have H := H1
     clear H1
     by_cases c7 : a0 ≥ 65
     ·rw [if_pos c7] at H
      have c7b0 : decide (65 ≤ a0) = true := decide_eq_true c7
      clear c7
      by_cases c8 : a0 ≤ 70
      ·rw [if_pos c8] at H
       have c8b0 : decide (a0 ≤ 70) = true := decide_eq_true c8
       clear c8
       obtain rfl := Option.some.inj H
       go_wp2
       go_ret
       exact eQ
      ·rw [if_neg c8] at H
       have c8b0 : decide (a0 ≤ 70) = false := decide_eq_false c8
       clear c8
       obtain rfl := Option.some.inj H
       go_wp2
       go_ret
       exact eQ
     ·rw [if_neg c7] at H
      have c7b0 : decide (65 ≤ a0) = false := decide_eq_false c7
      clear c7
      obtain rfl := Option.some.inj H
      go_wp2
      go_ret
      exact eQ
end Go.Proofs.Ytbdcndkafaajpaa.X
end
section
namespace Go.Proofs.Ytbdcndkafaajpaa.X
open Go.RowKit YtbdcndkafaajpaaW.PrintWords YtbdcndkafaajpaaW.PrintLast YtbdcndkafaajpaaW.PrintMore
theorem bx5 {W : World} {b : Nat} {a0 a1 a2 a3 a4 : Value} {t : TypeId} (h : W.heap[b]? = some (.cells #[a0, a1, a2, a3, a4] t (0, 0))) : W.cell? ⟨b, 0, none⟩ = some a0 ∧ W.cell? ⟨b, 1, none⟩ = some a1 ∧ W.cell? ⟨b, 2, none⟩ = some a2 ∧ W.cell? ⟨b, 3, none⟩ = some a3 ∧ W.cell? ⟨b, 4, none⟩ = some a4 :=
 ⟨(Qac h 0).trans rfl, (Qac h 1).trans rfl, (Qac h 2).trans rfl, (Qac h 3).trans rfl, (Qac h 4).trans rfl⟩
theorem sv5 {W : World} {b : Nat} {a0 a1 a2 a3 a4 v0 v1 v2 v3 v4 : Value} {t : TypeId} (h : W.heap[b]? = some (.cells #[a0, a1, a2, a3, a4] t (0, 0))) :
 (((((W.setCell ⟨b, 0, none⟩ v0).setCell ⟨b, 1, none⟩ v1).setCell ⟨b, 2, none⟩ v2).setCell ⟨b, 3, none⟩ v3).setCell ⟨b, 4, none⟩ v4).heap[b]? = some (.cells #[v0, v1, v2, v3, v4] t (0, 0)) :=
 Qby (Qby (Qby (Qby (Qby h 0 v0 rfl) 1 v1 rfl) 2 v2 rfl) 3 v3 rfl) 4 v4 rfl
attribute [local go_sem] Qdz Qdx Qes Qer Qdm Qdl Qdy Qdw
mutual
def Qav.j0 : Nat → ByteArray → Int → Int → Bool → Option (Int × Int)
 | 0, _, _, _, _ => none
 | k + 1, x0, x1, x14, x15 => if x15 = true then (if 0 ≤ (wrap64 (x1 + 1)) then (if (wrap64 (x1 + 1)) < (x0.size : Int) then (some (bt x0 (wrap64 (x1 + 1)), wrap64 (x1 + 2))) else (none)) else (none)) else (if x14 = 110 then (some (10, wrap64 (x1 + 2))) else (if x14 = 116 then (some (9, wrap64 (x1 + 2))) else (if x14 = 120 then (if (wrap64 (x1 + 3)) < (x0.size : Int) then (if 0 ≤ (wrap64 (x1 + 2)) then (if (wrap64 (x1 + 2)) < (x0.size : Int) then ((Qba.f k (bt x0 (wrap64 (x1 + 2)))).bind fun t103 => (if t103 ≥ 0 then (if 0 ≤ (wrap64 (x1 + 3)) then ((Qba.f k (bt x0 (wrap64 (x1 + 3)))).bind fun t104 => (Qav.j1 k x0 x1 (decide (t104 ≥ 0)))) else (none)) else (Qav.j1 k x0 x1 false))) else (none)) else (none)) else (Qav.j1 k x0 x1 false)) else (some (0, 0)))))
def Qav.j1 : Nat → ByteArray → Int → Bool → Option (Int × Int)
 | 0, _, _, _ => none
 | k + 1, x0, x1, x54 => if x54 = true then (if 0 ≤ (wrap64 (x1 + 2)) then (if (wrap64 (x1 + 2)) < (x0.size : Int) then ((Qba.f k (bt x0 (wrap64 (x1 + 2)))).bind fun t105 => (if 0 ≤ (wrap64 (x1 + 3)) then (if (wrap64 (x1 + 3)) < (x0.size : Int) then ((Qba.f k (bt x0 (wrap64 (x1 + 3)))).bind fun t106 => (some ((wrap64 ((wrap64 (16 * t105)) + t106)) % 256, wrap64 (x1 + 4)))) else (none)) else (none))) else (none)) else (none)) else (some (0, 0))
end
def Qav.f (k : Nat) (a0 : ByteArray) (a1 : Int) : Option (Int × Int) := if (wrap64 (a1 + 1)) ≥ (a0.size : Int) then (some (0, 0)) else (if 0 ≤ (wrap64 (a1 + 1)) then (if (wrap64 (a1 + 1)) < (a0.size : Int) then (if (bt a0 (wrap64 (a1 + 1))) = 92 then (Qav.j0 k a0 a1 (bt a0 (wrap64 (a1 + 1))) ((bt a0 (wrap64 (a1 + 1))) == 92)) else (Qav.j0 k a0 a1 (bt a0 (wrap64 (a1 + 1))) ((bt a0 (wrap64 (a1 + 1))) == 34))) else (none)) else (none))
theorem Qav.Qe1 : ∀ k, (∀ y0 y1 y2 y3, LeO (Qav.j0 k y0 y1 y2 y3) (Qav.j0 (k + 1) y0 y1 y2 y3)) ∧ (∀ y0 y1 y2, LeO (Qav.j1 k y0 y1 y2) (Qav.j1 (k + 1) y0 y1 y2))
 | 0 => ⟨fun _ _ _ _ r h => by simp [Qav.j0] at h, fun _ _ _ r h => by simp [Qav.j1] at h⟩
 | k + 1 => by
  obtain ⟨ih0, ih1⟩ := Qav.Qe1 k
  refine ⟨?_, ?_⟩
  ·intro y0 y1 y2 y3
   unfold Qav.j0
   repeat' first
   | (with_reducible exact ih0 _ _ _ _)
   | (with_reducible exact ih1 _ _ _)
   | (with_reducible exact Qba.mono _ _)
   | (with_reducible exact LeO.refl _)
   | (with_reducible exact LeO.none _)
   | (with_reducible refine LeO.ite ?_ ?_)
   | (with_reducible refine LeO.bind ?_ (fun _ => ?_))
   | exact ih0 _ _ _ _
   | exact ih1 _ _ _
   | exact Qba.mono _ _
   | exact LeO.none _
   | refine LeO.ite ?_ ?_
   | refine LeO.bind ?_ (fun _ => ?_)
  ·intro y0 y1 y2
   unfold Qav.j1
   repeat' first
   | (with_reducible exact ih0 _ _ _ _)
   | (with_reducible exact ih1 _ _ _)
   | (with_reducible exact Qba.mono _ _)
   | (with_reducible exact LeO.refl _)
   | (with_reducible exact LeO.none _)
   | (with_reducible refine LeO.ite ?_ ?_)
   | (with_reducible refine LeO.bind ?_ (fun _ => ?_))
   | exact ih0 _ _ _ _
   | exact ih1 _ _ _
   | exact Qba.mono _ _
   | exact LeO.none _
   | refine LeO.ite ?_ ?_
   | refine LeO.bind ?_ (fun _ => ?_)
theorem Qav.mono : ∀ a0 a1 k, LeO (Qav.f k a0 a1) (Qav.f (k + 1) a0 a1) := by
 intro a0 a1 k
 obtain ⟨ih0, ih1⟩ := Qav.Qe1 k
 unfold Qav.f
 repeat' first
   | (with_reducible exact ih0 _ _ _ _)
   | (with_reducible exact ih1 _ _ _)
   | (with_reducible exact Qba.mono _ _)
   | (with_reducible exact LeO.refl _)
   | (with_reducible exact LeO.none _)
   | (with_reducible refine LeO.ite ?_ ?_)
   | (with_reducible refine LeO.bind ?_ (fun _ => ?_))
   | exact ih0 _ _ _ _
   | exact ih1 _ _ _
   | exact Qba.mono _ _
   | exact LeO.none _
   | refine LeO.ite ?_ ?_
   | refine LeO.bind ?_ (fun _ => ?_)
theorem Qav.calls (k : Nat) (a0 : ByteArray) (a1 : Int) (r1 : Int) (r2 : Int) (w : World) (h : Qav.f k a0 a1 = some (r1, r2)) :
  Calls Try.prog 80 #[.string a0, .int .i64 a1] w fun e w' => e = .returned (.tuple #[.int .u8 r1, .int .i64 r2]) ∧ Qbe w w' := by
 have H : (if (wrap64 (a1 + 1)) ≥ (a0.size : Int) then (some (0, 0)) else (if 0 ≤ (wrap64 (a1 + 1)) then (if (wrap64 (a1 + 1)) < (a0.size : Int) then (if (bt a0 (wrap64 (a1 + 1))) = 92 then (Qav.j0 k a0 a1 (bt a0 (wrap64 (a1 + 1))) ((bt a0 (wrap64 (a1 + 1))) == 92)) else (Qav.j0 k a0 a1 (bt a0 (wrap64 (a1 + 1))) ((bt a0 (wrap64 (a1 + 1))) == 34))) else (none)) else (none))) = some (r1, r2) := h
 clear h
 by_cases c3 : (wrap64 (a1 + 1)) ≥ (a0.size : Int)
 ·rw [if_pos c3] at H
  have c3b0 : decide ((a0.size : Int) ≤ (wrap64 (a1 + 1))) = true := decide_eq_true c3
  clear c3
  simp only [Option.some.injEq, Prod.mk.injEq] at H
  obtain ⟨rfl, rfl⟩ := H
  go_enter Try.func80, Try.ntmps80
  go_wp2
  repeat (go_quiet (fail); try go_wp2)
  go_ret2
  exact eQ
 ·rw [if_neg c3] at H
  have c3b0 : decide ((a0.size : Int) ≤ (wrap64 (a1 + 1))) = false := decide_eq_false c3
  clear c3
  obtain ⟨ji4, hji4⟩ : ∃ j_ : Int, (wrap64 (a1 + 1)) = j_ := ⟨_, rfl⟩
  replace H : (if 0 ≤ (ji4) then (if (ji4) < (a0.size : Int) then (if (bt a0 (ji4)) = 92 then (Qav.j0 k a0 a1 (bt a0 (ji4)) ((bt a0 (ji4)) == 92)) else (Qav.j0 k a0 a1 (bt a0 (ji4)) ((bt a0 (ji4)) == 34))) else (none)) else (none)) = some (r1, r2) := by first | (rw [hji4] at H; exact H) | (simp only [hji4] at H ⊢; exact H)
  (try rw [hji4] at c3b0)
  have hji4w : (IntKind.i64.wrap (a1 + 1)) = ji4 := (Qbj _).trans hji4
  by_cases c5 : 0 ≤ (ji4)
  ·rw [if_pos c5] at H
   have c5b0 : decide (0 ≤ (ji4)) = true := decide_eq_true c5
   clear c5
   by_cases c6 : (ji4) < (a0.size : Int)
   ·rw [if_pos c6] at H
    have c6b0 : decide ((ji4) < (a0.size : Int)) = true := decide_eq_true c6
    clear c6
    have HC8 := J0.m H
    clear H
    have p7 : 0 ≤ ((ji4) : Int) := dQ
    have q7 : (ji4) < (a0.size : Int) := dQ
    have hx7 := Qb2 a0 (ji4)
    replace p7 := eq_true p7
    replace q7 := eq_true q7
    go_enter Try.func80, Try.ntmps80
    go_upto_if 15 with (fail)
    repeat (go_quiet (fail); go_upto_if 15 with (fail))
    go_cut [15] (fun v15 wc => ∃ (kq : Nat) (x15_7 : Bool), v15 = .bool x15_7 ∧ J0 (Qav.j0 kq a0 a1 (bt a0 (ji4)) x15_7 = some (r1, r2)) ∧ J0 (kq ≤ k) ∧ Qbe w wc)
    case first =>
     have H := HC8.o
     clear HC8
     by_cases c9 : (bt a0 (ji4)) = 92
     ·rw [if_pos c9] at H
      have c9b0 : ((bt a0 (ji4)) == 92) = true := beq_iff_eq.mpr c9
      have c9b1 : ((bt a0 (ji4)) != 92) = false := bne_eq_false_iff_eq.mpr c9
      clear c9
      (first | rw [c9b0] | (simp only [Qbj, Qbp]; rw [c9b0]) | skip)
      have H' := J0.m H
      clear H
      go_wp2
      repeat (go_quiet (fail); try go_wp2)
      go_meet
      case rel => exact ⟨_, (((bt a0 (ji4)) == 92)), (by first | rfl | (simp; done) | (simp [*]; done) | (simp [Qbj, IntKind.wrap_u8]; done) | ((try simp only [← hji4]); (first | rfl | (simp; done))) | (simp [*]; done)), H', ⟨by first | omega | exact Nat.le_refl _⟩, dR⟩
     ·rw [if_neg c9] at H
      have c9b0 : ((bt a0 (ji4)) == 92) = false := beq_eq_false_iff_ne.mpr c9
      have c9b1 : ((bt a0 (ji4)) != 92) = true := bne_iff_ne.mpr c9
      (first | rw [c9b0] | (simp only [Qbj, Qbp]; rw [c9b0]) | skip)
      have H' := J0.m H
      clear H
      go_wp2
      repeat (go_quiet (fail); try go_wp2)
      go_meet
      case rel => exact ⟨_, (((bt a0 (ji4)) == 34)), (by first | rfl | (simp; done) | (simp [*]; done) | (simp [Qbj, IntKind.wrap_u8]; done) | ((try simp only [← hji4]); (first | rfl | (simp; done))) | (simp [*]; done)), H', ⟨by first | omega | exact Nat.le_refl _⟩, dR⟩
    case rest =>
     clear HC8
     try clear p2
     try clear c3
     try clear c3b0
     try clear c5
     try clear c5b0
     try clear c6
     try clear c6b0
     try clear p6
     try clear p7
     try clear q7
     try clear hx7
     try clear c8
     try clear c9
     try clear c9b0
     try clear c9b1
     try clear p7
     try clear q7
     obtain ⟨kq, x15_7, rfl, HA, HJ7, ⟨mc7, rfl⟩⟩ := hcut
     cases kq with
     | zero => exact absurd HA.o (by simp [Qav.j0])
     | succ kj7 =>
      have H := HA.o
      clear HA
      simp only [Qav.j0] at H
      by_cases c10 : x15_7 = true
      ·subst c10
       have H1 : (if 0 ≤ (wrap64 (a1 + 1)) then (if (wrap64 (a1 + 1)) < (a0.size : Int) then (some (bt a0 (wrap64 (a1 + 1)), wrap64 (a1 + 2))) else (none)) else (none)) = some (r1, r2) := by rw [if_pos rfl] at H; exact H
       clear H
       have H := H1
       clear H1
       try clear hji4
       try clear hji4w
       obtain ⟨ji11, hji11⟩ : ∃ j_ : Int, (wrap64 (a1 + 1)) = j_ := ⟨_, rfl⟩
       replace H : (if 0 ≤ (ji11) then (if (ji11) < (a0.size : Int) then (some (bt a0 (ji11), wrap64 (a1 + 2))) else (none)) else (none)) = some (r1, r2) := by first | (rw [hji11] at H; exact H) | (simp only [hji11] at H ⊢; exact H)
       (try rw [hji11] at c3b0)
       have hji11w : (IntKind.i64.wrap (a1 + 1)) = ji11 := (Qbj _).trans hji11
       by_cases c12 : 0 ≤ (ji11)
       ·rw [if_pos c12] at H
        have c12b0 : decide (0 ≤ (ji11)) = true := decide_eq_true c12
        clear c12
        by_cases c13 : (ji11) < (a0.size : Int)
        ·rw [if_pos c13] at H
         have c13b0 : decide ((ji11) < (a0.size : Int)) = true := decide_eq_true c13
         clear c13
         simp only [Option.some.injEq, Prod.mk.injEq] at H
         obtain ⟨rfl, rfl⟩ := H
         have p14 : 0 ≤ ((ji11) : Int) := dQ
         have q14 : (ji11) < (a0.size : Int) := dQ
         have hx14 := Qb2 a0 (ji11)
         replace p14 := eq_true p14
         replace q14 := eq_true q14
         go_wp2
         repeat (go_quiet (fail); try go_wp2)
         go_ret2
         exact ⟨by first | rfl | (simp; done) | (simp [*]; done) | (simp [Qbj, IntKind.wrap_u8]; done) | ((try simp only [← hji4]); (try simp only [← hji11]); (first | rfl | (simp; done))) | (simp [*]; done), dR⟩
        ·rw [if_neg c13] at H
         exact absurd H (by simp)
       ·rw [if_neg c12] at H
        exact absurd H (by simp)
      ·replace c10 := Bool.eq_false_iff.mpr c10
       subst c10
       have H1 : (if (bt a0 (ji4)) = 110 then (some (10, wrap64 (a1 + 2))) else (if (bt a0 (ji4)) = 116 then (some (9, wrap64 (a1 + 2))) else (if (bt a0 (ji4)) = 120 then (if (wrap64 (a1 + 3)) < (a0.size : Int) then (if 0 ≤ (wrap64 (a1 + 2)) then (if (wrap64 (a1 + 2)) < (a0.size : Int) then ((Qba.f kj7 (bt a0 (wrap64 (a1 + 2)))).bind fun t103 => (if t103 ≥ 0 then (if 0 ≤ (wrap64 (a1 + 3)) then ((Qba.f kj7 (bt a0 (wrap64 (a1 + 3)))).bind fun t104 => (Qav.j1 kj7 a0 a1 (decide (t104 ≥ 0)))) else (none)) else (Qav.j1 kj7 a0 a1 false))) else (none)) else (none)) else (Qav.j1 kj7 a0 a1 false)) else (some (0, 0))))) = some (r1, r2) := by rw [if_neg (show ¬ (false = true) by decide)] at H; exact H
       clear H
       have H := H1
       clear H1
       by_cases c15 : (bt a0 (ji4)) = 110
       ·rw [if_pos c15] at H
        have c15b0 : ((bt a0 (ji4)) == 110) = true := beq_iff_eq.mpr c15
        have c15b1 : ((bt a0 (ji4)) != 110) = false := bne_eq_false_iff_eq.mpr c15
        clear c15
        simp only [Option.some.injEq, Prod.mk.injEq] at H
        obtain ⟨rfl, rfl⟩ := H
        go_wp2
        repeat (go_quiet (fail); try go_wp2)
        go_ret2
        exact ⟨by first | rfl | (simp; done) | (simp [*]; done) | (simp [Qbj, IntKind.wrap_u8]; done) | ((try simp only [← hji4]); (first | rfl | (simp; done))) | (simp [*]; done), dR⟩
       ·rw [if_neg c15] at H
        have c15b0 : ((bt a0 (ji4)) == 110) = false := beq_eq_false_iff_ne.mpr c15
        have c15b1 : ((bt a0 (ji4)) != 110) = true := bne_iff_ne.mpr c15
        by_cases c16 : (bt a0 (ji4)) = 116
        ·rw [if_pos c16] at H
         have c16b0 : ((bt a0 (ji4)) == 116) = true := beq_iff_eq.mpr c16
         have c16b1 : ((bt a0 (ji4)) != 116) = false := bne_eq_false_iff_eq.mpr c16
         clear c16
         simp only [Option.some.injEq, Prod.mk.injEq] at H
         obtain ⟨rfl, rfl⟩ := H
         go_wp2
         repeat (go_quiet (fail); try go_wp2)
         go_ret2
         exact ⟨by first | rfl | (simp; done) | (simp [*]; done) | (simp [Qbj, IntKind.wrap_u8]; done) | ((try simp only [← hji4]); (first | rfl | (simp; done))) | (simp [*]; done), dR⟩
        ·rw [if_neg c16] at H
         have c16b0 : ((bt a0 (ji4)) == 116) = false := beq_eq_false_iff_ne.mpr c16
         have c16b1 : ((bt a0 (ji4)) != 116) = true := bne_iff_ne.mpr c16
         by_cases c17 : (bt a0 (ji4)) = 120
         ·rw [if_pos c17] at H
          have c17b0 : ((bt a0 (ji4)) == 120) = true := beq_iff_eq.mpr c17
          have c17b1 : ((bt a0 (ji4)) != 120) = false := bne_eq_false_iff_eq.mpr c17
          clear c17
          have HC18 := J0.m H
          clear H
          go_upto_region 12 with (fail)
          repeat (go_quiet (fail); go_upto_region 12 with (fail))
          go_cut [54] (fun v54 wc => ∃ (kq : Nat) (x54_17 : Bool), v54 = .bool x54_17 ∧ J0 (Qav.j1 kq a0 a1 x54_17 = some (r1, r2)) ∧ J0 (kq ≤ kj7) ∧ Qbe w wc)
          case first =>
           have H := HC18.o
           clear HC18
           by_cases c19 : (wrap64 (a1 + 3)) < (a0.size : Int)
           ·rw [if_pos c19] at H
            have c19b0 : decide ((wrap64 (a1 + 3)) < (a0.size : Int)) = true := decide_eq_true c19
            clear c19
            (first | rw [c19b0] | (simp only [Qbj, Qbp]; rw [c19b0]) | skip)
            obtain ⟨ji20, hji20⟩ : ∃ j_ : Int, (wrap64 (a1 + 2)) = j_ := ⟨_, rfl⟩
            replace H : (if 0 ≤ (ji20) then (if (ji20) < (a0.size : Int) then ((Qba.f kj7 (bt a0 (ji20))).bind fun t103 => (if t103 ≥ 0 then (if 0 ≤ (wrap64 (a1 + 3)) then ((Qba.f kj7 (bt a0 (wrap64 (a1 + 3)))).bind fun t104 => (Qav.j1 kj7 a0 a1 (decide (t104 ≥ 0)))) else (none)) else (Qav.j1 kj7 a0 a1 false))) else (none)) else (none)) = some (r1, r2) := by first | (rw [hji20] at H; exact H) | (simp only [hji20] at H ⊢; exact H)
            have hji20w : (IntKind.i64.wrap (a1 + 2)) = ji20 := (Qbj _).trans hji20
            by_cases c21 : 0 ≤ (ji20)
            ·rw [if_pos c21] at H
             have c21b0 : decide (0 ≤ (ji20)) = true := decide_eq_true c21
             clear c21
             by_cases c22 : (ji20) < (a0.size : Int)
             ·rw [if_pos c22] at H
              have c22b0 : decide ((ji20) < (a0.size : Int)) = true := decide_eq_true c22
              clear c22
              replace H := Option.bind_eq_some_iff.mp H
              obtain ⟨t103, A240, H⟩ := H
              replace H : (if t103 ≥ 0 then (if 0 ≤ (wrap64 (a1 + 3)) then ((Qba.f kj7 (bt a0 (wrap64 (a1 + 3)))).bind fun t104 => (Qav.j1 kj7 a0 a1 (decide (t104 ≥ 0)))) else (none)) else (Qav.j1 kj7 a0 a1 false)) = some (r1, r2) := H
              have A24 := J0.m A240
              clear A240
              by_cases c25 : t103 ≥ 0
              ·rw [if_pos c25] at H
               have c25b0 : decide (0 ≤ t103) = true := decide_eq_true c25
               clear c25
               obtain ⟨ji26, hji26⟩ : ∃ j_ : Int, (wrap64 (a1 + 3)) = j_ := ⟨_, rfl⟩
               replace H : (if 0 ≤ (ji26) then ((Qba.f kj7 (bt a0 (ji26))).bind fun t104 => (Qav.j1 kj7 a0 a1 (decide (t104 ≥ 0)))) else (none)) = some (r1, r2) := by first | (rw [hji26] at H; exact H) | (simp only [hji26] at H ⊢; exact H)
               (try rw [hji26] at c19b0)
               (try rw [hji26] at A24)
               have hji26w : (IntKind.i64.wrap (a1 + 3)) = ji26 := (Qbj _).trans hji26
               by_cases c27 : 0 ≤ (ji26)
               ·rw [if_pos c27] at H
                have c27b0 : decide (0 ≤ (ji26)) = true := decide_eq_true c27
                clear c27
                replace H := Option.bind_eq_some_iff.mp H
                obtain ⟨t104, A290, H⟩ := H
                replace H : (Qav.j1 kj7 a0 a1 (decide (t104 ≥ 0))) = some (r1, r2) := H
                have A29 := J0.m A290
                clear A290
                have H' := J0.m H
                clear H
                have p23 : 0 ≤ ((ji20) : Int) := dQ
                have q23 : (ji20) < (a0.size : Int) := dQ
                have hx23 := Qb2 a0 (ji20)
                replace p23 := eq_true p23
                replace q23 := eq_true q23
                go_wp2_with (first | (go_at_call 89; (with_reducible refine (Qba.calls kj7 (bt a0 (ji20)) t103 _ A24.o).mono ?_); rintro e w' ⟨rfl, ⟨nd, rfl⟩⟩; (try first | exact ⟨rfl, _, World.drewN_drewN _ _ _⟩ | exact ⟨rfl, _, Eq.trans (World.drewN_drewN _ _ _) (congrArg (World.drewN _) (Nat.add_assoc _ _ _))⟩); have p28 : 0 ≤ ((ji26) : Int) := dQ; have q28 : (ji26) < (a0.size : Int) := dQ; have hx28 := Qb2 a0 (ji26); replace p28 := eq_true p28; replace q28 := eq_true q28) | (go_at_call 89; (with_reducible refine (Qba.calls kj7 (bt a0 (ji26)) t104 _ A29.o).mono ?_); rintro e w' ⟨rfl, ⟨nd, rfl⟩⟩; (try first | exact ⟨rfl, _, World.drewN_drewN _ _ _⟩ | exact ⟨rfl, _, Eq.trans (World.drewN_drewN _ _ _) (congrArg (World.drewN _) (Nat.add_assoc _ _ _))⟩)))
                repeat (go_quiet (first | (go_at_call 89; (with_reducible refine (Qba.calls kj7 (bt a0 (ji20)) t103 _ A24.o).mono ?_); rintro e w' ⟨rfl, ⟨nd, rfl⟩⟩; (try first | exact ⟨rfl, _, World.drewN_drewN _ _ _⟩ | exact ⟨rfl, _, Eq.trans (World.drewN_drewN _ _ _) (congrArg (World.drewN _) (Nat.add_assoc _ _ _))⟩); have p28 : 0 ≤ ((ji26) : Int) := dQ; have q28 : (ji26) < (a0.size : Int) := dQ; have hx28 := Qb2 a0 (ji26); replace p28 := eq_true p28; replace q28 := eq_true q28) | (go_at_call 89; (with_reducible refine (Qba.calls kj7 (bt a0 (ji26)) t104 _ A29.o).mono ?_); rintro e w' ⟨rfl, ⟨nd, rfl⟩⟩; (try first | exact ⟨rfl, _, World.drewN_drewN _ _ _⟩ | exact ⟨rfl, _, Eq.trans (World.drewN_drewN _ _ _) (congrArg (World.drewN _) (Nat.add_assoc _ _ _))⟩))); try go_wp2_with (first | (go_at_call 89; (with_reducible refine (Qba.calls kj7 (bt a0 (ji20)) t103 _ A24.o).mono ?_); rintro e w' ⟨rfl, ⟨nd, rfl⟩⟩; (try first | exact ⟨rfl, _, World.drewN_drewN _ _ _⟩ | exact ⟨rfl, _, Eq.trans (World.drewN_drewN _ _ _) (congrArg (World.drewN _) (Nat.add_assoc _ _ _))⟩); have p28 : 0 ≤ ((ji26) : Int) := dQ; have q28 : (ji26) < (a0.size : Int) := dQ; have hx28 := Qb2 a0 (ji26); replace p28 := eq_true p28; replace q28 := eq_true q28) | (go_at_call 89; (with_reducible refine (Qba.calls kj7 (bt a0 (ji26)) t104 _ A29.o).mono ?_); rintro e w' ⟨rfl, ⟨nd, rfl⟩⟩; (try first | exact ⟨rfl, _, World.drewN_drewN _ _ _⟩ | exact ⟨rfl, _, Eq.trans (World.drewN_drewN _ _ _) (congrArg (World.drewN _) (Nat.add_assoc _ _ _))⟩))))
                go_meet
                case rel => exact ⟨_, (decide (t104 ≥ 0)), (by first | rfl | (simp; done) | (simp [*]; done)), H', ⟨by have := HJ7.o; first | omega | exact Nat.le_refl _⟩, dR⟩
               ·rw [if_neg c27] at H
                exact absurd H (by simp)
              ·rw [if_neg c25] at H
               have c25b0 : decide (0 ≤ t103) = false := decide_eq_false c25
               clear c25
               have H' := J0.m H
               clear H
               have p23 : 0 ≤ ((ji20) : Int) := dQ
               have q23 : (ji20) < (a0.size : Int) := dQ
               have hx23 := Qb2 a0 (ji20)
               replace p23 := eq_true p23
               replace q23 := eq_true q23
               go_wp2_with (first | (go_at_call 89; (with_reducible refine (Qba.calls kj7 (bt a0 (ji20)) t103 _ A24.o).mono ?_); rintro e w' ⟨rfl, ⟨nd, rfl⟩⟩; (try first | exact ⟨rfl, _, World.drewN_drewN _ _ _⟩ | exact ⟨rfl, _, Eq.trans (World.drewN_drewN _ _ _) (congrArg (World.drewN _) (Nat.add_assoc _ _ _))⟩)))
               repeat (go_quiet (first | (go_at_call 89; (with_reducible refine (Qba.calls kj7 (bt a0 (ji20)) t103 _ A24.o).mono ?_); rintro e w' ⟨rfl, ⟨nd, rfl⟩⟩; (try first | exact ⟨rfl, _, World.drewN_drewN _ _ _⟩ | exact ⟨rfl, _, Eq.trans (World.drewN_drewN _ _ _) (congrArg (World.drewN _) (Nat.add_assoc _ _ _))⟩))); try go_wp2_with (first | (go_at_call 89; (with_reducible refine (Qba.calls kj7 (bt a0 (ji20)) t103 _ A24.o).mono ?_); rintro e w' ⟨rfl, ⟨nd, rfl⟩⟩; (try first | exact ⟨rfl, _, World.drewN_drewN _ _ _⟩ | exact ⟨rfl, _, Eq.trans (World.drewN_drewN _ _ _) (congrArg (World.drewN _) (Nat.add_assoc _ _ _))⟩))))
               go_meet
               case rel => exact ⟨_, (false), (by first | rfl | (simp; done) | (simp [*]; done)), H', ⟨by have := HJ7.o; first | omega | exact Nat.le_refl _⟩, dR⟩
             ·rw [if_neg c22] at H
              exact absurd H (by simp)
            ·rw [if_neg c21] at H
             exact absurd H (by simp)
           ·rw [if_neg c19] at H
            have c19b0 : decide ((wrap64 (a1 + 3)) < (a0.size : Int)) = false := decide_eq_false c19
            clear c19
            (first | rw [c19b0] | (simp only [Qbj, Qbp]; rw [c19b0]) | skip)
            have H' := J0.m H
            clear H
            go_wp2
            repeat (go_quiet (fail); try go_wp2)
            go_meet
            case rel => exact ⟨_, (false), (by first | rfl | (simp; done) | (simp [*]; done)), H', ⟨by have := HJ7.o; first | omega | exact Nat.le_refl _⟩, dR⟩
          case rest =>
           clear HC18
           try clear c1
           try clear p1
           try clear q1
           try clear hx1
           try clear c2
           try clear p2
           try clear q2
           try clear hx2
           try clear c3
           try clear c3b0
           try clear c5
           try clear c5b0
           try clear c6
           try clear c6b0
           try clear p6
           try clear c7
           try clear p7
           try clear q7
           try clear hx7
           try clear c8
           try clear c9
           try clear c9b0
           try clear c9b1
           try clear c10
           try clear c12
           try clear c12b0
           try clear c13
           try clear c13b0
           try clear p14
           try clear q14
           try clear hx14
           try clear c15
           try clear c15b0
           try clear c15b1
           try clear c16
           try clear c16b0
           try clear c16b1
           try clear c17
           try clear c17b0
           try clear c17b1
           try clear c19
           try clear c19b0
           try clear c21
           try clear c21b0
           try clear c22
           try clear c22b0
           try clear p23
           try clear q23
           try clear hx23
           try clear c25
           try clear c25b0
           try clear c27
           try clear c27b0
           try clear p28
           try clear q28
           try clear hx28
           try clear p14
           try clear p2
           try clear p23
           try clear p28
           try clear p6
           try clear p7
           try clear q14
           try clear q23
           try clear q28
           try clear q7
           obtain ⟨kq, x54_17, rfl, HA, HJ17, ⟨mc17, rfl⟩⟩ := hcut
           cases kq with
           | zero => exact absurd HA.o (by simp [Qav.j1])
           | succ kj17 =>
            have H := HA.o
            clear HA
            simp only [Qav.j1] at H
            by_cases c30 : x54_17 = true
            ·subst c30
             have H1 : (if 0 ≤ (wrap64 (a1 + 2)) then (if (wrap64 (a1 + 2)) < (a0.size : Int) then ((Qba.f kj17 (bt a0 (wrap64 (a1 + 2)))).bind fun t105 => (if 0 ≤ (wrap64 (a1 + 3)) then (if (wrap64 (a1 + 3)) < (a0.size : Int) then ((Qba.f kj17 (bt a0 (wrap64 (a1 + 3)))).bind fun t106 => (some ((wrap64 ((wrap64 (16 * t105)) + t106)) % 256, wrap64 (a1 + 4)))) else (none)) else (none))) else (none)) else (none)) = some (r1, r2) := by rw [if_pos rfl] at H; exact H
             clear H
             have H := H1
             clear H1
             try clear hji20
             try clear hji20w
             obtain ⟨ji31, hji31⟩ : ∃ j_ : Int, (wrap64 (a1 + 2)) = j_ := ⟨_, rfl⟩
             replace H : (if 0 ≤ (ji31) then (if (ji31) < (a0.size : Int) then ((Qba.f kj17 (bt a0 (ji31))).bind fun t105 => (if 0 ≤ (wrap64 (a1 + 3)) then (if (wrap64 (a1 + 3)) < (a0.size : Int) then ((Qba.f kj17 (bt a0 (wrap64 (a1 + 3)))).bind fun t106 => (some ((wrap64 ((wrap64 (16 * t105)) + t106)) % 256, wrap64 (a1 + 4)))) else (none)) else (none))) else (none)) else (none)) = some (r1, r2) := by first | (rw [hji31] at H; exact H) | (simp only [hji31] at H ⊢; exact H)
             have hji31w : (IntKind.i64.wrap (a1 + 2)) = ji31 := (Qbj _).trans hji31
             by_cases c32 : 0 ≤ (ji31)
             ·rw [if_pos c32] at H
              have c32b0 : decide (0 ≤ (ji31)) = true := decide_eq_true c32
              clear c32
              by_cases c33 : (ji31) < (a0.size : Int)
              ·rw [if_pos c33] at H
               have c33b0 : decide ((ji31) < (a0.size : Int)) = true := decide_eq_true c33
               clear c33
               replace H := Option.bind_eq_some_iff.mp H
               obtain ⟨t105, A350, H⟩ := H
               replace H : (if 0 ≤ (wrap64 (a1 + 3)) then (if (wrap64 (a1 + 3)) < (a0.size : Int) then ((Qba.f kj17 (bt a0 (wrap64 (a1 + 3)))).bind fun t106 => (some ((wrap64 ((wrap64 (16 * t105)) + t106)) % 256, wrap64 (a1 + 4)))) else (none)) else (none)) = some (r1, r2) := H
               have A35 := J0.m A350
               clear A350
               try clear hji26
               try clear hji26w
               obtain ⟨ji36, hji36⟩ : ∃ j_ : Int, (wrap64 (a1 + 3)) = j_ := ⟨_, rfl⟩
               replace H : (if 0 ≤ (ji36) then (if (ji36) < (a0.size : Int) then ((Qba.f kj17 (bt a0 (ji36))).bind fun t106 => (some ((wrap64 ((wrap64 (16 * t105)) + t106)) % 256, wrap64 (a1 + 4)))) else (none)) else (none)) = some (r1, r2) := by first | (rw [hji36] at H; exact H) | (simp only [hji36] at H ⊢; exact H)
               (try rw [hji36] at A35)
               have hji36w : (IntKind.i64.wrap (a1 + 3)) = ji36 := (Qbj _).trans hji36
               by_cases c37 : 0 ≤ (ji36)
               ·rw [if_pos c37] at H
                have c37b0 : decide (0 ≤ (ji36)) = true := decide_eq_true c37
                clear c37
                by_cases c38 : (ji36) < (a0.size : Int)
                ·rw [if_pos c38] at H
                 have c38b0 : decide ((ji36) < (a0.size : Int)) = true := decide_eq_true c38
                 clear c38
                 replace H := Option.bind_eq_some_iff.mp H
                 obtain ⟨t106, A400, H⟩ := H
                 replace H : (some ((wrap64 ((wrap64 (16 * t105)) + t106)) % 256, wrap64 (a1 + 4))) = some (r1, r2) := H
                 have A40 := J0.m A400
                 clear A400
                 simp only [Option.some.injEq, Prod.mk.injEq] at H
                 obtain ⟨rfl, rfl⟩ := H
                 have p34 : 0 ≤ ((ji31) : Int) := dQ
                 have q34 : (ji31) < (a0.size : Int) := dQ
                 have hx34 := Qb2 a0 (ji31)
                 replace p34 := eq_true p34
                 replace q34 := eq_true q34
                 go_wp2_with (first | (go_at_call 89; (with_reducible refine (Qba.calls kj17 (bt a0 (ji31)) t105 _ A35.o).mono ?_); rintro e w' ⟨rfl, ⟨nd, rfl⟩⟩; (try first | exact ⟨rfl, _, World.drewN_drewN _ _ _⟩ | exact ⟨rfl, _, Eq.trans (World.drewN_drewN _ _ _) (congrArg (World.drewN _) (Nat.add_assoc _ _ _))⟩); have p39 : 0 ≤ ((ji36) : Int) := dQ; have q39 : (ji36) < (a0.size : Int) := dQ; have hx39 := Qb2 a0 (ji36); replace p39 := eq_true p39; replace q39 := eq_true q39) | (go_at_call 89; (with_reducible refine (Qba.calls kj17 (bt a0 (ji36)) t106 _ A40.o).mono ?_); rintro e w' ⟨rfl, ⟨nd, rfl⟩⟩; (try first | exact ⟨rfl, _, World.drewN_drewN _ _ _⟩ | exact ⟨rfl, _, Eq.trans (World.drewN_drewN _ _ _) (congrArg (World.drewN _) (Nat.add_assoc _ _ _))⟩)))
                 repeat (go_quiet (first | (go_at_call 89; (with_reducible refine (Qba.calls kj17 (bt a0 (ji31)) t105 _ A35.o).mono ?_); rintro e w' ⟨rfl, ⟨nd, rfl⟩⟩; (try first | exact ⟨rfl, _, World.drewN_drewN _ _ _⟩ | exact ⟨rfl, _, Eq.trans (World.drewN_drewN _ _ _) (congrArg (World.drewN _) (Nat.add_assoc _ _ _))⟩); have p39 : 0 ≤ ((ji36) : Int) := dQ; have q39 : (ji36) < (a0.size : Int) := dQ; have hx39 := Qb2 a0 (ji36); replace p39 := eq_true p39; replace q39 := eq_true q39) | (go_at_call 89; (with_reducible refine (Qba.calls kj17 (bt a0 (ji36)) t106 _ A40.o).mono ?_); rintro e w' ⟨rfl, ⟨nd, rfl⟩⟩; (try first | exact ⟨rfl, _, World.drewN_drewN _ _ _⟩ | exact ⟨rfl, _, Eq.trans (World.drewN_drewN _ _ _) (congrArg (World.drewN _) (Nat.add_assoc _ _ _))⟩))); try go_wp2_with (first | (go_at_call 89; (with_reducible refine (Qba.calls kj17 (bt a0 (ji31)) t105 _ A35.o).mono ?_); rintro e w' ⟨rfl, ⟨nd, rfl⟩⟩; (try first | exact ⟨rfl, _, World.drewN_drewN _ _ _⟩ | exact ⟨rfl, _, Eq.trans (World.drewN_drewN _ _ _) (congrArg (World.drewN _) (Nat.add_assoc _ _ _))⟩); have p39 : 0 ≤ ((ji36) : Int) := dQ; have q39 : (ji36) < (a0.size : Int) := dQ; have hx39 := Qb2 a0 (ji36); replace p39 := eq_true p39; replace q39 := eq_true q39) | (go_at_call 89; (with_reducible refine (Qba.calls kj17 (bt a0 (ji36)) t106 _ A40.o).mono ?_); rintro e w' ⟨rfl, ⟨nd, rfl⟩⟩; (try first | exact ⟨rfl, _, World.drewN_drewN _ _ _⟩ | exact ⟨rfl, _, Eq.trans (World.drewN_drewN _ _ _) (congrArg (World.drewN _) (Nat.add_assoc _ _ _))⟩))))
                 go_ret2
                 exact ⟨by first | rfl | (simp; done) | (simp [*]; done) | (simp [Qbj, IntKind.wrap_u8]; done) | ((try simp only [← hji4]); (try simp only [← hji31]); (try simp only [← hji36]); (first | rfl | (simp; done))) | (simp [*]; done), dR⟩
                ·rw [if_neg c38] at H
                 exact absurd H (by simp)
               ·rw [if_neg c37] at H
                exact absurd H (by simp)
              ·rw [if_neg c33] at H
               exact absurd H (by simp)
             ·rw [if_neg c32] at H
              exact absurd H (by simp)
            ·replace c30 := Bool.eq_false_iff.mpr c30
             subst c30
             have H1 : (some (0, 0)) = some (r1, r2) := by rw [if_neg (show ¬ (false = true) by decide)] at H; exact H
             clear H
             have H := H1
             clear H1
             simp only [Option.some.injEq, Prod.mk.injEq] at H
             obtain ⟨rfl, rfl⟩ := H
             go_wp2
             repeat (go_quiet (fail); try go_wp2)
             go_ret2
             exact ⟨by first | rfl | (simp; done) | (simp [*]; done) | (simp [Qbj, IntKind.wrap_u8]; done) | ((try simp only [← hji4]); (first | rfl | (simp; done))) | (simp [*]; done), dR⟩
         ·rw [if_neg c17] at H
          have c17b0 : ((bt a0 (ji4)) == 120) = false := beq_eq_false_iff_ne.mpr c17
          have c17b1 : ((bt a0 (ji4)) != 120) = true := bne_iff_ne.mpr c17
          simp only [Option.some.injEq, Prod.mk.injEq] at H
          obtain ⟨rfl, rfl⟩ := H
          go_wp2
          repeat (go_quiet (fail); try go_wp2)
          go_ret2
          exact ⟨by first | rfl | (simp; done) | (simp [*]; done) | (simp [Qbj, IntKind.wrap_u8]; done) | ((try simp only [← hji4]); (first | rfl | (simp; done))) | (simp [*]; done), dR⟩
   ·rw [if_neg c6] at H
    exact absurd H (by simp)
  ·rw [if_neg c5] at H
   exact absurd H (by simp)
mutual
def Qa7.l0 : Nat → ByteArray → Int → List Int → Int → Option (Int × ByteArray × Int × Int × Int × Int × Int)
 | 0, _, _, _, _ => none
 | k + 1, x0, x1, x7, x8 => if x8 < (x0.size : Int) then (if 0 ≤ x8 then (Qa7.j1 k x0 x1 x7 x8 ((bt x0 x8) != 10)) else (none)) else (Qa7.j1 k x0 x1 x7 x8 false)
def Qa7.j1 : Nat → ByteArray → Int → List Int → Int → Bool → Option (Int × ByteArray × Int × Int × Int × Int × Int)
 | 0, _, _, _, _, _ => none
 | k + 1, x0, x1, x7, x8, x22 => if x22 = true then (if 0 ≤ x8 then (if x8 < (x0.size : Int) then (if (bt x0 x8) = 34 then (some (3, strOfNums x7, 0, x1, wrap64 (x8 + 1), 0, 0)) else (if (bt x0 x8) = 92 then ((Qav.f k x0 x8).bind fun bt108 => (if bt108.2 = 0 then (some (0, (⟨#[]⟩ : ByteArray), 0, 0, 0, x8, 82)) else (if x7.length < 140737488355328 then (Qa7.l0 k x0 x1 (x7 ++ [bt108.1]) bt108.2) else (none)))) else (if x7.length < 140737488355328 then (Qa7.l0 k x0 x1 (x7 ++ [bt x0 x8]) (wrap64 (x8 + 1))) else (none)))) else (none)) else (none)) else (some (0, (⟨#[]⟩ : ByteArray), 0, 0, 0, x1, 81))
end
def Qa7.f (k : Nat) (a0 : ByteArray) (a1 : Int) : Option (Int × ByteArray × Int × Int × Int × Int × Int) := Qa7.l0 k a0 a1 ([] : List Int) (wrap64 (a1 + 1))
theorem Qa7.Qe1 : ∀ k, (∀ y0 y1 y2 y3, LeO (Qa7.l0 k y0 y1 y2 y3) (Qa7.l0 (k + 1) y0 y1 y2 y3)) ∧ (∀ y0 y1 y2 y3 y4, LeO (Qa7.j1 k y0 y1 y2 y3 y4) (Qa7.j1 (k + 1) y0 y1 y2 y3 y4))
 | 0 => ⟨fun _ _ _ _ r h => by simp [Qa7.l0] at h, fun _ _ _ _ _ r h => by simp [Qa7.j1] at h⟩
 | k + 1 => by
  obtain ⟨ih0, ih1⟩ := Qa7.Qe1 k
  refine ⟨?_, ?_⟩
  ·intro y0 y1 y2 y3
   unfold Qa7.l0
   repeat' first
   | (with_reducible exact ih0 _ _ _ _)
   | (with_reducible exact ih1 _ _ _ _ _)
   | (with_reducible exact Qav.mono _ _ _)
   | (with_reducible exact LeO.refl _)
   | (with_reducible exact LeO.none _)
   | (with_reducible refine LeO.ite ?_ ?_)
   | (with_reducible refine LeO.bind ?_ (fun _ => ?_))
   | exact ih0 _ _ _ _
   | exact ih1 _ _ _ _ _
   | exact Qav.mono _ _ _
   | exact LeO.none _
   | refine LeO.ite ?_ ?_
   | refine LeO.bind ?_ (fun _ => ?_)
  ·intro y0 y1 y2 y3 y4
   unfold Qa7.j1
   repeat' first
   | (with_reducible exact ih0 _ _ _ _)
   | (with_reducible exact ih1 _ _ _ _ _)
   | (with_reducible exact Qav.mono _ _ _)
   | (with_reducible exact LeO.refl _)
   | (with_reducible exact LeO.none _)
   | (with_reducible refine LeO.ite ?_ ?_)
   | (with_reducible refine LeO.bind ?_ (fun _ => ?_))
   | exact ih0 _ _ _ _
   | exact ih1 _ _ _ _ _
   | exact Qav.mono _ _ _
   | exact LeO.none _
   | refine LeO.ite ?_ ?_
   | refine LeO.bind ?_ (fun _ => ?_)
theorem Qa7.mono : ∀ a0 a1 k, LeO (Qa7.f k a0 a1) (Qa7.f (k + 1) a0 a1) := by
 intro a0 a1 k
 obtain ⟨ih0, ih1⟩ := Qa7.Qe1 k
 unfold Qa7.f
 repeat' first
   | (with_reducible exact ih0 _ _ _ _)
   | (with_reducible exact ih1 _ _ _ _ _)
   | (with_reducible exact Qav.mono _ _ _)
   | (with_reducible exact LeO.refl _)
   | (with_reducible exact LeO.none _)
   | (with_reducible refine LeO.ite ?_ ?_)
   | (with_reducible refine LeO.bind ?_ (fun _ => ?_))
   | exact ih0 _ _ _ _
   | exact ih1 _ _ _ _ _
   | exact Qav.mono _ _ _
   | exact LeO.none _
   | refine LeO.ite ?_ ?_
   | refine LeO.bind ?_ (fun _ => ?_)
theorem Qa7.calls (k : Nat) (a0 : ByteArray) (a1 : Int) (r1 : Int) (r2 : ByteArray) (r3 : Int) (r4 : Int) (r5 : Int) (r6 : Int) (r7 : Int) (w : World) (h : Qa7.f k a0 a1 = some (r1, r2, r3, r4, r5, r6, r7)) :
  Calls Try.prog 58 #[.string a0, .int .i64 a1] w fun e w' => e = .returned (.tuple #[.agg #[.int .i64 r1, .string r2, .int .u64 r3, .int .i64 r4, .int .i64 r5], .int .i64 r6, .int .i64 r7]) ∧ Below w.heap.size w w' := by
 have hu47 := Try.underlying47
 have HB := J0.m (Below.refl w.heap.size w)
 have H : (Qa7.l0 k a0 a1 ([] : List Int) (wrap64 (a1 + 1))) = some (r1, r2, r3, r4, r5, r6, r7) := h
 clear h
 have H' := J0.m H
 clear H
 go_enter Try.func58, Try.ntmps58
 go_wp2_with (first | ((with_reducible refine Qb0 (N := 4) rfl ?_); refine Qbu ?hg (N := 4) ?hd (cs := zT0) (t := 47) ?hr ?_; (case hd => rfl); (case hg => rfl); (case hr => first | (go_simp; done) | (go_simp; rfl)); intro gb107 hg w3 hbox hb; have n0_ := J0.m (Qak bR hb); have n1_ := J0.m (hbox); have n2_ := J0.m ((by rw [hg]; exact (Qbd bR) : w.heap.size ≤ gb107)); have n3_ := n2_; clear HB; have HB := n0_; have BK107 := n1_; have GW107 := n2_; have GE107 := n3_; clear n0_ n1_ n2_ n3_; clear hb hbox hg))
 go_loopg [7, 8] k (fun kq v7 v8 w' => ∃ (x7_1 : List Int) (x8_1 : Int) (x108000_1 : Int) (x108001_1 : ByteArray) (x108002_1 : Int) (x108003_1 : Int) (x108004_1 : Int), v8 = .int .i64 x8_1 ∧ J0 (Qa7.l0 kq a0 a1 x7_1 x8_1 = some (r1, r2, r3, r4, r5, r6, r7)) ∧ J0 (kq ≤ k) ∧ J0 (Kd.R (Kd.int .u8) 5 w' w.heap.size (fun _ => True) v7 x7_1) ∧ J0 (w'.heap[gb107]? = some (.cells #[.int .i64 x108000_1, .string x108001_1, .int .u64 x108002_1, .int .i64 x108003_1, .int .i64 x108004_1] 47 (0, 0))) ∧ J0 (Below w.heap.size w w'))
 case atStart => exact ⟨(([] : List Int)), (wrap64 (a1 + 1)), (0), ((⟨#[]⟩ : ByteArray)), (0), (0), (0), (by first | rfl | (simp; done) | (simp [*]; done)), H', ⟨Nat.le_refl _⟩, ⟨by first | exact Kd.Qdd _ _ _ _ _ | exact Kd.Qkg _ _ _ _ _ | exact Kd.Qkc _ _ _ _ _ | exact Kd.Qkf _ _ _ _ _ | exact Kd.Qkd _ _ _ _ _⟩, ⟨by (with_reducible repeat (first | apply Qag | apply Qai | apply Qah)); exact BK107.o⟩, ⟨by repeat (first | (with_reducible first | exact HB.o | apply Qab | apply Qad | apply Qaf | refine Qan ?_ GE107.o) | exact HB.o)⟩⟩
 case round =>
  clear H'
  try clear p2
  obtain ⟨x7_1, x8_1, x108000_1, x108001_1, x108002_1, x108003_1, x108004_1, rfl, HA, HK1, HO_7, BK107, HB⟩ := hrel
  cases gk with
  | zero => exact absurd HA.o (by simp [Qa7.l0])
  | succ k1 =>
   have H := HA.o
   clear HA
   simp only [Qa7.l0] at H
   have HC4 := J0.m H
   clear H
   go_upto_region 3 with (fail)
   go_cut [22] (fun v22 wc => ∃ (kq : Nat) (x22_3 : Bool), v22 = .bool x22_3 ∧ J0 (Qa7.j1 kq a0 a1 x7_1 x8_1 x22_3 = some (r1, r2, r3, r4, r5, r6, r7)) ∧ J0 (kq ≤ k1) ∧ J0 (Kd.R (Kd.int .u8) 5 wc w.heap.size (fun _ => True) u7 x7_1) ∧ J0 (wc.heap[gb107]? = some (.cells #[.int .i64 x108000_1, .string x108001_1, .int .u64 x108002_1, .int .i64 x108003_1, .int .i64 x108004_1] 47 (0, 0))) ∧ J0 (Below w.heap.size w wc))
   case first =>
    have H := HC4.o
    clear HC4
    by_cases c5 : x8_1 < (a0.size : Int)
    ·rw [if_pos c5] at H
     have c5b0 : decide (x8_1 < (a0.size : Int)) = true := decide_eq_true c5
     clear c5
     (first | rw [c5b0] | (simp only [Qbj, Qbp]; rw [c5b0]) | skip)
     by_cases c6 : 0 ≤ x8_1
     ·rw [if_pos c6] at H
      have c6b0 : decide (0 ≤ x8_1) = true := decide_eq_true c6
      clear c6
      have H' := J0.m H
      clear H
      have p7 : 0 ≤ (x8_1 : Int) := dQ
      have q7 : x8_1 < (a0.size : Int) := dQ
      have hx7 := Qb2 a0 x8_1
      replace p7 := eq_true p7
      replace q7 := eq_true q7
      go_wp2
      go_meet
      case rel => exact ⟨_, (((bt a0 x8_1) != 10)), (by first | rfl | (simp; done) | (simp [*]; done)), H', ⟨by have := HK1.o; first | omega | exact Nat.le_refl _⟩, ⟨by (with_reducible repeat (first | apply Kd.Qb8 | apply Kd.Qb7 | apply Kd.Qcl)); exact HO_7.o⟩, ⟨by (with_reducible repeat (first | apply Qag | apply Qai | apply Qah)); exact BK107.o⟩, ⟨by repeat (first | (with_reducible first | exact HB.o | apply Qab | apply Qad | apply Qaf | refine Qan ?_ GE107.o) | exact HB.o)⟩⟩
     ·rw [if_neg c6] at H
      exact absurd H (by simp)
    ·rw [if_neg c5] at H
     have c5b0 : decide (x8_1 < (a0.size : Int)) = false := decide_eq_false c5
     clear c5
     (first | rw [c5b0] | (simp only [Qbj, Qbp]; rw [c5b0]) | skip)
     have H' := J0.m H
     clear H
     go_wp2
     go_meet
     case rel => exact ⟨_, (false), (by first | rfl | (simp; done) | (simp [*]; done)), H', ⟨by have := HK1.o; first | omega | exact Nat.le_refl _⟩, ⟨by (with_reducible repeat (first | apply Kd.Qb8 | apply Kd.Qb7 | apply Kd.Qcl)); exact HO_7.o⟩, ⟨by (with_reducible repeat (first | apply Qag | apply Qai | apply Qah)); exact BK107.o⟩, ⟨by repeat (first | (with_reducible first | exact HB.o | apply Qab | apply Qad | apply Qaf | refine Qan ?_ GE107.o) | exact HB.o)⟩⟩
   case rest =>
    clear HC4
    try clear p2
    try clear c5
    try clear c5b0
    try clear c6
    try clear c6b0
    try clear p6
    try clear p7
    try clear q7
    try clear hx7
    try clear p2
    try clear p7
    try clear q7
    obtain ⟨kq, x22_3, rfl, HA, HJ3, HO_7, BK107, HB⟩ := hcut
    cases kq with
    | zero => exact absurd HA.o (by simp [Qa7.j1])
    | succ kj3 =>
     have H := HA.o
     clear HA
     simp only [Qa7.j1] at H
     by_cases c8 : x22_3 = true
     ·subst c8
      have H1 : (if 0 ≤ x8_1 then (if x8_1 < (a0.size : Int) then (if (bt a0 x8_1) = 34 then (some (3, strOfNums x7_1, 0, a1, wrap64 (x8_1 + 1), 0, 0)) else (if (bt a0 x8_1) = 92 then ((Qav.f kj3 a0 x8_1).bind fun bt108 => (if bt108.2 = 0 then (some (0, (⟨#[]⟩ : ByteArray), 0, 0, 0, x8_1, 82)) else (if x7_1.length < 140737488355328 then (Qa7.l0 kj3 a0 a1 (x7_1 ++ [bt108.1]) bt108.2) else (none)))) else (if x7_1.length < 140737488355328 then (Qa7.l0 kj3 a0 a1 (x7_1 ++ [bt a0 x8_1]) (wrap64 (x8_1 + 1))) else (none)))) else (none)) else (none)) = some (r1, r2, r3, r4, r5, r6, r7) := by rw [if_pos rfl] at H; exact H
      clear H
      have H := H1
      clear H1
      by_cases c9 : 0 ≤ x8_1
      ·rw [if_pos c9] at H
       have c9b0 : decide (0 ≤ x8_1) = true := decide_eq_true c9
       clear c9
       by_cases c10 : x8_1 < (a0.size : Int)
       ·rw [if_pos c10] at H
        have c10b0 : decide (x8_1 < (a0.size : Int)) = true := decide_eq_true c10
        clear c10
        by_cases c12 : (bt a0 x8_1) = 34
        ·rw [if_pos c12] at H
         have c12b0 : ((bt a0 x8_1) == 34) = true := beq_iff_eq.mpr c12
         have c12b1 : ((bt a0 x8_1) != 34) = false := bne_eq_false_iff_eq.mpr c12
         clear c12
         simp only [Option.some.injEq, Prod.mk.injEq] at H
         obtain ⟨rfl, rfl, rfl, rfl, rfl, rfl, rfl⟩ := H
         have p11 : 0 ≤ (x8_1 : Int) := dQ
         have q11 : x8_1 < (a0.size : Int) := dQ
         have hx11 := Qb2 a0 x8_1
         replace p11 := eq_true p11
         replace q11 := eq_true q11
         have hcv13 := Qit (P := Try.prog) Try.underlying36 Try.underlying5 Try.underlying9 (Kd.Qlv HO_7.o)
         have hcz14_0 : wc.cell? ⟨gb107, 0, none⟩ = some (.int .i64 x108000_1) := (Qac BK107.o 0).trans rfl
         have hcz14_1 : wc.cell? ⟨gb107, 1, none⟩ = some (.string x108001_1) := (Qac BK107.o 1).trans rfl
         have hcz14_2 : wc.cell? ⟨gb107, 2, none⟩ = some (.int .u64 x108002_1) := (Qac BK107.o 2).trans rfl
         have hcz14_3 : wc.cell? ⟨gb107, 3, none⟩ = some (.int .i64 x108003_1) := (Qac BK107.o 3).trans rfl
         have hcz14_4 : wc.cell? ⟨gb107, 4, none⟩ = some (.int .i64 x108004_1) := (Qac BK107.o 4).trans rfl
         have hfz14_0 := Qaa BK107.o 0
         have hfz14_1 := Qaa BK107.o 1
         have hfz14_2 := Qaa BK107.o 2
         have hfz14_3 := Qaa BK107.o 3
         have hfz14_4 := Qaa BK107.o 4
         go_wp2
         refine bodyPost_ret (Qbc rfl _ _ gb107 47 #[.int .i64 3, .string (strOfNums x7_1), .int .u64 0, .int .i64 a1, .int .i64 (wrap64 (x8_1 + 1))] (0, 0) _ rfl (by (with_reducible repeat (first | apply Qag | apply Qai | apply Qah)); apply sv5; (with_reducible repeat (first | apply Qag | apply Qai | apply Qah)); exact BK107.o) Try.underlying47 rfl (by kernel_rfl)) rfl ?_
         exact ⟨by first | rfl | (simp [Qax, Qaw] <;> rfl) | (simp [*, Qax, Qaw] <;> rfl), by repeat (first | (with_reducible first | exact HB.o | apply Qab | apply Qad | apply Qaf | refine Qan ?_ GE107.o) | exact HB.o)⟩
        ·rw [if_neg c12] at H
         have c12b0 : ((bt a0 x8_1) == 34) = false := beq_eq_false_iff_ne.mpr c12
         have c12b1 : ((bt a0 x8_1) != 34) = true := bne_iff_ne.mpr c12
         by_cases c15 : (bt a0 x8_1) = 92
         ·rw [if_pos c15] at H
          have c15b0 : ((bt a0 x8_1) == 92) = true := beq_iff_eq.mpr c15
          have c15b1 : ((bt a0 x8_1) != 92) = false := bne_eq_false_iff_eq.mpr c15
          clear c15
          replace H := Option.bind_eq_some_iff.mp H
          obtain ⟨⟨t108, t109⟩, A160, H⟩ := H
          replace H : (if t109 = 0 then (some (0, (⟨#[]⟩ : ByteArray), 0, 0, 0, x8_1, 82)) else (if x7_1.length < 140737488355328 then (Qa7.l0 kj3 a0 a1 (x7_1 ++ [t108]) t109) else (none))) = some (r1, r2, r3, r4, r5, r6, r7) := H
          have A16 := J0.m A160
          clear A160
          by_cases c17 : t109 = 0
          ·rw [if_pos c17] at H
           have c17b0 : (t109 == 0) = true := beq_iff_eq.mpr c17
           have c17b1 : (t109 != 0) = false := bne_eq_false_iff_eq.mpr c17
           clear c17
           simp only [Option.some.injEq, Prod.mk.injEq] at H
           obtain ⟨rfl, rfl, rfl, rfl, rfl, rfl, rfl⟩ := H
           have p11 : 0 ≤ (x8_1 : Int) := dQ
           have q11 : x8_1 < (a0.size : Int) := dQ
           have hx11 := Qb2 a0 x8_1
           replace p11 := eq_true p11
           replace q11 := eq_true q11
           go_wp2_with (first | ((with_reducible refine Qat (f := 80) rfl ?_); refine Qbt (some 47) rfl rfl Try.func80 (by kernel_rfl) rfl #[.string a0, .int .i64 x8_1] rfl mQ ?_; (with_reducible refine (Qav.calls kj3 a0 x8_1 t108 t109 _ A16.o).mono ?_); rintro e w' ⟨rfl, ⟨nd, rfl⟩⟩; refine ⟨_, rfl, ?_⟩; (try (rw [Qb6 wc]; generalize hq_ : World.drewN wc _ = wc; have n0_ : J0 (Kd.R (Kd.int .u8) 5 wc w.heap.size (fun _ => True) u7 x7_1) := ⟨by rw [← hq_]; exact (by (with_reducible repeat (first | apply Kd.Qb8 | apply Kd.Qb7 | apply Kd.Qcl)); exact HO_7.o)⟩; have n1_ : J0 (wc.heap[gb107]? = some (.cells #[.int .i64 x108000_1, .string x108001_1, .int .u64 x108002_1, .int .i64 x108003_1, .int .i64 x108004_1] 47 (0, 0))) := ⟨by rw [← hq_]; exact (by (with_reducible repeat (first | apply Qag | apply Qai | apply Qah)); exact BK107.o)⟩; have n2_ : J0 (Below w.heap.size w wc) := ⟨by rw [← hq_]; exact (by repeat (first | (with_reducible first | exact HB.o | apply Qab | apply Qad | apply Qaf | refine Qan ?_ GE107.o) | exact HB.o))⟩; clear HO_7 BK107 HB hq_; have HO_7 := n0_; have BK107 := n1_; have HB := n2_; clear n0_ n1_ n2_)); obtain ⟨hcz18_0, hcz18_1, hcz18_2, hcz18_3, hcz18_4⟩ := (bx5 BK107.o); have hfz18_0 := Qaa BK107.o 0; have hfz18_1 := Qaa BK107.o 1; have hfz18_2 := Qaa BK107.o 2; have hfz18_3 := Qaa BK107.o 3; have hfz18_4 := Qaa BK107.o 4))
           refine bodyPost_ret (Qbc rfl _ _ gb107 47 #[.int .i64 0, .string ⟨#[]⟩, .int .u64 0, .int .i64 0, .int .i64 0] (0, 0) _ rfl (by (with_reducible repeat (first | apply Qag | apply Qai | apply Qah)); apply sv5; (with_reducible repeat (first | apply Qag | apply Qai | apply Qah)); exact BK107.o) Try.underlying47 rfl (by kernel_rfl)) rfl ?_
           exact ⟨by first | rfl | (simp [Qax, Qaw] <;> rfl) | (simp [*, Qax, Qaw] <;> rfl), by repeat (first | (with_reducible first | exact HB.o | apply Qab | apply Qad | apply Qaf | refine Qan ?_ GE107.o) | exact HB.o)⟩
          ·rw [if_neg c17] at H
           have c17b0 : (t109 == 0) = false := beq_eq_false_iff_ne.mpr c17
           have c17b1 : (t109 != 0) = true := bne_iff_ne.mpr c17
           by_cases c19 : x7_1.length < 140737488355328
           ·rw [if_pos c19] at H
            have LMc19 := J0.m c19
            clear c19
            obtain ⟨y110, hy110⟩ : ∃ y_ : List Int, y_ = (x7_1 ++ [t108]) := ⟨_, rfl⟩
            replace H : (Qa7.l0 kj3 a0 a1 y110 t109) = some (r1, r2, r3, r4, r5, r6, r7) := by first | (rw [hy110]; with_reducible exact H) | (have H2_ := (Option.bind_some _ _).symm.trans H; rw [hy110]; with_reducible exact H2_) | (have H2_ := (Option.bind_some _ _).symm.trans H; with_reducible exact H2_) | with_reducible exact H | (rw [hy110]; exact H) | exact H
            have Ny110 := J0.m hy110
            clear hy110
            have H' := J0.m H
            clear H
            have p11 : 0 ≤ (x8_1 : Int) := dQ
            have q11 : x8_1 < (a0.size : Int) := dQ
            have hx11 := Qb2 a0 x8_1
            replace p11 := eq_true p11
            replace q11 := eq_true q11
            go_wp2_with (first | ((with_reducible refine Qat (f := 80) rfl ?_); refine Qbt (some 47) rfl rfl Try.func80 (by kernel_rfl) rfl #[.string a0, .int .i64 x8_1] rfl mQ ?_; (with_reducible refine (Qav.calls kj3 a0 x8_1 t108 t109 _ A16.o).mono ?_); rintro e w' ⟨rfl, ⟨nd, rfl⟩⟩; refine ⟨_, rfl, ?_⟩) | ((with_reducible refine Qcu (b := .append) (xs := #[.tmp 54, .tmp 56]) rfl ?_); at_builtin; refine Kd.Qem (Kd.int .u8) (w0 := w) w.heap.size rfl (.tmp 54) (.tmp 56) 36 5 (.int .u8 0) 1 rfl Try.underlying36 info5 rfl (by decide) (by omega) u7 x7_1 t108 [.int .u8 t108] (fun _ => True) (fun _ => False) rfl rfl ?aP (fun _ hk => hk.elim) ?aF ?aO ?aB ?aS ?aL ?_; (case aP => exact rfl); (case aB => exact (by repeat (first | (with_reducible first | exact HB.o | apply Qab | apply Qad | apply Qaf | refine Qan ?_ GE107.o) | exact HB.o))); (case aF => exact (fun _ _ => trivial)); (case aO => exact (by (with_reducible repeat (first | apply Kd.Qb8 | apply Kd.Qb7 | apply Kd.Qcl)); exact HO_7.o)); (case aS => exact (Qbd (by repeat (first | (with_reducible first | exact HB.o | apply Qab | apply Qad | apply Qaf | refine Qan ?_ GE107.o) | exact HB.o)))); (case aL => have := LMc19.o; omega); intro v111 w20 ho hb hg hat; rw [← Ny110.o] at ho; have n0_ := J0.m (Qbh (g := gb107) (o := .cells #[.int .i64 x108000_1, .string x108001_1, .int .u64 x108002_1, .int .i64 x108003_1, .int .i64 x108004_1] 47 (0, 0)) (by (with_reducible repeat (first | apply Qag | apply Qai | apply Qah)); exact BK107.o) hg (Kd.R_ne HO_7.o BK107.o (by decide))); have n1_ := J0.m (hb); have n2_ := J0.m (ho); clear BK107; clear HB; clear HO_7; have BK107 := n0_; have HB := n1_; have HO112 := n2_; clear n0_ n1_ n2_; clear ho hb hg hat))
            go_roundg kj3
            case measure => have := HK1.o; have := HJ3.o; omega
            case rel => exact ⟨(y110), (t109), (x108000_1), (x108001_1), (x108002_1), (x108003_1), (x108004_1), (by first | rfl | (simp; done) | (simp [*]; done)), H', ⟨by have := HK1.o; have := HJ3.o; omega⟩, ⟨by (with_reducible repeat (first | apply Kd.Qb8 | apply Kd.Qb7 | apply Kd.Qcl)); exact HO112.o⟩, ⟨by (with_reducible repeat (first | apply Qag | apply Qai | apply Qah)); exact BK107.o⟩, ⟨by repeat (first | (with_reducible first | exact HB.o | apply Qab | apply Qad | apply Qaf | refine Qan ?_ GE107.o) | exact HB.o)⟩⟩
           ·rw [if_neg c19] at H
            exact absurd H (by simp)
         ·rw [if_neg c15] at H
          have c15b0 : ((bt a0 x8_1) == 92) = false := beq_eq_false_iff_ne.mpr c15
          have c15b1 : ((bt a0 x8_1) != 92) = true := bne_iff_ne.mpr c15
          by_cases c22 : x7_1.length < 140737488355328
          ·rw [if_pos c22] at H
           have LMc22 := J0.m c22
           clear c22
           obtain ⟨y113, hy113⟩ : ∃ y_ : List Int, y_ = (x7_1 ++ [bt a0 x8_1]) := ⟨_, rfl⟩
           replace H : (Qa7.l0 kj3 a0 a1 y113 (wrap64 (x8_1 + 1))) = some (r1, r2, r3, r4, r5, r6, r7) := by first | (rw [hy113]; with_reducible exact H) | (have H2_ := (Option.bind_some _ _).symm.trans H; rw [hy113]; with_reducible exact H2_) | (have H2_ := (Option.bind_some _ _).symm.trans H; with_reducible exact H2_) | with_reducible exact H | (rw [hy113]; exact H) | exact H
           have Ny113 := J0.m hy113
           clear hy113
           have H' := J0.m H
           clear H
           have p11 : 0 ≤ (x8_1 : Int) := dQ
           have q11 : x8_1 < (a0.size : Int) := dQ
           have hx11 := Qb2 a0 x8_1
           replace p11 := eq_true p11
           replace q11 := eq_true q11
           have p21 : 0 ≤ (x8_1 : Int) := dQ
           have q21 : x8_1 < (a0.size : Int) := dQ
           have hx21 := Qb2 a0 x8_1
           replace p21 := eq_true p21
           replace q21 := eq_true q21
           go_wp2_with (first | ((with_reducible refine Qcu (b := .append) (xs := #[.tmp 26, .tmp 30]) rfl ?_); at_builtin; refine Kd.Qem (Kd.int .u8) (w0 := w) w.heap.size rfl (.tmp 26) (.tmp 30) 36 5 (.int .u8 0) 1 rfl Try.underlying36 info5 rfl (by decide) (by omega) u7 x7_1 (bt a0 x8_1) [.int .u8 (bt a0 x8_1)] (fun _ => True) (fun _ => False) rfl rfl ?aP (fun _ hk => hk.elim) ?aF ?aO ?aB ?aS ?aL ?_; (case aP => exact rfl); (case aB => exact (by repeat (first | (with_reducible first | exact HB.o | apply Qab | apply Qad | apply Qaf | refine Qan ?_ GE107.o) | exact HB.o))); (case aF => exact (fun _ _ => trivial)); (case aO => exact (by (with_reducible repeat (first | apply Kd.Qb8 | apply Kd.Qb7 | apply Kd.Qcl)); exact HO_7.o)); (case aS => exact (Qbd (by repeat (first | (with_reducible first | exact HB.o | apply Qab | apply Qad | apply Qaf | refine Qan ?_ GE107.o) | exact HB.o)))); (case aL => have := LMc22.o; omega); intro v114 w23 ho hb hg hat; rw [← Ny113.o] at ho; have n0_ := J0.m (Qbh (g := gb107) (o := .cells #[.int .i64 x108000_1, .string x108001_1, .int .u64 x108002_1, .int .i64 x108003_1, .int .i64 x108004_1] 47 (0, 0)) (by (with_reducible repeat (first | apply Qag | apply Qai | apply Qah)); exact BK107.o) hg (Kd.R_ne HO_7.o BK107.o (by decide))); have n1_ := J0.m (hb); have n2_ := J0.m (ho); clear BK107; clear HB; clear HO_7; have BK107 := n0_; have HB := n1_; have HO115 := n2_; clear n0_ n1_ n2_; clear ho hb hg hat))
           go_roundg kj3
           case measure => have := HK1.o; have := HJ3.o; omega
           case rel => exact ⟨(y113), (wrap64 (x8_1 + 1)), (x108000_1), (x108001_1), (x108002_1), (x108003_1), (x108004_1), (by first | rfl | (simp; done) | (simp [*]; done)), H', ⟨by have := HK1.o; have := HJ3.o; omega⟩, ⟨by (with_reducible repeat (first | apply Kd.Qb8 | apply Kd.Qb7 | apply Kd.Qcl)); exact HO115.o⟩, ⟨by (with_reducible repeat (first | apply Qag | apply Qai | apply Qah)); exact BK107.o⟩, ⟨by repeat (first | (with_reducible first | exact HB.o | apply Qab | apply Qad | apply Qaf | refine Qan ?_ GE107.o) | exact HB.o)⟩⟩
          ·rw [if_neg c22] at H
           exact absurd H (by simp)
       ·rw [if_neg c10] at H
        exact absurd H (by simp)
      ·rw [if_neg c9] at H
       exact absurd H (by simp)
     ·replace c8 := Bool.eq_false_iff.mpr c8
      subst c8
      have H1 : (some (0, (⟨#[]⟩ : ByteArray), 0, 0, 0, a1, 81)) = some (r1, r2, r3, r4, r5, r6, r7) := by rw [if_neg (show ¬ (false = true) by decide)] at H; exact H
      clear H
      have H := H1
      clear H1
      simp only [Option.some.injEq, Prod.mk.injEq] at H
      obtain ⟨rfl, rfl, rfl, rfl, rfl, rfl, rfl⟩ := H
      have hcz24_0 : wc.cell? ⟨gb107, 0, none⟩ = some (.int .i64 x108000_1) := (Qac BK107.o 0).trans rfl
      have hcz24_1 : wc.cell? ⟨gb107, 1, none⟩ = some (.string x108001_1) := (Qac BK107.o 1).trans rfl
      have hcz24_2 : wc.cell? ⟨gb107, 2, none⟩ = some (.int .u64 x108002_1) := (Qac BK107.o 2).trans rfl
      have hcz24_3 : wc.cell? ⟨gb107, 3, none⟩ = some (.int .i64 x108003_1) := (Qac BK107.o 3).trans rfl
      have hcz24_4 : wc.cell? ⟨gb107, 4, none⟩ = some (.int .i64 x108004_1) := (Qac BK107.o 4).trans rfl
      have hfz24_0 := Qaa BK107.o 0
      have hfz24_1 := Qaa BK107.o 1
      have hfz24_2 := Qaa BK107.o 2
      have hfz24_3 := Qaa BK107.o 3
      have hfz24_4 := Qaa BK107.o 4
      go_wp2
      refine bodyPost_ret (Qbc rfl _ _ gb107 47 #[.int .i64 0, .string ⟨#[]⟩, .int .u64 0, .int .i64 0, .int .i64 0] (0, 0) _ rfl (by (with_reducible repeat (first | apply Qag | apply Qai | apply Qah)); apply sv5; (with_reducible repeat (first | apply Qag | apply Qai | apply Qah)); exact BK107.o) Try.underlying47 rfl (by kernel_rfl)) rfl ?_
      exact ⟨by first | rfl | (simp [Qax, Qaw] <;> rfl) | (simp [*, Qax, Qaw] <;> rfl), by repeat (first | (with_reducible first | exact HB.o | apply Qab | apply Qad | apply Qaf | refine Qan ?_ GE107.o) | exact HB.o)⟩
end Go.Proofs.Ytbdcndkafaajpaa.X
end
section
namespace Go.Proofs.Ytbdcndkafaajpaa.X
open Go.RowKit YtbdcndkafaajpaaW.PrintWords YtbdcndkafaajpaaW.PrintLast YtbdcndkafaajpaaW.PrintMore
attribute [local go_sem] Qdz Qdx Qes Qer Qdm Qdl Qdy Qdw
def Qbx.f (k : Nat) (a0 : ByteArray) (a1 : Int) : Option (Int × ByteArray × Int × Int × Int × Int × Int) := if 0 ≤ a1 then (if a1 < (a0.size : Int) then ((Qbr.f (bt a0 a1)).bind fun t118 => (if t118 = true then ((Qda.f a0 a1 55).bind fun t119 => (if a1 ≤ t119 then (if t119 ≤ (a0.size : Int) then (if ((a0.extract (a1 : Int).toNat (t119 : Int).toNat).size : Int) > 64 then (some (1, a0.extract (a1 : Int).toNat (t119 : Int).toNat, 0, a1, t119, a1, 111)) else (some (1, a0.extract (a1 : Int).toNat (t119 : Int).toNat, 0, a1, t119, 0, 0))) else (none)) else (none))) else ((Qbo.f (bt a0 a1)).bind fun t120 => (if t120 = true then ((Qda.f a0 a1 56).bind fun t121 => (if a1 ≤ t121 then (if t121 ≤ (a0.size : Int) then ((Qci.f (a0.extract (a1 : Int).toNat (t121 : Int).toNat)).bind fun bt122 => (if bt122.2 = true then (some (2, (⟨#[]⟩ : ByteArray), bt122.1, a1, t121, 0, 0)) else (some (2, (⟨#[]⟩ : ByteArray), 0, a1, t121, a1, 111)))) else (none)) else (none))) else (if (bt a0 a1) = 34 then ((Qa7.f k a0 a1).bind fun bt124 => (some (bt124.1, bt124.2.1, bt124.2.2.1, bt124.2.2.2.1, bt124.2.2.2.2.1, bt124.2.2.2.2.2.1, bt124.2.2.2.2.2.2))) else ((strings_IndexByte.f (⟨#[123, 125, 40, 41, 58, 59, 44, 61, 43, 45, 42]⟩ : ByteArray) (bt a0 a1)).bind fun t131 => (if t131 ≥ 0 then (if a1 ≤ (wrap64 (a1 + 1)) then (if (wrap64 (a1 + 1)) ≤ (a0.size : Int) then (some (4, a0.extract (a1 : Int).toNat ((wrap64 (a1 + 1)) : Int).toNat, 0, a1, wrap64 (a1 + 1), 0, 0)) else (none)) else (none)) else (some (0, (⟨#[]⟩ : ByteArray), 0, a1, 0, a1, 80))))))))) else (none)) else (none)
theorem Qbx.mono : ∀ a0 a1 k, LeO (Qbx.f k a0 a1) (Qbx.f (k + 1) a0 a1) := by
 intro a0 a1 k
 unfold Qbx.f
 repeat' first
   | (with_reducible exact Qa7.mono _ _ _)
   | (with_reducible exact LeO.refl _)
   | (with_reducible exact LeO.none _)
   | (with_reducible refine LeO.ite ?_ ?_)
   | (with_reducible refine LeO.bind ?_ (fun _ => ?_))
   | exact Qa7.mono _ _ _
   | exact LeO.none _
   | refine LeO.ite ?_ ?_
   | refine LeO.bind ?_ (fun _ => ?_)
def Qbx.T20 : Bool × List (List Nat × List Nat) := (true, [([], []), ([], []), ([], []), ([2], [2]), ([0, 1, 3], [0, 1, 3]), ([], []), ([5], [5]), ([], []), ([7], [7]), ([0, 1, 2, 3, 4, 7, 8], []), ([9, 4, 8, 0, 1, 2, 3, 4, 7, 8], [4, 9]), ([0, 1, 2, 3, 4, 5, 6, 7, 8, 9, 10], []), ([11, 6, 10, 0, 1, 2, 3, 4, 5, 6, 7, 8, 9, 10], [6, 11])])
def Qbx.B20 : List Nat := [0, 0, 0, 4, 15, 0, 32, 0, 128, 415, 927, 2047, 4095]
theorem Qbx.tab20 : rtab .any (opsOf Try.f35 20) = Qbx.T20 := by kernel_rfl
theorem Qbx.bits20 : Qkl Qbx.T20.2 Qbx.B20 = true := by kernel_rfl
theorem Qbx.calls (k : Nat) (a0 : ByteArray) (a1 : Int) (r1 : Int) (r2 : ByteArray) (r3 : Int) (r4 : Int) (r5 : Int) (r6 : Int) (r7 : Int) (w : World) (h : Qbx.f k a0 a1 = some (r1, r2, r3, r4, r5, r6, r7)) :
  Calls Try.prog 35 #[.string a0, .int .i64 a1] w fun e w' => e = .returned (.tuple #[.agg #[.int .i64 r1, .string r2, .int .u64 r3, .int .i64 r4, .int .i64 r5], .int .i64 r6, .int .i64 r7]) ∧ Below w.heap.size w w' := by
 have hu47 := Try.underlying47
 have HB := J0.m (Below.refl w.heap.size w)
 have H : (if 0 ≤ a1 then (if a1 < (a0.size : Int) then ((Qbr.f (bt a0 a1)).bind fun t118 => (if t118 = true then ((Qda.f a0 a1 55).bind fun t119 => (if a1 ≤ t119 then (if t119 ≤ (a0.size : Int) then (if ((a0.extract (a1 : Int).toNat (t119 : Int).toNat).size : Int) > 64 then (some (1, a0.extract (a1 : Int).toNat (t119 : Int).toNat, 0, a1, t119, a1, 111)) else (some (1, a0.extract (a1 : Int).toNat (t119 : Int).toNat, 0, a1, t119, 0, 0))) else (none)) else (none))) else ((Qbo.f (bt a0 a1)).bind fun t120 => (if t120 = true then ((Qda.f a0 a1 56).bind fun t121 => (if a1 ≤ t121 then (if t121 ≤ (a0.size : Int) then ((Qci.f (a0.extract (a1 : Int).toNat (t121 : Int).toNat)).bind fun bt122 => (if bt122.2 = true then (some (2, (⟨#[]⟩ : ByteArray), bt122.1, a1, t121, 0, 0)) else (some (2, (⟨#[]⟩ : ByteArray), 0, a1, t121, a1, 111)))) else (none)) else (none))) else (if (bt a0 a1) = 34 then ((Qa7.f k a0 a1).bind fun bt124 => (some (bt124.1, bt124.2.1, bt124.2.2.1, bt124.2.2.2.1, bt124.2.2.2.2.1, bt124.2.2.2.2.2.1, bt124.2.2.2.2.2.2))) else ((strings_IndexByte.f (⟨#[123, 125, 40, 41, 58, 59, 44, 61, 43, 45, 42]⟩ : ByteArray) (bt a0 a1)).bind fun t131 => (if t131 ≥ 0 then (if a1 ≤ (wrap64 (a1 + 1)) then (if (wrap64 (a1 + 1)) ≤ (a0.size : Int) then (some (4, a0.extract (a1 : Int).toNat ((wrap64 (a1 + 1)) : Int).toNat, 0, a1, wrap64 (a1 + 1), 0, 0)) else (none)) else (none)) else (some (0, (⟨#[]⟩ : ByteArray), 0, a1, 0, a1, 80))))))))) else (none)) else (none)) = some (r1, r2, r3, r4, r5, r6, r7) := h
 clear h
 by_cases c3 : 0 ≤ a1
 ·rw [if_pos c3] at H
  have c3b0 : decide (0 ≤ a1) = true := decide_eq_true c3
  clear c3
  by_cases c4 : a1 < (a0.size : Int)
  ·rw [if_pos c4] at H
   have c4b0 : decide (a1 < (a0.size : Int)) = true := decide_eq_true c4
   clear c4
   replace H := Option.bind_eq_some_iff.mp H
   obtain ⟨t118, A60, H⟩ := H
   replace H : (if t118 = true then ((Qda.f a0 a1 55).bind fun t119 => (if a1 ≤ t119 then (if t119 ≤ (a0.size : Int) then (if ((a0.extract (a1 : Int).toNat (t119 : Int).toNat).size : Int) > 64 then (some (1, a0.extract (a1 : Int).toNat (t119 : Int).toNat, 0, a1, t119, a1, 111)) else (some (1, a0.extract (a1 : Int).toNat (t119 : Int).toNat, 0, a1, t119, 0, 0))) else (none)) else (none))) else ((Qbo.f (bt a0 a1)).bind fun t120 => (if t120 = true then ((Qda.f a0 a1 56).bind fun t121 => (if a1 ≤ t121 then (if t121 ≤ (a0.size : Int) then ((Qci.f (a0.extract (a1 : Int).toNat (t121 : Int).toNat)).bind fun bt122 => (if bt122.2 = true then (some (2, (⟨#[]⟩ : ByteArray), bt122.1, a1, t121, 0, 0)) else (some (2, (⟨#[]⟩ : ByteArray), 0, a1, t121, a1, 111)))) else (none)) else (none))) else (if (bt a0 a1) = 34 then ((Qa7.f k a0 a1).bind fun bt124 => (some (bt124.1, bt124.2.1, bt124.2.2.1, bt124.2.2.2.1, bt124.2.2.2.2.1, bt124.2.2.2.2.2.1, bt124.2.2.2.2.2.2))) else ((strings_IndexByte.f (⟨#[123, 125, 40, 41, 58, 59, 44, 61, 43, 45, 42]⟩ : ByteArray) (bt a0 a1)).bind fun t131 => (if t131 ≥ 0 then (if a1 ≤ (wrap64 (a1 + 1)) then (if (wrap64 (a1 + 1)) ≤ (a0.size : Int) then (some (4, a0.extract (a1 : Int).toNat ((wrap64 (a1 + 1)) : Int).toNat, 0, a1, wrap64 (a1 + 1), 0, 0)) else (none)) else (none)) else (some (0, (⟨#[]⟩ : ByteArray), 0, a1, 0, a1, 80)))))))) = some (r1, r2, r3, r4, r5, r6, r7) := H
   have A6 := J0.m A60
   clear A60
   by_cases c7 : t118 = true
   ·subst c7
    have H1 : ((Qda.f a0 a1 55).bind fun t119 => (if a1 ≤ t119 then (if t119 ≤ (a0.size : Int) then (if ((a0.extract (a1 : Int).toNat (t119 : Int).toNat).size : Int) > 64 then (some (1, a0.extract (a1 : Int).toNat (t119 : Int).toNat, 0, a1, t119, a1, 111)) else (some (1, a0.extract (a1 : Int).toNat (t119 : Int).toNat, 0, a1, t119, 0, 0))) else (none)) else (none))) = some (r1, r2, r3, r4, r5, r6, r7) := by rw [if_pos rfl] at H; exact H
    clear H
    have H := H1
    clear H1
    replace H := Option.bind_eq_some_iff.mp H
    obtain ⟨t119, A80, H⟩ := H
    replace H : (if a1 ≤ t119 then (if t119 ≤ (a0.size : Int) then (if ((a0.extract (a1 : Int).toNat (t119 : Int).toNat).size : Int) > 64 then (some (1, a0.extract (a1 : Int).toNat (t119 : Int).toNat, 0, a1, t119, a1, 111)) else (some (1, a0.extract (a1 : Int).toNat (t119 : Int).toNat, 0, a1, t119, 0, 0))) else (none)) else (none)) = some (r1, r2, r3, r4, r5, r6, r7) := H
    have A8 := J0.m A80
    clear A80
    have c9b0 := eq_true (dQ : 0 ≤ a1)
    by_cases c10 : a1 ≤ t119
    ·rw [if_pos c10] at H
     have c10b0 := eq_true c10
     have c10b1 : decide (a1 ≤ t119) = true := decide_eq_true c10
     clear c10
     by_cases c11 : t119 ≤ (a0.size : Int)
     ·rw [if_pos c11] at H
      have c11b0 := eq_true c11
      have c11b1 : decide (t119 ≤ (a0.size : Int)) = true := decide_eq_true c11
      clear c11
      by_cases c12 : ((a0.extract (a1 : Int).toNat (t119 : Int).toNat).size : Int) > 64
      ·rw [if_pos c12] at H
       have c12b0 : decide (64 < ((a0.extract (a1 : Int).toNat (t119 : Int).toNat).size : Int)) = true := decide_eq_true c12
       have c12s : decide (64 < (((t119 : Int).toNat - (a1 : Int).toNat : Nat) : Int)) = true := by have z_ : (a0.extract (a1 : Int).toNat (t119 : Int).toNat).size = (t119 : Int).toNat - (a1 : Int).toNat := (by rw [ByteArray.size_extract]; have q_ : (t119 : Int) ≤ (a0.size : Int) := dQ; omega); rw [← z_]; exact c12b0
       have c12b1 : decide (64 < (a0.extract (a1 : Int).toNat (t119 : Int).toNat).size) = true := decide_eq_true (by omega)
       clear c12
       simp only [Option.some.injEq, Prod.mk.injEq] at H
       obtain ⟨rfl, rfl, rfl, rfl, rfl, rfl, rfl⟩ := H
       go_enter Try.func35, Try.ntmps35
       go_wp2_with (first | ((with_reducible refine Qb0 (N := 4) rfl ?_); refine Qbu ?hg (N := 4) ?hd (cs := zT0) (t := 47) ?hr ?_; (case hd => rfl); (case hg => rfl); (case hr => first | (go_simp; done) | (go_simp; rfl)); intro gb116 hg w13 hbox hb; have n0_ := J0.m (Qak bR hb); have n1_ := J0.m (hbox); have n2_ := J0.m ((by rw [hg]; exact (Qbd bR) : w.heap.size ≤ gb116)); have n3_ := n2_; clear HB; have HB := n0_; have BK116 := n1_; have GW116 := n2_; have GE116 := n3_; clear n0_ n1_ n2_ n3_; clear hb hbox hg) | ((with_reducible refine Qb0 (N := 7) rfl ?_); refine Qbu ?hg (N := 7) ?hd (cs := zT0) (t := 47) ?hr ?_; (case hd => rfl); (case hg => rfl); (case hr => first | (go_simp; done) | (go_simp; rfl)); intro gb117 hg w14 hbox hb; have n0_ := J0.m (Qae (g := gb116) (o := .cells #[.int .i64 0, .string ⟨#[]⟩, .int .u64 0, .int .i64 0, .int .i64 0] 47 (0, 0)) (by (with_reducible repeat (first | apply Qag | apply Qai | apply Qah)); exact BK116.o) hb); have n1_ := J0.m (Qak (by repeat (first | (with_reducible first | exact HB.o | apply Qab | apply Qad | apply Qaf | refine Qan ?_ GE116.o) | exact HB.o)) hb); have n2_ := J0.m (hbox); have n3_ := J0.m ((by rw [hg]; exact (Qbd (by repeat (first | (with_reducible first | exact HB.o | apply Qab | apply Qad | apply Qaf | refine Qan ?_ GE116.o) | exact HB.o))) : w.heap.size ≤ gb117)); have n4_ := n3_; have n5_ := J0.m ((by rw [hg]; exact Nat.ne_of_lt (Qb3 (g := gb116) (o := .cells #[.int .i64 0, .string ⟨#[]⟩, .int .u64 0, .int .i64 0, .int .i64 0] 47 (0, 0)) (by (with_reducible repeat (first | apply Qag | apply Qai | apply Qah)); exact BK116.o)) : gb116 ≠ gb117)); have n6_ := J0.m ((by rw [hg]; exact Nat.ne_of_gt (Qb3 (g := gb116) (o := .cells #[.int .i64 0, .string ⟨#[]⟩, .int .u64 0, .int .i64 0, .int .i64 0] 47 (0, 0)) (by (with_reducible repeat (first | apply Qag | apply Qai | apply Qah)); exact BK116.o)) : gb117 ≠ gb116)); clear BK116; clear HB; have BK116 := n0_; have HB := n1_; have BK117 := n2_; have GW117 := n3_; have GE117 := n4_; have NB116_117 := n5_; have NB117_116 := n6_; clear n0_ n1_ n2_ n3_ n4_ n5_ n6_; clear hb hbox hg; have hnb15 := NB117_116.o; have hnc15 := NB116_117.o; obtain ⟨hcz16_0, hcz16_1, hcz16_2, hcz16_3, hcz16_4⟩ := (bx5 BK117.o); have hfz16_0 := Qaa BK117.o 0; have hfz16_1 := Qaa BK117.o 1; have hfz16_2 := Qaa BK117.o 2; have hfz16_3 := Qaa BK117.o 3; have hfz16_4 := Qaa BK117.o 4; have p5 : 0 ≤ (a1 : Int) := dQ; have q5 : a1 < (a0.size : Int) := dQ; have hx5 := Qb2 a0 a1; replace p5 := eq_true p5; replace q5 := eq_true q5) | ((with_reducible refine Qat (f := 53) rfl ?_); refine Qbt (some 20) rfl rfl Try.func53 (by kernel_rfl) rfl #[.int .u8 (bt a0 a1)] rfl mQ ?_; (with_reducible refine (Qbr.calls (bt a0 a1) true _ A6.o).mono ?_); rintro e w' ⟨rfl, ⟨nd, rfl⟩⟩; refine ⟨_, rfl, ?_⟩) | ((with_reducible refine Qat (f := 54) rfl ?_); refine Qbt (some 24) rfl rfl Try.func54 (by kernel_rfl) rfl #[.string a0, .int .i64 a1, .func (.func 55) #[] #[]] rfl mQ ?_; (with_reducible refine (Qda.calls a0 a1 55 t119 _ A8.o).mono ?_); rintro e w99 ⟨rfl, hd99⟩; refine ⟨_, rfl, ?_⟩; have b99 : w99.heap[gb117]? = some (.cells #[.int .i64 1, .string ⟨#[]⟩, .int .u64 0, .int .i64 a1, .int .i64 0] 47 (0, 0)) := (by refine Qg8 hd99 ?_; (with_reducible repeat (first | apply Qag | apply Qai | apply Qah)); refine Qby (cs := #[.int .i64 0, .string ⟨#[]⟩, .int .u64 0, .int .i64 a1, .int .i64 0]) ?_ 0 _ rfl; (with_reducible repeat (first | apply Qag | apply Qai | apply Qah)); apply sv5; (with_reducible repeat (first | apply Qag | apply Qai | apply Qah)); exact BK117.o); have a99 : w99.heap[gb116]? = some (.cells #[.int .i64 0, .string ⟨#[]⟩, .int .u64 0, .int .i64 0, .int .i64 0] 47 (0, 0)) := (by refine Qg8 hd99 ?_; repeat (first | (with_reducible exact BK116.o) | (with_reducible refine Qag ?_ _) | (with_reducible refine Qce ?_ NB116_117.o _))); have hb99 := Qak (show Below w.heap.size w _ from (by repeat (first | (with_reducible first | exact HB.o | apply Qab | apply Qad | apply Qaf | refine Qan ?_ GE117.o) | exact HB.o))) hd99.below; (try clear hcz16_0 hcz16_1 hcz16_2 hcz16_3 hcz16_4 hfz16_0 hfz16_1 hfz16_2 hfz16_3 hfz16_4); clear BK116 BK117 HB hd99; have BK116 := J0.m a99; have BK117 := J0.m b99; have HB := J0.m hb99; have hfy_0 := Qaa b99 0; have hfx_0 := Qaa a99 0; have hfy_1 := Qaa b99 1; have hfx_1 := Qaa a99 1; have hfy_2 := Qaa b99 2; have hfx_2 := Qaa a99 2; have hfy_3 := Qaa b99 3; have hfx_3 := Qaa a99 3; obtain ⟨hcy_0, hcy_1, hcy_2, hcy_3, hcy_4⟩ := (bx5 b99); have hfy_4 := Qaa b99 4; obtain ⟨hcx_0, hcx_1, hcx_2, hcx_3, hcx_4⟩ := (bx5 a99); have hfx_4 := Qaa a99 4; clear a99 b99 hb99))
       refine bodyPost_ret (Qbc rfl _ _ gb116 47 #[.int .i64 1, .string (a0.extract (a1 : Int).toNat (t119 : Int).toNat), .int .u64 0, .int .i64 a1, .int .i64 t119] (0, 0) _ rfl (by (with_reducible repeat (first | apply Qag | apply Qai | apply Qah)); apply sv5; (with_reducible repeat (first | apply Qag | apply Qai | apply Qah)); (repeat (first | (with_reducible exact BK116.o) | (refine Qce ?_ NB116_117.o _; (with_reducible repeat (first | apply Qag | apply Qai | apply Qah))))); done) Try.underlying47 rfl (by kernel_rfl)) rfl ?_
       exact ⟨by first | rfl | (simp [Qax, Qaw] <;> rfl) | (simp [*, Qax, Qaw] <;> rfl), by repeat (first | (with_reducible first | exact HB.o | apply Qab | apply Qad | apply Qaf | refine Qan ?_ GE116.o | refine Qan ?_ GE117.o) | exact HB.o)⟩
      ·rw [if_neg c12] at H
       have c12b0 : decide (64 < ((a0.extract (a1 : Int).toNat (t119 : Int).toNat).size : Int)) = false := decide_eq_false c12
       have c12s : decide (64 < (((t119 : Int).toNat - (a1 : Int).toNat : Nat) : Int)) = false := by have z_ : (a0.extract (a1 : Int).toNat (t119 : Int).toNat).size = (t119 : Int).toNat - (a1 : Int).toNat := (by rw [ByteArray.size_extract]; have q_ : (t119 : Int) ≤ (a0.size : Int) := dQ; omega); rw [← z_]; exact c12b0
       have c12b1 : decide (64 < (a0.extract (a1 : Int).toNat (t119 : Int).toNat).size) = false := decide_eq_false (by omega)
       clear c12
       simp only [Option.some.injEq, Prod.mk.injEq] at H
       obtain ⟨rfl, rfl, rfl, rfl, rfl, rfl, rfl⟩ := H
       go_enter Try.func35, Try.ntmps35
       go_wp2_with (first | ((with_reducible refine Qb0 (N := 4) rfl ?_); refine Qbu ?hg (N := 4) ?hd (cs := zT0) (t := 47) ?hr ?_; (case hd => rfl); (case hg => rfl); (case hr => first | (go_simp; done) | (go_simp; rfl)); intro gb116 hg w18 hbox hb; have n0_ := J0.m (Qak bR hb); have n1_ := J0.m (hbox); have n2_ := J0.m ((by rw [hg]; exact (Qbd bR) : w.heap.size ≤ gb116)); have n3_ := n2_; clear HB; have HB := n0_; have BK116 := n1_; have GW116 := n2_; have GE116 := n3_; clear n0_ n1_ n2_ n3_; clear hb hbox hg) | ((with_reducible refine Qb0 (N := 7) rfl ?_); refine Qbu ?hg (N := 7) ?hd (cs := zT0) (t := 47) ?hr ?_; (case hd => rfl); (case hg => rfl); (case hr => first | (go_simp; done) | (go_simp; rfl)); intro gb117 hg w19 hbox hb; have n0_ := J0.m (Qae (g := gb116) (o := .cells #[.int .i64 0, .string ⟨#[]⟩, .int .u64 0, .int .i64 0, .int .i64 0] 47 (0, 0)) (by (with_reducible repeat (first | apply Qag | apply Qai | apply Qah)); exact BK116.o) hb); have n1_ := J0.m (Qak (by repeat (first | (with_reducible first | exact HB.o | apply Qab | apply Qad | apply Qaf | refine Qan ?_ GE116.o) | exact HB.o)) hb); have n2_ := J0.m (hbox); have n3_ := J0.m ((by rw [hg]; exact (Qbd (by repeat (first | (with_reducible first | exact HB.o | apply Qab | apply Qad | apply Qaf | refine Qan ?_ GE116.o) | exact HB.o))) : w.heap.size ≤ gb117)); have n4_ := n3_; have n5_ := J0.m ((by rw [hg]; exact Nat.ne_of_lt (Qb3 (g := gb116) (o := .cells #[.int .i64 0, .string ⟨#[]⟩, .int .u64 0, .int .i64 0, .int .i64 0] 47 (0, 0)) (by (with_reducible repeat (first | apply Qag | apply Qai | apply Qah)); exact BK116.o)) : gb116 ≠ gb117)); have n6_ := J0.m ((by rw [hg]; exact Nat.ne_of_gt (Qb3 (g := gb116) (o := .cells #[.int .i64 0, .string ⟨#[]⟩, .int .u64 0, .int .i64 0, .int .i64 0] 47 (0, 0)) (by (with_reducible repeat (first | apply Qag | apply Qai | apply Qah)); exact BK116.o)) : gb117 ≠ gb116)); clear BK116; clear HB; have BK116 := n0_; have HB := n1_; have BK117 := n2_; have GW117 := n3_; have GE117 := n4_; have NB116_117 := n5_; have NB117_116 := n6_; clear n0_ n1_ n2_ n3_ n4_ n5_ n6_; clear hb hbox hg; have hnb20 := NB117_116.o; have hnc20 := NB116_117.o; obtain ⟨hcz21_0, hcz21_1, hcz21_2, hcz21_3, hcz21_4⟩ := (bx5 BK117.o); have hfz21_0 := Qaa BK117.o 0; have hfz21_1 := Qaa BK117.o 1; have hfz21_2 := Qaa BK117.o 2; have hfz21_3 := Qaa BK117.o 3; have hfz21_4 := Qaa BK117.o 4; have p5 : 0 ≤ (a1 : Int) := dQ; have q5 : a1 < (a0.size : Int) := dQ; have hx5 := Qb2 a0 a1; replace p5 := eq_true p5; replace q5 := eq_true q5) | ((with_reducible refine Qat (f := 53) rfl ?_); refine Qbt (some 20) rfl rfl Try.func53 (by kernel_rfl) rfl #[.int .u8 (bt a0 a1)] rfl mQ ?_; (with_reducible refine (Qbr.calls (bt a0 a1) true _ A6.o).mono ?_); rintro e w' ⟨rfl, ⟨nd, rfl⟩⟩; refine ⟨_, rfl, ?_⟩) | ((with_reducible refine Qat (f := 54) rfl ?_); refine Qbt (some 24) rfl rfl Try.func54 (by kernel_rfl) rfl #[.string a0, .int .i64 a1, .func (.func 55) #[] #[]] rfl mQ ?_; (with_reducible refine (Qda.calls a0 a1 55 t119 _ A8.o).mono ?_); rintro e w99 ⟨rfl, hd99⟩; refine ⟨_, rfl, ?_⟩; have b99 : w99.heap[gb117]? = some (.cells #[.int .i64 1, .string ⟨#[]⟩, .int .u64 0, .int .i64 a1, .int .i64 0] 47 (0, 0)) := (by refine Qg8 hd99 ?_; (with_reducible repeat (first | apply Qag | apply Qai | apply Qah)); refine Qby (cs := #[.int .i64 0, .string ⟨#[]⟩, .int .u64 0, .int .i64 a1, .int .i64 0]) ?_ 0 _ rfl; (with_reducible repeat (first | apply Qag | apply Qai | apply Qah)); apply sv5; (with_reducible repeat (first | apply Qag | apply Qai | apply Qah)); exact BK117.o); have a99 : w99.heap[gb116]? = some (.cells #[.int .i64 0, .string ⟨#[]⟩, .int .u64 0, .int .i64 0, .int .i64 0] 47 (0, 0)) := (by refine Qg8 hd99 ?_; repeat (first | (with_reducible exact BK116.o) | (with_reducible refine Qag ?_ _) | (with_reducible refine Qce ?_ NB116_117.o _))); have hb99 := Qak (show Below w.heap.size w _ from (by repeat (first | (with_reducible first | exact HB.o | apply Qab | apply Qad | apply Qaf | refine Qan ?_ GE117.o) | exact HB.o))) hd99.below; (try clear hcz16_0 hcz16_1 hcz16_2 hcz16_3 hcz16_4 hfz16_0 hfz16_1 hfz16_2 hfz16_3 hfz16_4); clear BK116 BK117 HB hd99; have BK116 := J0.m a99; have BK117 := J0.m b99; have HB := J0.m hb99; have hfy_0 := Qaa b99 0; have hfx_0 := Qaa a99 0; have hfy_1 := Qaa b99 1; have hfx_1 := Qaa a99 1; have hfy_2 := Qaa b99 2; have hfx_2 := Qaa a99 2; have hfy_3 := Qaa b99 3; have hfx_3 := Qaa a99 3; obtain ⟨hcy_0, hcy_1, hcy_2, hcy_3, hcy_4⟩ := (bx5 b99); have hfy_4 := Qaa b99 4; obtain ⟨hcx_0, hcx_1, hcx_2, hcx_3, hcx_4⟩ := (bx5 a99); have hfx_4 := Qaa a99 4; clear a99 b99 hb99))
       refine bodyPost_ret (Qbc rfl _ _ gb116 47 #[.int .i64 1, .string (a0.extract (a1 : Int).toNat (t119 : Int).toNat), .int .u64 0, .int .i64 a1, .int .i64 t119] (0, 0) _ rfl (by (with_reducible repeat (first | apply Qag | apply Qai | apply Qah)); apply sv5; (with_reducible repeat (first | apply Qag | apply Qai | apply Qah)); (repeat (first | (with_reducible exact BK116.o) | (refine Qce ?_ NB116_117.o _; (with_reducible repeat (first | apply Qag | apply Qai | apply Qah))))); done) Try.underlying47 rfl (by kernel_rfl)) rfl ?_
       exact ⟨by first | rfl | (simp [Qax, Qaw] <;> rfl) | (simp [*, Qax, Qaw] <;> rfl), by repeat (first | (with_reducible first | exact HB.o | apply Qab | apply Qad | apply Qaf | refine Qan ?_ GE116.o | refine Qan ?_ GE117.o) | exact HB.o)⟩
     ·rw [if_neg c11] at H
      exact absurd H (by simp)
    ·rw [if_neg c10] at H
     exact absurd H (by simp)
   ·replace c7 := Bool.eq_false_iff.mpr c7
    subst c7
    have H1 : ((Qbo.f (bt a0 a1)).bind fun t120 => (if t120 = true then ((Qda.f a0 a1 56).bind fun t121 => (if a1 ≤ t121 then (if t121 ≤ (a0.size : Int) then ((Qci.f (a0.extract (a1 : Int).toNat (t121 : Int).toNat)).bind fun bt122 => (if bt122.2 = true then (some (2, (⟨#[]⟩ : ByteArray), bt122.1, a1, t121, 0, 0)) else (some (2, (⟨#[]⟩ : ByteArray), 0, a1, t121, a1, 111)))) else (none)) else (none))) else (if (bt a0 a1) = 34 then ((Qa7.f k a0 a1).bind fun bt124 => (some (bt124.1, bt124.2.1, bt124.2.2.1, bt124.2.2.2.1, bt124.2.2.2.2.1, bt124.2.2.2.2.2.1, bt124.2.2.2.2.2.2))) else ((strings_IndexByte.f (⟨#[123, 125, 40, 41, 58, 59, 44, 61, 43, 45, 42]⟩ : ByteArray) (bt a0 a1)).bind fun t131 => (if t131 ≥ 0 then (if a1 ≤ (wrap64 (a1 + 1)) then (if (wrap64 (a1 + 1)) ≤ (a0.size : Int) then (some (4, a0.extract (a1 : Int).toNat ((wrap64 (a1 + 1)) : Int).toNat, 0, a1, wrap64 (a1 + 1), 0, 0)) else (none)) else (none)) else (some (0, (⟨#[]⟩ : ByteArray), 0, a1, 0, a1, 80))))))) = some (r1, r2, r3, r4, r5, r6, r7) := by rw [if_neg (show ¬ (false = true) by decide)] at H; exact H
    clear H
    have H := H1
    clear H1
    replace H := Option.bind_eq_some_iff.mp H
    obtain ⟨t120, A230, H⟩ := H
    replace H : (if t120 = true then ((Qda.f a0 a1 56).bind fun t121 => (if a1 ≤ t121 then (if t121 ≤ (a0.size : Int) then ((Qci.f (a0.extract (a1 : Int).toNat (t121 : Int).toNat)).bind fun bt122 => (if bt122.2 = true then (some (2, (⟨#[]⟩ : ByteArray), bt122.1, a1, t121, 0, 0)) else (some (2, (⟨#[]⟩ : ByteArray), 0, a1, t121, a1, 111)))) else (none)) else (none))) else (if (bt a0 a1) = 34 then ((Qa7.f k a0 a1).bind fun bt124 => (some (bt124.1, bt124.2.1, bt124.2.2.1, bt124.2.2.2.1, bt124.2.2.2.2.1, bt124.2.2.2.2.2.1, bt124.2.2.2.2.2.2))) else ((strings_IndexByte.f (⟨#[123, 125, 40, 41, 58, 59, 44, 61, 43, 45, 42]⟩ : ByteArray) (bt a0 a1)).bind fun t131 => (if t131 ≥ 0 then (if a1 ≤ (wrap64 (a1 + 1)) then (if (wrap64 (a1 + 1)) ≤ (a0.size : Int) then (some (4, a0.extract (a1 : Int).toNat ((wrap64 (a1 + 1)) : Int).toNat, 0, a1, wrap64 (a1 + 1), 0, 0)) else (none)) else (none)) else (some (0, (⟨#[]⟩ : ByteArray), 0, a1, 0, a1, 80)))))) = some (r1, r2, r3, r4, r5, r6, r7) := H
    have A23 := J0.m A230
    clear A230
    by_cases c24 : t120 = true
    ·subst c24
     have H1 : ((Qda.f a0 a1 56).bind fun t121 => (if a1 ≤ t121 then (if t121 ≤ (a0.size : Int) then ((Qci.f (a0.extract (a1 : Int).toNat (t121 : Int).toNat)).bind fun bt122 => (if bt122.2 = true then (some (2, (⟨#[]⟩ : ByteArray), bt122.1, a1, t121, 0, 0)) else (some (2, (⟨#[]⟩ : ByteArray), 0, a1, t121, a1, 111)))) else (none)) else (none))) = some (r1, r2, r3, r4, r5, r6, r7) := by rw [if_pos rfl] at H; exact H
     clear H
     have H := H1
     clear H1
     replace H := Option.bind_eq_some_iff.mp H
     obtain ⟨t121, A250, H⟩ := H
     replace H : (if a1 ≤ t121 then (if t121 ≤ (a0.size : Int) then ((Qci.f (a0.extract (a1 : Int).toNat (t121 : Int).toNat)).bind fun bt122 => (if bt122.2 = true then (some (2, (⟨#[]⟩ : ByteArray), bt122.1, a1, t121, 0, 0)) else (some (2, (⟨#[]⟩ : ByteArray), 0, a1, t121, a1, 111)))) else (none)) else (none)) = some (r1, r2, r3, r4, r5, r6, r7) := H
     have A25 := J0.m A250
     clear A250
     have c26b0 := eq_true (dQ : 0 ≤ a1)
     by_cases c27 : a1 ≤ t121
     ·rw [if_pos c27] at H
      have c27b0 := eq_true c27
      have c27b1 : decide (a1 ≤ t121) = true := decide_eq_true c27
      clear c27
      by_cases c28 : t121 ≤ (a0.size : Int)
      ·rw [if_pos c28] at H
       have c28b0 := eq_true c28
       have c28b1 : decide (t121 ≤ (a0.size : Int)) = true := decide_eq_true c28
       clear c28
       replace H := Option.bind_eq_some_iff.mp H
       obtain ⟨⟨t122, t123⟩, A290, H⟩ := H
       replace H : (if t123 = true then (some (2, (⟨#[]⟩ : ByteArray), t122, a1, t121, 0, 0)) else (some (2, (⟨#[]⟩ : ByteArray), 0, a1, t121, a1, 111))) = some (r1, r2, r3, r4, r5, r6, r7) := H
       have A29 := J0.m A290
       clear A290
       by_cases c30 : t123 = true
       ·subst c30
        have H1 : (some (2, (⟨#[]⟩ : ByteArray), t122, a1, t121, 0, 0)) = some (r1, r2, r3, r4, r5, r6, r7) := by rw [if_pos rfl] at H; exact H
        clear H
        have H := H1
        clear H1
        simp only [Option.some.injEq, Prod.mk.injEq] at H
        obtain ⟨rfl, rfl, rfl, rfl, rfl, rfl, rfl⟩ := H
        go_enter Try.func35, Try.ntmps35
        go_wp2_with (first | ((with_reducible refine Qb0 (N := 4) rfl ?_); refine Qbu ?hg (N := 4) ?hd (cs := zT0) (t := 47) ?hr ?_; (case hd => rfl); (case hg => rfl); (case hr => first | (go_simp; done) | (go_simp; rfl)); intro gb116 hg w31 hbox hb; have n0_ := J0.m (Qak bR hb); have n1_ := J0.m (hbox); have n2_ := J0.m ((by rw [hg]; exact (Qbd bR) : w.heap.size ≤ gb116)); have n3_ := n2_; clear HB; have HB := n0_; have BK116 := n1_; have GW116 := n2_; have GE116 := n3_; clear n0_ n1_ n2_ n3_; clear hb hbox hg) | ((with_reducible refine Qb0 (N := 7) rfl ?_); refine Qbu ?hg (N := 7) ?hd (cs := zT0) (t := 47) ?hr ?_; (case hd => rfl); (case hg => rfl); (case hr => first | (go_simp; done) | (go_simp; rfl)); intro gb117 hg w32 hbox hb; have n0_ := J0.m (Qae (g := gb116) (o := .cells #[.int .i64 0, .string ⟨#[]⟩, .int .u64 0, .int .i64 0, .int .i64 0] 47 (0, 0)) (by (with_reducible repeat (first | apply Qag | apply Qai | apply Qah)); exact BK116.o) hb); have n1_ := J0.m (Qak (by repeat (first | (with_reducible first | exact HB.o | apply Qab | apply Qad | apply Qaf | refine Qan ?_ GE116.o) | exact HB.o)) hb); have n2_ := J0.m (hbox); have n3_ := J0.m ((by rw [hg]; exact (Qbd (by repeat (first | (with_reducible first | exact HB.o | apply Qab | apply Qad | apply Qaf | refine Qan ?_ GE116.o) | exact HB.o))) : w.heap.size ≤ gb117)); have n4_ := n3_; have n5_ := J0.m ((by rw [hg]; exact Nat.ne_of_lt (Qb3 (g := gb116) (o := .cells #[.int .i64 0, .string ⟨#[]⟩, .int .u64 0, .int .i64 0, .int .i64 0] 47 (0, 0)) (by (with_reducible repeat (first | apply Qag | apply Qai | apply Qah)); exact BK116.o)) : gb116 ≠ gb117)); have n6_ := J0.m ((by rw [hg]; exact Nat.ne_of_gt (Qb3 (g := gb116) (o := .cells #[.int .i64 0, .string ⟨#[]⟩, .int .u64 0, .int .i64 0, .int .i64 0] 47 (0, 0)) (by (with_reducible repeat (first | apply Qag | apply Qai | apply Qah)); exact BK116.o)) : gb117 ≠ gb116)); clear BK116; clear HB; have BK116 := n0_; have HB := n1_; have BK117 := n2_; have GW117 := n3_; have GE117 := n4_; have NB116_117 := n5_; have NB117_116 := n6_; clear n0_ n1_ n2_ n3_ n4_ n5_ n6_; clear hb hbox hg; have hnb33 := NB117_116.o; have hnc33 := NB116_117.o; obtain ⟨hcz34_0, hcz34_1, hcz34_2, hcz34_3, hcz34_4⟩ := (bx5 BK117.o); have hfz34_0 := Qaa BK117.o 0; have hfz34_1 := Qaa BK117.o 1; have hfz34_2 := Qaa BK117.o 2; have hfz34_3 := Qaa BK117.o 3; have hfz34_4 := Qaa BK117.o 4; have p5 : 0 ≤ (a1 : Int) := dQ; have q5 : a1 < (a0.size : Int) := dQ; have hx5 := Qb2 a0 a1; replace p5 := eq_true p5; replace q5 := eq_true q5) | ((with_reducible refine Qat (f := 53) rfl ?_); refine Qbt (some 20) rfl rfl Try.func53 (by kernel_rfl) rfl #[.int .u8 (bt a0 a1)] rfl mQ ?_; (with_reducible refine (Qbr.calls (bt a0 a1) false _ A6.o).mono ?_); rintro e w' ⟨rfl, ⟨nd, rfl⟩⟩; refine ⟨_, rfl, ?_⟩) | ((with_reducible refine Qat (f := 56) rfl ?_); refine Qbt (some 40) rfl rfl Try.func56 (by kernel_rfl) rfl #[.int .u8 (bt a0 a1)] rfl mQ ?_; (with_reducible refine (Qbo.calls (bt a0 a1) true _ A23.o).mono ?_); rintro e w' ⟨rfl, ⟨nd, rfl⟩⟩; refine ⟨_, rfl, ?_⟩) | ((with_reducible refine Qat (f := 54) rfl ?_); refine Qbt (some 44) rfl rfl Try.func54 (by kernel_rfl) rfl #[.string a0, .int .i64 a1, .func (.func 56) #[] #[]] rfl mQ ?_; (with_reducible refine (Qda.calls a0 a1 56 t121 _ A25.o).mono ?_); rintro e w99 ⟨rfl, hd99⟩; refine ⟨_, rfl, ?_⟩; have b99 : w99.heap[gb117]? = some (.cells #[.int .i64 2, .string ⟨#[]⟩, .int .u64 0, .int .i64 a1, .int .i64 0] 47 (0, 0)) := (by refine Qg8 hd99 ?_; (with_reducible repeat (first | apply Qag | apply Qai | apply Qah)); refine Qby (cs := #[.int .i64 0, .string ⟨#[]⟩, .int .u64 0, .int .i64 a1, .int .i64 0]) ?_ 0 _ rfl; (with_reducible repeat (first | apply Qag | apply Qai | apply Qah)); apply sv5; (with_reducible repeat (first | apply Qag | apply Qai | apply Qah)); exact BK117.o); have a99 : w99.heap[gb116]? = some (.cells #[.int .i64 0, .string ⟨#[]⟩, .int .u64 0, .int .i64 0, .int .i64 0] 47 (0, 0)) := (by refine Qg8 hd99 ?_; repeat (first | (with_reducible exact BK116.o) | (with_reducible refine Qag ?_ _) | (with_reducible refine Qce ?_ NB116_117.o _))); have hb99 := Qak (show Below w.heap.size w _ from (by repeat (first | (with_reducible first | exact HB.o | apply Qab | apply Qad | apply Qaf | refine Qan ?_ GE117.o) | exact HB.o))) hd99.below; (try clear hcz16_0 hcz16_1 hcz16_2 hcz16_3 hcz16_4 hfz16_0 hfz16_1 hfz16_2 hfz16_3 hfz16_4); clear BK116 BK117 HB hd99; have BK116 := J0.m a99; have BK117 := J0.m b99; have HB := J0.m hb99; have hfy_0 := Qaa b99 0; have hfx_0 := Qaa a99 0; have hfy_1 := Qaa b99 1; have hfx_1 := Qaa a99 1; have hfy_2 := Qaa b99 2; have hfx_2 := Qaa a99 2; have hfy_3 := Qaa b99 3; have hfx_3 := Qaa a99 3; obtain ⟨hcy_0, hcy_1, hcy_2, hcy_3, hcy_4⟩ := (bx5 b99); have hfy_4 := Qaa b99 4; obtain ⟨hcx_0, hcx_1, hcx_2, hcx_3, hcx_4⟩ := (bx5 a99); have hfx_4 := Qaa a99 4; clear a99 b99 hb99) | ((with_reducible refine Qat (f := 57) rfl ?_); refine Qbt (some 52) rfl rfl Try.func57 (by kernel_rfl) rfl #[.string (a0.extract (a1 : Int).toNat (t121 : Int).toNat)] rfl mQ ?_; (with_reducible refine (Qci.calls (a0.extract (a1 : Int).toNat (t121 : Int).toNat) t122 true _ A29.o).mono ?_); rintro e w' ⟨rfl, ⟨nd, rfl⟩⟩; refine ⟨_, rfl, ?_⟩; obtain ⟨hcz35_0, hcz35_1, hcz35_2, hcz35_3, hcz35_4⟩ := (bx5 BK116.o); have hfz35_0 := Qaa BK116.o 0; have hfz35_1 := Qaa BK116.o 1; have hfz35_2 := Qaa BK116.o 2; have hfz35_3 := Qaa BK116.o 3; have hfz35_4 := Qaa BK116.o 4))
        refine bodyPost_ret (Qbc rfl _ _ gb116 47 #[.int .i64 2, .string ⟨#[]⟩, .int .u64 t122, .int .i64 a1, .int .i64 t121] (0, 0) _ rfl (by (with_reducible repeat (first | apply Qag | apply Qai | apply Qah)); apply sv5; (with_reducible repeat (first | apply Qag | apply Qai | apply Qah)); (repeat (first | (with_reducible exact BK116.o) | (refine Qce ?_ NB116_117.o _; (with_reducible repeat (first | apply Qag | apply Qai | apply Qah))))); done) Try.underlying47 rfl (by kernel_rfl)) rfl ?_
        exact ⟨by first | rfl | (simp [Qax, Qaw] <;> rfl) | (simp [*, Qax, Qaw] <;> rfl), by repeat (first | (with_reducible first | exact HB.o | apply Qab | apply Qad | apply Qaf | refine Qan ?_ GE116.o | refine Qan ?_ GE117.o) | exact HB.o)⟩
       ·replace c30 := Bool.eq_false_iff.mpr c30
        subst c30
        have H1 : (some (2, (⟨#[]⟩ : ByteArray), 0, a1, t121, a1, 111)) = some (r1, r2, r3, r4, r5, r6, r7) := by rw [if_neg (show ¬ (false = true) by decide)] at H; exact H
        clear H
        have H := H1
        clear H1
        simp only [Option.some.injEq, Prod.mk.injEq] at H
        obtain ⟨rfl, rfl, rfl, rfl, rfl, rfl, rfl⟩ := H
        go_enter Try.func35, Try.ntmps35
        go_wp2_with (first | ((with_reducible refine Qb0 (N := 4) rfl ?_); refine Qbu ?hg (N := 4) ?hd (cs := zT0) (t := 47) ?hr ?_; (case hd => rfl); (case hg => rfl); (case hr => first | (go_simp; done) | (go_simp; rfl)); intro gb116 hg w36 hbox hb; have n0_ := J0.m (Qak bR hb); have n1_ := J0.m (hbox); have n2_ := J0.m ((by rw [hg]; exact (Qbd bR) : w.heap.size ≤ gb116)); have n3_ := n2_; clear HB; have HB := n0_; have BK116 := n1_; have GW116 := n2_; have GE116 := n3_; clear n0_ n1_ n2_ n3_; clear hb hbox hg) | ((with_reducible refine Qb0 (N := 7) rfl ?_); refine Qbu ?hg (N := 7) ?hd (cs := zT0) (t := 47) ?hr ?_; (case hd => rfl); (case hg => rfl); (case hr => first | (go_simp; done) | (go_simp; rfl)); intro gb117 hg w37 hbox hb; have n0_ := J0.m (Qae (g := gb116) (o := .cells #[.int .i64 0, .string ⟨#[]⟩, .int .u64 0, .int .i64 0, .int .i64 0] 47 (0, 0)) (by (with_reducible repeat (first | apply Qag | apply Qai | apply Qah)); exact BK116.o) hb); have n1_ := J0.m (Qak (by repeat (first | (with_reducible first | exact HB.o | apply Qab | apply Qad | apply Qaf | refine Qan ?_ GE116.o) | exact HB.o)) hb); have n2_ := J0.m (hbox); have n3_ := J0.m ((by rw [hg]; exact (Qbd (by repeat (first | (with_reducible first | exact HB.o | apply Qab | apply Qad | apply Qaf | refine Qan ?_ GE116.o) | exact HB.o))) : w.heap.size ≤ gb117)); have n4_ := n3_; have n5_ := J0.m ((by rw [hg]; exact Nat.ne_of_lt (Qb3 (g := gb116) (o := .cells #[.int .i64 0, .string ⟨#[]⟩, .int .u64 0, .int .i64 0, .int .i64 0] 47 (0, 0)) (by (with_reducible repeat (first | apply Qag | apply Qai | apply Qah)); exact BK116.o)) : gb116 ≠ gb117)); have n6_ := J0.m ((by rw [hg]; exact Nat.ne_of_gt (Qb3 (g := gb116) (o := .cells #[.int .i64 0, .string ⟨#[]⟩, .int .u64 0, .int .i64 0, .int .i64 0] 47 (0, 0)) (by (with_reducible repeat (first | apply Qag | apply Qai | apply Qah)); exact BK116.o)) : gb117 ≠ gb116)); clear BK116; clear HB; have BK116 := n0_; have HB := n1_; have BK117 := n2_; have GW117 := n3_; have GE117 := n4_; have NB116_117 := n5_; have NB117_116 := n6_; clear n0_ n1_ n2_ n3_ n4_ n5_ n6_; clear hb hbox hg; have hnb38 := NB117_116.o; have hnc38 := NB116_117.o; obtain ⟨hcz39_0, hcz39_1, hcz39_2, hcz39_3, hcz39_4⟩ := (bx5 BK117.o); have hfz39_0 := Qaa BK117.o 0; have hfz39_1 := Qaa BK117.o 1; have hfz39_2 := Qaa BK117.o 2; have hfz39_3 := Qaa BK117.o 3; have hfz39_4 := Qaa BK117.o 4; have p5 : 0 ≤ (a1 : Int) := dQ; have q5 : a1 < (a0.size : Int) := dQ; have hx5 := Qb2 a0 a1; replace p5 := eq_true p5; replace q5 := eq_true q5) | ((with_reducible refine Qat (f := 53) rfl ?_); refine Qbt (some 20) rfl rfl Try.func53 (by kernel_rfl) rfl #[.int .u8 (bt a0 a1)] rfl mQ ?_; (with_reducible refine (Qbr.calls (bt a0 a1) false _ A6.o).mono ?_); rintro e w' ⟨rfl, ⟨nd, rfl⟩⟩; refine ⟨_, rfl, ?_⟩) | ((with_reducible refine Qat (f := 56) rfl ?_); refine Qbt (some 40) rfl rfl Try.func56 (by kernel_rfl) rfl #[.int .u8 (bt a0 a1)] rfl mQ ?_; (with_reducible refine (Qbo.calls (bt a0 a1) true _ A23.o).mono ?_); rintro e w' ⟨rfl, ⟨nd, rfl⟩⟩; refine ⟨_, rfl, ?_⟩) | ((with_reducible refine Qat (f := 54) rfl ?_); refine Qbt (some 44) rfl rfl Try.func54 (by kernel_rfl) rfl #[.string a0, .int .i64 a1, .func (.func 56) #[] #[]] rfl mQ ?_; (with_reducible refine (Qda.calls a0 a1 56 t121 _ A25.o).mono ?_); rintro e w99 ⟨rfl, hd99⟩; refine ⟨_, rfl, ?_⟩; have b99 : w99.heap[gb117]? = some (.cells #[.int .i64 2, .string ⟨#[]⟩, .int .u64 0, .int .i64 a1, .int .i64 0] 47 (0, 0)) := (by refine Qg8 hd99 ?_; (with_reducible repeat (first | apply Qag | apply Qai | apply Qah)); refine Qby (cs := #[.int .i64 0, .string ⟨#[]⟩, .int .u64 0, .int .i64 a1, .int .i64 0]) ?_ 0 _ rfl; (with_reducible repeat (first | apply Qag | apply Qai | apply Qah)); apply sv5; (with_reducible repeat (first | apply Qag | apply Qai | apply Qah)); exact BK117.o); have a99 : w99.heap[gb116]? = some (.cells #[.int .i64 0, .string ⟨#[]⟩, .int .u64 0, .int .i64 0, .int .i64 0] 47 (0, 0)) := (by refine Qg8 hd99 ?_; repeat (first | (with_reducible exact BK116.o) | (with_reducible refine Qag ?_ _) | (with_reducible refine Qce ?_ NB116_117.o _))); have hb99 := Qak (show Below w.heap.size w _ from (by repeat (first | (with_reducible first | exact HB.o | apply Qab | apply Qad | apply Qaf | refine Qan ?_ GE117.o) | exact HB.o))) hd99.below; (try clear hcz16_0 hcz16_1 hcz16_2 hcz16_3 hcz16_4 hfz16_0 hfz16_1 hfz16_2 hfz16_3 hfz16_4); clear BK116 BK117 HB hd99; have BK116 := J0.m a99; have BK117 := J0.m b99; have HB := J0.m hb99; have hfy_0 := Qaa b99 0; have hfx_0 := Qaa a99 0; have hfy_1 := Qaa b99 1; have hfx_1 := Qaa a99 1; have hfy_2 := Qaa b99 2; have hfx_2 := Qaa a99 2; have hfy_3 := Qaa b99 3; have hfx_3 := Qaa a99 3; obtain ⟨hcy_0, hcy_1, hcy_2, hcy_3, hcy_4⟩ := (bx5 b99); have hfy_4 := Qaa b99 4; obtain ⟨hcx_0, hcx_1, hcx_2, hcx_3, hcx_4⟩ := (bx5 a99); have hfx_4 := Qaa a99 4; clear a99 b99 hb99) | ((with_reducible refine Qat (f := 57) rfl ?_); refine Qbt (some 52) rfl rfl Try.func57 (by kernel_rfl) rfl #[.string (a0.extract (a1 : Int).toNat (t121 : Int).toNat)] rfl mQ ?_; (with_reducible refine (Qci.calls (a0.extract (a1 : Int).toNat (t121 : Int).toNat) t122 false _ A29.o).mono ?_); rintro e w' ⟨rfl, ⟨nd, rfl⟩⟩; refine ⟨_, rfl, ?_⟩; obtain ⟨hcz40_0, hcz40_1, hcz40_2, hcz40_3, hcz40_4⟩ := (bx5 BK116.o); have hfz40_0 := Qaa BK116.o 0; have hfz40_1 := Qaa BK116.o 1; have hfz40_2 := Qaa BK116.o 2; have hfz40_3 := Qaa BK116.o 3; have hfz40_4 := Qaa BK116.o 4))
        refine bodyPost_ret (Qbc rfl _ _ gb116 47 #[.int .i64 2, .string ⟨#[]⟩, .int .u64 0, .int .i64 a1, .int .i64 t121] (0, 0) _ rfl (by (with_reducible repeat (first | apply Qag | apply Qai | apply Qah)); apply sv5; (with_reducible repeat (first | apply Qag | apply Qai | apply Qah)); (repeat (first | (with_reducible exact BK116.o) | (refine Qce ?_ NB116_117.o _; (with_reducible repeat (first | apply Qag | apply Qai | apply Qah))))); done) Try.underlying47 rfl (by kernel_rfl)) rfl ?_
        exact ⟨by first | rfl | (simp [Qax, Qaw] <;> rfl) | (simp [*, Qax, Qaw] <;> rfl), by repeat (first | (with_reducible first | exact HB.o | apply Qab | apply Qad | apply Qaf | refine Qan ?_ GE116.o | refine Qan ?_ GE117.o) | exact HB.o)⟩
      ·rw [if_neg c28] at H
       exact absurd H (by simp)
     ·rw [if_neg c27] at H
      exact absurd H (by simp)
    ·replace c24 := Bool.eq_false_iff.mpr c24
     subst c24
     have H1 : (if (bt a0 a1) = 34 then ((Qa7.f k a0 a1).bind fun bt124 => (some (bt124.1, bt124.2.1, bt124.2.2.1, bt124.2.2.2.1, bt124.2.2.2.2.1, bt124.2.2.2.2.2.1, bt124.2.2.2.2.2.2))) else ((strings_IndexByte.f (⟨#[123, 125, 40, 41, 58, 59, 44, 61, 43, 45, 42]⟩ : ByteArray) (bt a0 a1)).bind fun t131 => (if t131 ≥ 0 then (if a1 ≤ (wrap64 (a1 + 1)) then (if (wrap64 (a1 + 1)) ≤ (a0.size : Int) then (some (4, a0.extract (a1 : Int).toNat ((wrap64 (a1 + 1)) : Int).toNat, 0, a1, wrap64 (a1 + 1), 0, 0)) else (none)) else (none)) else (some (0, (⟨#[]⟩ : ByteArray), 0, a1, 0, a1, 80))))) = some (r1, r2, r3, r4, r5, r6, r7) := by rw [if_neg (show ¬ (false = true) by decide)] at H; exact H
     clear H
     have H := H1
     clear H1
     by_cases c41 : (bt a0 a1) = 34
     ·rw [if_pos c41] at H
      have c41b0 : ((bt a0 a1) == 34) = true := beq_iff_eq.mpr c41
      have c41b1 : ((bt a0 a1) != 34) = false := bne_eq_false_iff_eq.mpr c41
      clear c41
      replace H := Option.bind_eq_some_iff.mp H
      obtain ⟨⟨t124, t125, t126, t127, t128, t129, t130⟩, A420, H⟩ := H
      replace H : (some (t124, t125, t126, t127, t128, t129, t130)) = some (r1, r2, r3, r4, r5, r6, r7) := H
      have A42 := J0.m A420
      clear A420
      simp only [Option.some.injEq, Prod.mk.injEq] at H
      obtain ⟨rfl, rfl, rfl, rfl, rfl, rfl, rfl⟩ := H
      go_enter Try.func35, Try.ntmps35
      go_wp2_with (first | ((with_reducible refine Qb0 (N := 4) rfl ?_); refine Qbu ?hg (N := 4) ?hd (cs := zT0) (t := 47) ?hr ?_; (case hd => rfl); (case hg => rfl); (case hr => first | (go_simp; done) | (go_simp; rfl)); intro gb116 hg w43 hbox hb; have n0_ := J0.m (Qak bR hb); have n1_ := J0.m (hbox); have n2_ := J0.m ((by rw [hg]; exact (Qbd bR) : w.heap.size ≤ gb116)); have n3_ := n2_; clear HB; have HB := n0_; have BK116 := n1_; have GW116 := n2_; have GE116 := n3_; clear n0_ n1_ n2_ n3_; clear hb hbox hg) | ((with_reducible refine Qb0 (N := 7) rfl ?_); refine Qbu ?hg (N := 7) ?hd (cs := zT0) (t := 47) ?hr ?_; (case hd => rfl); (case hg => rfl); (case hr => first | (go_simp; done) | (go_simp; rfl)); intro gb117 hg w44 hbox hb; have n0_ := J0.m (Qae (g := gb116) (o := .cells #[.int .i64 0, .string ⟨#[]⟩, .int .u64 0, .int .i64 0, .int .i64 0] 47 (0, 0)) (by (with_reducible repeat (first | apply Qag | apply Qai | apply Qah)); exact BK116.o) hb); have n1_ := J0.m (Qak (by repeat (first | (with_reducible first | exact HB.o | apply Qab | apply Qad | apply Qaf | refine Qan ?_ GE116.o) | exact HB.o)) hb); have n2_ := J0.m (hbox); have n3_ := J0.m ((by rw [hg]; exact (Qbd (by repeat (first | (with_reducible first | exact HB.o | apply Qab | apply Qad | apply Qaf | refine Qan ?_ GE116.o) | exact HB.o))) : w.heap.size ≤ gb117)); have n4_ := n3_; have n5_ := J0.m ((by rw [hg]; exact Nat.ne_of_lt (Qb3 (g := gb116) (o := .cells #[.int .i64 0, .string ⟨#[]⟩, .int .u64 0, .int .i64 0, .int .i64 0] 47 (0, 0)) (by (with_reducible repeat (first | apply Qag | apply Qai | apply Qah)); exact BK116.o)) : gb116 ≠ gb117)); have n6_ := J0.m ((by rw [hg]; exact Nat.ne_of_gt (Qb3 (g := gb116) (o := .cells #[.int .i64 0, .string ⟨#[]⟩, .int .u64 0, .int .i64 0, .int .i64 0] 47 (0, 0)) (by (with_reducible repeat (first | apply Qag | apply Qai | apply Qah)); exact BK116.o)) : gb117 ≠ gb116)); clear BK116; clear HB; have BK116 := n0_; have HB := n1_; have BK117 := n2_; have GW117 := n3_; have GE117 := n4_; have NB116_117 := n5_; have NB117_116 := n6_; clear n0_ n1_ n2_ n3_ n4_ n5_ n6_; clear hb hbox hg; have hnb45 := NB117_116.o; have hnc45 := NB116_117.o; obtain ⟨hcz46_0, hcz46_1, hcz46_2, hcz46_3, hcz46_4⟩ := (bx5 BK117.o); have hfz46_0 := Qaa BK117.o 0; have hfz46_1 := Qaa BK117.o 1; have hfz46_2 := Qaa BK117.o 2; have hfz46_3 := Qaa BK117.o 3; have hfz46_4 := Qaa BK117.o 4; have p5 : 0 ≤ (a1 : Int) := dQ; have q5 : a1 < (a0.size : Int) := dQ; have hx5 := Qb2 a0 a1; replace p5 := eq_true p5; replace q5 := eq_true q5) | ((with_reducible refine Qat (f := 53) rfl ?_); refine Qbt (some 20) rfl rfl Try.func53 (by kernel_rfl) rfl #[.int .u8 (bt a0 a1)] rfl mQ ?_; (with_reducible refine (Qbr.calls (bt a0 a1) false _ A6.o).mono ?_); rintro e w' ⟨rfl, ⟨nd, rfl⟩⟩; refine ⟨_, rfl, ?_⟩) | ((with_reducible refine Qat (f := 56) rfl ?_); refine Qbt (some 40) rfl rfl Try.func56 (by kernel_rfl) rfl #[.int .u8 (bt a0 a1)] rfl mQ ?_; (with_reducible refine (Qbo.calls (bt a0 a1) false _ A23.o).mono ?_); rintro e w' ⟨rfl, ⟨nd, rfl⟩⟩; refine ⟨_, rfl, ?_⟩) | ((with_reducible refine Qat (f := 58) rfl ?_); refine Qbt (some 66) rfl rfl Try.func58 (by kernel_rfl) rfl #[.string a0, .int .i64 a1] rfl mQ ?_; (with_reducible refine (Qa7.calls k a0 a1 t124 t125 t126 t127 t128 t129 t130 _ A42.o).mono ?_); rintro e w47 ⟨rfl, hb⟩; refine ⟨_, rfl, ?_⟩; have n0_ := J0.m (Qae (g := gb116) (o := .cells #[.int .i64 0, .string ⟨#[]⟩, .int .u64 0, .int .i64 0, .int .i64 0] 47 (0, 0)) (by (with_reducible repeat (first | apply Qag | apply Qai | apply Qah)); refine Qce ?_ NB116_117.o _; (with_reducible repeat (first | apply Qag | apply Qai | apply Qah)); refine Qce ?_ NB116_117.o _; (with_reducible repeat (first | apply Qag | apply Qai | apply Qah)); refine Qce ?_ NB116_117.o _; (with_reducible repeat (first | apply Qag | apply Qai | apply Qah)); refine Qce ?_ NB116_117.o _; (with_reducible repeat (first | apply Qag | apply Qai | apply Qah)); refine Qce ?_ NB116_117.o _; (with_reducible repeat (first | apply Qag | apply Qai | apply Qah)); exact BK116.o) hb); have n1_ := J0.m (Qae (g := gb117) (o := .cells #[.int .i64 0, .string ⟨#[]⟩, .int .u64 0, .int .i64 a1, .int .i64 0] 47 (0, 0)) (by (with_reducible repeat (first | apply Qag | apply Qai | apply Qah)); apply sv5; (with_reducible repeat (first | apply Qag | apply Qai | apply Qah)); exact BK117.o) hb); have n2_ := J0.m (Qak (by repeat (first | (with_reducible first | exact HB.o | apply Qab | apply Qad | apply Qaf | refine Qan ?_ GE116.o | refine Qan ?_ GE117.o) | exact HB.o)) hb); clear BK116; clear BK117; clear HB; have BK116 := n0_; have BK117 := n1_; have HB := n2_; clear n0_ n1_ n2_; (try clear hb); (try clear hb2); (try clear hk); (try clear hi); obtain ⟨hcz48_0, hcz48_1, hcz48_2, hcz48_3, hcz48_4⟩ := (bx5 BK116.o); have hfz48_0 := Qaa BK116.o 0; have hfz48_1 := Qaa BK116.o 1; have hfz48_2 := Qaa BK116.o 2; have hfz48_3 := Qaa BK116.o 3; have hfz48_4 := Qaa BK116.o 4))
      refine bodyPost_ret (Qbc rfl _ _ gb116 47 #[.int .i64 t124, .string t125, .int .u64 t126, .int .i64 t127, .int .i64 t128] (0, 0) _ rfl (by (with_reducible repeat (first | apply Qag | apply Qai | apply Qah)); apply sv5; (with_reducible repeat (first | apply Qag | apply Qai | apply Qah)); exact BK116.o) Try.underlying47 rfl (by kernel_rfl)) rfl ?_
      exact ⟨by first | rfl | (simp [Qax, Qaw] <;> rfl) | (simp [*, Qax, Qaw] <;> rfl), by repeat (first | (with_reducible first | exact HB.o | apply Qab | apply Qad | apply Qaf | refine Qan ?_ GE116.o | refine Qan ?_ GE117.o) | exact HB.o)⟩
     ·rw [if_neg c41] at H
      have c41b0 : ((bt a0 a1) == 34) = false := beq_eq_false_iff_ne.mpr c41
      have c41b1 : ((bt a0 a1) != 34) = true := bne_iff_ne.mpr c41
      replace H := Option.bind_eq_some_iff.mp H
      obtain ⟨t131, A490, H⟩ := H
      replace H : (if t131 ≥ 0 then (if a1 ≤ (wrap64 (a1 + 1)) then (if (wrap64 (a1 + 1)) ≤ (a0.size : Int) then (some (4, a0.extract (a1 : Int).toNat ((wrap64 (a1 + 1)) : Int).toNat, 0, a1, wrap64 (a1 + 1), 0, 0)) else (none)) else (none)) else (some (0, (⟨#[]⟩ : ByteArray), 0, a1, 0, a1, 80))) = some (r1, r2, r3, r4, r5, r6, r7) := H
      have A49 := J0.m A490
      clear A490
      by_cases c50 : t131 ≥ 0
      ·rw [if_pos c50] at H
       have c50b0 : decide (0 ≤ t131) = true := decide_eq_true c50
       clear c50
       have c51b0 := eq_true (dQ : 0 ≤ a1)
       by_cases c52 : a1 ≤ (wrap64 (a1 + 1))
       ·rw [if_pos c52] at H
        have c52b0 := eq_true c52
        have c52b1 : decide (a1 ≤ (wrap64 (a1 + 1))) = true := decide_eq_true c52
        by_cases c53 : (wrap64 (a1 + 1)) ≤ (a0.size : Int)
        ·rw [if_pos c53] at H
         have c53b0 := eq_true c53
         have c53b1 : decide ((wrap64 (a1 + 1)) ≤ (a0.size : Int)) = true := decide_eq_true c53
         simp only [Option.some.injEq, Prod.mk.injEq] at H
         obtain ⟨rfl, rfl, rfl, rfl, rfl, rfl, rfl⟩ := H
         go_enter Try.func35, Try.ntmps35
         try go_wp2_with (first | ((with_reducible refine Qb0 (N := 4) rfl ?_); refine Qbu ?hg (N := 4) ?hd (cs := zT0) (t := 47) ?hr ?_; (case hd => rfl); (case hg => rfl); (case hr => first | (go_simp; done) | (go_simp; rfl)); intro gb116 hg w54 hbox hb; have n0_ := J0.m (Qak bR hb); have n1_ := J0.m (hbox); have n2_ := J0.m ((by rw [hg]; exact (Qbd bR) : w.heap.size ≤ gb116)); have n3_ := n2_; clear HB; have HB := n0_; have BK116 := n1_; have GW116 := n2_; have GE116 := n3_; clear n0_ n1_ n2_ n3_; clear hb hbox hg) | ((with_reducible refine Qb0 (N := 7) rfl ?_); refine Qbu ?hg (N := 7) ?hd (cs := zT0) (t := 47) ?hr ?_; (case hd => rfl); (case hg => rfl); (case hr => first | (go_simp; done) | (go_simp; rfl)); intro gb117 hg w55 hbox hb; have n0_ := J0.m (Qae (g := gb116) (o := .cells #[.int .i64 0, .string ⟨#[]⟩, .int .u64 0, .int .i64 0, .int .i64 0] 47 (0, 0)) (by (with_reducible repeat (first | apply Qag | apply Qai | apply Qah)); exact BK116.o) hb); have n1_ := J0.m (Qak (by repeat (first | (with_reducible first | exact HB.o | apply Qab | apply Qad | apply Qaf | refine Qan ?_ GE116.o) | exact HB.o)) hb); have n2_ := J0.m (hbox); have n3_ := J0.m ((by rw [hg]; exact (Qbd (by repeat (first | (with_reducible first | exact HB.o | apply Qab | apply Qad | apply Qaf | refine Qan ?_ GE116.o) | exact HB.o))) : w.heap.size ≤ gb117)); have n4_ := n3_; have n5_ := J0.m ((by rw [hg]; exact Nat.ne_of_lt (Qb3 (g := gb116) (o := .cells #[.int .i64 0, .string ⟨#[]⟩, .int .u64 0, .int .i64 0, .int .i64 0] 47 (0, 0)) (by (with_reducible repeat (first | apply Qag | apply Qai | apply Qah)); exact BK116.o)) : gb116 ≠ gb117)); have n6_ := J0.m ((by rw [hg]; exact Nat.ne_of_gt (Qb3 (g := gb116) (o := .cells #[.int .i64 0, .string ⟨#[]⟩, .int .u64 0, .int .i64 0, .int .i64 0] 47 (0, 0)) (by (with_reducible repeat (first | apply Qag | apply Qai | apply Qah)); exact BK116.o)) : gb117 ≠ gb116)); clear BK116; clear HB; have BK116 := n0_; have HB := n1_; have BK117 := n2_; have GW117 := n3_; have GE117 := n4_; have NB116_117 := n5_; have NB117_116 := n6_; clear n0_ n1_ n2_ n3_ n4_ n5_ n6_; clear hb hbox hg; have hnb56 := NB117_116.o; have hnc56 := NB116_117.o; obtain ⟨hcz57_0, hcz57_1, hcz57_2, hcz57_3, hcz57_4⟩ := (bx5 BK117.o); have hfz57_0 := Qaa BK117.o 0; have hfz57_1 := Qaa BK117.o 1; have hfz57_2 := Qaa BK117.o 2; have hfz57_3 := Qaa BK117.o 3; have hfz57_4 := Qaa BK117.o 4; have p5 : 0 ≤ (a1 : Int) := dQ; have q5 : a1 < (a0.size : Int) := dQ; have hx5 := Qb2 a0 a1; replace p5 := eq_true p5; replace q5 := eq_true q5) | ((with_reducible refine Qat (f := 53) rfl ?_); refine Qbt (some 20) rfl rfl Try.func53 (by kernel_rfl) rfl #[.int .u8 (bt a0 a1)] rfl mQ ?_; (with_reducible refine (Qbr.calls (bt a0 a1) false _ A6.o).mono ?_); rintro e w' ⟨rfl, ⟨nd, rfl⟩⟩; refine ⟨_, rfl, ?_⟩) | ((with_reducible refine Qat (f := 56) rfl ?_); refine Qbt (some 40) rfl rfl Try.func56 (by kernel_rfl) rfl #[.int .u8 (bt a0 a1)] rfl mQ ?_; (with_reducible refine (Qbo.calls (bt a0 a1) false _ A23.o).mono ?_); rintro e w' ⟨rfl, ⟨nd, rfl⟩⟩; refine ⟨_, rfl, ?_⟩) | ((with_reducible refine Qat (f := 52) rfl ?_); refine Qbt (some 72) rfl rfl Try.func52 (by kernel_rfl) rfl #[.string (⟨#[123, 125, 40, 41, 58, 59, 44, 61, 43, 45, 42]⟩ : ByteArray), .int .u8 (bt a0 a1)] rfl mQ ?_; (with_reducible refine (strings_IndexByte.calls (⟨#[123, 125, 40, 41, 58, 59, 44, 61, 43, 45, 42]⟩ : ByteArray) (bt a0 a1) t131 _ A49.o).mono ?_); rintro e w' ⟨rfl, ⟨nd, rfl⟩⟩; refine ⟨_, rfl, ?_⟩))
         have n0_ : J0 ((((((w55.setCell ⟨gb117, 0, none⟩ (.int .i64 0)).setCell ⟨gb117, 1, none⟩ (.string ⟨#[]⟩)).setCell ⟨gb117, 2, none⟩ (.int .u64 0)).setCell ⟨gb117, 3, none⟩ (.int .i64 a1)).setCell ⟨gb117, 4, none⟩ (.int .i64 0)).heap[gb116]? = some (.cells #[.int .i64 0, .string ⟨#[]⟩, .int .u64 0, .int .i64 0, .int .i64 0] 47 (0, 0))) := ⟨by (with_reducible repeat (first | apply Qag | apply Qai | apply Qah)); refine Qce ?_ NB116_117.o _; (with_reducible repeat (first | apply Qag | apply Qai | apply Qah)); refine Qce ?_ NB116_117.o _; (with_reducible repeat (first | apply Qag | apply Qai | apply Qah)); refine Qce ?_ NB116_117.o _; (with_reducible repeat (first | apply Qag | apply Qai | apply Qah)); refine Qce ?_ NB116_117.o _; (with_reducible repeat (first | apply Qag | apply Qai | apply Qah)); refine Qce ?_ NB116_117.o _; (with_reducible repeat (first | apply Qag | apply Qai | apply Qah)); exact BK116.o⟩
         have n1_ : J0 ((((((w55.setCell ⟨gb117, 0, none⟩ (.int .i64 0)).setCell ⟨gb117, 1, none⟩ (.string ⟨#[]⟩)).setCell ⟨gb117, 2, none⟩ (.int .u64 0)).setCell ⟨gb117, 3, none⟩ (.int .i64 a1)).setCell ⟨gb117, 4, none⟩ (.int .i64 0)).heap[gb117]? = some (.cells #[.int .i64 0, .string ⟨#[]⟩, .int .u64 0, .int .i64 a1, .int .i64 0] 47 (0, 0))) := ⟨by (with_reducible repeat (first | apply Qag | apply Qai | apply Qah)); apply sv5; (with_reducible repeat (first | apply Qag | apply Qai | apply Qah)); exact BK117.o⟩
         have n2_ : J0 (Below w.heap.size w (((((w55.setCell ⟨gb117, 0, none⟩ (.int .i64 0)).setCell ⟨gb117, 1, none⟩ (.string ⟨#[]⟩)).setCell ⟨gb117, 2, none⟩ (.int .u64 0)).setCell ⟨gb117, 3, none⟩ (.int .i64 a1)).setCell ⟨gb117, 4, none⟩ (.int .i64 0))) := ⟨by repeat (first | (with_reducible first | exact HB.o | apply Qab | apply Qad | apply Qaf | refine Qan ?_ GE116.o | refine Qan ?_ GE117.o) | exact HB.o)⟩
         (try clear BK116)
         (try clear BK117)
         (try clear HB)
         generalize (((((w55.setCell ⟨gb117, 0, none⟩ (.int .i64 0)).setCell ⟨gb117, 1, none⟩ (.string ⟨#[]⟩)).setCell ⟨gb117, 2, none⟩ (.int .u64 0)).setCell ⟨gb117, 3, none⟩ (.int .i64 a1)).setCell ⟨gb117, 4, none⟩ (.int .i64 0)) = w58 at n0_ n1_ n2_ ⊢
         have BK116 := n0_
         have BK117 := n1_
         have HB := n2_
         clear n0_ n1_ n2_
         (try (rw [Qb6 w58]; generalize hq_ : World.drewN w58 _ = w58; have n0_ : J0 (w58.heap[gb116]? = some (.cells #[.int .i64 0, .string ⟨#[]⟩, .int .u64 0, .int .i64 0, .int .i64 0] 47 (0, 0))) := ⟨by rw [← hq_]; exact (by (with_reducible repeat (first | apply Qag | apply Qai | apply Qah)); exact BK116.o)⟩; have n1_ : J0 (w58.heap[gb117]? = some (.cells #[.int .i64 0, .string ⟨#[]⟩, .int .u64 0, .int .i64 a1, .int .i64 0] 47 (0, 0))) := ⟨by rw [← hq_]; exact (by (with_reducible repeat (first | apply Qag | apply Qai | apply Qah)); exact BK117.o)⟩; have n2_ : J0 (Below w.heap.size w w58) := ⟨by rw [← hq_]; exact (by repeat (first | (with_reducible first | exact HB.o | apply Qab | apply Qad | apply Qaf | refine Qan ?_ GE116.o | refine Qan ?_ GE117.o) | exact HB.o))⟩; clear BK116 BK117 HB hq_; have BK116 := n0_; have BK117 := n1_; have HB := n2_; clear n0_ n1_ n2_))
         have n0_ := J0.m (Qai BK116.o)
         have n1_ := J0.m (Qai BK117.o)
         have n2_ := J0.m (Qaf HB.o)
         clear BK116
         clear BK117
         clear HB
         have BK116 := n0_
         have BK117 := n1_
         have HB := n2_
         clear n0_ n1_ n2_
         refine Qfr (n := 13) (S := fun w' => True) (ds := []) #[false, false, false, false, false, false, false, false, false, false, false, false, false] (by kernel_rfl) rfl rfl trivial (fun hHeld => ?_); refine Qmt Qbx.tab20 Qbx.bits20 (fun HT_ HW_ => ?_)
         generalize w58.drew = w59 at BK116 BK117 HB hHeld ⊢
         refine Qcd (i := 0) (N := some 74) (v := ?_) (a' := ?_) #[true, false, false, false, false, false, false, false, false, false, false, false, false] rfl rfl (Qgb HT_.o (by kernel_rfl)) (fun _ _ _ h => h) (Or.inl ⟨by rfl, ?_⟩) ?_ ?_
         rotate_left
         ·intro w'
          go_simp
          with_reducible rfl
         rotate_left
         ·simp only [Act.put, List.setIfInBounds_toArray, List.set_cons_zero, List.set_cons_succ, Qbj, Qbp]
          rfl
         refine Qcd (i := 1) (N := some 75) (v := ?_) (a' := ?_) #[true, true, false, false, false, false, false, false, false, false, false, false, false] rfl rfl (Qgb HT_.o (by kernel_rfl)) (fun _ _ _ h => h) (Or.inl ⟨by rfl, ?_⟩) ?_ ?_
         rotate_left
         ·intro w'
          go_simp
          with_reducible rfl
         rotate_left
         ·simp only [Act.put, List.setIfInBounds_toArray, List.set_cons_zero, List.set_cons_succ, Qbj, Qbp]
          rfl
         refine Qcd (i := 2) (N := some 76) (v := ?_) (a' := ?_) #[true, true, true, false, false, false, false, false, false, false, false, false, false] rfl rfl (Qgb HT_.o (by kernel_rfl)) (fun _ _ _ h => h) (Or.inl ⟨by rfl, ?_⟩) ?_ ?_
         rotate_left
         ·intro w'
          go_simp
          with_reducible rfl
         rotate_left
         ·simp only [Act.put, List.setIfInBounds_toArray, List.set_cons_zero, List.set_cons_succ, Qbj, Qbp]
          rfl
         refine Qcd (i := 3) (N := some 77) (v := ?_) (a' := ?_) #[true, true, true, true, false, false, false, false, false, false, false, false, false] rfl rfl (Qgb HT_.o (by kernel_rfl)) (fun _ _ _ h => h) (Or.inl ⟨by rfl, ?_⟩) ?_ ?_
         rotate_left
         ·intro w'
          go_simp
          with_reducible rfl
         rotate_left
         ·simp only [Act.put, List.setIfInBounds_toArray, List.set_cons_zero, List.set_cons_succ, Qbj, Qbp]
          rfl
         refine Qcd (i := 4) (N := some 78) (v := ?_) (a' := ?_) #[true, true, true, true, true, false, false, false, false, false, false, false, false] rfl rfl (Qgb HT_.o (by kernel_rfl)) (fun _ _ _ h => h) (Or.inl ⟨by rfl, ?_⟩) ?_ ?_
         rotate_left
         ·intro w'
          go_simp
          with_reducible rfl
         rotate_left
         ·simp only [Act.put, List.setIfInBounds_toArray, List.set_cons_zero, List.set_cons_succ, Qbj, Qbp]
          rfl
         refine Qcd (i := 5) (N := some 79) (v := ?_) (a' := ?_) #[true, true, true, true, true, true, false, false, false, false, false, false, false] rfl rfl (Qgb HT_.o (by kernel_rfl)) (fun _ _ _ h => h) (Or.inl ⟨by rfl, ?_⟩) ?_ ?_
         rotate_left
         ·intro w'
          go_simp
          with_reducible rfl
         rotate_left
         ·simp only [Act.put, List.setIfInBounds_toArray, List.set_cons_zero, List.set_cons_succ, Qbj, Qbp]
          rfl
         refine Qcd (i := 6) (N := some 80) (v := ?_) (a' := ?_) #[true, true, true, true, true, true, true, false, false, false, false, false, false] rfl rfl (Qgb HT_.o (by kernel_rfl)) (fun _ _ _ h => h) (Or.inl ⟨by rfl, ?_⟩) ?_ ?_
         rotate_left
         ·intro w'
          go_simp
          with_reducible rfl
         rotate_left
         ·simp only [Act.put, List.setIfInBounds_toArray, List.set_cons_zero, List.set_cons_succ, Qbj, Qbp]
          rfl
         refine Qcd (i := 7) (N := some 81) (v := ?_) (a' := ?_) #[true, true, true, true, true, true, true, true, false, false, false, false, false] rfl rfl (Qgb HT_.o (by kernel_rfl)) (fun _ _ _ h => h) (Or.inl ⟨by rfl, ?_⟩) ?_ ?_
         rotate_left
         ·intro w'
          go_simp
          with_reducible rfl
         rotate_left
         ·simp only [Act.put, List.setIfInBounds_toArray, List.set_cons_zero, List.set_cons_succ, Qbj, Qbp]
          rfl
         refine one_ (i := 8) (N := none) #[true, true, true, true, true, true, true, true, true, false, false, false, false] rfl rfl (Qnd HT_.o (by kernel_rfl)) (by decide) (fun K hK => ?_)
         have hs60 : w59.cell? ⟨gb117, 0, none⟩ = some (.int .i64 0) := (Qac BK117.o 0).trans rfl
         have hfs60 := Qaa BK117.o 0
         have hns60_0 := NB116_117.o
         have hms60_0 := NB117_116.o
         refine Qgz (w1 := ?_) (by rfl) rfl ?_ ?_
         rotate_left
         ·go_simp
          rfl
         refine hK.out _ _ trivial (fun hHeld => ?_)
         clear hK K
         refine Qcd (i := 9) (N := some 82) (v := ?_) (a' := ?_) #[true, true, true, true, true, true, true, true, true, true, false, false, false] rfl rfl (Qgb HT_.o (by kernel_rfl)) (fun _ _ _ h => h) (Or.inl ⟨by rfl, ?_⟩) ?_ ?_
         rotate_left
         ·intro w'
          go_simp
          with_reducible rfl
         rotate_left
         ·simp only [Act.put, List.setIfInBounds_toArray, List.set_cons_zero, List.set_cons_succ, Qbj, Qbp]
          rfl
         refine one_ (i := 10) (N := none) #[true, true, true, true, true, true, true, true, true, true, true, false, false] rfl rfl (Qnd HT_.o (by kernel_rfl)) (by decide) (fun K hK => ?_)
         have hs61 : w59.cell? ⟨gb117, 1, none⟩ = some (.string ⟨#[]⟩) := (Qac BK117.o 1).trans rfl
         have hfs61 := Qaa BK117.o 1
         have hns61_0 := NB116_117.o
         have hms61_0 := NB117_116.o
         refine Qgz (w1 := ?_) (by rfl) rfl ?_ ?_
         rotate_left
         ·go_simp
          rfl
         refine hK.out _ _ trivial (fun hHeld => ?_)
         clear hK K
         refine Qcd (i := 11) (N := some 83) (v := ?_) (a' := ?_) #[true, true, true, true, true, true, true, true, true, true, true, true, false] rfl rfl (Qgb HT_.o (by kernel_rfl)) (fun _ _ _ h => h) (Or.inl ⟨by rfl, ?_⟩) ?_ ?_
         rotate_left
         ·intro w'
          go_simp
          with_reducible rfl
         rotate_left
         ·simp only [Act.put, List.setIfInBounds_toArray, List.set_cons_zero, List.set_cons_succ, Qbj, Qbp]
          rfl
         refine one_ (i := 12) (N := none) #[true, true, true, true, true, true, true, true, true, true, true, true, true] rfl rfl (Qnd HT_.o (by kernel_rfl)) (by decide) (fun K hK => ?_)
         have hs62 : w59.cell? ⟨gb117, 4, none⟩ = some (.int .i64 0) := (Qac BK117.o 4).trans rfl
         have hfs62 := Qaa BK117.o 4
         have hns62_0 := NB116_117.o
         have hms62_0 := NB117_116.o
         refine Qgz (w1 := ?_) (by rfl) rfl ?_ ?_
         rotate_left
         ·go_simp
          rfl
         refine hK.out _ _ trivial (fun hHeld => ?_)
         clear hK K
         refine Qh4 (Qro HT_.o (by kernel_rfl)) ?_
         have hcz63_0 : w59.cell? ⟨gb117, 0, none⟩ = some (.int .i64 0) := (Qac BK117.o 0).trans rfl
         have hcz63_1 : w59.cell? ⟨gb117, 1, none⟩ = some (.string ⟨#[]⟩) := (Qac BK117.o 1).trans rfl
         have hcz63_2 : w59.cell? ⟨gb117, 2, none⟩ = some (.int .u64 0) := (Qac BK117.o 2).trans rfl
         have hcz63_3 : w59.cell? ⟨gb117, 3, none⟩ = some (.int .i64 a1) := (Qac BK117.o 3).trans rfl
         have hcz63_4 : w59.cell? ⟨gb117, 4, none⟩ = some (.int .i64 0) := (Qac BK117.o 4).trans rfl
         have hfz63_0 := Qaa BK117.o 0
         have hfz63_1 := Qaa BK117.o 1
         have hfz63_2 := Qaa BK117.o 2
         have hfz63_3 := Qaa BK117.o 3
         have hfz63_4 := Qaa BK117.o 4
         have hcz64_0 : w59.cell? ⟨gb116, 0, none⟩ = some (.int .i64 0) := (Qac BK116.o 0).trans rfl
         have hcz64_1 : w59.cell? ⟨gb116, 1, none⟩ = some (.string ⟨#[]⟩) := (Qac BK116.o 1).trans rfl
         have hcz64_2 : w59.cell? ⟨gb116, 2, none⟩ = some (.int .u64 0) := (Qac BK116.o 2).trans rfl
         have hcz64_3 : w59.cell? ⟨gb116, 3, none⟩ = some (.int .i64 0) := (Qac BK116.o 3).trans rfl
         have hcz64_4 : w59.cell? ⟨gb116, 4, none⟩ = some (.int .i64 0) := (Qac BK116.o 4).trans rfl
         have hfz64_0 := Qaa BK116.o 0
         have hfz64_1 := Qaa BK116.o 1
         have hfz64_2 := Qaa BK116.o 2
         have hfz64_3 := Qaa BK116.o 3
         have hfz64_4 := Qaa BK116.o 4
         try go_wp2
         refine bodyPost_ret (Qbc rfl _ _ gb116 47 #[.int .i64 4, .string (a0.extract (a1 : Int).toNat ((wrap64 (a1 + 1)) : Int).toNat), .int .u64 0, .int .i64 a1, .int .i64 (wrap64 (a1 + 1))] (0, 0) _ rfl (by (with_reducible repeat (first | apply Qag | apply Qai | apply Qah)); apply sv5; (with_reducible repeat (first | apply Qag | apply Qai | apply Qah)); refine Qce ?_ NB116_117.o _; (with_reducible repeat (first | apply Qag | apply Qai | apply Qah)); refine Qce ?_ NB116_117.o _; (with_reducible repeat (first | apply Qag | apply Qai | apply Qah)); refine Qce ?_ NB116_117.o _; (with_reducible repeat (first | apply Qag | apply Qai | apply Qah)); exact BK116.o) Try.underlying47 rfl (by kernel_rfl)) rfl ?_
         exact ⟨by first | rfl | (simp [Qax, Qaw] <;> rfl) | (simp [*, Qax, Qaw] <;> rfl), by repeat (first | (with_reducible first | exact HB.o | apply Qab | apply Qad | apply Qaf | refine Qan ?_ GE116.o | refine Qan ?_ GE117.o) | exact HB.o)⟩
        ·rw [if_neg c53] at H
         exact absurd H (by simp)
       ·rw [if_neg c52] at H
        exact absurd H (by simp)
      ·rw [if_neg c50] at H
       have c50b0 : decide (0 ≤ t131) = false := decide_eq_false c50
       clear c50
       simp only [Option.some.injEq, Prod.mk.injEq] at H
       obtain ⟨rfl, rfl, rfl, rfl, rfl, rfl, rfl⟩ := H
       go_enter Try.func35, Try.ntmps35
       go_wp2_with (first | ((with_reducible refine Qb0 (N := 4) rfl ?_); refine Qbu ?hg (N := 4) ?hd (cs := zT0) (t := 47) ?hr ?_; (case hd => rfl); (case hg => rfl); (case hr => first | (go_simp; done) | (go_simp; rfl)); intro gb116 hg w65 hbox hb; have n0_ := J0.m (Qak bR hb); have n1_ := J0.m (hbox); have n2_ := J0.m ((by rw [hg]; exact (Qbd bR) : w.heap.size ≤ gb116)); have n3_ := n2_; clear HB; have HB := n0_; have BK116 := n1_; have GW116 := n2_; have GE116 := n3_; clear n0_ n1_ n2_ n3_; clear hb hbox hg) | ((with_reducible refine Qb0 (N := 7) rfl ?_); refine Qbu ?hg (N := 7) ?hd (cs := zT0) (t := 47) ?hr ?_; (case hd => rfl); (case hg => rfl); (case hr => first | (go_simp; done) | (go_simp; rfl)); intro gb117 hg w66 hbox hb; have n0_ := J0.m (Qae (g := gb116) (o := .cells #[.int .i64 0, .string ⟨#[]⟩, .int .u64 0, .int .i64 0, .int .i64 0] 47 (0, 0)) (by (with_reducible repeat (first | apply Qag | apply Qai | apply Qah)); exact BK116.o) hb); have n1_ := J0.m (Qak (by repeat (first | (with_reducible first | exact HB.o | apply Qab | apply Qad | apply Qaf | refine Qan ?_ GE116.o) | exact HB.o)) hb); have n2_ := J0.m (hbox); have n3_ := J0.m ((by rw [hg]; exact (Qbd (by repeat (first | (with_reducible first | exact HB.o | apply Qab | apply Qad | apply Qaf | refine Qan ?_ GE116.o) | exact HB.o))) : w.heap.size ≤ gb117)); have n4_ := n3_; have n5_ := J0.m ((by rw [hg]; exact Nat.ne_of_lt (Qb3 (g := gb116) (o := .cells #[.int .i64 0, .string ⟨#[]⟩, .int .u64 0, .int .i64 0, .int .i64 0] 47 (0, 0)) (by (with_reducible repeat (first | apply Qag | apply Qai | apply Qah)); exact BK116.o)) : gb116 ≠ gb117)); have n6_ := J0.m ((by rw [hg]; exact Nat.ne_of_gt (Qb3 (g := gb116) (o := .cells #[.int .i64 0, .string ⟨#[]⟩, .int .u64 0, .int .i64 0, .int .i64 0] 47 (0, 0)) (by (with_reducible repeat (first | apply Qag | apply Qai | apply Qah)); exact BK116.o)) : gb117 ≠ gb116)); clear BK116; clear HB; have BK116 := n0_; have HB := n1_; have BK117 := n2_; have GW117 := n3_; have GE117 := n4_; have NB116_117 := n5_; have NB117_116 := n6_; clear n0_ n1_ n2_ n3_ n4_ n5_ n6_; clear hb hbox hg; have hnb67 := NB117_116.o; have hnc67 := NB116_117.o; obtain ⟨hcz68_0, hcz68_1, hcz68_2, hcz68_3, hcz68_4⟩ := (bx5 BK117.o); have hfz68_0 := Qaa BK117.o 0; have hfz68_1 := Qaa BK117.o 1; have hfz68_2 := Qaa BK117.o 2; have hfz68_3 := Qaa BK117.o 3; have hfz68_4 := Qaa BK117.o 4; have p5 : 0 ≤ (a1 : Int) := dQ; have q5 : a1 < (a0.size : Int) := dQ; have hx5 := Qb2 a0 a1; replace p5 := eq_true p5; replace q5 := eq_true q5) | ((with_reducible refine Qat (f := 53) rfl ?_); refine Qbt (some 20) rfl rfl Try.func53 (by kernel_rfl) rfl #[.int .u8 (bt a0 a1)] rfl mQ ?_; (with_reducible refine (Qbr.calls (bt a0 a1) false _ A6.o).mono ?_); rintro e w' ⟨rfl, ⟨nd, rfl⟩⟩; refine ⟨_, rfl, ?_⟩) | ((with_reducible refine Qat (f := 56) rfl ?_); refine Qbt (some 40) rfl rfl Try.func56 (by kernel_rfl) rfl #[.int .u8 (bt a0 a1)] rfl mQ ?_; (with_reducible refine (Qbo.calls (bt a0 a1) false _ A23.o).mono ?_); rintro e w' ⟨rfl, ⟨nd, rfl⟩⟩; refine ⟨_, rfl, ?_⟩) | ((with_reducible refine Qat (f := 52) rfl ?_); refine Qbt (some 72) rfl rfl Try.func52 (by kernel_rfl) rfl #[.string (⟨#[123, 125, 40, 41, 58, 59, 44, 61, 43, 45, 42]⟩ : ByteArray), .int .u8 (bt a0 a1)] rfl mQ ?_; (with_reducible refine (strings_IndexByte.calls (⟨#[123, 125, 40, 41, 58, 59, 44, 61, 43, 45, 42]⟩ : ByteArray) (bt a0 a1) t131 _ A49.o).mono ?_); rintro e w' ⟨rfl, ⟨nd, rfl⟩⟩; refine ⟨_, rfl, ?_⟩; obtain ⟨hcz69_0, hcz69_1, hcz69_2, hcz69_3, hcz69_4⟩ := (bx5 BK116.o); have hfz69_0 := Qaa BK116.o 0; have hfz69_1 := Qaa BK116.o 1; have hfz69_2 := Qaa BK116.o 2; have hfz69_3 := Qaa BK116.o 3; have hfz69_4 := Qaa BK116.o 4))
       refine bodyPost_ret (Qbc rfl _ _ gb116 47 #[.int .i64 0, .string ⟨#[]⟩, .int .u64 0, .int .i64 a1, .int .i64 0] (0, 0) _ rfl (by (with_reducible repeat (first | apply Qag | apply Qai | apply Qah)); apply sv5; (with_reducible repeat (first | apply Qag | apply Qai | apply Qah)); refine Qce ?_ NB116_117.o _; (with_reducible repeat (first | apply Qag | apply Qai | apply Qah)); refine Qce ?_ NB116_117.o _; (with_reducible repeat (first | apply Qag | apply Qai | apply Qah)); refine Qce ?_ NB116_117.o _; (with_reducible repeat (first | apply Qag | apply Qai | apply Qah)); refine Qce ?_ NB116_117.o _; (with_reducible repeat (first | apply Qag | apply Qai | apply Qah)); refine Qce ?_ NB116_117.o _; (with_reducible repeat (first | apply Qag | apply Qai | apply Qah)); exact BK116.o) Try.underlying47 rfl (by kernel_rfl)) rfl ?_
       exact ⟨by first | rfl | (simp [Qax, Qaw] <;> rfl) | (simp [*, Qax, Qaw] <;> rfl), by repeat (first | (with_reducible first | exact HB.o | apply Qab | apply Qad | apply Qaf | refine Qan ?_ GE116.o | refine Qan ?_ GE117.o) | exact HB.o)⟩
  ·rw [if_neg c4] at H
   exact absurd H (by simp)
 ·rw [if_neg c3] at H
  exact absurd H (by simp)
def Qbw.l0 : Nat → ByteArray → List (S47) → Int → Option ((List (S47)) × Int × Int)
 | 0, _, _, _ => none
 | k + 1, x0, x5, x6 => if x6 < (x0.size : Int) then ((Qbx.f k x0 x6).bind fun bt136 => (if bt136.2.2.2.2.2.2 = 0 then (if x5.length < 2932031007402 then ((Qa9.f k x0 bt136.2.2.2.2.1).bind fun t147 => (Qbw.l0 k x0 (x5 ++ [(⟨bt136.1, bt136.2.1, bt136.2.2.1, bt136.2.2.2.1, bt136.2.2.2.2.1⟩ : S47)]) t147)) else (none)) else (some (([] : List (S47)), bt136.2.2.2.2.2.1, bt136.2.2.2.2.2.2)))) else (if x5.length < 2932031007402 then (some ((x5 ++ [(⟨0, (⟨#[]⟩ : ByteArray), 0, (x0.size : Int), (x0.size : Int)⟩ : S47)]), 0, 0)) else (none))
def Qbw.f (k : Nat) (a0 : ByteArray) : Option ((List (S47)) × Int × Int) := if (a0.size : Int) > 1048576 then (some (([] : List (S47)), 0, 2)) else ((Qa9.f k a0 0).bind fun t132 => (Qbw.l0 k a0 ([] : List (S47)) t132))
theorem Qbw.Qe1 : ∀ k, (∀ y0 y1 y2, LeO (Qbw.l0 k y0 y1 y2) (Qbw.l0 (k + 1) y0 y1 y2))
 | 0 => fun _ _ _ r h => by simp [Qbw.l0] at h
 | k + 1 => by
  have ih0 := Qbw.Qe1 k
  ·intro y0 y1 y2
   unfold Qbw.l0
   repeat' first
   | (with_reducible exact ih0 _ _ _)
   | (with_reducible exact Qa9.mono _ _ _)
   | (with_reducible exact Qbx.mono _ _ _)
   | (with_reducible exact LeO.refl _)
   | (with_reducible exact LeO.none _)
   | (with_reducible refine LeO.ite ?_ ?_)
   | (with_reducible refine LeO.bind ?_ (fun _ => ?_))
   | exact ih0 _ _ _
   | exact Qa9.mono _ _ _
   | exact Qbx.mono _ _ _
   | exact LeO.none _
   | refine LeO.ite ?_ ?_
   | refine LeO.bind ?_ (fun _ => ?_)
theorem Qbw.mono : ∀ a0 k, LeO (Qbw.f k a0) (Qbw.f (k + 1) a0) := by
 intro a0 k
 have ih0 := Qbw.Qe1 k
 unfold Qbw.f
 repeat' first
   | (with_reducible exact ih0 _ _ _)
   | (with_reducible exact Qa9.mono _ _ _)
   | (with_reducible exact Qbx.mono _ _ _)
   | (with_reducible exact LeO.refl _)
   | (with_reducible exact LeO.none _)
   | (with_reducible refine LeO.ite ?_ ?_)
   | (with_reducible refine LeO.bind ?_ (fun _ => ?_))
   | exact ih0 _ _ _
   | exact Qa9.mono _ _ _
   | exact Qbx.mono _ _ _
   | exact LeO.none _
   | refine LeO.ite ?_ ?_
   | refine LeO.bind ?_ (fun _ => ?_)
theorem Qbw.calls (k : Nat) (a0 : ByteArray) (r1 : List (S47)) (r2 : Int) (r3 : Int) (w : World) (h : Qbw.f k a0 = some (r1, r2, r3)) :
  Calls Try.prog 18 #[.string a0] w fun e w' => ∃ v0_ : Value, e = .returned (.tuple #[v0_, .int .i64 r2, .int .i64 r3]) ∧ Kd.R k47 47 w' w.heap.size (fun _ => True) v0_ r1 ∧ Below w.heap.size w w' := by
 have hu47 := Try.underlying47
 have HB := J0.m (Below.refl w.heap.size w)
 have H : (if (a0.size : Int) > 1048576 then (some (([] : List (S47)), 0, 2)) else ((Qa9.f k a0 0).bind fun t132 => (Qbw.l0 k a0 ([] : List (S47)) t132))) = some (r1, r2, r3) := h
 clear h
 by_cases c2 : (a0.size : Int) > 1048576
 ·rw [if_pos c2] at H
  have c2b0 : decide (1048576 < (a0.size : Int)) = true := decide_eq_true c2
  have c2b1 : decide (1048576 < a0.size) = true := decide_eq_true (by omega)
  clear c2
  simp only [Option.some.injEq, Prod.mk.injEq] at H
  obtain ⟨rfl, rfl, rfl⟩ := H
  go_enter Try.func18, Try.ntmps18
  go_wp2
  go_ret3
  exact ⟨_, by first | rfl | (simp [Qax, Qaw] <;> rfl) | (simp [*, Qax, Qaw] <;> rfl), by first | exact Kd.Qdd _ _ _ _ _ | exact Kd.Qkg _ _ _ _ _ | exact Kd.Qkc _ _ _ _ _ | exact Kd.Qkf _ _ _ _ _ | exact Kd.Qkd _ _ _ _ _, bR⟩
 ·rw [if_neg c2] at H
  have c2b0 : decide (1048576 < (a0.size : Int)) = false := decide_eq_false c2
  have c2b1 : decide (1048576 < a0.size) = false := decide_eq_false (by omega)
  clear c2
  replace H := Option.bind_eq_some_iff.mp H
  obtain ⟨t132, A30, H⟩ := H
  replace H : (Qbw.l0 k a0 ([] : List (S47)) t132) = some (r1, r2, r3) := H
  have A3 := J0.m A30
  clear A30
  have H' := J0.m H
  clear H
  go_enter Try.func18, Try.ntmps18
  go_wp2_with (first | ((with_reducible refine Qat (f := 34) rfl ?_); refine Qbt (some 14) rfl rfl Try.func34 (by kernel_rfl) rfl #[.string a0, .int .i64 0] rfl mQ ?_; (with_reducible refine (Qa9.calls k a0 0 t132 _ A3.o).mono ?_); rintro e w' ⟨rfl, ⟨nd, rfl⟩⟩; refine ⟨_, rfl, ?_⟩))
  go_loopg [5, 6] k (fun kq v5 v6 w' => ∃ (x5_1 : List (S47)) (x6_1 : Int), v6 = .int .i64 x6_1 ∧ J0 (Qbw.l0 kq a0 x5_1 x6_1 = some (r1, r2, r3)) ∧ J0 (kq ≤ k) ∧ J0 (Kd.R k47 47 w' w.heap.size (fun _ => True) v5 x5_1) ∧ J0 (Below w.heap.size w w'))
  case atStart => exact ⟨(([] : List (S47))), (t132), (by first | rfl | (simp; done) | (simp [*]; done)), H', ⟨Nat.le_refl _⟩, ⟨by first | exact Kd.Qdd _ _ _ _ _ | exact Kd.Qkg _ _ _ _ _ | exact Kd.Qkc _ _ _ _ _ | exact Kd.Qkf _ _ _ _ _ | exact Kd.Qkd _ _ _ _ _⟩, ⟨bR⟩⟩
  case round =>
   clear H'
   try clear c1
   try clear c2
   try clear c2b0
   try clear c2b1
   try clear p2
   try clear c3
   obtain ⟨x5_1, x6_1, rfl, HA, HK1, HO_5, HB⟩ := hrel
   cases gk with
   | zero => exact absurd HA.o (by simp [Qbw.l0])
   | succ k1 =>
    have H := HA.o
    clear HA
    simp only [Qbw.l0] at H
    by_cases c4 : x6_1 < (a0.size : Int)
    ·rw [if_pos c4] at H
     have c4b0 : decide (x6_1 < (a0.size : Int)) = true := decide_eq_true c4
     clear c4
     replace H := Option.bind_eq_some_iff.mp H
     obtain ⟨⟨t136, t137, t138, t139, t140, t141, t142⟩, A50, H⟩ := H
     replace H : (if t142 = 0 then (if x5_1.length < 2932031007402 then ((Qa9.f k1 a0 t140).bind fun t147 => (Qbw.l0 k1 a0 (x5_1 ++ [(⟨t136, t137, t138, t139, t140⟩ : S47)]) t147)) else (none)) else (some (([] : List (S47)), t141, t142))) = some (r1, r2, r3) := H
     have A5 := J0.m A50
     clear A50
     by_cases c6 : t142 = 0
     ·rw [if_pos c6] at H
      have c6b0 : (t142 == 0) = true := beq_iff_eq.mpr c6
      have c6b1 : (t142 != 0) = false := bne_eq_false_iff_eq.mpr c6
      clear c6
      by_cases c7 : x5_1.length < 2932031007402
      ·rw [if_pos c7] at H
       have LMc7 := J0.m c7
       clear c7
       obtain ⟨y144, hy144⟩ : ∃ y_ : List (S47), y_ = (x5_1 ++ [(⟨t136, t137, t138, t139, t140⟩ : S47)]) := ⟨_, rfl⟩
       replace H : ((Qa9.f k1 a0 t140).bind fun t147 => (Qbw.l0 k1 a0 y144 t147)) = some (r1, r2, r3) := by first | (rw [hy144]; with_reducible exact H) | (have H2_ := (Option.bind_some _ _).symm.trans H; rw [hy144]; with_reducible exact H2_) | (have H2_ := (Option.bind_some _ _).symm.trans H; with_reducible exact H2_) | with_reducible exact H | (rw [hy144]; exact H) | exact H
       have Ny144 := J0.m hy144
       clear hy144
       replace H := Option.bind_eq_some_iff.mp H
       obtain ⟨t147, A80, H⟩ := H
       replace H : (Qbw.l0 k1 a0 y144 t147) = some (r1, r2, r3) := H
       have A8 := J0.m A80
       clear A80
       have H' := J0.m H
       clear H
       go_wp2_with (first | ((with_reducible refine Qat (f := 35) rfl ?_); refine Qbt (some 22) rfl rfl Try.func35 (by kernel_rfl) rfl #[.string a0, .int .i64 x6_1] rfl mQ ?_; (with_reducible refine (Qbx.calls k1 a0 x6_1 t136 t137 t138 t139 t140 t141 t142 _ A5.o).mono ?_); rintro e w9 ⟨rfl, hb⟩; refine ⟨_, rfl, ?_⟩; have n0_ := J0.m (Kd.Qb4 (by (with_reducible repeat (first | apply Kd.Qb8 | apply Kd.Qb7 | apply Kd.Qcl)); exact HO_5.o) hb); have n1_ := J0.m (Qak bR hb); clear HO_5; clear HB; have HO_5 := n0_; have HB := n1_; clear n0_ n1_; (try clear hb); (try clear hb2); (try clear hk); (try clear hi)) | ((with_reducible refine Qb0 (N := 7) rfl ?_); refine Qbu ?hg (N := 7) ?hd (cs := zT0) (t := 47) ?hr ?_; (case hd => rfl); (case hg => rfl); (case hr => first | (go_simp; done) | (go_simp; rfl)); intro gb143 hg w10 hbox hb; have n0_ := J0.m (Kd.Qb4 (Kd.Qhj (by (with_reducible repeat (first | apply Kd.Qb8 | apply Kd.Qb7 | apply Kd.Qcl)); exact HO_5.o) gb143 (Nat.le_of_eq hg.symm)) hb); have n1_ := J0.m (Qak bR hb); have n2_ := J0.m (hbox); have n3_ := J0.m ((by rw [hg]; exact (Qbd bR) : w.heap.size ≤ gb143)); have n4_ := n3_; clear HO_5; clear HB; have HO_5 := n0_; have HB := n1_; have BK143 := n2_; have GW143 := n3_; have GE143 := n4_; clear n0_ n1_ n2_ n3_ n4_; clear hb hbox hg; have hcz11_0 : w10.cell? ⟨gb143, 0, none⟩ = some (.int .i64 0) := (Qac BK143.o 0).trans rfl; have hcz11_1 : w10.cell? ⟨gb143, 1, none⟩ = some (.string ⟨#[]⟩) := (Qac BK143.o 1).trans rfl; have hcz11_2 : w10.cell? ⟨gb143, 2, none⟩ = some (.int .u64 0) := (Qac BK143.o 2).trans rfl; have hcz11_3 : w10.cell? ⟨gb143, 3, none⟩ = some (.int .i64 0) := (Qac BK143.o 3).trans rfl; have hcz11_4 : w10.cell? ⟨gb143, 4, none⟩ = some (.int .i64 0) := (Qac BK143.o 4).trans rfl; have hfz11_0 := Qaa BK143.o 0; have hfz11_1 := Qaa BK143.o 1; have hfz11_2 := Qaa BK143.o 2; have hfz11_3 := Qaa BK143.o 3; have hfz11_4 := Qaa BK143.o 4) | ((with_reducible refine Qcu (b := .append) (xs := #[.tmp 30, .tmp 32]) rfl ?_); at_builtin; refine Kd.Qem k47 (w0 := w) w.heap.size rfl (.tmp 30) (.tmp 32) 37 47 (.agg #[(.int .i64 0), (.string ⟨#[]⟩), (.int .u64 0), (.int .i64 0), (.int .i64 0)]) 48 rfl Try.underlying37 Ql2 rfl (by decide) (by omega) u5 x5_1 (⟨t136, t137, t138, t139, t140⟩ : S47) [.int .i64 t136, .string t137, .int .u64 t138, .int .i64 t139, .int .i64 t140] (fun k_ => k_ ≠ gb143) (fun _ => False) rfl (by first | (go_simp; done) | (go_simp; rfl)) ?aP (fun _ hk => hk.elim) ?aF ?aO ?aB ?aS ?aL ?_; (case aP => exact Qjd _ _ _ (⟨t136, t137, t138, t139, t140⟩ : S47)); (case aB => exact (by repeat (first | (with_reducible first | exact HB.o | apply Qab | apply Qad | apply Qaf | refine Qan ?_ GE143.o) | exact HB.o))); (case aF => exact (fun k_ hk => Kd.Qqc (g := gb143) (o := .cells #[.int .i64 t136, .string t137, .int .u64 t138, .int .i64 t139, .int .i64 t140] 47 (0, 0)) (by (with_reducible repeat (first | apply Qag | apply Qai | apply Qah)); apply sv5; (with_reducible repeat (first | apply Qag | apply Qai | apply Qah)); exact BK143.o) k_ hk)); (case aO => exact (by (with_reducible repeat (first | apply Kd.Qb8 | apply Kd.Qb7 | apply Kd.Qcl)); exact Kd.Qe4 (Kd.Qh9 (p := ⟨gb143, 4, none⟩) (Kd.Qh9 (p := ⟨gb143, 3, none⟩) (Kd.Qh9 (p := ⟨gb143, 2, none⟩) (Kd.Qh9 (p := ⟨gb143, 1, none⟩) (Kd.Qh9 (p := ⟨gb143, 0, none⟩) (Kd.Qe4 HO_5.o (fun k_ hk => (⟨hk, hk.2⟩ : _ ∧ k_ ≠ gb143))) (fun _ hk => hk.2) (.int .i64 t136)) (fun _ hk => hk.2) (.string t137)) (fun _ hk => hk.2) (.int .u64 t138)) (fun _ hk => hk.2) (.int .i64 t139)) (fun _ hk => hk.2) (.int .i64 t140)) (fun _ hk => hk.1.2))); (case aS => exact (Qbd (by repeat (first | (with_reducible first | exact HB.o | apply Qab | apply Qad | apply Qaf | refine Qan ?_ GE143.o) | exact HB.o)))); (case aL => have := LMc7.o; omega); intro v145 w12 ho hb hg hat; rw [← Ny144.o] at ho; have n0_ := J0.m (Qbh (g := gb143) (o := .cells #[.int .i64 t136, .string t137, .int .u64 t138, .int .i64 t139, .int .i64 t140] 47 (0, 0)) (by (with_reducible repeat (first | apply Qag | apply Qai | apply Qah)); apply sv5; (with_reducible repeat (first | apply Qag | apply Qai | apply Qah)); exact BK143.o) hg (Kd.Qqk HO_5.o (fun _ hk => hk.2))); have n1_ := J0.m (hb); have n2_ := J0.m (ho); clear BK143; clear HB; clear HO_5; have BK143 := n0_; have HB := n1_; have HO146 := n2_; clear n0_ n1_ n2_; clear ho hb hg hat; obtain ⟨hcz13_0, hcz13_1, hcz13_2, hcz13_3, hcz13_4⟩ := (bx5 BK143.o); have hfz13_0 := Qaa BK143.o 0; have hfz13_1 := Qaa BK143.o 1; have hfz13_2 := Qaa BK143.o 2; have hfz13_3 := Qaa BK143.o 3; have hfz13_4 := Qaa BK143.o 4) | ((with_reducible refine Qat (f := 34) rfl ?_); refine Qbt (some 37) rfl rfl Try.func34 (by kernel_rfl) rfl #[.string a0, .int .i64 t140] rfl mQ ?_; (with_reducible refine (Qa9.calls k1 a0 t140 t147 _ A8.o).mono ?_); rintro e w' ⟨rfl, ⟨nd, rfl⟩⟩; refine ⟨_, rfl, ?_⟩))
       go_roundg k1
       case measure => have := HK1.o; omega
       case rel => exact ⟨(y144), (t147), (by first | rfl | (simp; done) | (simp [*]; done)), H', ⟨by have := HK1.o; omega⟩, ⟨by (with_reducible repeat (first | apply Kd.Qb8 | apply Kd.Qb7 | apply Kd.Qcl)); exact Kd.Qe4 HO146.o (fun _ hk => trivial)⟩, ⟨by repeat (first | (with_reducible first | exact HB.o | apply Qab | apply Qad | apply Qaf | refine Qan ?_ GE143.o) | exact HB.o)⟩⟩
      ·rw [if_neg c7] at H
       exact absurd H (by simp)
     ·rw [if_neg c6] at H
      have c6b0 : (t142 == 0) = false := beq_eq_false_iff_ne.mpr c6
      have c6b1 : (t142 != 0) = true := bne_iff_ne.mpr c6
      simp only [Option.some.injEq, Prod.mk.injEq] at H
      obtain ⟨rfl, rfl, rfl⟩ := H
      go_wp2_with (first | ((with_reducible refine Qat (f := 35) rfl ?_); refine Qbt (some 22) rfl rfl Try.func35 (by kernel_rfl) rfl #[.string a0, .int .i64 x6_1] rfl mQ ?_; (with_reducible refine (Qbx.calls k1 a0 x6_1 t136 t137 t138 t139 t140 t141 t142 _ A5.o).mono ?_); rintro e w14 ⟨rfl, hb⟩; refine ⟨_, rfl, ?_⟩; have n0_ := J0.m (Kd.Qb4 (by (with_reducible repeat (first | apply Kd.Qb8 | apply Kd.Qb7 | apply Kd.Qcl)); exact HO_5.o) hb); have n1_ := J0.m (Qak bR hb); clear HO_5; clear HB; have HO_5 := n0_; have HB := n1_; clear n0_ n1_; (try clear hb); (try clear hb2); (try clear hk); (try clear hi)) | ((with_reducible refine Qb0 (N := 7) rfl ?_); refine Qbu ?hg (N := 7) ?hd (cs := zT0) (t := 47) ?hr ?_; (case hd => rfl); (case hg => rfl); (case hr => first | (go_simp; done) | (go_simp; rfl)); intro gb143 hg w15 hbox hb; have n0_ := J0.m (Kd.Qb4 (Kd.Qhj (by (with_reducible repeat (first | apply Kd.Qb8 | apply Kd.Qb7 | apply Kd.Qcl)); exact HO_5.o) gb143 (Nat.le_of_eq hg.symm)) hb); have n1_ := J0.m (Qak bR hb); have n2_ := J0.m (hbox); have n3_ := J0.m ((by rw [hg]; exact (Qbd bR) : w.heap.size ≤ gb143)); have n4_ := n3_; clear HO_5; clear HB; have HO_5 := n0_; have HB := n1_; have BK143 := n2_; have GW143 := n3_; have GE143 := n4_; clear n0_ n1_ n2_ n3_ n4_; clear hb hbox hg; obtain ⟨hcz16_0, hcz16_1, hcz16_2, hcz16_3, hcz16_4⟩ := (bx5 BK143.o); have hfz16_0 := Qaa BK143.o 0; have hfz16_1 := Qaa BK143.o 1; have hfz16_2 := Qaa BK143.o 2; have hfz16_3 := Qaa BK143.o 3; have hfz16_4 := Qaa BK143.o 4))
      go_ret3
      exact ⟨_, by first | rfl | (simp [Qax, Qaw] <;> rfl) | (simp [*, Qax, Qaw] <;> rfl), by first | exact Kd.Qdd _ _ _ _ _ | exact Kd.Qkg _ _ _ _ _ | exact Kd.Qkc _ _ _ _ _ | exact Kd.Qkf _ _ _ _ _ | exact Kd.Qkd _ _ _ _ _, by repeat (first | (with_reducible first | exact HB.o | apply Qab | apply Qad | apply Qaf | refine Qan ?_ GE143.o) | exact HB.o)⟩
    ·rw [if_neg c4] at H
     have c4b0 : decide (x6_1 < (a0.size : Int)) = false := decide_eq_false c4
     clear c4
     by_cases c17 : x5_1.length < 2932031007402
     ·rw [if_pos c17] at H
      have LMc17 := J0.m c17
      clear c17
      obtain ⟨y133, hy133⟩ : ∃ y_ : List (S47), y_ = (x5_1 ++ [(⟨0, (⟨#[]⟩ : ByteArray), 0, (a0.size : Int), (a0.size : Int)⟩ : S47)]) := ⟨_, rfl⟩
      replace H : (some (y133, 0, 0)) = some (r1, r2, r3) := by first | (rw [hy133]; with_reducible exact H) | (have H2_ := (Option.bind_some _ _).symm.trans H; rw [hy133]; with_reducible exact H2_) | (have H2_ := (Option.bind_some _ _).symm.trans H; with_reducible exact H2_) | with_reducible exact H | (rw [hy133]; exact H) | exact H
      have Ny133 := J0.m hy133
      clear hy133
      simp only [Option.some.injEq, Prod.mk.injEq] at H
      obtain ⟨rfl, rfl, rfl⟩ := H
      go_wp2_with (first | ((with_reducible refine Qcu (b := .append) (xs := #[.tmp 38, .tmp 44]) rfl ?_); at_builtin; refine Kd.Qem k47 (w0 := w) w.heap.size rfl (.tmp 38) (.tmp 44) 37 47 (.agg #[(.int .i64 0), (.string ⟨#[]⟩), (.int .u64 0), (.int .i64 0), (.int .i64 0)]) 48 rfl Try.underlying37 Ql2 rfl (by decide) (by omega) u5 x5_1 (⟨0, (⟨#[]⟩ : ByteArray), 0, (a0.size : Int), (a0.size : Int)⟩ : S47) [.int .i64 0, .string ⟨#[]⟩, .int .u64 0, .int .i64 (a0.size : Int), .int .i64 (a0.size : Int)] (fun _ => True) (fun _ => False) rfl rfl ?aP (fun _ hk => hk.elim) ?aF ?aO ?aB ?aS ?aL ?_; (case aP => exact Qjd _ _ _ (⟨0, (⟨#[]⟩ : ByteArray), 0, (a0.size : Int), (a0.size : Int)⟩ : S47)); (case aB => exact bR); (case aF => exact (fun _ _ => trivial)); (case aO => exact (by (with_reducible repeat (first | apply Kd.Qb8 | apply Kd.Qb7 | apply Kd.Qcl)); exact HO_5.o)); (case aS => exact (Qbd bR)); (case aL => have := LMc17.o; omega); intro v134 w18 ho hb hg hat; rw [← Ny133.o] at ho; have n0_ := J0.m (hb); have n1_ := J0.m (ho); clear HB; clear HO_5; have HB := n0_; have HO135 := n1_; clear n0_ n1_; clear ho hb hg hat))
      go_ret3
      exact ⟨_, by first | rfl | (simp [Qax, Qaw] <;> rfl) | (simp [*, Qax, Qaw] <;> rfl), by (with_reducible repeat (first | apply Kd.Qb8 | apply Kd.Qb7 | apply Kd.Qcl)); exact HO135.o, bR⟩
     ·rw [if_neg c17] at H
      exact absurd H (by simp)
def Qb5.f (a0 : Int) : Option (Bool) := if a0 = 32 then (some true) else (if a0 = 9 then (some true) else (if a0 = 10 then (some true) else (some (a0 == 13))))
theorem Qb5.calls (a0 : Int) (r : Bool) (w : World) (h : Qb5.f a0 = some r) :
  Calls Try.prog 63 #[.int .u8 a0] w fun e w' => e = .returned (.bool r) ∧ Qbe w w' := by
 have H : (if a0 = 32 then (some true) else (if a0 = 9 then (some true) else (if a0 = 10 then (some true) else (some (a0 == 13))))) = some r := h
 clear h
 by_cases c2 : a0 = 32
 ·rw [if_pos c2] at H
  have c2b0 : (a0 == 32) = true := beq_iff_eq.mpr c2
  have c2b1 : (a0 != 32) = false := bne_eq_false_iff_eq.mpr c2
  clear c2
  obtain rfl := Option.some.inj H
  go_enter Try.func63, Try.ntmps63
  go_wp2
  go_ret
  exact eQ
 ·rw [if_neg c2] at H
  have c2b0 : (a0 == 32) = false := beq_eq_false_iff_ne.mpr c2
  have c2b1 : (a0 != 32) = true := bne_iff_ne.mpr c2
  by_cases c3 : a0 = 9
  ·rw [if_pos c3] at H
   have c3b0 : (a0 == 9) = true := beq_iff_eq.mpr c3
   have c3b1 : (a0 != 9) = false := bne_eq_false_iff_eq.mpr c3
   clear c3
   obtain rfl := Option.some.inj H
   go_enter Try.func63, Try.ntmps63
   go_wp2
   go_ret
   exact eQ
  ·rw [if_neg c3] at H
   have c3b0 : (a0 == 9) = false := beq_eq_false_iff_ne.mpr c3
   have c3b1 : (a0 != 9) = true := bne_iff_ne.mpr c3
   by_cases c4 : a0 = 10
   ·rw [if_pos c4] at H
    have c4b0 : (a0 == 10) = true := beq_iff_eq.mpr c4
    have c4b1 : (a0 != 10) = false := bne_eq_false_iff_eq.mpr c4
    clear c4
    obtain rfl := Option.some.inj H
    go_enter Try.func63, Try.ntmps63
    go_wp2
    go_ret
    exact eQ
   ·rw [if_neg c4] at H
    have c4b0 : (a0 == 10) = false := beq_eq_false_iff_ne.mpr c4
    have c4b1 : (a0 != 10) = true := bne_iff_ne.mpr c4
    obtain rfl := Option.some.inj H
    go_enter Try.func63, Try.ntmps63
    go_wp2
    go_ret
    exact eQ
mutual
def Qap.l0 : Nat → ByteArray → Int → Option (Int)
 | 0, _, _ => none
 | k + 1, x0, x1 => if x1 < (x0.size : Int) then (if 0 ≤ x1 then ((Qb5.f (bt x0 x1)).bind fun t148 => (if t148 = true then (Qap.l0 k x0 (wrap64 (x1 + 1))) else (if (bt x0 x1) = 35 then (Qap.l1 k x0 x1) else (some x1)))) else (none)) else (some x1)
def Qap.l1 : Nat → ByteArray → Int → Option (Int)
 | 0, _, _ => none
 | k + 1, x0, x1 => if x1 < (x0.size : Int) then (if 0 ≤ x1 then (if (bt x0 x1) = 10 then (Qap.l0 k x0 x1) else (Qap.l1 k x0 (wrap64 (x1 + 1)))) else (none)) else (Qap.l0 k x0 x1)
end
def Qap.f (k : Nat) (a0 : ByteArray) (a1 : Int) : Option (Int) := Qap.l0 k a0 a1
theorem Qap.calls (k : Nat) (a0 : ByteArray) (a1 : Int) (r : Int) (w : World) (h : Qap.f k a0 a1 = some r) :
  Calls Try.prog 41 #[.string a0, .int .i64 a1] w fun e w' => e = .returned (.int .i64 r) ∧ Qbe w w' := by
 have H : (Qap.l0 k a0 a1) = some r := h
 clear h
 have H' := J0.m H
 clear H
 go_enter Try.func41, Try.ntmps41
 go_wp2
 go_loopg [1] k (fun kq v1 w' => ∃ (x1_1 : Int), v1 = .int .i64 x1_1 ∧ J0 (Qap.l0 kq a0 x1_1 = some r) ∧ J0 (kq ≤ k) ∧ Qbe w w')
 case atStart => exact ⟨(a1), (by first | rfl | (simp; done) | (simp [*]; done)), H', ⟨Nat.le_refl _⟩, dR⟩
 case round =>
  clear H'
  try clear p2
  obtain ⟨x1_1, rfl, HA, HK1, ⟨m1, rfl⟩⟩ := hrel
  cases gk with
  | zero => exact absurd HA.o (by simp [Qap.l0])
  | succ k1 =>
   have H := HA.o
   clear HA
   simp only [Qap.l0] at H
   by_cases c3 : x1_1 < (a0.size : Int)
   ·rw [if_pos c3] at H
    have c3b0 : decide (x1_1 < (a0.size : Int)) = true := decide_eq_true c3
    clear c3
    by_cases c4 : 0 ≤ x1_1
    ·rw [if_pos c4] at H
     have c4b0 : decide (0 ≤ x1_1) = true := decide_eq_true c4
     clear c4
     replace H := Option.bind_eq_some_iff.mp H
     obtain ⟨t148, A60, H⟩ := H
     replace H : (if t148 = true then (Qap.l0 k1 a0 (wrap64 (x1_1 + 1))) else (if (bt a0 x1_1) = 35 then (Qap.l1 k1 a0 x1_1) else (some x1_1))) = some r := H
     have A6 := J0.m A60
     clear A60
     by_cases c7 : t148 = true
     ·subst c7
      have H1 : (Qap.l0 k1 a0 (wrap64 (x1_1 + 1))) = some r := by rw [if_pos rfl] at H; exact H
      clear H
      have H := H1
      clear H1
      have H' := J0.m H
      clear H
      have p5 : 0 ≤ (x1_1 : Int) := dQ
      have q5 : x1_1 < (a0.size : Int) := dQ
      have hx5 := Qb2 a0 x1_1
      replace p5 := eq_true p5
      replace q5 := eq_true q5
      go_wp2_with (first | ((with_reducible refine Qat (f := 63) rfl ?_); refine Qbt (some 14) rfl rfl Try.func63 (by kernel_rfl) rfl #[.int .u8 (bt a0 x1_1)] rfl mQ ?_; (with_reducible refine (Qb5.calls (bt a0 x1_1) true _ A6.o).mono ?_); rintro e w' ⟨rfl, ⟨nd, rfl⟩⟩; refine ⟨_, rfl, ?_⟩))
      go_roundg k1
      case measure => have := HK1.o; omega
      case rel => exact ⟨(wrap64 (x1_1 + 1)), (by first | rfl | (simp; done) | (simp [*]; done)), H', ⟨by have := HK1.o; omega⟩, dR⟩
     ·replace c7 := Bool.eq_false_iff.mpr c7
      subst c7
      have H1 : (if (bt a0 x1_1) = 35 then (Qap.l1 k1 a0 x1_1) else (some x1_1)) = some r := by rw [if_neg (show ¬ (false = true) by decide)] at H; exact H
      clear H
      have H := H1
      clear H1
      by_cases c9 : (bt a0 x1_1) = 35
      ·rw [if_pos c9] at H
       have c9b0 : ((bt a0 x1_1) == 35) = true := beq_iff_eq.mpr c9
       have c9b1 : ((bt a0 x1_1) != 35) = false := bne_eq_false_iff_eq.mpr c9
       clear c9
       have H' := J0.m H
       clear H
       have p5 : 0 ≤ (x1_1 : Int) := dQ
       have q5 : x1_1 < (a0.size : Int) := dQ
       have hx5 := Qb2 a0 x1_1
       replace p5 := eq_true p5
       replace q5 := eq_true q5
       go_wp2_with (first | ((with_reducible refine Qat (f := 63) rfl ?_); refine Qbt (some 14) rfl rfl Try.func63 (by kernel_rfl) rfl #[.int .u8 (bt a0 x1_1)] rfl mQ ?_; (with_reducible refine (Qb5.calls (bt a0 x1_1) false _ A6.o).mono ?_); rintro e w' ⟨rfl, ⟨nd, rfl⟩⟩; refine ⟨_, rfl, ?_⟩; have p8 : 0 ≤ (x1_1 : Int) := dQ; have q8 : x1_1 < (a0.size : Int) := dQ; have hx8 := Qb2 a0 x1_1; replace p8 := eq_true p8; replace q8 := eq_true q8))
       go_loopg [1] k1 (fun kq v1 w' => ∃ (x1_2 : Int), v1 = .int .i64 x1_2 ∧ J0 (Qap.l1 kq a0 x1_2 = some r) ∧ J0 (kq ≤ k1) ∧ Qbe w w')
       case atStart => exact ⟨(x1_1), (by first | rfl | (simp; done) | (simp [*]; done)), H', ⟨Nat.le_refl _⟩, dR⟩
       case round =>
        clear H'
        try clear p2
        try clear c3
        try clear c3b0
        try clear c4
        try clear c4b0
        try clear p5
        try clear q5
        try clear hx5
        try clear c6
        try clear p6
        try clear c7
        try clear p8
        try clear q8
        try clear hx8
        try clear c9
        try clear c9b0
        try clear c9b1
        try clear p2
        try clear p5
        try clear p8
        try clear q5
        try clear q8
        obtain ⟨x1_2, rfl, HA, HK2, ⟨m2, rfl⟩⟩ := hrel
        cases gk with
        | zero => exact absurd HA.o (by simp [Qap.l1])
        | succ k2 =>
         have H := HA.o
         clear HA
         simp only [Qap.l1] at H
         by_cases c10 : x1_2 < (a0.size : Int)
         ·rw [if_pos c10] at H
          have c10b0 : decide (x1_2 < (a0.size : Int)) = true := decide_eq_true c10
          clear c10
          by_cases c11 : 0 ≤ x1_2
          ·rw [if_pos c11] at H
           have c11b0 : decide (0 ≤ x1_2) = true := decide_eq_true c11
           clear c11
           by_cases c13 : (bt a0 x1_2) = 10
           ·rw [if_pos c13] at H
            have c13b0 : ((bt a0 x1_2) == 10) = true := beq_iff_eq.mpr c13
            have c13b1 : ((bt a0 x1_2) != 10) = false := bne_eq_false_iff_eq.mpr c13
            clear c13
            have H' := J0.m H
            clear H
            have p12 : 0 ≤ (x1_2 : Int) := dQ
            have q12 : x1_2 < (a0.size : Int) := dQ
            have hx12 := Qb2 a0 x1_2
            replace p12 := eq_true p12
            replace q12 := eq_true q12
            go_wp2
            go_roundg k2
            case measure => have := HK1.o; have := HK2.o; omega
            case rel => exact ⟨(x1_2), (by first | rfl | (simp; done) | (simp [*]; done)), H', ⟨by have := HK1.o; have := HK2.o; omega⟩, dR⟩
           ·rw [if_neg c13] at H
            have c13b0 : ((bt a0 x1_2) == 10) = false := beq_eq_false_iff_ne.mpr c13
            have c13b1 : ((bt a0 x1_2) != 10) = true := bne_iff_ne.mpr c13
            have H' := J0.m H
            clear H
            have p12 : 0 ≤ (x1_2 : Int) := dQ
            have q12 : x1_2 < (a0.size : Int) := dQ
            have hx12 := Qb2 a0 x1_2
            replace p12 := eq_true p12
            replace q12 := eq_true q12
            go_wp2
            go_roundg k2
            case measure => have := HK1.o; have := HK2.o; omega
            case rel => exact ⟨(wrap64 (x1_2 + 1)), (by first | rfl | (simp; done) | (simp [*]; done)), H', ⟨by have := HK1.o; have := HK2.o; omega⟩, dR⟩
          ·rw [if_neg c11] at H
           exact absurd H (by simp)
         ·rw [if_neg c10] at H
          have c10b0 : decide (x1_2 < (a0.size : Int)) = false := decide_eq_false c10
          clear c10
          have H' := J0.m H
          clear H
          go_wp2
          go_roundg k2
          case measure => have := HK1.o; have := HK2.o; omega
          case rel => exact ⟨(x1_2), (by first | rfl | (simp; done) | (simp [*]; done)), H', ⟨by have := HK1.o; have := HK2.o; omega⟩, dR⟩
      ·rw [if_neg c9] at H
       have c9b0 : ((bt a0 x1_1) == 35) = false := beq_eq_false_iff_ne.mpr c9
       have c9b1 : ((bt a0 x1_1) != 35) = true := bne_iff_ne.mpr c9
       obtain rfl := Option.some.inj H
       have p5 : 0 ≤ (x1_1 : Int) := dQ
       have q5 : x1_1 < (a0.size : Int) := dQ
       have hx5 := Qb2 a0 x1_1
       replace p5 := eq_true p5
       replace q5 := eq_true q5
       go_wp2_with (first | ((with_reducible refine Qat (f := 63) rfl ?_); refine Qbt (some 14) rfl rfl Try.func63 (by kernel_rfl) rfl #[.int .u8 (bt a0 x1_1)] rfl mQ ?_; (with_reducible refine (Qb5.calls (bt a0 x1_1) false _ A6.o).mono ?_); rintro e w' ⟨rfl, ⟨nd, rfl⟩⟩; refine ⟨_, rfl, ?_⟩; have p8 : 0 ≤ (x1_1 : Int) := dQ; have q8 : x1_1 < (a0.size : Int) := dQ; have hx8 := Qb2 a0 x1_1; replace p8 := eq_true p8; replace q8 := eq_true q8))
       go_ret
       exact eQ
    ·rw [if_neg c4] at H
     exact absurd H (by simp)
   ·rw [if_neg c3] at H
    have c3b0 : decide (x1_1 < (a0.size : Int)) = false := decide_eq_false c3
    clear c3
    obtain rfl := Option.some.inj H
    go_wp2
    go_ret
    exact eQ
def Qbb.f (a0 : Int) : Option (Bool) := if a0 = 95 then (some true) else (if a0 ≥ 97 then (if a0 ≤ 122 then (some true) else (if a0 ≥ 65 then (some (decide (a0 ≤ 90))) else (some false))) else (if a0 ≥ 65 then (some (decide (a0 ≤ 90))) else (some false)))
theorem Qbb.calls (a0 : Int) (r : Bool) (w : World) (h : Qbb.f a0 = some r) :
  Calls Try.prog 64 #[.int .u8 a0] w fun e w' => e = .returned (.bool r) ∧ Qbe w w' := by
 have H : (if a0 = 95 then (some true) else (if a0 ≥ 97 then (if a0 ≤ 122 then (some true) else (if a0 ≥ 65 then (some (decide (a0 ≤ 90))) else (some false))) else (if a0 ≥ 65 then (some (decide (a0 ≤ 90))) else (some false)))) = some r := h
 clear h
 by_cases c2 : a0 = 95
 ·rw [if_pos c2] at H
  have c2b0 : (a0 == 95) = true := beq_iff_eq.mpr c2
  have c2b1 : (a0 != 95) = false := bne_eq_false_iff_eq.mpr c2
  clear c2
  obtain rfl := Option.some.inj H
  go_enter Try.func64, Try.ntmps64
  go_wp2
  go_ret
  exact eQ
 ·rw [if_neg c2] at H
  have c2b0 : (a0 == 95) = false := beq_eq_false_iff_ne.mpr c2
  have c2b1 : (a0 != 95) = true := bne_iff_ne.mpr c2
  by_cases c3 : a0 ≥ 97
  ·rw [if_pos c3] at H
   have c3b0 : decide (97 ≤ a0) = true := decide_eq_true c3
   clear c3
   by_cases c4 : a0 ≤ 122
   ·rw [if_pos c4] at H
    have c4b0 : decide (a0 ≤ 122) = true := decide_eq_true c4
    clear c4
    obtain rfl := Option.some.inj H
    go_enter Try.func64, Try.ntmps64
    go_wp2
    go_ret
    exact eQ
   ·rw [if_neg c4] at H
    have c4b0 : decide (a0 ≤ 122) = false := decide_eq_false c4
    clear c4
    by_cases c5 : a0 ≥ 65
    ·rw [if_pos c5] at H
     have c5b0 : decide (65 ≤ a0) = true := decide_eq_true c5
     clear c5
     obtain rfl := Option.some.inj H
     go_enter Try.func64, Try.ntmps64
     go_wp2
     go_ret
     exact eQ
    ·rw [if_neg c5] at H
     have c5b0 : decide (65 ≤ a0) = false := decide_eq_false c5
     clear c5
     obtain rfl := Option.some.inj H
     go_enter Try.func64, Try.ntmps64
     go_wp2
     go_ret
     exact eQ
  ·rw [if_neg c3] at H
   have c3b0 : decide (97 ≤ a0) = false := decide_eq_false c3
   clear c3
   by_cases c6 : a0 ≥ 65
   ·rw [if_pos c6] at H
    have c6b0 : decide (65 ≤ a0) = true := decide_eq_true c6
    clear c6
    obtain rfl := Option.some.inj H
    go_enter Try.func64, Try.ntmps64
    go_wp2
    go_ret
    exact eQ
   ·rw [if_neg c6] at H
    have c6b0 : decide (65 ≤ a0) = false := decide_eq_false c6
    clear c6
    obtain rfl := Option.some.inj H
    go_enter Try.func64, Try.ntmps64
    go_wp2
    go_ret
    exact eQ
end Go.Proofs.Ytbdcndkafaajpaa.X
end
section
namespace Go.Proofs.Ytbdcndkafaajpaa.L
open Ytbdcndkafaajpaa
def isD (b : UInt8) : Bool := G.dig (b.toNat : Int)
def isL (b : UInt8) : Bool := G.letr (b.toNat : Int)
def isW (b : UInt8) : Bool := isL b || isD b
def blank (b : UInt8) : Bool := decide (b.toNat = 32 ∨ b.toNat = 9 ∨ b.toNat = 10 ∨ b.toNat = 13)
def lead (p : UInt8 → Bool) : List UInt8 → Nat
 | [] => 0
 | b :: t => if p b then lead p t + 1 else 0
def sk : Bool → List UInt8 → Nat
 | _, [] => 0
 | false, b :: t => if blank b then sk false t + 1 else if b.toNat = 35 then sk true t + 1 else 0
 | true, b :: t => sk (b.toNat != 10) t + 1
def hexv (b : UInt8) : Option Nat :=
 if 48 ≤ b.toNat ∧ b.toNat ≤ 57 then some (b.toNat - 48)
 else if 97 ≤ b.toNat ∧ b.toNat ≤ 102 then some (b.toNat - 87)
 else if 65 ≤ b.toNat ∧ b.toNat ≤ 70 then some (b.toNat - 55) else none
def escx : List UInt8 → Option (UInt8 × Nat)
 | a :: b :: _ => match hexv a, hexv b with
  | some x, some y => some ((16 * x + y).toUInt8, 3)
  | _, _ => none
 | _ => none
def esc : List UInt8 → Option (UInt8 × Nat)
 | [] => none
 | c :: t => if c.toNat = 92 ∨ c.toNat = 34 then some (c, 1) else if c.toNat = 110 then some (10, 1) else if c.toNat = 116 then some (9, 1)
  else if c.toNat = 120 then escx t
  else none
structure Tk where
 kind : Nat
 text : List UInt8
 num : Nat
 len : Nat
inductive R where
 | ok (t : Tk)
 | bad (off : Nat) (e : Nat)
def tx (off : Nat) (acc : List UInt8) (l : List UInt8) : R :=
 match l with
 | [] => .bad 0 81
 | b :: t =>
  if b.toNat = 10 then .bad 0 81
  else if b.toNat = 34 then .ok ⟨3, acc, 0, off + 1⟩
  else if b.toNat = 92 then
   match esc t with
   | none => .bad off 82
   | some (c, n) => tx (off + n + 1) (acc ++ [c]) (t.drop n)
  else tx (off + 1) (acc ++ [b]) t
termination_by l.length
decreasing_by all_goals (simp only [List.length_cons, List.length_drop]; omega)
def marks : List Nat := [123, 125, 40, 41, 58, 59, 44, 61, 43, 45, 42]
def tok : List UInt8 → R
 | [] => .bad 0 0
 | b :: t =>
  if isL b then (if lead isW (b :: t) > 64 then .bad 0 111 else .ok ⟨1, (b :: t).take (lead isW (b :: t)), 0, lead isW (b :: t)⟩)
  else if isD b then (match G.numv 0 ((b :: t).take (lead isD (b :: t))) with
   | none => .bad 0 111
   | some x => .ok ⟨2, [], x, lead isD (b :: t)⟩)
  else if b.toNat = 34 then tx 1 [] t
  else if b.toNat ∈ marks then .ok ⟨4, [b], 0, 1⟩
  else .bad 0 80
theorem Qfk (p : UInt8 → Bool) (l : List UInt8) : lead p l ≤ l.length := by
 induction l with
 | nil => exact Nat.le_refl _
 | cons b t ih => simp only [lead, List.length_cons]; split <;> omega
theorem Qn1 {l : List UInt8} {c : UInt8} {n : Nat} (h : escx l = some (c, n)) : n = 3 ∧ 2 ≤ l.length := by
 match l, h with
 | a :: b :: t, h =>
  rw [escx] at h
  split at h
  ·simp only [Option.some.injEq, Prod.mk.injEq] at h; exact ⟨h.2.symm, by simp only [List.length_cons]; omega⟩
  ·cases h
theorem Qpm {w r r' : List UInt8} (h : 2 ≤ w.length) : escx (w ++ r) = escx (w ++ r') := by
 match w, h with
 | a :: b :: t, _ => rfl
theorem Qiw {l : List UInt8} {c : UInt8} {n : Nat} (h : esc l = some (c, n)) : 1 ≤ n ∧ n ≤ l.length := by
 cases l with
 | nil => simp [esc] at h
 | cons a t =>
  rw [esc] at h
  split at h
  ·simp at h; simp; omega
  split at h
  ·simp at h; simp; omega
  split at h
  ·simp at h; simp; omega
  split at h
  ·have := Qn1 h; simp only [List.length_cons]; omega
  ·simp at h
theorem Qll {off : Nat} {acc l : List UInt8} {t : Tk} (h : tx off acc l = .ok t) : off + 1 ≤ t.len ∧ t.len ≤ off + l.length := by
 induction off, acc, l using tx.induct generalizing t with
 | case1 off acc => rw [tx] at h; cases h
 | case2 off acc b t' hb => rw [tx, if_pos hb] at h; cases h
 | case3 off acc b t' hb h34 => rw [tx, if_neg hb, if_pos h34] at h; cases h; simp only [List.length_cons]; omega
 | case4 off acc b t' hb h34 h92 he => rw [tx, if_neg hb, if_neg h34, if_pos h92, he] at h; cases h
 | case5 off acc b t' hb h34 h92 c n he ih =>
  rw [tx, if_neg hb, if_neg h34, if_pos h92, he] at h
  have := ih h; have := Qiw he
  rw [List.length_drop] at *; simp only [List.length_cons]; omega
 | case6 off acc b t' hb h34 h92 ih =>
  rw [tx, if_neg hb, if_neg h34, if_neg h92] at h
  have := ih h; simp only [List.length_cons]; omega
theorem Ql1 {p : UInt8 → Bool} {b : UInt8} {t : List UInt8} (h : p b = true) : 1 ≤ lead p (b :: t) := by
 rw [lead, if_pos h]; omega
theorem Qd4 {l : List UInt8} {t : Tk} (h : tok l = .ok t) : 1 ≤ t.len ∧ t.len ≤ l.length := by
 cases l with
 | nil => cases h
 | cons b r =>
  have l1 := Qfk isW (b :: r)
  have l2 := Qfk isD (b :: r)
  rw [tok] at h
  split at h
  ·rename_i hb
   have := @Ql1 isW b r (by unfold isW; rw [hb]; rfl)
   split at h
   ·cases h
   ·cases h; exact ⟨this, l1⟩
  split at h
  ·rename_i hb
   have := @Ql1 isD b r hb
   split at h
   ·cases h
   ·cases h; exact ⟨this, l2⟩
  split at h
  ·have := Qll h; simp only [List.length_cons]; omega
  split at h
  ·cases h; simp
  ·cases h
structure Tok where
 kind : Nat
 text : List UInt8
 num : Nat
 at' : Nat
 fin : Nat
inductive LR where
 | toks (l : List Tok)
 | bad (at' : Nat) (e : Nat)
def LR.push (t : Tok) : LR → LR
 | .toks l => .toks (t :: l)
 | .bad a e => .bad a e
def Tk.at_ (t : Tk) (o : Nat) : Tok := ⟨t.kind, t.text, t.num, o, o + t.len⟩
theorem Qou (r : Bool) (l : List UInt8) : sk r l ≤ l.length := by
 induction l generalizing r with
 | nil => cases r <;> exact Nat.le_refl _
 | cons b t ih =>
  have h1 := ih false; have h2 := ih true; have h3 := ih (b.toNat != 10)
  cases r
  ·rw [sk, List.length_cons]; split
   ·omega
   ·split <;> omega
  ·rw [sk, List.length_cons]; omega
def lx (off : Nat) (l : List UInt8) : LR :=
 if hz : sk false l = l.length then .toks [⟨0, [], 0, off + l.length, off + l.length⟩]
 else match ht : tok (l.drop (sk false l)) with
  | .bad a e => .bad (off + sk false l + a) e
  | .ok t => (lx (off + sk false l + t.len) (l.drop (sk false l + t.len))).push (t.at_ (off + sk false l))
termination_by l.length
decreasing_by
 have h1 := Qd4 ht
 have h2 := Qou false l
 rw [List.length_drop] at h1 ⊢; omega
theorem Qe2 {off : Nat} {l : List UInt8} (h : sk false l = l.length) : lx off l = .toks [⟨0, [], 0, off + l.length, off + l.length⟩] := by
 rw [lx, dif_pos h]
theorem Qlz {off : Nat} {l : List UInt8} {a e : Nat} (h : sk false l ≠ l.length) (ht : tok (l.drop (sk false l)) = .bad a e) : lx off l = .bad (off + sk false l + a) e := by
 rw [lx, dif_neg h]; split
 ·rename_i h2; rw [ht] at h2; cases h2; rfl
 ·rename_i h2; rw [ht] at h2; cases h2
theorem Qpc {off : Nat} {l : List UInt8} {t : Tk} (h : sk false l ≠ l.length) (ht : tok (l.drop (sk false l)) = .ok t) : lx off l = (lx (off + sk false l + t.len) (l.drop (sk false l + t.len))).push (t.at_ (off + sk false l)) := by
 rw [lx, dif_neg h]; split
 ·rename_i h2; rw [ht] at h2; cases h2
 ·rename_i h2; rw [ht] at h2; cases h2; rfl
def Lex (l : List UInt8) : LR := if l.length > 1048576 then .bad 0 2 else lx 0 l
def hx (n : Nat) : UInt8 := (if n < 10 then 48 + n else 87 + n).toUInt8
def Qev (p : UInt8 → Bool) (r : List UInt8) : Prop := ∀ b t, r = b :: t → p b = false
theorem Qgo (p : UInt8 → Bool) : Qev p [] := by intro b t h; cases h
theorem Qd7 {p : UInt8 → Bool} {b : UInt8} {t : List UInt8} (h : p b = false) : Qev p (b :: t) := by intro c u e; cases e; exact h
theorem Qe3 (p : UInt8 → Bool) (w r : List UInt8) : lead p (w ++ r) = w.length ↔ (∀ b ∈ w, p b = true) ∧ Qev p r := by
 induction w with
 | nil =>
  cases r with
  | nil => simp [lead, Qgo]
  | cons b t =>
   simp only [List.nil_append, lead, List.length_nil, List.not_mem_nil, false_imp_iff, implies_true, true_and]
   cases hb : p b with
   | true =>
    simp only [if_true]; constructor
    ·intro h; omega
    ·intro h; rw [h b t rfl] at hb; cases hb
   | false => simp only [Bool.false_eq_true, if_false, true_iff]; exact Qd7 hb
 | cons b t ih =>
  simp only [List.cons_append, lead, List.length_cons, List.mem_cons]
  cases hb : p b with
  | true =>
   simp only [if_true, Nat.add_right_cancel_iff, ih]
   constructor
   ·rintro ⟨h1, h2⟩; exact ⟨fun c hc => hc.elim (fun e => e ▸ hb) (h1 c), h2⟩
   ·rintro ⟨h1, h2⟩; exact ⟨fun c hc => h1 c (.inr hc), h2⟩
  | false =>
   simp only [Bool.false_eq_true, if_false]
   constructor
   ·intro h; omega
   ·rintro ⟨h1, h2⟩; rw [h1 b (.inl rfl)] at hb; cases hb
theorem Qnn (p : UInt8 → Bool) (l : List UInt8) : (∀ b ∈ l.take (lead p l), p b = true) ∧ Qev p (l.drop (lead p l)) := by
 have h := Qe3 p (l.take (lead p l)) (l.drop (lead p l))
 rw [List.take_append_drop, List.length_take] at h
 exact h.1 (by have := Qfk p l; omega)
def stop (kind : Nat) (r : List UInt8) : Prop := (kind = 1 → Qev isW r) ∧ (kind = 2 → Qev isD r)
theorem isW_D {b : UInt8} (h : isW b = false) : isD b = false := by unfold isW at h; rw [Bool.or_eq_false_iff] at h; exact h.2
theorem Qqu {kind : Nat} {r : List UInt8} (h : Qev isW r) : stop kind r := ⟨fun _ => h, fun _ b t e => isW_D (h b t e)⟩
theorem Qlc {w r r' : List UInt8} {c : UInt8} {n : Nat} (h : esc (w ++ r) = some (c, n)) (hn : n ≤ w.length) : esc (w ++ r') = some (c, n) := by
 cases w with
 | nil => have := Qiw h; simp only [List.length_nil] at hn; omega
 | cons a t =>
  simp only [List.cons_append] at h ⊢
  rw [esc] at h ⊢
  split at h
  ·rename_i h1; rw [if_pos h1]; exact h
  rename_i h1; rw [if_neg h1]
  split at h
  ·rename_i h2; rw [if_pos h2]; exact h
  rename_i h2; rw [if_neg h2]
  split at h
  ·rename_i h3; rw [if_pos h3]; exact h
  rename_i h3; rw [if_neg h3]
  split at h
  ·rename_i h4; rw [if_pos h4]
   have := Qn1 h
   simp only [List.length_cons] at hn
   rw [← h]; exact (Qpm (by omega)).symm
  ·cases h
theorem tx_loc {r r' : List UInt8} {t : Tk} : ∀ (d : Nat) (w : List UInt8) (off : Nat) (acc : List UInt8), w.length ≤ d → tx off acc (w ++ r) = .ok t → w.length + off = t.len → tx off acc (w ++ r') = .ok t := by
 intro d
 induction d with
 | zero =>
  intro w off acc hd h hw
  have := Qll h; omega
 | succ d ih =>
  intro w off acc hd h hw
  cases w with
  | nil => have := Qll h; simp only [List.length_nil] at hw; omega
  | cons b w =>
   simp only [List.cons_append, List.length_cons] at h hw hd ⊢
   rw [tx] at h ⊢
   split at h
   ·cases h
   rename_i h1; rw [if_neg h1]
   split at h
   ·rename_i h2; rw [if_pos h2]; exact h
   rename_i h2; rw [if_neg h2]
   split at h
   ·rename_i h3; rw [if_pos h3]
    cases he : esc (w ++ r) with
    | none => rw [he] at h; cases h
    | some p =>
     obtain ⟨c, n⟩ := p
     rw [he] at h; simp only at h
     have hl := Qll h
     have hn : n ≤ w.length := by omega
     rw [Qlc he hn]; simp only
     rw [List.drop_append_of_le_length hn] at h ⊢
     exact ih _ _ _ (by rw [List.length_drop]; omega) h (by rw [List.length_drop]; omega)
   ·rename_i h3; rw [if_neg h3]
    exact ih _ _ _ (by omega) h (by omega)
theorem Qmu {off : Nat} {acc l : List UInt8} {t : Tk} (h : tx off acc l = .ok t) : t.kind = 3 := by
 induction off, acc, l using tx.induct generalizing t with
 | case1 off acc => rw [tx] at h; cases h
 | case2 off acc b t' hb => rw [tx, if_pos hb] at h; cases h
 | case3 off acc b t' hb h34 => rw [tx, if_neg hb, if_pos h34] at h; cases h; rfl
 | case4 off acc b t' hb h34 h92 he => rw [tx, if_neg hb, if_neg h34, if_pos h92, he] at h; cases h
 | case5 off acc b t' hb h34 h92 c n he ih => rw [tx, if_neg hb, if_neg h34, if_pos h92, he] at h; exact ih h
 | case6 off acc b t' hb h34 h92 ih => rw [tx, if_neg hb, if_neg h34, if_neg h92] at h; exact ih h
theorem Qln {l : List UInt8} {t : Tk} (h : tok l = .ok t) : 1 ≤ t.kind ∧ t.kind ≤ 4 := by
 cases l with
 | nil => cases h
 | cons b r =>
  rw [tok] at h
  split at h
  ·split at h
   ·cases h
   ·cases h; simp
  split at h
  ·split at h
   ·cases h
   ·cases h; simp
  split at h
  ·rw [Qmu h]; decide
  split at h
  ·cases h; simp
  ·cases h
theorem Qlm {w r : List UInt8} {t : Tk} (h : tok (w ++ r) = .ok t) (hw : w.length = t.len) : stop t.kind r := by
 have hl := Qd4 h
 cases w with
 | nil => simp only [List.length_nil] at hw; omega
 | cons b w =>
  simp only [List.cons_append] at h
  rw [tok] at h
  split at h
  ·split at h
   ·cases h
   ·injection h with h; subst h
    have := (Qe3 isW (b :: w) r).1 (by simpa using hw.symm)
    exact ⟨fun _ => this.2, (fun h => by simp at h)⟩
  split at h
  ·split at h
   ·cases h
   ·injection h with h; subst h
    have := (Qe3 isD (b :: w) r).1 (by simpa using hw.symm)
    exact ⟨(fun h => by simp at h), fun _ => this.2⟩
  split at h
  ·have := Qmu h; exact ⟨fun h => by omega, fun h => by omega⟩
  split at h
  ·injection h with h; subst h; exact ⟨(fun h => by simp at h), (fun h => by simp at h)⟩
  ·cases h
theorem Qhs {w r r' : List UInt8} {t : Tk} (h : tok (w ++ r) = .ok t) (hw : w.length = t.len) (hs : stop t.kind r') : tok (w ++ r') = .ok t := by
 have hl := Qd4 h
 cases w with
 | nil => simp only [List.length_nil] at hw; omega
 | cons b w =>
  simp only [List.cons_append] at h ⊢
  rw [tok] at h ⊢
  split at h
  ·rename_i h1; rw [if_pos h1]
   split at h
   ·cases h
   ·rename_i h2
    injection h with h; subst h
    have e := (Qe3 isW (b :: w) r).1 (by simpa using hw.symm)
    have e2 := (Qe3 isW (b :: w) r').2 ⟨e.1, hs.1 rfl⟩
    simp only at hw
    rw [List.cons_append] at e2
    rw [← hw] at h2 ⊢
    rw [e2, if_neg h2, ← List.cons_append, ← List.cons_append, List.take_left, List.take_left]
  rename_i h1; rw [if_neg h1]
  split at h
  ·rename_i h2; rw [if_pos h2]
   split at h
   ·cases h
   ·rename_i x hx
    injection h with h; subst h
    have e := (Qe3 isD (b :: w) r).1 (by simpa using hw.symm)
    have e2 := (Qe3 isD (b :: w) r').2 ⟨e.1, hs.2 rfl⟩
    simp only at hw
    rw [List.cons_append] at e2
    rw [← hw, ← List.cons_append, List.take_left] at hx
    rw [e2, ← List.cons_append, List.take_left, hx, hw]
  rename_i h2; rw [if_neg h2]
  split at h
  ·rename_i h3; rw [if_pos h3]
   exact tx_loc _ _ _ _ (Nat.le_refl _) h (by simpa using hw)
  rename_i h3; rw [if_neg h3]
  split at h
  ·rename_i h4; rw [if_pos h4]; exact h
  ·cases h
def gs : Bool → List UInt8 → Option Bool
 | r, [] => some r
 | false, b :: t => if blank b then gs false t else if b.toNat = 35 then gs true t else none
 | true, b :: t => gs (b.toNat != 10) t
theorem Qrh {r q : Bool} {g m : List UInt8} (h : gs r g = some q) : sk r (g ++ m) = g.length + sk q m := by
 induction g generalizing r with
 | nil => rw [gs] at h; cases h; simp
 | cons b t ih =>
  cases r
  ·rw [gs] at h
   simp only [List.cons_append, sk, List.length_cons]
   split at h
   ·rename_i h1; rw [if_pos h1, ih h]; omega
   ·rename_i h1; rw [if_neg h1]
    split at h
    ·rename_i h2; rw [if_pos h2, ih h]; omega
    ·cases h
  ·rw [gs] at h
   simp only [List.cons_append, sk, List.length_cons]
   rw [ih h]; omega
theorem sk_gs {r : Bool} {l : List UInt8} (h : sk r l < l.length) : gs r (l.take (sk r l)) = some false ∧ sk false (l.drop (sk r l)) = 0 := by
 induction l generalizing r with
 | nil => simp at h
 | cons b t ih =>
  cases r
  ·rw [sk] at h ⊢
   split at h
   ·rename_i h1; simp only [List.length_cons] at h
    rw [if_pos h1, List.take_succ_cons, gs, if_pos h1, List.drop_succ_cons]
    exact ih (by omega)
   ·rename_i h1; rw [if_neg h1]
    split at h
    ·rename_i h2; simp only [List.length_cons] at h
     rw [if_pos h2, List.take_succ_cons, gs, if_neg h1, if_pos h2, List.drop_succ_cons]
     exact ih (by omega)
    ·rename_i h2; rw [if_neg h2, List.take_zero, gs, List.drop_zero, sk, if_neg h1, if_neg h2]; exact ⟨rfl, rfl⟩
  ·rw [sk] at h ⊢
   simp only [List.length_cons] at h
   rw [List.take_succ_cons, gs, List.drop_succ_cons]
   exact ih (by omega)
theorem sk_all {r : Bool} {l : List UInt8} (h : sk r l = l.length) : ∃ q, gs r l = some q := by
 induction l generalizing r with
 | nil => exact ⟨r, by rw [gs]⟩
 | cons b t ih =>
  cases r
  ·rw [sk] at h
   rw [gs]
   split at h
   ·rename_i h1; rw [if_pos h1]; exact ih (by simpa using h)
   ·rename_i h1; rw [if_neg h1]
    split at h
    ·rename_i h2; rw [if_pos h2]; exact ih (by simpa using h)
    ·simp at h
  ·rw [sk] at h
   rw [gs]
   exact ih (by simpa using h)
theorem Qqa {r q : Bool} {l : List UInt8} (h : gs r l = some q) : sk r l = l.length := by
 have := Qrh (m := []) h
 rw [List.append_nil] at this
 cases q <;> simpa [sk] using this
theorem Qmy {b : UInt8} {t : List UInt8} (h : blank b = true ∨ b.toNat = 35) : tok (b :: t) = .bad 0 80 := by
 have hb : b.toNat = 32 ∨ b.toNat = 9 ∨ b.toNat = 10 ∨ b.toNat = 13 ∨ b.toNat = 35 := by
  rcases h with h | h
  ·have := of_decide_eq_true h; omega
  ·omega
 have h1 : isL b = false := decide_eq_false (by omega)
 have h2 : isD b = false := decide_eq_false (by omega)
 rw [tok, if_neg (by rw [h1]; decide), if_neg (by rw [h2]; decide), if_neg (by omega), if_neg]
 unfold marks
 simp only [List.mem_cons, List.not_mem_nil, or_false]
 omega
theorem tok_sk {m : List UInt8} {t : Tk} (h : tok m = .ok t) : sk false m = 0 := by
 cases m with
 | nil => rfl
 | cons b m =>
  by_cases h1 : blank b = true ∨ b.toNat = 35
  ·rw [Qmy h1] at h; cases h
  ·rw [not_or] at h1
   rw [sk, if_neg h1.1, if_neg h1.2]
theorem Qml {off : Nat} {g w r : List UInt8} {t : Tk} (hg : gs false g = some false) (ht : tok (w ++ r) = .ok t) (hw : w.length = t.len) :
  lx off (g ++ (w ++ r)) = (lx (off + g.length + w.length) r).push (t.at_ (off + g.length)) := by
 have hl := Qd4 ht
 have e : sk false (g ++ (w ++ r)) = g.length := by rw [Qrh hg, tok_sk ht]; rfl
 have e2 : (g ++ (w ++ r)).drop (sk false (g ++ (w ++ r))) = w ++ r := by rw [e, List.drop_left]
 rw [Qpc (t := t) (by rw [e]; simp only [List.length_append] at *; omega) (by rw [e2]; exact ht), e]
 congr 1
 rw [← hw]
 congr 1
 rw [← List.append_assoc, ← List.length_append, List.drop_left]
theorem Qjc {off : Nat} {g m : List UInt8} {a e : Nat} (hg : gs false g = some false) (hm : sk false m = 0) (hne : m ≠ []) (ht : tok m = .bad a e) :
  lx off (g ++ m) = .bad (off + g.length + a) e := by
 have e1 : sk false (g ++ m) = g.length := by rw [Qrh hg, hm]; rfl
 have hl : 0 < m.length := by cases m with | nil => exact absurd rfl hne | cons a t => simp
 rw [Qlz (a := a) (e := e) (by rw [e1, List.length_append]; omega) (by rw [e1, List.drop_left]; exact ht), e1]
inductive Cut (off : Nat) (l : List UInt8) : Prop where
 | all (q : Bool) (h : gs false l = some q) (e : lx off l = .toks [⟨0, [], 0, off + l.length, off + l.length⟩])
 | one (g w r : List UInt8) (t : Tk) (hl : l = g ++ (w ++ r)) (hg : gs false g = some false) (ht : tok (w ++ r) = .ok t) (hw : w.length = t.len)
   (e : lx off l = (lx (off + g.length + w.length) r).push (t.at_ (off + g.length)))
 | bad (g m : List UInt8) (a e : Nat) (hl : l = g ++ m) (hg : gs false g = some false) (hm : sk false m = 0) (hne : m ≠ []) (ht : tok m = .bad a e)
   (h : lx off l = .bad (off + g.length + a) e)
theorem Qhz (off : Nat) (l : List UInt8) : Cut off l := by
 by_cases hz : sk false l = l.length
 ·obtain ⟨q, hq⟩ := sk_all hz
  exact .all q hq (Qe2 hz)
 ·have hlt : sk false l < l.length := by have := Qou false l; omega
  have hg := sk_gs hlt
  have hlen : (l.take (sk false l)).length = sk false l := by rw [List.length_take]; omega
  have hsp : l = l.take (sk false l) ++ l.drop (sk false l) := (List.take_append_drop _ _).symm
  cases ht : tok (l.drop (sk false l)) with
  | bad a e =>
   refine .bad _ _ a e hsp hg.1 hg.2 ?_ ht ?_
   ·intro h; have := congrArg List.length h; rw [List.length_drop] at this; simp at this; omega
   ·rw [hlen]; exact Qlz hz ht
  | ok t =>
   have hl := Qd4 ht
   have hsp2 : l.drop (sk false l) = (l.drop (sk false l)).take t.len ++ (l.drop (sk false l)).drop t.len := (List.take_append_drop _ _).symm
   have hwl : ((l.drop (sk false l)).take t.len).length = t.len := by rw [List.length_take]; omega
   refine .one _ _ _ t (by rw [← hsp2]; exact hsp) hg.1 (by rw [← hsp2]; exact ht) hwl ?_
   rw [hlen, hwl, List.drop_drop]; exact Qpc hz ht
theorem Ql4 {r q : Bool} {g m : List UInt8} (h : gs r g = some q) : gs r (g ++ m) = gs q m := by
 induction g generalizing r with
 | nil => rw [gs] at h; cases h; rfl
 | cons b t ih =>
  cases r
  ·rw [gs] at h
   rw [List.cons_append, gs]
   split at h
   ·rename_i h1; rw [if_pos h1, ih h]
   ·rename_i h1; rw [if_neg h1]
    split at h
    ·rename_i h2; rw [if_pos h2, ih h]
    ·cases h
  ·rw [gs] at h
   rw [List.cons_append, gs, ih h]
def stripT (t : Tok) : Nat × List UInt8 × Nat × Nat := (t.kind, t.text, t.num, t.fin - t.at')
def st : LR → Option (List (Nat × List UInt8 × Nat × Nat))
 | .toks l => some (l.map stripT)
 | .bad _ _ => none
theorem Qh2 {p : UInt8 → Bool} {r z : List UInt8} (h : Qev p r) (hz : Qev p z) : Qev p (r ++ z) := by
 cases r with
 | nil => exact hz
 | cons b t => exact Qd7 (h b t rfl)
theorem Qlq {k : Nat} {r z : List UInt8} (h : stop k r) (hz : Qev isW z) : stop k (r ++ z) :=
 ⟨fun e => Qh2 (h.1 e) hz, fun e => Qh2 (h.2 e) fun b t e => isW_D (hz b t e)⟩
theorem Qmo {p : UInt8 → Bool} {r m : List UInt8} {c : Nat} (h : Qev p r) (hm : c = 0 → Qev p m) (hr : r = [] → Qev p m) : Qev p (r.take c ++ m) := by
 cases r with
 | nil => simpa using hr rfl
 | cons b t =>
  cases c with
  | zero => simpa using hm rfl
  | succ c => rw [List.take_succ_cons]; exact Qd7 (h b t rfl)
theorem Qfu {t : Tok} {r : LR} {l : List Tok} (h : r.push t = .toks l) : ∃ l', r = .toks l' ∧ l = t :: l' := by
 cases r with
 | toks l' => cases h; exact ⟨l', rfl, rfl⟩
 | bad a e => cases h
theorem Qo3 {t : Tok} {r : LR} {a e : Nat} (h : r.push t = .bad a e) : r = .bad a e := by
 cases r with
 | toks l' => cases h
 | bad a e => exact h
inductive Good (s : List UInt8) : Nat → List Tok → Prop where
 | last (e : Nat) (q : Bool) (he : e ≤ s.length) (hg : gs false (s.drop e) = some q) : Good s e [⟨0, [], 0, s.length, s.length⟩]
 | more (e : Nat) (t : Tok) (ts : List Tok) (q : Bool) (h1 : e ≤ t.at') (h2 : t.at' < t.fin) (h3 : t.fin ≤ s.length) (hk : 1 ≤ t.kind ∧ t.kind ≤ 4)
   (hg : gs false ((s.drop e).take (t.at' - e)) = some q)
   (ho : lx 0 ((s.drop t.at').take (t.fin - t.at')) = .toks [⟨t.kind, t.text, t.num, 0, t.fin - t.at'⟩, ⟨0, [], 0, t.fin - t.at', t.fin - t.at'⟩])
   (hm : Good s t.fin ts) : Good s e (t :: ts)
theorem Qpe {w : List UInt8} {t : Tk} (h : tok w = .ok t) (hw : w.length = t.len) : lx 0 w = .toks [⟨t.kind, t.text, t.num, 0, t.len⟩, ⟨0, [], 0, t.len, t.len⟩] := by
 have := @Qml 0 [] w [] t rfl (by rw [List.append_nil]; exact h) hw
 rw [List.append_nil, List.nil_append] at this
 rw [this, Qe2 rfl]
 simp [LR.push, Tk.at_, hw]
theorem good : ∀ (d : Nat) (p l : List UInt8) (ts : List Tok), l.length ≤ d → lx p.length l = .toks ts → Good (p ++ l) p.length ts := by
 intro d
 induction d with
 | zero =>
  intro p l ts hd h
  obtain rfl : l = [] := List.length_eq_zero_iff.1 (by omega)
  rw [Qe2 rfl] at h; cases h
  have := Good.last (s := p ++ []) p.length false (by simp) (by simp [gs])
  simpa using this
 | succ d ih =>
  intro p l ts hd h
  rcases Qhz p.length l with ⟨q, hq, e⟩ | ⟨g, w, r, t0, rfl, hg, ht0, hw, e⟩ | ⟨g, m, a, e, rfl, hg, hm, hne, ht0, h2⟩
  ·rw [e] at h; cases h
   have := Good.last (s := p ++ l) p.length q (by simp) (by rw [List.drop_left]; exact hq)
   simpa using this
  ·have hl2 := Qd4 ht0
   rw [e] at h
   obtain ⟨l', h1, rfl⟩ := Qfu h
   have ha : (t0.at_ (p.length + g.length)).at' = p.length + g.length := rfl
   have hf : (t0.at_ (p.length + g.length)).fin = p.length + g.length + t0.len := rfl
   have sp : p ++ (g ++ (w ++ r)) = (p ++ g ++ w) ++ r := by simp only [List.append_assoc]
   have lp : (p ++ g ++ w).length = p.length + g.length + w.length := by simp only [List.length_append]
   have hgood := ih (p ++ g ++ w) r l' (by simp only [List.length_append] at hd; omega) (by rw [lp]; exact h1)
   refine Good.more _ _ _ false (by rw [ha]; omega) (by rw [ha, hf]; omega) (by rw [hf]; simp only [List.length_append]; omega) (Qln ht0) ?_ ?_ ?_
   ·rw [List.drop_left, ha, Nat.add_sub_cancel_left, List.take_left]; exact hg
   ·have e1 : (p ++ (g ++ (w ++ r))).drop (p.length + g.length) = w ++ r := by
     rw [← List.append_assoc, ← List.length_append, List.drop_left]
    rw [ha, hf, Nat.add_sub_cancel_left, e1, ← hw, List.take_left, hw]
    exact Qpe (by have := Qhs (r' := []) ht0 hw (Qqu (Qgo _)); rwa [List.append_nil] at this) hw
   ·rw [hf, sp, ← hw, ← lp]; exact hgood
  ·rw [h2] at h; cases h
theorem Qpn {t m : List UInt8} (h : esc t = none) : esc (t ++ 10 :: m) = none := by
 have h10 : hexv 10 = none := by decide
 cases t with
 | nil => simp [esc]
 | cons c t =>
  rw [esc] at h
  rw [List.cons_append, esc]
  split at h
  ·cases h
  rename_i h1; rw [if_neg h1]
  split at h
  ·cases h
  rename_i h2; rw [if_neg h2]
  split at h
  ·cases h
  rename_i h3; rw [if_neg h3]
  split at h
  ·rename_i h4; rw [if_pos h4]
   match t, h with
   | [], _ =>
    cases m with
    | nil => rfl
    | cons x y => rw [List.nil_append, escx, h10]
   | [a], _ => rw [List.cons_append, List.nil_append, escx, h10]; split <;> simp_all
   | a :: b :: t', h => exact h
  ·rename_i h4; rw [if_neg h4]
theorem tx_bad {l : List UInt8} {off : Nat} {acc : List UInt8} {a e : Nat} (h : tx off acc l = .bad a e) (m : List UInt8) : tx off acc (l ++ 10 :: m) = .bad a e := by
 induction off, acc, l using tx.induct generalizing a e with
 | case1 off acc => rw [tx] at h; cases h; rw [List.nil_append, tx, if_pos (by decide)]
 | case2 off acc b t' hb => rw [tx, if_pos hb] at h; cases h; rw [List.cons_append, tx, if_pos hb]
 | case3 off acc b t' hb h34 => rw [tx, if_neg hb, if_pos h34] at h; cases h
 | case4 off acc b t' hb h34 h92 he => rw [tx, if_neg hb, if_neg h34, if_pos h92, he] at h; cases h; rw [List.cons_append, tx, if_neg hb, if_neg h34, if_pos h92, Qpn he]
 | case5 off acc b t' hb h34 h92 c n he ih =>
  rw [tx, if_neg hb, if_neg h34, if_pos h92, he] at h
  have hn := (Qiw he).2
  have := @Qlc t' [] (10 :: m) c n (by rw [List.append_nil]; exact he) hn
  rw [List.cons_append, tx, if_neg hb, if_neg h34, if_pos h92, this]
  simp only
  rw [List.drop_append_of_le_length hn]
  exact ih h
 | case6 off acc b t' hb h34 h92 ih =>
  rw [tx, if_neg hb, if_neg h34, if_neg h92] at h
  rw [List.cons_append, tx, if_neg hb, if_neg h34, if_neg h92]; exact ih h
theorem Qmv {l : List UInt8} {off : Nat} {acc : List UInt8} {a e : Nat} (h : tx off acc l = .bad a e) : (e = 81 ∧ a = 0) ∨ (e = 82 ∧ off ≤ a ∧ a < off + l.length ∧ tx off acc (l.take (a - off)) = .bad 0 81) := by
 induction off, acc, l using tx.induct generalizing a e with
 | case1 off acc => rw [tx] at h; cases h; exact .inl ⟨rfl, rfl⟩
 | case2 off acc b t' hb => rw [tx, if_pos hb] at h; cases h; exact .inl ⟨rfl, rfl⟩
 | case3 off acc b t' hb h34 => rw [tx, if_neg hb, if_pos h34] at h; cases h
 | case4 off acc b t' hb h34 h92 he =>
  rw [tx, if_neg hb, if_neg h34, if_pos h92, he] at h; cases h
  exact .inr ⟨rfl, Nat.le_refl _, by simp, by rw [Nat.sub_self, List.take_zero, tx]⟩
 | case5 off acc b t' hb h34 h92 c n he ih =>
  rw [tx, if_neg hb, if_neg h34, if_pos h92, he] at h
  have hn := (Qiw he).2
  rcases ih h with h1 | ⟨h1, h2, h3, h4⟩
  ·exact .inl h1
  ·rw [List.length_drop] at h3
   refine .inr ⟨h1, by omega, by simp only [List.length_cons]; omega, ?_⟩
   obtain ⟨d, hd⟩ : ∃ d, d = a - (off + n + 1) := ⟨_, rfl⟩
   rw [← hd] at h4
   rw [show a - off = (n + d) + 1 by omega, List.take_succ_cons, tx, if_neg hb, if_neg h34, if_pos h92]
   have e1 : t'.take (n + d) = t'.take n ++ (t'.drop n).take d := by rw [List.take_add]
   have := @Qlc (t'.take n) (t'.drop n) ((t'.drop n).take d) c n (by rw [List.take_append_drop]; exact he) (by rw [List.length_take]; omega)
   rw [e1, this]
   simp only
   rw [List.drop_append_of_le_length (by rw [List.length_take]; omega), List.drop_eq_nil_of_le (by rw [List.length_take]; omega), List.nil_append]
   exact h4
 | case6 off acc b t' hb h34 h92 ih =>
  rw [tx, if_neg hb, if_neg h34, if_neg h92] at h
  rcases ih h with h1 | ⟨h1, h2, h3, h4⟩
  ·exact .inl h1
  ·refine .inr ⟨h1, by omega, by simp only [List.length_cons]; omega, ?_⟩
   rw [show a - off = (a - (off + 1)) + 1 by omega, List.take_succ_cons, tx, if_neg hb, if_neg h34, if_neg h92]
   exact h4
theorem Qqq {l : List UInt8} {a e : Nat} (hne : l ≠ []) (h : tok l = .bad a e) (m : List UInt8) : tok (l ++ 10 :: m) = .bad a e ∧ ((a = 0 ∧ (e = 80 ∨ e = 81 ∨ e = 111)) ∨ (e = 82 ∧ 1 ≤ a ∧ a < l.length ∧ tok (l.take a) = .bad 0 81)) := by
 have w10 : Qev isW (10 :: m) := Qd7 (by decide)
 have d10 : Qev isD (10 :: m) := Qd7 (by decide)
 have ext : ∀ p : UInt8 → Bool, Qev p (10 :: m) → lead p (l ++ 10 :: m) = lead p l := by
  intro p hp
  have h1 := Qnn p l
  have := (Qe3 p (l.take (lead p l)) (l.drop (lead p l) ++ 10 :: m)).2 ⟨h1.1, Qh2 h1.2 hp⟩
  rw [← List.append_assoc, List.take_append_drop, List.length_take] at this
  rw [this]; have := Qfk p l; omega
 have e1 := ext isW w10
 have e2 := ext isD d10
 have l2 := Qfk isD l
 cases l with
 | nil => exact absurd rfl hne
 | cons b t =>
  rw [List.cons_append] at e1 e2 ⊢
  rw [tok] at h
  rw [tok]
  split at h
  ·rename_i h1; rw [if_pos h1]
   split at h
   ·rename_i h2; rw [e1, if_pos h2]; cases h; exact ⟨rfl, .inl ⟨rfl, by simp⟩⟩
   ·cases h
  rename_i h1; rw [if_neg h1]
  split at h
  ·rename_i h2; rw [if_pos h2]
   split at h
   ·rename_i hx; cases h
    rw [e2, ← List.cons_append, List.take_append_of_le_length l2, hx]; exact ⟨rfl, .inl ⟨rfl, by simp⟩⟩
   ·cases h
  rename_i h2; rw [if_neg h2]
  split at h
  ·rename_i h3; rw [if_pos h3]
   refine ⟨tx_bad h m, ?_⟩
   rcases Qmv h with ⟨h4, h5⟩ | ⟨h4, h5, h6, h7⟩
   ·exact .inl ⟨h5, by omega⟩
   ·refine .inr ⟨h4, h5, by simp only [List.length_cons]; omega, ?_⟩
    rw [show a = (a - 1) + 1 by omega, List.take_succ_cons, tok, if_neg h1, if_neg h2, if_pos h3]; exact h7
  rename_i h3; rw [if_neg h3]
  split at h
  ·cases h
  ·rename_i h4; rw [if_neg h4]; cases h; exact ⟨rfl, .inl ⟨rfl, by simp⟩⟩
theorem Qqw {l m : List UInt8} (h : sk false l = 0) (hne : l ≠ []) : sk false (l ++ m) = 0 := by
 cases l with
 | nil => exact absurd rfl hne
 | cons b t =>
  rw [sk] at h
  rw [List.cons_append, sk]
  split at h
  ·omega
  rename_i h1; rw [if_neg h1]
  split at h
  ·omega
  rename_i h2; rw [if_neg h2]
theorem Qnm (m : List UInt8) : ∀ (d : Nat) (off : Nat) (s : List UInt8) (a e : Nat), s.length ≤ d → lx off s = .bad a e →
  lx off (s ++ 10 :: m) = .bad a e ∧ off ≤ a ∧ a < off + s.length ∧ (e = 80 ∨ e = 81 ∨ e = 82 ∨ e = 111) ∧ (e = 82 → ∃ j, lx off (s.take (a - off)) = .bad j 81 ∧ j < a) ∧ (e ≠ 82 → ∃ ts, lx off (s.take (a - off)) = .toks ts) := by
 have w10 : Qev isW (10 :: m) := Qd7 (by decide)
 intro d
 induction d with
 | zero =>
  intro off s a e hd h
  obtain rfl : s = [] := List.length_eq_zero_iff.1 (by omega)
  rw [Qe2 rfl] at h; cases h
 | succ d ih =>
  intro off s a e hd h
  rcases Qhz off s with ⟨q, hq, e1⟩ | ⟨g, w, r, t0, rfl, hg, ht0, hw, e1⟩ | ⟨g, m0, a0, e0, rfl, hg, hm, hne, ht0, h2⟩
  ·rw [e1] at h; cases h
  ·have hl2 := Qd4 ht0
   have hst := Qlm ht0 hw
   rw [e1] at h
   have h1 := Qo3 h
   simp only [List.length_append] at hd
   obtain ⟨i1, i2, i3, i4, i5, i6⟩ := ih _ r a e (by omega) h1
   have hst2 : stop t0.kind (r.take (a - (off + g.length + w.length))) := by
    have k1 : ∀ p : UInt8 → Bool, Qev p r → Qev p (r.take (a - (off + g.length + w.length))) := fun p hp => by
     have := Qmo (c := a - (off + g.length + w.length)) (m := []) hp (fun _ => Qgo p) (fun _ => Qgo p)
     rwa [List.append_nil] at this
    exact ⟨fun e => k1 _ (hst.1 e), fun e => k1 _ (hst.2 e)⟩
   have tk : (g ++ (w ++ r)).take (a - off) = g ++ (w ++ r.take (a - (off + g.length + w.length))) := by
    rw [show a - off = (g ++ w).length + (a - (off + g.length + w.length)) by rw [List.length_append]; omega, ← List.append_assoc, List.take_length_add_append, List.append_assoc]
   refine ⟨?_, by omega, by simp only [List.length_append]; omega, i4, ?_, ?_⟩
   ·rw [List.append_assoc, List.append_assoc, Qml hg (Qhs ht0 hw (Qlq hst w10)) hw, i1]; rfl
   ·intro e82
    obtain ⟨j, hj, hj2⟩ := i5 e82
    exact ⟨j, by rw [tk, Qml hg (Qhs ht0 hw hst2) hw, hj]; rfl, hj2⟩
   ·intro e82
    obtain ⟨ts, hts⟩ := i6 e82
    exact ⟨_, by rw [tk, Qml hg (Qhs ht0 hw hst2) hw, hts]; rfl⟩
  ·rw [h2] at h
   injection h with ha he
   subst he
   have hb := Qqq hne ht0 m
   have hpos : 0 < m0.length := by
    cases m0 with
    | nil => exact absurd rfl hne
    | cons x y => simp
   have tk : ∀ n, (g ++ m0).take (g.length + n) = g ++ m0.take n := fun n => List.take_length_add_append n
   have ha0 : a - off = g.length + a0 := by omega
   refine ⟨?_, by omega, ?_, ?_, ?_, ?_⟩
   ·rw [List.append_assoc, Qjc hg (Qqw hm hne) (by simp) hb.1, ha]
   ·simp only [List.length_append]; rcases hb.2 with hb | hb <;> omega
   ·rcases hb.2 with hb | hb <;> omega
   ·intro e82
    rcases hb.2 with hb | ⟨_, k1, k2, k3⟩
    ·omega
    ·have hne2 : m0.take a0 ≠ [] := by
      intro hh; have := congrArg List.length hh; rw [List.length_take, List.length_nil] at this; omega
     have hsk : sk false (m0.take a0) = 0 := by
      cases m0 with
      | nil => exact absurd rfl hne
      | cons x y =>
       rw [show a0 = (a0 - 1) + 1 by omega, List.take_succ_cons]
       rw [sk] at hm ⊢
       split at hm
       ·omega
       rename_i h1; rw [if_neg h1]
       split at hm
       ·omega
       rename_i h2; rw [if_neg h2]
     exact ⟨off + g.length + 0, by rw [ha0, tk, Qjc hg hsk hne2 k3], by omega⟩
   ·intro e82
    rcases hb.2 with ⟨k1, _⟩ | hb
    ·rw [ha0, k1, tk, List.take_zero, List.append_nil]
     exact ⟨_, Qe2 (Qqa hg)⟩
    ·omega
end Go.Proofs.Ytbdcndkafaajpaa.L
end
section
namespace Go.Proofs.Ytbdcndkafaajpaa.T
open Go.RowKit Ytbdcndkafaajpaa Ytbdcndkafaajpaa.X Ytbdcndkafaajpaa.L YtbdcndkafaajpaaW.PrintWords YtbdcndkafaajpaaW.PrintLast YtbdcndkafaajpaaW.PrintMore
theorem Qch (s : ByteArray) : s.size = s.data.toList.length := (Qfl s).symm
theorem ext_list (s : ByteArray) (i j : Nat) : (s.extract i j).data.toList = (s.data.toList.drop i).take (j - i) := by
 rw [ByteArray.data_extract, Array.toList_extract, List.extract_eq_take_drop]
def ba (l : List UInt8) : ByteArray := ⟨l.toArray⟩
theorem Qlh (l : List UInt8) : (ba l).data.toList = l := rfl
theorem ba_of (s : ByteArray) : ba s.data.toList = s := rfl
theorem ba_eq {s : ByteArray} {l : List UInt8} (h : s.data.toList = l) : s = ba l := by rw [← h, ba_of]
theorem Qkb (s : ByteArray) (i j : Nat) : s.extract i j = ba ((s.data.toList.drop i).take (j - i)) := ba_eq (ext_list s i j)
theorem w64s {x : Int} (h0 : -4611686018427387904 ≤ x) (h1 : x ≤ 4611686018427387904) : wrap64 x = x := by unfold wrap64; omega
theorem w1 {i : Nat} (n : Nat) (h : i + n ≤ 4611686018427387904) : wrap64 ((i : Int) + (n : Int)) = ((i + n : Nat) : Int) := by
 rw [w64s (by omega) (by omega)]; rfl
theorem Qcr {s : ByteArray} {i : Nat} {l : List UInt8} (h : s.data.toList.drop i = l) (hi : i ≤ s.size) : s.size = i + l.length := by
 rw [← h, List.length_drop, ← Qch]; omega
theorem Qco {s : ByteArray} {i : Nat} {b : UInt8} {t : List UInt8} (h : s.data.toList.drop i = b :: t) : s.data.toList.drop (i + 1) = t := by
 rw [← List.drop_drop, h]; rfl
theorem Qd9 {s : ByteArray} {i : Nat} {b : UInt8} {t : List UInt8} (h : s.data.toList.drop i = b :: t) : i < s.size := by
 rw [Qch]
 have := congrArg List.length h
 rw [List.length_drop, List.length_cons] at this; omega
theorem Qdq {s : ByteArray} {i : Nat} {b : UInt8} {t : List UInt8} (h : s.data.toList.drop i = b :: t) : bt s (i : Int) = (b.toNat : Int) := by
 have hi := Qd9 h
 have h2 : i < s.data.toList.length := by rw [← Qch]; exact hi
 have e := List.drop_eq_getElem_cons h2
 rw [h] at e
 injection e with e1 e2
 unfold bt
 rw [dif_pos (show ((i : Int)).toNat < s.size by rw [Int.toNat_natCast]; exact hi), e1]
 congr 2
theorem Qe6 (b : UInt8) (l : List UInt8) (c : UInt8) : Lib.indexByte (b :: l) c = if b == c then 0 else if Lib.indexByte l c == -1 then -1 else Lib.indexByte l c + 1 := rfl
theorem nl_sk (l : List UInt8) : (Lib.indexByte l 10 = -1 ∧ sk true l = l.length) ∨ ∃ n : Nat, Lib.indexByte l 10 = (n : Int) ∧ n < l.length ∧ sk true l = n + sk false (l.drop n) ∧ (l.drop n).head? = some 10 := by
 induction l with
 | nil => exact .inl ⟨rfl, rfl⟩
 | cons b t ih =>
  rw [Qe6]
  by_cases hb : b = 10
  ·subst hb
   exact .inr ⟨0, rfl, by simp, by rw [sk, List.drop_zero, sk, if_pos (by decide)]; show sk false t + 1 = 0 + (sk false t + 1); omega, rfl⟩
  ·have h1 : (b == 10) = false := by simpa using hb
   have h2 : (b.toNat != 10) = true := by
    rw [bne_iff_ne]; intro h; exact hb (UInt8.toNat_inj.1 h)
   rw [h1, sk, h2]
   rcases ih with ⟨i1, i2⟩ | ⟨n, i1, i2, i3, i4⟩
   ·exact .inl ⟨by rw [i1]; rfl, by rw [i2]; rfl⟩
   ·refine .inr ⟨n + 1, ?_, by simp only [List.length_cons]; omega, by rw [i3, List.drop_succ_cons]; omega, by rw [List.drop_succ_cons]; exact i4⟩
    rw [i1]
    rw [if_neg (by decide), if_neg (by rw [beq_iff_eq]; omega)]
    rfl
theorem Qm2 (s : ByteArray) (hs : s.size ≤ 70368744177664) : ∀ (d i : Nat), s.size - i ≤ d → i ≤ s.size → Ev (fun k => Qa9.l0 k s (i : Int)) ((i + sk false (s.data.toList.drop i) : Nat) : Int) := by
 intro d
 induction d with
 | zero =>
  intro i hd hi
  obtain rfl : i = s.size := by omega
  refine Ev.step (fun k => by simp only [Qa9.l0]; rfl) ?_
  have e : s.data.toList.drop s.size = [] := List.drop_of_length_le (by rw [← Qch]; omega)
  simp only [Int.lt_irrefl, if_false, e, sk, Nat.add_zero]
  exact Ev.now _
 | succ d ih =>
  intro i hd hi
  cases hl : s.data.toList.drop i with
  | nil =>
   have := Qcr hl hi
   simp only [List.length_nil] at this
   have := ih i (by omega) hi
   rw [hl] at this; exact this
  | cons b t =>
   have hlt := Qd9 hl
   have hbt := Qdq hl
   have hnx := Qco hl
   have ihn := ih (i + 1) (by omega) (by omega)
   rw [hnx] at ihn
   have W : wrap64 ((i : Int) + 1) = ((i + 1 : Nat) : Int) := w1 1 (by omega)
   refine Ev.step (fun k => by simp only [Qa9.l0]; rfl) ?_
   simp only [if_pos (show (i : Int) < (s.size : Int) by omega), if_pos (show (0 : Int) ≤ (i : Int) by omega), hbt]
   have hj : L.blank b = true → Ev (fun k => Qa9.j1 k s (i : Int) (b.toNat : Int) true) ((i + sk false (b :: t) : Nat) : Int) := by
    intro hb
    refine Ev.step (fun k => by simp only [Qa9.j1]; rfl) ?_
    simp only [if_true, W]
    rw [sk, if_pos hb, show i + (sk false t + 1) = i + 1 + sk false t by omega]
    exact ihn
   by_cases h1 : b.toNat = 32
   ·simp only [if_pos (show (b.toNat : Int) = 32 by omega), show ((b.toNat : Int) == 32) = true by rw [beq_iff_eq]; omega]; exact hj (by unfold L.blank; rw [h1]; rfl)
   by_cases h2 : b.toNat = 9
   ·simp only [if_neg (show ¬ (b.toNat : Int) = 32 by omega), if_pos (show (b.toNat : Int) = 9 by omega), show ((b.toNat : Int) == 9) = true by rw [beq_iff_eq]; omega]; exact hj (by unfold L.blank; rw [h2]; rfl)
   by_cases h3 : b.toNat = 10
   ·simp only [if_neg (show ¬ (b.toNat : Int) = 32 by omega), if_neg (show ¬ (b.toNat : Int) = 9 by omega), if_pos (show (b.toNat : Int) = 10 by omega), show ((b.toNat : Int) == 10) = true by rw [beq_iff_eq]; omega]; exact hj (by unfold L.blank; rw [h3]; rfl)
   by_cases h4 : b.toNat = 13
   ·simp only [if_neg (show ¬ (b.toNat : Int) = 32 by omega), if_neg (show ¬ (b.toNat : Int) = 9 by omega), if_neg (show ¬ (b.toNat : Int) = 10 by omega), show ((b.toNat : Int) == 13) = true by rw [beq_iff_eq]; omega]; exact hj (by unfold L.blank; rw [h4]; rfl)
   rw [show ((b.toNat : Int) == 13) = false by rw [beq_eq_false_iff_ne]; omega]
   simp only [if_neg (show ¬ (b.toNat : Int) = 32 by omega), if_neg (show ¬ (b.toNat : Int) = 9 by omega), if_neg (show ¬ (b.toNat : Int) = 10 by omega)]
   have hnb : L.blank b = false := decide_eq_false (by omega)
   refine Ev.step (fun k => by simp only [Qa9.j1]; rfl) ?_
   rw [sk, hnb]
   simp only [Bool.false_eq_true, if_false]
   by_cases h5 : b.toNat = 35
   ·have hix : strings_IndexByte.f (s.extract ((i : Int)).toNat s.size) 10 = some (Lib.indexByte (b :: t) 10) := by
     unfold strings_IndexByte.f
     rw [ext_list, Int.toNat_natCast, hl, List.take_of_length_le (by have := Qcr hl hi; omega)]
     rfl
    have hb10 : (b == 10) = false := by
     rw [beq_eq_false_iff_ne]; intro h; rw [h] at h5; exact absurd h5 (by decide)
    rw [if_pos h5]
    simp only [if_pos (show (b.toNat : Int) = 35 by omega), if_pos (show (0 : Int) ≤ (i : Int) by omega), if_pos (show (i : Int) ≤ (s.size : Int) by omega), hix, Option.bind_some]
    rw [Qe6, hb10]
    have hsz := Qcr hl hi
    rw [List.length_cons] at hsz
    rcases nl_sk t with ⟨i1, i2⟩ | ⟨n, i1, i2, i3, i4⟩
    ·rw [i1, i2]
     simp only [if_pos (show ((-1 : Int)) < 0 by omega), beq_self_eq_true, if_true, Bool.false_eq_true, if_false]
     rw [show ((i + (t.length + 1) : Nat) : Int) = (s.size : Int) by omega]
     exact Ev.now _
    ·have hne : ((n : Int) == -1) = false := by rw [beq_eq_false_iff_ne]; omega
     have W2 : wrap64 ((i : Int) + ((n : Int) + 1)) = ((i + (n + 1) : Nat) : Int) := by rw [w64s (by omega) (by omega)]; rfl
     have ih2 := ih (i + (n + 1)) (by omega) (by omega)
     rw [show s.data.toList.drop (i + (n + 1)) = t.drop n by rw [show i + (n + 1) = i + 1 + n by omega, ← List.drop_drop, hnx]] at ih2
     rw [i1, i3]
     simp only [hne, Bool.false_eq_true, if_false, if_neg (show ¬ ((n : Int) + 1) < 0 by omega), W2]
     rw [show i + (n + sk false (t.drop n) + 1) = i + (n + 1) + sk false (t.drop n) by omega]
     exact ih2
   ·rw [if_neg h5]
    simp only [if_neg (show ¬ (b.toNat : Int) = 35 by omega), Nat.add_zero]
    exact Ev.now _
def hexI (b : UInt8) : Int := match hexv b with | some n => (n : Int) | none => -1
theorem Qnu (b : UInt8) : Qbo.f (b.toNat : Int) = some (isD b) := by
 unfold Qbo.f isD G.dig
 by_cases h : (b.toNat : Int) ≥ 48
 ·rw [if_pos h]; congr 2; simp; omega
 ·rw [if_neg h]; congr 1; symm; apply decide_eq_false; omega
theorem isL_eq (b : UInt8) : Qbr.f (b.toNat : Int) = some (isL b) := by
 unfold Qbr.f isL G.letr
 have e : ∀ x : Bool, (x = true ↔ ((97 ≤ (b.toNat : Int) ∧ (b.toNat : Int) ≤ 122) ∨ (65 ≤ (b.toNat : Int) ∧ (b.toNat : Int) ≤ 90) ∨ (b.toNat : Int) = 95)) → some x = some (decide ((97 ≤ (b.toNat : Int) ∧ (b.toNat : Int) ≤ 122) ∨ (65 ≤ (b.toNat : Int) ∧ (b.toNat : Int) ≤ 90) ∨ (b.toNat : Int) = 95)) := fun x h => by rw [Option.some.injEq, Bool.eq_iff_iff, decide_eq_true_iff]; exact h
 repeat' split
 all_goals refine e _ ?_
 all_goals first | (simp only [true_iff]; omega) | (rw [beq_iff_eq]; omega)
theorem Qje (b : UInt8) : isD b = true ↔ (48 ≤ b.toNat ∧ b.toNat ≤ 57) := by
 unfold isD G.dig; rw [decide_eq_true_iff]; omega
theorem Qrd {b : UInt8} (h : ¬ (48 ≤ b.toNat ∧ b.toNat ≤ 57)) : isD b = false := by
 rw [← Bool.not_eq_true, Qje]; exact h
theorem Ql3 (b : UInt8) : Ev (fun k => Qba.f k (b.toNat : Int)) (hexI b) := by
 unfold Qba.f hexI hexv
 simp only [Qnu, Option.bind_some]
 by_cases h1 : 48 ≤ b.toNat ∧ b.toNat ≤ 57
 ·simp only [(Qje b).2 h1, if_true, if_pos h1]
  rw [show (((b.toNat : Int) - 48) % 256) = ((b.toNat - 48 : Nat) : Int) by omega]
  exact Ev.now _
 ·simp only [Qrd h1, Bool.false_eq_true, if_false, if_neg h1]
  by_cases h2 : 97 ≤ b.toNat ∧ b.toNat ≤ 102
  ·simp only [if_pos h2, if_pos (show (b.toNat : Int) ≥ 97 by omega)]
   refine Ev.step (fun k => by simp only [Qba.j0]; rfl) ?_
   simp only [decide_eq_true (show (b.toNat : Int) ≤ 102 by omega), if_true]
   rw [show (((b.toNat : Int) - 97) % 256) + 10 = ((b.toNat - 87 : Nat) : Int) by omega]
   exact Ev.now _
  ·simp only [if_neg h2]
   have key : Ev (fun k => Qba.j0 k (b.toNat : Int) false) (match (if 65 ≤ b.toNat ∧ b.toNat ≤ 70 then some (b.toNat - 55) else none : Option Nat) with | some n => (n : Int) | none => -1) := by
    refine Ev.step (fun k => by simp only [Qba.j0]; rfl) ?_
    simp only [Bool.false_eq_true, if_false]
    by_cases h3 : 65 ≤ b.toNat
    ·simp only [if_pos (show (b.toNat : Int) ≥ 65 by omega)]
     by_cases h4 : b.toNat ≤ 70
     ·simp only [if_pos (show (b.toNat : Int) ≤ 70 by omega), if_pos (And.intro h3 h4)]
      rw [show (((b.toNat : Int) - 65) % 256) + 10 = ((b.toNat - 55 : Nat) : Int) by omega]
      exact Ev.now _
     ·simp only [if_neg (show ¬ (b.toNat : Int) ≤ 70 by omega), if_neg (show ¬ (65 ≤ b.toNat ∧ b.toNat ≤ 70) by omega)]
      exact Ev.now _
    ·simp only [if_neg (show ¬ (b.toNat : Int) ≥ 65 by omega), if_neg (show ¬ (65 ≤ b.toNat ∧ b.toNat ≤ 70) by omega)]
     exact Ev.now _
   by_cases h5 : (b.toNat : Int) ≥ 97
   ·simp only [if_pos h5, decide_eq_false (show ¬ (b.toNat : Int) ≤ 102 by omega)]; exact key
   ·simp only [if_neg h5]; exact key
theorem Qjf {b : UInt8} {x : Nat} (h : hexv b = some x) : x < 16 := by
 unfold hexv at h
 split at h
 ·cases h; omega
 split at h
 ·cases h; omega
 split at h
 ·cases h; omega
 ·cases h
theorem Qpy {n : Nat} (h : n < 256) : ((n.toUInt8).toNat : Int) = (n : Int) := by
 rw [show n.toUInt8 = UInt8.ofNat n from rfl, UInt8.toNat_ofNat']; omega
def Qn3 (p : Nat) (t : List UInt8) : Int × Int := match esc t with | some (c, n) => ((c.toNat : Int), ((p + 1 + n : Nat) : Int)) | none => (0, 0)
theorem Qn2 (s : ByteArray) (hs : s.size ≤ 70368744177664) (p : Nat) (b : UInt8) (t : List UInt8) (hp : s.data.toList.drop p = b :: t) : Ev (fun k => Qav.f k s (p : Int)) (Qn3 p t) := by
 have hlt := Qd9 hp
 have hn1 := Qco hp
 have hsz := Qcr hp (by omega)
 rw [List.length_cons] at hsz
 have W1 : wrap64 ((p : Int) + 1) = ((p + 1 : Nat) : Int) := w1 1 (by omega)
 have W2 : wrap64 ((p : Int) + 2) = ((p + 2 : Nat) : Int) := w1 2 (by omega)
 have W3 : wrap64 ((p : Int) + 3) = ((p + 3 : Nat) : Int) := w1 3 (by omega)
 have W4 : wrap64 ((p : Int) + 4) = ((p + 4 : Nat) : Int) := w1 4 (by omega)
 unfold Qav.f Qn3
 simp only [W1]
 cases t with
 | nil =>
  simp only [List.length_nil] at hsz
  simp only [if_pos (show ((p + 1 : Nat) : Int) ≥ (s.size : Int) by omega), esc]
  exact Ev.now _
 | cons c t =>
  have hb1 := Qdq hn1
  have hn2 := Qco hn1
  simp only [List.length_cons] at hsz
  simp only [if_neg (show ¬ ((p + 1 : Nat) : Int) ≥ (s.size : Int) by omega), if_pos (show (0 : Int) ≤ ((p + 1 : Nat) : Int) by omega), if_pos (show ((p + 1 : Nat) : Int) < (s.size : Int) by omega), hb1, esc]
  by_cases h1 : c.toNat = 92 ∨ c.toNat = 34
  ·have key : Ev (fun k => Qav.j0 k s (p : Int) (c.toNat : Int) true) ((c.toNat : Int), ((p + 1 + 1 : Nat) : Int)) := by
    refine Ev.step (fun k => by simp only [Qav.j0]; rfl) ?_
    simp only [if_true, W1, W2, if_pos (show (0 : Int) ≤ ((p + 1 : Nat) : Int) by omega), if_pos (show ((p + 1 : Nat) : Int) < (s.size : Int) by omega), hb1]
    exact Ev.now _
   simp only [if_pos h1]
   by_cases h2 : c.toNat = 92
   ·simp only [if_pos (show (c.toNat : Int) = 92 by omega), show ((c.toNat : Int) == 92) = true by rw [beq_iff_eq]; omega]; exact key
   ·simp only [if_neg (show ¬ (c.toNat : Int) = 92 by omega), show ((c.toNat : Int) == 34) = true by rw [beq_iff_eq]; omega]; exact key
  ·have h92 : ¬ (c.toNat : Int) = 92 := by omega
   have h34 : ((c.toNat : Int) == 34) = false := by rw [beq_eq_false_iff_ne]; omega
   simp only [if_neg h1, if_neg h92, h34]
   refine Ev.step (fun k => by simp only [Qav.j0]; rfl) ?_
   simp only [Bool.false_eq_true, if_false, W2, W3]
   by_cases h2 : c.toNat = 110
   ·simp only [if_pos h2, if_pos (show (c.toNat : Int) = 110 by omega)]; exact Ev.now _
   simp only [if_neg h2, if_neg (show ¬ (c.toNat : Int) = 110 by omega)]
   by_cases h3 : c.toNat = 116
   ·simp only [if_pos h3, if_pos (show (c.toNat : Int) = 116 by omega)]; exact Ev.now _
   simp only [if_neg h3, if_neg (show ¬ (c.toNat : Int) = 116 by omega)]
   by_cases h4 : c.toNat = 120
   ·simp only [if_pos h4, if_pos (show (c.toNat : Int) = 120 by omega)]
    have jF : Ev (fun k => Qav.j1 k s (p : Int) false) ((0 : Int), (0 : Int)) := by
     refine Ev.step (fun k => by simp only [Qav.j1]; rfl) ?_
     simp only [Bool.false_eq_true, if_false]; exact Ev.now _
    match t, hn2, hsz with
    | [], _, hsz =>
     simp only [List.length_nil] at hsz
     simp only [if_neg (show ¬ ((p + 3 : Nat) : Int) < (s.size : Int) by omega), escx]; exact jF
    | [a], _, hsz =>
     simp only [List.length_nil, List.length_cons] at hsz
     simp only [if_neg (show ¬ ((p + 3 : Nat) : Int) < (s.size : Int) by omega), escx]; exact jF
    | a :: e :: t', hn2, hsz =>
     simp only [List.length_cons] at hsz
     have hba := Qdq hn2
     have hbe := Qdq (Qco hn2)
     simp only [if_pos (show ((p + 3 : Nat) : Int) < (s.size : Int) by omega), if_pos (show (0 : Int) ≤ ((p + 2 : Nat) : Int) by omega), if_pos (show ((p + 2 : Nat) : Int) < (s.size : Int) by omega), if_pos (show (0 : Int) ≤ ((p + 3 : Nat) : Int) by omega), escx]
     rw [show bt s ((p + 2 : Nat) : Int) = (a.toNat : Int) from hba, show bt s ((p + 3 : Nat) : Int) = (e.toNat : Int) from hbe]
     refine Ev.bind (Ql3 a) ?_
     have hea := Ql3 a
     have hee := Ql3 e
     unfold hexI at hea hee ⊢
     cases hx : hexv a with
     | none =>
      simp only [if_neg (show ¬ ((-1 : Int)) ≥ 0 by omega)]
      exact jF
     | some x =>
      simp only [if_pos (show (x : Int) ≥ 0 by omega)]
      rw [hx] at hea; simp only at hea
      refine Ev.bind hee ?_
      cases hy : hexv e with
      | none =>
       simp only [decide_eq_false (show ¬ ((-1 : Int)) ≥ 0 by omega)]
       exact jF
      | some y =>
       rw [hy] at hee; simp only at hee
       have lx := Qjf hx
       have ly := Qjf hy
       simp only [decide_eq_true (show (y : Int) ≥ 0 by omega)]
       refine Ev.step (fun k => by simp only [Qav.j1]; rfl) ?_
       simp only [if_true, W2, W3, W4, if_pos (show ((p + 3 : Nat) : Int) < (s.size : Int) by omega), if_pos (show (0 : Int) ≤ ((p + 2 : Nat) : Int) by omega), if_pos (show ((p + 2 : Nat) : Int) < (s.size : Int) by omega), if_pos (show (0 : Int) ≤ ((p + 3 : Nat) : Int) by omega)]
       rw [show bt s ((p + 2 : Nat) : Int) = (a.toNat : Int) from hba, show bt s ((p + 3 : Nat) : Int) = (e.toNat : Int) from hbe]
       refine Ev.bind hea ?_
       refine Ev.bind hee ?_
       rw [w64s (x := 16 * (x : Int)) (by omega) (by omega), w64s (x := 16 * (x : Int) + (y : Int)) (by omega) (by omega), Qpy (show 16 * x + y < 256 by omega),
        show (16 * (x : Int) + (y : Int)) % 256 = ((16 * x + y : Nat) : Int) by omega]
       exact Ev.now _
   ·simp only [if_neg h4, if_neg (show ¬ (c.toNat : Int) = 120 by omega)]; exact Ev.now _
def nums (l : List UInt8) : List Int := l.map fun b => (b.toNat : Int)
theorem Qgk (l : List UInt8) (b : UInt8) : nums l ++ [(b.toNat : Int)] = nums (l ++ [b]) := by unfold nums; simp
theorem Qhd (l : List UInt8) : (nums l).length = l.length := by unfold nums; simp
theorem strOf (l : List UInt8) : strOfNums (nums l) = ba l := by
 unfold strOfNums nums ba
 rw [List.map_map]
 congr 2
 conv => rhs; rw [← List.map_id l]
 apply List.map_congr_left
 intro b hb
 simp
def Ql7 (i : Nat) : R → Int × ByteArray × Int × Int × Int × Int × Int → Prop
 | .ok t, p => p = ((t.kind : Int), ba t.text, (t.num : Int), (i : Int), ((i + t.len : Nat) : Int), 0, 0)
 | .bad a e, p => p.2.2.2.2.2.1 = ((i + a : Nat) : Int) ∧ p.2.2.2.2.2.2 = (e : Int) ∧ e ≠ 0
theorem Qqs (s : ByteArray) (hs : s.size ≤ 70368744177664) (i : Nat) : ∀ (d off : Nat) (acc : List UInt8), s.size - (i + off) ≤ d → i + off ≤ s.size → acc.length ≤ off →
  ∃ p, Ev (fun k => Qa7.l0 k s (i : Int) (nums acc) ((i + off : Nat) : Int)) p ∧ Ql7 i (tx off acc (s.data.toList.drop (i + off))) p := by
 have bad : ∀ (off : Nat) (acc : List UInt8), Ev (fun k => Qa7.j1 k s (i : Int) (nums acc) ((i + off : Nat) : Int) false) ((0 : Int), (⟨#[]⟩ : ByteArray), (0 : Int), (0 : Int), (0 : Int), (i : Int), (81 : Int)) := by
  intro off acc
  refine Ev.step (fun k => by simp only [Qa7.j1]; rfl) ?_
  simp only [Bool.false_eq_true, if_false]; exact Ev.now _
 intro d
 induction d with
 | zero =>
  intro off acc hd hi ha
  have e : s.data.toList.drop (i + off) = [] := List.drop_of_length_le (by rw [← Qch]; omega)
  refine ⟨((0 : Int), (⟨#[]⟩ : ByteArray), (0 : Int), (0 : Int), (0 : Int), (i : Int), (81 : Int)), Ev.step (fun k => by simp only [Qa7.l0]; rfl) ?_, ?_⟩
  ·simp only [if_neg (show ¬ ((i + off : Nat) : Int) < (s.size : Int) by omega)]; exact bad off acc
  ·rw [e, tx]; exact ⟨by simp, rfl, by decide⟩
 | succ d ih =>
  intro off acc hd hi ha
  cases hl : s.data.toList.drop (i + off) with
  | nil =>
   have := Qcr hl hi
   simp only [List.length_nil] at this
   have := ih off acc (by omega) hi ha
   rw [hl] at this; exact this
  | cons b t =>
   have hlt := Qd9 hl
   have hbt := Qdq hl
   have hnx := Qco hl
   have hsz := Qcr hl hi
   rw [List.length_cons] at hsz
   rw [tx]
   by_cases h1 : b.toNat = 10
   ·rw [if_pos h1]
    refine ⟨((0 : Int), (⟨#[]⟩ : ByteArray), (0 : Int), (0 : Int), (0 : Int), (i : Int), (81 : Int)), Ev.step (fun k => by simp only [Qa7.l0]; rfl) ?_, ?_⟩
    ·simp only [if_pos (show ((i + off : Nat) : Int) < (s.size : Int) by omega), if_pos (show (0 : Int) ≤ ((i + off : Nat) : Int) by omega), hbt, show ((b.toNat : Int) != 10) = false by rw [bne_eq_false_iff_eq]; omega]; exact bad off acc
    ·exact ⟨by simp, rfl, by decide⟩
   rw [if_neg h1]
   have st : ∀ p, Ev (fun k => if (b.toNat : Int) = 34 then some ((3 : Int), strOfNums (nums acc), (0 : Int), (i : Int), wrap64 (((i + off : Nat) : Int) + 1), (0 : Int), (0 : Int))
     else if (b.toNat : Int) = 92 then (Qav.f k s ((i + off : Nat) : Int)).bind fun bt108 => if bt108.2 = 0 then some ((0 : Int), (⟨#[]⟩ : ByteArray), (0 : Int), (0 : Int), (0 : Int), ((i + off : Nat) : Int), (82 : Int)) else if (nums acc).length < 140737488355328 then Qa7.l0 k s (i : Int) (nums acc ++ [bt108.1]) bt108.2 else none
     else if (nums acc).length < 140737488355328 then Qa7.l0 k s (i : Int) (nums acc ++ [(b.toNat : Int)]) (wrap64 (((i + off : Nat) : Int) + 1)) else none) p →
     Ev (fun k => Qa7.l0 k s (i : Int) (nums acc) ((i + off : Nat) : Int)) p := by
    intro p hp
    refine Ev.step (fun k => by simp only [Qa7.l0]; rfl) ?_
    simp only [if_pos (show ((i + off : Nat) : Int) < (s.size : Int) by omega), if_pos (show (0 : Int) ≤ ((i + off : Nat) : Int) by omega), hbt, show ((b.toNat : Int) != 10) = true by rw [bne_iff_ne]; omega]
    refine Ev.step (fun k => by simp only [Qa7.j1]; rfl) ?_
    simp only [if_true, if_pos (show ((i + off : Nat) : Int) < (s.size : Int) by omega), if_pos (show (0 : Int) ≤ ((i + off : Nat) : Int) by omega), hbt]
    exact hp
   have W : wrap64 (((i + off : Nat) : Int) + 1) = ((i + (off + 1) : Nat) : Int) := w1 (i := i + off) 1 (by omega)
   by_cases h2 : b.toNat = 34
   ·rw [if_pos h2]
    refine ⟨((3 : Int), ba acc, (0 : Int), (i : Int), ((i + (off + 1) : Nat) : Int), (0 : Int), (0 : Int)), st _ ?_, ?_⟩
    ·simp only [if_pos (show (b.toNat : Int) = 34 by omega), strOf, W]; exact Ev.now _
    ·rfl
   rw [if_neg h2]
   by_cases h3 : b.toNat = 92
   ·rw [if_pos h3]
    have he := Qn2 s hs (i + off) b t hl
    unfold Qn3 at he
    cases hx : esc t with
    | none =>
     rw [hx] at he
     refine ⟨((0 : Int), (⟨#[]⟩ : ByteArray), (0 : Int), (0 : Int), (0 : Int), ((i + off : Nat) : Int), (82 : Int)), st _ ?_, ?_⟩
     ·simp only [if_neg (show ¬ (b.toNat : Int) = 34 by omega), if_pos (show (b.toNat : Int) = 92 by omega)]
      refine Ev.bind he ?_
      exact Ev.now _
     ·exact ⟨rfl, rfl, by decide⟩
    | some q =>
     obtain ⟨c, n⟩ := q
     rw [hx] at he; simp only at he ⊢
     have hn := (Qiw hx).2
     obtain ⟨p, hp1, hp2⟩ := ih (off + n + 1) (acc ++ [c]) (by omega) (by omega) (by simp only [List.length_append, List.length_cons, List.length_nil]; omega)
     have hdr : s.data.toList.drop (i + (off + n + 1)) = t.drop n := by
      rw [show i + (off + n + 1) = (i + off) + 1 + n by omega, ← List.drop_drop, hnx]
     rw [hdr] at hp2
     refine ⟨p, st _ ?_, hp2⟩
     simp only [if_neg (show ¬ (b.toNat : Int) = 34 by omega), if_pos (show (b.toNat : Int) = 92 by omega)]
     refine Ev.bind he ?_
     simp only [if_neg (show ¬ ((i + off + 1 + n : Nat) : Int) = 0 by omega), if_pos (show (nums acc).length < 140737488355328 by rw [Qhd]; omega), Qgk]
     rw [show i + off + 1 + n = i + (off + n + 1) by omega]
     exact hp1
   ·rw [if_neg h3]
    obtain ⟨p, hp1, hp2⟩ := ih (off + 1) (acc ++ [b]) (by omega) (by omega) (by simp only [List.length_append, List.length_cons, List.length_nil]; omega)
    rw [show i + (off + 1) = i + off + 1 by omega, hnx] at hp2
    refine ⟨p, st _ ?_, hp2⟩
    simp only [if_neg (show ¬ (b.toNat : Int) = 34 by omega), if_neg (show ¬ (b.toNat : Int) = 92 by omega), if_pos (show (nums acc).length < 140737488355328 by rw [Qhd]; omega), Qgk, W]
    exact hp1
theorem Qqp (n : Nat) (p : UInt8 → Bool) (hp : ∀ b : UInt8, G.okb n (b.toNat : Int) = p b) (l : List UInt8) : G.tw n l = lead p l := by
 induction l with
 | nil => rfl
 | cons b t ih => rw [G.Qhr, lead, hp b, ih]
theorem Qp1 {n : Nat} {p : UInt8 → Bool} (hn : n = 56 ∨ n = 55) (hp : ∀ b : UInt8, G.okb n (b.toNat : Int) = p b) (s : ByteArray) (hs : s.size ≤ 70368744177664) (i : Nat) (hi : i ≤ s.size) :
  Qda.f s (i : Int) n = some ((i + lead p (s.data.toList.drop i) : Nat) : Int) := by
 unfold Qda.f
 rw [if_pos ⟨by omega, by omega, by omega, hn⟩, Int.toNat_natCast, Qqp n p hp]
theorem Qly (b : UInt8) : Lib.indexByte [123, 125, 40, 41, 58, 59, 44, 61, 43, 45, 42] b ≥ 0 ↔ b.toNat ∈ marks := by
 have key : ∀ (l : List UInt8) (c : UInt8), Lib.indexByte l c ≥ 0 ↔ c ∈ l := by
  intro l c
  induction l with
  | nil => simp [Lib.indexByte]
  | cons a t ih =>
   rw [Qe6, List.mem_cons, ← ih]
   by_cases h : a = c
   ·subst h; simp
   ·have h1 : (a == c) = false := by simpa using h
    have h2 : ¬ c = a := fun e => h e.symm
    rw [h1]
    have := Lib.indexByte_ge t c
    by_cases h3 : Lib.indexByte t c = -1
    ·rw [h3]; simp [h2]
    ·have h4 : (Lib.indexByte t c == -1) = false := by simpa using h3
     rw [h4]
     simp only [Bool.false_eq_true, if_false, h2, false_or]
     omega
 rw [key]
 unfold marks
 simp only [List.mem_cons, List.not_mem_nil, or_false, ← UInt8.toNat_inj]
 rfl
theorem Qoq (s : ByteArray) (hs : s.size ≤ 70368744177664) (i : Nat) (b : UInt8) (t : List UInt8) (hl : s.data.toList.drop i = b :: t) : ∃ p, Ev (fun k => Qbx.f k s (i : Int)) p ∧ Ql7 i (L.tok (s.data.toList.drop i)) p := by
 have hlt := Qd9 hl
 have hbt := Qdq hl
 have hnx := Qco hl
 have hsz := Qcr hl (by omega)
 rw [List.length_cons] at hsz
 have c1 : (0 : Int) ≤ (i : Int) := by omega
 have c2 : (i : Int) < (s.size : Int) := by omega
 have W : wrap64 ((i : Int) + 1) = ((i + 1 : Nat) : Int) := w1 1 (by omega)
 unfold Qbx.f
 simp only [if_pos c1, if_pos c2, hbt, isL_eq, Qnu, Option.bind_some]
 rw [hl, L.tok]
 have lw := Qfk isW (b :: t)
 have ld := Qfk isD (b :: t)
 rw [List.length_cons] at lw ld
 by_cases h1 : isL b = true
 ·have hr := Qp1 (n := 55) (p := isW) (.inr rfl) (fun b => rfl) s hs i (by omega)
  rw [hl] at hr
  have hx := Qkb s i (i + lead isW (b :: t))
  rw [Nat.add_sub_cancel_left, hl] at hx
  have hxs : ((s.extract i (i + lead isW (b :: t))).size : Int) = ((lead isW (b :: t) : Nat) : Int) := by
   rw [hx, Qch, Qlh, List.length_take]; simp only [List.length_cons]; omega
  rw [if_pos h1]
  simp only [h1, if_true, hr, Option.bind_some, if_pos (show (i : Int) ≤ ((i + lead isW (b :: t) : Nat) : Int) by omega), if_pos (show ((i + lead isW (b :: t) : Nat) : Int) ≤ (s.size : Int) by omega), Int.toNat_natCast, hxs]
  by_cases h64 : lead isW (b :: t) > 64
  ·rw [if_pos h64]
   simp only [if_pos (show ((lead isW (b :: t) : Nat) : Int) > 64 by omega)]
   exact ⟨_, Ev.now _, rfl, rfl, by decide⟩
  ·rw [if_neg h64]
   simp only [if_neg (show ¬ ((lead isW (b :: t) : Nat) : Int) > 64 by omega)]
   exact ⟨_, Ev.now _, by rw [hx]; rfl⟩
 have h1' : isL b = false := by simpa using h1
 rw [if_neg h1]
 simp only [h1', Bool.false_eq_true, if_false]
 by_cases h2 : isD b = true
 ·have hr := Qp1 (n := 56) (p := isD) (.inl rfl) (fun b => rfl) s hs i (by omega)
  rw [hl] at hr
  have hx := Qkb s i (i + lead isD (b :: t))
  rw [Nat.add_sub_cancel_left, hl] at hx
  rw [if_pos h2]
  have hnum : Qci.f (s.extract i (i + lead isD (b :: t))) = some (match G.numv 0 ((b :: t).take (lead isD (b :: t))) with | some x => ((x : Int), true) | none => (0, false)) := by
   unfold Qci.f
   rw [hx, Qlh, if_pos (by rw [Qch, Qlh, List.length_take]; omega)]
   try (cases G.numv 0 ((b :: t).take (lead isD (b :: t))) <;> rfl)
  simp only [h2, if_true, hr, Option.bind_some, if_pos (show (i : Int) ≤ ((i + lead isD (b :: t) : Nat) : Int) by omega), if_pos (show ((i + lead isD (b :: t) : Nat) : Int) ≤ (s.size : Int) by omega), Int.toNat_natCast, hnum]
  cases G.numv 0 ((b :: t).take (lead isD (b :: t))) with
  | none => simp only [Bool.false_eq_true, if_false]; exact ⟨_, Ev.now _, rfl, rfl, by decide⟩
  | some x => simp only [if_true]; exact ⟨_, Ev.now _, rfl⟩
 have h2' : isD b = false := by simpa using h2
 rw [if_neg h2]
 simp only [h2', Bool.false_eq_true, if_false]
 by_cases h3 : b.toNat = 34
 ·rw [if_pos h3]
  simp only [if_pos (show (b.toNat : Int) = 34 by omega)]
  obtain ⟨p, hp1, hp2⟩ := Qqs s hs i (s.size) 1 [] (by omega) (by omega) (by simp)
  rw [hnx] at hp2
  refine ⟨p, ?_, hp2⟩
  have hp3 : Ev (fun k => Qa7.f k s (i : Int)) p := Ev.congr (fun k => by unfold Qa7.f; rw [W]; rfl) hp1
  exact Ev.bind hp3 (Ev.now _)
 rw [if_neg h3]
 simp only [if_neg (show ¬ (b.toNat : Int) = 34 by omega)]
 have hix : strings_IndexByte.f (⟨#[123, 125, 40, 41, 58, 59, 44, 61, 43, 45, 42]⟩ : ByteArray) (b.toNat : Int) = some (Lib.indexByte [123, 125, 40, 41, 58, 59, 44, 61, 43, 45, 42] b) := by
  unfold strings_IndexByte.f
  rw [Int.toNat_natCast, show b.toNat.toUInt8 = b from UInt8.ofNat_toNat]
 simp only [hix, Option.bind_some]
 by_cases h4 : b.toNat ∈ marks
 ·rw [if_pos h4]
  have hx := Qkb s i (i + 1)
  rw [Nat.add_sub_cancel_left, hl] at hx
  simp only [if_pos ((Qly b).2 h4), W, if_pos (show (i : Int) ≤ ((i + 1 : Nat) : Int) by omega), if_pos (show ((i + 1 : Nat) : Int) ≤ (s.size : Int) by omega), Int.toNat_natCast, hx]
  exact ⟨_, Ev.now _, rfl⟩
 ·rw [if_neg h4]
  simp only [if_neg (fun h => h4 ((Qly b).1 h))]
  exact ⟨_, Ev.now _, rfl, rfl, by decide⟩
def toS (t : L.Tok) : S47 := ⟨(t.kind : Int), ba t.text, (t.num : Int), (t.at' : Int), (t.fin : Int)⟩
def outL (acc : List S47) : LR → List S47 × Int × Int
 | .toks l => (acc ++ l.map toS, 0, 0)
 | .bad a e => ([], (a : Int), (e : Int))
theorem Qjx (acc : List S47) (t : L.Tok) (r : LR) : outL acc (r.push t) = outL (acc ++ [toS t]) r := by
 cases r with
 | toks l => simp [LR.push, outL]
 | bad a e => rfl
theorem Qq8 (s : ByteArray) (hs : s.size ≤ 1048576) : ∀ (d off : Nat) (acc : List S47), s.size - off ≤ d → off ≤ s.size → acc.length ≤ off →
  Ev (fun k => Qbw.l0 k s acc ((off + sk false (s.data.toList.drop off) : Nat) : Int)) (outL acc (lx off (s.data.toList.drop off))) := by
 intro d
 induction d with
 | zero =>
  intro off acc hd hi ha
  have e : s.data.toList.drop off = [] := List.drop_of_length_le (by rw [← Qch]; omega)
  refine Ev.step (fun k => by simp only [Qbw.l0]; rfl) ?_
  rw [e, Qe2 rfl]
  simp only [sk, Nat.add_zero, if_neg (show ¬ (off : Int) < (s.size : Int) by omega), if_pos (show acc.length < 2932031007402 by omega), List.length_nil]
  obtain rfl : off = s.size := by omega
  exact Ev.now _
 | succ d ih =>
  intro off acc hd hi ha
  have hlen : (s.data.toList.drop off).length = s.size - off := by rw [List.length_drop, ← Qch]
  have hsk := Qou false (s.data.toList.drop off)
  by_cases hz : sk false (s.data.toList.drop off) = (s.data.toList.drop off).length
  ·refine Ev.step (fun k => by simp only [Qbw.l0]; rfl) ?_
   rw [Qe2 hz, hz, hlen, show off + (s.size - off) = s.size by omega]
   simp only [Int.lt_irrefl, if_false, if_pos (show acc.length < 2932031007402 by omega)]
   exact Ev.now _
  ·obtain ⟨i, hi2⟩ : ∃ i, i = off + sk false (s.data.toList.drop off) := ⟨_, rfl⟩
   have hdr : (s.data.toList.drop off).drop (sk false (s.data.toList.drop off)) = s.data.toList.drop i := by rw [List.drop_drop, hi2]
   have hil : i < s.size := by omega
   cases hl : s.data.toList.drop i with
   | nil => have := Qcr hl (by omega); simp only [List.length_nil] at this; omega
   | cons b t =>
    obtain ⟨p, hp1, hp2⟩ := Qoq s (by omega) i b t hl
    refine Ev.step (fun k => by simp only [Qbw.l0]; rfl) ?_
    simp only [← hi2, if_pos (show (i : Int) < (s.size : Int) by omega)]
    refine Ev.bind hp1 ?_
    cases ht : L.tok (s.data.toList.drop i) with
    | bad a e =>
     rw [ht] at hp2
     obtain ⟨h1, h2, h3⟩ := hp2
     rw [Qlz (a := a) (e := e) hz (by rw [hdr]; exact ht), ← hi2]
     simp only [h1, h2, if_neg (show ¬ (e : Int) = 0 by omega)]
     exact Ev.now _
    | ok t' =>
     rw [ht] at hp2
     have hp2' : p = ((t'.kind : Int), ba t'.text, (t'.num : Int), (i : Int), ((i + t'.len : Nat) : Int), 0, 0) := hp2
     have htl := Qd4 ht
     rw [List.length_drop, ← Qch] at htl
     subst hp2'
     rw [Qpc (t := t') hz (by rw [hdr]; exact ht), ← hi2]
     simp only [if_true, if_pos (show acc.length < 2932031007402 by omega)]
     have hsk2 := (Qm2 s (by omega) _ (i + t'.len) (Nat.le_refl _) (by omega))
     have hnx := ih (i + t'.len) (acc ++ [toS (t'.at_ i)]) (by omega) (by omega) (by simp only [List.length_append, List.length_cons, List.length_nil]; omega)
     rw [Qjx, show (s.data.toList.drop off).drop (sk false (s.data.toList.drop off) + t'.len) = s.data.toList.drop (i + t'.len) by rw [← List.drop_drop, hdr, List.drop_drop]]
     refine Ev.bind (g := fun k => Qa9.f k s ((i + t'.len : Nat) : Int)) hsk2 ?_
     exact hnx
theorem Ql0 (s : ByteArray) : Ev (fun k => Qbw.f k s) (outL [] (L.Lex s.data.toList)) := by
 unfold L.Lex
 rw [← Qch]
 by_cases h : s.size > 1048576
 ·rw [if_pos h]
  refine Ev.congr (fun k => ?_) (Ev.now _)
  unfold Qbw.f
  rw [if_pos (by omega)]; rfl
 ·rw [if_neg h]
  have h1 := Qm2 s (by omega) _ 0 (Nat.le_refl _) (by omega)
  have h2 := Qq8 s (by omega) _ 0 [] (Nat.le_refl _) (by omega) (Nat.le_refl _)
  rw [List.drop_zero] at h1 h2
  refine Ev.congr (f := fun k => (Qa9.f k s 0).bind fun t132 => Qbw.l0 k s [] t132) (fun k => ?_) (Ev.bind (g := fun k => Qa9.f k s 0) h1 h2)
  unfold Qbw.f
  rw [if_neg (by omega)]
theorem Qpd : ∀ (d off : Nat) (l : List UInt8) (ts : List L.Tok), l.length ≤ d → lx off l = .toks ts → ts.length ≤ l.length + 1 := by
 intro d
 induction d with
 | zero =>
  intro off l ts hd h
  obtain rfl : l = [] := List.length_eq_zero_iff.1 (by omega)
  rw [Qe2 rfl] at h; cases h; simp
 | succ d ih =>
  intro off l ts hd h
  rcases Qhz off l with ⟨q, hq, e⟩ | ⟨g, w, r, t, rfl, hg, ht, hw, e⟩ | ⟨g, m, a, e, rfl, hg, hm, hne, ht, h2⟩
  ·rw [e] at h; cases h; simp
  ·have hl2 := Qd4 ht
   rw [e] at h
   obtain ⟨l', h1, rfl⟩ := Qfu h
   simp only [List.length_append, List.length_cons] at hd ⊢
   have := ih _ r l' (by omega) h1
   omega
  ·rw [h2] at h; cases h
theorem Qma {l : List UInt8} {ts : List L.Tok} (h : L.Lex l = .toks ts) : l.length ≤ 1048576 ∧ lx 0 l = .toks ts ∧ ts.length ≤ l.length + 1 := by
 unfold L.Lex at h
 split at h
 ·cases h
 ·exact ⟨by omega, h, Qpd _ _ _ _ (Nat.le_refl _) h⟩
theorem Qib {l : List UInt8} {a e : Nat} (h : L.Lex l = .bad a e) : (1048576 < l.length ∧ a = 0 ∧ e = 2) ∨ (l.length ≤ 1048576 ∧ lx 0 l = .bad a e ∧ a < l.length ∧ (e = 80 ∨ e = 81 ∨ e = 82 ∨ e = 111)) := by
 unfold L.Lex at h
 split at h
 ·cases h; exact .inl ⟨by omega, rfl, rfl⟩
 ·have := Qnm [] _ _ _ _ _ (Nat.le_refl _) h
  exact .inr ⟨by omega, h, by omega, this.2.2.2.1⟩
end Go.Proofs.Ytbdcndkafaajpaa.T
end
