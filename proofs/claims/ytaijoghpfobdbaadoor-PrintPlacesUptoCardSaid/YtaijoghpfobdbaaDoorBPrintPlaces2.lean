/- The texts of the law PrintPlaces, put together by a program of this workplace out of its own texts and of what the kit's print has written: walks of the functions, plain laws. No condition but those in the theorems. -/
import Derived.Lib.Itoa
import Derived.Maps.OwnOps
import Derived.Carry
import Derived.Laws.Entries
import Derived.KernelRfl
import Derived.Test.YtaijoghpfobdbaaDoorRows
import Derived.Lib.LaidTab
import Derived.LaidSub
import Derived.LaidLaws
import Derived.Deep.Slices
import Derived.SizedLaws
import Derived.ChangeSlices
import Derived.OpenShut
import Derived.DataReads
import Derived.DataElems
import Derived.ChangeAt
import Derived.WalkKit
import Derived.ProofKit
import Derived.Test.YtaijoghpfobdbaaDoorBPrintPlaces0
import Derived.Test.YtaijoghpfobdbaaDoorBPrintPlaces1
section
set_option linter.unusedVariables false
set_option linter.unusedSimpArgs false
namespace Go.Proofs.YtaijoghpfobdbaaDoor.W
open Go.RowKit Go.Proofs.YtaijoghpfobdbaaDoor.X Go.Proofs.YtaijoghpfobdbaaDoorW.PrintWords Go.Proofs.YtaijoghpfobdbaaDoorW.PrintLast Go.Proofs.YtaijoghpfobdbaaDoorW.PrintMore
open Go.Proofs.YtaijoghpfobdbaaDoor.P (Tr Nd Wrote puts put fin kv kd sg build dep dmx pile judgeE)
theorem ndCells {w : World} {b : Nat} {n : Nd} (h : w.heap[b]? = some (.cells #[.int .i64 n.f0, .int .i64 n.f1, .int .u64 n.f2, .string n.f3, .int .i64 n.f4] 46 (0, 0))) :
    w.cell? ⟨b, 0, none⟩ = some (.int .i64 n.f0) ∧ w.cell? ⟨b, 1, none⟩ = some (.int .i64 n.f1) ∧ w.cell? ⟨b, 2, none⟩ = some (.int .u64 n.f2) ∧ w.cell? ⟨b, 3, none⟩ = some (.string n.f3) ∧ w.cell? ⟨b, 4, none⟩ = some (.int .i64 n.f4) :=
  ⟨(blk_cell h 0).trans rfl, (blk_cell h 1).trans rfl, (blk_cell h 2).trans rfl, (blk_cell h 3).trans rfl, (blk_cell h 4).trans rfl⟩
theorem at_TV {w : World} {A : Option Addr} {n : Nat} {xs : List TV} (h : Kd.C kt w A n xs) (i : Nat) (hi : i < n) (x : TV) (hx : xs[i]? = some x) : ∃ ad, A = some ad ∧ w.cell? (ad.add (i * 6)) = some (.int .i64 x.n.f0) ∧ w.cell? ⟨(ad.add (i * 6)).block, (ad.add (i * 6)).off + 1, none⟩ = some (.int .i64 x.n.f1) ∧ w.cell? ⟨(ad.add (i * 6)).block, (ad.add (i * 6)).off + 2, none⟩ = some (.int .u64 x.n.f2) ∧ w.cell? ⟨(ad.add (i * 6)).block, (ad.add (i * 6)).off + 3, none⟩ = some (.string x.n.f3) ∧ w.cell? ⟨(ad.add (i * 6)).block, (ad.add (i * 6)).off + 4, none⟩ = some (.int .i64 x.n.f4) ∧ w.cell? ⟨(ad.add (i * 6)).block, (ad.add (i * 6)).off + 5, none⟩ = some (.slice x.s.A x.s.n x.s.c) := by
  obtain ⟨ad, c, e, _, hK, hc0⟩ := Kd.C_get h x (i : Int) (by omega) (by omega)
  rw [Int.toNat_natCast] at hK hc0
  have hx2 : xs.getD i x = x := by rw [List.getD_eq_getElem?_getD, hx]; rfl
  rw [hx2] at hK
  have hc : ∀ j u, c[j]? = some u → w.cell? (ad.add (i * 6 + j)) = some u := hc0
  obtain rfl := kt_open hK
  exact ⟨ad, e, hc 0 _ rfl, by rw [← add_field _ _ 1 (by omega)]; exact hc 1 _ rfl, by rw [← add_field _ _ 2 (by omega)]; exact hc 2 _ rfl, by rw [← add_field _ _ 3 (by omega)]; exact hc 3 _ rfl, by rw [← add_field _ _ 4 (by omega)]; exact hc 4 _ rfl, by rw [← add_field _ _ 5 (by omega)]; exact hc 5 _ rfl⟩
structure Hg (w0 wr : World) (st : List Tr) (xs : List TV) (Ap : Option Addr) (cp : Nat) : Prop where
  r : Kd.R kt 93 wr w0.heap.size (fun _ => True) (.slice Ap xs.length cp) xs
  tl : TL wr (fun g => w0.heap.size ≤ g ∧ (Value.slice Ap xs.length cp).ownBlock ≠ some g) st xs
  be : Below w0.heap.size w0 wr
theorem Hg.below {w0 wr w' : World} {st : List Tr} {xs : List TV} {Ap : Option Addr} {cp : Nat} (h : Hg w0 wr st xs Ap cp) (hb : Below wr.heap.size wr w') : Hg w0 w' st xs Ap cp :=
  ⟨Kd.R_below h.r hb, h.tl.move (fun g cur hok hg => ⟨hb.block g (blk_lt hg), hok⟩), below_step h.be hb⟩
theorem R_none {α : Type} {d : Kd α} {e n c : Nat} {w : World} {base : Nat} {ok : Nat → Prop} {xs : List α} (h : d.R e w base ok (.slice none n c) xs) : xs = [] := by
  obtain ⟨inner, ho⟩ := Kd.R_own h
  rcases ho.2 with ⟨_, h0⟩ | ⟨g, cap, cur, hv, _⟩
  · exact List.length_eq_zero_iff.1 h0
  · cases hv
theorem own_len (A : Option Addr) (n m c : Nat) : (Value.slice A n c).ownBlock = (Value.slice A m c).ownBlock := by cases A <;> rfl
theorem Hg.next {w0 w2 W w3 : World} {st : List Tr} {xs : List TV} {Ap A' Ap3 : Option Addr} {cp c' cp3 a q : Nat} {n : Nd} (h : Hg w0 w2 st xs Ap cp) (haq : a + q = xs.length)
    (hk : Kd.R kt 93 w2 W.heap.size (fun _ => True) (.slice A' q c') (xs.drop a)) (hW : w0.heap.size ≤ W.heap.size) (hlt : ∀ k, (Value.slice Ap xs.length cp).ownBlock = some k → k < W.heap.size)
    {w2b : World} (hb : Below w2.heap.size w2 w2b)
    (ho : Kd.R kt 93 w3 w0.heap.size (fun _ => True) (.slice Ap3 (a + 1) cp3) (xs.take a ++ [⟨n, ⟨A', q, c'⟩⟩])) (hg : w2b.grownBy w3 (Value.slice Ap a cp).ownBlock)
    (hat : (Value.slice Ap3 (a + 1) cp3).ownBlock = (Value.slice Ap a cp).ownBlock ∨ ∃ b, (Value.slice Ap3 (a + 1) cp3).ownBlock = some b ∧ w2b.heap.size ≤ b) (h3 : Below w0.heap.size w0 w3) :
    Hg w0 w3 (st.take a ++ [.mk n (st.drop a)]) (xs.take a ++ [⟨n, ⟨A', q, c'⟩⟩]) Ap3 cp3 := by
  have hlen : (xs.take a ++ [(⟨n, ⟨A', q, c'⟩⟩ : TV)]).length = a + 1 := by rw [List.length_append, List.length_take, List.length_singleton]; omega
  have h2 := h.below hb
  have hk2 := Kd.R_below hk hb
  -- the kids' trees, and the new node, at w2b, in blocks that are not the pile's
  have hnode : IsT w2b (fun g => w0.heap.size ≤ g ∧ (Value.slice Ap xs.length cp).ownBlock ≠ some g) (.mk n (st.drop a)) ⟨n, ⟨A', q, c'⟩⟩ :=
    (h2.tl.drop a).node hk2 (fun g h1 _ => ⟨by omega, fun e => by have := hlt g e; omega⟩)
  have hall := (h2.tl.take a).snoc hnode
  refine ⟨by rw [hlen]; exact ho, ?_, h3⟩
  rw [hlen]
  refine hall.move (fun g cur hok hgc => ?_)
  have hne : (Value.slice Ap a cp).ownBlock ≠ some g := fun e => hok.2 (by rw [own_len Ap xs.length a cp]; exact e)
  refine ⟨hg.block g (blk_lt hgc) (fun e => hne e.symm), hok.1, fun e => ?_⟩
  rcases hat with h1 | ⟨b, h1, h2⟩
  · rw [h1] at e; exact hne e
  · rw [h1] at e
    injection e with e
    have := blk_lt hgc
    omega
theorem results_c {P : Program} {fn : Func} {p : Tmp} {ty : TypeId} (h : fn.results = #[.cell p ty]) (tmps : Array Value) (w : World) (g : Nat) (t : TypeId) (cs : Array Value) (fr : Nat × Nat) (d : TypeDesc)
    (hp : tmps.getD p undef = .pointer (some ⟨g, 0, none⟩)) (hg : w.heap[g]? = some (.cells cs t fr))
    (hu : P.underlying ty = some d) (hd : (match d with | .struct _ | .array _ _ => true | _ => false) = true) (hi : (P.info? ty).map (·.size) = some cs.size) :
    (results fn tmps).run P w = .ok (.agg cs) w := by
  have hp' : tmps[p]?.getD undef = .pointer (some ⟨g, 0, none⟩) := by simpa using hp
  simp [results, h, hp', asAddr, run_loadVar_row w g t ty cs fr d hg hu hd hi]
theorem set6 {W : World} {b : Nat} {a0 a1 a2 a3 a4 a5 v0 v1 v2 v3 v4 v5 : Value} {t : TypeId} (h : W.heap[b]? = some (.cells #[a0, a1, a2, a3, a4, a5] t (0, 0))) :
    ((((((W.setCell ⟨b, 0, none⟩ v0).setCell ⟨b, 1, none⟩ v1).setCell ⟨b, 2, none⟩ v2).setCell ⟨b, 3, none⟩ v3).setCell ⟨b, 4, none⟩ v4).setCell ⟨b, 5, none⟩ v5).heap[b]? = some (.cells #[v0, v1, v2, v3, v4, v5] t (0, 0)) :=
  blk_set (blk_set (blk_set (blk_set (blk_set (blk_set h 0 v0) 1 v1) 2 v2) 3 v3) 4 v4) 5 v5
theorem kept6 {W : World} {b g : Nat} {v0 v1 v2 v3 v4 v5 : Value} (h : g ≠ b) :
    ((((((W.setCell ⟨b, 0, none⟩ v0).setCell ⟨b, 1, none⟩ v1).setCell ⟨b, 2, none⟩ v2).setCell ⟨b, 3, none⟩ v3).setCell ⟨b, 4, none⟩ v4).setCell ⟨b, 5, none⟩ v5).heap[g]? = W.heap[g]? := by
  rw [Below.heap_setCell _ ⟨b, 5, none⟩ v5 g h, Below.heap_setCell _ ⟨b, 4, none⟩ v4 g h, Below.heap_setCell _ ⟨b, 3, none⟩ v3 g h, Below.heap_setCell _ ⟨b, 2, none⟩ v2 g h, Below.heap_setCell _ ⟨b, 1, none⟩ v1 g h, Below.heap_setCell _ ⟨b, 0, none⟩ v0 g h]
theorem below6 {B : Nat} {w W : World} {b : Nat} {v0 v1 v2 v3 v4 v5 : Value} (h : Below B w W) (hb : B ≤ b) :
    Below B w ((((((W.setCell ⟨b, 0, none⟩ v0).setCell ⟨b, 1, none⟩ v1).setCell ⟨b, 2, none⟩ v2).setCell ⟨b, 3, none⟩ v3).setCell ⟨b, 4, none⟩ v4).setCell ⟨b, 5, none⟩ v5) :=
  (((((h.setCell hb v0).setCell hb v1).setCell hb v2).setCell hb v3).setCell hb v4).setCell hb v5
theorem keep3 {w w' : World} {g : Option Nat} {b : Nat} {o : Obj} (hx : w.heap[b]? = some o) (hg : w.grownBy w' g) (hb : some b ≠ g) : w'.heap[b]? = some o := (hg.block b (blk_lt hx) hb).trans hx
theorem own_typ {α : Type} {d : Kd α} {e b : Nat} {w : World} {base : Nat} {ok : Nat → Prop} {v : Value} {xs : List α} {cs : Array Value} {t : TypeId} {f : Nat × Nat} (h : d.R e w base ok v xs) (hb : w.heap[b]? = some (.cells cs t f)) (hne : t ≠ e) : v.ownBlock ≠ some b := by
  intro e1
  obtain ⟨inner, ho⟩ := Kd.R_own h
  rcases ho.2 with ⟨hv, _⟩ | ⟨g, cap, cur, hv, _, hg, _⟩
  · rw [hv] at e1; simp [Value.ownBlock] at e1
  · rw [hv] at e1
    simp only [Value.ownBlock, Option.some.injEq] at e1
    subst e1
    rw [hg] at hb
    injection hb with hb
    injection hb with _ hb _
    exact hne hb.symm
set_option maxHeartbeats 8000000 in
set_option maxRecDepth 100000 in
theorem grown_calls (w : World) (A : Option Addr) (c : Nat) (ns : List Nd) (t : Tr) (hC : Kd.C k46 w A ns.length ns) (hns : ns.length ≤ 1099511627776) (hbt : build ns [] = some [t]) :
    Calls Tryd.prog 34 #[.slice A ns.length c] w fun e w' => ∃ x : TV, e = .returned (.agg (tvCs x).toArray) ∧ IsT w' (fun g => w.heap.size ≤ g) t x ∧ Below w.heap.size w w' := by
  have HC := Aside0.mk hC
  have HN := Aside0.mk hns
  have HT := Aside0.mk hbt
  obtain ⟨w0, hw0⟩ : ∃ w0, w0 = w.alloc (.cells #[.int .i64 0, .int .i64 0, .int .u64 0, .string ⟨#[]⟩, .int .i64 0, .slice none 0 0] 93) := ⟨_, rfl⟩
  have hB0 : Below w.heap.size w w0 := by rw [hw0]; exact below_alloc (Below.refl _ _) _
  have HB0 := Aside0.mk hB0
  have HX0 := Aside0.mk (show w0.heap[w.heap.size]? = some (.cells #[.int .i64 0, .int .i64 0, .int .u64 0, .string ⟨#[]⟩, .int .i64 0, .slice none 0 0] 93 (0, 0)) from by rw [hw0]; exact blk_new _ _)
  have HS0 := Aside0.mk (show w0.heap.size = w.heap.size + 1 from by rw [hw0]; simp)
  obtain ⟨b0, hb0⟩ : ∃ b0, b0 = w.heap.size := ⟨_, rfl⟩
  have HW0 := Aside0.mk hw0
  clear hC hns hbt hB0 hw0
  go_enter Tryd.func34, Tryd.ntmps34
  go_wp2
  rw [← HW0.out]
  rw [← hb0] at HX0 HS0 ⊢
  have HE0 := Aside0.mk hb0
  clear hb0
  go_wp2
  go_loopw [3, 11] (fun t3 ti wr => ∃ (i : Nat) (st : List Tr) (xs : List TV) (Ap : Option Addr) (cp : Nat), ti = .int .i64 (i : Int) ∧ t3 = .slice Ap xs.length cp ∧ Aside0 (i ≤ ns.length) ∧ Aside0 (build ns [] = build (ns.drop i) st) ∧ Aside0 (st.length ≤ i) ∧ Aside0 (Hg w0 wr st xs Ap cp)) (fun _ ti _ => ns.length - left ti)
  case atStart => exact ⟨0, [], [], none, 0, rfl, rfl, ⟨Nat.zero_le _⟩, ⟨rfl⟩, ⟨by simp⟩, ⟨⟨Kd.R_nil _ _ _ _ _, TL.nil _ _, Below.refl _ _⟩⟩⟩
  case round =>
    obtain ⟨i, st, xs, Ap, cp, rfl, rfl, hi, HBu, HL, HG⟩ := hrel
    by_cases ci : i < ns.length
    · have c1 : decide ((i : Int) < (ns.length : Int)) = true := decide_eq_true (by omega)
      have c2 : decide (i < ns.length) = true := decide_eq_true ci
      obtain ⟨ad, rfl, hx0, hx1, hx2, hx3, hx4⟩ := at_T46 (Kd.C_below HC.out (below_step HB0.out HG.out.be)) (i : Int) (by omega) (by omega)
      rw [Int.toNat_natCast] at hx0 hx1 hx2 hx3 hx4
      have HDB := Aside0.mk (drop_build (st := st) ci)
      obtain ⟨n, hn⟩ : ∃ n, n = rd_T46 ns (i : Int) := ⟨_, rfl⟩
      rw [← hn] at hx0 hx1 hx2 hx3 hx4 HDB
      clear hn
      have HI := Aside0.mk ci
      -- the node is one, and has its kids
      obtain ⟨q, hkq, hql⟩ : ∃ q : Nat, kv n = ((q : Int), true) ∧ kd n = some q ∧ q ≤ st.length := by
        cases hs : sg st n with
        | none =>
          have := HT.out
          rw [HBu.out, HDB.out, hs] at this
          cases this
        | some st' =>
          obtain ⟨k, h1, h2, _⟩ := P.sg_some hs
          have h3 := h1
          unfold kd at h3
          split at h3
          · rename_i h4
            injection h3 with h3
            have := P.kv_nn n h4
            exact ⟨k, Prod.ext (by show (kv n).1 = _; omega) h4, h1, h2⟩
          · cases h3
      have HKD := Aside0.mk hql
      have hlx := HG.out.tl.len
      obtain ⟨a, haq⟩ : ∃ a, a + q = xs.length := ⟨xs.length - q, by omega⟩
      have HAQ := Aside0.mk haq
      have HLX := Aside0.mk hlx
      have W0 : ∀ [Inhabited Unit], wrap64 ((xs.length : Int) - (q : Int)) = (a : Int) := by intro _; have := HL.out; have := HN.out; have := HI.out; unfold wrap64; omega
      obtain ⟨wA, hwA⟩ : ∃ wA, wA = wr.alloc (.cells #[.int .i64 n.f0, .int .i64 n.f1, .int .u64 n.f2, .string n.f3, .int .i64 n.f4] 46) := ⟨_, rfl⟩
      have hbA : Below wr.heap.size wr wA := by rw [hwA]; exact below_alloc (Below.refl _ _) _
      have HGA := Aside0.mk (HG.out.below hbA)
      obtain ⟨b5, hb5⟩ : ∃ b5, b5 = wr.heap.size := ⟨_, rfl⟩
      have HN5 := Aside0.mk (show wA.heap[b5]? = some (.cells #[.int .i64 n.f0, .int .i64 n.f1, .int .u64 n.f2, .string n.f3, .int .i64 n.f4] 46 (0, 0)) from by rw [hwA, hb5]; exact blk_new _ _)
      have hk := kids_calls n wA
      rw [hkq] at hk
      have HK := Aside0.mk hk
      have HWA := Aside0.mk hwA
      clear hk hkq hql hlx haq hbA hwA HG
      go_wp2_with fail
      rw [← HWA.out, ← hb5]
      clear hx0 hx1 hx2 hx3 hx4
      refine HK.out.mono ?_
      rintro e w1 ⟨rfl, hb1⟩
      have HG1 := Aside0.mk (HGA.out.below hb1)
      have HN1 := Aside0.mk (blk_below HN5.out hb1)
      clear hb1 hb5
      obtain ⟨y0, y1, y2, y3, y4⟩ := ndCells HN1.out
      have haq := HAQ.out
      obtain ⟨i0, hi0, _, hsz0, _⟩ := info_parts infoT
      have hroom := (Kd.R_reads' HG1.out.r).2.1
      have hCp := (Kd.R_reads' HG1.out.r).2.2
      have hcut := cut_from (P := Tryd.prog) 91 93 .i64 Tryd.underlying91 hi0 6 hsz0 Ap xs.length cp (a : Int) (by omega) (by omega)
      have hcuto := cut_to (P := Tryd.prog) 91 93 .i64 Tryd.underlying91 hi0 Ap xs.length cp (a : Int) (by omega) (by omega) hroom
      have hdr := Kd.C_drop (m := a) (c := cp) hCp (by omega) hroom
      rw [Int.toNat_natCast] at hcut hcuto
      have hxl : xs.length - a = q := by omega
      rw [List.length_drop, hxl] at hdr
      rw [hxl] at hcut
      obtain ⟨A2, hA2⟩ : ∃ A2, A2 = (if cp = a then Ap else Ap.map (·.add (a * 6))) := ⟨_, rfl⟩
      have hdr2 : Kd.C kt w1 A2 q (xs.drop a) := by rw [hA2]; exact hdr
      rw [← hA2] at hcut
      have hnil : A2 = none → xs.drop a = [] := fun e => by
        cases Ap with
        | none => rw [R_none HG1.out.r, List.drop_nil]
        | some z => rw [hA2] at e; split at e <;> cases e
      have HCL : Aside0 (∀ W, Below w1.heap.size w1 W → Calls Tryd.prog 65 #[.slice A2 q (cp - a)] W fun e w' => ∃ A' c', e = .returned (.slice A' q c') ∧ Kd.R kt 93 w' W.heap.size (fun _ => True) (.slice A' q c') (xs.drop a) ∧ Below W.heap.size W w') := ⟨fun W hb => by
        have hq2 : (xs.drop a).length = q := by rw [List.length_drop]; omega
        have := clone_calls W A2 (cp - a) (xs.drop a) (by rw [hq2]; exact Kd.C_below hdr2 hb) (by rw [hq2]; have := HL.out; have := HLX.out; have := HI.out; have := HN.out; omega) hnil
        rw [hq2] at this
        exact this⟩
      clear hdr hdr2 hA2 hCp hroom hi0 hsz0 hxl hnil haq
      have S0 : (fun w' : World => w'.cell? ⟨b5, 0, none⟩ = some (.int .i64 n.f0) ∧ w'.cell? ⟨b5, 1, none⟩ = some (.int .i64 n.f1) ∧ w'.cell? ⟨b5, 2, none⟩ = some (.int .u64 n.f2) ∧ w'.cell? ⟨b5, 3, none⟩ = some (.string n.f3) ∧ w'.cell? ⟨b5, 4, none⟩ = some (.int .i64 n.f4)) w1.drew := ⟨y0, y1, y2, y3, y4⟩
      go_wp2
      refine start_ (n := 12) (S := (fun w' : World => w'.cell? ⟨b5, 0, none⟩ = some (.int .i64 n.f0) ∧ w'.cell? ⟨b5, 1, none⟩ = some (.int .i64 n.f1) ∧ w'.cell? ⟨b5, 2, none⟩ = some (.int .u64 n.f2) ∧ w'.cell? ⟨b5, 3, none⟩ = some (.string n.f3) ∧ w'.cell? ⟨b5, 4, none⟩ = some (.int .i64 n.f4))) (ds := []) #[false, false, false, false, false, false, false, false, false, false, false, false] (by kernel_rfl) rfl rfl (S0) (fun hHeld => ?_)
      refine pure_ (i := 0) (N := some 24) (v := ?_) (a' := ?_) #[true, false, false, false, false, false, false, false, false, false, false, false] rfl rfl (by kernel_rfl) (fun _ _ _ h => h) (Or.inl ⟨by rfl, ?_⟩) ?_ ?_
      rotate_left
      · intro w'
        go_simp
        with_reducible rfl
      rotate_left
      · simp only [Act.put, List.setIfInBounds_toArray, List.set_cons_zero, List.set_cons_succ, i64_w, i32_w]
        rfl
      refine pure_ (i := 1) (N := some 25) (v := ?_) (a' := ?_) #[true, true, false, false, false, false, false, false, false, false, false, false] rfl rfl (by kernel_rfl) (fun _ _ _ h => h) (Or.inl ⟨by rfl, ?_⟩) ?_ ?_
      rotate_left
      · intro w'
        go_simp
        with_reducible rfl
      rotate_left
      · simp only [Act.put, List.setIfInBounds_toArray, List.set_cons_zero, List.set_cons_succ, i64_w, i32_w]
        rfl
      refine pure_ (i := 2) (N := some 26) (v := ?_) (a' := ?_) #[true, true, true, false, false, false, false, false, false, false, false, false] rfl rfl (by kernel_rfl) (fun _ _ _ h => h) (Or.inl ⟨by rfl, ?_⟩) ?_ ?_
      rotate_left
      · intro w'
        go_simp
        with_reducible rfl
      rotate_left
      · simp only [Act.put, List.setIfInBounds_toArray, List.set_cons_zero, List.set_cons_succ, i64_w, i32_w]
        rfl
      refine take_ (i := 3) (N := some 27) (v := ?_) (a' := ?_) #[true, true, true, true, false, false, false, false, false, false, false, false] rfl rfl (by kernel_rfl) (fun _ _ _ h => h) (Or.inl ⟨by rfl, ?_⟩) hHeld ?_ ?_
      rotate_left
      · intro w' hS'
        obtain ⟨s0, s1, s2, s3, s4⟩ : w'.cell? ⟨b5, 0, none⟩ = some (.int .i64 n.f0) ∧ w'.cell? ⟨b5, 1, none⟩ = some (.int .i64 n.f1) ∧ w'.cell? ⟨b5, 2, none⟩ = some (.int .u64 n.f2) ∧ w'.cell? ⟨b5, 3, none⟩ = some (.string n.f3) ∧ w'.cell? ⟨b5, 4, none⟩ = some (.int .i64 n.f4) := hS'
        go_simp
        with_reducible rfl
      rotate_left
      · simp only [Act.put, List.setIfInBounds_toArray, List.set_cons_zero, List.set_cons_succ, i64_w, i32_w]
        rfl
      refine pure_ (i := 4) (N := some 28) (v := ?_) (a' := ?_) #[true, true, true, true, true, false, false, false, false, false, false, false] rfl rfl (by kernel_rfl) (fun _ _ _ h => h) (Or.inl ⟨by rfl, ?_⟩) ?_ ?_
      rotate_left
      · intro w'
        go_simp
        with_reducible rfl
      rotate_left
      · simp only [Act.put, List.setIfInBounds_toArray, List.set_cons_zero, List.set_cons_succ, i64_w, i32_w]
        rfl
      refine pure_ (i := 5) (N := some 29) (v := ?_) (a' := ?_) #[true, true, true, true, true, true, false, false, false, false, false, false] rfl rfl (by kernel_rfl) (fun _ _ _ h => h) (Or.inl ⟨by rfl, ?_⟩) ?_ ?_
      rotate_left
      · intro w'
        go_simp
        with_reducible rfl
      rotate_left
      · simp only [Act.put, List.setIfInBounds_toArray, List.set_cons_zero, List.set_cons_succ, i64_w, i32_w]
        rfl
      refine pure_ (i := 6) (N := some 30) (v := ?_) (a' := ?_) #[true, true, true, true, true, true, true, false, false, false, false, false] rfl rfl (by kernel_rfl) (fun _ _ _ h => h) (Or.inl ⟨by rfl, ?_⟩) ?_ ?_
      rotate_left
      · intro w'
        go_simp
        with_reducible rfl
      rotate_left
      · simp only [Act.put, List.setIfInBounds_toArray, List.set_cons_zero, List.set_cons_succ, i64_w, i32_w]
        rfl
      refine one_ (i := 7) (N := some 31) #[true, true, true, true, true, true, true, true, false, false, false, false] rfl rfl (by kernel_rfl) (by decide) (fun K hK => ?_)
      refine goes_ Tryd.func65 (by kernel_rfl) rfl #[.slice A2 q (cp - a)] (by rfl) rfl rfl (by (try simp only [List.map_toArray, List.map_cons, List.map_nil]); first | done | rfl) ?_
      refine (HCL.out w1.drew (below_drew1 (Below.refl _ _))).mono ?_
      rintro e w2 ⟨A', c', rfl, hrk, hb2⟩
      have hbd : Below w1.heap.size w1 w2 := below_step (below_drew1 (Below.refl _ _)) hb2
      have HN2 := Aside0.mk (blk_below HN1.out hbd)
      have HG2 := Aside0.mk (HG1.out.below hbd)
      have HRK := Aside0.mk hrk
      have SC : (fun w' : World => w'.cell? ⟨b5, 0, none⟩ = some (.int .i64 n.f0) ∧ w'.cell? ⟨b5, 1, none⟩ = some (.int .i64 n.f1) ∧ w'.cell? ⟨b5, 2, none⟩ = some (.int .u64 n.f2) ∧ w'.cell? ⟨b5, 3, none⟩ = some (.string n.f3) ∧ w'.cell? ⟨b5, 4, none⟩ = some (.int .i64 n.f4)) w2 := ndCells HN2.out
      have HSZ : Aside0 (w1.drew.heap.size = w1.heap.size) := ⟨rfl⟩
      have HSZ2 := Aside0.mk hbd.size
      clear hrk hb2 hbd
      refine ⟨_, rfl, ?_⟩
      refine hK.out _ _ (SC) (fun hHeld => ?_)
      clear hK K
      refine pure_ (i := 8) (N := some 32) (v := ?_) (a' := ?_) #[true, true, true, true, true, true, true, true, true, false, false, false] rfl rfl (by kernel_rfl) (fun _ _ _ h => h) (Or.inl ⟨by rfl, ?_⟩) ?_ ?_
      rotate_left
      · intro w'
        go_simp
        with_reducible rfl
      rotate_left
      · simp only [Act.put, List.setIfInBounds_toArray, List.set_cons_zero, List.set_cons_succ, i64_w, i32_w]
        rfl
      obtain ⟨w2b, hw2b⟩ : ∃ w2b, w2b = w2.alloc (.cells (tvCs ⟨n, ⟨A', q, c'⟩⟩).toArray 93) := ⟨_, rfl⟩
      have hb2b : Below w2.heap.size w2 w2b := by rw [hw2b]; exact below_alloc (Below.refl _ _) _
      have HB2B := Aside0.mk hb2b
      have SB : (fun w' : World => w'.cell? ⟨b5, 0, none⟩ = some (.int .i64 n.f0) ∧ w'.cell? ⟨b5, 1, none⟩ = some (.int .i64 n.f1) ∧ w'.cell? ⟨b5, 2, none⟩ = some (.int .u64 n.f2) ∧ w'.cell? ⟨b5, 3, none⟩ = some (.string n.f3) ∧ w'.cell? ⟨b5, 4, none⟩ = some (.int .i64 n.f4)) w2b := ndCells (blk_below HN2.out hb2b)
      have HW2B := Aside0.mk hw2b
      refine one_ (i := 9) (N := some 33) #[true, true, true, true, true, true, true, true, true, true, false, false] rfl rfl (by kernel_rfl) (by decide) (fun K hK => ?_)
      refine value_ (w1 := w2b) (v := ?_) (by rfl) rfl ?_ ?_
      rotate_left
      · rw [hw2b]
        go_simp
        first | rfl | (constructor <;> rfl)
      clear hw2b hb2b
      refine hK.out _ _ (SB) (fun hHeld => ?_)
      clear hK K
      refine one_ (i := 10) (N := some 34) #[true, true, true, true, true, true, true, true, true, true, true, false] rfl rfl (by kernel_rfl) (by decide) (fun K hK => ?_)
      refine Kd.R_step_at (N := some 34) rfl kt (w0 := w0) w0.heap.size (by rfl) (.tmp 26) (.tmp 33) 91 93 (.agg #[.int .i64 0, .int .i64 0, .int .u64 0, .string ⟨#[]⟩, .int .i64 0, .slice none 0 0]) 72 rfl Tryd.underlying91 infoT rfl (by decide) (by omega) (.slice Ap a cp) (xs.take a) (⟨n, ⟨A', q, c'⟩⟩ : TV) (tvCs ⟨n, ⟨A', q, c'⟩⟩) (fun _ => True) (fun _ => False) (by rfl) ⟨w2.heap.size, 0, none⟩ 1 (by rfl) (by rw [HW2B.out]; exact World.news_of_block (cs := (tvCs ⟨n, ⟨A', q, c'⟩⟩).toArray) (t := 93) (fr := (0, 0)) (heap_alloc_new _ _)) (kt_mkM _ _ _ (⟨n, ⟨A', q, c'⟩⟩ : TV)) (fun _ hk => hk.elim) (fun _ _ => trivial) (Kd.R_take (m := a) (HG2.out.below HB2B.out).r (by have := HAQ.out; omega)) (HG2.out.below HB2B.out).be (HG2.out.below HB2B.out).be.size (by rw [List.length_take]; have := HLX.out; have := HL.out; have := HI.out; have := HN.out; omega) ?_
      intro v1 w3 ho hb3 hw
      obtain ⟨Ap3, cp3, hv3⟩ := Kd.R_slice ho
      have hlen3 : (xs.take a ++ [(⟨n, ⟨A', q, c'⟩⟩ : TV)]).length = a + 1 := by rw [List.length_append, List.length_take, List.length_singleton]; have := HAQ.out; omega
      rw [hlen3] at hv3
      subst hv3
      have HG3 := Aside0.mk (Hg.next HG2.out HAQ.out HRK.out HG1.out.be.size (fun k hk => by have := Kd.R_lt HG1.out.r k hk; exact this) HB2B.out ho hw.grown hw.at hb3)
      have SA : (fun w' : World => w'.cell? ⟨b5, 0, none⟩ = some (.int .i64 n.f0) ∧ w'.cell? ⟨b5, 1, none⟩ = some (.int .i64 n.f1) ∧ w'.cell? ⟨b5, 2, none⟩ = some (.int .u64 n.f2) ∧ w'.cell? ⟨b5, 3, none⟩ = some (.string n.f3) ∧ w'.cell? ⟨b5, 4, none⟩ = some (.int .i64 n.f4)) w3 := ndCells (keep3 (blk_below HN2.out HB2B.out) hw.grown (fun e => own_typ HG2.out.r HN2.out (by decide) (by rw [own_len Ap xs.length a cp]; exact e.symm)))
      clear ho hb3 hw
      refine hK.out _ _ (SA) (fun hHeld => ?_)
      clear hK K
      refine pure_ (i := 11) (N := some 3) (v := ?_) (a' := ?_) #[true, true, true, true, true, true, true, true, true, true, true, true] rfl rfl (by kernel_rfl) (fun _ _ _ h => h) (Or.inl ⟨by rfl, ?_⟩) ?_ ?_
      rotate_left
      · intro w'
        go_simp
        with_reducible rfl
      rotate_left
      · simp only [Act.put, List.setIfInBounds_toArray, List.set_cons_zero, List.set_cons_succ, i64_w, i32_w]
        rfl
      refine done_ (by kernel_rfl) ?_
      have W1 : Aside0 (wrap64 ((i : Int) + 1) = ((i + 1 : Nat) : Int)) := ⟨by have := HI.out; have := HN.out; unfold wrap64; omega⟩
      have HSG : Aside0 (sg st n = some (st.take a ++ [.mk n (st.drop a)])) := ⟨by
        have h1 : st.length - q = a := by have := HAQ.out; have := HLX.out; omega
        rw [sg, HKD.out.1]; simp only [if_pos HKD.out.2, h1]⟩
      clear W0 hcut hcuto SA SB SC S0 y0 y1 y2 y3 y4
      go_wp2
      rw [W1.out]
      go_roundw
      case measure => have := HI.out; simp only [left, Int.toNat_natCast]; omega
      case rel =>
        refine ⟨i + 1, st.take a ++ [.mk n (st.drop a)], xs.take a ++ [⟨n, ⟨A', q, c'⟩⟩], Ap3, cp3, rfl, by rw [hlen3], ⟨HI.out⟩, ⟨by rw [HBu.out, HDB.out, HSG.out]; rfl⟩, ⟨?_⟩, HG3⟩
        have h1 := P.sg_len HSG.out
        have := HL.out
        omega
    · have c1 : decide ((i : Int) < (ns.length : Int)) = false := decide_eq_false (by omega)
      have c2 : decide (i < ns.length) = false := decide_eq_false ci
      have HST : Aside0 (st = [t]) := ⟨by
        have := HT.out
        rw [HBu.out, List.drop_of_length_le (by omega), build] at this
        injection this⟩
      obtain ⟨x, hx⟩ : ∃ x, xs = [x] := by
        have h := HG.out.tl.len
        rw [HST.out] at h
        match xs, h with
        | [x], _ => exact ⟨x, rfl⟩
      subst hx
      have HTL := HG.out.tl
      rw [HST.out] at HTL
      have HIT := Aside0.mk (HTL.get 0 (by simp) (by simp))
      obtain ⟨ad, rfl, hx0, hx1, hx2, hx3, hx4, hx5⟩ := at_TV (Kd.R_reads' HG.out.r).2.2 0 (by simp) x rfl
      rw [Nat.zero_mul, show ad.add 0 = ad by simp [Addr.add]] at hx0 hx1 hx2 hx3 hx4 hx5
      have HB0' := Aside0.mk (blk_below HX0.out HG.out.be)
      have hz := fun j => blk_frozen HB0'.out j
      have z0 := hz 0
      have z1 := hz 1
      have z2 := hz 2
      have z3 := hz 3
      have z4 := hz 4
      have z5 := hz 5
      have o0 : wr.cell? ⟨b0, 0, none⟩ = some (.int .i64 0) := (blk_cell HB0'.out 0).trans rfl
      have o1 : wr.cell? ⟨b0, 1, none⟩ = some (.int .i64 0) := (blk_cell HB0'.out 1).trans rfl
      have o2 : wr.cell? ⟨b0, 2, none⟩ = some (.int .u64 0) := (blk_cell HB0'.out 2).trans rfl
      have o3 : wr.cell? ⟨b0, 3, none⟩ = some (.string ⟨#[]⟩) := (blk_cell HB0'.out 3).trans rfl
      have o4 : wr.cell? ⟨b0, 4, none⟩ = some (.int .i64 0) := (blk_cell HB0'.out 4).trans rfl
      have o5 : wr.cell? ⟨b0, 5, none⟩ = some (.slice none 0 0) := (blk_cell HB0'.out 5).trans rfl
      clear hz HTL
      go_wp2
      have HAD := Aside0.mk (show Below w.heap.size w wr from below_step HB0.out HG.out.be)
      refine bodyPost_ret (results_c rfl _ _ b0 93 (tvCs x).toArray (0, 0) _ rfl (set6 HB0'.out) Tryd.underlying93 rfl (by kernel_rfl)) rfl ⟨x, rfl, ?_, ?_⟩
      · refine HIT.out.move (fun g cur hok hg => ⟨?_, by have := hok.1; have := HS0.out; have := HE0.out; omega⟩)
        have hne : g ≠ b0 := by have := hok.1; have := HS0.out; omega
        exact kept6 hne
      · exact below6 HAD.out (by rw [HE0.out]; exact Nat.le_refl _)
end Go.Proofs.YtaijoghpfobdbaaDoor.W
end
section
set_option linter.unusedVariables false
set_option linter.unusedSimpArgs false
namespace Go.Proofs.YtaijoghpfobdbaaDoor.P
open Go.RowKit Go.Proofs.YtaijoghpfobdbaaDoor.X Go.Proofs.YtaijoghpfobdbaaDoorW.PrintWords Go.Proofs.YtaijoghpfobdbaaDoorW.PrintLast
def sepL : List (List UInt8) → List UInt8
  | [] => []
  | a :: l => a ++ l.flatMap fun x => [44, 32] ++ x
def two (m : List UInt8) (l : List (List UInt8)) : List UInt8 := [40] ++ (l.getD 0 [] ++ ([32] ++ m ++ [32] ++ (l.getD 1 [] ++ [41])))
def fnc (m : List UInt8) (l : List (List UInt8)) : List UInt8 := m ++ [40] ++ (sepL l ++ [41])
def txN (n : Nd) (l : List (List UInt8)) : List UInt8 :=
  if n.f0 = 1 then Lib.decDigits n.f2.toNat
  else if n.f0 = 2 then L.Quote n.f3.data.toList
  else if n.f0 = 3 then [116, 114, 117, 101]
  else if n.f0 = 4 then [102, 97, 108, 115, 101]
  else if n.f0 = 5 then [45] ++ l.getD 0 []
  else if n.f0 = 6 then two [43] l
  else if n.f0 = 7 then two [45] l
  else if n.f0 = 8 then two [42] l
  else if n.f0 = 9 then fnc [99, 97, 116] l
  else if n.f0 = 10 then fnc [114, 101, 112] l
  else if n.f0 = 11 then fnc [108, 101, 110] l
  else fnc [104, 101, 120] l
mutual
def tx : Tr → List UInt8
  | .mk n ks => txN n (txs ks)
def txs : List Tr → List (List UInt8)
  | [] => []
  | t :: ts => tx t :: txs ts
end
theorem txs_map (l : List Tr) : txs l = l.map tx := by
  induction l with
  | nil => rfl
  | cons t l ih => rw [txs, List.map_cons, ih]
theorem txs_len (l : List Tr) : (txs l).length = l.length := by rw [txs_map, List.length_map]
inductive WF : Tr → Prop
  | mk (n : Nd) (ks : List Tr) (hk : kd n = some ks.length) (hr : 0 ≤ n.f2 ∧ n.f2 < 18446744073709551616) (h : ∀ t, t ∈ ks → WF t) : WF (.mk n ks)
theorem sg_wf {st st' : List Tr} {n : Nd} (h : sg st n = some st') (hr : 0 ≤ n.f2 ∧ n.f2 < 18446744073709551616) (hw : ∀ t, t ∈ st → WF t) : ∀ t, t ∈ st' → WF t := by
  obtain ⟨k, hk, hl, rfl⟩ := sg_some h
  intro t ht
  rcases List.mem_append.1 ht with ht | ht
  · exact hw t (List.mem_of_mem_take ht)
  · rw [List.mem_singleton] at ht
    subst ht
    refine .mk n _ (by rw [hk, List.length_drop]; congr 1; omega) hr (fun t ht => hw t (List.mem_of_mem_drop ht))
theorem build_wf : ∀ {ns : List Nd} {st st' : List Tr}, build ns st = some st' → (∀ n, n ∈ ns → 0 ≤ n.f2 ∧ n.f2 < 18446744073709551616) → (∀ t, t ∈ st → WF t) → ∀ t, t ∈ st' → WF t
  | [], st, st', h, _, hw => by rw [build] at h; injection h with h; subst h; exact hw
  | n :: ns, st, st', h, hr, hw => by
    rw [build] at h
    cases hs : sg st n with
    | none => rw [hs] at h; cases h
    | some s2 => rw [hs] at h; exact build_wf h (fun m hm => hr m (List.mem_cons_of_mem _ hm)) (sg_wf hs (hr n List.mem_cons_self) hw)
theorem kd_op {n : Nd} {k : Nat} (h : kd n = some k) : (k = 0 ∧ (n.f0 = 1 ∨ n.f0 = 2 ∨ n.f0 = 3 ∨ n.f0 = 4)) ∨ (k = 1 ∧ (n.f0 = 5 ∨ n.f0 = 11 ∨ n.f0 = 12)) ∨ (k = 2 ∧ (n.f0 = 6 ∨ n.f0 = 7 ∨ n.f0 = 8 ∨ n.f0 = 10)) ∨ (1 ≤ k ∧ n.f0 = 9 ∧ (k : Int) = n.f1) := by
  rw [kd_kr] at h
  split at h
  · cases h
  · rename_i hb
    injection h with h
    unfold kr at h hb
    by_cases h1 : n.f0 = 1 ∨ n.f0 = 2 ∨ n.f0 = 3 ∨ n.f0 = 4
    · rw [if_pos h1] at h; exact .inl ⟨by omega, h1⟩
    rw [if_neg h1] at h hb
    by_cases h2 : n.f0 = 5 ∨ n.f0 = 11 ∨ n.f0 = 12
    · rw [if_pos h2] at h; exact .inr (.inl ⟨by omega, h2⟩)
    rw [if_neg h2] at h hb
    by_cases h3 : n.f0 = 6 ∨ n.f0 = 7 ∨ n.f0 = 8 ∨ n.f0 = 10
    · rw [if_pos h3] at h; exact .inr (.inr (.inl ⟨by omega, h3⟩))
    rw [if_neg h3] at h hb
    by_cases h4 : n.f0 = 9
    · rw [if_pos h4] at h hb
      by_cases h5 : n.f1 ≥ 1
      · rw [if_pos h5] at h; exact .inr (.inr (.inr ⟨by omega, h4, by omega⟩))
      · rw [if_neg h5] at hb; exact absurd (.inl (by omega)) hb
    · rw [if_neg h4] at hb; exact absurd (.inl (by omega)) hb
theorem sepL_snoc : ∀ (l : List (List UInt8)) (a : List UInt8), sepL (l ++ [a]) = if l = [] then a else sepL l ++ ([44, 32] ++ a)
  | [], a => by simp [sepL]
  | b :: l, a => by simp [sepL, List.flatMap_append]
theorem qs_len (s : List UInt8) : s.length ≤ (L.qs s).length ∧ (L.qs s).length ≤ 4 * s.length := by
  induction s with
  | nil => simp [L.qs]
  | cons b t ih =>
    rw [L.qs, List.length_append, List.length_cons]
    have : 1 ≤ (L.qb b).length ∧ (L.qb b).length ≤ 4 := by
      unfold L.qb
      split
      · simp
      · split
        · simp
        · split
          · simp
          · split <;> simp
    omega
theorem quote_len (s : List UInt8) : s.length + 2 ≤ (L.Quote s).length ∧ (L.Quote s).length ≤ 4 * s.length + 2 := by
  have := qs_len s
  unfold L.Quote
  rw [List.length_cons, List.length_append, List.length_singleton]
  omega
theorem Wrote.cut {a s r : List UInt8} (h : Wrote a (L.Quote (s.take M)) r) : Wrote a (L.Quote s) r := by
  by_cases hs : s.length ≤ M
  · rw [List.take_of_length_le hs] at h; exact h
  · have h1 := (quote_len (s.take M)).1
    have h2 := (quote_len s).1
    rw [List.length_take] at h1
    exact h.long (by omega) (by omega)
end Go.Proofs.YtaijoghpfobdbaaDoor.P
end
section
set_option linter.unusedVariables false
set_option linter.unusedSimpArgs false
namespace Go.Proofs.YtaijoghpfobdbaaDoor.W
open Go.RowKit Go.Proofs.YtaijoghpfobdbaaDoor.X Go.Proofs.YtaijoghpfobdbaaDoorW.PrintWords Go.Proofs.YtaijoghpfobdbaaDoorW.PrintLast Go.Proofs.YtaijoghpfobdbaaDoorW.PrintMore
open Go.Proofs.YtaijoghpfobdbaaDoor.P (Tr Nd Wrote puts put fin kv kd sg build dep dmx pile judgeE tx txs txN sepL WF)
set_option maxHeartbeats 2000000 in
set_option maxRecDepth 100000 in
theorem text_calls {B b : Nat} {bs : List UInt8} (w : World) (hW : Wr w B b bs) :
    Calls Tryd.prog 28 #[.pointer (some ⟨b, 0, none⟩)] w fun e w' => e = .returned (.tuple #[.string (fin bs).1, .int .i64 (fin bs).2]) ∧ Below B w w' := by
  have HW := Aside0.mk hW
  clear hW
  by_cases hM : P.M < bs.length
  · have hd : decide (1048576 < (((Lib.byteCells bs).length : Nat) : Int)) = true := decide_eq_true (by have : P.M = 1048576 := rfl; rw [Lib.byteCells_length]; omega)
    have HF : Aside0 (fin bs = (⟨#[]⟩, 2)) := ⟨if_pos hM⟩
    clear hM
    go_enter Tryd.func28, Tryd.ntmps28
    go_wp2_with (first | (go_at_call 55; refine (Bd.len_calls B b _ _ HW.out.isW).mono ?_; rintro e w1 ⟨rfl, rfl⟩))
    go_ret2
    exact ⟨by rw [HF.out]; rfl, Below.refl _ _⟩
  · have hd : decide (1048576 < (((Lib.byteCells bs).length : Nat) : Int)) = false := decide_eq_false (by have : P.M = 1048576 := rfl; rw [Lib.byteCells_length]; omega)
    have HF : Aside0 (fin bs = (⟨bs.toArray⟩, 0)) := ⟨if_neg hM⟩
    clear hM
    go_enter Tryd.func28, Tryd.ntmps28
    go_wp2_with (first | (go_at_call 55; refine (Bd.len_calls B b _ _ HW.out.isW).mono ?_; rintro e w1 ⟨rfl, rfl⟩) | (go_at_call 58; refine (Bd.string_calls B b bs _ HW.out.isW HW.out.base).mono ?_; rintro e w2 ⟨rfl, hb⟩; have HB := Aside0.mk hb; clear hb))
    go_ret2
    exact ⟨by rw [HF.out]; rfl, HB.out⟩
theorem say_lit {B b : Nat} {bs : List UInt8} (W : World) (ps : List ByteArray) (n : Nat) (hn : n = ps.length) (hW : Wr W B b bs) (hnn : ps.length ≤ 100) (hp : ∀ p ∈ ps, p.size ≤ 8388608) :
    Calls Tryd.prog 26 #[.pointer (some ⟨b, 0, none⟩), .slice (some ⟨W.heap.size, 0, none⟩) n n] (W.alloc (.cells (ps.map Value.string).toArray 9)) fun e w' => e = .returned (.tuple #[]) ∧ ∃ r, Wr w' B b r ∧ Wrote bs (ps.flatMap fun p => p.data.toList) r ∧ Fw B b W w' := by
  refine (say_calls _ W.heap.size n n ps (hW.below (below_alloc (Below.refl _ _) _)) (blk_new _ _) hn (by omega) hp).mono ?_
  rintro e w' ⟨rfl, h1, h2⟩
  exact ⟨rfl, _, h1, Wrote.puts bs ps, (Fw.of_below (below_alloc (Below.refl _ _) _) hW.base).trans h2⟩
theorem Fw.size {B b : Nat} {w w' : World} (h : Fw B b w w') : w.heap.size ≤ w'.heap.size := h.below.size
set_option maxHeartbeats 2000000 in
set_option maxRecDepth 100000 in
theorem quote_calls {B b : Nat} {bs : List UInt8} (w : World) (s : ByteArray) (hW : Wr w B b bs) :
    Calls Tryd.prog 62 #[.pointer (some ⟨b, 0, none⟩), .string s] w fun e w' => e = .returned (.tuple #[]) ∧ ∃ r, Wr w' B b r ∧ Wrote bs (L.Quote s.data.toList) r ∧ Fw B b w w' := by
  obtain ⟨s2, hs2⟩ : ∃ s2 : ByteArray, s2 = T.ba (s.data.toList.take P.M) := ⟨_, rfl⟩
  have hl2 : s2.size ≤ 1048576 := by rw [hs2, T.ba_size, List.length_take]; exact Nat.min_le_left _ _
  have hd2 : s2.data.toList = s.data.toList.take P.M := by rw [hs2, T.ba_list]
  obtain ⟨k, hk⟩ := (T.quote_ev s2 (by omega)).rounds
  have HQ := Aside0.mk (fun w => lex_Quote.calls k s2 (T.ba (L.Quote s2.data.toList)) w hk)
  have hql := (P.quote_len s2.data.toList).2
  rw [data_length] at hql
  have HSZ : Aside0 ((T.ba (L.Quote s2.data.toList)).size ≤ 8388608) := ⟨by rw [T.ba_size]; omega⟩
  have HW := Aside0.mk hW
  have HD2 := Aside0.mk hd2
  obtain ⟨q, hq⟩ : ∃ q, q = T.ba (L.Quote s2.data.toList) := ⟨_, rfl⟩
  rw [← hq] at HQ HSZ
  have HQD : Aside0 (q.data.toList = L.Quote (s.data.toList.take P.M)) := ⟨by rw [hq, T.ba_list, hd2]⟩
  have fin : ∀ (w1 : World) (e : Ending) (w' : World), Fw B b w w1 → (e = .returned (.tuple #[]) ∧ ∃ r, Wr w' B b r ∧ Wrote bs ([q].flatMap fun p => p.data.toList) r ∧ Fw B b w1 w') → e = .returned (.tuple #[]) ∧ ∃ r, Wr w' B b r ∧ Wrote bs (L.Quote s.data.toList) r ∧ Fw B b w w' := by
    rintro w1 e w' h1 ⟨rfl, r, h2, h3, h4⟩
    refine ⟨rfl, r, h2, ?_, h1.trans h4⟩
    rw [List.flatMap_cons, List.flatMap_nil, List.append_nil, HQD.out] at h3
    exact h3.cut
  have HFIN := Aside0.mk fin
  have HSAY : Aside0 (∀ w1, Wr w1 B b bs → Calls Tryd.prog 26 #[.pointer (some ⟨b, 0, none⟩), .slice (some ⟨w1.heap.size, 0, none⟩) 1 1] (w1.alloc (.cells #[.string q] 9)) fun e w' => e = .returned (.tuple #[]) ∧ ∃ r, Wr w' B b r ∧ Wrote bs ([q].flatMap fun p => p.data.toList) r ∧ Fw B b w1 w') := ⟨fun w1 h => say_lit w1 [q] 1 rfl h (by simp) (by intro p hp; rw [List.mem_singleton] at hp; subst hp; exact HSZ.out)⟩
  by_cases hM : s.size > 1048576
  · have c1 : decide (1048576 < (s.size : Int)) = true := decide_eq_true (by omega)
    have c2 : decide (1048576 < s.size) = true := decide_eq_true hM
    have he : s.extract 0 1048576 = s2 := by rw [T.ba_ext, hs2]; rfl
    clear hs2 hl2 hd2 hk hql hW hq fin
    go_enter Tryd.func62, Tryd.ntmps62
    go_wp2_with (first | (go_at_call 22; refine (HQ.out w).mono ?_; rintro e w1 ⟨rfl, hb1⟩; have HB1 := Aside0.mk hb1; clear hb1) | (go_at_call 26; refine (HSAY.out _ (HW.out.below HB1.out)).mono ?_; intro e w2 hh; have HH := Aside0.mk (HFIN.out _ _ _ (Fw.of_below HB1.out HW.out.base) hh); clear hh; obtain ⟨rfl, _⟩ := HH.out))
    go_end0
    exact ⟨rfl, HH.out.2⟩
  · have c1 : decide (1048576 < (s.size : Int)) = false := decide_eq_false (by omega)
    have c2 : decide (1048576 < s.size) = false := decide_eq_false hM
    have he : s = s2 := by
      rw [hs2, List.take_of_length_le (by rw [data_length]; have : P.M = 1048576 := rfl; omega)]; rfl
    subst he
    clear hs2 hl2 hd2 hk hql hW hq fin
    go_enter Tryd.func62, Tryd.ntmps62
    go_wp2_with (first | (go_at_call 22; refine (HQ.out w).mono ?_; rintro e w1 ⟨rfl, hb1⟩; have HB1 := Aside0.mk hb1; clear hb1) | (go_at_call 26; refine (HSAY.out _ (HW.out.below HB1.out)).mono ?_; intro e w2 hh; have HH := Aside0.mk (HFIN.out _ _ _ (Fw.of_below HB1.out HW.out.base) hh); clear hh; obtain ⟨rfl, _⟩ := HH.out))
    go_end0
    exact ⟨rfl, HH.out.2⟩
structure Kids (w : World) (ks : List Tr) (s : Sl) (xs : List TV) : Prop where
  len : s.n = ks.length
  row : (xs = [] ∧ s.n = 0) ∨ ∃ g, s.A = some ⟨g, 0, none⟩ ∧ Kd.R kt 93 w 0 (fun _ => True) (.slice s.A s.n s.c) xs
  tl : TL w (fun _ => True) ks xs
theorem IsT.kids {w : World} {ok : Nat → Prop} {t : Tr} {x : TV} (h : IsT w ok t x) : ∃ n ks xs, t = .mk n ks ∧ x.n = n ∧ Kids w ks x.s xs := by
  cases h with
  | leaf n A c => exact ⟨n, [], [], rfl, rfl, ⟨rfl, .inl ⟨rfl, rfl⟩, TL.nil _ _⟩⟩
  | node n ks g c xs hl hok hr hk => exact ⟨n, ks, xs, rfl, rfl, ⟨hl, .inr ⟨g, rfl, hr⟩, ⟨hl, fun i h1 h2 => (hk i h1 h2).move (fun g cur _ _ => ⟨rfl, trivial⟩)⟩⟩⟩
section
variable {w w' : World} {B b : Nat} {bs : List UInt8}
theorem IsT.fw {t : Tr} {x : TV} (h : IsT w (fun _ => True) t x) (hW : Wr w B b bs) (hf : Fw B b w w') : IsT w' (fun _ => True) t x :=
  h.move fun g cur _ hg => ⟨(hf.blk hW hg (by decide) (by decide)).trans hg.symm, trivial⟩
theorem IsT.beneath {t : Tr} {x : TV} (h : IsT w (fun _ => True) t x) (hb : Below w.heap.size w w') : IsT w' (fun _ => True) t x :=
  h.move fun g cur _ hg => ⟨hb.block g (blk_lt hg), trivial⟩
theorem Kids.fw {ks : List Tr} {s : Sl} {xs : List TV} (h : Kids w ks s xs) (hW : Wr w B b bs) (hf : Fw B b w w') : Kids w' ks s xs := by
  refine ⟨h.len, ?_, h.tl.move fun g cur _ hg => ⟨(hf.blk hW hg (by decide) (by decide)).trans hg.symm, trivial⟩⟩
  rcases h.row with h0 | ⟨g, hA, hr⟩
  · exact .inl h0
  · refine .inr ⟨g, hA, R_flat flat_t hr (fun k hk => ?_) (fun _ _ => Nat.zero_le _)⟩
    rw [hA] at hr hk
    obtain ⟨cur, hg⟩ := R_blk hr
    simp only [Value.ownBlock, Option.some.injEq] at hk
    subst hk
    exact (hf.blk hW hg (by decide) (by decide)).trans hg.symm
theorem Kids.below {ks : List Tr} {s : Sl} {xs : List TV} (h : Kids w ks s xs) (hb : Below w.heap.size w w') : Kids w' ks s xs := by
  refine ⟨h.len, ?_, h.tl.move fun g cur _ hg => ⟨hb.block g (blk_lt hg), trivial⟩⟩
  rcases h.row with h0 | ⟨g, hA, hr⟩
  · exact .inl h0
  · exact .inr ⟨g, hA, Kd.R_below hr hb⟩
end
theorem Kids.at {w : World} {ks : List Tr} {g n c : Nat} {xs : List TV} (h : Kids w ks ⟨some ⟨g, 0, none⟩, n, c⟩ xs) (i : Nat) (hi : i < ks.length) :
    ∃ x, IsT w (fun _ => True) ks[i] x ∧ ∀ (j : Nat) (v : Value), (tvCs x)[j]? = some v → w.cell? ⟨g, i * 6 + j, none⟩ = some v := by
  have hx : i < xs.length := by rw [h.tl.len]; exact hi
  refine ⟨xs[i], h.tl.get i hi hx, fun j v hv => ?_⟩
  rcases h.row with ⟨h0, _⟩ | ⟨g', hA, hr⟩
  · rw [h0] at hx; simp at hx
  · have hC := (Kd.R_reads' hr).2.2
    have hn : n = xs.length := by have h1 : n = ks.length := h.len; have := h.tl.len; omega
    obtain ⟨ad, cs, e, _, hK, hc⟩ := Kd.C_get hC xs[i] (i : Int) (by omega) (by omega)
    rw [Int.toNat_natCast] at hK hc
    rw [List.getD_eq_getElem?_getD, List.getElem?_eq_getElem hx, Option.getD_some] at hK
    obtain rfl := kt_open hK
    have h2 := hc j v hv
    injection e with e
    rw [← e, Lib.add_plain, Nat.zero_add] at h2
    exact h2
theorem Kids.some {w : World} {ks : List Tr} {s : Sl} {xs : List TV} (h : Kids w ks s xs) (h0 : ks ≠ []) : ∃ g c, s = ⟨some ⟨g, 0, none⟩, ks.length, c⟩ := by
  obtain ⟨A, n, c⟩ := s
  rcases h.row with ⟨hx, hn⟩ | ⟨g, hA, _⟩
  · exact absurd (List.length_eq_zero_iff.1 (h.len ▸ hn)) h0
  · have := h.len
    simp only at this hA
    subst this
    subst hA
    exact ⟨g, c, rfl⟩
def ExprOk (B b : Nat) (t : Tr) : Prop := ∀ (w : World) (x : TV) (bs : List UInt8), Wr w B b bs → IsT w (fun _ => True) t x → U.Tab B w →
  Calls Tryd.prog 33 #[.pointer (some ⟨b, 0, none⟩), .agg (tvCs x).toArray] w fun e w' => e = .returned (.tuple #[]) ∧ ∃ r, Wr w' B b r ∧ Wrote bs (tx t) r ∧ Fw B b w w'
theorem one_piece (p : ByteArray) : ([p].flatMap fun p => p.data.toList) = p.data.toList := by simp
set_option maxHeartbeats 4000000 in
set_option maxRecDepth 100000 in
theorem between_calls {B b : Nat} {bs : List UInt8} (w : World) (m : ByteArray) (k0 k1 : Tr) (g c : Nat) (xs : List TV) (hm : m.size ≤ 8388608) (hW : Wr w B b bs) (hK : Kids w [k0, k1] ⟨some ⟨g, 0, none⟩, 2, c⟩ xs) (hT : U.Tab B w) (h0 : ExprOk B b k0) (h1 : ExprOk B b k1) :
    Calls Tryd.prog 63 #[.pointer (some ⟨b, 0, none⟩), .string m, .slice (some ⟨g, 0, none⟩) 2 c] w fun e w' => e = .returned (.tuple #[]) ∧ ∃ r, Wr w' B b r ∧ Wrote bs (P.two m.data.toList [tx k0, tx k1]) r ∧ Fw B b w w' := by
  have HW := Aside0.mk hW
  have HK := Aside0.mk hK
  have HT := Aside0.mk hT
  have H0 := Aside0.mk h0
  have H1 := Aside0.mk h1
  have HM := Aside0.mk hm
  clear hW hK hT h0 h1 hm
  go_enter Tryd.func63, Tryd.ntmps63
  go_wp2_with fail
  refine (say_lit w [⟨#[40]⟩] 1 rfl HW.out (by simp) (by intro p hp; rw [List.mem_singleton] at hp; subst hp; decide)).mono ?_
  rintro e w1 ⟨rfl, r1, hW1, hr1, hf1⟩
  have HW1 := Aside0.mk hW1
  have HR1 := Aside0.mk hr1
  have HF1 := Aside0.mk hf1
  have HK1 := Aside0.mk (HK.out.fw HW.out hf1)
  clear hW1 hr1 hf1
  obtain ⟨x0, hx0, hc0⟩ := HK1.out.at 0 (by simp)
  have HX0 := Aside0.mk hx0
  have q0 : w1.cell? ⟨g, 0, none⟩ = some (.int .i64 x0.n.f0) := hc0 0 _ rfl
  have q1 : w1.cell? ⟨g, 1, none⟩ = some (.int .i64 x0.n.f1) := hc0 1 _ rfl
  have q2 : w1.cell? ⟨g, 2, none⟩ = some (.int .u64 x0.n.f2) := hc0 2 _ rfl
  have q3 : w1.cell? ⟨g, 3, none⟩ = some (.string x0.n.f3) := hc0 3 _ rfl
  have q4 : w1.cell? ⟨g, 4, none⟩ = some (.int .i64 x0.n.f4) := hc0 4 _ rfl
  have q5 : w1.cell? ⟨g, 5, none⟩ = some (.slice x0.s.A x0.s.n x0.s.c) := hc0 5 _ rfl
  clear hx0 hc0
  go_wp2_with fail
  refine (H0.out w1 x0 r1 HW1.out HX0.out (HT.out.step HF1.out.below)).mono ?_
  rintro e w2 ⟨rfl, r2, hW2, hr2, hf2⟩
  have HW2 := Aside0.mk hW2
  have HR2 := Aside0.mk hr2
  have HF2 := Aside0.mk (HF1.out.trans hf2)
  have HK2 := Aside0.mk (HK1.out.fw HW1.out hf2)
  clear hW2 hr2 hf2 q0 q1 q2 q3 q4 q5
  go_wp2_with fail
  refine (say_lit w2 [⟨#[32]⟩, m, ⟨#[32]⟩] 3 rfl HW2.out (by simp) (by intro p hp; simp only [List.mem_cons, List.not_mem_nil, or_false] at hp; rcases hp with rfl | rfl | rfl; decide; exact HM.out; decide)).mono ?_
  rintro e w3 ⟨rfl, r3, hW3, hr3, hf3⟩
  have HW3 := Aside0.mk hW3
  have HR3 := Aside0.mk hr3
  have HF3 := Aside0.mk (HF2.out.trans hf3)
  have HK3 := Aside0.mk (HK2.out.fw HW2.out hf3)
  clear hW3 hr3 hf3
  obtain ⟨x1, hx1, hc1⟩ := HK3.out.at 1 (by simp)
  have HX1 := Aside0.mk hx1
  have q0 : w3.cell? ⟨g, 6, none⟩ = some (.int .i64 x1.n.f0) := hc1 0 _ rfl
  have q1 : w3.cell? ⟨g, 7, none⟩ = some (.int .i64 x1.n.f1) := hc1 1 _ rfl
  have q2 : w3.cell? ⟨g, 8, none⟩ = some (.int .u64 x1.n.f2) := hc1 2 _ rfl
  have q3 : w3.cell? ⟨g, 9, none⟩ = some (.string x1.n.f3) := hc1 3 _ rfl
  have q4 : w3.cell? ⟨g, 10, none⟩ = some (.int .i64 x1.n.f4) := hc1 4 _ rfl
  have q5 : w3.cell? ⟨g, 11, none⟩ = some (.slice x1.s.A x1.s.n x1.s.c) := hc1 5 _ rfl
  clear hx1 hc1
  go_wp2_with fail
  refine (H1.out w3 x1 r3 HW3.out HX1.out (HT.out.step HF3.out.below)).mono ?_
  rintro e w4 ⟨rfl, r4, hW4, hr4, hf4⟩
  have HW4 := Aside0.mk hW4
  have HR4 := Aside0.mk hr4
  have HF4 := Aside0.mk (HF3.out.trans hf4)
  clear hW4 hr4 hf4 q0 q1 q2 q3 q4 q5
  go_wp2_with fail
  refine (say_lit w4 [⟨#[41]⟩] 1 rfl HW4.out (by simp) (by intro p hp; rw [List.mem_singleton] at hp; subst hp; decide)).mono ?_
  rintro e w5 ⟨rfl, r5, hW5, hr5, hf5⟩
  have HW5 := Aside0.mk hW5
  have HR5 := Aside0.mk hr5
  have HF5 := Aside0.mk (HF4.out.trans hf5)
  clear hW5 hr5 hf5
  go_wp2
  go_end0
  refine ⟨rfl, r5, HW5.out, ?_, HF5.out⟩
  have h := (((HR1.out.trans HR2.out).trans HR3.out).trans HR4.out).trans HR5.out
  have e : P.two m.data.toList [tx k0, tx k1] = (((([(⟨#[40]⟩ : ByteArray)].flatMap fun p => p.data.toList) ++ tx k0) ++ ([(⟨#[32]⟩ : ByteArray), m, ⟨#[32]⟩].flatMap fun p => p.data.toList)) ++ tx k1) ++ ([(⟨#[41]⟩ : ByteArray)].flatMap fun p => p.data.toList) := by
    simp [P.two]
  rw [e]; exact h
theorem sep_next (l : List Tr) (j : Nat) (hj : j < l.length) : sepL (txs (l.take (j + 1))) = sepL (txs (l.take j)) ++ ((if 0 < j then [44, 32] else []) ++ tx l[j]) := by
  rw [List.take_succ_eq_append_getElem hj, P.txs_map, List.map_append, List.map_singleton, P.sepL_snoc, ← P.txs_map]
  by_cases h : j = 0
  · subst h; simp [P.txs, sepL]
  · rw [if_neg (fun e => by have := congrArg List.length e; rw [P.txs_len, List.length_take, List.length_nil] at this; omega), if_pos (by omega)]
set_option maxHeartbeats 4000000 in
set_option maxRecDepth 100000 in
theorem call_calls {B b : Nat} {bs : List UInt8} (w : World) (m : ByteArray) (ks : List Tr) (g c : Nat) (xs : List TV) (hm : m.size ≤ 8388608) (hks : ks ≠ []) (hkl : ks.length ≤ 9223372036854775807) (hW : Wr w B b bs) (hK : Kids w ks ⟨some ⟨g, 0, none⟩, ks.length, c⟩ xs) (hT : U.Tab B w) (hE : ∀ t, t ∈ ks → ExprOk B b t) :
    Calls Tryd.prog 64 #[.pointer (some ⟨b, 0, none⟩), .string m, .slice (some ⟨g, 0, none⟩) ks.length c] w fun e w' => e = .returned (.tuple #[]) ∧ ∃ r, Wr w' B b r ∧ Wrote bs (P.fnc m.data.toList (txs ks)) r ∧ Fw B b w w' := by
  have HW := Aside0.mk hW
  have HK := Aside0.mk hK
  have HT := Aside0.mk hT
  have HE := Aside0.mk hE
  have HM := Aside0.mk hm
  have HKL := Aside0.mk hkl
  clear hW hK hT hE hm hks hkl
  go_enter Tryd.func64, Tryd.ntmps64
  go_wp2_with fail
  refine (say_lit w [m, ⟨#[40]⟩] 2 rfl HW.out (by simp) (by intro p hp; simp only [List.mem_cons, List.not_mem_nil, or_false] at hp; rcases hp with rfl | rfl; exact HM.out; decide)).mono ?_
  rintro e w1 ⟨rfl, r1, hW1, hr1, hf1⟩
  have HW1 := Aside0.mk hW1
  have HR1 := Aside0.mk hr1
  have HF1 := Aside0.mk hf1
  have HK1 := Aside0.mk (HK.out.fw HW.out hf1)
  clear hW1 hr1 hf1
  go_wp2_with fail
  go_loopw [14] (fun ti wr => ∃ (j : Nat) (r : List UInt8), ti = .int .i64 (j : Int) ∧ Aside0 (j ≤ ks.length) ∧ Aside0 (Wr wr B b r) ∧ Aside0 (Wrote r1 (sepL (txs (ks.take j))) r) ∧ Aside0 (Fw B b w1 wr)) (fun ti _ => ks.length - left ti)
  case atStart => exact ⟨0, r1, rfl, ⟨Nat.zero_le _⟩, HW1, ⟨Wrote.refl _⟩, ⟨Fw.refl _ _ _⟩⟩
  case round =>
    obtain ⟨j, r, rfl, hj, HWr, HRr, HFr⟩ := hrel
    by_cases cj : j < ks.length
    · have c1 : decide ((j : Int) < (ks.length : Int)) = true := decide_eq_true (by omega)
      have c2 : decide (j < ks.length) = true := decide_eq_true cj
      have HKr := Aside0.mk (HK1.out.fw HW1.out HFr.out)
      obtain ⟨x0, hx0, hc0⟩ := HKr.out.at j cj
      have HX0 := Aside0.mk hx0
      have q0 : wr.cell? ⟨g, j * 6, none⟩ = some (.int .i64 x0.n.f0) := hc0 0 _ rfl
      have q1 : wr.cell? ⟨g, j * 6 + 1, none⟩ = some (.int .i64 x0.n.f1) := hc0 1 _ rfl
      have q2 : wr.cell? ⟨g, j * 6 + 2, none⟩ = some (.int .u64 x0.n.f2) := hc0 2 _ rfl
      have q3 : wr.cell? ⟨g, j * 6 + 3, none⟩ = some (.string x0.n.f3) := hc0 3 _ rfl
      have q4 : wr.cell? ⟨g, j * 6 + 4, none⟩ = some (.int .i64 x0.n.f4) := hc0 4 _ rfl
      have q5 : wr.cell? ⟨g, j * 6 + 5, none⟩ = some (.slice x0.s.A x0.s.n x0.s.c) := hc0 5 _ rfl
      clear hx0 hc0
      have HCJ := Aside0.mk cj
      have W1 : Aside0 (wrap64 ((j : Int) + 1) = ((j + 1 : Nat) : Int)) := ⟨by have := HKL.out; unfold wrap64; omega⟩
      have HSN := Aside0.mk (sep_next ks j cj)
      have HEJ := Aside0.mk (HE.out ks[j] (List.getElem_mem cj))
      obtain ⟨tj, htj⟩ : ∃ tj, tj = ks[j] := ⟨_, rfl⟩
      rw [← htj] at HX0 HSN HEJ
      clear htj
      obtain ⟨wA, hwA⟩ : ∃ wA, wA = wr.alloc (.cells #[.int .i64 x0.n.f0, .int .i64 x0.n.f1, .int .u64 x0.n.f2, .string x0.n.f3, .int .i64 x0.n.f4, .slice x0.s.A x0.s.n x0.s.c] 93) := ⟨_, rfl⟩
      have hbA : Below wr.heap.size wr wA := by rw [hwA]; exact below_alloc (Below.refl _ _) _
      have hszA : wA.heap.size = wr.heap.size + 1 := by rw [hwA]; simp
      have HWA := Aside0.mk (HWr.out.below hbA)
      have HXA := Aside0.mk (HX0.out.beneath hbA)
      have HFA := Aside0.mk (HFr.out.trans (Fw.of_below hbA HWr.out.base))
      have HAN : Aside0 (wA.heap[wr.heap.size]? = some (.cells #[.int .i64 x0.n.f0, .int .i64 x0.n.f1, .int .u64 x0.n.f2, .string x0.n.f3, .int .i64 x0.n.f4, .slice x0.s.A x0.s.n x0.s.c] 93 (0, 0))) := ⟨by rw [hwA]; exact blk_new _ _⟩
      have HWE := Aside0.mk hwA
      have HSZ := Aside0.mk hszA
      clear hwA hbA hszA
      by_cases cz : 0 < j
      · have z1 : decide (0 < (j : Int)) = true := decide_eq_true (by omega)
        have z2 : decide (0 < j) = true := decide_eq_true cz
        have HCZ := Aside0.mk cz
        clear cz
        go_wp2_with fail
        rw [← HWE.out, ← HSZ.out]
        refine (say_lit wA [⟨#[44, 32]⟩] 1 rfl HWA.out (by simp) (by intro p hp; rw [List.mem_singleton] at hp; subst hp; decide)).mono ?_
        rintro e w2 ⟨rfl, r2, hW2, hr2, hf2⟩
        have HW2 := Aside0.mk hW2
        have HR2 := Aside0.mk hr2
        have HF2 := Aside0.mk (HFA.out.trans hf2)
        have HX2 := Aside0.mk (HXA.out.fw HWA.out hf2)
        have hbx := hf2.blk HWA.out HAN.out (by decide) (by decide)
        have y0 := (blk_cell hbx 0).trans rfl
        have y1 := (blk_cell hbx 1).trans rfl
        have y2 := (blk_cell hbx 2).trans rfl
        have y3 := (blk_cell hbx 3).trans rfl
        have y4 := (blk_cell hbx 4).trans rfl
        have y5 := (blk_cell hbx 5).trans rfl
        clear hW2 hr2 hf2 hbx q0 q1 q2 q3 q4 q5
        go_wp2_with fail
        refine (HEJ.out w2 x0 r2 HW2.out HX2.out (HT.out.step (HF1.out.trans HF2.out).below)).mono ?_
        rintro e w3 ⟨rfl, r3, hW3, hr3, hf3⟩
        have HW3 := Aside0.mk hW3
        have HR3 := Aside0.mk hr3
        have HF3 := Aside0.mk (HF2.out.trans hf3)
        clear hW3 hr3 hf3 y0 y1 y2 y3 y4 y5
        go_wp2
        rw [W1.out]
        go_roundw
        case measure => have := HCJ.out; simp only [left, Int.toNat_natCast]; omega
        case rel =>
          refine ⟨j + 1, r3, rfl, ⟨HCJ.out⟩, HW3, ⟨?_⟩, HF3⟩
          have h := (HRr.out.trans HR2.out).trans HR3.out
          rw [one_piece, List.append_assoc] at h
          rw [HSN.out, if_pos HCZ.out]; exact h
      · have z1 : decide (0 < (j : Int)) = false := decide_eq_false (by omega)
        have z2 : decide (0 < j) = false := decide_eq_false cz
        have HCZ := Aside0.mk cz
        clear cz
        go_wp2_with fail
        rw [← HWE.out]
        refine (HEJ.out wA x0 r HWA.out HXA.out (HT.out.step (HF1.out.trans HFA.out).below)).mono ?_
        rintro e w3 ⟨rfl, r3, hW3, hr3, hf3⟩
        have HW3 := Aside0.mk hW3
        have HR3 := Aside0.mk hr3
        have HF3 := Aside0.mk (HFA.out.trans hf3)
        clear hW3 hr3 hf3
        go_wp2
        rw [W1.out]
        go_roundw
        case measure => have := HCJ.out; simp only [left, Int.toNat_natCast]; omega
        case rel =>
          refine ⟨j + 1, r3, rfl, ⟨HCJ.out⟩, HW3, ⟨?_⟩, HF3⟩
          have h := HRr.out.trans HR3.out
          rw [HSN.out, if_neg HCZ.out, List.nil_append]; exact h
    · have c1 : decide ((j : Int) < (ks.length : Int)) = false := decide_eq_false (by omega)
      have c2 : decide (j < ks.length) = false := decide_eq_false cj
      have HJ : Aside0 (ks.take j = ks) := ⟨List.take_of_length_le (by omega)⟩
      go_wp2_with fail
      refine (say_lit wr [⟨#[41]⟩] 1 rfl HWr.out (by simp) (by intro p hp; rw [List.mem_singleton] at hp; subst hp; decide)).mono ?_
      rintro e w5 ⟨rfl, r5, hW5, hr5, hf5⟩
      have HW5 := Aside0.mk hW5
      have HR5 := Aside0.mk hr5
      have HF5 := Aside0.mk ((HF1.out.trans HFr.out).trans hf5)
      clear hW5 hr5 hf5
      go_wp2
      go_end0
      refine ⟨rfl, r5, HW5.out, ?_, HF5.out⟩
      have h := (HR1.out.trans HRr.out).trans HR5.out
      rw [HJ.out] at h
      have e : P.fnc m.data.toList (txs ks) = (([m, (⟨#[40]⟩ : ByteArray)].flatMap fun p => p.data.toList) ++ sepL (txs ks)) ++ ([(⟨#[41]⟩ : ByteArray)].flatMap fun p => p.data.toList) := by
        simp [P.fnc]
      rw [e]; exact h
end Go.Proofs.YtaijoghpfobdbaaDoor.W
end
section
set_option linter.unusedVariables false
set_option linter.unusedSimpArgs false
namespace Go.Proofs.YtaijoghpfobdbaaDoor.W
open Go.RowKit Go.Proofs.YtaijoghpfobdbaaDoor.X Go.Proofs.YtaijoghpfobdbaaDoorW.PrintWords Go.Proofs.YtaijoghpfobdbaaDoorW.PrintLast Go.Proofs.YtaijoghpfobdbaaDoorW.PrintMore
open Go.Proofs.YtaijoghpfobdbaaDoor.P (Tr Nd Wrote puts put fin kv kd sg build dep dmx pile judgeE tx txs txN sepL WF)
theorem Kids.max {w : World} {ks : List Tr} {s : Sl} {xs : List TV} (h : Kids w ks s xs) : ks.length ≤ 9223372036854775807 := by
  rcases h.row with ⟨h0, h1⟩ | ⟨g, hA, hr⟩
  · have := h.len; omega
  · have h1 := (Kd.R_reads' hr).2.2.2.1
    have := h.tl.len
    omega
theorem IsT.inv {w : World} {ok : Nat → Prop} {n : Nd} {ks : List Tr} {x : TV} (h : IsT w ok (.mk n ks) x) : ∃ xs, x.n = n ∧ Kids w ks x.s xs := by
  obtain ⟨n', ks', xs, e, hx, hk⟩ := h.kids
  injection e with e1 e2
  subst e1 e2
  exact ⟨xs, hx, hk⟩
set_option maxHeartbeats 4000000 in
set_option maxRecDepth 100000 in
theorem e0_ok {B b : Nat} {bs : List UInt8} (w : World) (f0 f1 f2 : Int) (f3 : ByteArray) (f4 : Int) (s : Sl) (x : List UInt8) (hW : Wr w B b bs) (hM : ¬ bs.length ≤ P.M) :
    Calls Tryd.prog 33 #[.pointer (some ⟨b, 0, none⟩), .agg #[.int .i64 f0, .int .i64 f1, .int .u64 f2, .string f3, .int .i64 f4, .slice s.A s.n s.c]] w fun e w' => e = .returned (.tuple #[]) ∧ ∃ r, Wr w' B b r ∧ Wrote bs x r ∧ Fw B b w w' := by
  have hd : decide (1048576 < (((Lib.byteCells bs).length : Nat) : Int)) = true := decide_eq_true (by have : P.M = 1048576 := rfl; rw [Lib.byteCells_length]; omega)
  obtain ⟨wA, hwA⟩ : ∃ wA, wA = w.alloc (.cells #[.int .i64 f0, .int .i64 f1, .int .u64 f2, .string f3, .int .i64 f4, .slice s.A s.n s.c] 93) := ⟨_, rfl⟩
  have hbA : Below w.heap.size w wA := by rw [hwA]; exact below_alloc (Below.refl _ _) _
  have HWA := Aside0.mk (hW.below hbA)
  have HFA := Aside0.mk (Fw.of_below (b := b) hbA hW.base)
  have HE := Aside0.mk hwA
  have HOV : Aside0 (Wrote bs x bs) := ⟨Wrote.over (by omega) (by omega)⟩
  clear hM hW hwA hbA
  go_enter Tryd.func33, Tryd.ntmps33
  go_wp2_with fail
  rw [← HE.out]
  refine (Bd.len_calls B b _ wA HWA.out.isW).mono ?_
  rintro e w1 ⟨rfl, hw1⟩
  subst hw1
  go_wp2
  refine bodyPost_ret (results_none rfl _ _ _) rfl ?_
  exact ⟨rfl, bs, HWA.out, HOV.out, HFA.out⟩
set_option maxHeartbeats 4000000 in
set_option maxRecDepth 100000 in
theorem e3_ok {B b : Nat} {bs : List UInt8} (w : World) (f1 f2 : Int) (f3 : ByteArray) (f4 : Int) (s : Sl) (ks : List Tr) (xs : List TV) (hW : Wr w B b bs) (hM : bs.length ≤ P.M) (hK : Kids w ks s xs) (hT : U.Tab B w) :
    Calls Tryd.prog 33 #[.pointer (some ⟨b, 0, none⟩), .agg #[.int .i64 3, .int .i64 f1, .int .u64 f2, .string f3, .int .i64 f4, .slice s.A s.n s.c]] w fun e w' => e = .returned (.tuple #[]) ∧ ∃ r, Wr w' B b r ∧ Wrote bs (txN ⟨3, f1, f2, f3, f4⟩ (txs ks)) r ∧ Fw B b w w' := by
  have hd : decide (1048576 < (((Lib.byteCells bs).length : Nat) : Int)) = false := decide_eq_false (by have : P.M = 1048576 := rfl; rw [Lib.byteCells_length]; omega)
  obtain ⟨wA, hwA⟩ : ∃ wA, wA = w.alloc (.cells #[.int .i64 3, .int .i64 f1, .int .u64 f2, .string f3, .int .i64 f4, .slice s.A s.n s.c] 93) := ⟨_, rfl⟩
  have hbA : Below w.heap.size w wA := by rw [hwA]; exact below_alloc (Below.refl _ _) _
  have HWA := Aside0.mk (hW.below hbA)
  have HTA := Aside0.mk (hT.step (Fw.of_below (b := b) hbA hW.base).below)
  have HKA := Aside0.mk (hK.below hbA)
  have HFA := Aside0.mk (Fw.of_below (b := b) hbA hW.base)
  have HE := Aside0.mk hwA
  have HSZ : Aside0 (wA.heap.size = w.heap.size + 1) := ⟨by rw [hwA]; simp⟩
  clear hM hW hK hT hwA hbA
  go_enter Tryd.func33, Tryd.ntmps33
  go_wp2_with fail
  rw [← HE.out]
  refine (Bd.len_calls B b _ wA HWA.out.isW).mono ?_
  rintro e w1 ⟨rfl, hw1⟩
  subst hw1
  rw [HE.out]
  go_wp2_with fail
  rw [← HE.out, ← HSZ.out]
  refine (say_lit w1 [⟨#[116, 114, 117, 101]⟩] 1 rfl HWA.out (by simp) (by intro p hp; rw [List.mem_singleton] at hp; subst hp; decide)).mono ?_
  rintro e w2 ⟨rfl, r2, hW2, hr2, hf2⟩
  have HW2 := Aside0.mk hW2
  have HR2 := Aside0.mk hr2
  have HF2 := Aside0.mk hf2
  clear hW2 hr2 hf2
  go_wp2
  go_end0
  exact ⟨rfl, r2, HW2.out, by rw [one_piece] at HR2; exact HR2.out, HFA.out.trans HF2.out⟩
set_option maxHeartbeats 4000000 in
set_option maxRecDepth 100000 in
theorem e4_ok {B b : Nat} {bs : List UInt8} (w : World) (f1 f2 : Int) (f3 : ByteArray) (f4 : Int) (s : Sl) (ks : List Tr) (xs : List TV) (hW : Wr w B b bs) (hM : bs.length ≤ P.M) (hK : Kids w ks s xs) (hT : U.Tab B w) :
    Calls Tryd.prog 33 #[.pointer (some ⟨b, 0, none⟩), .agg #[.int .i64 4, .int .i64 f1, .int .u64 f2, .string f3, .int .i64 f4, .slice s.A s.n s.c]] w fun e w' => e = .returned (.tuple #[]) ∧ ∃ r, Wr w' B b r ∧ Wrote bs (txN ⟨4, f1, f2, f3, f4⟩ (txs ks)) r ∧ Fw B b w w' := by
  have hd : decide (1048576 < (((Lib.byteCells bs).length : Nat) : Int)) = false := decide_eq_false (by have : P.M = 1048576 := rfl; rw [Lib.byteCells_length]; omega)
  obtain ⟨wA, hwA⟩ : ∃ wA, wA = w.alloc (.cells #[.int .i64 4, .int .i64 f1, .int .u64 f2, .string f3, .int .i64 f4, .slice s.A s.n s.c] 93) := ⟨_, rfl⟩
  have hbA : Below w.heap.size w wA := by rw [hwA]; exact below_alloc (Below.refl _ _) _
  have HWA := Aside0.mk (hW.below hbA)
  have HTA := Aside0.mk (hT.step (Fw.of_below (b := b) hbA hW.base).below)
  have HKA := Aside0.mk (hK.below hbA)
  have HFA := Aside0.mk (Fw.of_below (b := b) hbA hW.base)
  have HE := Aside0.mk hwA
  have HSZ : Aside0 (wA.heap.size = w.heap.size + 1) := ⟨by rw [hwA]; simp⟩
  clear hM hW hK hT hwA hbA
  go_enter Tryd.func33, Tryd.ntmps33
  go_wp2_with fail
  rw [← HE.out]
  refine (Bd.len_calls B b _ wA HWA.out.isW).mono ?_
  rintro e w1 ⟨rfl, hw1⟩
  subst hw1
  rw [HE.out]
  go_wp2_with fail
  rw [← HE.out, ← HSZ.out]
  refine (say_lit w1 [⟨#[102, 97, 108, 115, 101]⟩] 1 rfl HWA.out (by simp) (by intro p hp; rw [List.mem_singleton] at hp; subst hp; decide)).mono ?_
  rintro e w2 ⟨rfl, r2, hW2, hr2, hf2⟩
  have HW2 := Aside0.mk hW2
  have HR2 := Aside0.mk hr2
  have HF2 := Aside0.mk hf2
  clear hW2 hr2 hf2
  go_wp2
  go_end0
  exact ⟨rfl, r2, HW2.out, by rw [one_piece] at HR2; exact HR2.out, HFA.out.trans HF2.out⟩
set_option maxHeartbeats 4000000 in
set_option maxRecDepth 100000 in
theorem e2_ok {B b : Nat} {bs : List UInt8} (w : World) (f1 f2 : Int) (f3 : ByteArray) (f4 : Int) (s : Sl) (ks : List Tr) (xs : List TV) (hW : Wr w B b bs) (hM : bs.length ≤ P.M) (hK : Kids w ks s xs) (hT : U.Tab B w) :
    Calls Tryd.prog 33 #[.pointer (some ⟨b, 0, none⟩), .agg #[.int .i64 2, .int .i64 f1, .int .u64 f2, .string f3, .int .i64 f4, .slice s.A s.n s.c]] w fun e w' => e = .returned (.tuple #[]) ∧ ∃ r, Wr w' B b r ∧ Wrote bs (txN ⟨2, f1, f2, f3, f4⟩ (txs ks)) r ∧ Fw B b w w' := by
  have hd : decide (1048576 < (((Lib.byteCells bs).length : Nat) : Int)) = false := decide_eq_false (by have : P.M = 1048576 := rfl; rw [Lib.byteCells_length]; omega)
  obtain ⟨wA, hwA⟩ : ∃ wA, wA = w.alloc (.cells #[.int .i64 2, .int .i64 f1, .int .u64 f2, .string f3, .int .i64 f4, .slice s.A s.n s.c] 93) := ⟨_, rfl⟩
  have hbA : Below w.heap.size w wA := by rw [hwA]; exact below_alloc (Below.refl _ _) _
  have HWA := Aside0.mk (hW.below hbA)
  have HTA := Aside0.mk (hT.step (Fw.of_below (b := b) hbA hW.base).below)
  have HKA := Aside0.mk (hK.below hbA)
  have HFA := Aside0.mk (Fw.of_below (b := b) hbA hW.base)
  have HE := Aside0.mk hwA
  have HSZ : Aside0 (wA.heap.size = w.heap.size + 1) := ⟨by rw [hwA]; simp⟩
  clear hM hW hK hT hwA hbA
  go_enter Tryd.func33, Tryd.ntmps33
  go_wp2_with fail
  rw [← HE.out]
  refine (Bd.len_calls B b _ wA HWA.out.isW).mono ?_
  rintro e w1 ⟨rfl, hw1⟩
  subst hw1
  rw [HE.out]
  go_wp2_with fail
  rw [← HE.out]
  refine (quote_calls w1 f3 HWA.out).mono ?_
  rintro e w2 ⟨rfl, r2, hW2, hr2, hf2⟩
  have HW2 := Aside0.mk hW2
  have HR2 := Aside0.mk hr2
  have HF2 := Aside0.mk hf2
  clear hW2 hr2 hf2
  go_wp2
  go_end0
  exact ⟨rfl, r2, HW2.out, HR2.out, HFA.out.trans HF2.out⟩
set_option maxHeartbeats 4000000 in
set_option maxRecDepth 100000 in
theorem e1_ok {B b : Nat} {bs : List UInt8} (w : World) (f1 f2 : Int) (f3 : ByteArray) (f4 : Int) (s : Sl) (ks : List Tr) (xs : List TV) (hW : Wr w B b bs) (hM : bs.length ≤ P.M) (hK : Kids w ks s xs) (hT : U.Tab B w) (hr : 0 ≤ f2 ∧ f2 < 18446744073709551616) :
    Calls Tryd.prog 33 #[.pointer (some ⟨b, 0, none⟩), .agg #[.int .i64 1, .int .i64 f1, .int .u64 f2, .string f3, .int .i64 f4, .slice s.A s.n s.c]] w fun e w' => e = .returned (.tuple #[]) ∧ ∃ r, Wr w' B b r ∧ Wrote bs (txN ⟨1, f1, f2, f3, f4⟩ (txs ks)) r ∧ Fw B b w w' := by
  have hd : decide (1048576 < (((Lib.byteCells bs).length : Nat) : Int)) = false := decide_eq_false (by have : P.M = 1048576 := rfl; rw [Lib.byteCells_length]; omega)
  obtain ⟨wA, hwA⟩ : ∃ wA, wA = w.alloc (.cells #[.int .i64 1, .int .i64 f1, .int .u64 f2, .string f3, .int .i64 f4, .slice s.A s.n s.c] 93) := ⟨_, rfl⟩
  have hbA : Below w.heap.size w wA := by rw [hwA]; exact below_alloc (Below.refl _ _) _
  have HWA := Aside0.mk (hW.below hbA)
  have HTA := Aside0.mk (hT.step (Fw.of_below (b := b) hbA hW.base).below)
  have HKA := Aside0.mk (hK.below hbA)
  have HFA := Aside0.mk (Fw.of_below (b := b) hbA hW.base)
  have HE := Aside0.mk hwA
  have HSZ : Aside0 (wA.heap.size = w.heap.size + 1) := ⟨by rw [hwA]; simp⟩
  obtain ⟨u, rfl⟩ : ∃ u : Nat, f2 = (u : Int) := ⟨f2.toNat, by omega⟩
  have HU := Aside0.mk (show u < 18446744073709551616 by omega)
  clear hr
  clear hM hW hK hT hwA hbA
  go_enter Tryd.func33, Tryd.ntmps33
  go_wp2_with fail
  rw [← HE.out]
  refine (Bd.len_calls B b _ wA HWA.out.isW).mono ?_
  rintro e w1 ⟨rfl, hw1⟩
  subst hw1
  rw [HE.out]
  go_wp2_with fail
  rw [← HE.out]
  refine (U.format_calls u HU.out HWA.out.base HTA.out).mono ?_
  rintro e w2 ⟨rfl, hb2⟩
  have HB2 := Aside0.mk hb2
  have HWB := Aside0.mk (HWA.out.below hb2)
  clear hb2
  go_wp2_with fail
  have hdl : (U.dec u).size ≤ 8388608 := by
    show (Lib.decDigits u).toArray.size ≤ 8388608
    rw [List.size_toArray, Lib.decDigits_length]
    by_cases hu : 1 ≤ u
    · have := Lib.numDigits_eq u hu HU.out; split at this <;> omega
    · obtain rfl : u = 0 := by omega
      rw [Lib.nDigits_small (by omega)]; omega
  have HDL := Aside0.mk hdl
  clear hdl
  refine (say_lit w2 [U.dec u] 1 rfl HWB.out (by simp) (by intro p hp; rw [List.mem_singleton] at hp; subst hp; exact HDL.out)).mono ?_
  rintro e w3 ⟨rfl, r2, hW2, hr2, hf2⟩
  have HW2 := Aside0.mk hW2
  have HR2 := Aside0.mk hr2
  have HF2 := Aside0.mk ((Fw.of_below HB2.out HWA.out.base).trans hf2)
  clear hW2 hr2 hf2
  go_wp2
  go_end0
  exact ⟨rfl, r2, HW2.out, by rw [one_piece] at HR2; exact HR2.out, HFA.out.trans HF2.out⟩
set_option maxHeartbeats 4000000 in
set_option maxRecDepth 100000 in
theorem e5_ok {B b : Nat} {bs : List UInt8} (w : World) (f1 f2 : Int) (f3 : ByteArray) (f4 : Int) (s : Sl) (ks : List Tr) (xs : List TV) (hW : Wr w B b bs) (hM : bs.length ≤ P.M) (hK : Kids w ks s xs) (hT : U.Tab B w) (k0 : Tr) (hks : ks = [k0]) (h0 : ExprOk B b k0) :
    Calls Tryd.prog 33 #[.pointer (some ⟨b, 0, none⟩), .agg #[.int .i64 5, .int .i64 f1, .int .u64 f2, .string f3, .int .i64 f4, .slice s.A s.n s.c]] w fun e w' => e = .returned (.tuple #[]) ∧ ∃ r, Wr w' B b r ∧ Wrote bs (txN ⟨5, f1, f2, f3, f4⟩ (txs ks)) r ∧ Fw B b w w' := by
  subst hks
  obtain ⟨g, c, hs⟩ := hK.some (by simp)
  subst hs
  have H0 := Aside0.mk h0
  clear h0
  have hd : decide (1048576 < (((Lib.byteCells bs).length : Nat) : Int)) = false := decide_eq_false (by have : P.M = 1048576 := rfl; rw [Lib.byteCells_length]; omega)
  obtain ⟨wA, hwA⟩ : ∃ wA, wA = w.alloc (.cells #[.int .i64 5, .int .i64 f1, .int .u64 f2, .string f3, .int .i64 f4, .slice (some ⟨g, 0, none⟩) 1 c] 93) := ⟨_, rfl⟩
  have hbA : Below w.heap.size w wA := by rw [hwA]; exact below_alloc (Below.refl _ _) _
  have HWA := Aside0.mk (hW.below hbA)
  have HTA := Aside0.mk (hT.step (Fw.of_below (b := b) hbA hW.base).below)
  have HKA := Aside0.mk (hK.below hbA)
  have HFA := Aside0.mk (Fw.of_below (b := b) hbA hW.base)
  have HE := Aside0.mk hwA
  have HSZ : Aside0 (wA.heap.size = w.heap.size + 1) := ⟨by rw [hwA]; simp⟩
  clear hM hW hK hT hwA hbA
  go_enter Tryd.func33, Tryd.ntmps33
  go_wp2_with fail
  rw [← HE.out]
  refine (Bd.len_calls B b _ wA HWA.out.isW).mono ?_
  rintro e w1 ⟨rfl, hw1⟩
  subst hw1
  rw [HE.out]
  go_wp2_with fail
  rw [← HE.out, ← HSZ.out]
  refine (say_lit w1 [⟨#[45]⟩] 1 rfl HWA.out (by simp) (by intro p hp; rw [List.mem_singleton] at hp; subst hp; decide)).mono ?_
  rintro e w2 ⟨rfl, r2, hW2, hr2, hf2⟩
  have HW2 := Aside0.mk hW2
  have HR2 := Aside0.mk hr2
  have HF2 := Aside0.mk hf2
  clear hW2 hr2 hf2
  have HK2 := Aside0.mk (HKA.out.fw HWA.out HF2.out)
  obtain ⟨x0, hx0, hc0⟩ := HK2.out.at 0 (by simp)
  have HX0 := Aside0.mk hx0
  have q0 : w2.cell? ⟨g, 0, none⟩ = some (.int .i64 x0.n.f0) := hc0 0 _ rfl
  have q1 : w2.cell? ⟨g, 1, none⟩ = some (.int .i64 x0.n.f1) := hc0 1 _ rfl
  have q2 : w2.cell? ⟨g, 2, none⟩ = some (.int .u64 x0.n.f2) := hc0 2 _ rfl
  have q3 : w2.cell? ⟨g, 3, none⟩ = some (.string x0.n.f3) := hc0 3 _ rfl
  have q4 : w2.cell? ⟨g, 4, none⟩ = some (.int .i64 x0.n.f4) := hc0 4 _ rfl
  have q5 : w2.cell? ⟨g, 5, none⟩ = some (.slice x0.s.A x0.s.n x0.s.c) := hc0 5 _ rfl
  have hbx := HF2.out.blk HWA.out (show w1.heap[w.heap.size]? = some (.cells #[.int .i64 5, .int .i64 f1, .int .u64 f2, .string f3, .int .i64 f4, .slice (some ⟨g, 0, none⟩) 1 c] 93 (0, 0)) from by rw [HE.out]; exact blk_new _ _) (by decide) (by decide)
  have y5 := (blk_cell hbx 5).trans rfl
  clear hx0 hc0 hbx
  go_wp2_with fail
  refine (H0.out w2 x0 r2 HW2.out HX0.out (HTA.out.step HF2.out.below)).mono ?_
  rintro e w3 ⟨rfl, r3, hW3, hr3, hf3⟩
  have HW3 := Aside0.mk hW3
  have HR3 := Aside0.mk hr3
  have HF3 := Aside0.mk (HF2.out.trans hf3)
  clear hW3 hr3 hf3
  go_wp2
  go_end0
  refine ⟨rfl, r3, HW3.out, ?_, HFA.out.trans HF3.out⟩
  have h := HR2.out.trans HR3.out
  rw [one_piece] at h
  exact h
set_option maxHeartbeats 4000000 in
set_option maxRecDepth 100000 in
theorem e6_ok {B b : Nat} {bs : List UInt8} (w : World) (f1 f2 : Int) (f3 : ByteArray) (f4 : Int) (s : Sl) (ks : List Tr) (xs : List TV) (hW : Wr w B b bs) (hM : bs.length ≤ P.M) (hK : Kids w ks s xs) (hT : U.Tab B w) (k0 k1 : Tr) (hks : ks = [k0, k1]) (h0 : ExprOk B b k0) (h1 : ExprOk B b k1) :
    Calls Tryd.prog 33 #[.pointer (some ⟨b, 0, none⟩), .agg #[.int .i64 6, .int .i64 f1, .int .u64 f2, .string f3, .int .i64 f4, .slice s.A s.n s.c]] w fun e w' => e = .returned (.tuple #[]) ∧ ∃ r, Wr w' B b r ∧ Wrote bs (txN ⟨6, f1, f2, f3, f4⟩ (txs ks)) r ∧ Fw B b w w' := by
  subst hks
  obtain ⟨g, c, hs⟩ := hK.some (by simp)
  subst hs
  have H0 := Aside0.mk h0
  have H1 := Aside0.mk h1
  clear h0 h1
  have hd : decide (1048576 < (((Lib.byteCells bs).length : Nat) : Int)) = false := decide_eq_false (by have : P.M = 1048576 := rfl; rw [Lib.byteCells_length]; omega)
  obtain ⟨wA, hwA⟩ : ∃ wA, wA = w.alloc (.cells #[.int .i64 6, .int .i64 f1, .int .u64 f2, .string f3, .int .i64 f4, .slice (some ⟨g, 0, none⟩) 2 c] 93) := ⟨_, rfl⟩
  have hbA : Below w.heap.size w wA := by rw [hwA]; exact below_alloc (Below.refl _ _) _
  have HWA := Aside0.mk (hW.below hbA)
  have HTA := Aside0.mk (hT.step (Fw.of_below (b := b) hbA hW.base).below)
  have HKA := Aside0.mk (hK.below hbA)
  have HFA := Aside0.mk (Fw.of_below (b := b) hbA hW.base)
  have HE := Aside0.mk hwA
  have HSZ : Aside0 (wA.heap.size = w.heap.size + 1) := ⟨by rw [hwA]; simp⟩
  clear hM hW hK hT hwA hbA
  go_enter Tryd.func33, Tryd.ntmps33
  go_wp2_with fail
  rw [← HE.out]
  refine (Bd.len_calls B b _ wA HWA.out.isW).mono ?_
  rintro e w1 ⟨rfl, hw1⟩
  subst hw1
  rw [HE.out]
  go_wp2_with fail
  rw [← HE.out]
  refine (between_calls w1 ⟨#[43]⟩ k0 k1 g c xs (by decide) HWA.out HKA.out HTA.out H0.out H1.out).mono ?_
  rintro e w2 ⟨rfl, r2, hW2, hr2, hf2⟩
  have HW2 := Aside0.mk hW2
  have HR2 := Aside0.mk hr2
  have HF2 := Aside0.mk hf2
  clear hW2 hr2 hf2
  go_wp2
  go_end0
  exact ⟨rfl, r2, HW2.out, HR2.out, HFA.out.trans HF2.out⟩
set_option maxHeartbeats 4000000 in
set_option maxRecDepth 100000 in
theorem e7_ok {B b : Nat} {bs : List UInt8} (w : World) (f1 f2 : Int) (f3 : ByteArray) (f4 : Int) (s : Sl) (ks : List Tr) (xs : List TV) (hW : Wr w B b bs) (hM : bs.length ≤ P.M) (hK : Kids w ks s xs) (hT : U.Tab B w) (k0 k1 : Tr) (hks : ks = [k0, k1]) (h0 : ExprOk B b k0) (h1 : ExprOk B b k1) :
    Calls Tryd.prog 33 #[.pointer (some ⟨b, 0, none⟩), .agg #[.int .i64 7, .int .i64 f1, .int .u64 f2, .string f3, .int .i64 f4, .slice s.A s.n s.c]] w fun e w' => e = .returned (.tuple #[]) ∧ ∃ r, Wr w' B b r ∧ Wrote bs (txN ⟨7, f1, f2, f3, f4⟩ (txs ks)) r ∧ Fw B b w w' := by
  subst hks
  obtain ⟨g, c, hs⟩ := hK.some (by simp)
  subst hs
  have H0 := Aside0.mk h0
  have H1 := Aside0.mk h1
  clear h0 h1
  have hd : decide (1048576 < (((Lib.byteCells bs).length : Nat) : Int)) = false := decide_eq_false (by have : P.M = 1048576 := rfl; rw [Lib.byteCells_length]; omega)
  obtain ⟨wA, hwA⟩ : ∃ wA, wA = w.alloc (.cells #[.int .i64 7, .int .i64 f1, .int .u64 f2, .string f3, .int .i64 f4, .slice (some ⟨g, 0, none⟩) 2 c] 93) := ⟨_, rfl⟩
  have hbA : Below w.heap.size w wA := by rw [hwA]; exact below_alloc (Below.refl _ _) _
  have HWA := Aside0.mk (hW.below hbA)
  have HTA := Aside0.mk (hT.step (Fw.of_below (b := b) hbA hW.base).below)
  have HKA := Aside0.mk (hK.below hbA)
  have HFA := Aside0.mk (Fw.of_below (b := b) hbA hW.base)
  have HE := Aside0.mk hwA
  have HSZ : Aside0 (wA.heap.size = w.heap.size + 1) := ⟨by rw [hwA]; simp⟩
  clear hM hW hK hT hwA hbA
  go_enter Tryd.func33, Tryd.ntmps33
  go_wp2_with fail
  rw [← HE.out]
  refine (Bd.len_calls B b _ wA HWA.out.isW).mono ?_
  rintro e w1 ⟨rfl, hw1⟩
  subst hw1
  rw [HE.out]
  go_wp2_with fail
  rw [← HE.out]
  refine (between_calls w1 ⟨#[45]⟩ k0 k1 g c xs (by decide) HWA.out HKA.out HTA.out H0.out H1.out).mono ?_
  rintro e w2 ⟨rfl, r2, hW2, hr2, hf2⟩
  have HW2 := Aside0.mk hW2
  have HR2 := Aside0.mk hr2
  have HF2 := Aside0.mk hf2
  clear hW2 hr2 hf2
  go_wp2
  go_end0
  exact ⟨rfl, r2, HW2.out, HR2.out, HFA.out.trans HF2.out⟩
set_option maxHeartbeats 4000000 in
set_option maxRecDepth 100000 in
theorem e8_ok {B b : Nat} {bs : List UInt8} (w : World) (f1 f2 : Int) (f3 : ByteArray) (f4 : Int) (s : Sl) (ks : List Tr) (xs : List TV) (hW : Wr w B b bs) (hM : bs.length ≤ P.M) (hK : Kids w ks s xs) (hT : U.Tab B w) (k0 k1 : Tr) (hks : ks = [k0, k1]) (h0 : ExprOk B b k0) (h1 : ExprOk B b k1) :
    Calls Tryd.prog 33 #[.pointer (some ⟨b, 0, none⟩), .agg #[.int .i64 8, .int .i64 f1, .int .u64 f2, .string f3, .int .i64 f4, .slice s.A s.n s.c]] w fun e w' => e = .returned (.tuple #[]) ∧ ∃ r, Wr w' B b r ∧ Wrote bs (txN ⟨8, f1, f2, f3, f4⟩ (txs ks)) r ∧ Fw B b w w' := by
  subst hks
  obtain ⟨g, c, hs⟩ := hK.some (by simp)
  subst hs
  have H0 := Aside0.mk h0
  have H1 := Aside0.mk h1
  clear h0 h1
  have hd : decide (1048576 < (((Lib.byteCells bs).length : Nat) : Int)) = false := decide_eq_false (by have : P.M = 1048576 := rfl; rw [Lib.byteCells_length]; omega)
  obtain ⟨wA, hwA⟩ : ∃ wA, wA = w.alloc (.cells #[.int .i64 8, .int .i64 f1, .int .u64 f2, .string f3, .int .i64 f4, .slice (some ⟨g, 0, none⟩) 2 c] 93) := ⟨_, rfl⟩
  have hbA : Below w.heap.size w wA := by rw [hwA]; exact below_alloc (Below.refl _ _) _
  have HWA := Aside0.mk (hW.below hbA)
  have HTA := Aside0.mk (hT.step (Fw.of_below (b := b) hbA hW.base).below)
  have HKA := Aside0.mk (hK.below hbA)
  have HFA := Aside0.mk (Fw.of_below (b := b) hbA hW.base)
  have HE := Aside0.mk hwA
  have HSZ : Aside0 (wA.heap.size = w.heap.size + 1) := ⟨by rw [hwA]; simp⟩
  clear hM hW hK hT hwA hbA
  go_enter Tryd.func33, Tryd.ntmps33
  go_wp2_with fail
  rw [← HE.out]
  refine (Bd.len_calls B b _ wA HWA.out.isW).mono ?_
  rintro e w1 ⟨rfl, hw1⟩
  subst hw1
  rw [HE.out]
  go_wp2_with fail
  rw [← HE.out]
  refine (between_calls w1 ⟨#[42]⟩ k0 k1 g c xs (by decide) HWA.out HKA.out HTA.out H0.out H1.out).mono ?_
  rintro e w2 ⟨rfl, r2, hW2, hr2, hf2⟩
  have HW2 := Aside0.mk hW2
  have HR2 := Aside0.mk hr2
  have HF2 := Aside0.mk hf2
  clear hW2 hr2 hf2
  go_wp2
  go_end0
  exact ⟨rfl, r2, HW2.out, HR2.out, HFA.out.trans HF2.out⟩
set_option maxHeartbeats 4000000 in
set_option maxRecDepth 100000 in
theorem e9_ok {B b : Nat} {bs : List UInt8} (w : World) (f1 f2 : Int) (f3 : ByteArray) (f4 : Int) (s : Sl) (ks : List Tr) (xs : List TV) (hW : Wr w B b bs) (hM : bs.length ≤ P.M) (hK : Kids w ks s xs) (hT : U.Tab B w) (hks : ks ≠ []) (hE : ∀ t, t ∈ ks → ExprOk B b t) :
    Calls Tryd.prog 33 #[.pointer (some ⟨b, 0, none⟩), .agg #[.int .i64 9, .int .i64 f1, .int .u64 f2, .string f3, .int .i64 f4, .slice s.A s.n s.c]] w fun e w' => e = .returned (.tuple #[]) ∧ ∃ r, Wr w' B b r ∧ Wrote bs (txN ⟨9, f1, f2, f3, f4⟩ (txs ks)) r ∧ Fw B b w w' := by
  obtain ⟨g, c, hs⟩ := hK.some hks
  subst hs
  have HKS := Aside0.mk hks
  have HEA := Aside0.mk hE
  have HMX := Aside0.mk hK.max
  clear hks hE
  have hd : decide (1048576 < (((Lib.byteCells bs).length : Nat) : Int)) = false := decide_eq_false (by have : P.M = 1048576 := rfl; rw [Lib.byteCells_length]; omega)
  obtain ⟨wA, hwA⟩ : ∃ wA, wA = w.alloc (.cells #[.int .i64 9, .int .i64 f1, .int .u64 f2, .string f3, .int .i64 f4, .slice (some ⟨g, 0, none⟩) ks.length c] 93) := ⟨_, rfl⟩
  have hbA : Below w.heap.size w wA := by rw [hwA]; exact below_alloc (Below.refl _ _) _
  have HWA := Aside0.mk (hW.below hbA)
  have HTA := Aside0.mk (hT.step (Fw.of_below (b := b) hbA hW.base).below)
  have HKA := Aside0.mk (hK.below hbA)
  have HFA := Aside0.mk (Fw.of_below (b := b) hbA hW.base)
  have HE := Aside0.mk hwA
  have HSZ : Aside0 (wA.heap.size = w.heap.size + 1) := ⟨by rw [hwA]; simp⟩
  clear hM hW hK hT hwA hbA
  go_enter Tryd.func33, Tryd.ntmps33
  go_wp2_with fail
  rw [← HE.out]
  refine (Bd.len_calls B b _ wA HWA.out.isW).mono ?_
  rintro e w1 ⟨rfl, hw1⟩
  subst hw1
  rw [HE.out]
  go_wp2_with fail
  rw [← HE.out]
  refine (call_calls w1 ⟨#[99, 97, 116]⟩ ks g c xs (by decide) HKS.out HMX.out HWA.out HKA.out HTA.out HEA.out).mono ?_
  rintro e w2 ⟨rfl, r2, hW2, hr2, hf2⟩
  have HW2 := Aside0.mk hW2
  have HR2 := Aside0.mk hr2
  have HF2 := Aside0.mk hf2
  clear hW2 hr2 hf2
  go_wp2
  go_end0
  exact ⟨rfl, r2, HW2.out, HR2.out, HFA.out.trans HF2.out⟩
set_option maxHeartbeats 4000000 in
set_option maxRecDepth 100000 in
theorem e10_ok {B b : Nat} {bs : List UInt8} (w : World) (f1 f2 : Int) (f3 : ByteArray) (f4 : Int) (s : Sl) (ks : List Tr) (xs : List TV) (hW : Wr w B b bs) (hM : bs.length ≤ P.M) (hK : Kids w ks s xs) (hT : U.Tab B w) (hks : ks ≠ []) (hE : ∀ t, t ∈ ks → ExprOk B b t) :
    Calls Tryd.prog 33 #[.pointer (some ⟨b, 0, none⟩), .agg #[.int .i64 10, .int .i64 f1, .int .u64 f2, .string f3, .int .i64 f4, .slice s.A s.n s.c]] w fun e w' => e = .returned (.tuple #[]) ∧ ∃ r, Wr w' B b r ∧ Wrote bs (txN ⟨10, f1, f2, f3, f4⟩ (txs ks)) r ∧ Fw B b w w' := by
  obtain ⟨g, c, hs⟩ := hK.some hks
  subst hs
  have HKS := Aside0.mk hks
  have HEA := Aside0.mk hE
  have HMX := Aside0.mk hK.max
  clear hks hE
  have hd : decide (1048576 < (((Lib.byteCells bs).length : Nat) : Int)) = false := decide_eq_false (by have : P.M = 1048576 := rfl; rw [Lib.byteCells_length]; omega)
  obtain ⟨wA, hwA⟩ : ∃ wA, wA = w.alloc (.cells #[.int .i64 10, .int .i64 f1, .int .u64 f2, .string f3, .int .i64 f4, .slice (some ⟨g, 0, none⟩) ks.length c] 93) := ⟨_, rfl⟩
  have hbA : Below w.heap.size w wA := by rw [hwA]; exact below_alloc (Below.refl _ _) _
  have HWA := Aside0.mk (hW.below hbA)
  have HTA := Aside0.mk (hT.step (Fw.of_below (b := b) hbA hW.base).below)
  have HKA := Aside0.mk (hK.below hbA)
  have HFA := Aside0.mk (Fw.of_below (b := b) hbA hW.base)
  have HE := Aside0.mk hwA
  have HSZ : Aside0 (wA.heap.size = w.heap.size + 1) := ⟨by rw [hwA]; simp⟩
  clear hM hW hK hT hwA hbA
  go_enter Tryd.func33, Tryd.ntmps33
  go_wp2_with fail
  rw [← HE.out]
  refine (Bd.len_calls B b _ wA HWA.out.isW).mono ?_
  rintro e w1 ⟨rfl, hw1⟩
  subst hw1
  rw [HE.out]
  go_wp2_with fail
  rw [← HE.out]
  refine (call_calls w1 ⟨#[114, 101, 112]⟩ ks g c xs (by decide) HKS.out HMX.out HWA.out HKA.out HTA.out HEA.out).mono ?_
  rintro e w2 ⟨rfl, r2, hW2, hr2, hf2⟩
  have HW2 := Aside0.mk hW2
  have HR2 := Aside0.mk hr2
  have HF2 := Aside0.mk hf2
  clear hW2 hr2 hf2
  go_wp2
  go_end0
  exact ⟨rfl, r2, HW2.out, HR2.out, HFA.out.trans HF2.out⟩
set_option maxHeartbeats 4000000 in
set_option maxRecDepth 100000 in
theorem e11_ok {B b : Nat} {bs : List UInt8} (w : World) (f1 f2 : Int) (f3 : ByteArray) (f4 : Int) (s : Sl) (ks : List Tr) (xs : List TV) (hW : Wr w B b bs) (hM : bs.length ≤ P.M) (hK : Kids w ks s xs) (hT : U.Tab B w) (hks : ks ≠ []) (hE : ∀ t, t ∈ ks → ExprOk B b t) :
    Calls Tryd.prog 33 #[.pointer (some ⟨b, 0, none⟩), .agg #[.int .i64 11, .int .i64 f1, .int .u64 f2, .string f3, .int .i64 f4, .slice s.A s.n s.c]] w fun e w' => e = .returned (.tuple #[]) ∧ ∃ r, Wr w' B b r ∧ Wrote bs (txN ⟨11, f1, f2, f3, f4⟩ (txs ks)) r ∧ Fw B b w w' := by
  obtain ⟨g, c, hs⟩ := hK.some hks
  subst hs
  have HKS := Aside0.mk hks
  have HEA := Aside0.mk hE
  have HMX := Aside0.mk hK.max
  clear hks hE
  have hd : decide (1048576 < (((Lib.byteCells bs).length : Nat) : Int)) = false := decide_eq_false (by have : P.M = 1048576 := rfl; rw [Lib.byteCells_length]; omega)
  obtain ⟨wA, hwA⟩ : ∃ wA, wA = w.alloc (.cells #[.int .i64 11, .int .i64 f1, .int .u64 f2, .string f3, .int .i64 f4, .slice (some ⟨g, 0, none⟩) ks.length c] 93) := ⟨_, rfl⟩
  have hbA : Below w.heap.size w wA := by rw [hwA]; exact below_alloc (Below.refl _ _) _
  have HWA := Aside0.mk (hW.below hbA)
  have HTA := Aside0.mk (hT.step (Fw.of_below (b := b) hbA hW.base).below)
  have HKA := Aside0.mk (hK.below hbA)
  have HFA := Aside0.mk (Fw.of_below (b := b) hbA hW.base)
  have HE := Aside0.mk hwA
  have HSZ : Aside0 (wA.heap.size = w.heap.size + 1) := ⟨by rw [hwA]; simp⟩
  clear hM hW hK hT hwA hbA
  go_enter Tryd.func33, Tryd.ntmps33
  go_wp2_with fail
  rw [← HE.out]
  refine (Bd.len_calls B b _ wA HWA.out.isW).mono ?_
  rintro e w1 ⟨rfl, hw1⟩
  subst hw1
  rw [HE.out]
  go_wp2_with fail
  rw [← HE.out]
  refine (call_calls w1 ⟨#[108, 101, 110]⟩ ks g c xs (by decide) HKS.out HMX.out HWA.out HKA.out HTA.out HEA.out).mono ?_
  rintro e w2 ⟨rfl, r2, hW2, hr2, hf2⟩
  have HW2 := Aside0.mk hW2
  have HR2 := Aside0.mk hr2
  have HF2 := Aside0.mk hf2
  clear hW2 hr2 hf2
  go_wp2
  go_end0
  exact ⟨rfl, r2, HW2.out, HR2.out, HFA.out.trans HF2.out⟩
set_option maxHeartbeats 4000000 in
set_option maxRecDepth 100000 in
theorem e12_ok {B b : Nat} {bs : List UInt8} (w : World) (f1 f2 : Int) (f3 : ByteArray) (f4 : Int) (s : Sl) (ks : List Tr) (xs : List TV) (hW : Wr w B b bs) (hM : bs.length ≤ P.M) (hK : Kids w ks s xs) (hT : U.Tab B w) (hks : ks ≠ []) (hE : ∀ t, t ∈ ks → ExprOk B b t) :
    Calls Tryd.prog 33 #[.pointer (some ⟨b, 0, none⟩), .agg #[.int .i64 12, .int .i64 f1, .int .u64 f2, .string f3, .int .i64 f4, .slice s.A s.n s.c]] w fun e w' => e = .returned (.tuple #[]) ∧ ∃ r, Wr w' B b r ∧ Wrote bs (txN ⟨12, f1, f2, f3, f4⟩ (txs ks)) r ∧ Fw B b w w' := by
  obtain ⟨g, c, hs⟩ := hK.some hks
  subst hs
  have HKS := Aside0.mk hks
  have HEA := Aside0.mk hE
  have HMX := Aside0.mk hK.max
  clear hks hE
  have hd : decide (1048576 < (((Lib.byteCells bs).length : Nat) : Int)) = false := decide_eq_false (by have : P.M = 1048576 := rfl; rw [Lib.byteCells_length]; omega)
  obtain ⟨wA, hwA⟩ : ∃ wA, wA = w.alloc (.cells #[.int .i64 12, .int .i64 f1, .int .u64 f2, .string f3, .int .i64 f4, .slice (some ⟨g, 0, none⟩) ks.length c] 93) := ⟨_, rfl⟩
  have hbA : Below w.heap.size w wA := by rw [hwA]; exact below_alloc (Below.refl _ _) _
  have HWA := Aside0.mk (hW.below hbA)
  have HTA := Aside0.mk (hT.step (Fw.of_below (b := b) hbA hW.base).below)
  have HKA := Aside0.mk (hK.below hbA)
  have HFA := Aside0.mk (Fw.of_below (b := b) hbA hW.base)
  have HE := Aside0.mk hwA
  have HSZ : Aside0 (wA.heap.size = w.heap.size + 1) := ⟨by rw [hwA]; simp⟩
  clear hM hW hK hT hwA hbA
  go_enter Tryd.func33, Tryd.ntmps33
  go_wp2_with fail
  rw [← HE.out]
  refine (Bd.len_calls B b _ wA HWA.out.isW).mono ?_
  rintro e w1 ⟨rfl, hw1⟩
  subst hw1
  rw [HE.out]
  go_wp2_with fail
  rw [← HE.out]
  refine (call_calls w1 ⟨#[104, 101, 120]⟩ ks g c xs (by decide) HKS.out HMX.out HWA.out HKA.out HTA.out HEA.out).mono ?_
  rintro e w2 ⟨rfl, r2, hW2, hr2, hf2⟩
  have HW2 := Aside0.mk hW2
  have HR2 := Aside0.mk hr2
  have HF2 := Aside0.mk hf2
  clear hW2 hr2 hf2
  go_wp2
  go_end0
  exact ⟨rfl, r2, HW2.out, HR2.out, HFA.out.trans HF2.out⟩
theorem expr_ok {B b : Nat} : ∀ (d : Nat) (t : Tr), dep t ≤ d → WF t → ExprOk B b t := by
  intro d
  induction d with
  | zero => intro t h; obtain ⟨n, ks⟩ := t; rw [dep] at h; omega
  | succ d ih =>
    intro t hd hwf w x bs hW hI hT
    obtain ⟨n, ks⟩ := t
    obtain ⟨xs, hx, hK⟩ := hI.inv
    obtain ⟨⟨f0, f1, f2, f3, f4⟩, s⟩ := x
    simp only at hx hK
    subst hx
    cases hwf with
    | mk _ _ hk hr hws =>
    have hkid : ∀ t, t ∈ ks → ExprOk B b t := fun t ht => ih t (by have := P.dep_le_mx ht; rw [dep] at hd; omega) (hws t ht)
    by_cases hM : bs.length ≤ P.M
    · rcases P.kd_op hk with ⟨h0, h1⟩ | ⟨h0, h1⟩ | ⟨h0, h1⟩ | ⟨h0, h1, _⟩
      · simp only at h1
        rcases h1 with rfl | rfl | rfl | rfl
        · exact e1_ok w f1 f2 f3 f4 s ks xs hW hM hK hT hr
        · exact e2_ok w f1 f2 f3 f4 s ks xs hW hM hK hT
        · exact e3_ok w f1 f2 f3 f4 s ks xs hW hM hK hT
        · exact e4_ok w f1 f2 f3 f4 s ks xs hW hM hK hT
      · simp only at h1
        match ks, h0 with
        | [k0], _ =>
        rcases h1 with rfl | rfl | rfl
        · exact e5_ok w f1 f2 f3 f4 s [k0] xs hW hM hK hT k0 rfl (hkid k0 (by simp))
        · exact e11_ok w f1 f2 f3 f4 s [k0] xs hW hM hK hT (by simp) hkid
        · exact e12_ok w f1 f2 f3 f4 s [k0] xs hW hM hK hT (by simp) hkid
      · simp only at h1
        match ks, h0 with
        | [k0, k1], _ =>
        rcases h1 with rfl | rfl | rfl | rfl
        · exact e6_ok w f1 f2 f3 f4 s [k0, k1] xs hW hM hK hT k0 k1 rfl (hkid k0 (by simp)) (hkid k1 (by simp))
        · exact e7_ok w f1 f2 f3 f4 s [k0, k1] xs hW hM hK hT k0 k1 rfl (hkid k0 (by simp)) (hkid k1 (by simp))
        · exact e8_ok w f1 f2 f3 f4 s [k0, k1] xs hW hM hK hT k0 k1 rfl (hkid k0 (by simp)) (hkid k1 (by simp))
        · exact e10_ok w f1 f2 f3 f4 s [k0, k1] xs hW hM hK hT (by simp) hkid
      · simp only at h1
        subst h1
        exact e9_ok w f1 f2 f3 f4 s ks xs hW hM hK hT (by intro e; rw [e] at h0; simp at h0) hkid
    · exact e0_ok w f0 f1 f2 f3 f4 s (tx (.mk ⟨f0, f1, f2, f3, f4⟩ ks)) hW hM
end Go.Proofs.YtaijoghpfobdbaaDoor.W
end
section
set_option linter.unusedVariables false
set_option linter.unusedSimpArgs false
namespace Go.Proofs.YtaijoghpfobdbaaDoor.W
open Go.RowKit Go.Proofs.YtaijoghpfobdbaaDoor.X Go.Proofs.YtaijoghpfobdbaaDoorW.PrintWords Go.Proofs.YtaijoghpfobdbaaDoorW.PrintLast Go.Proofs.YtaijoghpfobdbaaDoorW.PrintMore
open Go.Proofs.YtaijoghpfobdbaaDoor.P (Tr Nd Wrote puts put fin kv kd sg build dep dmx pile judgeE tx txs txN sepL WF)
def finT (s : List UInt8) : ByteArray × Int := if P.M < s.length then (⟨#[]⟩, 2) else (⟨s.toArray⟩, 0)
theorem fin_T {s r : List UInt8} (h : Wrote [] s r) : fin r = finT s := by
  unfold finT
  rcases h with ⟨h1, rfl⟩ | ⟨h1, h2⟩
  · rw [List.nil_append] at *
    unfold fin
    rfl
  · rw [List.nil_append] at h1
    unfold fin
    rw [if_pos h2, if_pos h1]
def valE (ns : List Nd) : ByteArray × Int :=
  match build ns [] with
  | some [t] => if 100 < dep t then (⟨#[]⟩, 91) else finT (tx t)
  | _ => (⟨#[]⟩, 1)
def Rng (ns : List Nd) : Prop := ∀ n, n ∈ ns → 0 ≤ n.f2 ∧ n.f2 < 18446744073709551616
theorem valE_one {ns : List Nd} {t : Tr} (h : build ns [] = some [t]) : valE ns = if 100 < dep t then (⟨#[]⟩, 91) else finT (tx t) := by unfold valE; rw [h]
theorem valE_none {ns : List Nd} (h : ¬ ∃ t, build ns [] = some [t]) : valE ns = (⟨#[]⟩, 1) := by
  unfold valE
  split
  · rename_i t ht; exact absurd ⟨t, ht⟩ h
  · rfl
theorem judgeE_one {ns : List Nd} {t : Tr} (h : build ns [] = some [t]) : judgeE ns = if 100 < dep t then 91 else 0 := by unfold judgeE; rw [h]
theorem judgeE_none {ns : List Nd} (h : ¬ ∃ t, build ns [] = some [t]) : judgeE ns = 1 := by
  unfold judgeE
  split
  · rename_i t ht; exact absurd ⟨t, ht⟩ h
  · rfl
theorem judge_zero {ns : List Nd} (h : judgeE ns = 0) : ∃ t, build ns [] = some [t] ∧ valE ns = finT (tx t) := by
  by_cases hx : ∃ t, build ns [] = some [t]
  · obtain ⟨t, ht⟩ := hx
    refine ⟨t, ht, ?_⟩
    rw [judgeE_one ht] at h
    rw [valE_one ht]
    by_cases hd : 100 < dep t
    · rw [if_pos hd] at h; cases h
    · rw [if_neg hd]
  · rw [judgeE_none hx] at h; cases h
theorem judge_not {ns : List Nd} (h : judgeE ns ≠ 0) : valE ns = (⟨#[]⟩, judgeE ns) := by
  by_cases hx : ∃ t, build ns [] = some [t]
  · obtain ⟨t, ht⟩ := hx
    rw [judgeE_one ht] at h ⊢
    rw [valE_one ht]
    by_cases hd : 100 < dep t
    · rw [if_pos hd, if_pos hd]
    · rw [if_neg hd] at h; exact absurd rfl h
  · rw [judgeE_none hx, valE_none hx]
theorem Tab.high {B B' : Nat} {w : World} (h : U.Tab B w) (hb : B ≤ B') : U.Tab B' w := ⟨fun w' k => h.out w' (Below.lowr k hb)⟩
theorem fresh_w (w : World) : Wr (w.alloc (.cells #[.pointer none, .slice none 0 0] 74)) w.heap.size w.heap.size [] :=
  ⟨Lib.fresh_isBuilder _ _ w, by simp, by simp⟩
set_option maxHeartbeats 4000000 in
set_option maxRecDepth 100000 in
theorem value_calls (w : World) (A : Option Addr) (c : Nat) (ns : List Nd) (hC : Kd.C k46 w A ns.length ns) (hns : ns.length ≤ 1099511627776) (hr : Rng ns) (hT : U.Tab w.heap.size w) :
    Calls Tryd.prog 14 #[.slice A ns.length c] w fun e w' => e = .returned (.tuple #[.string (valE ns).1, .int .i64 (valE ns).2]) ∧ Below w.heap.size w w' := by
  have HC := Aside0.mk hC
  have HN := Aside0.mk hns
  have HR := Aside0.mk hr
  have HT := Aside0.mk hT
  clear hC hns hr hT
  obtain ⟨j, hj⟩ : ∃ j, j = judgeE ns := ⟨_, rfl⟩
  have HJ := Aside0.mk (judge_calls w A c ns HC.out (by have := HN.out; omega))
  rw [← hj] at HJ
  by_cases h0 : j = 0
  · subst h0
    obtain ⟨t, hb, hv⟩ := judge_zero hj.symm
    have HB := Aside0.mk hb
    have HV := Aside0.mk hv
    have HWF := Aside0.mk (P.build_wf hb HR.out (by simp) t (by simp))
    clear hj hb hv
    go_enter Tryd.func14, Tryd.ntmps14
    go_wp2_with fail
    refine HJ.out.mono ?_
    rintro e w1 ⟨rfl, hb1⟩
    have HB1 := Aside0.mk hb1
    obtain ⟨w2, hw2⟩ : ∃ w2, w2 = w1.alloc (.cells #[.pointer none, .slice none 0 0] 74) := ⟨_, rfl⟩
    have hb2 : Below w1.heap.size w1 w2 := by rw [hw2]; exact below_alloc (Below.refl _ _) _
    have HB2 := Aside0.mk (below_step hb1 hb2)
    have HW2 : Aside0 (Wr w2 w1.heap.size w1.heap.size []) := ⟨by rw [hw2]; exact fresh_w w1⟩
    have HE2 := Aside0.mk hw2
    have HB12 := Aside0.mk hb2
    clear hb1 hb2 hw2
    go_wp2_with fail
    rw [← HE2.out]
    refine (grown_calls w2 A c ns t (Kd.C_below HC.out HB2.out) HN.out HB.out).mono ?_
    rintro e w3 ⟨x, rfl, hi, hb3⟩
    have HI3 := Aside0.mk (hi.move (ok' := fun _ => True) (fun g cur _ _ => ⟨rfl, trivial⟩))
    have HW3 := Aside0.mk (HW2.out.below hb3)
    have HB3 := Aside0.mk (below_step HB2.out hb3)
    have HB13 := Aside0.mk (below_step HB12.out hb3)
    clear hi hb3
    go_wp2_with fail
    refine (expr_ok (dep t) t (Nat.le_refl _) HWF.out w3 x [] HW3.out HI3.out (Tab.high (HT.out.step HB3.out) HB1.out.size)).mono ?_
    rintro e w4 ⟨rfl, r, hW4, hr4, hf4⟩
    have HW4 := Aside0.mk hW4
    have HR4 := Aside0.mk hr4
    have HF4 := Aside0.mk hf4
    clear hW4 hr4 hf4
    go_wp2_with fail
    refine (text_calls w4 HW4.out).mono ?_
    rintro e w5 ⟨rfl, hb5⟩
    have HB5 := Aside0.mk hb5
    have HFI : Aside0 (fin r = valE ns) := ⟨by rw [HV.out]; exact fin_T HR4.out⟩
    rw [HFI.out]
    clear hb5
    go_wp2
    go_ret2
    refine ⟨rfl, ?_⟩
    have h1 := Below.lowr (HF4.out.below.trans HB5.out) HB1.out.size
    exact HB3.out.trans h1
  · have HV := Aside0.mk (judge_not (by rw [← hj]; exact h0))
    rw [← hj] at HV
    have c1 : (j != 0) = true := bne_iff_ne.2 h0
    clear hj h0
    go_enter Tryd.func14, Tryd.ntmps14
    go_wp2_with fail
    refine HJ.out.mono ?_
    rintro e w1 ⟨rfl, hb1⟩
    have HB1 := Aside0.mk hb1
    clear hb1
    go_wp2
    go_ret2
    exact ⟨by rw [HV.out]; rfl, HB1.out⟩
end Go.Proofs.YtaijoghpfobdbaaDoor.W
end
section
set_option linter.unusedVariables false
set_option linter.unusedSimpArgs false
namespace Go.Proofs.YtaijoghpfobdbaaDoor.P
open Go.RowKit Go.Proofs.YtaijoghpfobdbaaDoor.X Go.Proofs.YtaijoghpfobdbaaDoorW.PrintWords Go.Proofs.YtaijoghpfobdbaaDoorW.PrintLast
structure StD where
  k : Int
  a : ByteArray
  b : ByteArray
  c : ByteArray
  sep : ByteArray
  ty : ByteArray
  val : List Nd
  pl : Int
structure VeD where
  num : Int
  steps : List StD
  pl : Int
structure EvD where
  name : ByteArray
  vers : List VeD
  pl : Int
def wordList : List ByteArray := [⟨#[101, 118, 101, 110, 116]⟩, ⟨#[118, 101, 114, 115, 105, 111, 110]⟩, ⟨#[97, 100, 100]⟩, ⟨#[114, 101, 110, 97, 109, 101]⟩, ⟨#[115, 112, 108, 105, 116]⟩, ⟨#[106, 111, 105, 110]⟩, ⟨#[114, 101, 116, 121, 112, 101]⟩, ⟨#[100, 114, 111, 112]⟩, ⟨#[116, 111]⟩, ⟨#[97, 116]⟩, ⟨#[105, 110, 116, 111]⟩, ⟨#[119, 105, 116, 104]⟩, ⟨#[116, 114, 117, 101]⟩, ⟨#[102, 97, 108, 115, 101]⟩, ⟨#[99, 97, 116]⟩, ⟨#[114, 101, 112]⟩, ⟨#[108, 101, 110]⟩, ⟨#[104, 101, 120]⟩]
def wordB (s : ByteArray) : Bool := Lib.containsS (wordList.take 18) s
def nameB (s : ByteArray) : Bool := L.Name s.data.toList && !(wordB s)
def emB (s : ByteArray) : Bool := s.toList == []
def noV (d : StD) : Bool := decide (d.val.length = 0)
def goodB (d : StD) : Bool :=
  if d.k = 1 then [d.a, d.ty].all nameB && [d.b, d.c, d.sep].all emB
  else if d.k = 2 then [d.a, d.b].all nameB && emB d.c && (emB d.sep && emB d.ty && noV d)
  else if d.k = 3 ∨ d.k = 4 then [d.a, d.b, d.c].all nameB && emB d.ty && noV d
  else if d.k = 5 then [d.a, d.ty].all nameB && [d.b, d.c, d.sep].all emB && noV d
  else if d.k = 6 then [d.a].all nameB && [d.b, d.c].all emB && (emB d.sep && emB d.ty && noV d)
  else false
def wrs (a b : Int) : Int := if a = 1 ∨ b = 1 then 1 else if a = 91 ∨ b = 91 then 91 else 0
def stE (d : StD) : Int := if goodB d = true then (if d.val.length = 0 then 0 else judgeE d.val) else 1
def allE {α : Type} (f : α → Int) (l : List α) : Int := l.foldl (fun e x => wrs e (f x)) 0
def veE (v : VeD) : Int := allE stE v.steps
def evE (e : EvD) : Int := if nameB e.name = true ∧ e.vers.length ≠ 0 then allE veE e.vers else 1
def wholeE (l : List EvD) : Int := allE evE l
def txV (ns : List Nd) : List UInt8 :=
  match build ns [] with
  | some [t] => tx t
  | _ => []
def lineT (d : StD) : List UInt8 :=
  if d.k = 1 then [97, 100, 100, 32] ++ d.a.data.toList ++ [58, 32] ++ d.ty.data.toList ++ (if d.val.length = 0 then [] else [32, 61, 32] ++ txV d.val)
  else if d.k = 2 then [114, 101, 110, 97, 109, 101, 32] ++ d.a.data.toList ++ [32, 116, 111, 32] ++ d.b.data.toList
  else if d.k = 3 then [115, 112, 108, 105, 116, 32] ++ d.a.data.toList ++ [32, 97, 116, 32] ++ (L.Quote d.sep.data.toList ++ ([32, 105, 110, 116, 111, 32] ++ d.b.data.toList ++ [44, 32] ++ d.c.data.toList))
  else if d.k = 4 then [106, 111, 105, 110, 32] ++ d.a.data.toList ++ [44, 32] ++ d.b.data.toList ++ [32, 119, 105, 116, 104, 32] ++ (L.Quote d.sep.data.toList ++ ([32, 105, 110, 116, 111, 32] ++ d.c.data.toList))
  else if d.k = 5 then [114, 101, 116, 121, 112, 101, 32] ++ d.a.data.toList ++ [32, 116, 111, 32] ++ d.ty.data.toList
  else [100, 114, 111, 112, 32] ++ d.a.data.toList
def stT (d : StD) : List UInt8 := [32, 32, 32, 32] ++ (lineT d ++ [59, 10])
def veT (v : VeD) : List UInt8 := ([32, 32, 118, 101, 114, 115, 105, 111, 110, 32] ++ Lib.decDigits v.num.toNat ++ [32, 123, 10]) ++ (v.steps.flatMap stT ++ [32, 32, 125, 10])
def evT (e : EvD) : List UInt8 := ([101, 118, 101, 110, 116, 32] ++ e.name.data.toList ++ [32, 123, 10]) ++ (e.vers.flatMap veT ++ [125, 10])
def schT (l : List EvD) : List UInt8 := l.flatMap evT
def schE (l : List EvD) : ByteArray × Int := if wholeE l = 0 then W.finT (schT l) else (⟨#[]⟩, wholeE l)
theorem name_size {s : ByteArray} (h : nameB s = true) : s.size ≤ 64 := by
  unfold nameB at h
  rw [Bool.and_eq_true] at h
  have h1 := h.1
  rw [← data_length]
  cases hl : s.data.toList with
  | nil => simp
  | cons b t =>
    rw [hl] at h1
    unfold L.Name at h1
    simp only [Bool.and_eq_true, decide_eq_true_eq] at h1
    exact h1.1.1
def okE (e : Int) : Prop := e = 0 ∨ e = 1 ∨ e = 91
theorem wrs_ok (a b : Int) : okE (wrs a b) := by
  unfold wrs okE
  split
  · exact .inr (.inl rfl)
  · split
    · exact .inr (.inr rfl)
    · exact .inl rfl
theorem judgeE_ok (ns : List Nd) : okE (judgeE ns) := by
  unfold judgeE okE
  split
  · split <;> simp
  · simp
theorem fold_ok {α : Type} (f : α → Int) : ∀ (l : List α) (e : Int), okE e → okE (l.foldl (fun e x => wrs e (f x)) e)
  | [], e, h => h
  | x :: l, e, h => fold_ok f l _ (wrs_ok _ _)
theorem allE_ok {α : Type} (f : α → Int) (l : List α) : okE (allE f l) := fold_ok f l 0 (.inl rfl)
theorem allE_snoc {α : Type} (f : α → Int) (l : List α) (x : α) : allE f (l ++ [x]) = wrs (allE f l) (f x) := by unfold allE; rw [List.foldl_append]; rfl
theorem allE_one {α : Type} (f : α → Int) : ∀ (l m : List α), allE f l = 1 → allE f (l ++ m) = 1
  | l, [], h => by rw [List.append_nil]; exact h
  | l, x :: m, h => by
    rw [show l ++ x :: m = (l ++ [x]) ++ m by simp]
    exact allE_one f _ m (by rw [allE_snoc, h]; rfl)
theorem allE_bad {α : Type} (f : α → Int) (l : List α) (i : Nat) (hi : i < l.length) (h : f l[i] = 1) : allE f l = 1 := by
  have e : l = (l.take i ++ [l[i]]) ++ l.drop (i + 1) := by
    rw [List.append_assoc, List.singleton_append, ← List.drop_eq_getElem_cons hi, List.take_append_drop]
  have h2 : allE f (l.take i ++ [l[i]]) = 1 := by rw [allE_snoc, h]; unfold wrs; rw [if_pos (.inr rfl)]
  rw [e]
  exact allE_one f _ _ h2
theorem allE_next {α : Type} (f : α → Int) (l : List α) (i : Nat) (hi : i < l.length) : allE f (l.take (i + 1)) = wrs (allE f (l.take i)) (f l[i]) := by
  rw [List.take_succ_eq_append_getElem hi, allE_snoc]
theorem wrs_zero {a b : Int} (h : wrs a b = 0) (ha : okE a) (hb : okE b) : a = 0 ∧ b = 0 := by
  unfold wrs at h
  unfold okE at ha hb
  split at h
  · cases h
  · split at h
    · cases h
    · omega
theorem fold_zero {α : Type} (f : α → Int) (hf : ∀ x, okE (f x)) : ∀ (l : List α) (e : Int), okE e → l.foldl (fun e x => wrs e (f x)) e = 0 → e = 0 ∧ ∀ x, x ∈ l → f x = 0
  | [], e, _, h => ⟨h, fun x hx => by cases hx⟩
  | y :: l, e, he, h => by
    obtain ⟨h1, h2⟩ := fold_zero f hf l _ (wrs_ok _ _) h
    obtain ⟨h3, h4⟩ := wrs_zero h1 he (hf y)
    refine ⟨h3, fun x hx => ?_⟩
    rcases List.mem_cons.1 hx with rfl | hx
    · exact h4
    · exact h2 x hx
theorem allE_zero {α : Type} (f : α → Int) (hf : ∀ x, okE (f x)) (l : List α) (h : allE f l = 0) (x : α) (hx : x ∈ l) : f x = 0 := (fold_zero f hf l 0 (.inl rfl) h).2 x hx
theorem stE_ok (d : StD) : okE (stE d) := by
  unfold stE
  split
  · split
    · exact .inl rfl
    · exact judgeE_ok _
  · exact .inr (.inl rfl)
theorem veE_ok (v : VeD) : okE (veE v) := allE_ok _ _
theorem evE_ok (e : EvD) : okE (evE e) := by
  unfold evE
  split
  · exact allE_ok _ _
  · exact .inr (.inl rfl)
end Go.Proofs.YtaijoghpfobdbaaDoor.P
end
section
set_option linter.unusedVariables false
set_option linter.unusedSimpArgs false
namespace Go.Proofs.YtaijoghpfobdbaaDoor.W
open Go.RowKit Go.Proofs.YtaijoghpfobdbaaDoor.X Go.Proofs.YtaijoghpfobdbaaDoorW.PrintWords Go.Proofs.YtaijoghpfobdbaaDoorW.PrintLast Go.Proofs.YtaijoghpfobdbaaDoorW.PrintMore
open Go.Proofs.YtaijoghpfobdbaaDoor.P (Tr Nd Wrote puts put fin kv kd sg build dep dmx pile judgeE tx txs txN sepL WF StD VeD EvD wordB nameB emB noV goodB wordList)
theorem str_cell {w : World} {g : Nat} {ps : List ByteArray} (h : w.heap[g]? = some (.cells (ps.map Value.string).toArray 9 (0, 0))) (i : Nat) (hi : i < ps.length) : w.cell? ⟨g, i, none⟩ = some (.string (ps.getD i ByteArray.empty)) := (blk_cell h i).trans (getD_str ps i hi)
theorem lname_calls (s : ByteArray) (w : World) : Calls Tryd.prog 83 #[.string s] w fun e w' => e = .returned (.bool (L.Name s.data.toList)) ∧ Below w.heap.size w w' := by
  refine (lex_Name.calls s _ w (T.name_eq s)).mono ?_
  rintro e w' ⟨rfl, h⟩
  exact ⟨rfl, h.below⟩
set_option maxHeartbeats 2000000 in
set_option maxRecDepth 100000 in
theorem word_calls (s : ByteArray) (w : World) : Calls Tryd.prog 84 #[.string s] w fun e w' => e = .returned (.bool (wordB s)) ∧ Below w.heap.size w w' := by
  have hb : Below w.heap.size w (w.alloc (.cells (wordList.map Value.string).toArray 9)) := below_alloc (Below.refl _ _) _
  have HC := Aside0.mk (Tryd.slices_Contains_string w.heap.size 0 18 18 wordList s (w.alloc (.cells (wordList.map Value.string).toArray 9)) (by decide) (by decide) (fun j hj => by rw [Nat.zero_add]; exact str_cell (blk_new _ _) j hj))
  have HB := Aside0.mk hb
  clear hb
  go_enter Tryd.func84, Tryd.ntmps84
  go_wp2_with fail
  refine HC.out.mono ?_
  rintro e w1 ⟨rfl, rfl⟩
  go_wp2
  go_ret
  exact ⟨rfl, HB.out⟩
theorem all_next {f : ByteArray → Bool} (ps : List ByteArray) (i : Nat) (hi : i < ps.length) : (ps.take (i + 1)).all f = ((ps.take i).all f && f (ps.getD i ByteArray.empty)) := by
  rw [List.take_succ_eq_append_getElem hi, List.all_append, List.getD_eq_getElem?_getD, List.getElem?_eq_getElem hi]
  simp
theorem all_false {f : ByteArray → Bool} (ps : List ByteArray) (i : Nat) (hi : i < ps.length) (h : f (ps.getD i ByteArray.empty) = false) : ps.all f = false := by
  have h2 := all_next (f := f) ps i hi
  rw [h, Bool.and_false] at h2
  rw [← List.take_append_drop (i + 1) ps, List.all_append, h2, Bool.false_and]
set_option maxHeartbeats 2000000 in
set_option maxRecDepth 100000 in
theorem names_calls (w : World) (g n c : Nat) (ps : List ByteArray) (hg : w.heap[g]? = some (.cells (ps.map Value.string).toArray 9 (0, 0))) (hn : n = ps.length) (hnn : n ≤ 100) :
    Calls Tryd.prog 47 #[.slice (some ⟨g, 0, none⟩) n c] w fun e w' => e = .returned (.bool (ps.all nameB)) ∧ Below w.heap.size w w' := by
  subst hn
  have HG := Aside0.mk hg
  have HN := Aside0.mk hnn
  clear hg hnn
  go_enter Tryd.func47, Tryd.ntmps47
  go_wp2
  go_loopw [7] (fun ti wr => ∃ i : Nat, ti = .int .i64 (i : Int) ∧ Aside0 (i ≤ ps.length) ∧ Aside0 ((ps.take i).all nameB = true) ∧ Aside0 (Below w.heap.size w wr)) (fun ti _ => ps.length - left ti)
  case atStart => exact ⟨0, rfl, ⟨Nat.zero_le _⟩, ⟨rfl⟩, ⟨Below.refl _ _⟩⟩
  case round =>
    obtain ⟨i, rfl, hi, HA, HB⟩ := hrel
    by_cases ci : i < ps.length
    · have c1 : decide ((i : Int) < (ps.length : Int)) = true := decide_eq_true (by omega)
      have c2 : decide (i < ps.length) = true := decide_eq_true ci
      have hcell := str_cell (blk_below HG.out HB.out) i ci
      have HC := Aside0.mk ci
      have HNX : Aside0 (wrap64 ((i : Int) + 1) = ((i + 1 : Nat) : Int)) := ⟨by have := HN.out; unfold wrap64; omega⟩
      have HALL := Aside0.mk (all_next (f := nameB) ps i ci)
      have HFL := Aside0.mk (all_false (f := nameB) ps i ci)
      obtain ⟨q, hq⟩ : ∃ q, q = ps.getD i ByteArray.empty := ⟨_, rfl⟩
      rw [← hq] at hcell HALL HFL
      obtain ⟨b1, hb1⟩ : ∃ b1, b1 = L.Name q.data.toList := ⟨_, rfl⟩
      obtain ⟨b2, hb2⟩ : ∃ b2, b2 = wordB q := ⟨_, rfl⟩
      have HNB : Aside0 (nameB q = (b1 && !b2)) := ⟨by rw [hb1, hb2]; rfl⟩
      have HL := Aside0.mk (fun w => lname_calls q w)
      have HW := Aside0.mk (fun w => word_calls q w)
      rw [← hb1] at HL
      rw [← hb2] at HW
      clear hq hb1 hb2
      go_wp2_with fail
      refine (HL.out wr).mono ?_
      rintro e w1 ⟨rfl, hb1⟩
      have HB1 := Aside0.mk (below_step HB.out hb1)
      clear hb1
      cases b1 with
      | false =>
        go_wp2
        go_ret
        exact ⟨by rw [HFL.out (by rw [HNB.out]; rfl)]; rfl, HB1.out⟩
      | true =>
        go_wp2_with fail
        refine (HW.out w1).mono ?_
        rintro e w2 ⟨rfl, hb2⟩
        have HB2 := Aside0.mk (below_step HB1.out hb2)
        clear hb2
        cases b2 with
        | true =>
          go_wp2
          go_ret
          exact ⟨by rw [HFL.out (by rw [HNB.out]; rfl)]; rfl, HB2.out⟩
        | false =>
          go_wp2
          rw [HNX.out]
          go_roundw
          case measure => have := HC.out; simp only [left, Int.toNat_natCast]; omega
          case rel => exact ⟨i + 1, rfl, ⟨HC.out⟩, ⟨by rw [HALL.out, HA.out, HNB.out]; rfl⟩, HB2⟩
    · have c1 : decide ((i : Int) < (ps.length : Int)) = false := decide_eq_false (by omega)
      have c2 : decide (i < ps.length) = false := decide_eq_false ci
      have HI : Aside0 (ps.take i = ps) := ⟨List.take_of_length_le (by omega)⟩
      go_wp2
      go_ret
      exact ⟨by rw [← HI.out, HA.out]; rfl, HB.out⟩
set_option maxHeartbeats 2000000 in
set_option maxRecDepth 100000 in
theorem empty_calls (w : World) (g n c : Nat) (ps : List ByteArray) (hg : w.heap[g]? = some (.cells (ps.map Value.string).toArray 9 (0, 0))) (hn : n = ps.length) (hnn : n ≤ 100) :
    Calls Tryd.prog 85 #[.slice (some ⟨g, 0, none⟩) n c] w fun e w' => e = .returned (.bool (ps.all emB)) ∧ Below w.heap.size w w' := by
  subst hn
  have HG := Aside0.mk hg
  have HN := Aside0.mk hnn
  clear hg hnn
  go_enter Tryd.func85, Tryd.ntmps85
  go_wp2
  go_loopw [7] (fun ti wr => ∃ i : Nat, ti = .int .i64 (i : Int) ∧ Aside0 (i ≤ ps.length) ∧ Aside0 ((ps.take i).all emB = true) ∧ Aside0 (Below w.heap.size w wr)) (fun ti _ => ps.length - left ti)
  case atStart => exact ⟨0, rfl, ⟨Nat.zero_le _⟩, ⟨rfl⟩, ⟨Below.refl _ _⟩⟩
  case round =>
    obtain ⟨i, rfl, hi, HA, HB⟩ := hrel
    by_cases ci : i < ps.length
    · have c1 : decide ((i : Int) < (ps.length : Int)) = true := decide_eq_true (by omega)
      have c2 : decide (i < ps.length) = true := decide_eq_true ci
      have hcell := str_cell (blk_below HG.out HB.out) i ci
      have HC := Aside0.mk ci
      have HNX : Aside0 (wrap64 ((i : Int) + 1) = ((i + 1 : Nat) : Int)) := ⟨by have := HN.out; unfold wrap64; omega⟩
      have HALL := Aside0.mk (all_next (f := emB) ps i ci)
      have HFL := Aside0.mk (all_false (f := emB) ps i ci)
      obtain ⟨q, hq⟩ : ∃ q, q = ps.getD i ByteArray.empty := ⟨_, rfl⟩
      rw [← hq] at hcell HALL HFL
      clear hq
      by_cases hz : q.toList = []
      · have z1 : (q.toList == []) = true := beq_iff_eq.2 hz
        have z2 : (q.toList != []) = false := by rw [bne, z1]; rfl
        have HNB : Aside0 (emB q = true) := ⟨z1⟩
        clear hz
        go_wp2
        rw [HNX.out]
        go_roundw
        case measure => have := HC.out; simp only [left, Int.toNat_natCast]; omega
        case rel => exact ⟨i + 1, rfl, ⟨HC.out⟩, ⟨by rw [HALL.out, HA.out, HNB.out]; rfl⟩, HB⟩
      · have z1 : (q.toList == []) = false := beq_eq_false_iff_ne.2 hz
        have z2 : (q.toList != []) = true := by rw [bne, z1]; rfl
        have HNB : Aside0 (emB q = false) := ⟨z1⟩
        clear hz
        go_wp2
        go_ret
        exact ⟨by rw [HFL.out HNB.out]; rfl, HB.out⟩
    · have c1 : decide ((i : Int) < (ps.length : Int)) = false := decide_eq_false (by omega)
      have c2 : decide (i < ps.length) = false := decide_eq_false ci
      have HI : Aside0 (ps.take i = ps) := ⟨List.take_of_length_le (by omega)⟩
      go_wp2
      go_ret
      exact ⟨by rw [← HI.out, HA.out]; rfl, HB.out⟩
end Go.Proofs.YtaijoghpfobdbaaDoor.W
end
section
set_option linter.unusedVariables false
set_option linter.unusedSimpArgs false
namespace Go.Proofs.YtaijoghpfobdbaaDoor.W
open Go.RowKit Go.Proofs.YtaijoghpfobdbaaDoor.X Go.Proofs.YtaijoghpfobdbaaDoorW.PrintWords Go.Proofs.YtaijoghpfobdbaaDoorW.PrintLast Go.Proofs.YtaijoghpfobdbaaDoorW.PrintMore
open Go.Proofs.YtaijoghpfobdbaaDoor.P (Tr Nd Wrote puts put fin kv kd sg build dep dmx pile judgeE tx txs txN sepL WF StD VeD EvD wordB nameB emB noV goodB wordList)
theorem box8 {W : World} {b : Nat} {a0 a1 a2 a3 a4 a5 a6 a7 : Value} {t : TypeId} (h : W.heap[b]? = some (.cells #[a0, a1, a2, a3, a4, a5, a6, a7] t (0, 0))) : W.cell? ⟨b, 0, none⟩ = some a0 ∧ W.cell? ⟨b, 1, none⟩ = some a1 ∧ W.cell? ⟨b, 2, none⟩ = some a2 ∧ W.cell? ⟨b, 3, none⟩ = some a3 ∧ W.cell? ⟨b, 4, none⟩ = some a4 ∧ W.cell? ⟨b, 5, none⟩ = some a5 ∧ W.cell? ⟨b, 6, none⟩ = some a6 ∧ W.cell? ⟨b, 7, none⟩ = some a7 :=
  ⟨(blk_cell h 0).trans rfl, (blk_cell h 1).trans rfl, (blk_cell h 2).trans rfl, (blk_cell h 3).trans rfl, (blk_cell h 4).trans rfl, (blk_cell h 5).trans rfl, (blk_cell h 6).trans rfl, (blk_cell h 7).trans rfl⟩
set_option maxHeartbeats 8000000 in
set_option maxRecDepth 100000 in
theorem good1 (w : World) (a b c sep ty : ByteArray) (A : Option Addr) (n cc : Nat) (pl : Int) (val : List Nd) (hn : n = val.length) :
    Calls Tryd.prog 48 #[.agg #[.int .i64 1, .string a, .string b, .string c, .string sep, .string ty, .slice A n cc, .int .i64 pl]] w fun e w' => e = .returned (.bool (goodB ⟨1, a, b, c, sep, ty, val, pl⟩)) ∧ Below w.heap.size w w' := by
  obtain ⟨e1, z1⟩ : ∃ e1, (sep.toList == []) = e1 := ⟨_, rfl⟩
  obtain ⟨e2, z2⟩ : ∃ e2, (ty.toList == []) = e2 := ⟨_, rfl⟩
  obtain ⟨e4, z4⟩ : ∃ e4, (c.toList == []) = e4 := ⟨_, rfl⟩
  obtain ⟨e3, z3⟩ : ∃ e3, ((n : Int) == 0) = e3 := ⟨_, rfl⟩
  have z3' : (n == 0) = e3 := by rw [← z3, Bool.eq_iff_iff, beq_iff_eq, beq_iff_eq]; omega
  have HNV : noV ⟨1, a, b, c, sep, ty, val, pl⟩ = e3 := by rw [← z3', hn, Bool.eq_iff_iff]; simp [noV]
  obtain ⟨nm, hnm⟩ : ∃ nm, nm = [a, ty].all nameB := ⟨_, rfl⟩
  obtain ⟨em, hem⟩ : ∃ em, em = [b, c, sep].all emB := ⟨_, rfl⟩
  have HGD : Aside0 (goodB ⟨1, a, b, c, sep, ty, val, pl⟩ = (nm && em)) := ⟨by
    rw [hnm, hem]; unfold goodB; simp only [HNV]; subst z1 z2 z4; rfl⟩
  have HNM := Aside0.mk (fun (w : World) (g n cg : Nat) (hg : w.heap[g]? = some (.cells #[.string a, .string ty] 9 (0, 0))) (hn : n = 2) => (show Calls Tryd.prog 47 #[.slice (some ⟨g, 0, none⟩) n cg] w fun e w' => e = .returned (.bool nm) ∧ Below w.heap.size w w' from by rw [hnm]; exact names_calls w g n cg [a, ty] hg hn (by omega)))
  have HEM := Aside0.mk (fun (w : World) (g n cg : Nat) (hg : w.heap[g]? = some (.cells #[.string b, .string c, .string sep] 9 (0, 0))) (hn : n = 3) => (show Calls Tryd.prog 85 #[.slice (some ⟨g, 0, none⟩) n cg] w fun e w' => e = .returned (.bool em) ∧ Below w.heap.size w w' from by rw [hem]; exact empty_calls w g n cg [b, c, sep] hg hn (by omega)))
  clear hnm hem
  obtain ⟨wA, hwA⟩ : ∃ wA, wA = w.alloc (.cells #[.int .i64 1, .string a, .string b, .string c, .string sep, .string ty, .slice A n cc, .int .i64 pl] 55) := ⟨_, rfl⟩
  have hbA : Below w.heap.size w wA := by rw [hwA]; exact below_alloc (Below.refl _ _) _
  have hxA : wA.heap[w.heap.size]? = some (.cells #[.int .i64 1, .string a, .string b, .string c, .string sep, .string ty, .slice A n cc, .int .i64 pl] 55 (0, 0)) := by rw [hwA]; exact blk_new _ _
  have HBA := Aside0.mk hbA
  have HXA := Aside0.mk hxA
  have HSZ : Aside0 (wA.heap.size = w.heap.size + 1) := ⟨by rw [hwA]; simp⟩
  have HE := Aside0.mk hwA
  clear hn HNV hwA hbA hxA
  go_enter Tryd.func48, Tryd.ntmps48
  cases e1 <;> cases e2 <;> cases e3 <;> cases e4
  all_goals
    go_wp2_with fail
    rw [← HE.out, ← HSZ.out]
    refine (HNM.out _ wA.heap.size 2 2 (blk_new _ _) rfl).mono ?_
    rintro e w1 ⟨rfl, hb1⟩
    have hb1' : Below wA.heap.size wA w1 := below_step (below_alloc (Below.refl _ _) _) hb1
    have HB1 := Aside0.mk (below_step HBA.out hb1')
    obtain ⟨y0, y1, y2, y3, y4, y5, y6, y7⟩ := box8 (blk_below HXA.out hb1')
    have HB1A := Aside0.mk hb1'
    clear hb1 hb1'
    cases nm
    · go_wp2
      go_ret
      exact ⟨by rw [HGD.out]; rfl, HB1.out⟩
    · go_wp2_with fail
      refine (HEM.out _ w1.heap.size 3 3 (blk_new _ _) rfl).mono ?_
      rintro e w2 ⟨rfl, hb2⟩
      have hb2' : Below w1.heap.size w1 w2 := below_step (below_alloc (Below.refl _ _) _) hb2
      have HB2 := Aside0.mk (below_step HB1.out hb2')
      have q6 := (box8 (blk_below (blk_below HXA.out HB1A.out) hb2')).2.2.2.2.2.2.1
      clear hb2 hb2'
      cases em
      · go_wp2
        go_ret
        exact ⟨by rw [HGD.out]; rfl, HB2.out⟩
      · go_wp2
        go_ret
        exact ⟨by rw [HGD.out]; rfl, HB2.out⟩
set_option maxHeartbeats 8000000 in
set_option maxRecDepth 100000 in
theorem good2 (w : World) (a b c sep ty : ByteArray) (A : Option Addr) (n cc : Nat) (pl : Int) (val : List Nd) (hn : n = val.length) :
    Calls Tryd.prog 48 #[.agg #[.int .i64 2, .string a, .string b, .string c, .string sep, .string ty, .slice A n cc, .int .i64 pl]] w fun e w' => e = .returned (.bool (goodB ⟨2, a, b, c, sep, ty, val, pl⟩)) ∧ Below w.heap.size w w' := by
  obtain ⟨e1, z1⟩ : ∃ e1, (sep.toList == []) = e1 := ⟨_, rfl⟩
  obtain ⟨e2, z2⟩ : ∃ e2, (ty.toList == []) = e2 := ⟨_, rfl⟩
  obtain ⟨e4, z4⟩ : ∃ e4, (c.toList == []) = e4 := ⟨_, rfl⟩
  obtain ⟨e3, z3⟩ : ∃ e3, ((n : Int) == 0) = e3 := ⟨_, rfl⟩
  have z3' : (n == 0) = e3 := by rw [← z3, Bool.eq_iff_iff, beq_iff_eq, beq_iff_eq]; omega
  have HNV : noV ⟨2, a, b, c, sep, ty, val, pl⟩ = e3 := by rw [← z3', hn, Bool.eq_iff_iff]; simp [noV]
  obtain ⟨nm, hnm⟩ : ∃ nm, nm = [a, b].all nameB := ⟨_, rfl⟩
  have HGD : Aside0 (goodB ⟨2, a, b, c, sep, ty, val, pl⟩ = ((nm && e4) && (e1 && e2 && e3))) := ⟨by
    rw [hnm]; unfold goodB; simp only [HNV]; subst z1 z2 z4; rfl⟩
  have HNM := Aside0.mk (fun (w : World) (g n cg : Nat) (hg : w.heap[g]? = some (.cells #[.string a, .string b] 9 (0, 0))) (hn : n = 2) => (show Calls Tryd.prog 47 #[.slice (some ⟨g, 0, none⟩) n cg] w fun e w' => e = .returned (.bool nm) ∧ Below w.heap.size w w' from by rw [hnm]; exact names_calls w g n cg [a, b] hg hn (by omega)))
  clear hnm
  obtain ⟨wA, hwA⟩ : ∃ wA, wA = w.alloc (.cells #[.int .i64 2, .string a, .string b, .string c, .string sep, .string ty, .slice A n cc, .int .i64 pl] 55) := ⟨_, rfl⟩
  have hbA : Below w.heap.size w wA := by rw [hwA]; exact below_alloc (Below.refl _ _) _
  have hxA : wA.heap[w.heap.size]? = some (.cells #[.int .i64 2, .string a, .string b, .string c, .string sep, .string ty, .slice A n cc, .int .i64 pl] 55 (0, 0)) := by rw [hwA]; exact blk_new _ _
  have HBA := Aside0.mk hbA
  have HXA := Aside0.mk hxA
  have HSZ : Aside0 (wA.heap.size = w.heap.size + 1) := ⟨by rw [hwA]; simp⟩
  have HE := Aside0.mk hwA
  clear hn HNV hwA hbA hxA
  go_enter Tryd.func48, Tryd.ntmps48
  cases e1 <;> cases e2 <;> cases e3 <;> cases e4
  all_goals
    go_wp2_with fail
    rw [← HE.out, ← HSZ.out]
    refine (HNM.out _ wA.heap.size 2 2 (blk_new _ _) rfl).mono ?_
    rintro e w1 ⟨rfl, hb1⟩
    have hb1' : Below wA.heap.size wA w1 := below_step (below_alloc (Below.refl _ _) _) hb1
    have HB1 := Aside0.mk (below_step HBA.out hb1')
    obtain ⟨y0, y1, y2, y3, y4, y5, y6, y7⟩ := box8 (blk_below HXA.out hb1')
    have HB1A := Aside0.mk hb1'
    clear hb1 hb1'
    cases nm
    · go_wp2
      go_ret
      exact ⟨by rw [HGD.out]; rfl, HB1.out⟩
    · go_wp2
      go_ret
      exact ⟨by rw [HGD.out]; rfl, HB1.out⟩
set_option maxHeartbeats 8000000 in
set_option maxRecDepth 100000 in
theorem good3 (w : World) (a b c sep ty : ByteArray) (A : Option Addr) (n cc : Nat) (pl : Int) (val : List Nd) (hn : n = val.length) :
    Calls Tryd.prog 48 #[.agg #[.int .i64 3, .string a, .string b, .string c, .string sep, .string ty, .slice A n cc, .int .i64 pl]] w fun e w' => e = .returned (.bool (goodB ⟨3, a, b, c, sep, ty, val, pl⟩)) ∧ Below w.heap.size w w' := by
  obtain ⟨e1, z1⟩ : ∃ e1, (sep.toList == []) = e1 := ⟨_, rfl⟩
  obtain ⟨e2, z2⟩ : ∃ e2, (ty.toList == []) = e2 := ⟨_, rfl⟩
  obtain ⟨e4, z4⟩ : ∃ e4, (c.toList == []) = e4 := ⟨_, rfl⟩
  obtain ⟨e3, z3⟩ : ∃ e3, ((n : Int) == 0) = e3 := ⟨_, rfl⟩
  have z3' : (n == 0) = e3 := by rw [← z3, Bool.eq_iff_iff, beq_iff_eq, beq_iff_eq]; omega
  have HNV : noV ⟨3, a, b, c, sep, ty, val, pl⟩ = e3 := by rw [← z3', hn, Bool.eq_iff_iff]; simp [noV]
  obtain ⟨nm, hnm⟩ : ∃ nm, nm = [a, b, c].all nameB := ⟨_, rfl⟩
  have HGD : Aside0 (goodB ⟨3, a, b, c, sep, ty, val, pl⟩ = ((nm && e2) && e3)) := ⟨by
    rw [hnm]; unfold goodB; simp only [HNV]; subst z1 z2 z4; rfl⟩
  have HNM := Aside0.mk (fun (w : World) (g n cg : Nat) (hg : w.heap[g]? = some (.cells #[.string a, .string b, .string c] 9 (0, 0))) (hn : n = 3) => (show Calls Tryd.prog 47 #[.slice (some ⟨g, 0, none⟩) n cg] w fun e w' => e = .returned (.bool nm) ∧ Below w.heap.size w w' from by rw [hnm]; exact names_calls w g n cg [a, b, c] hg hn (by omega)))
  clear hnm
  obtain ⟨wA, hwA⟩ : ∃ wA, wA = w.alloc (.cells #[.int .i64 3, .string a, .string b, .string c, .string sep, .string ty, .slice A n cc, .int .i64 pl] 55) := ⟨_, rfl⟩
  have hbA : Below w.heap.size w wA := by rw [hwA]; exact below_alloc (Below.refl _ _) _
  have hxA : wA.heap[w.heap.size]? = some (.cells #[.int .i64 3, .string a, .string b, .string c, .string sep, .string ty, .slice A n cc, .int .i64 pl] 55 (0, 0)) := by rw [hwA]; exact blk_new _ _
  have HBA := Aside0.mk hbA
  have HXA := Aside0.mk hxA
  have HSZ : Aside0 (wA.heap.size = w.heap.size + 1) := ⟨by rw [hwA]; simp⟩
  have HE := Aside0.mk hwA
  clear hn HNV hwA hbA hxA
  go_enter Tryd.func48, Tryd.ntmps48
  cases e1 <;> cases e2 <;> cases e3 <;> cases e4
  all_goals
    go_wp2_with fail
    rw [← HE.out, ← HSZ.out]
    refine (HNM.out _ wA.heap.size 3 3 (blk_new _ _) rfl).mono ?_
    rintro e w1 ⟨rfl, hb1⟩
    have hb1' : Below wA.heap.size wA w1 := below_step (below_alloc (Below.refl _ _) _) hb1
    have HB1 := Aside0.mk (below_step HBA.out hb1')
    obtain ⟨y0, y1, y2, y3, y4, y5, y6, y7⟩ := box8 (blk_below HXA.out hb1')
    have HB1A := Aside0.mk hb1'
    clear hb1 hb1'
    cases nm
    · go_wp2
      go_ret
      exact ⟨by rw [HGD.out]; rfl, HB1.out⟩
    · go_wp2
      go_ret
      exact ⟨by rw [HGD.out]; rfl, HB1.out⟩
set_option maxHeartbeats 8000000 in
set_option maxRecDepth 100000 in
theorem good4 (w : World) (a b c sep ty : ByteArray) (A : Option Addr) (n cc : Nat) (pl : Int) (val : List Nd) (hn : n = val.length) :
    Calls Tryd.prog 48 #[.agg #[.int .i64 4, .string a, .string b, .string c, .string sep, .string ty, .slice A n cc, .int .i64 pl]] w fun e w' => e = .returned (.bool (goodB ⟨4, a, b, c, sep, ty, val, pl⟩)) ∧ Below w.heap.size w w' := by
  obtain ⟨e1, z1⟩ : ∃ e1, (sep.toList == []) = e1 := ⟨_, rfl⟩
  obtain ⟨e2, z2⟩ : ∃ e2, (ty.toList == []) = e2 := ⟨_, rfl⟩
  obtain ⟨e4, z4⟩ : ∃ e4, (c.toList == []) = e4 := ⟨_, rfl⟩
  obtain ⟨e3, z3⟩ : ∃ e3, ((n : Int) == 0) = e3 := ⟨_, rfl⟩
  have z3' : (n == 0) = e3 := by rw [← z3, Bool.eq_iff_iff, beq_iff_eq, beq_iff_eq]; omega
  have HNV : noV ⟨4, a, b, c, sep, ty, val, pl⟩ = e3 := by rw [← z3', hn, Bool.eq_iff_iff]; simp [noV]
  obtain ⟨nm, hnm⟩ : ∃ nm, nm = [a, b, c].all nameB := ⟨_, rfl⟩
  have HGD : Aside0 (goodB ⟨4, a, b, c, sep, ty, val, pl⟩ = ((nm && e2) && e3)) := ⟨by
    rw [hnm]; unfold goodB; simp only [HNV]; subst z1 z2 z4; rfl⟩
  have HNM := Aside0.mk (fun (w : World) (g n cg : Nat) (hg : w.heap[g]? = some (.cells #[.string a, .string b, .string c] 9 (0, 0))) (hn : n = 3) => (show Calls Tryd.prog 47 #[.slice (some ⟨g, 0, none⟩) n cg] w fun e w' => e = .returned (.bool nm) ∧ Below w.heap.size w w' from by rw [hnm]; exact names_calls w g n cg [a, b, c] hg hn (by omega)))
  clear hnm
  obtain ⟨wA, hwA⟩ : ∃ wA, wA = w.alloc (.cells #[.int .i64 4, .string a, .string b, .string c, .string sep, .string ty, .slice A n cc, .int .i64 pl] 55) := ⟨_, rfl⟩
  have hbA : Below w.heap.size w wA := by rw [hwA]; exact below_alloc (Below.refl _ _) _
  have hxA : wA.heap[w.heap.size]? = some (.cells #[.int .i64 4, .string a, .string b, .string c, .string sep, .string ty, .slice A n cc, .int .i64 pl] 55 (0, 0)) := by rw [hwA]; exact blk_new _ _
  have HBA := Aside0.mk hbA
  have HXA := Aside0.mk hxA
  have HSZ : Aside0 (wA.heap.size = w.heap.size + 1) := ⟨by rw [hwA]; simp⟩
  have HE := Aside0.mk hwA
  clear hn HNV hwA hbA hxA
  go_enter Tryd.func48, Tryd.ntmps48
  cases e1 <;> cases e2 <;> cases e3 <;> cases e4
  all_goals
    go_wp2_with fail
    rw [← HE.out, ← HSZ.out]
    refine (HNM.out _ wA.heap.size 3 3 (blk_new _ _) rfl).mono ?_
    rintro e w1 ⟨rfl, hb1⟩
    have hb1' : Below wA.heap.size wA w1 := below_step (below_alloc (Below.refl _ _) _) hb1
    have HB1 := Aside0.mk (below_step HBA.out hb1')
    obtain ⟨y0, y1, y2, y3, y4, y5, y6, y7⟩ := box8 (blk_below HXA.out hb1')
    have HB1A := Aside0.mk hb1'
    clear hb1 hb1'
    cases nm
    · go_wp2
      go_ret
      exact ⟨by rw [HGD.out]; rfl, HB1.out⟩
    · go_wp2
      go_ret
      exact ⟨by rw [HGD.out]; rfl, HB1.out⟩
set_option maxHeartbeats 8000000 in
set_option maxRecDepth 100000 in
theorem good5 (w : World) (a b c sep ty : ByteArray) (A : Option Addr) (n cc : Nat) (pl : Int) (val : List Nd) (hn : n = val.length) :
    Calls Tryd.prog 48 #[.agg #[.int .i64 5, .string a, .string b, .string c, .string sep, .string ty, .slice A n cc, .int .i64 pl]] w fun e w' => e = .returned (.bool (goodB ⟨5, a, b, c, sep, ty, val, pl⟩)) ∧ Below w.heap.size w w' := by
  obtain ⟨e1, z1⟩ : ∃ e1, (sep.toList == []) = e1 := ⟨_, rfl⟩
  obtain ⟨e2, z2⟩ : ∃ e2, (ty.toList == []) = e2 := ⟨_, rfl⟩
  obtain ⟨e4, z4⟩ : ∃ e4, (c.toList == []) = e4 := ⟨_, rfl⟩
  obtain ⟨e3, z3⟩ : ∃ e3, ((n : Int) == 0) = e3 := ⟨_, rfl⟩
  have z3' : (n == 0) = e3 := by rw [← z3, Bool.eq_iff_iff, beq_iff_eq, beq_iff_eq]; omega
  have HNV : noV ⟨5, a, b, c, sep, ty, val, pl⟩ = e3 := by rw [← z3', hn, Bool.eq_iff_iff]; simp [noV]
  obtain ⟨nm, hnm⟩ : ∃ nm, nm = [a, ty].all nameB := ⟨_, rfl⟩
  obtain ⟨em, hem⟩ : ∃ em, em = [b, c, sep].all emB := ⟨_, rfl⟩
  have HGD : Aside0 (goodB ⟨5, a, b, c, sep, ty, val, pl⟩ = ((nm && em) && e3)) := ⟨by
    rw [hnm, hem]; unfold goodB; simp only [HNV]; subst z1 z2 z4; rfl⟩
  have HNM := Aside0.mk (fun (w : World) (g n cg : Nat) (hg : w.heap[g]? = some (.cells #[.string a, .string ty] 9 (0, 0))) (hn : n = 2) => (show Calls Tryd.prog 47 #[.slice (some ⟨g, 0, none⟩) n cg] w fun e w' => e = .returned (.bool nm) ∧ Below w.heap.size w w' from by rw [hnm]; exact names_calls w g n cg [a, ty] hg hn (by omega)))
  have HEM := Aside0.mk (fun (w : World) (g n cg : Nat) (hg : w.heap[g]? = some (.cells #[.string b, .string c, .string sep] 9 (0, 0))) (hn : n = 3) => (show Calls Tryd.prog 85 #[.slice (some ⟨g, 0, none⟩) n cg] w fun e w' => e = .returned (.bool em) ∧ Below w.heap.size w w' from by rw [hem]; exact empty_calls w g n cg [b, c, sep] hg hn (by omega)))
  clear hnm hem
  obtain ⟨wA, hwA⟩ : ∃ wA, wA = w.alloc (.cells #[.int .i64 5, .string a, .string b, .string c, .string sep, .string ty, .slice A n cc, .int .i64 pl] 55) := ⟨_, rfl⟩
  have hbA : Below w.heap.size w wA := by rw [hwA]; exact below_alloc (Below.refl _ _) _
  have hxA : wA.heap[w.heap.size]? = some (.cells #[.int .i64 5, .string a, .string b, .string c, .string sep, .string ty, .slice A n cc, .int .i64 pl] 55 (0, 0)) := by rw [hwA]; exact blk_new _ _
  have HBA := Aside0.mk hbA
  have HXA := Aside0.mk hxA
  have HSZ : Aside0 (wA.heap.size = w.heap.size + 1) := ⟨by rw [hwA]; simp⟩
  have HE := Aside0.mk hwA
  clear hn HNV hwA hbA hxA
  go_enter Tryd.func48, Tryd.ntmps48
  cases e1 <;> cases e2 <;> cases e3 <;> cases e4
  all_goals
    go_wp2_with fail
    rw [← HE.out, ← HSZ.out]
    refine (HNM.out _ wA.heap.size 2 2 (blk_new _ _) rfl).mono ?_
    rintro e w1 ⟨rfl, hb1⟩
    have hb1' : Below wA.heap.size wA w1 := below_step (below_alloc (Below.refl _ _) _) hb1
    have HB1 := Aside0.mk (below_step HBA.out hb1')
    obtain ⟨y0, y1, y2, y3, y4, y5, y6, y7⟩ := box8 (blk_below HXA.out hb1')
    have HB1A := Aside0.mk hb1'
    clear hb1 hb1'
    cases nm
    · go_wp2
      go_ret
      exact ⟨by rw [HGD.out]; rfl, HB1.out⟩
    · go_wp2_with fail
      refine (HEM.out _ w1.heap.size 3 3 (blk_new _ _) rfl).mono ?_
      rintro e w2 ⟨rfl, hb2⟩
      have hb2' : Below w1.heap.size w1 w2 := below_step (below_alloc (Below.refl _ _) _) hb2
      have HB2 := Aside0.mk (below_step HB1.out hb2')
      have q6 := (box8 (blk_below (blk_below HXA.out HB1A.out) hb2')).2.2.2.2.2.2.1
      clear hb2 hb2'
      cases em
      · go_wp2
        go_ret
        exact ⟨by rw [HGD.out]; rfl, HB2.out⟩
      · go_wp2
        go_ret
        exact ⟨by rw [HGD.out]; rfl, HB2.out⟩
set_option maxHeartbeats 8000000 in
set_option maxRecDepth 100000 in
theorem good6 (w : World) (a b c sep ty : ByteArray) (A : Option Addr) (n cc : Nat) (pl : Int) (val : List Nd) (hn : n = val.length) :
    Calls Tryd.prog 48 #[.agg #[.int .i64 6, .string a, .string b, .string c, .string sep, .string ty, .slice A n cc, .int .i64 pl]] w fun e w' => e = .returned (.bool (goodB ⟨6, a, b, c, sep, ty, val, pl⟩)) ∧ Below w.heap.size w w' := by
  obtain ⟨e1, z1⟩ : ∃ e1, (sep.toList == []) = e1 := ⟨_, rfl⟩
  obtain ⟨e2, z2⟩ : ∃ e2, (ty.toList == []) = e2 := ⟨_, rfl⟩
  obtain ⟨e4, z4⟩ : ∃ e4, (c.toList == []) = e4 := ⟨_, rfl⟩
  obtain ⟨e3, z3⟩ : ∃ e3, ((n : Int) == 0) = e3 := ⟨_, rfl⟩
  have z3' : (n == 0) = e3 := by rw [← z3, Bool.eq_iff_iff, beq_iff_eq, beq_iff_eq]; omega
  have HNV : noV ⟨6, a, b, c, sep, ty, val, pl⟩ = e3 := by rw [← z3', hn, Bool.eq_iff_iff]; simp [noV]
  obtain ⟨nm, hnm⟩ : ∃ nm, nm = [a].all nameB := ⟨_, rfl⟩
  obtain ⟨em, hem⟩ : ∃ em, em = [b, c].all emB := ⟨_, rfl⟩
  have HGD : Aside0 (goodB ⟨6, a, b, c, sep, ty, val, pl⟩ = ((nm && em) && (e1 && e2 && e3))) := ⟨by
    rw [hnm, hem]; unfold goodB; simp only [HNV]; subst z1 z2 z4; rfl⟩
  have HNM := Aside0.mk (fun (w : World) (g n cg : Nat) (hg : w.heap[g]? = some (.cells #[.string a] 9 (0, 0))) (hn : n = 1) => (show Calls Tryd.prog 47 #[.slice (some ⟨g, 0, none⟩) n cg] w fun e w' => e = .returned (.bool nm) ∧ Below w.heap.size w w' from by rw [hnm]; exact names_calls w g n cg [a] hg hn (by omega)))
  have HEM := Aside0.mk (fun (w : World) (g n cg : Nat) (hg : w.heap[g]? = some (.cells #[.string b, .string c] 9 (0, 0))) (hn : n = 2) => (show Calls Tryd.prog 85 #[.slice (some ⟨g, 0, none⟩) n cg] w fun e w' => e = .returned (.bool em) ∧ Below w.heap.size w w' from by rw [hem]; exact empty_calls w g n cg [b, c] hg hn (by omega)))
  clear hnm hem
  obtain ⟨wA, hwA⟩ : ∃ wA, wA = w.alloc (.cells #[.int .i64 6, .string a, .string b, .string c, .string sep, .string ty, .slice A n cc, .int .i64 pl] 55) := ⟨_, rfl⟩
  have hbA : Below w.heap.size w wA := by rw [hwA]; exact below_alloc (Below.refl _ _) _
  have hxA : wA.heap[w.heap.size]? = some (.cells #[.int .i64 6, .string a, .string b, .string c, .string sep, .string ty, .slice A n cc, .int .i64 pl] 55 (0, 0)) := by rw [hwA]; exact blk_new _ _
  have HBA := Aside0.mk hbA
  have HXA := Aside0.mk hxA
  have HSZ : Aside0 (wA.heap.size = w.heap.size + 1) := ⟨by rw [hwA]; simp⟩
  have HE := Aside0.mk hwA
  clear hn HNV hwA hbA hxA
  go_enter Tryd.func48, Tryd.ntmps48
  cases e1 <;> cases e2 <;> cases e3 <;> cases e4
  all_goals
    go_wp2_with fail
    rw [← HE.out, ← HSZ.out]
    refine (HNM.out _ wA.heap.size 1 1 (blk_new _ _) rfl).mono ?_
    rintro e w1 ⟨rfl, hb1⟩
    have hb1' : Below wA.heap.size wA w1 := below_step (below_alloc (Below.refl _ _) _) hb1
    have HB1 := Aside0.mk (below_step HBA.out hb1')
    obtain ⟨y0, y1, y2, y3, y4, y5, y6, y7⟩ := box8 (blk_below HXA.out hb1')
    have HB1A := Aside0.mk hb1'
    clear hb1 hb1'
    cases nm
    · go_wp2
      go_ret
      exact ⟨by rw [HGD.out]; rfl, HB1.out⟩
    · go_wp2_with fail
      refine (HEM.out _ w1.heap.size 2 2 (blk_new _ _) rfl).mono ?_
      rintro e w2 ⟨rfl, hb2⟩
      have hb2' : Below w1.heap.size w1 w2 := below_step (below_alloc (Below.refl _ _) _) hb2
      have HB2 := Aside0.mk (below_step HB1.out hb2')
      have q6 := (box8 (blk_below (blk_below HXA.out HB1A.out) hb2')).2.2.2.2.2.2.1
      clear hb2 hb2'
      cases em
      · go_wp2
        go_ret
        exact ⟨by rw [HGD.out]; rfl, HB2.out⟩
      · go_wp2
        go_ret
        exact ⟨by rw [HGD.out]; rfl, HB2.out⟩
set_option maxHeartbeats 8000000 in
set_option maxRecDepth 100000 in
theorem good0 (w : World) (k : Int) (a b c sep ty : ByteArray) (A : Option Addr) (n cc : Nat) (pl : Int) (val : List Nd) (hn : n = val.length) (hk : k ≠ 1 ∧ k ≠ 2 ∧ k ≠ 3 ∧ k ≠ 4 ∧ k ≠ 5 ∧ k ≠ 6) :
    Calls Tryd.prog 48 #[.agg #[.int .i64 k, .string a, .string b, .string c, .string sep, .string ty, .slice A n cc, .int .i64 pl]] w fun e w' => e = .returned (.bool (goodB ⟨k, a, b, c, sep, ty, val, pl⟩)) ∧ Below w.heap.size w w' := by
  obtain ⟨e1, z1⟩ : ∃ e1, (sep.toList == []) = e1 := ⟨_, rfl⟩
  obtain ⟨e2, z2⟩ : ∃ e2, (ty.toList == []) = e2 := ⟨_, rfl⟩
  obtain ⟨e4, z4⟩ : ∃ e4, (c.toList == []) = e4 := ⟨_, rfl⟩
  obtain ⟨e3, z3⟩ : ∃ e3, ((n : Int) == 0) = e3 := ⟨_, rfl⟩
  have z3' : (n == 0) = e3 := by rw [← z3, Bool.eq_iff_iff, beq_iff_eq, beq_iff_eq]; omega
  have HNV : noV ⟨k, a, b, c, sep, ty, val, pl⟩ = e3 := by rw [← z3', hn, Bool.eq_iff_iff]; simp [noV]
  have HGD : Aside0 (goodB ⟨k, a, b, c, sep, ty, val, pl⟩ = false) := ⟨by
    unfold goodB; rw [if_neg hk.1, if_neg hk.2.1, if_neg (fun h => h.elim hk.2.2.1 hk.2.2.2.1), if_neg hk.2.2.2.2.1, if_neg hk.2.2.2.2.2]⟩
  have k1 : (k == 1) = false := beq_eq_false_iff_ne.2 hk.1
  have k2 : (k == 2) = false := beq_eq_false_iff_ne.2 hk.2.1
  have k3 : (k == 3) = false := beq_eq_false_iff_ne.2 hk.2.2.1
  have k4 : (k == 4) = false := beq_eq_false_iff_ne.2 hk.2.2.2.1
  have k5 : (k == 5) = false := beq_eq_false_iff_ne.2 hk.2.2.2.2.1
  have k6 : (k == 6) = false := beq_eq_false_iff_ne.2 hk.2.2.2.2.2
  clear hk
  obtain ⟨wA, hwA⟩ : ∃ wA, wA = w.alloc (.cells #[.int .i64 k, .string a, .string b, .string c, .string sep, .string ty, .slice A n cc, .int .i64 pl] 55) := ⟨_, rfl⟩
  have hbA : Below w.heap.size w wA := by rw [hwA]; exact below_alloc (Below.refl _ _) _
  have hxA : wA.heap[w.heap.size]? = some (.cells #[.int .i64 k, .string a, .string b, .string c, .string sep, .string ty, .slice A n cc, .int .i64 pl] 55 (0, 0)) := by rw [hwA]; exact blk_new _ _
  have HBA := Aside0.mk hbA
  have HXA := Aside0.mk hxA
  have HSZ : Aside0 (wA.heap.size = w.heap.size + 1) := ⟨by rw [hwA]; simp⟩
  have HE := Aside0.mk hwA
  clear hn HNV hwA hbA hxA
  go_enter Tryd.func48, Tryd.ntmps48
  cases e1 <;> cases e2 <;> cases e3
  all_goals
    go_wp2
    go_ret
    exact ⟨by rw [HGD.out]; rfl, by rw [← HE.out]; exact HBA.out⟩
theorem good_calls (w : World) (k : Int) (a b c sep ty : ByteArray) (A : Option Addr) (n cc : Nat) (pl : Int) (val : List Nd) (hn : n = val.length) :
    Calls Tryd.prog 48 #[.agg #[.int .i64 k, .string a, .string b, .string c, .string sep, .string ty, .slice A n cc, .int .i64 pl]] w fun e w' => e = .returned (.bool (goodB ⟨k, a, b, c, sep, ty, val, pl⟩)) ∧ Below w.heap.size w w' := by
  by_cases h1 : k = 1
  · subst h1; exact good1 w a b c sep ty A n cc pl val hn
  by_cases h2 : k = 2
  · subst h2; exact good2 w a b c sep ty A n cc pl val hn
  by_cases h3 : k = 3
  · subst h3; exact good3 w a b c sep ty A n cc pl val hn
  by_cases h4 : k = 4
  · subst h4; exact good4 w a b c sep ty A n cc pl val hn
  by_cases h5 : k = 5
  · subst h5; exact good5 w a b c sep ty A n cc pl val hn
  by_cases h6 : k = 6
  · subst h6; exact good6 w a b c sep ty A n cc pl val hn
  exact good0 w k a b c sep ty A n cc pl val hn ⟨h1, h2, h3, h4, h5, h6⟩
end Go.Proofs.YtaijoghpfobdbaaDoor.W
end
section
set_option linter.unusedVariables false
set_option linter.unusedSimpArgs false
namespace Go.Proofs.YtaijoghpfobdbaaDoor.W
open Go.RowKit Go.Proofs.YtaijoghpfobdbaaDoor.X Go.Proofs.YtaijoghpfobdbaaDoorW.PrintWords Go.Proofs.YtaijoghpfobdbaaDoorW.PrintLast Go.Proofs.YtaijoghpfobdbaaDoorW.PrintMore
open Go.Proofs.YtaijoghpfobdbaaDoor.P (Tr Nd Wrote puts put fin kv kd sg build dep dmx pile judgeE tx txs txN sepL WF StD VeD EvD wordB nameB emB noV goodB wordList wrs stE allE veE evE wholeE)
def kS : Kd StD := Kd.iso (Kd.pair (Kd.int .i64) (Kd.pair Kd.string (Kd.pair Kd.string (Kd.pair Kd.string (Kd.pair Kd.string (Kd.pair Kd.string (Kd.pair (Kd.slice 46 k46) (Kd.int .i64)))))))) (fun x : StD => (x.k, x.a, x.b, x.c, x.sep, x.ty, x.val, x.pl))
def kV : Kd VeD := Kd.iso (Kd.pair (Kd.int .u64) (Kd.pair (Kd.slice 55 kS) (Kd.int .i64))) (fun x : VeD => (x.num, x.steps, x.pl))
def kE : Kd EvD := Kd.iso (Kd.pair Kd.string (Kd.pair (Kd.slice 53 kV) (Kd.int .i64))) (fun x : EvD => (x.name, x.vers, x.pl))
theorem kS_open {w : World} {x : StD} {cs : List Value} (h : kS.K w x cs) : ∃ A c, cs = [.int .i64 x.k, .string x.a, .string x.b, .string x.c, .string x.sep, .string x.ty, .slice A x.val.length c, .int .i64 x.pl] ∧ Kd.C k46 w A x.val.length x.val := by
  obtain ⟨_, _, rfl, rfl, ⟨_, _, rfl, rfl, ⟨_, _, rfl, rfl, ⟨_, _, rfl, rfl, ⟨_, _, rfl, rfl, ⟨_, _, rfl, rfl, ⟨_, _, rfl, ⟨A, c, rfl, hc, hC⟩, rfl⟩⟩⟩⟩⟩⟩⟩ := h
  exact ⟨A, c, rfl, hC⟩
theorem kV_open {w : World} {x : VeD} {cs : List Value} (h : kV.K w x cs) : ∃ A c, cs = [.int .u64 x.num, .slice A x.steps.length c, .int .i64 x.pl] ∧ Kd.C kS w A x.steps.length x.steps := by
  obtain ⟨_, _, rfl, rfl, ⟨_, _, rfl, ⟨A, c, rfl, hc, hC⟩, rfl⟩⟩ := h
  exact ⟨A, c, rfl, hC⟩
theorem kE_open {w : World} {x : EvD} {cs : List Value} (h : kE.K w x cs) : ∃ A c, cs = [.string x.name, .slice A x.vers.length c, .int .i64 x.pl] ∧ Kd.C kV w A x.vers.length x.vers := by
  obtain ⟨_, _, rfl, rfl, ⟨_, _, rfl, ⟨A, c, rfl, hc, hC⟩, rfl⟩⟩ := h
  exact ⟨A, c, rfl, hC⟩
section
variable {w : World} {A : Option Addr}
theorem at_E {xs : List EvD} (h : Kd.C kE w A xs.length xs) (i : Nat) (hi : i < xs.length) : ∃ ad B c, A = some ad ∧ w.cell? (ad.add (i * 3)) = some (.string xs[i].name) ∧ w.cell? ⟨(ad.add (i * 3)).block, (ad.add (i * 3)).off + 1, none⟩ = some (.slice B xs[i].vers.length c) ∧ w.cell? ⟨(ad.add (i * 3)).block, (ad.add (i * 3)).off + 2, none⟩ = some (.int .i64 xs[i].pl) ∧ Kd.C kV w B xs[i].vers.length xs[i].vers := by
  obtain ⟨ad, cs, e, _, hK, hc0⟩ := Kd.C_get h xs[i] (i : Int) (by omega) (by omega)
  rw [Int.toNat_natCast] at hK hc0
  rw [List.getD_eq_getElem?_getD, List.getElem?_eq_getElem hi, Option.getD_some] at hK
  have hc : ∀ j u, cs[j]? = some u → w.cell? (ad.add (i * 3 + j)) = some u := hc0
  obtain ⟨B, c, rfl, hC⟩ := kE_open hK
  exact ⟨ad, B, c, e, hc 0 _ rfl, by rw [← add_field _ _ 1 (by omega)]; exact hc 1 _ rfl, by rw [← add_field _ _ 2 (by omega)]; exact hc 2 _ rfl, hC⟩
theorem at_V {xs : List VeD} (h : Kd.C kV w A xs.length xs) (i : Nat) (hi : i < xs.length) : ∃ ad B c, A = some ad ∧ w.cell? (ad.add (i * 3)) = some (.int .u64 xs[i].num) ∧ w.cell? ⟨(ad.add (i * 3)).block, (ad.add (i * 3)).off + 1, none⟩ = some (.slice B xs[i].steps.length c) ∧ w.cell? ⟨(ad.add (i * 3)).block, (ad.add (i * 3)).off + 2, none⟩ = some (.int .i64 xs[i].pl) ∧ Kd.C kS w B xs[i].steps.length xs[i].steps := by
  obtain ⟨ad, cs, e, _, hK, hc0⟩ := Kd.C_get h xs[i] (i : Int) (by omega) (by omega)
  rw [Int.toNat_natCast] at hK hc0
  rw [List.getD_eq_getElem?_getD, List.getElem?_eq_getElem hi, Option.getD_some] at hK
  have hc : ∀ j u, cs[j]? = some u → w.cell? (ad.add (i * 3 + j)) = some u := hc0
  obtain ⟨B, c, rfl, hC⟩ := kV_open hK
  exact ⟨ad, B, c, e, hc 0 _ rfl, by rw [← add_field _ _ 1 (by omega)]; exact hc 1 _ rfl, by rw [← add_field _ _ 2 (by omega)]; exact hc 2 _ rfl, hC⟩
theorem at_S {xs : List StD} (h : Kd.C kS w A xs.length xs) (i : Nat) (hi : i < xs.length) : ∃ ad B c, A = some ad ∧ w.cell? (ad.add (i * 8)) = some (.int .i64 xs[i].k) ∧ w.cell? ⟨(ad.add (i * 8)).block, (ad.add (i * 8)).off + 1, none⟩ = some (.string xs[i].a) ∧ w.cell? ⟨(ad.add (i * 8)).block, (ad.add (i * 8)).off + 2, none⟩ = some (.string xs[i].b) ∧ w.cell? ⟨(ad.add (i * 8)).block, (ad.add (i * 8)).off + 3, none⟩ = some (.string xs[i].c) ∧ w.cell? ⟨(ad.add (i * 8)).block, (ad.add (i * 8)).off + 4, none⟩ = some (.string xs[i].sep) ∧ w.cell? ⟨(ad.add (i * 8)).block, (ad.add (i * 8)).off + 5, none⟩ = some (.string xs[i].ty) ∧ w.cell? ⟨(ad.add (i * 8)).block, (ad.add (i * 8)).off + 6, none⟩ = some (.slice B xs[i].val.length c) ∧ w.cell? ⟨(ad.add (i * 8)).block, (ad.add (i * 8)).off + 7, none⟩ = some (.int .i64 xs[i].pl) ∧ Kd.C k46 w B xs[i].val.length xs[i].val := by
  obtain ⟨ad, cs, e, _, hK, hc0⟩ := Kd.C_get h xs[i] (i : Int) (by omega) (by omega)
  rw [Int.toNat_natCast] at hK hc0
  rw [List.getD_eq_getElem?_getD, List.getElem?_eq_getElem hi, Option.getD_some] at hK
  have hc : ∀ j u, cs[j]? = some u → w.cell? (ad.add (i * 8 + j)) = some u := hc0
  obtain ⟨B, c, rfl, hC⟩ := kS_open hK
  exact ⟨ad, B, c, e, hc 0 _ rfl, by rw [← add_field _ _ 1 (by omega)]; exact hc 1 _ rfl, by rw [← add_field _ _ 2 (by omega)]; exact hc 2 _ rfl, by rw [← add_field _ _ 3 (by omega)]; exact hc 3 _ rfl, by rw [← add_field _ _ 4 (by omega)]; exact hc 4 _ rfl, by rw [← add_field _ _ 5 (by omega)]; exact hc 5 _ rfl, by rw [← add_field _ _ 6 (by omega)]; exact hc 6 _ rfl, by rw [← add_field _ _ 7 (by omega)]; exact hc 7 _ rfl, hC⟩
end
theorem wrs_assoc (a b c : Int) : wrs (wrs a b) c = wrs a (wrs b c) := by
  unfold wrs
  by_cases a1 : a = 1 <;> by_cases b1 : b = 1 <;> by_cases c1 : c = 1 <;> by_cases a9 : a = 91 <;> by_cases b9 : b = 91 <;> by_cases c9 : c = 91 <;> simp [a1, b1, c1, a9, b9, c9]
theorem wrs_nil {a : Int} (h : P.okE a) : wrs a 0 = a := by
  unfold wrs
  rcases h with rfl | rfl | rfl <;> rfl
def BdE (es : List EvD) : Prop := ∀ e, e ∈ es → ∀ v, v ∈ e.vers → ∀ d, d ∈ v.steps → d.val.length ≤ 1099511627776
set_option maxHeartbeats 8000000 in
set_option maxRecDepth 100000 in
theorem whole_calls (w : World) (A : Option Addr) (c : Nat) (es : List EvD) (hC : Kd.C kE w A es.length es) (hbd : BdE es) :
    Calls Tryd.prog 24 #[.agg #[.slice A es.length c]] w fun e w' => e = .returned (.int .i64 (wholeE es)) ∧ Below w.heap.size w w' := by
  obtain ⟨w0, hw0⟩ : ∃ w0, w0 = w.alloc (.cells #[.slice A es.length c] 24) := ⟨_, rfl⟩
  have hB0 : Below w.heap.size w w0 := by rw [hw0]; exact below_alloc (Below.refl _ _) _
  have HC := Aside0.mk hC
  have HBD := Aside0.mk hbd
  have HB0 := Aside0.mk hB0
  have HE0 := Aside0.mk hw0
  have HM := Aside0.mk hC.2.1
  clear hC hbd hB0 hw0
  go_enter Tryd.func24, Tryd.ntmps24
  go_wp2
  rw [← HE0.out]
  go_loopw [3, 13] (fun t3 ti wr => ∃ (i : Nat) (x : Int), ti = .int .i64 (i : Int) ∧ t3 = .int .i64 x ∧ Aside0 (i ≤ es.length) ∧ Aside0 (x = allE evE (es.take i) ∧ x ≠ 1) ∧ Aside0 (Below w.heap.size w wr)) (fun _ ti _ => es.length - left ti)
  case atStart => exact ⟨0, 0, rfl, rfl, ⟨Nat.zero_le _⟩, ⟨rfl, by decide⟩, HB0⟩
  case round =>
    obtain ⟨i, x, rfl, rfl, hi, HX, HB⟩ := hrel
    by_cases ci : i < es.length
    · have c1 : decide ((i : Int) < (es.length : Int)) = true := decide_eq_true (by omega)
      have c2 : decide (i < es.length) = true := decide_eq_true ci
      obtain ⟨ad, Bv, cv, rfl, hx0, hx1, hx2, hCv⟩ := at_E (Kd.C_below HC.out HB.out) i ci
      have HI := Aside0.mk ci
      have HNX := Aside0.mk (P.allE_next evE es i ci)
      have HBA := Aside0.mk (fun h => P.allE_bad evE es i ci h)
      have HBD1 := Aside0.mk (HBD.out es[i] (List.getElem_mem ci))
      obtain ⟨ev, hev⟩ : ∃ ev, ev = es[i] := ⟨_, rfl⟩
      rw [← hev] at hx0 hx1 hx2 hCv HNX HBA HBD1
      clear hev
      have HCV := Aside0.mk hCv
      obtain ⟨w1, hw1⟩ : ∃ w1, w1 = wr.alloc (.cells #[.string ev.name, .slice Bv ev.vers.length cv, .int .i64 ev.pl] 50) := ⟨_, rfl⟩
      have hb1 : Below wr.heap.size wr w1 := by rw [hw1]; exact below_alloc (Below.refl _ _) _
      obtain ⟨b1, hbq⟩ : ∃ b1, b1 = wr.heap.size := ⟨_, rfl⟩
      have HX1 := Aside0.mk (show w1.heap[b1]? = some (.cells #[.string ev.name, .slice Bv ev.vers.length cv, .int .i64 ev.pl] 50 (0, 0)) from by rw [hw1, hbq]; exact blk_new _ _)
      have HS1 : Aside0 (w1.heap.size = b1 + 1) := ⟨by rw [hw1, hbq]; simp⟩
      have HB1 := Aside0.mk (below_step HB.out hb1)
      have HCV1 := Aside0.mk (Kd.C_below hCv hb1)
      have HE1 := Aside0.mk hw1
      clear hw1 hb1 hCv
      go_wp2_with fail
      rw [← HE1.out, ← hbq, ← HS1.out]
      clear hbq
      obtain ⟨nb, hnb⟩ : ∃ nb, nb = [ev.name].all nameB := ⟨_, rfl⟩
      have hnc := names_calls (w1.alloc (.cells #[.string ev.name] 9)) w1.heap.size 1 1 [ev.name] (blk_new _ _) rfl (by decide)
      rw [← hnb] at hnc
      have HNB : Aside0 (nameB ev.name = nb) := ⟨by rw [hnb]; simp⟩
      refine hnc.mono ?_
      rintro e w2 ⟨rfl, hb2⟩
      have hb2' : Below w1.heap.size w1 w2 := below_step (below_alloc (Below.refl _ _) _) hb2
      have HB2 := Aside0.mk (below_step HB1.out hb2')
      have HX2 := Aside0.mk (blk_below HX1.out hb2')
      have HCV2 := Aside0.mk (Kd.C_below HCV1.out hb2')
      have y0 := (blk_cell HX2.out 0).trans rfl
      have y1 := (blk_cell HX2.out 1).trans rfl
      have y2 := (blk_cell HX2.out 2).trans rfl
      clear hb2 hb2' hnc hnb hx0 hx1 hx2
      cases nb with
      | false =>
        have HBAD : Aside0 (wholeE es = 1) := ⟨HBA.out (by unfold evE; rw [if_neg (fun h => by rw [HNB.out] at h; cases h.1)])⟩
        go_wp2
        go_ret
        exact ⟨by rw [HBAD.out]; rfl, HB2.out⟩
      | true =>
        by_cases cz : ev.vers.length = 0
        · have z1 : ((ev.vers.length : Int) == 0) = true := by rw [beq_iff_eq]; omega
          have z2 : (ev.vers.length == 0) = true := beq_iff_eq.2 cz
          have HBAD : Aside0 (wholeE es = 1) := ⟨HBA.out (by unfold evE; rw [if_neg (fun h => h.2 cz)])⟩
          clear cz
          go_wp2
          go_ret
          exact ⟨by rw [HBAD.out]; rfl, HB2.out⟩
        have z1 : ((ev.vers.length : Int) == 0) = false := by rw [beq_eq_false_iff_ne]; omega
        have z2 : (ev.vers.length == 0) = false := beq_eq_false_iff_ne.2 cz
        have HEV : Aside0 (evE ev = allE veE ev.vers) := ⟨by unfold evE; rw [if_pos ⟨HNB.out, cz⟩]⟩
        clear cz
        have HXE : Aside0 (P.okE x) := ⟨by rw [HX.out.1]; exact P.allE_ok _ _⟩
        have HMV := Aside0.mk HCV2.out.2.1
        obtain ⟨wQ, hwQ⟩ : ∃ wQ, wQ = w2 := ⟨_, rfl⟩
        go_wp2
        go_loopw [3, 31] (fun t3 ti wr => ∃ (k : Nat) (x2 : Int), ti = .int .i64 (k : Int) ∧ t3 = .int .i64 x2 ∧ Aside0 (k ≤ ev.vers.length) ∧ Aside0 (x2 = wrs x (allE veE (ev.vers.take k)) ∧ x2 ≠ 1) ∧ Aside0 (Below w2.heap.size w2 wr)) (fun _ ti _ => ev.vers.length - left ti)
        case atStart => exact ⟨0, x, rfl, rfl, ⟨Nat.zero_le _⟩, ⟨(wrs_nil HXE.out).symm, HX.out.2⟩, ⟨Below.refl _ _⟩⟩
        case round =>
          obtain ⟨k, x2, rfl, rfl, hk, HX2', HBk⟩ := hrel
          clear y0 y1 y2 hwQ
          by_cases ck : k < ev.vers.length
          · have d1 : decide ((k : Int) < (ev.vers.length : Int)) = true := decide_eq_true (by omega)
            have d2 : decide (k < ev.vers.length) = true := decide_eq_true ck
            obtain ⟨av, Bs, cs, hAv, hv0, hv1, hv2, hCs⟩ := at_V (Kd.C_below HCV2.out HBk.out) k ck
            subst hAv
            have HK := Aside0.mk ck
            have HNV := Aside0.mk (P.allE_next veE ev.vers k ck)
            have HBV := Aside0.mk (fun h => P.allE_bad veE ev.vers k ck h)
            have HBD2 := Aside0.mk (HBD1.out ev.vers[k] (List.getElem_mem ck))
            obtain ⟨ve, hve⟩ : ∃ ve, ve = ev.vers[k] := ⟨_, rfl⟩
            rw [← hve] at hv0 hv1 hv2 hCs HNV HBV HBD2
            clear hve
            obtain ⟨w3, hw3⟩ : ∃ w3, w3 = wr.alloc (.cells #[.int .u64 ve.num, .slice Bs ve.steps.length cs, .int .i64 ve.pl] 53) := ⟨_, rfl⟩
            have hb3 : Below wr.heap.size wr w3 := by rw [hw3]; exact below_alloc (Below.refl _ _) _
            have HB3 := Aside0.mk (below_step HBk.out hb3)
            have HCS3 := Aside0.mk (Kd.C_below hCs hb3)
            have HE3 := Aside0.mk hw3
            have HMS := Aside0.mk hCs.2.1
            clear hw3 hb3 hCs
            go_wp2
            rw [← HE3.out]
            clear hv0 hv1 hv2
            go_loopw [3, 38] (fun t3 ti wr => ∃ (j : Nat) (x3 : Int), ti = .int .i64 (j : Int) ∧ t3 = .int .i64 x3 ∧ Aside0 (j ≤ ve.steps.length) ∧ Aside0 (x3 = wrs x2 (allE stE (ve.steps.take j)) ∧ x3 ≠ 1) ∧ Aside0 (Below w3.heap.size w3 wr)) (fun _ ti _ => ve.steps.length - left ti)
            case atStart => exact ⟨0, x2, rfl, rfl, ⟨Nat.zero_le _⟩, ⟨(wrs_nil (by rw [HX2'.out.1]; exact P.wrs_ok _ _)).symm, HX2'.out.2⟩, ⟨Below.refl _ _⟩⟩
            case round =>
              obtain ⟨j, x3, rfl, rfl, hj, HX3, HBj⟩ := hrel
              by_cases cj : j < ve.steps.length
              · have f1 : decide ((j : Int) < (ve.steps.length : Int)) = true := decide_eq_true (by omega)
                have f2 : decide (j < ve.steps.length) = true := decide_eq_true cj
                obtain ⟨ast, Bn, cn, hAs, hs0, hs1, hs2, hs3, hs4, hs5, hs6, hs7, hCn⟩ := at_S (Kd.C_below HCS3.out HBj.out) j cj
                subst hAs
                have HJ := Aside0.mk cj
                have HNS := Aside0.mk (P.allE_next stE ve.steps j cj)
                have HBS := Aside0.mk (fun h => P.allE_bad stE ve.steps j cj h)
                have HBD3 := Aside0.mk (HBD2.out ve.steps[j] (List.getElem_mem cj))
                obtain ⟨st, hst⟩ : ∃ st, st = ve.steps[j] := ⟨_, rfl⟩
                rw [← hst] at hs0 hs1 hs2 hs3 hs4 hs5 hs6 hs7 hCn HNS HBS HBD3
                clear hst
                obtain ⟨w4, hw4⟩ : ∃ w4, w4 = wr.alloc (.cells #[.int .i64 st.k, .string st.a, .string st.b, .string st.c, .string st.sep, .string st.ty, .slice Bn st.val.length cn, .int .i64 st.pl] 55) := ⟨_, rfl⟩
                have hb4 : Below wr.heap.size wr w4 := by rw [hw4]; exact below_alloc (Below.refl _ _) _
                have HX4 := Aside0.mk (show w4.heap[wr.heap.size]? = some (.cells #[.int .i64 st.k, .string st.a, .string st.b, .string st.c, .string st.sep, .string st.ty, .slice Bn st.val.length cn, .int .i64 st.pl] 55 (0, 0)) from by rw [hw4]; exact blk_new _ _)
                have HB4 := Aside0.mk (below_step HBj.out hb4)
                have HCN4 := Aside0.mk (Kd.C_below hCn hb4)
                have HE4 := Aside0.mk hw4
                have W1 : Aside0 (wrap64 ((j : Int) + 1) = ((j + 1 : Nat) : Int)) := ⟨by have := HMS.out; unfold wrap64; omega⟩
                clear hw4 hb4 hCn
                go_wp2_with fail
                rw [← HE4.out]
                clear hs0 hs1 hs2 hs3 hs4 hs5 hs6 hs7
                obtain ⟨gb, hgb⟩ : ∃ gb, gb = goodB st := ⟨_, rfl⟩
                have hgc := good_calls w4 st.k st.a st.b st.c st.sep st.ty Bn st.val.length cn st.pl st.val rfl
                rw [show (⟨st.k, st.a, st.b, st.c, st.sep, st.ty, st.val, st.pl⟩ : StD) = st from rfl, ← hgb] at hgc
                refine hgc.mono ?_
                rintro e w5 ⟨rfl, hb5⟩
                have HB5 := Aside0.mk (below_step HB4.out hb5)
                have HX5 := Aside0.mk (blk_below HX4.out hb5)
                have HCN5 := Aside0.mk (Kd.C_below HCN4.out hb5)
                have y6 := (box8 HX5.out).2.2.2.2.2.2.1
                have HGB := Aside0.mk hgb
                have HBW := Aside0.mk (below_step HB2.out (below_step HB3.out HB5.out))
                have HCHAIN : Aside0 (stE st = 1 → wholeE es = 1) := ⟨fun h => HBA.out (by rw [HEV.out]; exact HBV.out (HBS.out h))⟩
                clear hb5 hgc hgb
                cases gb with
                | false =>
                  have HBAD : Aside0 (wholeE es = 1) := ⟨HCHAIN.out (by unfold stE; rw [if_neg (by rw [← HGB.out]; decide)])⟩
                  go_wp2
                  go_ret
                  exact ⟨by rw [HBAD.out]; rfl, HBW.out⟩
                | true =>
                  by_cases cl : st.val.length = 0
                  · have u1 : ((st.val.length : Int) == 0) = true := by rw [beq_iff_eq]; omega
                    have u2 : (st.val.length == 0) = true := beq_iff_eq.2 cl
                    have HST : Aside0 (stE st = 0) := ⟨by unfold stE; rw [if_pos HGB.out.symm, if_pos cl]⟩
                    clear cl
                    go_wp2
                    rw [W1.out]
                    go_roundw
                    case measure => have := HJ.out; simp only [left, Int.toNat_natCast]; omega
                    case rel => exact ⟨j + 1, x3, rfl, rfl, ⟨HJ.out⟩, ⟨by rw [HNS.out, HST.out, wrs_nil (P.allE_ok _ _)]; exact HX3.out⟩, HB5⟩
                  · have u1 : ((st.val.length : Int) == 0) = false := by rw [beq_eq_false_iff_ne]; omega
                    have u2 : (st.val.length == 0) = false := beq_eq_false_iff_ne.2 cl
                    have HST : Aside0 (stE st = judgeE st.val) := ⟨by unfold stE; rw [if_pos HGB.out.symm, if_neg cl]⟩
                    clear cl
                    go_wp2_with fail
                    refine (judge_calls w5 Bn cn st.val HCN5.out (by have := HBD3.out; omega)).mono ?_
                    rintro e w6 ⟨rfl, hb6⟩
                    have HB6 := Aside0.mk (below_step HB5.out hb6)
                    have HBW6 := Aside0.mk (below_step HBW.out hb6)
                    rw [← HST.out]
                    clear hb6
                    have hok := P.stE_ok st
                    obtain ⟨se, hse⟩ : ∃ se, se = stE st := ⟨_, rfl⟩
                    have HSE := Aside0.mk hse
                    rw [← hse] at hok ⊢
                    clear hse
                    rcases hok with rfl | rfl | rfl
                    · go_wp2
                      rw [W1.out]
                      go_roundw
                      case measure => have := HJ.out; simp only [left, Int.toNat_natCast]; omega
                      case rel => exact ⟨j + 1, x3, rfl, rfl, ⟨HJ.out⟩, ⟨by rw [HNS.out, ← HSE.out, wrs_nil (P.allE_ok _ _)]; exact HX3.out⟩, HB6⟩
                    · go_wp2
                      go_ret
                      exact ⟨by rw [HCHAIN.out HSE.out.symm]; rfl, HBW6.out⟩
                    · go_wp2
                      rw [W1.out]
                      go_roundw
                      case measure => have := HJ.out; simp only [left, Int.toNat_natCast]; omega
                      case rel =>
                        refine ⟨j + 1, 91, rfl, rfl, ⟨HJ.out⟩, ⟨?_, by decide⟩, HB6⟩
                        rw [HNS.out, ← HSE.out, ← wrs_assoc, ← HX3.out.1]
                        unfold wrs
                        rw [if_neg (fun h => h.elim HX3.out.2 (by decide)), if_pos (.inr rfl)]
              · have f1 : decide ((j : Int) < (ve.steps.length : Int)) = false := decide_eq_false (by omega)
                have f2 : decide (j < ve.steps.length) = false := decide_eq_false cj
                have HJE : Aside0 (ve.steps.take j = ve.steps) := ⟨List.take_of_length_le (by omega)⟩
                have W1 : Aside0 (wrap64 ((k : Int) + 1) = ((k + 1 : Nat) : Int)) := ⟨by have := HMV.out; have := HK.out; unfold wrap64; omega⟩
                go_wp2
                rw [W1.out]
                go_roundw
                case measure => have := HK.out; simp only [left, Int.toNat_natCast]; omega
                case rel =>
                  refine ⟨k + 1, x3, rfl, rfl, ⟨HK.out⟩, ⟨?_, HX3.out.2⟩, ⟨below_step HB3.out HBj.out⟩⟩
                  rw [HNV.out, ← wrs_assoc, ← HX2'.out.1, show veE ve = allE stE ve.steps from rfl, ← HJE.out]
                  rw [HX3.out.1, HJE.out]
          · have d1 : decide ((k : Int) < (ev.vers.length : Int)) = false := decide_eq_false (by omega)
            have d2 : decide (k < ev.vers.length) = false := decide_eq_false ck
            have HKE : Aside0 (ev.vers.take k = ev.vers) := ⟨List.take_of_length_le (by omega)⟩
            have W1 : Aside0 (wrap64 ((i : Int) + 1) = ((i + 1 : Nat) : Int)) := ⟨by have := HM.out; have := HI.out; unfold wrap64; omega⟩
            go_wp2
            rw [W1.out]
            go_roundw
            case measure => have := HI.out; simp only [left, Int.toNat_natCast]; omega
            case rel =>
              refine ⟨i + 1, x2, rfl, rfl, ⟨HI.out⟩, ⟨?_, HX2'.out.2⟩, ⟨below_step HB2.out HBk.out⟩⟩
              rw [HNX.out, HEV.out, ← HX.out.1, HX2'.out.1, HKE.out]
    · have c1 : decide ((i : Int) < (es.length : Int)) = false := decide_eq_false (by omega)
      have c2 : decide (i < es.length) = false := decide_eq_false ci
      have HIE : Aside0 (es.take i = es) := ⟨List.take_of_length_le (by omega)⟩
      go_wp2
      go_ret
      exact ⟨by rw [HX.out.1, HIE.out]; rfl, HB.out⟩
end Go.Proofs.YtaijoghpfobdbaaDoor.W
end
section
set_option linter.unusedVariables false
set_option linter.unusedSimpArgs false
namespace Go.Proofs.YtaijoghpfobdbaaDoor.W
open Go.RowKit Go.Proofs.YtaijoghpfobdbaaDoor.X Go.Proofs.YtaijoghpfobdbaaDoorW.PrintWords Go.Proofs.YtaijoghpfobdbaaDoorW.PrintLast Go.Proofs.YtaijoghpfobdbaaDoorW.PrintMore
open Go.Proofs.YtaijoghpfobdbaaDoor.P (Tr Nd Wrote puts put fin kv kd sg build dep dmx pile judgeE tx txs txN sepL WF StD VeD EvD wordB nameB emB noV goodB wordList wrs stE allE veE evE wholeE lineT txV)
structure RdN (B : Nat) (w : World) (A : Option Addr) (xs : List Nd) : Prop where
  out : ∀ w', Below B w w' → Kd.C k46 w' A xs.length xs
theorem RdN.step {B : Nat} {w w' : World} {A : Option Addr} {xs : List Nd} (h : RdN B w A xs) (hb : Below B w w') : RdN B w' A xs := ⟨fun _ k => h.out _ (hb.trans k)⟩
theorem txV_of {ns : List Nd} {t : Tr} (h : build ns [] = some [t]) : txV ns = tx t := by unfold txV; rw [h]
set_option maxHeartbeats 4000000 in
set_option maxRecDepth 100000 in
theorem ren_calls {B b : Nat} {bs : List UInt8} (w : World) (sa sb sc sep ty : ByteArray) (A : Option Addr) (n cc : Nat) (pl : Int) (val : List Nd) (hW : Wr w B b bs) (hs : sa.size ≤ 8388608 ∧ sb.size ≤ 8388608 ∧ sc.size ≤ 8388608 ∧ ty.size ≤ 8388608) :
    Calls Tryd.prog 50 #[.pointer (some ⟨b, 0, none⟩), .agg #[.int .i64 2, .string sa, .string sb, .string sc, .string sep, .string ty, .slice A n cc, .int .i64 pl]] w fun e w' => e = .returned (.tuple #[]) ∧ ∃ r, Wr w' B b r ∧ Wrote bs (lineT ⟨2, sa, sb, sc, sep, ty, val, pl⟩) r ∧ Fw B b w w' := by
  obtain ⟨wA, hwA⟩ : ∃ wA, wA = w.alloc (.cells #[.int .i64 2, .string sa, .string sb, .string sc, .string sep, .string ty, .slice A n cc, .int .i64 pl] 55) := ⟨_, rfl⟩
  have hbA : Below w.heap.size w wA := by rw [hwA]; exact below_alloc (Below.refl _ _) _
  have HW0 := Aside0.mk (hW.below hbA)
  have HF0 := Aside0.mk (Fw.of_below (b := b) hbA hW.base)
  have HX0 := Aside0.mk (show wA.heap[w.heap.size]? = some (.cells #[.int .i64 2, .string sa, .string sb, .string sc, .string sep, .string ty, .slice A n cc, .int .i64 pl] 55 (0, 0)) from by rw [hwA]; exact blk_new _ _)
  have HSZ : Aside0 (wA.heap.size = w.heap.size + 1) := ⟨by rw [hwA]; simp⟩
  have HE := Aside0.mk hwA
  have HS := Aside0.mk hs
  clear hW hs hwA hbA
  go_enter Tryd.func50, Tryd.ntmps50
  go_wp2_with fail
  rw [← HE.out, ← HSZ.out]
  refine (say_lit wA [⟨#[114, 101, 110, 97, 109, 101, 32]⟩, sa, ⟨#[32, 116, 111, 32]⟩, sb] 4 rfl HW0.out (by simp) (by intro p hp; simp only [List.mem_cons, List.not_mem_nil, or_false] at hp; rcases hp with rfl | rfl | rfl | rfl <;> first | decide | exact HS.out.1 | exact HS.out.2.1 | exact HS.out.2.2.1 | exact HS.out.2.2.2)).mono ?_
  rintro e w1 ⟨rfl, r1, hW1, hr1, hf1⟩
  have HW1 := Aside0.mk hW1
  have HR1 := Aside0.mk hr1
  have HF1 := Aside0.mk (HF0.out.trans hf1)
  have HX1 := Aside0.mk (hf1.blk HW0.out HX0.out (by decide) (by decide))
  clear hW1 hr1 hf1
  go_wp2
  go_end0
  refine ⟨rfl, r1, HW1.out, ?_, HF1.out⟩
  have h := HR1.out
  have e : lineT ⟨2, sa, sb, sc, sep, ty, val, pl⟩ = (([⟨#[114, 101, 110, 97, 109, 101, 32]⟩, sa, ⟨#[32, 116, 111, 32]⟩, sb] : List ByteArray).flatMap fun p => p.data.toList) := by
    simp [P.lineT]
  rw [e]; exact h
set_option maxHeartbeats 4000000 in
set_option maxRecDepth 100000 in
theorem spl_calls {B b : Nat} {bs : List UInt8} (w : World) (sa sb sc sep ty : ByteArray) (A : Option Addr) (n cc : Nat) (pl : Int) (val : List Nd) (hW : Wr w B b bs) (hs : sa.size ≤ 8388608 ∧ sb.size ≤ 8388608 ∧ sc.size ≤ 8388608 ∧ ty.size ≤ 8388608) :
    Calls Tryd.prog 51 #[.pointer (some ⟨b, 0, none⟩), .agg #[.int .i64 3, .string sa, .string sb, .string sc, .string sep, .string ty, .slice A n cc, .int .i64 pl]] w fun e w' => e = .returned (.tuple #[]) ∧ ∃ r, Wr w' B b r ∧ Wrote bs (lineT ⟨3, sa, sb, sc, sep, ty, val, pl⟩) r ∧ Fw B b w w' := by
  obtain ⟨wA, hwA⟩ : ∃ wA, wA = w.alloc (.cells #[.int .i64 3, .string sa, .string sb, .string sc, .string sep, .string ty, .slice A n cc, .int .i64 pl] 55) := ⟨_, rfl⟩
  have hbA : Below w.heap.size w wA := by rw [hwA]; exact below_alloc (Below.refl _ _) _
  have HW0 := Aside0.mk (hW.below hbA)
  have HF0 := Aside0.mk (Fw.of_below (b := b) hbA hW.base)
  have HX0 := Aside0.mk (show wA.heap[w.heap.size]? = some (.cells #[.int .i64 3, .string sa, .string sb, .string sc, .string sep, .string ty, .slice A n cc, .int .i64 pl] 55 (0, 0)) from by rw [hwA]; exact blk_new _ _)
  have HSZ : Aside0 (wA.heap.size = w.heap.size + 1) := ⟨by rw [hwA]; simp⟩
  have HE := Aside0.mk hwA
  have HS := Aside0.mk hs
  clear hW hs hwA hbA
  go_enter Tryd.func51, Tryd.ntmps51
  go_wp2_with fail
  rw [← HE.out, ← HSZ.out]
  refine (say_lit wA [⟨#[115, 112, 108, 105, 116, 32]⟩, sa, ⟨#[32, 97, 116, 32]⟩] 3 rfl HW0.out (by simp) (by intro p hp; simp only [List.mem_cons, List.not_mem_nil, or_false] at hp; rcases hp with rfl | rfl | rfl <;> first | decide | exact HS.out.1 | exact HS.out.2.1 | exact HS.out.2.2.1 | exact HS.out.2.2.2)).mono ?_
  rintro e w1 ⟨rfl, r1, hW1, hr1, hf1⟩
  have HW1 := Aside0.mk hW1
  have HR1 := Aside0.mk hr1
  have HF1 := Aside0.mk (HF0.out.trans hf1)
  have HX1 := Aside0.mk (hf1.blk HW0.out HX0.out (by decide) (by decide))
  clear hW1 hr1 hf1
  obtain ⟨y0, y1, y2, y3, y4, y5, y6, y7⟩ := box8 HX1.out
  go_wp2_with fail
  refine (quote_calls w1 sep HW1.out).mono ?_
  rintro e w2 ⟨rfl, r2, hW2, hr2, hf2⟩
  have HW2 := Aside0.mk hW2
  have HR2 := Aside0.mk hr2
  have HF2 := Aside0.mk (HF1.out.trans hf2)
  have HX2 := Aside0.mk (hf2.blk HW1.out HX1.out (by decide) (by decide))
  clear hW2 hr2 hf2
  obtain ⟨y0, y1, y2, y3, y4, y5, y6, y7⟩ := box8 HX2.out
  go_wp2_with fail
  refine (say_lit w2 [⟨#[32, 105, 110, 116, 111, 32]⟩, sb, ⟨#[44, 32]⟩, sc] 4 rfl HW2.out (by simp) (by intro p hp; simp only [List.mem_cons, List.not_mem_nil, or_false] at hp; rcases hp with rfl | rfl | rfl | rfl <;> first | decide | exact HS.out.1 | exact HS.out.2.1 | exact HS.out.2.2.1 | exact HS.out.2.2.2)).mono ?_
  rintro e w3 ⟨rfl, r3, hW3, hr3, hf3⟩
  have HW3 := Aside0.mk hW3
  have HR3 := Aside0.mk hr3
  have HF3 := Aside0.mk (HF2.out.trans hf3)
  have HX3 := Aside0.mk (hf3.blk HW2.out HX2.out (by decide) (by decide))
  clear hW3 hr3 hf3
  go_wp2
  go_end0
  refine ⟨rfl, r3, HW3.out, ?_, HF3.out⟩
  have h := ((HR1.out.trans HR2.out).trans HR3.out)
  have e : lineT ⟨3, sa, sb, sc, sep, ty, val, pl⟩ = (((([⟨#[115, 112, 108, 105, 116, 32]⟩, sa, ⟨#[32, 97, 116, 32]⟩] : List ByteArray).flatMap fun p => p.data.toList) ++ L.Quote sep.data.toList) ++ (([⟨#[32, 105, 110, 116, 111, 32]⟩, sb, ⟨#[44, 32]⟩, sc] : List ByteArray).flatMap fun p => p.data.toList)) := by
    simp [P.lineT]
  rw [e]; exact h
set_option maxHeartbeats 4000000 in
set_option maxRecDepth 100000 in
theorem joi_calls {B b : Nat} {bs : List UInt8} (w : World) (sa sb sc sep ty : ByteArray) (A : Option Addr) (n cc : Nat) (pl : Int) (val : List Nd) (hW : Wr w B b bs) (hs : sa.size ≤ 8388608 ∧ sb.size ≤ 8388608 ∧ sc.size ≤ 8388608 ∧ ty.size ≤ 8388608) :
    Calls Tryd.prog 52 #[.pointer (some ⟨b, 0, none⟩), .agg #[.int .i64 4, .string sa, .string sb, .string sc, .string sep, .string ty, .slice A n cc, .int .i64 pl]] w fun e w' => e = .returned (.tuple #[]) ∧ ∃ r, Wr w' B b r ∧ Wrote bs (lineT ⟨4, sa, sb, sc, sep, ty, val, pl⟩) r ∧ Fw B b w w' := by
  obtain ⟨wA, hwA⟩ : ∃ wA, wA = w.alloc (.cells #[.int .i64 4, .string sa, .string sb, .string sc, .string sep, .string ty, .slice A n cc, .int .i64 pl] 55) := ⟨_, rfl⟩
  have hbA : Below w.heap.size w wA := by rw [hwA]; exact below_alloc (Below.refl _ _) _
  have HW0 := Aside0.mk (hW.below hbA)
  have HF0 := Aside0.mk (Fw.of_below (b := b) hbA hW.base)
  have HX0 := Aside0.mk (show wA.heap[w.heap.size]? = some (.cells #[.int .i64 4, .string sa, .string sb, .string sc, .string sep, .string ty, .slice A n cc, .int .i64 pl] 55 (0, 0)) from by rw [hwA]; exact blk_new _ _)
  have HSZ : Aside0 (wA.heap.size = w.heap.size + 1) := ⟨by rw [hwA]; simp⟩
  have HE := Aside0.mk hwA
  have HS := Aside0.mk hs
  clear hW hs hwA hbA
  go_enter Tryd.func52, Tryd.ntmps52
  go_wp2_with fail
  rw [← HE.out, ← HSZ.out]
  refine (say_lit wA [⟨#[106, 111, 105, 110, 32]⟩, sa, ⟨#[44, 32]⟩, sb, ⟨#[32, 119, 105, 116, 104, 32]⟩] 5 rfl HW0.out (by simp) (by intro p hp; simp only [List.mem_cons, List.not_mem_nil, or_false] at hp; rcases hp with rfl | rfl | rfl | rfl | rfl <;> first | decide | exact HS.out.1 | exact HS.out.2.1 | exact HS.out.2.2.1 | exact HS.out.2.2.2)).mono ?_
  rintro e w1 ⟨rfl, r1, hW1, hr1, hf1⟩
  have HW1 := Aside0.mk hW1
  have HR1 := Aside0.mk hr1
  have HF1 := Aside0.mk (HF0.out.trans hf1)
  have HX1 := Aside0.mk (hf1.blk HW0.out HX0.out (by decide) (by decide))
  clear hW1 hr1 hf1
  obtain ⟨y0, y1, y2, y3, y4, y5, y6, y7⟩ := box8 HX1.out
  go_wp2_with fail
  refine (quote_calls w1 sep HW1.out).mono ?_
  rintro e w2 ⟨rfl, r2, hW2, hr2, hf2⟩
  have HW2 := Aside0.mk hW2
  have HR2 := Aside0.mk hr2
  have HF2 := Aside0.mk (HF1.out.trans hf2)
  have HX2 := Aside0.mk (hf2.blk HW1.out HX1.out (by decide) (by decide))
  clear hW2 hr2 hf2
  obtain ⟨y0, y1, y2, y3, y4, y5, y6, y7⟩ := box8 HX2.out
  go_wp2_with fail
  refine (say_lit w2 [⟨#[32, 105, 110, 116, 111, 32]⟩, sc] 2 rfl HW2.out (by simp) (by intro p hp; simp only [List.mem_cons, List.not_mem_nil, or_false] at hp; rcases hp with rfl | rfl <;> first | decide | exact HS.out.1 | exact HS.out.2.1 | exact HS.out.2.2.1 | exact HS.out.2.2.2)).mono ?_
  rintro e w3 ⟨rfl, r3, hW3, hr3, hf3⟩
  have HW3 := Aside0.mk hW3
  have HR3 := Aside0.mk hr3
  have HF3 := Aside0.mk (HF2.out.trans hf3)
  have HX3 := Aside0.mk (hf3.blk HW2.out HX2.out (by decide) (by decide))
  clear hW3 hr3 hf3
  go_wp2
  go_end0
  refine ⟨rfl, r3, HW3.out, ?_, HF3.out⟩
  have h := ((HR1.out.trans HR2.out).trans HR3.out)
  have e : lineT ⟨4, sa, sb, sc, sep, ty, val, pl⟩ = (((([⟨#[106, 111, 105, 110, 32]⟩, sa, ⟨#[44, 32]⟩, sb, ⟨#[32, 119, 105, 116, 104, 32]⟩] : List ByteArray).flatMap fun p => p.data.toList) ++ L.Quote sep.data.toList) ++ (([⟨#[32, 105, 110, 116, 111, 32]⟩, sc] : List ByteArray).flatMap fun p => p.data.toList)) := by
    simp [P.lineT]
  rw [e]; exact h
set_option maxHeartbeats 4000000 in
set_option maxRecDepth 100000 in
theorem ret_calls {B b : Nat} {bs : List UInt8} (w : World) (sa sb sc sep ty : ByteArray) (A : Option Addr) (n cc : Nat) (pl : Int) (val : List Nd) (hW : Wr w B b bs) (hs : sa.size ≤ 8388608 ∧ sb.size ≤ 8388608 ∧ sc.size ≤ 8388608 ∧ ty.size ≤ 8388608) :
    Calls Tryd.prog 53 #[.pointer (some ⟨b, 0, none⟩), .agg #[.int .i64 5, .string sa, .string sb, .string sc, .string sep, .string ty, .slice A n cc, .int .i64 pl]] w fun e w' => e = .returned (.tuple #[]) ∧ ∃ r, Wr w' B b r ∧ Wrote bs (lineT ⟨5, sa, sb, sc, sep, ty, val, pl⟩) r ∧ Fw B b w w' := by
  obtain ⟨wA, hwA⟩ : ∃ wA, wA = w.alloc (.cells #[.int .i64 5, .string sa, .string sb, .string sc, .string sep, .string ty, .slice A n cc, .int .i64 pl] 55) := ⟨_, rfl⟩
  have hbA : Below w.heap.size w wA := by rw [hwA]; exact below_alloc (Below.refl _ _) _
  have HW0 := Aside0.mk (hW.below hbA)
  have HF0 := Aside0.mk (Fw.of_below (b := b) hbA hW.base)
  have HX0 := Aside0.mk (show wA.heap[w.heap.size]? = some (.cells #[.int .i64 5, .string sa, .string sb, .string sc, .string sep, .string ty, .slice A n cc, .int .i64 pl] 55 (0, 0)) from by rw [hwA]; exact blk_new _ _)
  have HSZ : Aside0 (wA.heap.size = w.heap.size + 1) := ⟨by rw [hwA]; simp⟩
  have HE := Aside0.mk hwA
  have HS := Aside0.mk hs
  clear hW hs hwA hbA
  go_enter Tryd.func53, Tryd.ntmps53
  go_wp2_with fail
  rw [← HE.out, ← HSZ.out]
  refine (say_lit wA [⟨#[114, 101, 116, 121, 112, 101, 32]⟩, sa, ⟨#[32, 116, 111, 32]⟩, ty] 4 rfl HW0.out (by simp) (by intro p hp; simp only [List.mem_cons, List.not_mem_nil, or_false] at hp; rcases hp with rfl | rfl | rfl | rfl <;> first | decide | exact HS.out.1 | exact HS.out.2.1 | exact HS.out.2.2.1 | exact HS.out.2.2.2)).mono ?_
  rintro e w1 ⟨rfl, r1, hW1, hr1, hf1⟩
  have HW1 := Aside0.mk hW1
  have HR1 := Aside0.mk hr1
  have HF1 := Aside0.mk (HF0.out.trans hf1)
  have HX1 := Aside0.mk (hf1.blk HW0.out HX0.out (by decide) (by decide))
  clear hW1 hr1 hf1
  go_wp2
  go_end0
  refine ⟨rfl, r1, HW1.out, ?_, HF1.out⟩
  have h := HR1.out
  have e : lineT ⟨5, sa, sb, sc, sep, ty, val, pl⟩ = (([⟨#[114, 101, 116, 121, 112, 101, 32]⟩, sa, ⟨#[32, 116, 111, 32]⟩, ty] : List ByteArray).flatMap fun p => p.data.toList) := by
    simp [P.lineT]
  rw [e]; exact h
set_option maxHeartbeats 4000000 in
set_option maxRecDepth 100000 in
theorem dro_calls {B b : Nat} {bs : List UInt8} (w : World) (sa sb sc sep ty : ByteArray) (A : Option Addr) (n cc : Nat) (pl : Int) (val : List Nd) (hW : Wr w B b bs) (hs : sa.size ≤ 8388608 ∧ sb.size ≤ 8388608 ∧ sc.size ≤ 8388608 ∧ ty.size ≤ 8388608) :
    Calls Tryd.prog 54 #[.pointer (some ⟨b, 0, none⟩), .agg #[.int .i64 6, .string sa, .string sb, .string sc, .string sep, .string ty, .slice A n cc, .int .i64 pl]] w fun e w' => e = .returned (.tuple #[]) ∧ ∃ r, Wr w' B b r ∧ Wrote bs (lineT ⟨6, sa, sb, sc, sep, ty, val, pl⟩) r ∧ Fw B b w w' := by
  obtain ⟨wA, hwA⟩ : ∃ wA, wA = w.alloc (.cells #[.int .i64 6, .string sa, .string sb, .string sc, .string sep, .string ty, .slice A n cc, .int .i64 pl] 55) := ⟨_, rfl⟩
  have hbA : Below w.heap.size w wA := by rw [hwA]; exact below_alloc (Below.refl _ _) _
  have HW0 := Aside0.mk (hW.below hbA)
  have HF0 := Aside0.mk (Fw.of_below (b := b) hbA hW.base)
  have HX0 := Aside0.mk (show wA.heap[w.heap.size]? = some (.cells #[.int .i64 6, .string sa, .string sb, .string sc, .string sep, .string ty, .slice A n cc, .int .i64 pl] 55 (0, 0)) from by rw [hwA]; exact blk_new _ _)
  have HSZ : Aside0 (wA.heap.size = w.heap.size + 1) := ⟨by rw [hwA]; simp⟩
  have HE := Aside0.mk hwA
  have HS := Aside0.mk hs
  clear hW hs hwA hbA
  go_enter Tryd.func54, Tryd.ntmps54
  go_wp2_with fail
  rw [← HE.out, ← HSZ.out]
  refine (say_lit wA [⟨#[100, 114, 111, 112, 32]⟩, sa] 2 rfl HW0.out (by simp) (by intro p hp; simp only [List.mem_cons, List.not_mem_nil, or_false] at hp; rcases hp with rfl | rfl <;> first | decide | exact HS.out.1 | exact HS.out.2.1 | exact HS.out.2.2.1 | exact HS.out.2.2.2)).mono ?_
  rintro e w1 ⟨rfl, r1, hW1, hr1, hf1⟩
  have HW1 := Aside0.mk hW1
  have HR1 := Aside0.mk hr1
  have HF1 := Aside0.mk (HF0.out.trans hf1)
  have HX1 := Aside0.mk (hf1.blk HW0.out HX0.out (by decide) (by decide))
  clear hW1 hr1 hf1
  go_wp2
  go_end0
  refine ⟨rfl, r1, HW1.out, ?_, HF1.out⟩
  have h := HR1.out
  have e : lineT ⟨6, sa, sb, sc, sep, ty, val, pl⟩ = (([⟨#[100, 114, 111, 112, 32]⟩, sa] : List ByteArray).flatMap fun p => p.data.toList) := by
    simp [P.lineT]
  rw [e]; exact h
set_option maxHeartbeats 4000000 in
set_option maxRecDepth 100000 in
theorem add_calls {B b : Nat} {bs : List UInt8} (w : World) (sa sb sc sep ty : ByteArray) (A : Option Addr) (n cc : Nat) (pl : Int) (val : List Nd) (hW : Wr w B b bs) (hs : sa.size ≤ 8388608 ∧ sb.size ≤ 8388608 ∧ sc.size ≤ 8388608 ∧ ty.size ≤ 8388608) (hn : n = val.length) (hE : val.length ≠ 0 → judgeE val = 0) (hl : val.length ≤ 1099511627776) (hr : Rng val) (hT : U.Tab B w) (hC : RdN B w A val) :
    Calls Tryd.prog 49 #[.pointer (some ⟨b, 0, none⟩), .agg #[.int .i64 1, .string sa, .string sb, .string sc, .string sep, .string ty, .slice A n cc, .int .i64 pl]] w fun e w' => e = .returned (.tuple #[]) ∧ ∃ r, Wr w' B b r ∧ Wrote bs (lineT ⟨1, sa, sb, sc, sep, ty, val, pl⟩) r ∧ Fw B b w w' := by
  obtain ⟨wA, hwA⟩ : ∃ wA, wA = w.alloc (.cells #[.int .i64 1, .string sa, .string sb, .string sc, .string sep, .string ty, .slice A n cc, .int .i64 pl] 55) := ⟨_, rfl⟩
  have hbA : Below w.heap.size w wA := by rw [hwA]; exact below_alloc (Below.refl _ _) _
  have HW0 := Aside0.mk (hW.below hbA)
  have HF0 := Aside0.mk (Fw.of_below (b := b) hbA hW.base)
  have HX0 := Aside0.mk (show wA.heap[w.heap.size]? = some (.cells #[.int .i64 1, .string sa, .string sb, .string sc, .string sep, .string ty, .slice A n cc, .int .i64 pl] 55 (0, 0)) from by rw [hwA]; exact blk_new _ _)
  have HSZ : Aside0 (wA.heap.size = w.heap.size + 1) := ⟨by rw [hwA]; simp⟩
  have HE := Aside0.mk hwA
  have HS := Aside0.mk hs
  have HT0 := Aside0.mk (hT.step HF0.out.below)
  have HC0 := Aside0.mk (hC.step HF0.out.below)
  have HL := Aside0.mk hl
  have HRG := Aside0.mk hr
  subst hn
  clear hl hr hT hC
  clear hW hs hwA hbA
  by_cases hv : val.length = 0
  · have z1 : decide (0 < (val.length : Int)) = false := decide_eq_false (by omega)
    have z2 : decide (0 < val.length) = false := decide_eq_false (by omega)
    have HLN : Aside0 (lineT ⟨1, sa, sb, sc, sep, ty, val, pl⟩ = (([⟨#[97, 100, 100, 32]⟩, sa, ⟨#[58, 32]⟩, ty] : List ByteArray).flatMap fun p => p.data.toList)) := ⟨by simp [P.lineT, hv]⟩
    clear hE hv
    go_enter Tryd.func49, Tryd.ntmps49
    go_wp2_with fail
    rw [← HE.out, ← HSZ.out]
    refine (say_lit wA [⟨#[97, 100, 100, 32]⟩, sa, ⟨#[58, 32]⟩, ty] 4 rfl HW0.out (by simp) (by intro p hp; simp only [List.mem_cons, List.not_mem_nil, or_false] at hp; rcases hp with rfl | rfl | rfl | rfl <;> first | decide | exact HS.out.1 | exact HS.out.2.1 | exact HS.out.2.2.1 | exact HS.out.2.2.2)).mono ?_
    rintro e w1 ⟨rfl, r1, hW1, hr1, hf1⟩
    have HW1 := Aside0.mk hW1
    have HR1 := Aside0.mk hr1
    have HF1 := Aside0.mk (HF0.out.trans hf1)
    have HX1 := Aside0.mk (hf1.blk HW0.out HX0.out (by decide) (by decide))
    clear hW1 hr1 hf1
    obtain ⟨y0, y1, y2, y3, y4, y5, y6, y7⟩ := box8 HX1.out
    go_wp2
    go_end0
    exact ⟨rfl, r1, HW1.out, by rw [HLN.out]; exact HR1.out, HF1.out⟩
  · have z1 : decide (0 < (val.length : Int)) = true := decide_eq_true (by omega)
    have z2 : decide (0 < val.length) = true := decide_eq_true (by omega)
    obtain ⟨t, hb, _⟩ := judge_zero (hE hv)
    have HB := Aside0.mk hb
    have HWF := Aside0.mk (P.build_wf hb HRG.out (by simp) t (by simp))
    have HLN : Aside0 (lineT ⟨1, sa, sb, sc, sep, ty, val, pl⟩ = (([⟨#[97, 100, 100, 32]⟩, sa, ⟨#[58, 32]⟩, ty] : List ByteArray).flatMap fun p => p.data.toList) ++ ((([⟨#[32, 61, 32]⟩] : List ByteArray).flatMap fun p => p.data.toList) ++ tx t)) := ⟨by rw [← txV_of hb]; simp [P.lineT, hv]⟩
    clear hE hv hb
    go_enter Tryd.func49, Tryd.ntmps49
    go_wp2_with fail
    rw [← HE.out, ← HSZ.out]
    refine (say_lit wA [⟨#[97, 100, 100, 32]⟩, sa, ⟨#[58, 32]⟩, ty] 4 rfl HW0.out (by simp) (by intro p hp; simp only [List.mem_cons, List.not_mem_nil, or_false] at hp; rcases hp with rfl | rfl | rfl | rfl <;> first | decide | exact HS.out.1 | exact HS.out.2.1 | exact HS.out.2.2.1 | exact HS.out.2.2.2)).mono ?_
    rintro e w1 ⟨rfl, r1, hW1, hr1, hf1⟩
    have HW1 := Aside0.mk hW1
    have HR1 := Aside0.mk hr1
    have HFA1 := Aside0.mk hf1.below
    have HF1 := Aside0.mk (HF0.out.trans hf1)
    have HX1 := Aside0.mk (hf1.blk HW0.out HX0.out (by decide) (by decide))
    clear hW1 hr1 hf1
    obtain ⟨y0, y1, y2, y3, y4, y5, y6, y7⟩ := box8 HX1.out
    go_wp2_with fail
    refine (say_lit w1 [⟨#[32, 61, 32]⟩] 1 rfl HW1.out (by simp) (by intro p hp; rw [List.mem_singleton] at hp; subst hp; first | decide | exact HS.out.1)).mono ?_
    rintro e w2 ⟨rfl, r2, hW2, hr2, hf2⟩
    have HW2 := Aside0.mk hW2
    have HR2 := Aside0.mk hr2
    have HFD := Aside0.mk (HFA1.out.trans hf2.below)
    have HF2 := Aside0.mk (HF1.out.trans hf2)
    have HX2 := Aside0.mk (hf2.blk HW1.out HX1.out (by decide) (by decide))
    clear hW2 hr2 hf2
    obtain ⟨y0, y1, y2, y3, y4, y5, y6, y7⟩ := box8 HX2.out
    have HC2 := Aside0.mk ((HC0.out.step (HFD.out)).out _ (Below.refl _ _))
    go_wp2_with fail
    refine (grown_calls w2 A cc val t HC2.out HL.out HB.out).mono ?_
    rintro e w3 ⟨x, rfl, hi, hb3⟩
    have HI3 := Aside0.mk (hi.move (ok' := fun _ => True) (fun g cur _ _ => ⟨rfl, trivial⟩))
    have HW3 := Aside0.mk (HW2.out.below hb3)
    have HF3 := Aside0.mk (HF2.out.trans (Fw.of_below hb3 HW2.out.base))
    have HT3 := Aside0.mk ((HT0.out.step HFD.out).step (Below.lowr hb3 HW2.out.base))
    clear hi hb3
    go_wp2_with fail
    refine (expr_ok (dep t) t (Nat.le_refl _) HWF.out w3 x r2 HW3.out HI3.out HT3.out).mono ?_
    rintro e w4 ⟨rfl, r4, hW4, hr4, hf4⟩
    have HW4 := Aside0.mk hW4
    have HR4 := Aside0.mk hr4
    have HF4 := Aside0.mk (HF3.out.trans hf4)
    clear hW4 hr4 hf4
    go_wp2
    go_end0
    refine ⟨rfl, r4, HW4.out, ?_, HF4.out⟩
    have h := HR1.out.trans (HR2.out.trans HR4.out)
    rw [HLN.out]; exact h
end Go.Proofs.YtaijoghpfobdbaaDoor.W
end
section
set_option linter.unusedVariables false
set_option linter.unusedSimpArgs false
namespace Go.Proofs.YtaijoghpfobdbaaDoor.W
open Go.RowKit Go.Proofs.YtaijoghpfobdbaaDoor.X Go.Proofs.YtaijoghpfobdbaaDoorW.PrintWords Go.Proofs.YtaijoghpfobdbaaDoorW.PrintLast Go.Proofs.YtaijoghpfobdbaaDoorW.PrintMore
open Go.ChangeMaps (setBlock heap_setBlock_same heap_setBlock_other)
section
variable {P : Program} {w : World} {t k e : TypeId} {b : Nat} {es : Array MapEntry} {clk : Nat}
theorem run_ck (hk : P.underlying k = some (.int .i64)) (em : Bool) (s : Int) : (Instr.checkKey em 10000 k (.int .i64 s)).run P w = .ok () w := by
  unfold Instr.checkKey
  simp [run_underlying hk, Result.andThen]
theorem run_fk (hk : P.underlying k = some (.int .i64)) (s : Int) (l : List MapEntry) {r : Option (Nat × Value)} (hf : Instr.findNow (.int .i64) (.int .i64 s) l 0 = some r) : (Instr.findKey k (.int .i64 s) l).run P w = .ok r w := by
  unfold Instr.findKey
  simp [run_underlying hk, hf, Result.andThen]
theorem run_lay (ht : P.underlying t = some (.map k e)) (hk : P.underlying k = some (.int .i64)) (hb : w.heap[b]? = some (.map es clk)) (s : Int) (v : Value) (hf : Instr.findNow (.int .i64) (.int .i64 s) es.toList 0 = some none) :
    (Instr.mapUpdate t (.map (some b)) (.int .i64 s) v).run P w = .ok () (setBlock w b (.map (es.push ⟨.int .i64 s, v, clk⟩) (clk + 1))) := by
  simp [Instr.mapUpdate, run_underlying ht, MapKept.run_getObj_map hb, run_ck hk, run_fk hk s _ hf, MapKept.run_setObj_map _ hb, Result.andThen, setBlock]
theorem run_look (ht : P.underlying t = some (.map k e)) (hk : P.underlying k = some (.int .i64)) (hb : w.heap[b]? = some (.map es clk)) (s : Int) {i : Nat} {v : Value} (hf : Instr.findNow (.int .i64) (.int .i64 s) es.toList 0 = some (some (i, v))) :
    (Instr.lookup t (.map (some b)) (.int .i64 s) false).run P w = .ok v w := by
  simp [Instr.lookup, run_underlying ht, MapKept.run_getObj_map hb, run_ck hk, run_fk hk s _ hf, Result.andThen]
theorem below_lay {B : Nat} {W : World} (h : Below B W w) (hb : w.heap[b]? = some (.map es clk)) (hB : B ≤ b) (o : Obj) : Below B W (setBlock w b o) :=
  ⟨h.os, h.tape, h.output, by have := h.size; simp only [setBlock, Array.size_setIfInBounds]; omega, fun i hi => (heap_setBlock_other hb o (by omega)).trans (h.block i hi)⟩
end
def six (b : Nat) : Array MapEntry := #[⟨.int .i64 1, .func (.func 49) #[.pointer (some ⟨b, 0, none⟩)] #[], 0⟩, ⟨.int .i64 2, .func (.func 50) #[.pointer (some ⟨b, 0, none⟩)] #[], 1⟩, ⟨.int .i64 3, .func (.func 51) #[.pointer (some ⟨b, 0, none⟩)] #[], 2⟩, ⟨.int .i64 4, .func (.func 52) #[.pointer (some ⟨b, 0, none⟩)] #[], 3⟩, ⟨.int .i64 5, .func (.func 53) #[.pointer (some ⟨b, 0, none⟩)] #[], 4⟩, ⟨.int .i64 6, .func (.func 54) #[.pointer (some ⟨b, 0, none⟩)] #[], 5⟩]
theorem six_runs (b : Nat) (w : World) : ∃ M1 M2 M3 M4 M5 M6 : World,
    (Instr.mapUpdate 75 (.map (some w.heap.size)) (.int .i64 1) (.func (.func 49) #[.pointer (some ⟨b, 0, none⟩)] #[])).run Tryd.prog (w.alloc (.map #[] 0)) = .ok () M1 ∧
    (Instr.mapUpdate 75 (.map (some w.heap.size)) (.int .i64 2) (.func (.func 50) #[.pointer (some ⟨b, 0, none⟩)] #[])).run Tryd.prog M1 = .ok () M2 ∧
    (Instr.mapUpdate 75 (.map (some w.heap.size)) (.int .i64 3) (.func (.func 51) #[.pointer (some ⟨b, 0, none⟩)] #[])).run Tryd.prog M2 = .ok () M3 ∧
    (Instr.mapUpdate 75 (.map (some w.heap.size)) (.int .i64 4) (.func (.func 52) #[.pointer (some ⟨b, 0, none⟩)] #[])).run Tryd.prog M3 = .ok () M4 ∧
    (Instr.mapUpdate 75 (.map (some w.heap.size)) (.int .i64 5) (.func (.func 53) #[.pointer (some ⟨b, 0, none⟩)] #[])).run Tryd.prog M4 = .ok () M5 ∧
    (Instr.mapUpdate 75 (.map (some w.heap.size)) (.int .i64 6) (.func (.func 54) #[.pointer (some ⟨b, 0, none⟩)] #[])).run Tryd.prog M5 = .ok () M6 ∧
    M6.heap[w.heap.size]? = some (.map (six b) 6) ∧ Below w.heap.size w M6 := by
  have h0 : (w.alloc (.map #[] 0)).heap[w.heap.size]? = some (.map #[] 0) := blk_new w _
  have r1 := run_lay (P := Tryd.prog) (t := 75) Tryd.underlying75 Tryd.underlying3 h0 1 (.func (.func 49) #[.pointer (some ⟨b, 0, none⟩)] #[]) (by rfl)
  have h1 := heap_setBlock_same h0 (.map (#[⟨.int .i64 1, .func (.func 49) #[.pointer (some ⟨b, 0, none⟩)] #[], 0⟩] : Array MapEntry) 1)
  have r2 := run_lay (P := Tryd.prog) (t := 75) Tryd.underlying75 Tryd.underlying3 h1 2 (.func (.func 50) #[.pointer (some ⟨b, 0, none⟩)] #[]) (by rfl)
  have h2 := heap_setBlock_same h1 (.map (#[⟨.int .i64 1, .func (.func 49) #[.pointer (some ⟨b, 0, none⟩)] #[], 0⟩, ⟨.int .i64 2, .func (.func 50) #[.pointer (some ⟨b, 0, none⟩)] #[], 1⟩] : Array MapEntry) 2)
  have r3 := run_lay (P := Tryd.prog) (t := 75) Tryd.underlying75 Tryd.underlying3 h2 3 (.func (.func 51) #[.pointer (some ⟨b, 0, none⟩)] #[]) (by rfl)
  have h3 := heap_setBlock_same h2 (.map (#[⟨.int .i64 1, .func (.func 49) #[.pointer (some ⟨b, 0, none⟩)] #[], 0⟩, ⟨.int .i64 2, .func (.func 50) #[.pointer (some ⟨b, 0, none⟩)] #[], 1⟩, ⟨.int .i64 3, .func (.func 51) #[.pointer (some ⟨b, 0, none⟩)] #[], 2⟩] : Array MapEntry) 3)
  have r4 := run_lay (P := Tryd.prog) (t := 75) Tryd.underlying75 Tryd.underlying3 h3 4 (.func (.func 52) #[.pointer (some ⟨b, 0, none⟩)] #[]) (by rfl)
  have h4 := heap_setBlock_same h3 (.map (#[⟨.int .i64 1, .func (.func 49) #[.pointer (some ⟨b, 0, none⟩)] #[], 0⟩, ⟨.int .i64 2, .func (.func 50) #[.pointer (some ⟨b, 0, none⟩)] #[], 1⟩, ⟨.int .i64 3, .func (.func 51) #[.pointer (some ⟨b, 0, none⟩)] #[], 2⟩, ⟨.int .i64 4, .func (.func 52) #[.pointer (some ⟨b, 0, none⟩)] #[], 3⟩] : Array MapEntry) 4)
  have r5 := run_lay (P := Tryd.prog) (t := 75) Tryd.underlying75 Tryd.underlying3 h4 5 (.func (.func 53) #[.pointer (some ⟨b, 0, none⟩)] #[]) (by rfl)
  have h5 := heap_setBlock_same h4 (.map (#[⟨.int .i64 1, .func (.func 49) #[.pointer (some ⟨b, 0, none⟩)] #[], 0⟩, ⟨.int .i64 2, .func (.func 50) #[.pointer (some ⟨b, 0, none⟩)] #[], 1⟩, ⟨.int .i64 3, .func (.func 51) #[.pointer (some ⟨b, 0, none⟩)] #[], 2⟩, ⟨.int .i64 4, .func (.func 52) #[.pointer (some ⟨b, 0, none⟩)] #[], 3⟩, ⟨.int .i64 5, .func (.func 53) #[.pointer (some ⟨b, 0, none⟩)] #[], 4⟩] : Array MapEntry) 5)
  have r6 := run_lay (P := Tryd.prog) (t := 75) Tryd.underlying75 Tryd.underlying3 h5 6 (.func (.func 54) #[.pointer (some ⟨b, 0, none⟩)] #[]) (by rfl)
  have h6 := heap_setBlock_same h5 (.map (#[⟨.int .i64 1, .func (.func 49) #[.pointer (some ⟨b, 0, none⟩)] #[], 0⟩, ⟨.int .i64 2, .func (.func 50) #[.pointer (some ⟨b, 0, none⟩)] #[], 1⟩, ⟨.int .i64 3, .func (.func 51) #[.pointer (some ⟨b, 0, none⟩)] #[], 2⟩, ⟨.int .i64 4, .func (.func 52) #[.pointer (some ⟨b, 0, none⟩)] #[], 3⟩, ⟨.int .i64 5, .func (.func 53) #[.pointer (some ⟨b, 0, none⟩)] #[], 4⟩, ⟨.int .i64 6, .func (.func 54) #[.pointer (some ⟨b, 0, none⟩)] #[], 5⟩] : Array MapEntry) 6)
  refine ⟨_, _, _, _, _, _, r1, r2, r3, r4, r5, r6, h6, ?_⟩
  refine below_lay (below_lay (below_lay (below_lay (below_lay (below_lay ?_ h0 (Nat.le_refl _) _) h1 (Nat.le_refl _) _) h2 (Nat.le_refl _) _) h3 (Nat.le_refl _) _) h4 (Nat.le_refl _) _) h5 (Nat.le_refl _) _
  exact (Below.refl _ _).alloc (Nat.le_refl _) _
set_option maxHeartbeats 2000000 in
set_option maxRecDepth 100000 in
theorem writers_calls (b : Nat) (w : World) : Calls Tryd.prog 25 #[.pointer (some ⟨b, 0, none⟩)] w fun e w' => e = .returned (.map (some w.heap.size)) ∧ w'.heap[w.heap.size]? = some (.map (six b) 6) ∧ Below w.heap.size w w' := by
  obtain ⟨M1, M2, M3, M4, M5, M6, r1, r2, r3, r4, r5, r6, hm, hb⟩ := six_runs b w
  have HM := Aside0.mk hm
  have HB := Aside0.mk hb
  have hmk := @run_makeMap Tryd.prog
  clear hm hb
  go_enter Tryd.func25, Tryd.ntmps25
  go_wp2
  go_ret
  exact ⟨rfl, HM.out, HB.out⟩
theorem six_look {w : World} {b g : Nat} (h : w.heap[g]? = some (.map (six b) 6)) :
    (Instr.lookup 75 (.map (some g)) (.int .i64 1) false).run Tryd.prog w = .ok (.func (.func 49) #[.pointer (some ⟨b, 0, none⟩)] #[]) w ∧
    (Instr.lookup 75 (.map (some g)) (.int .i64 2) false).run Tryd.prog w = .ok (.func (.func 50) #[.pointer (some ⟨b, 0, none⟩)] #[]) w ∧
    (Instr.lookup 75 (.map (some g)) (.int .i64 3) false).run Tryd.prog w = .ok (.func (.func 51) #[.pointer (some ⟨b, 0, none⟩)] #[]) w ∧
    (Instr.lookup 75 (.map (some g)) (.int .i64 4) false).run Tryd.prog w = .ok (.func (.func 52) #[.pointer (some ⟨b, 0, none⟩)] #[]) w ∧
    (Instr.lookup 75 (.map (some g)) (.int .i64 5) false).run Tryd.prog w = .ok (.func (.func 53) #[.pointer (some ⟨b, 0, none⟩)] #[]) w ∧
    (Instr.lookup 75 (.map (some g)) (.int .i64 6) false).run Tryd.prog w = .ok (.func (.func 54) #[.pointer (some ⟨b, 0, none⟩)] #[]) w :=
  ⟨run_look Tryd.underlying75 Tryd.underlying3 h 1 (i := 0) (by rfl), run_look Tryd.underlying75 Tryd.underlying3 h 2 (i := 1) (by rfl), run_look Tryd.underlying75 Tryd.underlying3 h 3 (i := 2) (by rfl), run_look Tryd.underlying75 Tryd.underlying3 h 4 (i := 3) (by rfl), run_look Tryd.underlying75 Tryd.underlying3 h 5 (i := 4) (by rfl), run_look Tryd.underlying75 Tryd.underlying3 h 6 (i := 5) (by rfl)⟩
end Go.Proofs.YtaijoghpfobdbaaDoor.W
end
section
set_option linter.unusedVariables false
set_option linter.unusedSimpArgs false
namespace Go.Proofs.YtaijoghpfobdbaaDoor.W
open Go.RowKit Go.Proofs.YtaijoghpfobdbaaDoor.X Go.Proofs.YtaijoghpfobdbaaDoorW.PrintWords Go.Proofs.YtaijoghpfobdbaaDoorW.PrintLast Go.Proofs.YtaijoghpfobdbaaDoorW.PrintMore
open Go.Proofs.YtaijoghpfobdbaaDoor.P (Tr Nd Wrote puts put fin kv kd sg build dep dmx pile judgeE tx txs txN sepL WF StD VeD EvD wordB nameB emB noV goodB wordList wrs stE allE veE evE wholeE lineT txV stT veT evT schT schE)
def stCs (d : StD) (A : Option Addr) (c : Nat) : Array Value := #[.int .i64 d.k, .string d.a, .string d.b, .string d.c, .string d.sep, .string d.ty, .slice A d.val.length c, .int .i64 d.pl]
theorem em_size {s : ByteArray} (h : emB s = true) : s.size ≤ 8388608 := by
  have h2 : s.toList = [] := eq_of_beq h
  rw [ByteArray.toList_eq] at h2
  rw [← data_length, h2]; simp
theorem nm_size {s : ByteArray} (h : nameB s = true) : s.size ≤ 8388608 := by have := P.name_size h; omega
theorem line_ok {B b : Nat} (d : StD) (h : stE d = 0) (hl : d.val.length ≤ 1099511627776) (hr : Rng d.val) :
    ∃ fn : Nat, (∀ args W, (callFunc fn args).run Tryd.prog W = .ok (.enter fn args) W) ∧ (∀ W g, W.heap[g]? = some (.map (six b) 6) → (Instr.lookup 75 (.map (some g)) (.int .i64 d.k) false).run Tryd.prog W = .ok (.func (.func fn) #[.pointer (some ⟨b, 0, none⟩)] #[]) W) ∧
      (∀ W bs A c, Wr W B b bs → U.Tab B W → RdN B W A d.val → Calls Tryd.prog fn #[.pointer (some ⟨b, 0, none⟩), .agg (stCs d A c)] W fun e w' => e = .returned (.tuple #[]) ∧ ∃ r, Wr w' B b r ∧ Wrote bs (lineT d) r ∧ Fw B b W w') := by
  have hg : goodB d = true := by
    unfold stE at h
    split at h
    · assumption
    · cases h
  have hj : d.val.length ≠ 0 → judgeE d.val = 0 := by
    intro h0
    unfold stE at h
    rw [if_pos hg, if_neg h0] at h
    exact h
  clear h
  obtain ⟨k, sa, sb, sc, sep, ty, val, pl⟩ := d
  unfold goodB at hg
  simp only at hg hj hl hr ⊢
  split at hg
  · rename_i hk
    subst hk
    simp only [List.all_cons, List.all_nil, Bool.and_true, Bool.and_eq_true] at hg
    exact ⟨49, enters_of Tryd.func49 (by kernel_rfl) rfl, fun W g h => (six_look h).1, fun W bs A c hW hT hC => add_calls W sa sb sc sep ty A _ c pl val hW ⟨nm_size hg.1.1, em_size hg.2.1, em_size hg.2.2.1, nm_size hg.1.2⟩ rfl hj hl hr hT hC⟩
  split at hg
  · rename_i hk
    subst hk
    simp only [List.all_cons, List.all_nil, Bool.and_true, Bool.and_eq_true] at hg
    exact ⟨50, enters_of Tryd.func50 (by kernel_rfl) rfl, fun W g h => (six_look h).2.1, fun W bs A c hW hT hC => ren_calls W sa sb sc sep ty A _ c pl val hW ⟨nm_size hg.1.1.1, nm_size hg.1.1.2, em_size hg.1.2, em_size hg.2.1.2⟩⟩
  split at hg
  · rename_i hk
    simp only [List.all_cons, List.all_nil, Bool.and_true, Bool.and_eq_true] at hg
    have hs : sa.size ≤ 8388608 ∧ sb.size ≤ 8388608 ∧ sc.size ≤ 8388608 ∧ ty.size ≤ 8388608 := ⟨nm_size hg.1.1.1, nm_size hg.1.1.2.1, nm_size hg.1.1.2.2, em_size hg.1.2⟩
    rcases hk with hk | hk
    · subst hk
      exact ⟨51, enters_of Tryd.func51 (by kernel_rfl) rfl, fun W g h => (six_look h).2.2.1, fun W bs A c hW hT hC => spl_calls W sa sb sc sep ty A _ c pl val hW hs⟩
    · subst hk
      exact ⟨52, enters_of Tryd.func52 (by kernel_rfl) rfl, fun W g h => (six_look h).2.2.2.1, fun W bs A c hW hT hC => joi_calls W sa sb sc sep ty A _ c pl val hW hs⟩
  split at hg
  · rename_i hk
    subst hk
    simp only [List.all_cons, List.all_nil, Bool.and_true, Bool.and_eq_true] at hg
    exact ⟨53, enters_of Tryd.func53 (by kernel_rfl) rfl, fun W g h => (six_look h).2.2.2.2.1, fun W bs A c hW hT hC => ret_calls W sa sb sc sep ty A _ c pl val hW ⟨nm_size hg.1.1.1, em_size hg.1.2.1, em_size hg.1.2.2.1, nm_size hg.1.1.2⟩⟩
  split at hg
  · rename_i hk
    subst hk
    simp only [List.all_cons, List.all_nil, Bool.and_true, Bool.and_eq_true] at hg
    exact ⟨54, enters_of Tryd.func54 (by kernel_rfl) rfl, fun W g h => (six_look h).2.2.2.2.2, fun W bs A c hW hT hC => dro_calls W sa sb sc sep ty A _ c pl val hW ⟨nm_size hg.1.1, em_size hg.1.2.1, em_size hg.1.2.2, em_size hg.2.1.2⟩⟩
  · cases hg
def GoodE (es : List EvD) : Prop := ∀ e, e ∈ es → ∀ v, v ∈ e.vers → (0 ≤ v.num ∧ v.num < 18446744073709551616) ∧ ∀ d, d ∈ v.steps → d.val.length ≤ 1099511627776 ∧ Rng d.val
theorem GoodE.bd {es : List EvD} (h : GoodE es) : BdE es := fun e he v hv d hd => ((h e he v hv).2 d hd).1
theorem flat_next {α : Type} (f : α → List UInt8) (l : List α) (i : Nat) (hi : i < l.length) : (l.take (i + 1)).flatMap f = (l.take i).flatMap f ++ f l[i] := by
  rw [List.take_succ_eq_append_getElem hi, List.flatMap_append]; simp
theorem cell_below {w w' : World} {a : Addr} {u : Value} (h : w.cell? a = some u) (hb : Below w.heap.size w w') : w'.cell? a = some u := by
  have hlt : a.block < w.heap.size := by
    rcases Nat.lt_or_ge a.block w.heap.size with h' | h'
    · exact h'
    · simp [World.cell?, Array.getElem?_eq_none h'] at h
  unfold World.cell? at *
  rw [hb.block _ hlt]; exact h
section
variable {w : World} {A : Option Addr}
theorem at_E' {xs : List EvD} (h : Kd.C kE w A xs.length xs) (i : Nat) (hi : i < xs.length) : ∃ ad B c, A = some ad ∧ Kd.C kV w B xs[i].vers.length xs[i].vers ∧ ∀ w', Below w.heap.size w w' → w'.cell? (ad.add (i * 3)) = some (.string xs[i].name) ∧ w'.cell? ⟨(ad.add (i * 3)).block, (ad.add (i * 3)).off + 1, none⟩ = some (.slice B xs[i].vers.length c) ∧ w'.cell? ⟨(ad.add (i * 3)).block, (ad.add (i * 3)).off + 2, none⟩ = some (.int .i64 xs[i].pl) := by
  obtain ⟨ad, B, c, e, h0, h1, h2, hC⟩ := at_E h i hi
  exact ⟨ad, B, c, e, hC, fun w' hb => ⟨cell_below h0 hb, cell_below h1 hb, cell_below h2 hb⟩⟩
theorem at_V' {xs : List VeD} (h : Kd.C kV w A xs.length xs) (i : Nat) (hi : i < xs.length) : ∃ ad B c, A = some ad ∧ Kd.C kS w B xs[i].steps.length xs[i].steps ∧ ∀ w', Below w.heap.size w w' → w'.cell? (ad.add (i * 3)) = some (.int .u64 xs[i].num) ∧ w'.cell? ⟨(ad.add (i * 3)).block, (ad.add (i * 3)).off + 1, none⟩ = some (.slice B xs[i].steps.length c) ∧ w'.cell? ⟨(ad.add (i * 3)).block, (ad.add (i * 3)).off + 2, none⟩ = some (.int .i64 xs[i].pl) := by
  obtain ⟨ad, B, c, e, h0, h1, h2, hC⟩ := at_V h i hi
  exact ⟨ad, B, c, e, hC, fun w' hb => ⟨cell_below h0 hb, cell_below h1 hb, cell_below h2 hb⟩⟩
theorem at_S' {xs : List StD} (h : Kd.C kS w A xs.length xs) (i : Nat) (hi : i < xs.length) : ∃ ad B c, A = some ad ∧ Kd.C k46 w B xs[i].val.length xs[i].val ∧ ∀ w', Below w.heap.size w w' → w'.cell? (ad.add (i * 8)) = some (.int .i64 xs[i].k) ∧ w'.cell? ⟨(ad.add (i * 8)).block, (ad.add (i * 8)).off + 1, none⟩ = some (.string xs[i].a) ∧ w'.cell? ⟨(ad.add (i * 8)).block, (ad.add (i * 8)).off + 2, none⟩ = some (.string xs[i].b) ∧ w'.cell? ⟨(ad.add (i * 8)).block, (ad.add (i * 8)).off + 3, none⟩ = some (.string xs[i].c) ∧ w'.cell? ⟨(ad.add (i * 8)).block, (ad.add (i * 8)).off + 4, none⟩ = some (.string xs[i].sep) ∧ w'.cell? ⟨(ad.add (i * 8)).block, (ad.add (i * 8)).off + 5, none⟩ = some (.string xs[i].ty) ∧ w'.cell? ⟨(ad.add (i * 8)).block, (ad.add (i * 8)).off + 6, none⟩ = some (.slice B xs[i].val.length c) ∧ w'.cell? ⟨(ad.add (i * 8)).block, (ad.add (i * 8)).off + 7, none⟩ = some (.int .i64 xs[i].pl) := by
  obtain ⟨ad, B, c, e, h0, h1, h2, h3, h4, h5, h6, h7, hC⟩ := at_S h i hi
  exact ⟨ad, B, c, e, hC, fun w' hb => ⟨cell_below h0 hb, cell_below h1 hb, cell_below h2 hb, cell_below h3 hb, cell_below h4 hb, cell_below h5 hb, cell_below h6 hb, cell_below h7 hb⟩⟩
end
theorem dec_size (u : Nat) (h : u < 18446744073709551616) : (U.dec u).size ≤ 8388608 := by
  show (Lib.decDigits u).toArray.size ≤ 8388608
  rw [List.size_toArray, Lib.decDigits_length]
  by_cases hu : 1 ≤ u
  · have := Lib.numDigits_eq u hu h; split at this <;> omega
  · obtain rfl : u = 0 := by omega
    rw [Lib.nDigits_small (by omega)]; omega
set_option maxHeartbeats 8000000 in
set_option maxRecDepth 100000 in
theorem schema_calls (w : World) (A : Option Addr) (c : Nat) (es : List EvD) (hC : Kd.C kE w A es.length es) (hG : GoodE es) (hT : U.Tab w.heap.size w) :
    Calls Tryd.prog 11 #[.agg #[.slice A es.length c]] w fun e w' => e = .returned (.tuple #[.string (schE es).1, .int .i64 (schE es).2]) ∧ Below w.heap.size w w' := by
  obtain ⟨w0, hw0⟩ : ∃ w0, w0 = w.alloc (.cells #[.slice A es.length c] 24) := ⟨_, rfl⟩
  have hB0 : Below w.heap.size w w0 := by rw [hw0]; exact below_alloc (Below.refl _ _) _
  have HX0 := Aside0.mk (show w0.heap[w.heap.size]? = some (.cells #[.slice A es.length c] 24 (0, 0)) from by rw [hw0]; exact blk_new _ _)
  have HC0 := Aside0.mk (Kd.C_below hC hB0)
  have HG := Aside0.mk hG
  have HT := Aside0.mk hT
  have HB0 := Aside0.mk hB0
  have HE0 := Aside0.mk hw0
  have HM := Aside0.mk hC.2.1
  have HWH := Aside0.mk (whole_calls w0 A c es HC0.out hG.bd)
  obtain ⟨j, hj⟩ : ∃ j, j = wholeE es := ⟨_, rfl⟩
  rw [← hj] at HWH
  clear hC hG hT hB0 hw0
  by_cases h0 : j = 0
  · subst h0
    have HZ := Aside0.mk (P.allE_zero P.evE P.evE_ok es hj.symm)
    have HSE : Aside0 (schE es = finT (schT es)) := ⟨by unfold schE; rw [if_pos hj.symm]⟩
    clear hj
    go_enter Tryd.func11, Tryd.ntmps11
    go_wp2_with fail
    rw [← HE0.out]
    refine HWH.out.mono ?_
    rintro e w1 ⟨rfl, hb1⟩
    have HB1 := Aside0.mk (below_step HB0.out hb1)
    have HC1 := Aside0.mk (Kd.C_below HC0.out hb1)
    have HX1 := Aside0.mk (blk_below HX0.out hb1)
    obtain ⟨w2, hw2⟩ : ∃ w2, w2 = w1.alloc (.cells #[.pointer none, .slice none 0 0] 74) := ⟨_, rfl⟩
    obtain ⟨b, hb⟩ : ∃ b, b = w1.heap.size := ⟨_, rfl⟩
    have hb2 : Below w1.heap.size w1 w2 := by rw [hw2]; exact below_alloc (Below.refl _ _) _
    have HW2 : Aside0 (Wr w2 b b []) := ⟨by rw [hw2, hb]; exact fresh_w w1⟩
    have HS2 : Aside0 (w2.heap.size = b + 1) := ⟨by rw [hw2, hb]; simp⟩
    have HE2 := Aside0.mk hw2
    have HB12 := Aside0.mk hb2
    clear hb1 hb2 hw2
    go_wp2_with fail
    rw [← HE2.out, ← hb]
    have HBE := Aside0.mk hb
    clear hb
    refine (writers_calls b w2).mono ?_
    rintro e w3 ⟨rfl, hm3, hb3⟩
    obtain ⟨g, hg⟩ : ∃ g, g = w2.heap.size := ⟨_, rfl⟩
    rw [← hg] at hm3 ⊢
    have HM3 := Aside0.mk hm3
    have HGE : Aside0 (g ≠ b) := ⟨by have := HS2.out; omega⟩
    have HW3 := Aside0.mk (HW2.out.below hb3)
    have HB13 := Aside0.mk (below_step HB12.out hb3)
    have HT3 := Aside0.mk (Tab.high (HT.out.step (HB1.out.trans (Below.lowr HB13.out HB1.out.size))) (show w.heap.size ≤ b from by rw [HBE.out]; exact HB1.out.size))
    have HX3 := Aside0.mk (blk_below HX1.out HB13.out)
    have y := (blk_cell HX3.out 0).trans rfl
    clear hm3 hb3 hg
    go_wp2_with fail
    clear y
    go_loopw [25] (fun ti wr => ∃ (i : Nat) (r : List UInt8), ti = .int .i64 (i : Int) ∧ Aside0 (i ≤ es.length) ∧ Aside0 (Wr wr b b r) ∧ Aside0 (Wrote [] ((es.take i).flatMap evT) r) ∧ Aside0 (Fw b b w3 wr)) (fun ti _ => es.length - left ti)
    case atStart => exact ⟨0, [], rfl, ⟨Nat.zero_le _⟩, HW3, ⟨Wrote.refl _⟩, ⟨Fw.refl _ _ _⟩⟩
    case round =>
      obtain ⟨i, r, rfl, hi, HWr, HRr, HFr⟩ := hrel
      by_cases ci : i < es.length
      · have c1 : decide ((i : Int) < (es.length : Int)) = true := decide_eq_true (by omega)
        have c2 : decide (i < es.length) = true := decide_eq_true ci
        have HBR := Aside0.mk (show Below w1.heap.size w1 wr from HB13.out.trans (by rw [← HBE.out]; exact HFr.out.below))
        obtain ⟨ad, Bv, cv, rfl, hCv, hce⟩ := at_E' HC1.out i ci
        have HI := Aside0.mk ci
        have HNX := Aside0.mk (flat_next evT es i ci)
        have hz := HZ.out es[i] (List.getElem_mem ci)
        have HGV := Aside0.mk (HG.out es[i] (List.getElem_mem ci))
        obtain ⟨ev, hev⟩ : ∃ ev, ev = es[i] := ⟨_, rfl⟩
        rw [← hev] at hCv hce HNX HGV hz
        clear hev
        have HCV := Aside0.mk hCv
        have hnm : nameB ev.name = true := by
          unfold evE at hz
          split at hz
          · rename_i h; exact h.1
          · cases hz
        have hzv : allE veE ev.vers = 0 := by
          unfold evE at hz
          split at hz
          · exact hz
          · cases hz
        have HZV := Aside0.mk (P.allE_zero veE P.veE_ok ev.vers hzv)
        have HNM := Aside0.mk (nm_size hnm)
        have HMV := Aside0.mk hCv.2.1
        obtain ⟨x0, x1, x2⟩ := hce wr HBR.out
        obtain ⟨w4, hw4⟩ : ∃ w4, w4 = wr.alloc (.cells #[.string ev.name, .slice Bv ev.vers.length cv, .int .i64 ev.pl] 50) := ⟨_, rfl⟩
        have hb4 : Below wr.heap.size wr w4 := by rw [hw4]; exact below_alloc (Below.refl _ _) _
        obtain ⟨b8, hb8⟩ : ∃ b8, b8 = wr.heap.size := ⟨_, rfl⟩
        have HX4 := Aside0.mk (show w4.heap[b8]? = some (.cells #[.string ev.name, .slice Bv ev.vers.length cv, .int .i64 ev.pl] 50 (0, 0)) from by rw [hw4, hb8]; exact blk_new _ _)
        have HS4 : Aside0 (w4.heap.size = b8 + 1) := ⟨by rw [hw4, hb8]; simp⟩
        have HW4 := Aside0.mk (HWr.out.below hb4)
        have HF4 := Aside0.mk (HFr.out.trans (Fw.of_below hb4 HWr.out.base))
        have HE4 := Aside0.mk hw4
        clear hw4 hb4 hCv hce hz hnm hzv
        go_wp2_with fail
        rw [← HE4.out, ← hb8, ← HS4.out]
        clear hb8 x0 x1 x2
        refine (say_lit w4 [⟨#[101, 118, 101, 110, 116, 32]⟩, ev.name, ⟨#[32, 123, 10]⟩] 3 rfl HW4.out (by simp) (by intro p hp; simp only [List.mem_cons, List.not_mem_nil, or_false] at hp; rcases hp with rfl | rfl | rfl <;> first | decide | exact HNM.out)).mono ?_
        rintro e w5 ⟨rfl, r5, hW5, hr5, hf5⟩
        have HW5 := Aside0.mk hW5
        have HR5 := Aside0.mk hr5
        have HF5 := Aside0.mk (HF4.out.trans hf5)
        have HX5 := Aside0.mk (hf5.blk HW4.out HX4.out (by decide) (by decide))
        have y1 := (blk_cell HX5.out 1).trans rfl
        clear hW5 hr5 hf5
        go_wp2_with fail
        clear y1
        go_loopw [37] (fun ti wr => ∃ (k : Nat) (r : List UInt8), ti = .int .i64 (k : Int) ∧ Aside0 (k ≤ ev.vers.length) ∧ Aside0 (Wr wr b b r) ∧ Aside0 (Wrote r5 ((ev.vers.take k).flatMap veT) r) ∧ Aside0 (Fw b b w5 wr)) (fun ti _ => ev.vers.length - left ti)
        case atStart => exact ⟨0, r5, rfl, ⟨Nat.zero_le _⟩, HW5, ⟨Wrote.refl _⟩, ⟨Fw.refl _ _ _⟩⟩
        case round =>
          obtain ⟨k, r6, rfl, hk, HW6, HR6, HF6⟩ := hrel
          by_cases ck : k < ev.vers.length
          · have d1 : decide ((k : Int) < (ev.vers.length : Int)) = true := decide_eq_true (by omega)
            have d2 : decide (k < ev.vers.length) = true := decide_eq_true ck
            have HBR6 := Aside0.mk (show Below w1.heap.size w1 wr from HB13.out.trans (by rw [← HBE.out]; exact (HF5.out.trans HF6.out).below))
            obtain ⟨av, Bs, cs, rfl, hCs, hcv⟩ := at_V' HCV.out k ck
            have HK := Aside0.mk ck
            have HNV := Aside0.mk (flat_next veT ev.vers k ck)
            have hz := HZV.out ev.vers[k] (List.getElem_mem ck)
            obtain ⟨hnum, hgs⟩ := HGV.out ev.vers[k] (List.getElem_mem ck)
            obtain ⟨ve, hve⟩ : ∃ ve, ve = ev.vers[k] := ⟨_, rfl⟩
            rw [← hve] at hCs hcv HNV hz hnum hgs
            clear hve
            have HCS := Aside0.mk hCs
            have HGS := Aside0.mk hgs
            have HZS := Aside0.mk (P.allE_zero stE P.stE_ok ve.steps hz)
            have HMS := Aside0.mk hCs.2.1
            obtain ⟨x0, x1, x2⟩ := hcv wr HBR6.out
            obtain ⟨u, hu⟩ : ∃ u : Nat, ve.num = (u : Int) := ⟨ve.num.toNat, by omega⟩
            have HU : Aside0 (u < 18446744073709551616) := ⟨by omega⟩
            have HUE : Aside0 (ve.num.toNat = u) := ⟨by rw [hu, Int.toNat_natCast]⟩
            rw [hu] at x0
            obtain ⟨w7, hw7⟩ : ∃ w7, w7 = wr.alloc (.cells #[.int .u64 u, .slice Bs ve.steps.length cs, .int .i64 ve.pl] 53) := ⟨_, rfl⟩
            have hb7 : Below wr.heap.size wr w7 := by rw [hw7]; exact below_alloc (Below.refl _ _) _
            have HX7 := Aside0.mk (show w7.heap[wr.heap.size]? = some (.cells #[.int .u64 u, .slice Bs ve.steps.length cs, .int .i64 ve.pl] 53 (0, 0)) from by rw [hw7]; exact blk_new _ _)
            have HW7 := Aside0.mk (HW6.out.below hb7)
            have HF7 := Aside0.mk (HF6.out.trans (Fw.of_below hb7 HW6.out.base))
            have HE7 := Aside0.mk hw7
            clear hw7 hb7 hCs hcv hz hnum hgs hu
            go_wp2_with fail
            rw [← HE7.out]
            clear x0 x1 x2
            refine (U.format_calls u HU.out HW7.out.base (HT3.out.step (HF5.out.trans HF7.out).below)).mono ?_
            rintro e w8 ⟨rfl, hb8⟩
            have HW8 := Aside0.mk (HW7.out.below hb8)
            have HF8 := Aside0.mk (HF7.out.trans (Fw.of_below hb8 HW7.out.base))
            have HX8 := Aside0.mk (blk_below HX7.out hb8)
            clear hb8
            go_wp2_with fail
            refine (say_lit w8 [⟨#[32, 32, 118, 101, 114, 115, 105, 111, 110, 32]⟩, U.dec u, ⟨#[32, 123, 10]⟩] 3 rfl HW8.out (by simp) (by intro p hp; simp only [List.mem_cons, List.not_mem_nil, or_false] at hp; rcases hp with rfl | rfl | rfl <;> first | decide | exact dec_size u HU.out)).mono ?_
            rintro e w9 ⟨rfl, r9, hW9, hr9, hf9⟩
            have HW9 := Aside0.mk hW9
            have HR9 := Aside0.mk hr9
            have HF9 := Aside0.mk (HF8.out.trans hf9)
            have HX9 := Aside0.mk (hf9.blk HW8.out HX8.out (by decide) (by decide))
            have y1 := (blk_cell HX9.out 1).trans rfl
            clear hW9 hr9 hf9
            go_wp2_with fail
            clear y1
            go_loopw [50] (fun ti wr => ∃ (q : Nat) (r : List UInt8), ti = .int .i64 (q : Int) ∧ Aside0 (q ≤ ve.steps.length) ∧ Aside0 (Wr wr b b r) ∧ Aside0 (Wrote r9 ((ve.steps.take q).flatMap stT) r) ∧ Aside0 (Fw b b w9 wr)) (fun ti _ => ve.steps.length - left ti)
            case atStart => exact ⟨0, r9, rfl, ⟨Nat.zero_le _⟩, HW9, ⟨Wrote.refl _⟩, ⟨Fw.refl _ _ _⟩⟩
            case round =>
              obtain ⟨q, rA, rfl, hq, HWA, HRA, HFA⟩ := hrel
              by_cases cq : q < ve.steps.length
              · have f1 : decide ((q : Int) < (ve.steps.length : Int)) = true := decide_eq_true (by omega)
                have f2 : decide (q < ve.steps.length) = true := decide_eq_true cq
                have HBRA := Aside0.mk (show Below w1.heap.size w1 wr from HB13.out.trans (by rw [← HBE.out]; exact ((HF5.out.trans HF9.out).trans HFA.out).below))
                obtain ⟨ast, Bn, cn, rfl, hCn, hcs⟩ := at_S' HCS.out q cq
                have HQ := Aside0.mk cq
                have HNS := Aside0.mk (flat_next stT ve.steps q cq)
                have hz := HZS.out ve.steps[q] (List.getElem_mem cq)
                obtain ⟨hl, hrg⟩ := HGS.out ve.steps[q] (List.getElem_mem cq)
                obtain ⟨d, hd⟩ : ∃ d, d = ve.steps[q] := ⟨_, rfl⟩
                rw [← hd] at hCn hcs HNS hz hl hrg
                clear hd
                have HCN := Aside0.mk hCn
                obtain ⟨fn, hfn, hlk, hln⟩ := line_ok (B := b) (b := b) d hz hl hrg
                have HLK := Aside0.mk hlk
                have HLN := Aside0.mk hln
                obtain ⟨x0, x1, x2, x3, x4, x5, x6, x7⟩ := hcs wr HBRA.out
                obtain ⟨wB, hwB⟩ : ∃ wB, wB = wr.alloc (.cells (stCs d Bn cn) 55) := ⟨_, rfl⟩
                have hbB : Below wr.heap.size wr wB := by rw [hwB]; exact below_alloc (Below.refl _ _) _
                obtain ⟨b12, hb12⟩ : ∃ b12, b12 = wr.heap.size := ⟨_, rfl⟩
                have HXB := Aside0.mk (show wB.heap[b12]? = some (.cells (stCs d Bn cn) 55 (0, 0)) from by rw [hwB, hb12]; exact blk_new _ _)
                have HSB : Aside0 (wB.heap.size = b12 + 1) := ⟨by rw [hwB, hb12]; simp⟩
                have HWB := Aside0.mk (HWA.out.below hbB)
                have HFB := Aside0.mk (HFA.out.trans (Fw.of_below hbB HWA.out.base))
                have HEB := Aside0.mk (show wB = wr.alloc (.cells #[.int .i64 d.k, .string d.a, .string d.b, .string d.c, .string d.sep, .string d.ty, .slice Bn d.val.length cn, .int .i64 d.pl] 55) from hwB)
                have W1 : Aside0 (wrap64 ((q : Int) + 1) = ((q + 1 : Nat) : Int)) := ⟨by have := HMS.out; unfold wrap64; omega⟩
                clear hwB hbB hCn hcs hz hl hrg hlk hln
                go_wp2_with fail
                rw [← HEB.out, ← hb12, ← HSB.out]
                clear hb12 x0 x1 x2 x3 x4 x5 x6 x7
                refine (say_lit wB [⟨#[32, 32, 32, 32]⟩] 1 rfl HWB.out (by simp) (by intro p hp; rw [List.mem_singleton] at hp; subst hp; decide)).mono ?_
                rintro e wC ⟨rfl, rC, hWC, hrC, hfC⟩
                have HWC := Aside0.mk hWC
                have HRC := Aside0.mk hrC
                have HFC := Aside0.mk (HFB.out.trans hfC)
                obtain ⟨y0, y1, y2, y3, y4, y5, y6, y7⟩ := box8 (hfC.blk HWB.out HXB.out (by decide) (by decide))
                have hmp : wC.heap[g]? = some (.map (six b) 6) := ((HF5.out.trans HF9.out).trans HFC.out).ok g _ HM3.out (fun e => HGE.out (by injection e)) (fun c fz e => by cases e)
                have hlkC := HLK.out wC g hmp
                have HBRC := Aside0.mk (show Below w1.heap.size w1 wC from HB13.out.trans (by rw [← HBE.out]; exact ((HF5.out.trans HF9.out).trans HFC.out).below))
                clear hWC hrC hfC hmp
                go_wp2_with fail
                refine (HLN.out wC rC Bn cn HWC.out (HT3.out.step ((HF5.out.trans HF9.out).trans HFC.out).below) ⟨fun w' hb => Kd.C_below HCN.out (HBRC.out.trans (by rw [← HBE.out]; exact hb))⟩).mono ?_
                rintro e wD ⟨rfl, rD, hWD, hrD, hfD⟩
                have HWD := Aside0.mk hWD
                have HRD := Aside0.mk hrD
                have HFD := Aside0.mk (HFC.out.trans hfD)
                clear hWD hrD hfD y0 y1 y2 y3 y4 y5 y6 y7 hlkC
                go_wp2_with fail
                refine (say_lit wD [⟨#[59, 10]⟩] 1 rfl HWD.out (by simp) (by intro p hp; rw [List.mem_singleton] at hp; subst hp; decide)).mono ?_
                rintro e wE ⟨rfl, rE, hWE, hrE, hfE⟩
                have HWE := Aside0.mk hWE
                have HRE := Aside0.mk hrE
                have HFE := Aside0.mk (HFD.out.trans hfE)
                clear hWE hrE hfE
                go_wp2
                rw [W1.out]
                go_roundw
                case measure => have := HQ.out; simp only [left, Int.toNat_natCast]; omega
                case rel =>
                  refine ⟨q + 1, rE, rfl, ⟨HQ.out⟩, HWE, ⟨?_⟩, HFE⟩
                  have h := HRA.out.trans ((HRC.out.trans HRD.out).trans HRE.out)
                  rw [HNS.out]
                  have e : stT d = (([(⟨#[32, 32, 32, 32]⟩ : ByteArray)].flatMap fun p => p.data.toList) ++ lineT d) ++ ([(⟨#[59, 10]⟩ : ByteArray)].flatMap fun p => p.data.toList) := by
                    simp [P.stT]
                  rw [e]; exact h
              · have f1 : decide ((q : Int) < (ve.steps.length : Int)) = false := decide_eq_false (by omega)
                have f2 : decide (q < ve.steps.length) = false := decide_eq_false cq
                have HQE : Aside0 (ve.steps.take q = ve.steps) := ⟨List.take_of_length_le (by omega)⟩
                have W1 : Aside0 (wrap64 ((k : Int) + 1) = ((k + 1 : Nat) : Int)) := ⟨by have := HMV.out; have := HK.out; unfold wrap64; omega⟩
                go_wp2_with fail
                refine (say_lit wr [⟨#[32, 32, 125, 10]⟩] 1 rfl HWA.out (by simp) (by intro p hp; rw [List.mem_singleton] at hp; subst hp; decide)).mono ?_
                rintro e wC ⟨rfl, rC, hWC, hrC, hfC⟩
                have HWC := Aside0.mk hWC
                have HRC := Aside0.mk hrC
                have HFC := Aside0.mk ((HF9.out.trans HFA.out).trans hfC)
                clear hWC hrC hfC
                go_wp2
                rw [W1.out]
                go_roundw
                case measure => have := HK.out; simp only [left, Int.toNat_natCast]; omega
                case rel =>
                  refine ⟨k + 1, rC, rfl, ⟨HK.out⟩, HWC, ⟨?_⟩, HFC⟩
                  have h := HR6.out.trans ((HR9.out.trans HRA.out).trans HRC.out)
                  rw [HQE.out] at h
                  rw [HNV.out]
                  have e : veT ve = (([(⟨#[32, 32, 118, 101, 114, 115, 105, 111, 110, 32]⟩ : ByteArray), U.dec u, ⟨#[32, 123, 10]⟩].flatMap fun p => p.data.toList) ++ ve.steps.flatMap stT) ++ ([(⟨#[32, 32, 125, 10]⟩ : ByteArray)].flatMap fun p => p.data.toList) := by
                    simp [P.veT, HUE.out, U.dec]
                  rw [e]; exact h
          · have d1 : decide ((k : Int) < (ev.vers.length : Int)) = false := decide_eq_false (by omega)
            have d2 : decide (k < ev.vers.length) = false := decide_eq_false ck
            have HKE : Aside0 (ev.vers.take k = ev.vers) := ⟨List.take_of_length_le (by omega)⟩
            have W1 : Aside0 (wrap64 ((i : Int) + 1) = ((i + 1 : Nat) : Int)) := ⟨by have := HM.out; have := HI.out; unfold wrap64; omega⟩
            go_wp2_with fail
            refine (say_lit wr [⟨#[125, 10]⟩] 1 rfl HW6.out (by simp) (by intro p hp; rw [List.mem_singleton] at hp; subst hp; decide)).mono ?_
            rintro e wC ⟨rfl, rC, hWC, hrC, hfC⟩
            have HWC := Aside0.mk hWC
            have HRC := Aside0.mk hrC
            have HFC := Aside0.mk ((HF5.out.trans HF6.out).trans hfC)
            clear hWC hrC hfC
            go_wp2
            rw [W1.out]
            go_roundw
            case measure => have := HI.out; simp only [left, Int.toNat_natCast]; omega
            case rel =>
              refine ⟨i + 1, rC, rfl, ⟨HI.out⟩, HWC, ⟨?_⟩, HFC⟩
              have h := HRr.out.trans ((HR5.out.trans HR6.out).trans HRC.out)
              rw [HKE.out] at h
              rw [HNX.out]
              have e : evT ev = (([(⟨#[101, 118, 101, 110, 116, 32]⟩ : ByteArray), ev.name, ⟨#[32, 123, 10]⟩].flatMap fun p => p.data.toList) ++ ev.vers.flatMap veT) ++ ([(⟨#[125, 10]⟩ : ByteArray)].flatMap fun p => p.data.toList) := by
                simp [P.evT]
              rw [e]; exact h
      · have c1 : decide ((i : Int) < (es.length : Int)) = false := decide_eq_false (by omega)
        have c2 : decide (i < es.length) = false := decide_eq_false ci
        have HIE : Aside0 (es.take i = es) := ⟨List.take_of_length_le (by omega)⟩
        go_wp2_with fail
        refine (text_calls wr HWr.out).mono ?_
        rintro e w5 ⟨rfl, hb5⟩
        have HB5 := Aside0.mk hb5
        have HFI : Aside0 (fin r = schE es) := ⟨by
          rw [HSE.out]
          have h := HRr.out
          rw [HIE.out] at h
          exact fin_T h⟩
        rw [HFI.out]
        clear hb5
        go_wp2
        go_ret2
        refine ⟨rfl, ?_⟩
        have h1 := Below.lowr (HFr.out.below.trans HB5.out) (show w.heap.size ≤ b from by rw [HBE.out]; exact HB1.out.size)
        exact (HB1.out.trans (Below.lowr HB13.out HB1.out.size)).trans h1
  · have HSE : Aside0 (schE es = (⟨#[]⟩, j)) := ⟨by unfold schE; rw [← hj, if_neg h0]⟩
    have c1 : (j != 0) = true := bne_iff_ne.2 h0
    clear hj h0
    go_enter Tryd.func11, Tryd.ntmps11
    go_wp2_with fail
    rw [← HE0.out]
    refine HWH.out.mono ?_
    rintro e w1 ⟨rfl, hb1⟩
    have HB1 := Aside0.mk (below_step HB0.out hb1)
    clear hb1
    go_wp2
    go_ret2
    exact ⟨by rw [HSE.out]; rfl, HB1.out⟩
end Go.Proofs.YtaijoghpfobdbaaDoor.W
end
section
set_option linter.unusedVariables false
set_option linter.unusedSimpArgs false
namespace Go.Proofs.YtaijoghpfobdbaaDoor.W
open Go.RowKit Go.Proofs.YtaijoghpfobdbaaDoor.X Go.Proofs.YtaijoghpfobdbaaDoorW.PrintWords Go.Proofs.YtaijoghpfobdbaaDoorW.PrintLast Go.Proofs.YtaijoghpfobdbaaDoorW.PrintMore
open Go.Proofs.YtaijoghpfobdbaaDoor.P (Tr Nd Wrote puts put fin kv kd sg build dep dmx pile judgeE tx txs txN sepL WF StD VeD EvD wordB nameB emB noV goodB wordList wrs stE allE veE evE wholeE lineT txV stT veT evT schT schE)
theorem flat_get : ∀ (css : List (List Value)) (sz i j : Nat) (cs : List Value), (∀ c, c ∈ css → c.length = sz) → css[i]? = some cs → j < sz → css.flatten[i * sz + j]? = cs[j]?
  | [], sz, i, j, cs, _, h, _ => by simp at h
  | c :: css, sz, 0, j, cs, hl, h, hj => by
    simp only [List.getElem?_cons_zero, Option.some.injEq] at h
    subst h
    rw [List.flatten_cons, Nat.zero_mul, Nat.zero_add, List.getElem?_append_left (by rw [hl c (by simp)]; exact hj)]
  | c :: css, sz, i + 1, j, cs, hl, h, hj => by
    have hc := hl c (by simp)
    rw [List.flatten_cons, List.getElem?_append_right (by rw [hc, Nat.succ_mul]; omega), hc, show (i + 1) * sz + j - sz = i * sz + j by rw [Nat.succ_mul]; omega]
    exact flat_get css sz i j cs (fun d hd => hl d (List.mem_cons_of_mem _ hd)) (by simpa using h) hj
theorem C_rows {α : Type} (d : Kd α) {w : World} {g e : Nat} (xs : List α) (css : List (List Value)) (hl : css.length = xs.length) (hk : ∀ (i : Nat) (x : α) (cs : List Value), xs[i]? = some x → css[i]? = some cs → d.K w x cs)
    (h : w.heap[g]? = some (.cells css.flatten.toArray e (0, 0))) (hn : xs.length ≤ 9223372036854775807) : Kd.C d w (some ⟨g, 0, none⟩) xs.length xs := by
  refine ⟨rfl, hn, fun _ => ⟨_, rfl, fun j p hj => ?_⟩⟩
  have hj2 : j < css.length := by rw [hl]; exact (List.getElem?_eq_some_iff.1 hj).1
  have hcs : css[j]? = some css[j] := List.getElem?_eq_getElem hj2
  have hK := hk j p _ hj hcs
  refine ⟨css[j], d.K_len hK, hK, fun i u hu => ?_⟩
  have hi : i < d.sz := by rw [← d.K_len hK]; exact (List.getElem?_eq_some_iff.1 hu).1
  have hall : ∀ c, c ∈ css → c.length = d.sz := by
    intro c hc
    obtain ⟨m, hm, rfl⟩ := List.getElem_of_mem hc
    have hm2 : m < xs.length := by rw [← hl]; exact hm
    exact d.K_len (hk m xs[m] css[m] (List.getElem?_eq_getElem hm2) (List.getElem?_eq_getElem hm))
  show w.cell? ((⟨g, 0, none⟩ : Addr).add (j * d.sz + i)) = some u
  rw [Lib.add_plain, Nat.zero_add, blk_cell h, List.getElem?_toArray, flat_get css d.sz j i _ hall hcs hi]
  exact hu
def sumN : List Nd := [⟨1, 0, 1, ⟨#[]⟩, 0⟩, ⟨1, 0, 2, ⟨#[]⟩, 0⟩, ⟨1, 0, 3, ⟨#[]⟩, 0⟩, ⟨5, 0, 0, ⟨#[]⟩, 0⟩, ⟨8, 0, 0, ⟨#[]⟩, 0⟩, ⟨6, 0, 0, ⟨#[]⟩, 0⟩]
def sumT : Tr := .mk ⟨6, 0, 0, ⟨#[]⟩, 0⟩ [.mk ⟨1, 0, 1, ⟨#[]⟩, 0⟩ [], .mk ⟨8, 0, 0, ⟨#[]⟩, 0⟩ [.mk ⟨1, 0, 2, ⟨#[]⟩, 0⟩ [], .mk ⟨5, 0, 0, ⟨#[]⟩, 0⟩ [.mk ⟨1, 0, 3, ⟨#[]⟩, 0⟩ []]]]
theorem ba0 : (⟨#[]⟩ : ByteArray).toList = [] := by rw [ByteArray.toList_eq]
theorem sum_build : build sumN [] = some [sumT] := by
  have k1 : ∀ u : Int, kd ⟨1, 0, u, ⟨#[]⟩, 0⟩ = some 0 := fun u => by rw [P.kd_kr]; simp [P.badF, P.kr, ba0]
  have k5 : kd ⟨5, 0, 0, ⟨#[]⟩, 0⟩ = some 1 := by rw [P.kd_kr]; simp [P.badF, P.kr, ba0]
  have k6 : kd ⟨6, 0, 0, ⟨#[]⟩, 0⟩ = some 2 := by rw [P.kd_kr]; simp [P.badF, P.kr, ba0]
  have k8 : kd ⟨8, 0, 0, ⟨#[]⟩, 0⟩ = some 2 := by rw [P.kd_kr]; simp [P.badF, P.kr, ba0]
  simp [sumN, sumT, build, sg, k1, k5, k6, k8]
theorem dec1 (u : Nat) (h : u < 10) : Lib.decDigits u = [UInt8.ofNat (48 + u)] := by rw [Lib.decDigits, dif_pos h]
theorem sum_out : valE sumN = (⟨#[40, 49, 32, 43, 32, 40, 50, 32, 42, 32, 45, 51, 41, 41]⟩, 0) := by
  have hx : tx sumT = [40, 49, 32, 43, 32, 40, 50, 32, 42, 32, 45, 51, 41, 41] := by
    simp [sumT, tx, txs, txN, P.two, dec1]
  have hd : ¬ 100 < dep sumT := by simp [sumT, dep, dmx]
  unfold valE
  rw [sum_build]
  simp only [if_neg hd, hx]
  rfl
def stA : StD := ⟨1, ⟨#[97]⟩, ⟨#[]⟩, ⟨#[]⟩, ⟨#[]⟩, ⟨#[105, 110, 116]⟩, [], 0⟩
def evA : List EvD := [⟨⟨#[101]⟩, [⟨1, [stA], 0⟩, ⟨2, [], 0⟩], 0⟩]
theorem evA_out : schE evA = (⟨#[101, 118, 101, 110, 116, 32, 101, 32, 123, 10, 32, 32, 118, 101, 114, 115, 105, 111, 110, 32, 49, 32, 123, 10, 32, 32, 32, 32, 97, 100, 100, 32, 97, 58, 32, 105, 110, 116, 59, 10, 32, 32, 125, 10, 32, 32, 118, 101, 114, 115, 105, 111, 110, 32, 50, 32, 123, 10, 32, 32, 125, 10, 125, 10]⟩, 0) := by
  have n1 : nameB ⟨#[97]⟩ = true := by kernel_rfl
  have n2 : nameB ⟨#[105, 110, 116]⟩ = true := by kernel_rfl
  have n3 : nameB ⟨#[101]⟩ = true := by kernel_rfl
  have e0 : emB ⟨#[]⟩ = true := by unfold emB; rw [ba0]; rfl
  have hg : goodB stA = true := by
    unfold goodB stA
    simp [n1, n2, e0]
  have hs : stE stA = 0 := by unfold stE; rw [if_pos hg]; rfl
  have hw : wholeE evA = 0 := by
    simp [wholeE, evA, allE, evE, veE, n3, hs, wrs]
  have hx : schT evA = [101, 118, 101, 110, 116, 32, 101, 32, 123, 10, 32, 32, 118, 101, 114, 115, 105, 111, 110, 32, 49, 32, 123, 10, 32, 32, 32, 32, 97, 100, 100, 32, 97, 58, 32, 105, 110, 116, 59, 10, 32, 32, 125, 10, 32, 32, 118, 101, 114, 115, 105, 111, 110, 32, 50, 32, 123, 10, 32, 32, 125, 10, 125, 10] := by
    simp [schT, evA, evT, veT, stT, stA, lineT, dec1]
  unfold schE
  rw [if_pos hw, hx]
  rfl
def ndCs (n : Nd) : List Value := [.int .i64 n.f0, .int .i64 n.f1, .int .u64 n.f2, .string n.f3, .int .i64 n.f4]
theorem sumC {w : World} {g : Nat} (h : w.heap[g]? = some (.cells (sumN.map ndCs).flatten.toArray 46 (0, 0))) : Kd.C k46 w (some ⟨g, 0, none⟩) 6 sumN :=
  C_rows k46 sumN (sumN.map ndCs) (by simp) (fun i x cs hx hc => by
    rw [List.getElem?_map, hx] at hc
    injection hc with hc
    subst hc
    exact k46_mk w x) h (by decide)
set_option maxHeartbeats 2000000 in
set_option maxRecDepth 100000 in
theorem sum_calls (w : World) : Calls Tryd.prog 23 #[] w fun e w' => e = .returned (.slice (some ⟨w.heap.size, 0, none⟩) 6 6) ∧ w' = w.alloc (.cells (sumN.map ndCs).flatten.toArray 46) := by
  go_enter Tryd.func23, Tryd.ntmps23
  go_wp2
  go_ret
  exact ⟨rfl, rfl⟩
set_option maxHeartbeats 4000000 in
set_option maxRecDepth 100000 in
theorem awake_calls (w : World) (hT : U.Tab w.heap.size w) : Calls Tryd.prog 10 #[] w fun e w' => e = .returned (.bool true) ∧ Below w.heap.size w w' := by
  have HT := Aside0.mk hT
  clear hT
  go_enter Tryd.func10, Tryd.ntmps10
  go_wp2_with fail
  refine (sum_calls w).mono ?_
  rintro e w1 ⟨rfl, hw1⟩
  have hb1 : Below w.heap.size w w1 := by rw [hw1]; exact below_alloc (Below.refl _ _) _
  have HC1 := Aside0.mk (sumC (show w1.heap[w.heap.size]? = _ from by rw [hw1]; exact blk_new _ _))
  have HB1 := Aside0.mk hb1
  clear hw1 hb1
  go_wp2_with fail
  refine (value_calls w1 (some ⟨w.heap.size, 0, none⟩) 6 sumN HC1.out (by decide) (by intro n hn; simp only [sumN, List.mem_cons, List.not_mem_nil, or_false] at hn; rcases hn with rfl | rfl | rfl | rfl | rfl | rfl <;> decide) (Tab.high (HT.out.step HB1.out) HB1.out.size)).mono ?_
  rintro e w2 ⟨rfl, hb2⟩
  have HB2 := Aside0.mk (below_step HB1.out hb2)
  rw [sum_out]
  clear hb2
  obtain ⟨w3, hw3⟩ : ∃ w3, w3 = w2.alloc (.cells #[.int .i64 1, .string ⟨#[97]⟩, .string ⟨#[]⟩, .string ⟨#[]⟩, .string ⟨#[]⟩, .string ⟨#[105, 110, 116]⟩, .slice none 0 0, .int .i64 0] 55) := ⟨_, rfl⟩
  obtain ⟨w4, hw4⟩ : ∃ w4, w4 = w3.alloc (.cells #[.int .u64 1, .slice (some ⟨w2.heap.size, 0, none⟩) 1 1, .int .i64 0, .int .u64 2, .slice none 0 0, .int .i64 0] 53) := ⟨_, rfl⟩
  obtain ⟨w5, hw5⟩ : ∃ w5, w5 = w4.alloc (.cells #[.string ⟨#[101]⟩, .slice (some ⟨w3.heap.size, 0, none⟩) 2 2, .int .i64 0] 50) := ⟨_, rfl⟩
  have hb3 : Below w2.heap.size w2 w3 := by rw [hw3]; exact below_alloc (Below.refl _ _) _
  have hb4 : Below w3.heap.size w3 w4 := by rw [hw4]; exact below_alloc (Below.refl _ _) _
  have hb5 : Below w4.heap.size w4 w5 := by rw [hw5]; exact below_alloc (Below.refl _ _) _
  have hcS : Kd.C kS w5 (some ⟨w2.heap.size, 0, none⟩) 1 [stA] := by
    refine C_rows kS [stA] [[.int .i64 1, .string ⟨#[97]⟩, .string ⟨#[]⟩, .string ⟨#[]⟩, .string ⟨#[]⟩, .string ⟨#[105, 110, 116]⟩, .slice none 0 0, .int .i64 0]] rfl (fun i x cs hx hc => ?_) (blk_below (blk_below (show w3.heap[w2.heap.size]? = _ from by rw [hw3]; exact blk_new _ _) hb4) hb5) (by decide)
    match i, hx, hc with
    | 0, hx, hc =>
      injection hx with hx
      injection hc with hc
      subst hx hc
      exact ⟨[_], _, rfl, rfl, [_], _, rfl, rfl, [_], _, rfl, rfl, [_], _, rfl, rfl, [_], _, rfl, rfl, [_], _, rfl, rfl, [_], _, rfl, ⟨none, 0, rfl, Nat.le_refl _, Kd.C_nil _ _⟩, rfl⟩
  have hcV : Kd.C kV w5 (some ⟨w3.heap.size, 0, none⟩) 2 [⟨1, [stA], 0⟩, ⟨2, [], 0⟩] := by
    refine C_rows kV [⟨1, [stA], 0⟩, ⟨2, [], 0⟩] [[.int .u64 1, .slice (some ⟨w2.heap.size, 0, none⟩) 1 1, .int .i64 0], [.int .u64 2, .slice none 0 0, .int .i64 0]] rfl (fun i x cs hx hc => ?_) (blk_below (show w4.heap[w3.heap.size]? = _ from by rw [hw4]; exact blk_new _ _) hb5) (by decide)
    match i, hx, hc with
    | 0, hx, hc =>
      injection hx with hx
      injection hc with hc
      subst hx hc
      exact ⟨[_], _, rfl, rfl, [_], _, rfl, ⟨_, 1, rfl, Nat.le_refl _, hcS⟩, rfl⟩
    | 1, hx, hc =>
      injection hx with hx
      injection hc with hc
      subst hx hc
      exact ⟨[_], _, rfl, rfl, [_], _, rfl, ⟨none, 0, rfl, Nat.le_refl _, Kd.C_nil _ _⟩, rfl⟩
  have hcE : Kd.C kE w5 (some ⟨w4.heap.size, 0, none⟩) 1 evA := by
    refine C_rows kE evA [[.string ⟨#[101]⟩, .slice (some ⟨w3.heap.size, 0, none⟩) 2 2, .int .i64 0]] rfl (fun i x cs hx hc => ?_) (show w5.heap[w4.heap.size]? = _ from by rw [hw5]; exact blk_new _ _) (by decide)
    match i, hx, hc with
    | 0, hx, hc =>
      injection hx with hx
      injection hc with hc
      subst hx hc
      exact ⟨[_], _, rfl, rfl, [_], _, rfl, ⟨_, 2, rfl, Nat.le_refl _, hcV⟩, rfl⟩
  have HCE := Aside0.mk hcE
  have HB5 := Aside0.mk (below_step HB2.out (below_step (below_step hb3 hb4) hb5))
  have HGE : Aside0 (GoodE evA) := ⟨by
    intro e he v hv
    simp only [evA, List.mem_singleton] at he
    subst he
    simp only [List.mem_cons, List.not_mem_nil, or_false] at hv
    rcases hv with rfl | rfl
    · refine ⟨by decide, fun d hd => ?_⟩
      simp only [List.mem_singleton] at hd
      subst hd
      exact ⟨by decide, fun n hn => by cases hn⟩
    · exact ⟨by decide, fun d hd => by cases hd⟩⟩
  have s3 : w3.heap.size = w2.heap.size + 1 := by rw [hw3]; simp
  have s4 : w4.heap.size = w2.heap.size + 2 := by rw [hw4]; simp [s3]
  have HS := Aside0.mk (And.intro s3 s4)
  have H3 := Aside0.mk hw3
  have H4 := Aside0.mk hw4
  have H5 := Aside0.mk hw5
  clear hw3 hw4 hw5 hb3 hb4 hb5 hcS hcV hcE s3 s4
  go_wp2_with fail
  rw [← H3.out, ← HS.out.1, ← H4.out, ← H5.out, show w3.heap.size + 1 = w4.heap.size from by rw [HS.out.1, HS.out.2]]
  refine (schema_calls w5 (some ⟨w4.heap.size, 0, none⟩) 1 evA HCE.out HGE.out (Tab.high (HT.out.step HB5.out) HB5.out.size)).mono ?_
  rintro e w6 ⟨rfl, hb6⟩
  have HB6 := Aside0.mk (below_step HB5.out hb6)
  rw [evA_out]
  clear hb6
  go_wp2
  go_ret
  exact ⟨rfl, HB6.out⟩
end Go.Proofs.YtaijoghpfobdbaaDoor.W
end
section
set_option linter.unusedVariables false
namespace Go.Proofs.YtaijoghpfobdbaaDoor.R
open Go.RowKit Go.Proofs.YtaijoghpfobdbaaDoorW.PrintWords
theorem own : ownKnob Tryd.prog.godebug = none := by kernel_rfl
theorem laidOut : laidOutB Tryd.prog = true := by kernel_rfl
theorem gTab : Tryd.prog.globalNamed "internal/strconv.uint64pow10" = some 0 := by kernel_rfl
theorem gTabType : (Tryd.prog.globals[0]?).map (·.type) = some 156 := by kernel_rfl
theorem cellsA : Tryd.prog.cellsOf 156 = 20 := by kernel_rfl
theorem cellsE : Tryd.prog.cellsOf 44 = 1 := by kernel_rfl
def laid3 : List (String × DataW Unit) := [("math/bits.deBruijn32tab", Rows.laid_math_bits_deBruijn32tab), ("math/bits.deBruijn64tab", Rows.laid_math_bits_deBruijn64tab), ("internal/strconv.uint64pow10", Rows.laid_internal_strconv_uint64pow10)]
theorem table {W : World} (h : laidMetH Tryd.prog laid3 W) : U.Tab W.heap.size W := by
  have h1 : laidMet Tryd.prog [("internal/strconv.uint64pow10", Lib.tabData .u64 Lib.pow10Tab)] W := laidMet.filter (fun x => x.1 == "internal/strconv.uint64pow10") h
  refine ⟨fun w' hb => ?_⟩
  have t : Lib.TabIs Tryd.prog W "internal/strconv.uint64pow10" .u64 Lib.pow10Tab := Lib.tabIs_of_head (rest := []) gTab gTabType Tryd.underlying156 Tryd.underlying44 cellsE cellsA h1
  unfold Lib.TabIs at t ⊢
  unfold World.var? at t ⊢
  rw [gTab] at t ⊢
  simp only [Option.bind_some] at t ⊢
  have hlt : 0 < W.heap.size := by
    rcases Nat.eq_zero_or_pos W.heap.size with h0 | h0
    · rw [Array.getElem?_eq_none (by omega)] at t; cases t
    · exact h0
  rw [hb.block 0 hlt]
  exact t
def put (zs : List Value) : Obj → Obj
  | .cells _ t frozen => .cells zs.toArray t frozen
  | o => o
def litV : DataW Unit → Value
  | .lit (.int k n) => .int k n
  | _ => .int .i64 0
def tabV : DataW Unit → List Value
  | .agg l => l.map litV
  | _ => []
noncomputable def laidWorld (os : Os) : World :=
  { World.holding Tryd.prog os ⟨#[], #[], []⟩ with heap := (((World.holding Tryd.prog os ⟨#[], #[], []⟩).heap.modify 0 (put (tabV Rows.laid_internal_strconv_uint64pow10))).modify 2 (put (tabV Rows.laid_math_bits_deBruijn32tab))).modify 3 (put (tabV Rows.laid_math_bits_deBruijn64tab)) }
end Go.Proofs.YtaijoghpfobdbaaDoor.R
end
section
set_option linter.unusedVariables false
set_option linter.unusedSimpArgs false
set_option maxRecDepth 100000
namespace Go.Proofs.YtaijoghpfobdbaaDoor.R
open Go.ChangeShapes Go.WideShapes Go.ChangeAt Go.RowKit Go.Proofs.YtaijoghpfobdbaaDoorW.PrintWords Go.Proofs.YtaijoghpfobdbaaDoor.X
open Go.Proofs.YtaijoghpfobdbaaDoor.P (Nd)
open Go.Proofs.YtaijoghpfobdbaaDoor.Rows (uptoBulk uptoBulkAll)
theorem bulk_one {H : Type} : ∀ d : DataW H, 1 ≤ uptoBulk d := by
  intro d
  cases d with
  | lit l => cases l <;> simp [uptoBulk]
  | _ => simp [uptoBulk]
theorem bulk_len {H : Type} : ∀ l : List (DataW H), l.length ≤ uptoBulkAll l
  | [] => Nat.zero_le _
  | d :: r => by
    have := bulk_one d
    have := bulk_len r
    rw [uptoBulkAll, List.length_cons]; omega
theorem bulk_mem {H : Type} : ∀ {l : List (DataW H)} {i : Nat} {d : DataW H}, l[i]? = some d → uptoBulk d ≤ uptoBulkAll l
  | [], i, d, h => by simp at h
  | x :: r, 0, d, h => by
    simp only [List.getElem?_cons_zero, Option.some.injEq] at h
    subst h
    rw [uptoBulkAll]; omega
  | x :: r, i + 1, d, h => by
    have := bulk_mem (l := r) (i := i) (d := d) (by simpa using h)
    rw [uptoBulkAll]; omega
section
variable {H : Type} {enc : TypeId × Value → H} {P : Program} {W : World} {base : Nat} {spare : Nat → Bool} {held : Bool}
theorem rows_bulk {α : Type} (K : Kd α) (z0 : α) {t e : TypeId} {a : Option Addr} {len cap : Nat} {d : DataW H} {ps : List MemPlace} (ht : P.underlying t = some (.slice e)) (hsz : P.cellsOf e = K.sz) (Q : α → Prop)
    (helem : ∀ (n : Nat) (cs : List Value) (y : DataW H × List MemPlace), DataW.trod enc P W base spare held n e cs = some y → uptoBulk y.1 ≤ 1048576 → ∃ x : α, K.K W x cs ∧ Q x)
    (hw : uptoBulk d ≤ 1048576) (h : DataW.Trod enc P W base spare held t (.slice a len cap) d ps) :
    ∃ xs : List α, K.C W a xs.length xs ∧ len = xs.length ∧ xs.length ≤ cap ∧ (∀ x ∈ xs, Q x) ∧ xs.length ≤ 1048576 := by
  obtain ⟨fuel, hf⟩ := h
  rcases Go.Deep.open_slice ht hf with ⟨hcs, hx⟩ | ⟨ad, l, c, m, n, D, Pl, hcs, _, hl, hm, hmm, hx, hel⟩
  · simp [Value.cells] at hcs
    obtain ⟨rfl, rfl, rfl⟩ := hcs
    exact ⟨[], Kd.C_nil K W, rfl, Nat.le_refl _, by simp, by simp⟩
  · simp [Value.cells] at hcs
    obtain ⟨rfl, rfl, rfl⟩ := hcs
    obtain ⟨hd, _⟩ := Prod.mk.inj hx
    subst hd
    have hle : len ≤ m := by rw [hmm]; split <;> omega
    rw [uptoBulk] at hw
    have hlen : len ≤ 1048576 := by
      have := bulk_len ((List.range len).map D)
      rw [List.length_map, List.length_range] at this
      omega
    have each : ∀ i, ∃ x : α, i < len → (∃ cs', W.cells? base (ad.add (i * P.cellsOf e)) (P.cellsOf e) = some cs' ∧ K.K W x cs') ∧ Q x := by
      intro i
      by_cases hi : i < len
      · obtain ⟨cs', hc, htr⟩ := hel i (by omega)
        have hwi : uptoBulk (D i, Pl i).1 ≤ 1048576 := by
          have := bulk_mem (l := (List.range len).map D) (i := i) (d := D i) (by rw [List.getElem?_map, List.getElem?_range hi]; rfl)
          show uptoBulk (D i) ≤ 1048576
          omega
        obtain ⟨x, hx, hq⟩ := helem n cs' (D i, Pl i) htr hwi
        exact ⟨x, fun _ => ⟨⟨cs', hc, hx⟩, hq⟩⟩
      · exact ⟨z0, fun hi2 => absurd hi2 hi⟩
    obtain ⟨f, hf2⟩ := Classical.axiomOfChoice each
    have hml : (9223372036854775807 : Nat) = maxLen := rfl
    refine ⟨(List.range len).map f, ⟨rfl, ?_, fun _ => ⟨ad, rfl, fun j p hp => ?_⟩⟩, by simp, by simpa using hl, ?_, by simpa using hlen⟩
    · rw [List.length_map, List.length_range, hml]; omega
    · have hj : j < len := by
        have := (List.getElem?_eq_some_iff.1 hp).1
        simpa using this
      rw [List.getElem?_map, List.getElem?_range hj] at hp
      obtain rfl : f j = p := Option.some.inj hp
      obtain ⟨⟨cs', hc, hk⟩, _⟩ := hf2 j hj
      refine ⟨cs', K.K_len hk, hk, fun i u hu => ?_⟩
      have hi : i < K.sz := by
        have := (List.getElem?_eq_some_iff.1 hu).1
        rw [K.K_len hk] at this; exact this
      obtain ⟨_, _, hcell⟩ := World.cells?_some hc
      have h3 := hcell i (by rw [hsz]; exact hi)
      rw [Addr.add_add, hsz] at h3
      rw [h3, hu]
    · intro x hx
      obtain ⟨i, hi, rfl⟩ := List.mem_map.1 hx
      exact (hf2 i (List.mem_range.1 hi)).2
theorem slice_cell {t e : TypeId} {n : Nat} {c : Value} {y : DataW H × List MemPlace} (ht : P.underlying t = some (.slice e)) (h : DataW.trod enc P W base spare held n t [c] = some y) : ∃ a len cap, c = .slice a len cap := by
  rcases Go.Deep.open_slice ht h with ⟨hc, _⟩ | ⟨ad, l, c, _, _, _, _, hc, _⟩
  · exact ⟨_, _, _, by simpa using hc⟩
  · exact ⟨_, _, _, by simpa using hc⟩
theorem struct3 {t : TypeId} {f0 f1 f2 : Field} {fuel : Nat} {cs : List Value} {x : DataW H × List MemPlace} (ht : P.underlying t = some (.struct #[f0, f1, f2])) (h : DataW.trod enc P W base spare held fuel t cs = some x) :
    ∃ y0 y1 y2 n, x.1 = .agg [y0.1, y1.1, y2.1] ∧ cs.length = P.cellsOf t ∧ DataW.trod enc P W base spare held n f0.type ((cs.drop f0.offset).take (P.cellsOf f0.type)) = some y0 ∧
      DataW.trod enc P W base spare held n f1.type ((cs.drop f1.offset).take (P.cellsOf f1.type)) = some y1 ∧ DataW.trod enc P W base spare held n f2.type ((cs.drop f2.offset).take (P.cellsOf f2.type)) = some y2 := by
  obtain ⟨xs, n, _, rfl, hl, hlen, hf⟩ := DataW.trod_struct ht h
  match xs, hlen with
  | [y0, y1, y2], _ => exact ⟨y0, y1, y2, n, by simp, hl, by simpa using hf 0 f0 rfl, by simpa using hf 1 f1 rfl, by simpa using hf 2 f2 rfl⟩
theorem struct5 {t : TypeId} {f0 f1 f2 f3 f4 : Field} {fuel : Nat} {cs : List Value} {x : DataW H × List MemPlace} (ht : P.underlying t = some (.struct #[f0, f1, f2, f3, f4])) (h : DataW.trod enc P W base spare held fuel t cs = some x) :
    ∃ y0 y1 y2 y3 y4 n, x.1 = .agg [y0.1, y1.1, y2.1, y3.1, y4.1] ∧ cs.length = P.cellsOf t ∧ DataW.trod enc P W base spare held n f0.type ((cs.drop f0.offset).take (P.cellsOf f0.type)) = some y0 ∧
      DataW.trod enc P W base spare held n f1.type ((cs.drop f1.offset).take (P.cellsOf f1.type)) = some y1 ∧ DataW.trod enc P W base spare held n f2.type ((cs.drop f2.offset).take (P.cellsOf f2.type)) = some y2 ∧
      DataW.trod enc P W base spare held n f3.type ((cs.drop f3.offset).take (P.cellsOf f3.type)) = some y3 ∧ DataW.trod enc P W base spare held n f4.type ((cs.drop f4.offset).take (P.cellsOf f4.type)) = some y4 := by
  obtain ⟨xs, n, _, rfl, hl, hlen, hf⟩ := DataW.trod_struct ht h
  match xs, hlen with
  | [y0, y1, y2, y3, y4], _ => exact ⟨y0, y1, y2, y3, y4, n, by simp, hl, by simpa using hf 0 f0 rfl, by simpa using hf 1 f1 rfl, by simpa using hf 2 f2 rfl, by simpa using hf 3 f3 rfl, by simpa using hf 4 f4 rfl⟩
end
theorem node_elem {H : Type} {enc : TypeId × Value → H} {W : World} {base : Nat} {spare : Nat → Bool} {held : Bool} (n : Nat) (cs : List Value) (y : DataW H × List MemPlace)
    (h : DataW.trod enc Tryd.prog W base spare held n 46 cs = some y) : ∃ x : Nd, k46.K W x cs ∧ (0 ≤ x.f2 ∧ x.f2 < 18446744073709551616) := by
  obtain ⟨y0, y1, y2, y3, y4, m, _, hl, h0, h1, h2, h3, h4⟩ := struct5 Tryd.underlying46 h
  rw [show Tryd.prog.cellsOf 46 = 5 from by kernel_rfl] at hl
  match cs, hl with
  | [c0, c1, c2, c3, c4], _ =>
    have zi : Tryd.prog.cellsOf 3 = 1 := by kernel_rfl
    have zu : Tryd.prog.cellsOf 44 = 1 := by kernel_rfl
    have zs : Tryd.prog.cellsOf 9 = 1 := by kernel_rfl
    have h0' : DataW.trod enc Tryd.prog W base spare held m 3 ([c0, c1, c2, c3, c4].take (Tryd.prog.cellsOf 3)) = some y0 := h0
    have h1' : DataW.trod enc Tryd.prog W base spare held m 3 ([c1, c2, c3, c4].take (Tryd.prog.cellsOf 3)) = some y1 := h1
    have h2' : DataW.trod enc Tryd.prog W base spare held m 44 ([c2, c3, c4].take (Tryd.prog.cellsOf 44)) = some y2 := h2
    have h3' : DataW.trod enc Tryd.prog W base spare held m 9 ([c3, c4].take (Tryd.prog.cellsOf 9)) = some y3 := h3
    have h4' : DataW.trod enc Tryd.prog W base spare held m 3 ([c4].take (Tryd.prog.cellsOf 3)) = some y4 := h4
    rw [zi] at h0' h1' h4'
    rw [zu] at h2'
    rw [zs] at h3'
    obtain ⟨i0, e0, _, _⟩ := DataW.trod_int Tryd.underlying3 h0'
    obtain ⟨i1, e1, _, _⟩ := DataW.trod_int Tryd.underlying3 h1'
    obtain ⟨i2, e2, w2, _⟩ := DataW.trod_int Tryd.underlying44 h2'
    obtain ⟨s3, e3, _, _⟩ := DataW.trod_string Tryd.underlying9 h3'
    obtain ⟨i4, e4, _, _⟩ := DataW.trod_int Tryd.underlying3 h4'
    obtain rfl : c0 = .int .i64 i0 := by simpa using e0
    obtain rfl : c1 = .int .i64 i1 := by simpa using e1
    obtain rfl : c2 = .int .u64 i2 := by simpa using e2
    obtain rfl : c3 = .string s3 := by simpa using e3
    obtain rfl : c4 = .int .i64 i4 := by simpa using e4
    refine ⟨⟨i0, i1, i2, s3, i4⟩, k46_mk W ⟨i0, i1, i2, s3, i4⟩, ?_⟩
    have := Go.bounds_u64 (by assumption : (Lit.int .u64 i2).wf = true)
    exact ⟨this.1, by have := this.2; show i2 < _; omega⟩
end Go.Proofs.YtaijoghpfobdbaaDoor.R
end
section
set_option linter.unusedVariables false
set_option linter.unusedSimpArgs false
set_option maxRecDepth 100000
namespace Go.Proofs.YtaijoghpfobdbaaDoor.R
open Go.ChangeShapes Go.WideShapes Go.ChangeAt Go.RowKit Go.Proofs.YtaijoghpfobdbaaDoorW.PrintWords Go.Proofs.YtaijoghpfobdbaaDoor.X
open Go.Proofs.YtaijoghpfobdbaaDoor.P (Nd StD VeD EvD)
open Go.Proofs.YtaijoghpfobdbaaDoor.W (kS kV kE)
open Go.Proofs.YtaijoghpfobdbaaDoor.Rows (uptoBulk uptoBulkAll)
def NS (n : Nd) : Prop := (0 ≤ n.f2 ∧ n.f2 < 18446744073709551616) ∧ n.f3.size ≤ 1048576
def SS (d : StD) : Prop := (d.a.size ≤ 1048576 ∧ d.b.size ≤ 1048576 ∧ d.c.size ≤ 1048576 ∧ d.sep.size ≤ 1048576 ∧ d.ty.size ≤ 1048576) ∧ d.val.length ≤ 1048576 ∧ ∀ n, n ∈ d.val → NS n
def VS (v : VeD) : Prop := (0 ≤ v.num ∧ v.num < 18446744073709551616) ∧ v.steps.length ≤ 1048576 ∧ ∀ d, d ∈ v.steps → SS d
def ES (e : EvD) : Prop := e.name.size ≤ 1048576 ∧ e.vers.length ≤ 1048576 ∧ ∀ v, v ∈ e.vers → VS v
section
variable {H : Type} {enc : TypeId × Value → H} {W : World} {base : Nat} {spare : Nat → Bool} {held : Bool}
theorem str_bulk {n : Nat} {c : Value} {y : DataW H × List MemPlace} (h : DataW.trod enc Tryd.prog W base spare held n 9 [c] = some y) (hb : uptoBulk y.1 ≤ 1048576) : ∃ s : ByteArray, c = .string s ∧ s.size ≤ 1048576 := by
  obtain ⟨s, e, hy1, hy2⟩ := DataW.trod_string Tryd.underlying9 h
  have hy := hy1
  obtain rfl : c = .string s := by simpa using e
  refine ⟨s, rfl, ?_⟩
  rw [hy] at hb
  simp only [uptoBulk, Array.length_toList] at hb
  have : s.size = s.data.size := rfl
  omega
theorem node_elem2 (n : Nat) (cs : List Value) (y : DataW H × List MemPlace)
    (h : DataW.trod enc Tryd.prog W base spare held n 46 cs = some y) (hb : uptoBulk y.1 ≤ 1048576) : ∃ x : Nd, k46.K W x cs ∧ NS x := by
  obtain ⟨x, hx, hr⟩ := node_elem n cs y h
  refine ⟨x, hx, hr, ?_⟩
  obtain rfl := k46_open hx
  obtain ⟨y0, y1, y2, y3, y4, m, hd, hl, h0, h1, h2, h3, h4⟩ := struct5 Tryd.underlying46 h
  have zs : Tryd.prog.cellsOf 9 = 1 := by kernel_rfl
  have h3' : DataW.trod enc Tryd.prog W base spare held m 9 ([.string x.f3, .int .i64 x.f4].take (Tryd.prog.cellsOf 9)) = some y3 := h3
  rw [zs] at h3'
  rw [hd] at hb
  simp only [uptoBulk, uptoBulkAll] at hb
  obtain ⟨s, e, hs⟩ := str_bulk h3' (by omega)
  injection e with e
  rw [e]; exact hs
theorem nds2_of {a : Option Addr} {len cap : Nat} {d : DataW H} {ps : List MemPlace} (hb : uptoBulk d ≤ 1048576)
    (h : DataW.Trod enc Tryd.prog W base spare held 25 (.slice a len cap) d ps) :
    ∃ l : List Nd, Kd.C k46 W a l.length l ∧ len = l.length ∧ l.length ≤ cap ∧ (∀ n, n ∈ l → NS n) ∧ l.length ≤ 1048576 :=
  rows_bulk k46 z46 Tryd.underlying25 (e := 46) (show Tryd.prog.cellsOf 46 = 5 by kernel_rfl) NS node_elem2 hb h
theorem kS_mk (w : World) (x : StD) (A : Option Addr) (c : Nat) (hc : x.val.length ≤ c) (hC : Kd.C k46 w A x.val.length x.val) : kS.K w x [.int .i64 x.k, .string x.a, .string x.b, .string x.c, .string x.sep, .string x.ty, .slice A x.val.length c, .int .i64 x.pl] :=
  ⟨[_], [_, _, _, _, _, _, _], rfl, rfl, ⟨[_], [_, _, _, _, _, _], rfl, rfl, ⟨[_], [_, _, _, _, _], rfl, rfl, ⟨[_], [_, _, _, _], rfl, rfl, ⟨[_], [_, _, _], rfl, rfl, ⟨[_], [_, _], rfl, rfl, ⟨[_], [_], rfl, ⟨A, c, rfl, hc, hC⟩, rfl⟩⟩⟩⟩⟩⟩⟩
theorem kV_mk (w : World) (x : VeD) (A : Option Addr) (c : Nat) (hc : x.steps.length ≤ c) (hC : Kd.C kS w A x.steps.length x.steps) : kV.K w x [.int .u64 x.num, .slice A x.steps.length c, .int .i64 x.pl] :=
  ⟨[_], [_, _], rfl, rfl, ⟨[_], [_], rfl, ⟨A, c, rfl, hc, hC⟩, rfl⟩⟩
theorem kE_mk (w : World) (x : EvD) (A : Option Addr) (c : Nat) (hc : x.vers.length ≤ c) (hC : Kd.C kV w A x.vers.length x.vers) : kE.K w x [.string x.name, .slice A x.vers.length c, .int .i64 x.pl] :=
  ⟨[_], [_, _], rfl, rfl, ⟨[_], [_], rfl, ⟨A, c, rfl, hc, hC⟩, rfl⟩⟩
theorem struct8 {P : Program} {t : TypeId} {f0 f1 f2 f3 f4 f5 f6 f7 : Field} {fuel : Nat} {cs : List Value} {x : DataW H × List MemPlace} (ht : P.underlying t = some (.struct #[f0, f1, f2, f3, f4, f5, f6, f7])) (h : DataW.trod enc P W base spare held fuel t cs = some x) :
    ∃ y0 y1 y2 y3 y4 y5 y6 y7 n, x.1 = .agg [y0.1, y1.1, y2.1, y3.1, y4.1, y5.1, y6.1, y7.1] ∧ cs.length = P.cellsOf t ∧ DataW.trod enc P W base spare held n f0.type ((cs.drop f0.offset).take (P.cellsOf f0.type)) = some y0 ∧
      DataW.trod enc P W base spare held n f1.type ((cs.drop f1.offset).take (P.cellsOf f1.type)) = some y1 ∧ DataW.trod enc P W base spare held n f2.type ((cs.drop f2.offset).take (P.cellsOf f2.type)) = some y2 ∧
      DataW.trod enc P W base spare held n f3.type ((cs.drop f3.offset).take (P.cellsOf f3.type)) = some y3 ∧ DataW.trod enc P W base spare held n f4.type ((cs.drop f4.offset).take (P.cellsOf f4.type)) = some y4 ∧
      DataW.trod enc P W base spare held n f5.type ((cs.drop f5.offset).take (P.cellsOf f5.type)) = some y5 ∧ DataW.trod enc P W base spare held n f6.type ((cs.drop f6.offset).take (P.cellsOf f6.type)) = some y6 ∧
      DataW.trod enc P W base spare held n f7.type ((cs.drop f7.offset).take (P.cellsOf f7.type)) = some y7 := by
  obtain ⟨xs, n, _, rfl, hl, hlen, hf⟩ := DataW.trod_struct ht h
  match xs, hlen with
  | [y0, y1, y2, y3, y4, y5, y6, y7], _ => exact ⟨y0, y1, y2, y3, y4, y5, y6, y7, n, by simp, hl, by simpa using hf 0 f0 rfl, by simpa using hf 1 f1 rfl, by simpa using hf 2 f2 rfl, by simpa using hf 3 f3 rfl, by simpa using hf 4 f4 rfl, by simpa using hf 5 f5 rfl, by simpa using hf 6 f6 rfl, by simpa using hf 7 f7 rfl⟩
theorem step_elem (n : Nat) (cs : List Value) (y : DataW H × List MemPlace)
    (h : DataW.trod enc Tryd.prog W base spare held n 55 cs = some y) (hb : uptoBulk y.1 ≤ 1048576) : ∃ x : StD, kS.K W x cs ∧ SS x := by
  obtain ⟨y0, y1, y2, y3, y4, y5, y6, y7, m, hd, hl, h0, h1, h2, h3, h4, h5, h6, h7⟩ := struct8 Tryd.underlying55 h
  rw [show Tryd.prog.cellsOf 55 = 8 from by kernel_rfl] at hl
  match cs, hl with
  | [c0, c1, c2, c3, c4, c5, c6, c7], _ =>
    have zi : Tryd.prog.cellsOf 3 = 1 := by kernel_rfl
    have zl : Tryd.prog.cellsOf 25 = 1 := by kernel_rfl
    have zs : Tryd.prog.cellsOf 9 = 1 := by kernel_rfl
    have h0' : DataW.trod enc Tryd.prog W base spare held m 3 ([c0, c1, c2, c3, c4, c5, c6, c7].take (Tryd.prog.cellsOf 3)) = some y0 := h0
    have h1' : DataW.trod enc Tryd.prog W base spare held m 9 ([c1, c2, c3, c4, c5, c6, c7].take (Tryd.prog.cellsOf 9)) = some y1 := h1
    have h2' : DataW.trod enc Tryd.prog W base spare held m 9 ([c2, c3, c4, c5, c6, c7].take (Tryd.prog.cellsOf 9)) = some y2 := h2
    have h3' : DataW.trod enc Tryd.prog W base spare held m 9 ([c3, c4, c5, c6, c7].take (Tryd.prog.cellsOf 9)) = some y3 := h3
    have h4' : DataW.trod enc Tryd.prog W base spare held m 9 ([c4, c5, c6, c7].take (Tryd.prog.cellsOf 9)) = some y4 := h4
    have h5' : DataW.trod enc Tryd.prog W base spare held m 9 ([c5, c6, c7].take (Tryd.prog.cellsOf 9)) = some y5 := h5
    have h6' : DataW.trod enc Tryd.prog W base spare held m 25 ([c6, c7].take (Tryd.prog.cellsOf 25)) = some y6 := h6
    have h7' : DataW.trod enc Tryd.prog W base spare held m 3 ([c7].take (Tryd.prog.cellsOf 3)) = some y7 := h7
    rw [zi] at h0' h7'
    rw [zs] at h1' h2' h3' h4' h5'
    rw [zl] at h6'
    rw [hd] at hb
    simp only [uptoBulk, uptoBulkAll] at hb
    obtain ⟨i0, e0, _, _⟩ := DataW.trod_int Tryd.underlying3 h0'
    obtain ⟨i7, e7, _, _⟩ := DataW.trod_int Tryd.underlying3 h7'
    obtain rfl : c0 = .int .i64 i0 := by simpa using e0
    obtain rfl : c7 = .int .i64 i7 := by simpa using e7
    obtain ⟨s1, rfl, b1⟩ := str_bulk (show DataW.trod enc Tryd.prog W base spare held m 9 [c1] = some y1 from h1') (by omega)
    obtain ⟨s2, rfl, b2⟩ := str_bulk (show DataW.trod enc Tryd.prog W base spare held m 9 [c2] = some y2 from h2') (by omega)
    obtain ⟨s3, rfl, b3⟩ := str_bulk (show DataW.trod enc Tryd.prog W base spare held m 9 [c3] = some y3 from h3') (by omega)
    obtain ⟨s4, rfl, b4⟩ := str_bulk (show DataW.trod enc Tryd.prog W base spare held m 9 [c4] = some y4 from h4') (by omega)
    obtain ⟨s5, rfl, b5⟩ := str_bulk (show DataW.trod enc Tryd.prog W base spare held m 9 [c5] = some y5 from h5') (by omega)
    obtain ⟨a6, n6, k6, rfl⟩ := slice_cell Tryd.underlying25 (show DataW.trod enc Tryd.prog W base spare held m 25 [c6] = some y6 from h6')
    obtain ⟨l, g1, rfl, g3, g4, g5⟩ := nds2_of (by omega) (⟨m, h6'⟩ : DataW.Trod enc Tryd.prog W base spare held 25 (.slice a6 n6 k6) y6.1 y6.2)
    exact ⟨⟨i0, s1, s2, s3, s4, s5, l, i7⟩, kS_mk W ⟨i0, s1, s2, s3, s4, s5, l, i7⟩ a6 k6 g3 g1, ⟨b1, b2, b3, b4, b5⟩, g5, g4⟩
theorem steps_of {a : Option Addr} {len cap : Nat} {d : DataW H} {ps : List MemPlace} (hb : uptoBulk d ≤ 1048576)
    (h : DataW.Trod enc Tryd.prog W base spare held 51 (.slice a len cap) d ps) :
    ∃ l : List StD, Kd.C kS W a l.length l ∧ len = l.length ∧ l.length ≤ cap ∧ (∀ n, n ∈ l → SS n) ∧ l.length ≤ 1048576 :=
  rows_bulk kS ⟨0, ⟨#[]⟩, ⟨#[]⟩, ⟨#[]⟩, ⟨#[]⟩, ⟨#[]⟩, [], 0⟩ Tryd.underlying51 (e := 55) (show Tryd.prog.cellsOf 55 = 8 by kernel_rfl) SS step_elem hb h
theorem ver_elem (n : Nat) (cs : List Value) (y : DataW H × List MemPlace)
    (h : DataW.trod enc Tryd.prog W base spare held n 53 cs = some y) (hb : uptoBulk y.1 ≤ 1048576) : ∃ x : VeD, kV.K W x cs ∧ VS x := by
  obtain ⟨y0, y1, y2, m, hd, hl, h0, h1, h2⟩ := struct3 Tryd.underlying53 h
  rw [show Tryd.prog.cellsOf 53 = 3 from by kernel_rfl] at hl
  match cs, hl with
  | [c0, c1, c2], _ =>
    have zi : Tryd.prog.cellsOf 3 = 1 := by kernel_rfl
    have zu : Tryd.prog.cellsOf 44 = 1 := by kernel_rfl
    have zl : Tryd.prog.cellsOf 51 = 1 := by kernel_rfl
    have h0' : DataW.trod enc Tryd.prog W base spare held m 44 ([c0, c1, c2].take (Tryd.prog.cellsOf 44)) = some y0 := h0
    have h1' : DataW.trod enc Tryd.prog W base spare held m 51 ([c1, c2].take (Tryd.prog.cellsOf 51)) = some y1 := h1
    have h2' : DataW.trod enc Tryd.prog W base spare held m 3 ([c2].take (Tryd.prog.cellsOf 3)) = some y2 := h2
    rw [zi] at h2'
    rw [zu] at h0'
    rw [zl] at h1'
    rw [hd] at hb
    simp only [uptoBulk, uptoBulkAll] at hb
    obtain ⟨i0, e0, w0, _⟩ := DataW.trod_int Tryd.underlying44 h0'
    obtain ⟨i2, e2, _, _⟩ := DataW.trod_int Tryd.underlying3 h2'
    obtain rfl : c0 = .int .u64 i0 := by simpa using e0
    obtain rfl : c2 = .int .i64 i2 := by simpa using e2
    obtain ⟨a1, n1, k1, rfl⟩ := slice_cell Tryd.underlying51 (show DataW.trod enc Tryd.prog W base spare held m 51 [c1] = some y1 from h1')
    obtain ⟨l, g1, rfl, g3, g4, g5⟩ := steps_of (by omega) (⟨m, h1'⟩ : DataW.Trod enc Tryd.prog W base spare held 51 (.slice a1 n1 k1) y1.1 y1.2)
    have hu := Go.bounds_u64 (by assumption : (Lit.int .u64 i0).wf = true)
    exact ⟨⟨i0, l, i2⟩, kV_mk W ⟨i0, l, i2⟩ a1 k1 g3 g1, ⟨hu.1, by have := hu.2; show i0 < _; omega⟩, g5, g4⟩
theorem vers_of {a : Option Addr} {len cap : Nat} {d : DataW H} {ps : List MemPlace} (hb : uptoBulk d ≤ 1048576)
    (h : DataW.Trod enc Tryd.prog W base spare held 48 (.slice a len cap) d ps) :
    ∃ l : List VeD, Kd.C kV W a l.length l ∧ len = l.length ∧ l.length ≤ cap ∧ (∀ n, n ∈ l → VS n) ∧ l.length ≤ 1048576 :=
  rows_bulk kV ⟨0, [], 0⟩ Tryd.underlying48 (e := 53) (show Tryd.prog.cellsOf 53 = 3 by kernel_rfl) VS ver_elem hb h
theorem ev_elem (n : Nat) (cs : List Value) (y : DataW H × List MemPlace)
    (h : DataW.trod enc Tryd.prog W base spare held n 50 cs = some y) (hb : uptoBulk y.1 ≤ 1048576) : ∃ x : EvD, kE.K W x cs ∧ ES x := by
  obtain ⟨y0, y1, y2, m, hd, hl, h0, h1, h2⟩ := struct3 Tryd.underlying50 h
  rw [show Tryd.prog.cellsOf 50 = 3 from by kernel_rfl] at hl
  match cs, hl with
  | [c0, c1, c2], _ =>
    have zi : Tryd.prog.cellsOf 3 = 1 := by kernel_rfl
    have zs : Tryd.prog.cellsOf 9 = 1 := by kernel_rfl
    have zl : Tryd.prog.cellsOf 48 = 1 := by kernel_rfl
    have h0' : DataW.trod enc Tryd.prog W base spare held m 9 ([c0, c1, c2].take (Tryd.prog.cellsOf 9)) = some y0 := h0
    have h1' : DataW.trod enc Tryd.prog W base spare held m 48 ([c1, c2].take (Tryd.prog.cellsOf 48)) = some y1 := h1
    have h2' : DataW.trod enc Tryd.prog W base spare held m 3 ([c2].take (Tryd.prog.cellsOf 3)) = some y2 := h2
    rw [zi] at h2'
    rw [zs] at h0'
    rw [zl] at h1'
    rw [hd] at hb
    simp only [uptoBulk, uptoBulkAll] at hb
    obtain ⟨i2, e2, _, _⟩ := DataW.trod_int Tryd.underlying3 h2'
    obtain rfl : c2 = .int .i64 i2 := by simpa using e2
    obtain ⟨s0, rfl, b0⟩ := str_bulk (show DataW.trod enc Tryd.prog W base spare held m 9 [c0] = some y0 from h0') (by omega)
    obtain ⟨a1, n1, k1, rfl⟩ := slice_cell Tryd.underlying48 (show DataW.trod enc Tryd.prog W base spare held m 48 [c1] = some y1 from h1')
    obtain ⟨l, g1, rfl, g3, g4, g5⟩ := vers_of (by omega) (⟨m, h1'⟩ : DataW.Trod enc Tryd.prog W base spare held 48 (.slice a1 n1 k1) y1.1 y1.2)
    exact ⟨⟨s0, l, i2⟩, kE_mk W ⟨s0, l, i2⟩ a1 k1 g3 g1, b0, g5, g4⟩
theorem evs_of {a : Option Addr} {len cap : Nat} {d : DataW H} {ps : List MemPlace} (hb : uptoBulk d ≤ 1048576)
    (h : DataW.Trod enc Tryd.prog W base spare held 22 (.slice a len cap) d ps) :
    ∃ l : List EvD, Kd.C kE W a l.length l ∧ len = l.length ∧ l.length ≤ cap ∧ (∀ n, n ∈ l → ES n) ∧ l.length ≤ 1048576 :=
  rows_bulk kE ⟨⟨#[]⟩, [], 0⟩ Tryd.underlying22 (e := 50) (show Tryd.prog.cellsOf 50 = 3 by kernel_rfl) ES ev_elem hb h
end
theorem schema_of {H : Type} {enc : TypeId × Value → H} {W : World} {base : Nat} {v : Value} {d : DataW H} {ps : List MemPlace} (hv : Value.okWide Tryd.prog W .any base 24 v) (hb : uptoBulk d ≤ 1048576)
    (hw : ∀ m ∈ d.weights Tryd.prog 24, m ≤ reachBytes) (h : DataW.Trod enc Tryd.prog W 0 (fun _ => true) true 24 v d ps) :
    ∃ (A : Option Addr) (l : List EvD) (c : Nat), v = .agg #[.slice A l.length c] ∧ Kd.C kE W A l.length l ∧ l.length ≤ c ∧ l.length ≤ 1048576 ∧ (∀ n, n ∈ l → ES n) := by
  obtain ⟨cs, rfl, hcs⟩ := okWide_struct Tryd.underlying24 hv
  rw [show Tryd.prog.cellsOf 24 = 1 from by kernel_rfl] at hcs
  obtain ⟨fuel, hf⟩ := h
  obtain ⟨xs, n, _, hx, hl, hlen, hff⟩ := DataW.trod_struct Tryd.underlying24 hf
  obtain ⟨rfl, _⟩ := Prod.mk.inj hx
  obtain ⟨cl⟩ := cs
  match cl, hcs, xs, hlen with
  | [c0], _, [y0], _ =>
    have zl : Tryd.prog.cellsOf 22 = 1 := by kernel_rfl
    have h0 := hff 0 _ rfl
    have h0' : DataW.trod enc Tryd.prog W 0 (fun _ => true) true n 22 ([c0].take (Tryd.prog.cellsOf 22)) = some y0 := h0
    rw [zl] at h0'
    simp only [List.map_cons, List.map_nil, uptoBulk, uptoBulkAll] at hb
    obtain ⟨a0, n0, k0, rfl⟩ := slice_cell Tryd.underlying22 (show DataW.trod enc Tryd.prog W 0 (fun _ => true) true n 22 [c0] = some y0 from h0')
    obtain ⟨l, g1, rfl, g3, g4, g5⟩ := evs_of (by omega) (⟨n, h0'⟩ : DataW.Trod enc Tryd.prog W 0 (fun _ => true) true 22 (.slice a0 n0 k0) y0.1 y0.2)
    exact ⟨a0, l, k0, rfl, g1, g3, g5, g4⟩
end Go.Proofs.YtaijoghpfobdbaaDoor.R
end
section
set_option linter.unusedVariables false
set_option linter.unusedSimpArgs false
namespace Go.Proofs.YtaijoghpfobdbaaDoor.P
open Go.RowKit Go.Proofs.YtaijoghpfobdbaaDoor.X Go.Proofs.YtaijoghpfobdbaaDoorW.PrintWords Go.Proofs.YtaijoghpfobdbaaDoorW.PrintLast
def ahd (n : Nd) : List UInt8 :=
  if n.f0 = 1 then Lib.decDigits n.f2.toNat
  else if n.f0 = 2 then L.Quote n.f3.data.toList
  else if n.f0 = 3 then [116, 114, 117, 101]
  else if n.f0 = 4 then [102, 97, 108, 115, 101]
  else if n.f0 = 5 then [45]
  else if n.f0 = 6 ∨ n.f0 = 7 ∨ n.f0 = 8 then [40]
  else if n.f0 = 9 then [99, 97, 116, 40]
  else if n.f0 = 10 then [114, 101, 112, 40]
  else if n.f0 = 11 then [108, 101, 110, 40]
  else [104, 101, 120, 40]
def btw (n : Nd) : List UInt8 := if n.f0 = 6 then [32, 43, 32] else if n.f0 = 7 then [32, 45, 32] else if n.f0 = 8 then [32, 42, 32] else [44, 32]
def bhd (n : Nd) : List UInt8 := if 6 ≤ n.f0 then [41] else []
theorem len_one {α : Type} {l : List α} (h : l.length = 1) : ∃ a, l = [a] := by
  match l, h with
  | [a], _ => exact ⟨a, rfl⟩
mutual
def sz : Tr → Nat
  | .mk _ ks => szs ks + 1
/-- How many nodes in all. -/
def szs : List Tr → Nat
  | [] => 0
  | t :: ts => sz t + szs ts
end
mutual
/-- The tree lies in the row from place a on, and f tells of each node where it begins. -/
def Gd (ns : List Nd) (f : Nat → Nat) : Tr → Nat → Prop
  | .mk n ks, a => ns[a + szs ks]? = some n ∧ f (a + szs ks) = a ∧ Gds ns f ks a
def Gds (ns : List Nd) (f : Nat → Nat) : List Tr → Nat → Prop
  | [], _ => True
  | t :: ts, a => Gd ns f t a ∧ Gds ns f ts (a + sz t)
end
inductive It where
  | nd (a : Nat) (t : Tr)
  | bt (x : Nat) (n : Nd)
  | bh (x : Nat) (n : Nd)
def It.tx : It → List UInt8
  | .nd _ t => P.tx t
  | .bt _ n => btw n
  | .bh _ n => bhd n
def It.ok (ns : List Nd) (f : Nat → Nat) : It → Prop
  | .nd a t => Gd ns f t a ∧ WF t
  | .bt x n => ns[x]? = some n
  | .bh x n => ns[x]? = some n
def It.w : It → Nat
  | .nd _ t => 3 * sz t - 1
  | _ => 1
def ptx (l : List It) : List UInt8 := l.reverse.flatMap It.tx
def pw : List It → Nat
  | [] => 0
  | i :: l => i.w + pw l
def pk (x : Nat) (n : Nd) : Bool → List Tr → Nat → List It
  | _, [], _ => []
  | b, t :: ts, a => pk x n true ts (a + sz t) ++ [.nd a t] ++ (if b = true then [.bt x n] else [])
def pkK (x : Nat) (n : Nd) (ks : List Tr) (a k : Nat) : List It := pk x n (decide (0 < k)) (ks.drop k) (a + szs (ks.take k))
end Go.Proofs.YtaijoghpfobdbaaDoor.P
end
section
namespace Go.Proofs.YtaijoghpfobdbaaDoor.X
open Go.RowKit Go.Proofs.YtaijoghpfobdbaaDoorW.PrintWords Go.Proofs.YtaijoghpfobdbaaDoorW.PrintLast Go.Proofs.YtaijoghpfobdbaaDoorW.PrintMore
attribute [local go_sem] max2_int min2_int max_two min_two max_three min_three max_four min_four   -- for this text's walks alone
set_option linter.unusedVariables false
set_option linter.unusedSimpArgs false
end Go.Proofs.YtaijoghpfobdbaaDoor.X
end
section
namespace Go.Proofs.YtaijoghpfobdbaaDoor.X
open Go.RowKit Go.Proofs.YtaijoghpfobdbaaDoorW.PrintWords Go.Proofs.YtaijoghpfobdbaaDoorW.PrintLast Go.Proofs.YtaijoghpfobdbaaDoorW.PrintMore
attribute [local go_sem] max2_int min2_int max_two min_two max_three min_three max_four min_four   -- for this text's walks alone
set_option linter.unusedVariables false
set_option linter.unusedSimpArgs false
end Go.Proofs.YtaijoghpfobdbaaDoor.X
end
section
namespace Go.Proofs.YtaijoghpfobdbaaDoor.X
open Go.RowKit Go.Proofs.YtaijoghpfobdbaaDoorW.PrintWords Go.Proofs.YtaijoghpfobdbaaDoorW.PrintLast Go.Proofs.YtaijoghpfobdbaaDoorW.PrintMore
attribute [local go_sem] max2_int min2_int max_two min_two max_three min_three max_four min_four   -- for this text's walks alone
set_option linter.unusedVariables false
set_option linter.unusedSimpArgs false
end Go.Proofs.YtaijoghpfobdbaaDoor.X
end
section
set_option linter.unusedVariables false
set_option linter.unusedSimpArgs false
namespace Go.Proofs.YtaijoghpfobdbaaDoor.T
open Go.RowKit Go.Proofs.YtaijoghpfobdbaaDoor Go.Proofs.YtaijoghpfobdbaaDoor.X Go.Proofs.YtaijoghpfobdbaaDoor.L Go.Proofs.YtaijoghpfobdbaaDoorW.PrintWords Go.Proofs.YtaijoghpfobdbaaDoorW.PrintLast Go.Proofs.YtaijoghpfobdbaaDoorW.PrintMore
open Go.Proofs.YtaijoghpfobdbaaDoor.P (Nd ahd btw bhd wordList wordB nameB)
end Go.Proofs.YtaijoghpfobdbaaDoor.T
end
section
set_option linter.unusedVariables false
set_option linter.unusedSimpArgs false
namespace Go.Proofs.YtaijoghpfobdbaaDoor.W
open Go.RowKit Go.Proofs.YtaijoghpfobdbaaDoor.X Go.Proofs.YtaijoghpfobdbaaDoorW.PrintWords Go.Proofs.YtaijoghpfobdbaaDoorW.PrintLast Go.Proofs.YtaijoghpfobdbaaDoorW.PrintMore
open Go.Proofs.YtaijoghpfobdbaaDoor.P (Wrote puts put fin)
abbrev rowB (w : World) (B : Nat) (v : Value) (bs : List UInt8) : Prop := w.ownsRow B 5 1 v (T.nums bs).length (nums .u8 (T.nums bs))
structure Ro (w : World) (B b : Nat) (bs : List UInt8) : Prop where
  row : ∃ v, w.heap[b]? = some (.cells #[v] 101 (0, 0)) ∧ rowB w B v bs
  lo : B ≤ b
  base : B ≤ w.heap.size
  len : bs.length ≤ 9437184
section
variable {w w' w1 w2 : World} {B b : Nat} {bs : List UInt8}
theorem Ro.lt (h : Ro w B b bs) : b < w.heap.size := by
  obtain ⟨v, hb, _⟩ := h.row
  exact blk_lt hb
theorem Ro.blkne (h : Ro w B b bs) {k : Nat} {cs : Array Value} {t : TypeId} {f : Nat × Nat} (hk : w.heap[k]? = some (.cells cs t f)) (h5 : t ≠ 101) : k ≠ b := by
  rintro rfl
  obtain ⟨v, hb, _⟩ := h.row
  rw [hb] at hk
  injection hk with hk
  injection hk with _ hk _
  exact h5 hk.symm
theorem Ro.below (h : Ro w B b bs) (hb : Below w.heap.size w w') : Ro w' B b bs := by
  obtain ⟨v, h1, h2⟩ := h.row
  exact ⟨⟨v, blk_below h1 hb, own_below h2 hb⟩, h.lo, Nat.le_trans h.base hb.size, h.len⟩
theorem own_ne {v : Value} {n : Nat} {xs : List Value} (h : w.ownsRow B 5 1 v n xs) {k : Nat} {cs : Array Value} {t : TypeId} (hk : w.heap[k]? = some (.cells cs t (0, 0))) (h5 : t ≠ 5) : some k ≠ v.ownBlock := by
  intro e
  rcases h.2 with ⟨rfl, _⟩ | ⟨g, cap, cur, rfl, _, hg, _⟩
  · cases e
  · simp only [Value.ownBlock, Option.some.injEq] at e
    subst e
    rw [hg] at hk
    injection hk with hk
    injection hk with _ hk _
    exact h5 hk.symm
end
end Go.Proofs.YtaijoghpfobdbaaDoor.W
end
section
set_option linter.unusedVariables false
set_option linter.unusedSimpArgs false
namespace Go.Proofs.YtaijoghpfobdbaaDoor.P
open Go.RowKit Go.Proofs.YtaijoghpfobdbaaDoor.L
end Go.Proofs.YtaijoghpfobdbaaDoor.P
namespace Go.Proofs.YtaijoghpfobdbaaDoor.W
end Go.Proofs.YtaijoghpfobdbaaDoor.W
namespace Go.Proofs.YtaijoghpfobdbaaDoor.W
open Go.Proofs.YtaijoghpfobdbaaDoor.P (Tr Nd kd sg build dep dmx tx txs txN)
end Go.Proofs.YtaijoghpfobdbaaDoor.W
end
section
set_option linter.unusedVariables false
set_option linter.unusedSimpArgs false
namespace Go.Proofs.YtaijoghpfobdbaaDoor.W
open Go.RowKit Go.Proofs.YtaijoghpfobdbaaDoor.X Go.Proofs.YtaijoghpfobdbaaDoorW.PrintWords Go.Proofs.YtaijoghpfobdbaaDoorW.PrintLast Go.Proofs.YtaijoghpfobdbaaDoorW.PrintMore
open Go.Proofs.YtaijoghpfobdbaaDoor.P (Tr Nd Wrote puts put fin kd kr sg build tx txs WF It ptx pw pk pkK sz szs Gd Gds ahd btw bhd)
theorem R_type {α : Type} {d : Kd α} {e base : Nat} {w : World} {ok : Nat → Prop} {v : Value} {xs : List α} (h : d.R e w base ok v xs) {k : Nat} (hk : v.ownBlock = some k) : ∃ cs, w.heap[k]? = some (.cells cs e (0, 0)) := by
  obtain ⟨inner, ho⟩ := Kd.R_own h
  rcases ho.2 with ⟨rfl, _⟩ | ⟨g, cap, cur, rfl, _, hg, _⟩
  · cases hk
  · simp only [Value.ownBlock, Option.some.injEq] at hk
    subst hk
    exact ⟨cur, hg⟩
section
variable {w w' w0 w1 : World} {B b : Nat} {bs : List UInt8}
theorem Ro.grown {base : Nat} {ok : Nat → Prop} {v : Value} {xs : List Int} (h : Ro w B b bs) (hr : Kd.R (Kd.int .i64) 3 w base ok v xs) (hg : w.grownBy w1 v.ownBlock) : Ro w1 B b bs := by
  obtain ⟨u, h1, h2⟩ := h.row
  refine ⟨⟨u, blk_grown h1 hg (fun e => ?_), own_move h2 (fun k hk => ?_)⟩, h.lo, Nat.le_trans h.base hg.size, h.len⟩
  · obtain ⟨cs, hc⟩ := R_type hr e.symm
    exact h.blkne hc (by decide) rfl
  · refine hg.block k (h2.lt k hk).2 (fun e => ?_)
    obtain ⟨cs, hc⟩ := R_type hr e.symm
    exact own_ne h2 hc (by decide) hk.symm
theorem Fw.grown {row : Option Nat} (h : Fw B b w0 w) (hB : B ≤ w0.heap.size) (hg : w.grownBy w1 row) (hb : ∀ k, row = some k → w0.heap.size ≤ k) : Fw B b w0 w1 := by
  refine ⟨h.below.grown hg (Nat.le_trans hB h.below.size) (fun k hk => Nat.le_trans hB (hb k hk)), fun k o hk h1 h2 => ?_⟩
  have h3 := h.ok k o hk h1 h2
  rw [hg.block k (blk_lt h3) (fun e => ?_)]
  · exact h3
  · have := hb k e.symm
    have := blk_lt hk
    omega
end
theorem at_nd {w : World} {A : Option Addr} {ns : List Nd} {x : Nat} {n : Nd} (h : Kd.C k46 w A ns.length ns) (hx : ns[x]? = some n) : ∃ ad, A = some ad ∧ w.cell? (ad.add (x * 5)) = some (.int .i64 n.f0) ∧ w.cell? ⟨(ad.add (x * 5)).block, (ad.add (x * 5)).off + 1, none⟩ = some (.int .i64 n.f1) ∧ w.cell? ⟨(ad.add (x * 5)).block, (ad.add (x * 5)).off + 2, none⟩ = some (.int .u64 n.f2) ∧ w.cell? ⟨(ad.add (x * 5)).block, (ad.add (x * 5)).off + 3, none⟩ = some (.string n.f3) ∧ w.cell? ⟨(ad.add (x * 5)).block, (ad.add (x * 5)).off + 4, none⟩ = some (.int .i64 n.f4) := by
  obtain ⟨hlt, hg⟩ := List.getElem?_eq_some_iff.1 hx
  obtain ⟨ad, h1, h2⟩ := at_T46 h (x : Int) (by omega) (by omega)
  have : rd_T46 ns (x : Int) = n := by
    rw [P.rd_nd ns x _ _ (List.drop_eq_getElem_cons hlt), hg]
  rw [this, Int.toNat_natCast] at h2
  exact ⟨ad, h1, h2⟩
end Go.Proofs.YtaijoghpfobdbaaDoor.W
end
section
set_option linter.unusedVariables false
set_option linter.unusedSimpArgs false
namespace Go.Proofs.YtaijoghpfobdbaaDoor.W
open Go.RowKit Go.Proofs.YtaijoghpfobdbaaDoor.X Go.Proofs.YtaijoghpfobdbaaDoorW.PrintWords Go.Proofs.YtaijoghpfobdbaaDoorW.PrintLast Go.Proofs.YtaijoghpfobdbaaDoorW.PrintMore
open Go.Proofs.YtaijoghpfobdbaaDoor.P (Tr Nd Wrote puts put fin kd kr sg build tx txs WF It ptx pw pk pkK sz szs Gd Gds ahd btw bhd)
end Go.Proofs.YtaijoghpfobdbaaDoor.W
end
section
set_option linter.unusedVariables false
set_option linter.unusedSimpArgs false
namespace Go.Proofs.YtaijoghpfobdbaaDoor.W
open Go.RowKit Go.Proofs.YtaijoghpfobdbaaDoor.X Go.Proofs.YtaijoghpfobdbaaDoorW.PrintWords Go.Proofs.YtaijoghpfobdbaaDoorW.PrintLast Go.Proofs.YtaijoghpfobdbaaDoorW.PrintMore
open Go.Proofs.YtaijoghpfobdbaaDoor.P (Tr Nd Wrote put fin build tx dep dmx pile rj)
end Go.Proofs.YtaijoghpfobdbaaDoor.W
end
section
set_option linter.unusedVariables false
set_option linter.unusedSimpArgs false
namespace Go.Proofs.YtaijoghpfobdbaaDoor.W
open Go.RowKit Go.Proofs.YtaijoghpfobdbaaDoor.X Go.Proofs.YtaijoghpfobdbaaDoorW.PrintWords Go.Proofs.YtaijoghpfobdbaaDoorW.PrintLast Go.Proofs.YtaijoghpfobdbaaDoorW.PrintMore
open Go.Proofs.YtaijoghpfobdbaaDoor.P (Tr Nd build rj StD goodB nameB noV)
end Go.Proofs.YtaijoghpfobdbaaDoor.W
end
section
set_option linter.unusedVariables false
set_option linter.unusedSimpArgs false
namespace Go.Proofs.YtaijoghpfobdbaaDoor.W
open Go.RowKit Go.Proofs.YtaijoghpfobdbaaDoor.X Go.Proofs.YtaijoghpfobdbaaDoorW.PrintWords Go.Proofs.YtaijoghpfobdbaaDoorW.PrintLast Go.Proofs.YtaijoghpfobdbaaDoorW.PrintMore
open Go.Proofs.YtaijoghpfobdbaaDoor.P (Tr Nd Wrote put fin build tx StD goodB nameB noV lineT stT txV)
end Go.Proofs.YtaijoghpfobdbaaDoor.W
end
section
set_option linter.unusedVariables false
set_option linter.unusedSimpArgs false
namespace Go.Proofs.YtaijoghpfobdbaaDoor.W
open Go.RowKit Go.Proofs.YtaijoghpfobdbaaDoor.X Go.Proofs.YtaijoghpfobdbaaDoorW.PrintWords Go.Proofs.YtaijoghpfobdbaaDoorW.PrintLast Go.Proofs.YtaijoghpfobdbaaDoorW.PrintMore
open Go.Proofs.YtaijoghpfobdbaaDoor.P (Tr Nd Wrote put fin build tx dep judgeE StD VeD EvD goodB nameB wrs stE allE veE evE wholeE rj stT)
def LenE (es : List EvD) : Prop := es.length ≤ 1099511627776 ∧ ∀ e, e ∈ es → e.vers.length ≤ 1099511627776 ∧ ∀ v, v ∈ e.vers → v.steps.length ≤ 1099511627776 ∧ ∀ d, d ∈ v.steps → d.val.length ≤ 1099511627776
section
variable {w : World} {A : Option Addr}
end
end Go.Proofs.YtaijoghpfobdbaaDoor.W
end
section
set_option linter.unusedVariables false
set_option linter.unusedSimpArgs false
namespace Go.Proofs.YtaijoghpfobdbaaDoor.W
open Go.RowKit Go.Proofs.YtaijoghpfobdbaaDoor.X Go.Proofs.YtaijoghpfobdbaaDoorW.PrintWords Go.Proofs.YtaijoghpfobdbaaDoorW.PrintLast Go.Proofs.YtaijoghpfobdbaaDoorW.PrintMore
open Go.Proofs.YtaijoghpfobdbaaDoor.P (Nd StD VeD EvD)
theorem eqN (d : Nat) (w : World) (x0 y0 : Int) (x1 y1 : Int) (x2 y2 : Int) (x3 y3 : ByteArray) (x4 y4 : Int) :
    (Op.equalIn (d + 2) 46 (.agg #[.int .i64 x0, .int .i64 x1, .int .u64 x2, .string x3, .int .i64 x4]) (.agg #[.int .i64 y0, .int .i64 y1, .int .u64 y2, .string y3, .int .i64 y4])).run Tryd.prog w = .ok (x0 == y0 && (x1 == y1 && (x2 == y2 && (x3.toList == y3.toList && (x4 == y4))))) w := by
  refine eqA_of Tryd.underlying46 (by kernel_rfl) ?_
  refine eqf_cons (by rfl) (by go_simp; rfl) (by go_simp; rfl) (by go_simp) ?_
  refine eqf_cons (by rfl) (by go_simp; rfl) (by go_simp; rfl) (by go_simp) ?_
  refine eqf_cons (by rfl) (by go_simp; rfl) (by go_simp; rfl) (by go_simp) ?_
  refine eqf_cons (by rfl) (by go_simp; rfl) (by go_simp; rfl) (by go_simp) ?_
  exact eqf_last (by rfl) (by go_simp; rfl) (by go_simp; rfl) (by go_simp)
attribute [local go_sem high] Go.Proofs.YtaijoghpfobdbaaDoor.W.eqN
def sN (x y : Nd) : Prop := x.f0 = y.f0 ∧ x.f1 = y.f1 ∧ x.f2 = y.f2 ∧ x.f3 = y.f3
def sL {α : Type} (r : α → α → Prop) (xs ys : List α) : Prop := xs.length = ys.length ∧ ∀ (i : Nat) (x y : α), xs[i]? = some x → ys[i]? = some y → r x y
def sS (x y : StD) : Prop := x.k = y.k ∧ x.a = y.a ∧ x.b = y.b ∧ x.c = y.c ∧ x.sep = y.sep ∧ x.ty = y.ty ∧ sL sN x.val y.val
def sV (x y : VeD) : Prop := x.num = y.num ∧ sL sS x.steps y.steps
def sE (x y : EvD) : Prop := x.name = y.name ∧ sL sV x.vers y.vers
theorem sL.at {α : Type} {r : α → α → Prop} {xs ys : List α} (h : sL r xs ys) (i : Nat) (hi : i < xs.length) : ∃ x y, xs[i]? = some x ∧ ys[i]? = some y ∧ r x y :=
  ⟨_, _, List.getElem?_eq_getElem hi, List.getElem?_eq_getElem (by rw [← h.1]; exact hi), h.2 i _ _ (List.getElem?_eq_getElem hi) (List.getElem?_eq_getElem (by rw [← h.1]; exact hi))⟩
theorem sL.len {α : Type} {r : α → α → Prop} {xs ys : List α} (h : sL r xs ys) : xs.length = ys.length := h.1
set_option maxHeartbeats 8000000 in
set_option maxRecDepth 100000 in
theorem nodes_calls (w : World) (A1 A2 : Option Addr) (c1 c2 : Nat) (xs ys : List Nd) (h1 : Kd.C k46 w A1 xs.length xs) (h2 : Kd.C k46 w A2 ys.length ys) (hx : xs.length ≤ 4611686018427387904) (hs : sL sN xs ys) :
    Calls Tryd.prog 16 #[.slice A1 xs.length c1, .slice A2 ys.length c2] w fun e w' => e = .returned (.bool true) ∧ Below w.heap.size w w' := by
  have hlen := hs.len
  have H1 := Aside0.mk h1
  have H2 := Aside0.mk h2
  have HX := Aside0.mk hx
  have HS := Aside0.mk hs
  have HLE := Aside0.mk hlen
  rw [← hlen]
  clear h1 h2 hx hs hlen
  go_enter Tryd.func16, Tryd.ntmps16
  go_wp2_with fail
  go_loopw [5] (fun ti wr => ∃ i : Nat, ti = .int .i64 (i : Int) ∧ Aside0 (i ≤ xs.length) ∧ Aside0 (Below w.heap.size w wr)) (fun ti _ => xs.length - left ti)
  case atStart => exact ⟨0, rfl, ⟨Nat.zero_le _⟩, ⟨Below.refl _ _⟩⟩
  case round =>
    obtain ⟨i, rfl, hi, HB⟩ := hrel
    rename World => wa
    by_cases hlt : i < xs.length
    · have d1 : decide ((i : Int) < (xs.length : Int)) = true := decide_eq_true (by omega)
      have d2 : decide (i < xs.length) = true := decide_eq_true hlt
      obtain ⟨x, y, hx, hy, e0, e1, e2, e3⟩ := HS.out.at i hlt
      obtain ⟨ad1, hA1, x0, x1, x2, x3, x4⟩ := at_nd (Kd.C_below H1.out HB.out) hx
      obtain ⟨ad2, hA2, _⟩ := at_nd (Kd.C_below H2.out HB.out) hy
      subst hA1 hA2
      rw [e0] at x0
      rw [e1] at x1
      rw [e2] at x2
      rw [e3] at x3
      obtain ⟨b0, b1, b2, b3, b4⟩ := y
      obtain ⟨p, hp⟩ : ∃ p, p = x.f4 := ⟨_, rfl⟩
      rw [← hp] at x4
      obtain ⟨W0, hW0⟩ : ∃ W0, W0 = wa.alloc (.cells #[.int .i64 b0, .int .i64 b1, .int .u64 b2, .string b3, .int .i64 p] 46) := ⟨_, rfl⟩
      obtain ⟨W, hW⟩ : ∃ W, W = wa.alloc (.cells #[.int .i64 b0, .int .i64 b1, .int .u64 b2, .string b3, .int .i64 b4] 46) := ⟨_, rfl⟩
      have hBW0 : Below wa.heap.size wa W0 := by rw [hW0]; exact below_alloc (Below.refl _ _) _
      have hBW : Below wa.heap.size wa W := by rw [hW]; exact below_alloc (Below.refl _ _) _
      have hbn : W.heap[wa.heap.size]? = some (.cells #[.int .i64 b0, .int .i64 b1, .int .u64 b2, .string b3, .int .i64 b4] 46 (0, 0)) := by rw [hW]; exact blk_new _ _
      have z0 := (blk_cell hbn 0).trans rfl
      have z1 := (blk_cell hbn 1).trans rfl
      have z2 := (blk_cell hbn 2).trans rfl
      have z3 := (blk_cell hbn 3).trans rfl
      have z4 := (blk_cell hbn 4).trans rfl
      obtain ⟨_, q1, _, _, _, _, v4⟩ := at_nd (Kd.C_below H2.out (below_step HB.out hBW0)) hy
      obtain ⟨_, q2, y0, y1, y2, y3, y4⟩ := at_nd (Kd.C_below H2.out (below_step HB.out hBW)) hy
      injection q1 with q1
      injection q2 with q2
      subst q1 q2
      have HBW := Aside0.mk (below_step HB.out hBW)
      have HW := Aside0.mk hW
      have HLT := Aside0.mk hlt
      have W1 : Aside0 (wrap64 ((i : Int) + 1) = ((i + 1 : Nat) : Int)) := ⟨by have := HX.out; unfold wrap64; omega⟩
      rw [hW0] at v4
      rw [hW] at z0 z1 z2 z3 z4 y0 y1 y2 y3 y4
      clear hx hy e0 e1 e2 e3 hp hW0 hW hBW0 hBW hbn
      go_wp2_with fail
      go_quiet (fail)
      go_wp2_with fail
      rw [W1.out]
      go_roundw
      case measure => have := HLT.out; simp only [left, Int.toNat_natCast]; omega
      case rel => exact ⟨i + 1, rfl, ⟨HLT.out⟩, ⟨pw_below_drewN (by rw [← HW.out]; exact HBW.out) _⟩⟩
    · have d1 : decide ((i : Int) < (xs.length : Int)) = false := decide_eq_false (by omega)
      have d2 : decide (i < xs.length) = false := decide_eq_false hlt
      go_wp2_with fail
      go_ret
      exact ⟨rfl, HB.out⟩
end Go.Proofs.YtaijoghpfobdbaaDoor.W
end
