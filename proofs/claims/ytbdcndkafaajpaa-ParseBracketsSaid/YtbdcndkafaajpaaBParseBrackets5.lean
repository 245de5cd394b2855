/- The texts of the law ParseBrackets, put together by a program of this workplace out of its own texts and of what the kit's print has written: walks of the functions, plain laws. No condition but those in the theorems. -/
import Derived.Test.YtbdcndkafaajpaaBParseBrackets0
import Derived.Test.YtbdcndkafaajpaaBParseBrackets1
import Derived.Test.YtbdcndkafaajpaaBParseBrackets2
import Derived.Test.YtbdcndkafaajpaaBParseBrackets3
import Derived.Test.YtbdcndkafaajpaaBParseBrackets4
section
set_option linter.unusedVariables false
set_option linter.unusedSimpArgs false
namespace Go.Proofs.Ytbdcndkafaajpaa.A
open Go.RowKit Go.Proofs.Ytbdcndkafaajpaa.X Go.Proofs.Ytbdcndkafaajpaa.L Go.Proofs.Ytbdcndkafaajpaa.T Go.Proofs.YtbdcndkafaajpaaW.PrintWords Go.Proofs.YtbdcndkafaajpaaW.PrintLast Go.Proofs.YtbdcndkafaajpaaW.PrintMore
open Go.Proofs.Ytbdcndkafaajpaa.P (Nd EO Res hd isT isM takeM mxl comb mk1 StD VeD EvD Out overLex schemaO valueO exprW valueW opn isOp isMt Pw NR)
theorem opn_sh (k : Nat) (i : List L.Tok) : opn ((i.map (L.Tok.sh k)).map toS) = opn (i.map toS) := by
  induction i with
  | nil => rfl
  | cons t i ih =>
    show opn ([toS (L.Tok.sh k t)] ++ (i.map (L.Tok.sh k)).map toS) = opn ([toS t] ++ i.map toS)
    have h : isOp (toS (L.Tok.sh k t)) = isOp (toS t) := rfl
    have h2 : opn [toS (L.Tok.sh k t)] = opn [toS t] := by
      unfold P.opn
      rw [List.filter_cons, List.filter_cons, h]
      cases isOp (toS t) <;> rfl
    rw [P.opn_app, P.opn_app, ih, h2]
theorem isMt_mk (c d : UInt8) (a b n : Nat) : isMt c (toS ⟨4, [d], n, a, b⟩) = (d == c) := by
  show ((((4 : Nat) : Int) == 4) && ((ba [d]).toList == (mk1 c).toList)) = _
  rw [toList_ba, show (mk1 c).toList = [c] from by rw [toList_data]; rfl]
  simp
theorem lx_open (r : List UInt8) : lx 0 (40 :: r) = (lx 1 r).push ⟨4, [40], 0, 0, 1⟩ := by
  have ht : L.tok ([40] ++ r) = .ok ⟨4, [40], 0, 1⟩ := by
    show L.tok (40 :: r) = _
    rw [L.tok, if_neg (by decide), if_neg (by decide), if_neg (by decide), if_pos (by decide)]
  exact @lx_mk 0 [] [40] r _ rfl ht rfl
theorem lx_close (o : Nat) : lx o [41] = .toks [⟨4, [41], 0, o, o + 1⟩, ⟨0, [], 0, o + 1, o + 1⟩] := by
  have := @lx_mk o [] [41] [] ⟨4, [41], 0, 1⟩ rfl (by kernel_rfl) rfl
  rw [List.nil_append, List.append_nil] at this
  rw [this, lx_end rfl]; rfl
theorem lx_close1 (o : Nat) : lx o [41, 43, 49] = .toks [⟨4, [41], 0, o, o + 1⟩, ⟨4, [43], 0, o + 1, o + 2⟩, ⟨2, [], 1, o + 2, o + 3⟩, ⟨0, [], 0, o + 3, o + 3⟩] := by
  have h1 := @lx_mk o [] [41] [43, 49] ⟨4, [41], 0, 1⟩ rfl (by kernel_rfl) rfl
  have h2 := @lx_mk (o + 1) [] [43] [49] ⟨4, [43], 0, 1⟩ rfl (by kernel_rfl) rfl
  have h3 := @lx_mk (o + 1 + 1) [] [49] [] ⟨2, [], 1, 1⟩ rfl (by kernel_rfl) rfl
  rw [List.nil_append, List.append_nil] at h3
  show lx o ([] ++ ([41] ++ [43, 49])) = _
  rw [h1]
  show (lx (o + 1) ([] ++ ([43] ++ [49]))).push _ = _
  rw [h2]
  show ((lx (o + 1 + 1) [49]).push _).push _ = _
  rw [h3, lx_end rfl]; rfl
def brT (s : ByteArray) (m : ByteArray) : ByteArray := (⟨#[40]⟩ : ByteArray) ++ s ++ m
theorem lx_br {s : ByteArray} {i : List L.Tok} (hx : lx 0 s.data.toList = .toks (i ++ [⟨0, [], 0, s.size, s.size⟩])) (m : List UInt8) :
    lx 0 (40 :: (s.data.toList ++ 10 :: m)) = LR.pre (⟨4, [40], 0, 0, 1⟩ :: i.map (L.Tok.sh 1)) (lx (s.size + 2) m) := by
  have h1 := lx_sh 1 _ 0 _ (Nat.le_refl s.data.toList.length)
  rw [hx, Nat.zero_add] at h1
  obtain ⟨i', e', _, hj⟩ := lx_join m _ 1 _ _ (Nat.le_refl _) h1
  have hii : i.map (L.Tok.sh 1) = i' := by
    rw [List.map_append] at e'
    exact (List.append_inj' e' rfl).1
  rw [lx_open, hj, ← hii, pre_push, ← size_len]
  rw [show 1 + s.size + 1 = s.size + 2 by omega]
theorem value_lex {x : ByteArray} {l : List L.Tok} (hl : x.data.toList.length ≤ 1048576) (h : lx 0 x.data.toList = .toks l) : valueO x = P.outO (valueW (l.map toS)) := by
  unfold valueO overLex
  rw [Lex_small hl, h]
theorem value_end {ts : List Tk} {v : EO} {e : Tk} (h : exprW ts = .ok v [e]) (h0 : e.f0 = 0) : valueW ts = .ok v.ns [e] := by
  unfold P.valueW
  rw [h]
  show (P.endW [e]).bind _ = _
  unfold P.endW
  rw [if_pos (show (hd [e]).f0 = 0 from h0)]; rfl
theorem value_bad {ts : List Tk} {e p : Int} (h : exprW ts = .bad e p) : valueW ts = .bad e p := by
  unfold P.valueW
  rw [h]; rfl
theorem value_split {i : List Tk} {e : Tk} {ns : List Nd} {r : List Tk} (h : valueW (i ++ [e]) = .ok ns r) (he : e.f0 = 0) (hi : ∀ t ∈ i, t.f0 ≠ 0) : ∃ v, exprW (i ++ [e]) = .ok v [e] ∧ v.ns = ns := by
  unfold P.valueW at h
  obtain ⟨v, s, h1, h2⟩ := P.bind_ok h
  obtain ⟨t, s2, h3, h4⟩ := P.bind_ok h2
  cases h4
  obtain ⟨h0, rfl⟩ := P.endW_ok h3
  obtain ⟨c, hx, hk, _⟩ := P.exprW_L _ _ _ _ rfl h1
  obtain ⟨rfl, rfl⟩ := P.ends_split hx he hi hk h0
  exact ⟨v, h1, rfl⟩
theorem nodes_self {x : ByteArray} {ks : List Nd} (h : valueO x = .ok ks) : nodesB 0 true ks ks = true := by
  obtain ⟨i, r, hl, hx, hk, hy⟩ := ok_split (f := valueW) h
  have hs := P.valueW_rel (P.TL_same hx)
  rw [List.map_append, show [(⟨0, [], 0, x.size, x.size⟩ : L.Tok)].map toS = [toS ⟨0, [], 0, x.size, x.size⟩] from rfl, hy] at hs
  exact nodesB_of (sm_wrap hl) hs.1
theorem brackets_plain {s : ByteArray} (hs : s.size ≤ 131072) {ns : List Nd} (h : valueO s = .ok ns) :
    ∃ l, L.Lex s.data.toList = .toks l ∧ ((∃ ms, valueO (brT s ⟨#[10, 41]⟩) = .ok ms ∧ nodesB 1 true ns ms = true ∧ ((∃ p, valueO (brT s ⟨#[10, 41, 43, 49]⟩) = .bad 91 p) ∨
        ∃ ks, valueO (brT s ⟨#[10, 41, 43, 49]⟩) = .ok ks ∧ nodesB 0 true (ms ++ [⟨1, 0, 1, ⟨#[]⟩, (s.size : Int) + 4⟩, ⟨6, 0, 0, ⟨#[]⟩, (s.size : Int) + 3⟩]) ks = true)) ∨
      ((∃ p, valueO (brT s ⟨#[10, 41]⟩) = .bad 91 p) ∧ 99 ≤ opn (l.map toS))) := by
  obtain ⟨i, r, hl, hx, hk, hy⟩ := ok_split (f := valueW) h
  refine ⟨_, by rw [Lex_small hl]; exact hx, ?_⟩
  obtain ⟨v, hv, rfl⟩ := value_split hy rfl hk
  -- the shifted expression
  obtain ⟨i1, hi1⟩ : ∃ i1, i1 = (i.map (L.Tok.sh 1)).map toS := ⟨_, rfl⟩
  obtain ⟨e1, he1⟩ : ∃ e1, e1 = toS (L.Tok.sh 1 ⟨0, [], 0, s.size, s.size⟩) := ⟨_, rfl⟩
  have hrel := P.exprW_rel (P.TL_shift hx 1)
  rw [show (i ++ [(⟨0, [], 0, s.size, s.size⟩ : L.Tok)]).map toS = i.map toS ++ [toS ⟨0, [], 0, s.size, s.size⟩] by rw [List.map_append]; rfl, hv, show ((i ++ [(⟨0, [], 0, s.size, s.size⟩ : L.Tok)]).map (L.Tok.sh 1)).map toS = i1 ++ [e1] by rw [hi1, he1, List.map_append, List.map_append]; rfl] at hrel
  cases hz : exprW (i1 ++ [e1]) with
  | bad e p => rw [hz] at hrel; exact hrel.elim
  | ok v1 r1 =>
    rw [hz] at hrel
    obtain ⟨hER, hTL⟩ := hrel
    have hr1 : r1 = [e1] := by
      obtain ⟨c, hc, _⟩ := P.exprW_L _ _ _ _ rfl hz
      have hlen : r1.length = 1 := hTL.r.len
      exact (List.append_inj' hc (by simp [hlen])).2.symm
    subst hr1
    have hn : nodesB 1 true v.ns v1.ns = true := nodesB_of (sh_wrap (k := 1) (by rw [← size_len]; omega) (by omega)) hER.ns
    have hop : isMt 40 (toS ⟨4, [40], 0, 0, 1⟩) = true := isMt_mk 40 40 0 1 0
    have hcl : isMt 41 (toS ⟨4, [41], 0, s.size + 2, s.size + 3⟩) = true := isMt_mk 41 41 _ _ 0
    have l1 : (brT s ⟨#[10, 41]⟩).data.toList = 40 :: (s.data.toList ++ 10 :: [41]) := by unfold brT; rw [data_app, data_app]; simp
    have l2 : (brT s ⟨#[10, 41, 43, 49]⟩).data.toList = 40 :: (s.data.toList ++ 10 :: [41, 43, 49]) := by unfold brT; rw [data_app, data_app]; simp
    have x1 := lx_br hx [41]
    rw [lx_close] at x1
    have x2 := lx_br hx [41, 43, 49]
    rw [lx_close1] at x2
    have v1' := value_lex (x := brT s ⟨#[10, 41]⟩) (by rw [l1]; simp only [List.length_cons, List.length_append, List.length_nil, ← size_len]; omega) (by rw [l1]; exact x1)
    have v2' := value_lex (x := brT s ⟨#[10, 41, 43, 49]⟩) (by rw [l2]; simp only [List.length_cons, List.length_append, List.length_nil, ← size_len]; omega) (by rw [l2]; exact x2)
    rw [show ((⟨4, [40], 0, 0, 1⟩ :: i.map (L.Tok.sh 1)) ++ [(⟨4, [41], 0, s.size + 2, s.size + 3⟩ : L.Tok), ⟨0, [], 0, s.size + 3, s.size + 3⟩]).map toS = toS ⟨4, [40], 0, 0, 1⟩ :: (i1 ++ [toS ⟨4, [41], 0, s.size + 2, s.size + 3⟩, toS ⟨0, [], 0, s.size + 3, s.size + 3⟩]) by rw [hi1]; simp] at v1'
    rw [show ((⟨4, [40], 0, 0, 1⟩ :: i.map (L.Tok.sh 1)) ++ [(⟨4, [41], 0, s.size + 2, s.size + 3⟩ : L.Tok), ⟨4, [43], 0, s.size + 3, s.size + 4⟩, ⟨2, [], 1, s.size + 4, s.size + 5⟩, ⟨0, [], 0, s.size + 5, s.size + 5⟩]).map toS = toS ⟨4, [40], 0, 0, 1⟩ :: (i1 ++ [toS ⟨4, [41], 0, s.size + 2, s.size + 3⟩, toS ⟨4, [43], 0, s.size + 3, s.size + 4⟩, toS ⟨2, [], 1, s.size + 4, s.size + 5⟩, toS ⟨0, [], 0, s.size + 5, s.size + 5⟩]) by rw [hi1]; simp] at v2'
    rcases P.expr_bracket (e2 := toS ⟨0, [], 0, s.size + 3, s.size + 3⟩) hz hop hcl rfl with hb | ⟨hno, p, hb⟩
    · refine .inl ⟨v1.ns, by rw [v1', value_end hb rfl]; rfl, hn, ?_⟩
      rcases P.expr_bracket1 (pl := toS ⟨4, [43], 0, s.size + 3, s.size + 4⟩) (nm := toS ⟨2, [], 1, s.size + 4, s.size + 5⟩) (e2 := toS ⟨0, [], 0, s.size + 5, s.size + 5⟩) hz hop hcl (isMt_mk 43 43 _ _ 0) (isMt_mk 42 43 _ _ 0) (by rw [show (toS ⟨4, [43], 0, s.size + 3, s.size + 4⟩).f1.toList = [43] from toList_ba _, show (mk1 45).toList = [45] from by rw [toList_data]; rfl]; decide) rfl rfl with hb2 | ⟨p, hb2⟩
      · rw [hb2.symm.trans hb2] at *
        unfold P.comb at hb2
        split at hb2
        · exact .inl ⟨_, by rw [v2', value_bad hb2]; rfl⟩
        · have hk2 : valueO (brT s ⟨#[10, 41, 43, 49]⟩) = .ok (v1.ns ++ [⟨1, 0, 1, ⟨#[]⟩, (s.size : Int) + 4⟩, ⟨6, 0, 0, ⟨#[]⟩, (s.size : Int) + 3⟩]) := by
            rw [v2', value_end hb2 rfl]
            show Out.ok _ = Out.ok _
            simp only [List.map_cons, List.map_nil, List.flatten_cons, List.flatten_nil, List.append_nil, List.append_assoc]
            rfl
          exact .inr ⟨_, hk2, nodes_self hk2⟩
      · exact .inl ⟨p, by rw [v2', value_bad hb2]; rfl⟩
    · refine .inr ⟨⟨p, by rw [v1', value_bad hb]; rfl⟩, ?_⟩
      have ho : opn (i1 ++ [toS ⟨4, [41], 0, s.size + 2, s.size + 3⟩, toS ⟨0, [], 0, s.size + 3, s.size + 3⟩]) = opn (i.map toS) := by
        rw [P.opn_app, hi1, opn_sh]
        have : opn [toS ⟨4, [41], 0, s.size + 2, s.size + 3⟩, toS ⟨0, [], 0, s.size + 3, s.size + 3⟩] = 0 := by
          unfold P.opn
          have q1 : isOp (toS ⟨4, [41], 0, s.size + 2, s.size + 3⟩) = false := by
            unfold P.isOp
            rw [isMt_mk, isMt_mk]; rfl
          have q2 : isOp (toS ⟨0, [], 0, s.size + 3, s.size + 3⟩) = false := by
            unfold P.isOp
            rw [P.isMt_zero rfl, P.isMt_zero rfl]; rfl
          rw [List.filter_cons_of_neg (by rw [q1]; decide), List.filter_cons_of_neg (by rw [q2]; decide)]; rfl
        omega
      rw [ho] at hno
      rw [List.map_append, P.opn_app]
      omega
theorem value_len {x : ByteArray} {ks : List Nd} (h : valueO x = .ok ks) : ks.length ≤ 1048577 := by
  obtain ⟨i, r, hl, hx, hk, hy⟩ := ok_split (f := valueW) h
  obtain ⟨v, hv, rfl⟩ := value_split hy rfl hk
  have h1 := P.X_sz _ _ _ _ _ _ hv
  have h2 := lx_count _ _ _ _ (Nat.le_refl _) hx
  simp only [P.base, List.length_append, List.length_map, List.length_singleton] at h1 h2
  omega
end Go.Proofs.Ytbdcndkafaajpaa.A
end
section
set_option linter.unusedVariables false
set_option linter.unusedSimpArgs false
namespace Go.Proofs.Ytbdcndkafaajpaa.A
open Go.RowKit Go.Proofs.Ytbdcndkafaajpaa.X Go.Proofs.Ytbdcndkafaajpaa.L Go.Proofs.Ytbdcndkafaajpaa.T Go.Proofs.YtbdcndkafaajpaaW.PrintWords Go.Proofs.YtbdcndkafaajpaaW.PrintLast Go.Proofs.YtbdcndkafaajpaaW.PrintMore
open Go.Proofs.Ytbdcndkafaajpaa.P (Nd EO Res hd isT isM takeM mxl comb mk1 StD VeD EvD Out overLex schemaO valueO exprW valueW opn isOp isMt Pw NR)
theorem opn_step (L : List Tk) (i : Nat) (h : i < L.length) : opn (L.take (i + 1)) = opn (L.take i) + (if isOp (L.getD i z47) then 1 else 0) := by
  rw [List.take_succ_eq_append_getElem h, P.opn_app]
  congr 1
  rw [List.getD_eq_getElem?_getD, List.getElem?_eq_getElem h]
  unfold P.opn
  rw [List.filter_cons]
  simp only [Option.getD_some, List.filter_nil]
  split <;> rfl
theorem C_two {w : World} {b : Nat} {x y : Nd} (h : w.heap[b]? = some (.cells (nodeCs x ++ nodeCs y).toArray 49 (0, 0))) : Kd.C kn w (some ⟨b, 0, none⟩) 2 [x, y] := by
  refine ⟨rfl, by omega, fun _ => ⟨_, rfl, fun j p hj => ⟨nodeCs p, rfl, kn_mk w p, fun i u hu => ?_⟩⟩⟩
  have hi : i < 5 := by
    have := (List.getElem?_eq_some_iff.1 hu).1
    exact this
  have hc : w.cell? ((⟨b, 0, none⟩ : Addr).add (j * 5 + i)) = ((nodeCs x ++ nodeCs y).toArray)[j * 5 + i]? := by
    have := blk_cell h (j * 5 + i)
    rw [← this]
    by_cases h0 : j * 5 + i = 0
    · rw [h0]; rfl
    · simp only [Addr.add]
      rw [if_neg h0]; simp
  show w.cell? ((⟨b, 0, none⟩ : Addr).add (j * 5 + i)) = some u
  rw [hc, List.getElem?_toArray]
  match j, hj with
  | 0, hj =>
    obtain rfl : x = p := by simpa using hj
    rw [List.getElem?_append_left (by show 0 * 5 + i < 5; omega), Nat.zero_mul, Nat.zero_add]; exact hu
  | 1, hj =>
    obtain rfl : y = p := by simpa using hj
    rw [List.getElem?_append_right (by show 5 ≤ 1 * 5 + i; omega), show 1 * 5 + i - (nodeCs x).length = i by show 1 * 5 + i - 5 = i; omega]; exact hu
  | j + 2, hj => simp at hj
set_option maxHeartbeats 16000000 in
set_option maxRecDepth 100000 in
theorem brackets_calls (w : World) (s : ByteArray) : Calls Try.prog 6 #[.string s] w fun e w' => e = .returned (.bool true) ∧ Below w.heap.size w w' := by
  by_cases hs : s.size ≤ 131072
  · have d1 : decide ((s.size : Int) > 131072) = false := decide_eq_false (by omega)
    have HS := Aside0.mk hs
    clear hs
    go_enter Try.func6, Try.ntmps6
    go_wp2_with fail
    refine (awake_calls w).mono ?_
    rintro e w1 ⟨rfl, hb1⟩
    have HB1 := Aside0.mk hb1
    clear hb1
    go_wp2_with fail
    refine (Value_calls w1 s).mono ?_
    rintro e w2 ⟨⟨Av, nv, cv⟩, l, at_, er, rfl, hrows, hb, hsays⟩
    have HB2 := Aside0.mk (below_step HB1.out hb)
    cases hx : valueO s with
    | bad er' p' =>
      rw [hx] at hsays
      obtain ⟨rfl, rfl, hv, hne⟩ := hsays
      injection hv with hv1 hv2 hv3
      subst hv1 hv2 hv3
      have c1 : (er != 0) = true := bne_iff_ne.2 hne
      clear hx hne hrows hb
      go_wp2
      go_ret
      exact ⟨rfl, HB2.out⟩
    | ok ns =>
      rw [hx] at hsays
      obtain ⟨rfl, rfl, hm⟩ := hsays
      have hr : Kd.R kn 49 w2 w1.heap.size (fun _ => True) (.slice Av nv cv) ns := hrows.holds _ hm
      obtain ⟨e0, _, hC⟩ := Kd.R_reads' hr
      obtain rfl : nv = ns.length := e0
      have HNS := Aside0.mk hC
      have HNM := Aside0.mk (R_max9 hr)
      obtain ⟨tl, htl, hpl⟩ := brackets_plain HS.out hx
      have HPL := Aside0.mk hpl
      obtain ⟨k, hk⟩ := (lexes_ev s).rounds
      rw [htl] at hk
      obtain ⟨hg1, hg2, hg3⟩ := toks_good htl
      obtain ⟨L, hL⟩ : ∃ L, L = tl.map toS := ⟨_, rfl⟩
      have hk' : lex_Lex.f k s = some (L, 0, 0) := by rw [hk, hL]; rfl
      rw [← hL] at hg3
      have HL3 := Aside0.mk hg3
      have HLL := Aside0.mk hL
      have HLX := Aside0.mk (lex_Lex.calls k s L 0 0 w2 hk')
      clear hx hrows hb hm hr hC htl hpl hk hk' hg1 hg2 hg3 hL
      go_wp2_with fail
      refine HLX.out.mono ?_
      rintro e w3 ⟨v0, rfl, hr3, hb3⟩
      obtain ⟨At, ct, rfl⟩ := Kd.R_slice hr3
      obtain ⟨e3, _, hC3⟩ := Kd.R_reads' hr3
      have HB3 := Aside0.mk (below_step HB2.out hb3)
      have HNS3 := Aside0.mk (Kd.C_below HNS.out hb3)
      have HC3 := Aside0.mk hC3
      have HMX : Aside0 (L.length ≤ 9223372036854775807) := ⟨by have := HL3.out; omega⟩
      clear hr3 hb3 e3 hC3
      go_wp2_with fail
      go_loopw [10, 11] (fun tn ti wr => ∃ i : Nat, ti = .int .i64 (i : Int) ∧ tn = .int .i64 ((opn (L.take i) : Nat) : Int) ∧ Aside0 (i ≤ L.length) ∧ Aside0 (Below w3.heap.size w3 wr)) (fun _ ti _ => L.length - left ti)
      case atStart => exact ⟨0, rfl, rfl, ⟨Nat.zero_le _⟩, ⟨Below.refl _ _⟩⟩
      case round =>
        obtain ⟨i, rfl, rfl, hi, hb⟩ := hrel
        by_cases hlt : i < L.length
        · have dl : ((i : Int) < (L.length : Int)) := by omega
          have dl2 : decide ((i : Int) < (L.length : Int)) = true := decide_eq_true dl
          have hop := opn_step L i hlt
          obtain ⟨ad, hA, x0, x1, _, _, _⟩ := at_T47 (Kd.C_below HC3.out hb.out) (i : Int) (by omega) (by omega)
          subst hA
          rw [Int.toNat_natCast] at x0 x1
          obtain ⟨t, ht⟩ : ∃ t, t = L.getD i z47 := ⟨_, rfl⟩
          rw [show rd_T47 L (i : Int) = t by unfold rd_T47; rw [Int.toNat_natCast, ht]] at x0 x1
          rw [← ht] at hop
          obtain ⟨N0, hN0⟩ : ∃ N, N = opn (L.take i) := ⟨_, rfl⟩
          have hN1 : N0 ≤ L.length := by
            rw [hN0]; unfold P.opn
            exact Nat.le_trans (List.length_filter_le _ _) (by rw [List.length_take]; omega)
          rw [← hN0] at hop ⊢
          have V3 : Aside0 (wrap64 ((N0 : Int) + 1) = ((N0 + 1 : Nat) : Int)) := ⟨by have := HL3.out; unfold wrap64; omega⟩
          obtain ⟨b1, h1⟩ : ∃ b, b = (t.f0 == 1) := ⟨_, rfl⟩
          obtain ⟨b2, h2⟩ : ∃ b, b = (t.f0 == 4) := ⟨_, rfl⟩
          obtain ⟨b3, h3⟩ : ∃ b, b = (t.f1.toList == [40]) := ⟨_, rfl⟩
          obtain ⟨b4, h4⟩ : ∃ b, b = (t.f1.toList == [45]) := ⟨_, rfl⟩
          have hio : isOp t = (b1 || ((b2 && b3) || (b2 && b4))) := by
            unfold P.isOp P.isMt
            rw [h1, h2, h3, h4, show (mk1 40).toList = [40] from by rw [toList_data]; rfl, show (mk1 45).toList = [45] from by rw [toList_data]; rfl]
          have k3 : (t.f1.toList = [40]) = (b3 = true) := by rw [h3, beq_iff_eq]
          have k4 : (t.f1.toList = [45]) = (b4 = true) := by rw [h4, beq_iff_eq]
          rw [hio] at hop
          have HOP := Aside0.mk hop
          have H1 := Aside0.mk h1
          have H2 := Aside0.mk h2
          have H3 := Aside0.mk h3
          have H4 := Aside0.mk h4
          have HNX := Aside0.mk (nextN i L.length HMX.out hlt)
          have HLS := Aside0.mk (lessN i L.length HMX.out hlt)
          have HLT := Aside0.mk hlt
          clear hop h1 h2 h3 h4 hio ht hN0 hN1 hlt
          cases b1 <;> cases b2 <;> cases b3 <;> cases b4
          all_goals
            have c1 := H1.out.symm
            have c2 := H2.out.symm
            have c3 := H3.out.symm
            have c4 := H4.out.symm
            go_wp2
            all_goals
              rw [HNX.out]
              first | rw [V3.out] | skip
              exact ⟨⟨i + 1, rfl, by rw [HOP.out]; simp, ⟨HLT.out⟩, hb⟩, by have := HLT.out; simp only [left, Int.toNat_natCast]; omega⟩
        · have dl2 : decide ((i : Int) < (L.length : Int)) = false := decide_eq_false (by omega)
          have hie : i = L.length := by have := hi.out; omega
          subst hie
          rw [List.take_length]
          have HB4 := Aside0.mk (below_step HB3.out hb.out)
          have HNS4 := Aside0.mk (Kd.C_below HNS3.out hb.out)
          clear hi hlt hb dl2
          have n1 : ¬9223372036854775807 < 1 + s.size := by have := HS.out; omega
          have n2 : ¬9223372036854775807 < 1 + s.size + 2 := by have := HS.out; omega
          have n3 : ¬9223372036854775807 < 1 + s.size + 4 := by have := HS.out; omega
          go_wp2_with fail
          rcases HPL.out with ⟨ms, hv1, hn1, hk2⟩ | ⟨⟨p1, hv1⟩, h99⟩
          · refine (Value_calls wr _).mono ?_
            rintro e w5 ⟨⟨Am, nm, cm⟩, l5, at5, er5, rfl, hrows, hb, hsays⟩
            have hv1' : valueO ((⟨#[40]⟩ : ByteArray) ++ s ++ ⟨#[10, 41]⟩) = .ok ms := hv1
            rw [hv1'] at hsays
            obtain ⟨rfl, rfl, hm⟩ := hsays
            have hr : Kd.R kn 49 w5 wr.heap.size (fun _ => True) (.slice Am nm cm) ms := hrows.holds _ hm
            obtain ⟨e5, _, hC5⟩ := Kd.R_reads' hr
            obtain rfl : nm = ms.length := e5
            have HB5 := Aside0.mk (below_step HB4.out hb)
            have HM5 := Aside0.mk hC5
            have HML := Aside0.mk (value_len hv1)
            have HNC := Aside0.mk (nodes_calls w5 Av Am cv cm ns ms 1 true (Kd.C_below HNS4.out hb) hC5 HNM.out)
            rw [hn1] at HNC
            have HK2 := Aside0.mk hk2
            clear hrows hb hm hr hC5 hv1 hv1' hn1 hk2
            obtain ⟨b9, h9⟩ : ∃ b, decide (((opn L : Nat) : Int) < 99) = b := ⟨_, rfl⟩
            cases b9
            all_goals
              go_wp2_with fail
              refine HNC.out.mono ?_
              rintro e w6 ⟨rfl, hb6⟩
              have HB6 := Aside0.mk (below_step HB5.out hb6)
              have HM6 := Aside0.mk (Kd.C_below HM5.out hb6)
              clear hb6
              go_wp2_with fail
              refine (Value_calls w6 _).mono ?_
              rintro e w7 ⟨⟨Ak, nk, ck⟩, l7, at7, er7, rfl, hrows, hb, hsays⟩
              have HB7 := Aside0.mk (below_step HB6.out hb)
              have HM7 := Aside0.mk (Kd.C_below HM6.out hb)
              rcases HK2.out with ⟨p, hv2⟩ | ⟨ks, hv2, hn2⟩
              · have hv2' : valueO ((⟨#[40]⟩ : ByteArray) ++ s ++ ⟨#[10, 41, 43, 49]⟩) = .bad 91 p := hv2
                rw [hv2'] at hsays
                obtain ⟨rfl, rfl, hv, _⟩ := hsays
                injection hv with hq1 hq2 hq3
                subst hq1 hq2 hq3
                clear hrows hb hv2 hv2'
                go_wp2
                go_ret
                exact ⟨rfl, HB7.out⟩
              · have hv2' : valueO ((⟨#[40]⟩ : ByteArray) ++ s ++ ⟨#[10, 41, 43, 49]⟩) = .ok ks := hv2
                rw [hv2'] at hsays
                obtain ⟨rfl, rfl, hm⟩ := hsays
                have hr : Kd.R kn 49 w7 w6.heap.size (fun _ => True) (.slice Ak nk ck) ks := hrows.holds _ hm
                obtain ⟨e7, _, hC7⟩ := Kd.R_reads' hr
                obtain rfl : nk = ks.length := e7
                have HK7 := Aside0.mk hC7
                have HN2 := Aside0.mk hn2
                clear hrows hb hm hr hC7 hv2 hv2' hn2
                go_wp2_with (first
                  | ((with_reducible refine gate_builtin (b := .append) (xs := #[.tmp 139, .tmp 140]) rfl ?_); at_builtin; refine Kd.R_append_rows kn (Rr := kn.K (w7.alloc (.cells #[] 49))) (w0 := w7) w7.heap.size rfl (.tmp 139) (.tmp 140) 32 49 (.agg #[.int .i64 0, .int .i64 0, .int .u64 0, .string ⟨#[]⟩, .int .i64 0]) 48 rfl Try.underlying32 infoN rfl (by decide) (by omega) (.slice (some ⟨w7.heap.size, 0, none⟩) 0 0) [] ms Am ms.length cm (fun _ => True) (fun _ => False) rfl rfl ?aO (Kd.C_below HM7.out (below_alloc (Below.refl _ _) _)) ?aK (fun _ hk => hk.elim) (fun _ _ => trivial) (below_alloc (Below.refl _ _) _) (by simp) (by have := HML.out; simp; omega) ?_; (case aO => exact ⟨fun _ _ => trivial, [], (show (w7.alloc (.cells #[] 49)).ownsRow w7.heap.size 49 5 (.slice (some ⟨w7.heap.size, 0, none⟩) 0 0) 0 [] by simpa using World.ownsRow_lit (base := w7.heap.size) (e := 49) (size := 5) w7 #[] 0 (Nat.le_refl _) (by simp) (by simp)), Reps.none _ _⟩); (case aK => intro x cs hk; obtain rfl := kn_open hk; exact kn_mkM _ _ _ x); intro v1 w8 ho hb hg hat; rw [List.nil_append] at ho; obtain ⟨A8, c8, hv8⟩ := Kd.R_slice ho; subst hv8; have HO8 := Aside0.mk ho; have HB8 := Aside0.mk hb; have HX8 := Aside0.mk (C_two (blk_new w8 (.cells (nodeCs ⟨1, 0, 1, ⟨#[]⟩, 1 + (s.size : Int) + 2 + 1⟩ ++ nodeCs ⟨6, 0, 0, ⟨#[]⟩, 1 + (s.size : Int) + 2⟩).toArray 49))); clear ho hb hg hat)
                  | ((with_reducible refine gate_builtin (b := .append) (xs := #[.tmp 141, .tmp 147]) rfl ?_); at_builtin; refine Kd.R_append_rows kn (Rr := kn.K (w8.alloc (.cells (nodeCs ⟨1, 0, 1, ⟨#[]⟩, 1 + (s.size : Int) + 2 + 1⟩ ++ nodeCs ⟨6, 0, 0, ⟨#[]⟩, 1 + (s.size : Int) + 2⟩).toArray 49))) (w0 := w7) w7.heap.size rfl (.tmp 141) (.tmp 147) 32 49 (.agg #[.int .i64 0, .int .i64 0, .int .u64 0, .string ⟨#[]⟩, .int .i64 0]) 48 rfl Try.underlying32 infoN rfl (by decide) (by omega) (.slice A8 ms.length c8) ms [⟨1, 0, 1, ⟨#[]⟩, 1 + (s.size : Int) + 2 + 1⟩, ⟨6, 0, 0, ⟨#[]⟩, 1 + (s.size : Int) + 2⟩] (some ⟨w8.heap.size, 0, none⟩) 2 2 (fun _ => True) (fun _ => False) rfl rfl (Kd.R_below HO8.out (below_alloc (Below.refl _ _) _)) HX8.out ?aK (fun _ hk => hk.elim) (fun _ _ => trivial) (below_alloc HB8.out _) (Nat.le_trans HB8.out.size (below_alloc (Below.refl _ _) _).size) (by have := HML.out; omega) ?_; (case aK => intro x cs hk; obtain rfl := kn_open hk; exact kn_mkM _ _ _ x); intro v2 w9 ho hb hg hat; obtain ⟨A9, c9, hv9⟩ := Kd.R_slice ho; obtain ⟨N9, hN9⟩ : ∃ N, N = (ms ++ [(⟨1, 0, 1, ⟨#[]⟩, 1 + (s.size : Int) + 2 + 1⟩ : Nd), ⟨6, 0, 0, ⟨#[]⟩, 1 + (s.size : Int) + 2⟩]).length := ⟨_, rfl⟩; rw [← hN9] at hv9; subst hv9; have HO9 := Aside0.mk ho; have HB9 := Aside0.mk hb; have HN9 := Aside0.mk hN9; clear ho hb hg hat hN9)
                  | fail)
                have HC9 := Aside0.mk (Kd.R_reads' HO9.out).2.2
                have HMX9 := Aside0.mk (R_max9 HO9.out)
                have HNC9 := nodes_calls w9 A9 Ak c9 ck _ ks 0 true HC9.out (Kd.C_below HK7.out HB9.out) HMX9.out
                rw [← HN9.out] at HNC9
                have hn9 := HN2.out
                rw [show (s.size : Int) + 4 = 1 + (s.size : Int) + 2 + 1 by omega, show (s.size : Int) + 3 = 1 + (s.size : Int) + 2 by omega] at hn9
                rw [hn9] at HNC9
                have HNC9 := Aside0.mk HNC9
                clear hn9
                go_wp2_with fail
                refine HNC9.out.mono ?_
                rintro e w10 ⟨rfl, hb10⟩
                have HB10 := Aside0.mk (below_step (below_step HB7.out HB9.out) hb10)
                clear hb10
                go_wp2
                go_ret
                exact ⟨rfl, HB10.out⟩
          · refine (Value_calls wr _).mono ?_
            rintro e w5 ⟨⟨Am, nm, cm⟩, l5, at5, er5, rfl, hrows, hb, hsays⟩
            have hv1' : valueO ((⟨#[40]⟩ : ByteArray) ++ s ++ ⟨#[10, 41]⟩) = .bad 91 p1 := hv1
            rw [hv1'] at hsays
            obtain ⟨rfl, rfl, hv, _⟩ := hsays
            injection hv with hq1 hq2 hq3
            subst hq1 hq2 hq3
            rw [← HLL.out] at h99
            have d9 : decide (((opn L : Nat) : Int) < 99) = false := decide_eq_false (by omega)
            have HB5 := Aside0.mk (below_step HB4.out hb)
            clear hrows hb hv1 hv1' h99
            go_wp2_with fail
            refine (Value_calls w5 _).mono ?_
            rintro e w7 ⟨⟨Ak, nk, ck⟩, l7, at7, er7, rfl, hrows, hb, hsays⟩
            have HB7 := Aside0.mk (below_step HB5.out hb)
            obtain ⟨b8, h8⟩ : ∃ b, ((nk : Int) == 0) = b := ⟨_, rfl⟩
            obtain ⟨b9, h9⟩ : ∃ b, (er7 == 0) = b := ⟨_, rfl⟩
            have hor : (b8 || b9) = true := by
              cases hz : valueO ((⟨#[40]⟩ : ByteArray) ++ s ++ ⟨#[10, 41, 43, 49]⟩) with
              | bad e p =>
                rw [hz] at hsays
                obtain ⟨_, _, hv, _⟩ := hsays
                injection hv with _ hv _
                rw [← h8, hv]; rfl
              | ok ks =>
                rw [hz] at hsays
                obtain ⟨_, he, _⟩ := hsays
                rw [← h9, he]; simp
            clear hrows hb hsays
            cases b8 <;> cases b9
            · cases hor
            all_goals
              go_wp2
              go_ret
              exact ⟨rfl, HB7.out⟩
  · have d1 : decide ((s.size : Int) > 131072) = true := decide_eq_true (by omega)
    clear hs
    go_enter Try.func6, Try.ntmps6
    go_wp2_with fail
    refine (awake_calls w).mono ?_
    rintro e w1 ⟨rfl, hb1⟩
    have HB1 := Aside0.mk hb1
    clear hb1
    go_wp2
    go_ret
    exact ⟨rfl, HB1.out⟩
end Go.Proofs.Ytbdcndkafaajpaa.A
end
