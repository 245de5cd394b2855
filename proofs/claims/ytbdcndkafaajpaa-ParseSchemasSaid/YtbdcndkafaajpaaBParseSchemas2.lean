/- Walks and plain laws behind ParseSchemas. Conditions: those in the theorems. -/
import Derived.Test.YtbdcndkafaajpaaBParseSchemas0
import Derived.Test.YtbdcndkafaajpaaBParseSchemas1
set_option linter.unusedVariables false
set_option linter.unusedSimpArgs false
set_option maxHeartbeats 16000000
set_option maxRecDepth 100000
section
namespace Go.Proofs.Ytbdcndkafaajpaa.R
open Go.RowKit Ytbdcndkafaajpaa.X Ytbdcndkafaajpaa.A YtbdcndkafaajpaaW.PrintWords YtbdcndkafaajpaaW.PrintLast YtbdcndkafaajpaaW.PrintMore
open Ytbdcndkafaajpaa.P (Nd EO Res hd isT isM Qar mxl comb mk1)
def CT (n : Nat) (f : P.Fn) (fid : Nat) : Prop := ∀ (w : World) (A : Option Addr) (c : Nat) (L : List Tk) (g : Nat) (vn vd : Value) (ts : List Tk) (lev : Nat) (ns : List Nd) (dp : List Int), Qdo L → Is w A c L g vn vd (.ok ts lev ns dp) → (∀ p, P.X n f lev ts ≠ .bad 0 p) →
 Calls Try.prog fid #[.pointer (some ⟨g, 0, none⟩)] w fun e w' => e = .returned (.tuple #[]) ∧ Ends w A c L g vn vd (outS lev ns dp (P.X n f lev ts)) w'
def CB (fid : Nat) : Prop := ∀ (w : World) (A : Option Addr) (c : Nat) (L : List Tk) (g : Nat) (vn vd : Value) (e pl : Int), Is w A c L g vn vd (.bad e pl) →
 Calls Try.prog fid #[.pointer (some ⟨g, 0, none⟩)] w fun e' w' => e' = .returned (.tuple #[]) ∧ Is w' A c L g vn vd (.bad e pl) ∧ Below w.heap.size w w'
theorem Qfc : CB 87 := by
 intro w A c L g vn vd e pl h
 have HE := J0.m h
 obtain ⟨y2, h0⟩ := h.fault
 have d1 : (e != 0) = true := bne_iff_ne.2 h0
 clear h h0
 go_enter Try.func87, Try.ntmps87
 go_wp2
 refine bodyPost_ret (results_none rfl _ _ _) rfl ?_
 exact ⟨rfl, HE.o, Below.refl _ _⟩
theorem Qgf : CB 75 := by
 intro w A c L g vn vd e pl h
 have HF := J0.m (Qfc w A c L g vn vd e pl h)
 clear h
 go_enter Try.func75, Try.ntmps75
 go_wp2_with fail
 refine HF.o.mono ?_
 rintro e1 w1 ⟨rfl, hi, hb⟩
 have HI := J0.m hi
 have HB := J0.m hb
 have HIS := J0.m (Qaz w1 A c L g vn vd (.bad e pl) 4 ⟨#[42]⟩ hi)
 clear hi hb
 go_wp2_with fail
 go_loopg [] 0 (fun k wr => J0 (wr = w1))
 case atStart => exact ⟨rfl⟩
 case round =>
  have hw := hrel.o
  subst hw
  go_wp2_with fail
  refine HIS.o.mono ?_
  rintro e' w2 ⟨hr, hb2⟩
  obtain rfl : e' = .returned (.bool false) := hr
  have HB2 := J0.m hb2
  clear hb2
  go_wp2
  go_end0
  exact ⟨rfl, HI.o.below HB2.o, Qak HB.o HB2.o⟩
theorem Qgg : CB 51 := by
 intro w A c L g vn vd e pl h
 have HF := J0.m (Qgf w A c L g vn vd e pl h)
 clear h
 go_enter Try.func51, Try.ntmps51
 go_wp2_with fail
 refine HF.o.mono ?_
 rintro e1 w1 ⟨rfl, hi, hb⟩
 have HI := J0.m hi
 have HB := J0.m hb
 have HIS := J0.m (Qaz w1 A c L g vn vd (.bad e pl) 4 ⟨#[43]⟩ hi)
 clear hi hb
 go_wp2_with fail
 go_loopg [] 0 (fun k wr => J0 (wr = w1))
 case atStart => exact ⟨rfl⟩
 case round =>
  have hw := hrel.o
  subst hw
  go_wp2_with fail
  refine HIS.o.mono ?_
  rintro e' w2 ⟨hr, hb2⟩
  obtain rfl : e' = .returned (.bool false) := hr
  have HB2 := J0.m hb2
  have HIS2 := J0.m (Qaz w2 A c L g vn vd (.bad e pl) 4 ⟨#[45]⟩ (HI.o.below hb2))
  clear hb2
  go_wp2_with fail
  refine HIS2.o.mono ?_
  rintro e' w3 ⟨hr, hb3⟩
  obtain rfl : e' = .returned (.bool false) := hr
  have HB3 := J0.m (Qak HB2.o hb3)
  clear hb3
  go_wp2
  go_end0
  exact ⟨rfl, HI.o.below HB3.o, Qak HB.o HB3.o⟩
def LpM (final : Res EO) (f : EO → P.Fn) (w : World) (A : Option Addr) (c : Nat) (L : List Tk) (g : Nat) (vn vd : Value) (lev : Nat) (ns : List Nd) (dp : List Int) (k : Nat) (wr : World) : Prop :=
 ∃ vn1 vd1, Hv w wr g vn vd vn1 vd1 ∧ ((∃ e p, final = .bad e p ∧ Is wr A c L g vn1 vd1 (.bad e p)) ∨ ∃ acc r, P.X k (f acc) lev r = final ∧ Is wr A c L g vn1 vd1 (.ok r lev (ns ++ acc.ns) (dp ++ [acc.dep])))
theorem LpM.next {final : Res EO} {f : EO → P.Fn} {w w5 : World} {A : Option Addr} {c : Nat} {L : List Tk} {g : Nat} {vn vd vn5 vd5 : Value} {lev : Nat} {ns : List Nd} {dp : List Int} {m : Nat} {C : Res EO} (hv : Hv w w5 g vn vd vn5 vd5) (h5 : Is w5 A c L g vn5 vd5 (outS lev ns dp C)) (hfe : C.bind (fun c2 r => P.X m (f c2) lev r) = final) : LpM final f w A c L g vn vd lev ns dp m w5 := by
 refine ⟨vn5, vd5, hv, ?_⟩
 cases C with
 | ok c2 r3 => exact .inr ⟨c2, r3, hfe, h5⟩
 | bad e0 p0 => exact .inl ⟨e0, p0, hfe.symm, h5⟩
theorem Qkn (n : Nat) (HF : ∀ m, m ≤ n → CT m .fac 87) : CT (n + 1) .term 75 := by
 intro w A c L g vn vd ts lev ns dp hG h hfin
 have hbd : ns.length + ts.length ≤ 33554432 := by obtain ⟨q, _, _, _, h4⟩ := h; exact h4.sz
 obtain ⟨final, hfl⟩ : ∃ final, final = P.X (n + 1) .term lev ts := ⟨_, rfl⟩
 rw [← hfl] at hfin ⊢
 have hX : (P.X n .fac lev ts).bind (fun a r => P.X n (.mulL a) lev r) = final := by rw [hfl, P.X]
 have hne : ∀ p, P.X n .fac lev ts ≠ .bad 0 p := fun p e => hfin p (by rw [← hX, e]; rfl)
 have H1 := J0.m (HF n (Nat.le_refl n) w A c L g vn vd ts lev ns dp hG h hne)
 have HGL := J0.m h.glt
 have HFI := J0.m hfin
 have HX := J0.m hX
 have HG := J0.m hG
 have HBD := J0.m hbd
 have HTS := J0.m (fun a r => P.X_sz n .fac lev ts a r)
 have HF := J0.m HF
 clear h hfl hX hne hfin hG hbd
 go_enter Try.func75, Try.ntmps75
 go_wp2_with fail
 refine H1.o.mono ?_
 rintro e w1 ⟨rfl, he1⟩
 have hlp : LpM final .mulL w A c L g vn vd lev ns dp n w1 := by
  obtain ⟨vn1, vd1, hi, hv⟩ := he1
  refine ⟨vn1, vd1, hv, ?_⟩
  have hx := HX.o
  cases hr : P.X n .fac lev ts with
  | ok a r => rw [hr] at hi hx; exact .inr ⟨a, r, hx, hi⟩
  | bad e p => rw [hr] at hi hx; exact .inl ⟨e, p, hx.symm, hi⟩
 have HLP := J0.m hlp
 clear he1 hlp
 go_wp2_with fail
 go_loopg [] n (fun k wr => J0 (LpM final .mulL w A c L g vn vd lev ns dp k wr) ∧ J0 (k ≤ n))
 case atStart => exact ⟨HLP, ⟨Nat.le_refl _⟩⟩
 case round =>
  obtain ⟨⟨vn1, vd1, hv, hs⟩, hk⟩ := hrel
  have HV := J0.m hv
  rcases hs with ⟨e, p, hfp, hi⟩ | ⟨acc, r, hx, hi⟩
  ·have HI := J0.m hi
   have HIS := J0.m (Qaz wr A c L g vn1 vd1 (.bad e p) 4 ⟨#[42]⟩ hi)
   have HFP := J0.m hfp
   clear hi hv hfp
   go_wp2_with fail
   refine HIS.o.mono ?_
   rintro e' w2 ⟨hr, hb2⟩
   obtain rfl : e' = .returned (.bool false) := hr
   have HB2 := J0.m hb2
   clear hb2
   go_wp2
   go_end0
   rw [HFP.o]
   exact ⟨rfl, vn1, vd1, HI.o.below HB2.o, HV.o.below HB2.o (by have := HI.o.glt; omega)⟩
  ·have hnb : gk ≠ 0 := fun e => by subst e; exact HFI.o 0 (by rw [← hx]; rfl)
   obtain ⟨m, rfl⟩ : ∃ m, gk = m + 1 := ⟨gk - 1, by omega⟩
   have HI := J0.m hi
   have HIS := J0.m (Qaz wr A c L g vn1 vd1 _ 4 ⟨#[42]⟩ hi)
   rw [P.X] at hx
   by_cases hm : isM 42 r = true
   ·have hlen := P.Qc2 hm
    have hkd : (hd r).f0 ≠ 0 := by rw [Qbz hm]; decide
    rw [if_pos hm] at hx
    have HISt : J0 (Sg.is 4 ⟨#[42]⟩ (.ok r lev (ns ++ acc.ns) (dp ++ [acc.dep])) = true) := ⟨hm⟩
    obtain ⟨t, ht⟩ : ∃ t, t = hd r := ⟨_, rfl⟩
    have HTK : J0 (∀ W, Is W A c L g vn1 vd1 (.ok r lev (ns ++ acc.ns) (dp ++ [acc.dep])) → Calls Try.prog 43 #[.pointer (some ⟨g, 0, none⟩)] W fun e w' => e = .returned (.agg #[.int .i64 t.f0, .string t.f1, .int .u64 t.f2, .int .i64 t.f3, .int .i64 t.f4]) ∧ Below W.heap.size W w') := ⟨fun W hW => (Qcm hW).mono fun e w' ⟨t', he, ht', hb⟩ => ⟨by rw [he, ht' _ _ _ _ rfl, ht], hb⟩⟩
    have HKD := J0.m hkd
    rw [← ht] at hx
    have hne : ∀ p, P.X m .fac lev r.tail ≠ .bad 0 p := fun p e => HFI.o p (by rw [← hx, e]; rfl)
    have HFA : J0 (∀ W, Is W A c L g vn1 vd1 (.ok r.tail lev (ns ++ acc.ns) (dp ++ [acc.dep])) → Calls Try.prog 87 #[.pointer (some ⟨g, 0, none⟩)] W fun e w' => e = .returned (.tuple #[]) ∧ Ends W A c L g vn1 vd1 (outS lev (ns ++ acc.ns) (dp ++ [acc.dep]) (P.X m .fac lev r.tail)) w') := ⟨fun W hW => HF.o m (by have := hk.o; omega) W A c L g vn1 vd1 _ _ _ _ HG.o hW hne⟩
    have HSZ := J0.m (fun a s => P.X_sz m .fac lev r.tail a s)
    have HN1 : J0 ((ns ++ acc.ns).length + r.length ≤ 33554432) := ⟨by obtain ⟨q, _, _, _, h4⟩ := hi; exact h4.sz⟩
    have HLEN := J0.m hlen
    have HXX := J0.m hx
    clear hi hv hx hm hkd hlen hne ht
    go_wp2_with fail
    refine HIS.o.mono ?_
    rw [HISt.o]
    rintro e' w2 ⟨rfl, hb2⟩
    have HI2 := J0.m (HI.o.below hb2)
    have HV2 := J0.m (HV.o.below hb2 (by have := HI.o.glt; omega))
    clear hb2
    go_wp2_with fail
    refine (HTK.o w2 HI2.o).mono ?_
    rintro e' w3 ⟨rfl, hb3⟩
    have hi3 := HI2.o.below hb3
    have HV3 := J0.m (HV2.o.below hb3 (by have := HI2.o.glt; omega))
    obtain ⟨W3, hW3⟩ : ∃ W3, W3 = w3.alloc (.cells #[.int .i64 t.f0, .string t.f1, .int .u64 t.f2, .int .i64 t.f3, .int .i64 t.f4] 47) := ⟨_, rfl⟩
    have hB3 : Below w3.heap.size w3 W3 := by rw [hW3]; exact Qab (Below.refl _ _) _
    obtain ⟨b, hb⟩ : ∃ b, b = w3.heap.size := ⟨_, rfl⟩
    have HX3 : J0 (W3.heap[b]? = some (.cells #[.int .i64 t.f0, .string t.f1, .int .u64 t.f2, .int .i64 t.f3, .int .i64 t.f4] 47 (0, 0))) := ⟨by rw [hW3, hb]; exact Qay _ _⟩
    have HI3 := J0.m (hi3.below hB3)
    have HV4 := J0.m (HV3.o.below hB3 (by have := hi3.glt; omega))
    obtain ⟨at_, y1, f1, hi4, hv4⟩ := HI3.o.adv HG.o HKD.o
    have HX4 := J0.m (HI3.o.Qbv hv4 HX3.o)
    obtain ⟨W4, hW4⟩ : ∃ W4, W4 = W3.setCell ⟨g, 1, none⟩ (.int .i64 (wrap64 (at_ + 1))) := ⟨_, rfl⟩
    rw [← hW4] at hi4 hv4 HX4
    have HI4' := J0.m hi4
    have HV4' := J0.m (HV4.o.trans hv4)
    rw [hW3] at y1 f1
    have HW4 := J0.m hW4
    have HW3 := J0.m hW3
    have HB3 := J0.m hb
    clear hi3 hb3 hB3 hW3 hb hi4 hv4 hW4
    go_wp2_with fail
    rw [← HW3.o, ← HW4.o, ← HB3.o]
    refine (HFA.o W4 HI4'.o).mono ?_
    rintro e' w4 ⟨rfl, vn4, vd4, hi4, hv4⟩
    have hx4 := HI4'.o.Qbv hv4 HX4.o
    obtain ⟨z0, z1, z2, z3, z4⟩ := Qbi hx4
    have HV5 := J0.m (HV4'.o.trans hv4)
    clear y1 f1
    cases hR : P.X m .fac lev r.tail with
    | bad e0 p0 =>
     rw [hR] at hi4
     have HI4 := J0.m (show Is w4 A c L g vn4 vd4 (.bad e0 p0) from hi4)
     have HPT := J0.m (Qfn w4 A c L g vn4 vd4 e0 p0 (P.node 8 t.f3) 2 HI4.o)
     have HFE : J0 (final = .bad e0 p0) := ⟨by rw [← HXX.o, hR]; rfl⟩
     clear hi4 hv4 hx4 hR
     go_wp2_with fail
     refine HPT.o.mono ?_
     rintro e' w5 ⟨rfl, hi5, hb5⟩
     have HI5 := J0.m hi5
     have HV6 := J0.m (HV5.o.below hb5 (by have := HI4.o.glt; omega))
     clear hi5 hb5
     go_wp2
     go_roundg 0
     case measure => omega
     case rel => exact ⟨⟨vn4, vd4, HV6.o, .inl ⟨e0, p0, HFE.o, HI5.o⟩⟩, ⟨Nat.zero_le _⟩⟩
    | ok b2 r2 =>
     rw [hR] at hi4
     have HI4 : J0 (Is w4 A c L g vn4 vd4 (.ok r2 lev (ns ++ ([acc, b2].map EO.ns).flatten) (dp ++ [acc, b2].map EO.dep))) := ⟨by
      have e1 : ns ++ ([acc, b2].map EO.ns).flatten = (ns ++ acc.ns) ++ b2.ns := by simp
      have e2 : dp ++ [acc, b2].map EO.dep = (dp ++ [acc.dep]) ++ [b2.dep] := by simp
      rw [e1, e2]; exact hi4⟩
     have hsz := HSZ.o b2 r2 hR
     have HPT := J0.m (Qfh w4 A c L g vn4 vd4 r2 lev _ dp ([acc, b2].map EO.dep) (P.node 8 t.f3) HI4.o (by
      have h1 := HN1.o
      have h2 := HLEN.o
      simp only [P.base] at hsz
      simp only [List.length_append, List.map_cons, List.map_nil, List.flatten_cons, List.flatten_nil, List.append_nil] at *
      omega))
     rw [Qep] at HPT
     have HFE : J0 ((comb (P.node 8 t.f3) [acc, b2] r2).bind (fun c2 r => P.X m (.mulL c2) lev r) = final) := ⟨by rw [← HXX.o, hR]; rfl⟩
     clear hi4 hv4 hx4 hR hsz
     go_wp2_with fail
     refine HPT.o.mono ?_
     rintro e' w5 ⟨rfl, vn5, vd5, hi5, hv5⟩
     have HI5 := J0.m hi5
     have HV6 := J0.m (HV5.o.trans hv5)
     clear hi5 hv5
     go_wp2
     go_roundg m
     case measure => omega
     case rel => exact ⟨⟨LpM.next HV6.o HI5.o HFE.o⟩, ⟨by have := hk.o; omega⟩⟩
   ·have hmf : isM 42 r = false := by simpa using hm
    rw [if_neg hm] at hx
    have HISt : J0 (Sg.is 4 ⟨#[42]⟩ (.ok r lev (ns ++ acc.ns) (dp ++ [acc.dep])) = false) := ⟨hmf⟩
    have HXX := J0.m hx
    clear hi hv hx hm hmf
    go_wp2_with fail
    refine HIS.o.mono ?_
    rw [HISt.o]
    rintro e' w2 ⟨rfl, hb2⟩
    have HB2 := J0.m hb2
    clear hb2
    go_wp2
    go_end0
    rw [← HXX.o]
    exact ⟨rfl, vn1, vd1, HI.o.below HB2.o, HV.o.below HB2.o (by have := HI.o.glt; omega)⟩
theorem Qk9 (n : Nat) (HF : ∀ m, m ≤ n → CT m .term 75) : CT (n + 1) .expr 51 := by
 intro w A c L g vn vd ts lev ns dp hG h hfin
 have hbd : ns.length + ts.length ≤ 33554432 := by obtain ⟨q, _, _, _, h4⟩ := h; exact h4.sz
 obtain ⟨final, hfl⟩ : ∃ final, final = P.X (n + 1) .expr lev ts := ⟨_, rfl⟩
 rw [← hfl] at hfin ⊢
 have hX : (P.X n .term lev ts).bind (fun a r => P.X n (.addL a) lev r) = final := by rw [hfl, P.X]
 have hne : ∀ p, P.X n .term lev ts ≠ .bad 0 p := fun p e => hfin p (by rw [← hX, e]; rfl)
 have H1 := J0.m (HF n (Nat.le_refl n) w A c L g vn vd ts lev ns dp hG h hne)
 have HGL := J0.m h.glt
 have HFI := J0.m hfin
 have HX := J0.m hX
 have HG := J0.m hG
 have HBD := J0.m hbd
 have HTS := J0.m (fun a r => P.X_sz n .term lev ts a r)
 have HF := J0.m HF
 clear h hfl hX hne hfin hG hbd
 go_enter Try.func51, Try.ntmps51
 go_wp2_with fail
 refine H1.o.mono ?_
 rintro e w1 ⟨rfl, he1⟩
 have hlp : LpM final .addL w A c L g vn vd lev ns dp n w1 := by
  obtain ⟨vn1, vd1, hi, hv⟩ := he1
  refine ⟨vn1, vd1, hv, ?_⟩
  have hx := HX.o
  cases hr : P.X n .term lev ts with
  | ok a r => rw [hr] at hi hx; exact .inr ⟨a, r, hx, hi⟩
  | bad e p => rw [hr] at hi hx; exact .inl ⟨e, p, hx.symm, hi⟩
 have HLP := J0.m hlp
 clear he1 hlp
 go_wp2_with fail
 go_loopg [] n (fun k wr => J0 (LpM final .addL w A c L g vn vd lev ns dp k wr) ∧ J0 (k ≤ n))
 case atStart => exact ⟨HLP, ⟨Nat.le_refl _⟩⟩
 case round =>
  obtain ⟨⟨vn1, vd1, hv, hs⟩, hk⟩ := hrel
  have HV := J0.m hv
  rcases hs with ⟨e, p, hfp, hi⟩ | ⟨acc, r, hx, hi⟩
  ·have HI := J0.m hi
   have HIS := J0.m (Qaz wr A c L g vn1 vd1 (.bad e p) 4 ⟨#[43]⟩ hi)
   have HFP := J0.m hfp
   clear hi hv hfp
   go_wp2_with fail
   refine HIS.o.mono ?_
   rintro e' w2 ⟨hr, hb2⟩
   obtain rfl : e' = .returned (.bool false) := hr
   have HIS2 := J0.m (Qaz w2 A c L g vn1 vd1 (.bad e p) 4 ⟨#[45]⟩ (HI.o.below hb2))
   have HB2' := J0.m hb2
   clear hb2
   go_wp2_with fail
   refine HIS2.o.mono ?_
   rintro e' w2b ⟨hr, hb2⟩
   obtain rfl : e' = .returned (.bool false) := hr
   have HB2 := J0.m (Qak HB2'.o hb2)
   clear hb2
   go_wp2
   go_end0
   rw [HFP.o]
   exact ⟨rfl, vn1, vd1, HI.o.below HB2.o, HV.o.below HB2.o (by have := HI.o.glt; omega)⟩
  ·have hnb : gk ≠ 0 := fun e => by subst e; exact HFI.o 0 (by rw [← hx]; rfl)
   obtain ⟨m, rfl⟩ : ∃ m, gk = m + 1 := ⟨gk - 1, by omega⟩
   have HI := J0.m hi
   have HIS := J0.m (Qaz wr A c L g vn1 vd1 _ 4 ⟨#[43]⟩ hi)
   rw [P.X] at hx
   cases hp : isM 43 r with
   | true =>
    have hm := hp
    have hlen := P.Qc2 hm
    have hkd : (hd r).f0 ≠ 0 := by rw [Qbz hm]; decide
    rw [if_pos (by rw [hm]; rfl)] at hx
    have HISt : J0 (Sg.is 4 ⟨#[43]⟩ (.ok r lev (ns ++ acc.ns) (dp ++ [acc.dep])) = true) := ⟨hm⟩
    obtain ⟨t, ht⟩ : ∃ t, t = hd r := ⟨_, rfl⟩
    have HTK : J0 (∀ W, Is W A c L g vn1 vd1 (.ok r lev (ns ++ acc.ns) (dp ++ [acc.dep])) → Calls Try.prog 43 #[.pointer (some ⟨g, 0, none⟩)] W fun e w' => e = .returned (.agg #[.int .i64 t.f0, .string t.f1, .int .u64 t.f2, .int .i64 t.f3, .int .i64 t.f4]) ∧ Below W.heap.size W w') := ⟨fun W hW => (Qcm hW).mono fun e w' ⟨t', he, ht', hb⟩ => ⟨by rw [he, ht' _ _ _ _ rfl, ht], hb⟩⟩
    have HKD := J0.m hkd
    rw [← ht] at hx
    obtain ⟨bq, hbq⟩ : ∃ bq, bq = (t.f1.toList == (mk1 45).toList) := ⟨_, rfl⟩
    rw [← hbq] at hx
    obtain ⟨op, hop⟩ : ∃ op : Int, op = (if bq = true then 7 else 6) := ⟨_, rfl⟩
    rw [← hop] at hx
    have HOP := J0.m hop
    have HBQ := J0.m hbq
    have hne : ∀ p, P.X m .term lev r.tail ≠ .bad 0 p := fun p e => HFI.o p (by rw [← hx, e]; rfl)
    have HFA : J0 (∀ W, Is W A c L g vn1 vd1 (.ok r.tail lev (ns ++ acc.ns) (dp ++ [acc.dep])) → Calls Try.prog 75 #[.pointer (some ⟨g, 0, none⟩)] W fun e w' => e = .returned (.tuple #[]) ∧ Ends W A c L g vn1 vd1 (outS lev (ns ++ acc.ns) (dp ++ [acc.dep]) (P.X m .term lev r.tail)) w') := ⟨fun W hW => HF.o m (by have := hk.o; omega) W A c L g vn1 vd1 _ _ _ _ HG.o hW hne⟩
    have HSZ := J0.m (fun a s => P.X_sz m .term lev r.tail a s)
    have HN1 : J0 ((ns ++ acc.ns).length + r.length ≤ 33554432) := ⟨by obtain ⟨q, _, _, _, h4⟩ := hi; exact h4.sz⟩
    have HLEN := J0.m hlen
    have HXX := J0.m hx
    clear hi hv hx hm hp hkd hlen hne ht hbq hop
    go_wp2_with fail
    refine HIS.o.mono ?_
    rw [HISt.o]
    rintro e' w2 ⟨rfl, hb2⟩
    have HI2 := J0.m (HI.o.below hb2)
    have HV2 := J0.m (HV.o.below hb2 (by have := HI.o.glt; omega))
    clear hb2
    go_wp2_with fail
    refine (HTK.o w2 HI2.o).mono ?_
    rintro e' w3 ⟨rfl, hb3⟩
    have hi3 := HI2.o.below hb3
    have HV3 := J0.m (HV2.o.below hb3 (by have := HI2.o.glt; omega))
    obtain ⟨W3, hW3⟩ : ∃ W3, W3 = w3.alloc (.cells #[.int .i64 t.f0, .string t.f1, .int .u64 t.f2, .int .i64 t.f3, .int .i64 t.f4] 47) := ⟨_, rfl⟩
    have hB3 : Below w3.heap.size w3 W3 := by rw [hW3]; exact Qab (Below.refl _ _) _
    obtain ⟨b, hb⟩ : ∃ b, b = w3.heap.size := ⟨_, rfl⟩
    have HX3 : J0 (W3.heap[b]? = some (.cells #[.int .i64 t.f0, .string t.f1, .int .u64 t.f2, .int .i64 t.f3, .int .i64 t.f4] 47 (0, 0))) := ⟨by rw [hW3, hb]; exact Qay _ _⟩
    have HI3 := J0.m (hi3.below hB3)
    have HV4 := J0.m (HV3.o.below hB3 (by have := hi3.glt; omega))
    obtain ⟨at_, y1, f1, hi4, hv4⟩ := HI3.o.adv HG.o HKD.o
    have HX4 := J0.m (HI3.o.Qbv hv4 HX3.o)
    obtain ⟨W4, hW4⟩ : ∃ W4, W4 = W3.setCell ⟨g, 1, none⟩ (.int .i64 (wrap64 (at_ + 1))) := ⟨_, rfl⟩
    rw [← hW4] at hi4 hv4 HX4
    have HI4' := J0.m hi4
    have HV4' := J0.m (HV4.o.trans hv4)
    rw [hW3] at y1 f1
    have HW4 := J0.m hW4
    have HW3 := J0.m hW3
    have HB3 := J0.m hb
    clear hi3 hb3 hB3 hW3 hb hi4 hv4 hW4
    go_wp2_with fail
    rw [← HW3.o, ← HW4.o, ← HB3.o]
    refine (HFA.o W4 HI4'.o).mono ?_
    rintro e' w4 ⟨rfl, vn4, vd4, hi4, hv4⟩
    have hx4 := HI4'.o.Qbv hv4 HX4.o
    obtain ⟨z0, z1, z2, z3, z4⟩ := Qbi hx4
    have HV5 := J0.m (HV4'.o.trans hv4)
    clear y1 f1
    cases hR : P.X m .term lev r.tail with
    | bad e0 p0 =>
     rw [hR] at hi4
     have HI4 := J0.m (show Is w4 A c L g vn4 vd4 (.bad e0 p0) from hi4)
     have HPT := J0.m (Qfn w4 A c L g vn4 vd4 e0 p0 (P.node op t.f3) 2 HI4.o)
     have HFE : J0 (final = .bad e0 p0) := ⟨by rw [← HXX.o, hR]; rfl⟩
     clear hi4 hv4 hx4 hR
     cases bq
     all_goals
      have c5 := HBQ.o.symm
      have c6 := c5
      rw [tl45] at c6
      have hop := HOP.o
      simp only [if_true, Bool.false_eq_true, if_false] at hop
      subst hop
      clear HOP HBQ
      go_wp2_with fail
      refine HPT.o.mono ?_
      rintro e' w5 ⟨rfl, hi5, hb5⟩
      have HI5 := J0.m hi5
      have HV6 := J0.m (HV5.o.below hb5 (by have := HI4.o.glt; omega))
      clear hi5 hb5
      go_wp2
      go_roundg 0
      case measure => omega
      case rel => exact ⟨⟨vn4, vd4, HV6.o, .inl ⟨e0, p0, HFE.o, HI5.o⟩⟩, ⟨Nat.zero_le _⟩⟩
    | ok b2 r2 =>
     rw [hR] at hi4
     have HI4 : J0 (Is w4 A c L g vn4 vd4 (.ok r2 lev (ns ++ ([acc, b2].map EO.ns).flatten) (dp ++ [acc, b2].map EO.dep))) := ⟨by
      have e1 : ns ++ ([acc, b2].map EO.ns).flatten = (ns ++ acc.ns) ++ b2.ns := by simp
      have e2 : dp ++ [acc, b2].map EO.dep = (dp ++ [acc.dep]) ++ [b2.dep] := by simp
      rw [e1, e2]; exact hi4⟩
     have hsz := HSZ.o b2 r2 hR
     have HPT := J0.m (Qfh w4 A c L g vn4 vd4 r2 lev _ dp ([acc, b2].map EO.dep) (P.node op t.f3) HI4.o (by
      have h1 := HN1.o
      have h2 := HLEN.o
      simp only [P.base] at hsz
      simp only [List.length_append, List.map_cons, List.map_nil, List.flatten_cons, List.flatten_nil, List.append_nil] at *
      omega))
     rw [Qep] at HPT
     have HFE : J0 ((comb (P.node op t.f3) [acc, b2] r2).bind (fun c2 r => P.X m (.addL c2) lev r) = final) := ⟨by rw [← HXX.o, hR]; rfl⟩
     clear hi4 hv4 hx4 hR hsz
     cases bq
     all_goals
      have c5 := HBQ.o.symm
      have c6 := c5
      rw [tl45] at c6
      have hop := HOP.o
      simp only [if_true, Bool.false_eq_true, if_false] at hop
      subst hop
      clear HOP HBQ
      go_wp2_with fail
      refine HPT.o.mono ?_
      rintro e' w5 ⟨rfl, vn5, vd5, hi5, hv5⟩
      have HI5 := J0.m hi5
      have HV6 := J0.m (HV5.o.trans hv5)
      clear hi5 hv5
      go_wp2
      go_roundg m
      case measure => omega
      case rel => exact ⟨⟨LpM.next HV6.o HI5.o HFE.o⟩, ⟨by have := hk.o; omega⟩⟩
   | false =>
    cases hm : isM 45 r with
    | true =>
     have hlen := P.Qc2 hm
     have hkd : (hd r).f0 ≠ 0 := by rw [Qbz hm]; decide
     rw [if_pos (by rw [hm, Bool.or_true])] at hx
     have HISt : J0 (Sg.is 4 ⟨#[43]⟩ (.ok r lev (ns ++ acc.ns) (dp ++ [acc.dep])) = false) := ⟨hp⟩
     have HISt2 : J0 (Sg.is 4 ⟨#[45]⟩ (.ok r lev (ns ++ acc.ns) (dp ++ [acc.dep])) = true) := ⟨hm⟩
     obtain ⟨t, ht⟩ : ∃ t, t = hd r := ⟨_, rfl⟩
     have HTK : J0 (∀ W, Is W A c L g vn1 vd1 (.ok r lev (ns ++ acc.ns) (dp ++ [acc.dep])) → Calls Try.prog 43 #[.pointer (some ⟨g, 0, none⟩)] W fun e w' => e = .returned (.agg #[.int .i64 t.f0, .string t.f1, .int .u64 t.f2, .int .i64 t.f3, .int .i64 t.f4]) ∧ Below W.heap.size W w') := ⟨fun W hW => (Qcm hW).mono fun e w' ⟨t', he, ht', hb⟩ => ⟨by rw [he, ht' _ _ _ _ rfl, ht], hb⟩⟩
     have HKD := J0.m hkd
     rw [← ht] at hx
     obtain ⟨bq, hbq⟩ : ∃ bq, bq = (t.f1.toList == (mk1 45).toList) := ⟨_, rfl⟩
     rw [← hbq] at hx
     obtain ⟨op, hop⟩ : ∃ op : Int, op = (if bq = true then 7 else 6) := ⟨_, rfl⟩
     rw [← hop] at hx
     have HOP := J0.m hop
     have HBQ := J0.m hbq
     have hne : ∀ p, P.X m .term lev r.tail ≠ .bad 0 p := fun p e => HFI.o p (by rw [← hx, e]; rfl)
     have HFA : J0 (∀ W, Is W A c L g vn1 vd1 (.ok r.tail lev (ns ++ acc.ns) (dp ++ [acc.dep])) → Calls Try.prog 75 #[.pointer (some ⟨g, 0, none⟩)] W fun e w' => e = .returned (.tuple #[]) ∧ Ends W A c L g vn1 vd1 (outS lev (ns ++ acc.ns) (dp ++ [acc.dep]) (P.X m .term lev r.tail)) w') := ⟨fun W hW => HF.o m (by have := hk.o; omega) W A c L g vn1 vd1 _ _ _ _ HG.o hW hne⟩
     have HSZ := J0.m (fun a s => P.X_sz m .term lev r.tail a s)
     have HN1 : J0 ((ns ++ acc.ns).length + r.length ≤ 33554432) := ⟨by obtain ⟨q, _, _, _, h4⟩ := hi; exact h4.sz⟩
     have HLEN := J0.m hlen
     have HXX := J0.m hx
     clear hi hv hx hm hp hkd hlen hne ht hbq hop
     go_wp2_with fail
     refine HIS.o.mono ?_
     rw [HISt.o]
     rintro e' w2b ⟨rfl, hb2b⟩
     have HI2b := J0.m (HI.o.below hb2b)
     have HV2b := J0.m (HV.o.below hb2b (by have := HI.o.glt; omega))
     clear hb2b
     go_wp2_with fail
     refine (Qaz w2b A c L g vn1 vd1 _ 4 ⟨#[45]⟩ HI2b.o).mono ?_
     rw [HISt2.o]
     rintro e' w2 ⟨rfl, hb2⟩
     have HI2 := J0.m (HI2b.o.below hb2)
     have HV2 := J0.m (HV2b.o.below hb2 (by have := HI2b.o.glt; omega))
     clear hb2
     go_wp2_with fail
     refine (HTK.o w2 HI2.o).mono ?_
     rintro e' w3 ⟨rfl, hb3⟩
     have hi3 := HI2.o.below hb3
     have HV3 := J0.m (HV2.o.below hb3 (by have := HI2.o.glt; omega))
     obtain ⟨W3, hW3⟩ : ∃ W3, W3 = w3.alloc (.cells #[.int .i64 t.f0, .string t.f1, .int .u64 t.f2, .int .i64 t.f3, .int .i64 t.f4] 47) := ⟨_, rfl⟩
     have hB3 : Below w3.heap.size w3 W3 := by rw [hW3]; exact Qab (Below.refl _ _) _
     obtain ⟨b, hb⟩ : ∃ b, b = w3.heap.size := ⟨_, rfl⟩
     have HX3 : J0 (W3.heap[b]? = some (.cells #[.int .i64 t.f0, .string t.f1, .int .u64 t.f2, .int .i64 t.f3, .int .i64 t.f4] 47 (0, 0))) := ⟨by rw [hW3, hb]; exact Qay _ _⟩
     have HI3 := J0.m (hi3.below hB3)
     have HV4 := J0.m (HV3.o.below hB3 (by have := hi3.glt; omega))
     obtain ⟨at_, y1, f1, hi4, hv4⟩ := HI3.o.adv HG.o HKD.o
     have HX4 := J0.m (HI3.o.Qbv hv4 HX3.o)
     obtain ⟨W4, hW4⟩ : ∃ W4, W4 = W3.setCell ⟨g, 1, none⟩ (.int .i64 (wrap64 (at_ + 1))) := ⟨_, rfl⟩
     rw [← hW4] at hi4 hv4 HX4
     have HI4' := J0.m hi4
     have HV4' := J0.m (HV4.o.trans hv4)
     rw [hW3] at y1 f1
     have HW4 := J0.m hW4
     have HW3 := J0.m hW3
     have HB3 := J0.m hb
     clear hi3 hb3 hB3 hW3 hb hi4 hv4 hW4
     go_wp2_with fail
     rw [← HW3.o, ← HW4.o, ← HB3.o]
     refine (HFA.o W4 HI4'.o).mono ?_
     rintro e' w4 ⟨rfl, vn4, vd4, hi4, hv4⟩
     have hx4 := HI4'.o.Qbv hv4 HX4.o
     obtain ⟨z0, z1, z2, z3, z4⟩ := Qbi hx4
     have HV5 := J0.m (HV4'.o.trans hv4)
     clear y1 f1
     cases hR : P.X m .term lev r.tail with
     | bad e0 p0 =>
      rw [hR] at hi4
      have HI4 := J0.m (show Is w4 A c L g vn4 vd4 (.bad e0 p0) from hi4)
      have HPT := J0.m (Qfn w4 A c L g vn4 vd4 e0 p0 (P.node op t.f3) 2 HI4.o)
      have HFE : J0 (final = .bad e0 p0) := ⟨by rw [← HXX.o, hR]; rfl⟩
      clear hi4 hv4 hx4 hR
      cases bq
      all_goals
       have c5 := HBQ.o.symm
       have c6 := c5
       rw [tl45] at c6
       have hop := HOP.o
       simp only [if_true, Bool.false_eq_true, if_false] at hop
       subst hop
       clear HOP HBQ
       go_wp2_with fail
       refine HPT.o.mono ?_
       rintro e' w5 ⟨rfl, hi5, hb5⟩
       have HI5 := J0.m hi5
       have HV6 := J0.m (HV5.o.below hb5 (by have := HI4.o.glt; omega))
       clear hi5 hb5
       go_wp2
       go_roundg 0
       case measure => omega
       case rel => exact ⟨⟨vn4, vd4, HV6.o, .inl ⟨e0, p0, HFE.o, HI5.o⟩⟩, ⟨Nat.zero_le _⟩⟩
     | ok b2 r2 =>
      rw [hR] at hi4
      have HI4 : J0 (Is w4 A c L g vn4 vd4 (.ok r2 lev (ns ++ ([acc, b2].map EO.ns).flatten) (dp ++ [acc, b2].map EO.dep))) := ⟨by
       have e1 : ns ++ ([acc, b2].map EO.ns).flatten = (ns ++ acc.ns) ++ b2.ns := by simp
       have e2 : dp ++ [acc, b2].map EO.dep = (dp ++ [acc.dep]) ++ [b2.dep] := by simp
       rw [e1, e2]; exact hi4⟩
      have hsz := HSZ.o b2 r2 hR
      have HPT := J0.m (Qfh w4 A c L g vn4 vd4 r2 lev _ dp ([acc, b2].map EO.dep) (P.node op t.f3) HI4.o (by
       have h1 := HN1.o
       have h2 := HLEN.o
       simp only [P.base] at hsz
       simp only [List.length_append, List.map_cons, List.map_nil, List.flatten_cons, List.flatten_nil, List.append_nil] at *
       omega))
      rw [Qep] at HPT
      have HFE : J0 ((comb (P.node op t.f3) [acc, b2] r2).bind (fun c2 r => P.X m (.addL c2) lev r) = final) := ⟨by rw [← HXX.o, hR]; rfl⟩
      clear hi4 hv4 hx4 hR hsz
      cases bq
      all_goals
       have c5 := HBQ.o.symm
       have c6 := c5
       rw [tl45] at c6
       have hop := HOP.o
       simp only [if_true, Bool.false_eq_true, if_false] at hop
       subst hop
       clear HOP HBQ
       go_wp2_with fail
       refine HPT.o.mono ?_
       rintro e' w5 ⟨rfl, vn5, vd5, hi5, hv5⟩
       have HI5 := J0.m hi5
       have HV6 := J0.m (HV5.o.trans hv5)
       clear hi5 hv5
       go_wp2
       go_roundg m
       case measure => omega
       case rel => exact ⟨⟨LpM.next HV6.o HI5.o HFE.o⟩, ⟨by have := hk.o; omega⟩⟩
    | false =>
     rw [if_neg (by rw [hp, hm]; decide)] at hx
     have HISt : J0 (Sg.is 4 ⟨#[43]⟩ (.ok r lev (ns ++ acc.ns) (dp ++ [acc.dep])) = false) := ⟨hp⟩
     have HISt2 : J0 (Sg.is 4 ⟨#[45]⟩ (.ok r lev (ns ++ acc.ns) (dp ++ [acc.dep])) = false) := ⟨hm⟩
     have HXX := J0.m hx
     clear hi hv hx hm hp
     go_wp2_with fail
     refine HIS.o.mono ?_
     rw [HISt.o]
     rintro e' w2b ⟨rfl, hb2b⟩
     have HI2b := J0.m (HI.o.below hb2b)
     have HB2b := J0.m hb2b
     clear hb2b
     go_wp2_with fail
     refine (Qaz w2b A c L g vn1 vd1 _ 4 ⟨#[45]⟩ HI2b.o).mono ?_
     rw [HISt2.o]
     rintro e' w2 ⟨rfl, hb2⟩
     have HB2 := J0.m (Qak HB2b.o hb2)
     clear hb2
     go_wp2
     go_end0
     rw [← HXX.o]
     exact ⟨rfl, vn1, vd1, HI.o.below HB2.o, HV.o.below HB2.o (by have := HI.o.glt; omega)⟩
section
variable {w w' : World} {A : Option Addr} {c : Nat} {L : List Tk} {g : Nat} {vn vd : Value} {s : Sg}
theorem Qf4 {m : Nat} (H : CT m .expr 51) (hG : Qdo L) (h : Is w A c L g vn vd s) (hf : ∀ p, goS m .expr s ≠ .bad 0 p) :
  Calls Try.prog 51 #[.pointer (some ⟨g, 0, none⟩)] w fun e w' => e = .returned (.tuple #[]) ∧ Ends w A c L g vn vd (goS m .expr s) w' := by
 cases s with
 | ok ts lev ns dp => exact H w A c L g vn vd ts lev ns dp hG h (fun p e => hf p (by unfold goS; simp only [e]; rfl))
 | bad e p => exact (Qgg w A c L g vn vd e p h).mono fun r w' ⟨h1, h2, h3⟩ => ⟨h1, vn, vd, h2, Hv.Qa6 (Qaj h3 _) (by have := h.glt; omega)⟩
theorem gfac {m : Nat} (H : CT m .fac 87) (hG : Qdo L) (h : Is w A c L g vn vd s) (hf : ∀ p, goS m .fac s ≠ .bad 0 p) :
  Calls Try.prog 87 #[.pointer (some ⟨g, 0, none⟩)] w fun e w' => e = .returned (.tuple #[]) ∧ Ends w A c L g vn vd (goS m .fac s) w' := by
 cases s with
 | ok ts lev ns dp => exact H w A c L g vn vd ts lev ns dp hG h (fun p e => hf p (by unfold goS; simp only [e]; rfl))
 | bad e p => exact (Qfc w A c L g vn vd e p h).mono fun r w' ⟨h1, h2, h3⟩ => ⟨h1, vn, vd, h2, Hv.Qa6 (Qaj h3 _) (by have := h.glt; omega)⟩
end
end Go.Proofs.Ytbdcndkafaajpaa.R
end
section
namespace Go.Proofs.Ytbdcndkafaajpaa.A
open Go.RowKit Ytbdcndkafaajpaa.X YtbdcndkafaajpaaW.PrintWords YtbdcndkafaajpaaW.PrintLast YtbdcndkafaajpaaW.PrintMore
open Ytbdcndkafaajpaa.P (Nd EO Res hd isT isM Qar mxl comb mk1)
def stS (lev : Nat) (ns : List Nd) (dp : List Int) (kids : List EO) (r : List Tk) : Sg := .ok r lev (ns ++ (kids.map EO.ns).flatten) (dp ++ kids.map EO.dep)
theorem Qek (lev : Nat) (ns : List Nd) (dp : List Int) (r : List Tk) : stS lev ns dp [] r = .ok r lev ns dp := by unfold stS; simp
theorem Qfg (lev : Nat) (ns : List Nd) (dp : List Int) (kids : List EO) (r : List Tk) (c : UInt8) : (stS lev ns dp kids r).step (Qar c) = match Qar c r with | .ok _ r' => stS lev ns dp kids r' | .bad e p => .bad e p := rfl
theorem Qk5 (m : Nat) (f : P.Fn) (lev : Nat) (ns : List Nd) (dp : List Int) (kids : List EO) (r : List Tk) : goS m f (stS lev ns dp kids r) = match P.X m f lev r with | .ok a r' => stS lev ns dp (kids ++ [a]) r' | .bad e p => .bad e p := by
 unfold goS stS
 simp only
 cases P.X m f lev r with
 | ok a r' => unfold outS; simp
 | bad e p => rfl
theorem Qha (lev : Nat) (n : Nd) (r : List Tk) (ns : List Nd) (dp : List Int) (kids : List EO) (k : Nat) (hk : kids.length = k) : puG n k (stS lev ns dp kids r) = outS lev ns dp (comb n kids r) := Qqz lev n r ns dp kids k hk
theorem Qjy (m lev : Nat) (ns : List Nd) (dp : List Int) (r : List Tk) (n : Nd) : (puG n 1 ((goS m .expr ((stS (lev + 1) ns dp [] r).step (Qar 40))).step (Qar 41))).down =
  outS lev ns dp ((Qar 40 r).bind fun _ r => (P.X m .expr (lev + 1) r).bind fun a r => (Qar 41 r).bind fun _ r => comb n [a] r) := by
 rw [Qfg]
 cases Qar 40 r with
 | bad e p => rfl
 | ok t r =>
  simp only [Res.bind, Qk5]
  cases P.X m .expr (lev + 1) r with
  | bad e p => rfl
  | ok a r =>
   simp only [Qfg]
   cases Qar 41 r with
   | bad e p => rfl
   | ok t r => simp only [List.nil_append]; rw [Qha (kids := [a]) (k := 1) (hk := rfl), Qhg]
theorem Qmw (m lev : Nat) (ns : List Nd) (dp : List Int) (r : List Tk) (n : Nd) : (puG n 2 ((goS m .expr ((goS m .expr ((stS (lev + 1) ns dp [] r).step (Qar 40))).step (Qar 44))).step (Qar 41))).down =
  outS lev ns dp ((Qar 40 r).bind fun _ r => (P.X m .expr (lev + 1) r).bind fun a r => (Qar 44 r).bind fun _ r => (P.X m .expr (lev + 1) r).bind fun b r => (Qar 41 r).bind fun _ r => comb n [a, b] r) := by
 rw [Qfg]
 cases Qar 40 r with
 | bad e p => rfl
 | ok t r =>
  simp only [Res.bind, Qk5]
  cases P.X m .expr (lev + 1) r with
  | bad e p => rfl
  | ok a r =>
   simp only [Qfg]
   cases Qar 44 r with
   | bad e p => rfl
   | ok t r =>
    simp only [Qk5]
    cases P.X m .expr (lev + 1) r with
    | bad e p => rfl
    | ok b r =>
     simp only [Qfg]
     cases Qar 41 r with
     | bad e p => rfl
     | ok t r => simp only [List.nil_append, List.cons_append]; rw [Qha (kids := [a, b]) (k := 2) (hk := rfl), Qhg]
theorem Qrq {s t : ByteArray} {l : List UInt8} (h : s ≠ t) (hl : t.toList = l) : (s.toList == l) = false := by
 cases hc : (s.toList == l) with
 | false => rfl
 | true =>
  have e := eq_of_beq hc
  rw [← hl, ByteArray.toList_eq, ByteArray.toList_eq] at e
  exact absurd (ByteArray.ext (Array.toList_inj.1 e)) h
theorem Qmh (w : World) (A : Option Addr) (c : Nat) (L : List Tk) (g : Nat) (vn vd : Value) (ts : List Tk) (lev : Nat) (ns : List Nd) (dp : List Int) (nm p en : Int) (hG : Good L) (h : Is w A c L g vn vd (.ok ts lev ns dp)) (ht : hd ts = ⟨1, P.Qif, nm, p, en⟩) :
  Calls Try.prog 93 #[.pointer (some ⟨g, 0, none⟩), .agg #[.int .i64 1, .string ⟨#[116, 114, 117, 101]⟩, .int .u64 nm, .int .i64 p, .int .i64 en]] w fun e w' => e = .returned (.tuple #[]) ∧ Ends w A c L g vn vd (outS lev ns dp (comb (P.node 3 p) [] ts.tail)) w' := by
 have hk : (hd ts).f0 ≠ 0 := by rw [ht]; exact (by decide : (1 : Int) ≠ 0)
 have hl := P.Qc7 hk
 have HSZ : J0 (ns.length + 1 + ts.tail.length ≤ 33554432) := ⟨by obtain ⟨q, _, _, _, h4⟩ := h; have := h4.sz; omega⟩
 obtain ⟨W, hW⟩ : ∃ W, W = w.alloc (.cells #[.int .i64 1, .string ⟨#[116, 114, 117, 101]⟩, .int .u64 nm, .int .i64 p, .int .i64 en] 47) := ⟨_, rfl⟩
 have hB : Below w.heap.size w W := by rw [hW]; exact Qab (Below.refl _ _) _
 have hX : W.heap[w.heap.size]? = some (.cells #[.int .i64 1, .string ⟨#[116, 114, 117, 101]⟩, .int .u64 nm, .int .i64 p, .int .i64 en] 47 (0, 0)) := by rw [hW]; exact Qay _ _
 obtain ⟨b, hb⟩ : ∃ b, b = w.heap.size := ⟨_, rfl⟩
 rw [← hb] at hX
 have HI := J0.m (h.below hB)
 have HTK := J0.m (Qb9 W A c L g vn vd ts lev ns dp true hG (fun _ => hk) HI.o)
 have HV := J0.m ((Hv.refl (vn := vn) (vd := vd) (by have := h.glt; omega) : Hv w w g vn vd vn vd).below hB (by have := h.glt; omega))
 obtain ⟨z0, z1, z2, z3, z4⟩ := Qbi (t := ⟨1, ⟨#[116, 114, 117, 101]⟩, nm, p, en⟩) hX
 have HX := J0.m hX
 have HW := J0.m hW
 have HB := J0.m hb
 have HT := J0.m ht
 rw [hW, hb] at z0 z1 z2 z3 z4
 clear h hk hl hX hW hb hB ht
 go_enter Try.func93, Try.ntmps93
 go_wp2_with fail
 rw [← HW.o]
 refine HTK.o.mono ?_
 rintro e w1 ⟨rfl, hi1, hg1⟩
 unfold tokV
 have HI1 := J0.m (show Is w1 A c L g vn vd (.ok ts.tail lev ns dp) from hi1)
 have hv1 : Hv W w1 g vn vd vn vd := Hv.Qa6 hg1 (by have := HI.o.glt; omega)
 have hx1 := HI.o.Qbv hv1 HX.o
 have HV1 := J0.m (HV.o.trans hv1)
 have HPT := J0.m (gput (N := 33554431) (k := 0) (l := lev) (P.node 3 p) HI1.o (fun ts' lev' ns' dp' e => by cases e; exact ⟨by have := HSZ.o; omega, Nat.zero_le _, rfl⟩) (by omega))
 obtain ⟨y0, y1, y2, y3, y4⟩ := Qbi (t := ⟨1, ⟨#[116, 114, 117, 101]⟩, nm, p, en⟩) hx1
 rw [HB.o] at y0 y1 y2 y3 y4
 clear hi1 hg1 hv1 hx1
 go_wp2_with fail
 refine HPT.o.mono ?_
 rintro e w2 ⟨rfl, vn2, vd2, hi2, hv2⟩
 have HI2 := J0.m hi2
 have HV2 := J0.m (HV1.o.trans hv2)
 clear hi2 hv2
 go_wp2
 refine bodyPost_ret (results_none rfl _ _ _) rfl ?_
 refine ⟨rfl, vn2, vd2, ?_, HV2.o⟩
 have := HI2.o
 rw [← Qek, Qha (kids := []) (k := 0) (hk := rfl)] at this
 exact this
theorem Qky (w : World) (A : Option Addr) (c : Nat) (L : List Tk) (g : Nat) (vn vd : Value) (ts : List Tk) (lev : Nat) (ns : List Nd) (dp : List Int) (nm p en : Int) (hG : Good L) (h : Is w A c L g vn vd (.ok ts lev ns dp)) (ht : hd ts = ⟨1, ⟨#[102, 97, 108, 115, 101]⟩, nm, p, en⟩) :
  Calls Try.prog 93 #[.pointer (some ⟨g, 0, none⟩), .agg #[.int .i64 1, .string ⟨#[102, 97, 108, 115, 101]⟩, .int .u64 nm, .int .i64 p, .int .i64 en]] w fun e w' => e = .returned (.tuple #[]) ∧ Ends w A c L g vn vd (outS lev ns dp (comb (P.node 4 p) [] ts.tail)) w' := by
 have hk : (hd ts).f0 ≠ 0 := by rw [ht]; exact (by decide : (1 : Int) ≠ 0)
 have hl := P.Qc7 hk
 have HSZ : J0 (ns.length + 1 + ts.tail.length ≤ 33554432) := ⟨by obtain ⟨q, _, _, _, h4⟩ := h; have := h4.sz; omega⟩
 obtain ⟨W, hW⟩ : ∃ W, W = w.alloc (.cells #[.int .i64 1, .string ⟨#[102, 97, 108, 115, 101]⟩, .int .u64 nm, .int .i64 p, .int .i64 en] 47) := ⟨_, rfl⟩
 have hB : Below w.heap.size w W := by rw [hW]; exact Qab (Below.refl _ _) _
 have hX : W.heap[w.heap.size]? = some (.cells #[.int .i64 1, .string ⟨#[102, 97, 108, 115, 101]⟩, .int .u64 nm, .int .i64 p, .int .i64 en] 47 (0, 0)) := by rw [hW]; exact Qay _ _
 obtain ⟨b, hb⟩ : ∃ b, b = w.heap.size := ⟨_, rfl⟩
 rw [← hb] at hX
 have HI := J0.m (h.below hB)
 have HV := J0.m ((Hv.refl (vn := vn) (vd := vd) (by have := h.glt; omega) : Hv w w g vn vd vn vd).below hB (by have := h.glt; omega))
 obtain ⟨z0, z1, z2, z3, z4⟩ := Qbi (t := ⟨1, ⟨#[102, 97, 108, 115, 101]⟩, nm, p, en⟩) hX
 have HX := J0.m hX
 have HW := J0.m hW
 have HB := J0.m hb
 have HT := J0.m ht
 have HK := J0.m hk
 have HG := J0.m hG
 have HTK := J0.m (Qb9 W A c L g vn vd ts lev ns dp true hG (fun _ => hk) HI.o)
 rw [hW, hb] at z0 z1 z2 z3 z4
 clear h hk hl hX hW hb hB ht hG
 go_enter Try.func93, Try.ntmps93
 go_wp2_with fail
 rw [← HW.o]
 refine HTK.o.mono ?_
 rintro e w1 ⟨rfl, hi1, hg1⟩
 unfold tokV
 have HI1 := J0.m (show Is w1 A c L g vn vd (.ok ts.tail lev ns dp) from hi1)
 have hv1 : Hv W w1 g vn vd vn vd := Hv.Qa6 hg1 (by have := HI.o.glt; omega)
 have hx1 := HI.o.Qbv hv1 HX.o
 have HV1 := J0.m (HV.o.trans hv1)
 have HPT := J0.m (gput (N := 33554431) (k := 0) (l := lev) (P.node 4 p) HI1.o (fun ts' lev' ns' dp' e => by cases e; exact ⟨by have := HSZ.o; omega, Nat.zero_le _, rfl⟩) (by omega))
 obtain ⟨y0, y1, y2, y3, y4⟩ := Qbi (t := ⟨1, ⟨#[102, 97, 108, 115, 101]⟩, nm, p, en⟩) hx1
 rw [HB.o] at y0 y1 y2 y3 y4
 clear hi1 hg1 hv1 hx1
 go_wp2_with fail
 refine HPT.o.mono ?_
 rintro e w2 ⟨rfl, vn2, vd2, hi2, hv2⟩
 have HI2 := J0.m hi2
 have HV2 := J0.m (HV1.o.trans hv2)
 clear hi2 hv2
 go_wp2
 refine bodyPost_ret (results_none rfl _ _ _) rfl ?_
 refine ⟨rfl, vn2, vd2, ?_, HV2.o⟩
 have := HI2.o
 rw [← Qek, Qha (kids := []) (k := 0) (hk := rfl)] at this
 exact this
theorem Qmi (w : World) (A : Option Addr) (c : Nat) (L : List Tk) (g : Nat) (vn vd : Value) (ts : List Tk) (lev : Nat) (ns : List Nd) (dp : List Int) (s : ByteArray) (nm p en : Int) (hG : Good L) (h : Is w A c L g vn vd (.ok ts lev ns dp)) (ht : hd ts = ⟨1, s, nm, p, en⟩) (h1 : s ≠ P.Qif) (h2 : s ≠ P.Qgj) (h0 : opOf s = 0) :
  Calls Try.prog 93 #[.pointer (some ⟨g, 0, none⟩), .agg #[.int .i64 1, .string s, .int .u64 nm, .int .i64 p, .int .i64 en]] w fun e w' => e = .returned (.tuple #[]) ∧ Ends w A c L g vn vd (.bad 90 p) w' := by
 have hk : (hd ts).f0 ≠ 0 := by rw [ht]; exact (by decide : (1 : Int) ≠ 0)
 have hl := P.Qc7 hk
 have HSZ : J0 (ns.length + 1 + ts.tail.length ≤ 33554432) := ⟨by obtain ⟨q, _, _, _, h4⟩ := h; have := h4.sz; omega⟩
 obtain ⟨W, hW⟩ : ∃ W, W = w.alloc (.cells #[.int .i64 1, .string s, .int .u64 nm, .int .i64 p, .int .i64 en] 47) := ⟨_, rfl⟩
 have hB : Below w.heap.size w W := by rw [hW]; exact Qab (Below.refl _ _) _
 have hX : W.heap[w.heap.size]? = some (.cells #[.int .i64 1, .string s, .int .u64 nm, .int .i64 p, .int .i64 en] 47 (0, 0)) := by rw [hW]; exact Qay _ _
 obtain ⟨b, hb⟩ : ∃ b, b = w.heap.size := ⟨_, rfl⟩
 rw [← hb] at hX
 have HI := J0.m (h.below hB)
 have HV := J0.m ((Hv.refl (vn := vn) (vd := vd) (by have := h.glt; omega) : Hv w w g vn vd vn vd).below hB (by have := h.glt; omega))
 obtain ⟨z0, z1, z2, z3, z4⟩ := Qbi (t := ⟨1, s, nm, p, en⟩) hX
 have HX := J0.m hX
 have HW := J0.m hW
 have HB := J0.m hb
 have HT := J0.m ht
 have HK := J0.m hk
 have HG := J0.m hG
 obtain ⟨M1, M2, M3, M4, u1, u2, u3, u4, u5, hM⟩ := Qd1 W s
 have hop : opOf s = 0 := h0
 rw [hop] at u5
 have HIM := J0.m (HI.o.below hM)
 have HVM := J0.m (HV.o.below hM (by have := h.glt; have := hB.size; omega))
 have hx4 := Qae HX.o hM
 have HXM := J0.m hx4
 obtain ⟨x0, x1, x2, x3, x4⟩ := Qbi (t := ⟨1, s, nm, p, en⟩) hx4
 have hmm := @run_makeMap Try.prog
 have hsz : W.heap.size = w.heap.size + 1 := by rw [hW]; exact Array.size_push _
 rw [hsz] at u1 u2 u3 u4 u5
 rw [hW] at u1
 rw [hb] at x0 x1 x2 x3 x4
 rw [hW, hb] at z0 z1 z2 z3 z4
 have d1 : (s.toList == [116, 114, 117, 101]) = false := Qrq h1 (by rw [ByteArray.toList_eq]; rfl)
 have d2 : (s.toList == [102, 97, 108, 115, 101]) = false := Qrq h2 (by rw [ByteArray.toList_eq]; rfl)
 have HTK := J0.m (Qb9 M4 A c L g vn vd ts lev ns dp false hG (fun h => by cases h) HIM.o)
 clear h hk hl hX hW hb hB ht hG hM hx4 hsz hop h0 h1 h2
 go_enter Try.func93, Try.ntmps93
 go_wp2_with fail
 refine HTK.o.mono ?_
 rintro e w1 ⟨rfl, hi1, hg1⟩
 unfold tokV
 have HI1 := J0.m (show Is w1 A c L g vn vd (.bad 90 p) from by have := hi1; rw [show Sg.step (.ok ts lev ns dp) (P.want false) = .bad 90 (hd ts).f3 from rfl, HT.o] at this; exact this)
 have HV1 := J0.m (HVM.o.trans (Hv.Qa6 hg1 (by have := HIM.o.glt; omega)))
 clear hi1 hg1
 go_wp2
 refine bodyPost_ret (results_none rfl _ _ _) rfl ?_
 exact ⟨rfl, vn, vd, HI1.o, HV1.o⟩
theorem Qik (w : World) (A : Option Addr) (c : Nat) (L : List Tk) (g : Nat) (vn vd : Value) (ts : List Tk) (lev : Nat) (ns : List Nd) (dp : List Int) (nm p en : Int) (hG : Good L) (h : Is w A c L g vn vd (.ok ts lev ns dp)) (ht : hd ts = ⟨1, ⟨#[99, 97, 116]⟩, nm, p, en⟩) (hlv : 100 ≤ lev) :
  Calls Try.prog 93 #[.pointer (some ⟨g, 0, none⟩), .agg #[.int .i64 1, .string ⟨#[99, 97, 116]⟩, .int .u64 nm, .int .i64 p, .int .i64 en]] w fun e w' => e = .returned (.tuple #[]) ∧ Ends w A c L g vn vd (.bad 91 p) w' := by
 have hk : (hd ts).f0 ≠ 0 := by rw [ht]; exact (by decide : (1 : Int) ≠ 0)
 have hl := P.Qc7 hk
 have HSZ : J0 (ns.length + 1 + ts.tail.length ≤ 33554432) := ⟨by obtain ⟨q, _, _, _, h4⟩ := h; have := h4.sz; omega⟩
 obtain ⟨W, hW⟩ : ∃ W, W = w.alloc (.cells #[.int .i64 1, .string ⟨#[99, 97, 116]⟩, .int .u64 nm, .int .i64 p, .int .i64 en] 47) := ⟨_, rfl⟩
 have hB : Below w.heap.size w W := by rw [hW]; exact Qab (Below.refl _ _) _
 have hX : W.heap[w.heap.size]? = some (.cells #[.int .i64 1, .string ⟨#[99, 97, 116]⟩, .int .u64 nm, .int .i64 p, .int .i64 en] 47 (0, 0)) := by rw [hW]; exact Qay _ _
 obtain ⟨b, hb⟩ : ∃ b, b = w.heap.size := ⟨_, rfl⟩
 rw [← hb] at hX
 have HI := J0.m (h.below hB)
 have HV := J0.m ((Hv.refl (vn := vn) (vd := vd) (by have := h.glt; omega) : Hv w w g vn vd vn vd).below hB (by have := h.glt; omega))
 obtain ⟨z0, z1, z2, z3, z4⟩ := Qbi (t := ⟨1, ⟨#[99, 97, 116]⟩, nm, p, en⟩) hX
 have HX := J0.m hX
 have HW := J0.m hW
 have HB := J0.m hb
 have HT := J0.m ht
 have HK := J0.m hk
 have HG := J0.m hG
 obtain ⟨M1, M2, M3, M4, u1, u2, u3, u4, u5, hM⟩ := Qd1 W ⟨#[99, 97, 116]⟩
 have hop : opOf ⟨#[99, 97, 116]⟩ = 9 := by kernel_rfl
 rw [hop] at u5
 have HIM := J0.m (HI.o.below hM)
 have HVM := J0.m (HV.o.below hM (by have := h.glt; have := hB.size; omega))
 have hx4 := Qae HX.o hM
 have HXM := J0.m hx4
 obtain ⟨x0, x1, x2, x3, x4⟩ := Qbi (t := ⟨1, ⟨#[99, 97, 116]⟩, nm, p, en⟩) hx4
 have hmm := @run_makeMap Try.prog
 have hsz : W.heap.size = w.heap.size + 1 := by rw [hW]; exact Array.size_push _
 rw [hsz] at u1 u2 u3 u4 u5
 rw [hW] at u1
 rw [hb] at x0 x1 x2 x3 x4
 rw [hW, hb] at z0 z1 z2 z3 z4
 have hos : Qdu ⟨1, ⟨#[99, 97, 116]⟩, nm, p, en⟩ (.ok ts lev ns dp) = .bad 91 p := by unfold Qdu; simp only [if_pos hlv]
 have hod : decide (lev < 100) = false := decide_eq_false (by omega)
 have HOP := J0.m (Qcj M4 A c L g vn vd ts lev ns dp ⟨1, ⟨#[99, 97, 116]⟩, nm, p, en⟩ HIM.o)
 rw [hos, hod] at HOP
 clear h hk hl hX hW hb hB ht hG hM hx4 hsz hop hos hod hlv
 go_enter Try.func93, Try.ntmps93
 go_wp2_with fail
 refine HOP.o.mono ?_
 rintro e w1 ⟨rfl, hi1, hg1⟩
 have HI1 := J0.m hi1
 have HV1 := J0.m (HVM.o.trans (Hv.Qa6 hg1 (by have := HIM.o.glt; omega)))
 clear hi1 hg1
 go_wp2
 refine bodyPost_ret (results_none rfl _ _ _) rfl ?_
 exact ⟨rfl, vn, vd, HI1.o, HV1.o⟩
theorem Qih (w : World) (A : Option Addr) (c : Nat) (L : List Tk) (g : Nat) (vn vd : Value) (ts : List Tk) (lev : Nat) (ns : List Nd) (dp : List Int) (nm p en : Int) (hG : Good L) (h : Is w A c L g vn vd (.ok ts lev ns dp)) (ht : hd ts = ⟨1, ⟨#[114, 101, 112]⟩, nm, p, en⟩) (hlv : 100 ≤ lev) :
  Calls Try.prog 93 #[.pointer (some ⟨g, 0, none⟩), .agg #[.int .i64 1, .string ⟨#[114, 101, 112]⟩, .int .u64 nm, .int .i64 p, .int .i64 en]] w fun e w' => e = .returned (.tuple #[]) ∧ Ends w A c L g vn vd (.bad 91 p) w' := by
 have hk : (hd ts).f0 ≠ 0 := by rw [ht]; exact (by decide : (1 : Int) ≠ 0)
 have hl := P.Qc7 hk
 have HSZ : J0 (ns.length + 1 + ts.tail.length ≤ 33554432) := ⟨by obtain ⟨q, _, _, _, h4⟩ := h; have := h4.sz; omega⟩
 obtain ⟨W, hW⟩ : ∃ W, W = w.alloc (.cells #[.int .i64 1, .string ⟨#[114, 101, 112]⟩, .int .u64 nm, .int .i64 p, .int .i64 en] 47) := ⟨_, rfl⟩
 have hB : Below w.heap.size w W := by rw [hW]; exact Qab (Below.refl _ _) _
 have hX : W.heap[w.heap.size]? = some (.cells #[.int .i64 1, .string ⟨#[114, 101, 112]⟩, .int .u64 nm, .int .i64 p, .int .i64 en] 47 (0, 0)) := by rw [hW]; exact Qay _ _
 obtain ⟨b, hb⟩ : ∃ b, b = w.heap.size := ⟨_, rfl⟩
 rw [← hb] at hX
 have HI := J0.m (h.below hB)
 have HV := J0.m ((Hv.refl (vn := vn) (vd := vd) (by have := h.glt; omega) : Hv w w g vn vd vn vd).below hB (by have := h.glt; omega))
 obtain ⟨z0, z1, z2, z3, z4⟩ := Qbi (t := ⟨1, ⟨#[114, 101, 112]⟩, nm, p, en⟩) hX
 have HX := J0.m hX
 have HW := J0.m hW
 have HB := J0.m hb
 have HT := J0.m ht
 have HK := J0.m hk
 have HG := J0.m hG
 obtain ⟨M1, M2, M3, M4, u1, u2, u3, u4, u5, hM⟩ := Qd1 W ⟨#[114, 101, 112]⟩
 have hop : opOf ⟨#[114, 101, 112]⟩ = 10 := by kernel_rfl
 rw [hop] at u5
 have HIM := J0.m (HI.o.below hM)
 have HVM := J0.m (HV.o.below hM (by have := h.glt; have := hB.size; omega))
 have hx4 := Qae HX.o hM
 have HXM := J0.m hx4
 obtain ⟨x0, x1, x2, x3, x4⟩ := Qbi (t := ⟨1, ⟨#[114, 101, 112]⟩, nm, p, en⟩) hx4
 have hmm := @run_makeMap Try.prog
 have hsz : W.heap.size = w.heap.size + 1 := by rw [hW]; exact Array.size_push _
 rw [hsz] at u1 u2 u3 u4 u5
 rw [hW] at u1
 rw [hb] at x0 x1 x2 x3 x4
 rw [hW, hb] at z0 z1 z2 z3 z4
 have hos : Qdu ⟨1, ⟨#[114, 101, 112]⟩, nm, p, en⟩ (.ok ts lev ns dp) = .bad 91 p := by unfold Qdu; simp only [if_pos hlv]
 have hod : decide (lev < 100) = false := decide_eq_false (by omega)
 have HOP := J0.m (Qcj M4 A c L g vn vd ts lev ns dp ⟨1, ⟨#[114, 101, 112]⟩, nm, p, en⟩ HIM.o)
 rw [hos, hod] at HOP
 clear h hk hl hX hW hb hB ht hG hM hx4 hsz hop hos hod hlv
 go_enter Try.func93, Try.ntmps93
 go_wp2_with fail
 refine HOP.o.mono ?_
 rintro e w1 ⟨rfl, hi1, hg1⟩
 have HI1 := J0.m hi1
 have HV1 := J0.m (HVM.o.trans (Hv.Qa6 hg1 (by have := HIM.o.glt; omega)))
 clear hi1 hg1
 go_wp2
 refine bodyPost_ret (results_none rfl _ _ _) rfl ?_
 exact ⟨rfl, vn, vd, HI1.o, HV1.o⟩
theorem Qii (w : World) (A : Option Addr) (c : Nat) (L : List Tk) (g : Nat) (vn vd : Value) (ts : List Tk) (lev : Nat) (ns : List Nd) (dp : List Int) (nm p en : Int) (hG : Good L) (h : Is w A c L g vn vd (.ok ts lev ns dp)) (ht : hd ts = ⟨1, ⟨#[108, 101, 110]⟩, nm, p, en⟩) (hlv : 100 ≤ lev) :
  Calls Try.prog 93 #[.pointer (some ⟨g, 0, none⟩), .agg #[.int .i64 1, .string ⟨#[108, 101, 110]⟩, .int .u64 nm, .int .i64 p, .int .i64 en]] w fun e w' => e = .returned (.tuple #[]) ∧ Ends w A c L g vn vd (.bad 91 p) w' := by
 have hk : (hd ts).f0 ≠ 0 := by rw [ht]; exact (by decide : (1 : Int) ≠ 0)
 have hl := P.Qc7 hk
 have HSZ : J0 (ns.length + 1 + ts.tail.length ≤ 33554432) := ⟨by obtain ⟨q, _, _, _, h4⟩ := h; have := h4.sz; omega⟩
 obtain ⟨W, hW⟩ : ∃ W, W = w.alloc (.cells #[.int .i64 1, .string ⟨#[108, 101, 110]⟩, .int .u64 nm, .int .i64 p, .int .i64 en] 47) := ⟨_, rfl⟩
 have hB : Below w.heap.size w W := by rw [hW]; exact Qab (Below.refl _ _) _
 have hX : W.heap[w.heap.size]? = some (.cells #[.int .i64 1, .string ⟨#[108, 101, 110]⟩, .int .u64 nm, .int .i64 p, .int .i64 en] 47 (0, 0)) := by rw [hW]; exact Qay _ _
 obtain ⟨b, hb⟩ : ∃ b, b = w.heap.size := ⟨_, rfl⟩
 rw [← hb] at hX
 have HI := J0.m (h.below hB)
 have HV := J0.m ((Hv.refl (vn := vn) (vd := vd) (by have := h.glt; omega) : Hv w w g vn vd vn vd).below hB (by have := h.glt; omega))
 obtain ⟨z0, z1, z2, z3, z4⟩ := Qbi (t := ⟨1, ⟨#[108, 101, 110]⟩, nm, p, en⟩) hX
 have HX := J0.m hX
 have HW := J0.m hW
 have HB := J0.m hb
 have HT := J0.m ht
 have HK := J0.m hk
 have HG := J0.m hG
 obtain ⟨M1, M2, M3, M4, u1, u2, u3, u4, u5, hM⟩ := Qd1 W ⟨#[108, 101, 110]⟩
 have hop : opOf ⟨#[108, 101, 110]⟩ = 11 := by kernel_rfl
 rw [hop] at u5
 have HIM := J0.m (HI.o.below hM)
 have HVM := J0.m (HV.o.below hM (by have := h.glt; have := hB.size; omega))
 have hx4 := Qae HX.o hM
 have HXM := J0.m hx4
 obtain ⟨x0, x1, x2, x3, x4⟩ := Qbi (t := ⟨1, ⟨#[108, 101, 110]⟩, nm, p, en⟩) hx4
 have hmm := @run_makeMap Try.prog
 have hsz : W.heap.size = w.heap.size + 1 := by rw [hW]; exact Array.size_push _
 rw [hsz] at u1 u2 u3 u4 u5
 rw [hW] at u1
 rw [hb] at x0 x1 x2 x3 x4
 rw [hW, hb] at z0 z1 z2 z3 z4
 have hos : Qdu ⟨1, ⟨#[108, 101, 110]⟩, nm, p, en⟩ (.ok ts lev ns dp) = .bad 91 p := by unfold Qdu; simp only [if_pos hlv]
 have hod : decide (lev < 100) = false := decide_eq_false (by omega)
 have HOP := J0.m (Qcj M4 A c L g vn vd ts lev ns dp ⟨1, ⟨#[108, 101, 110]⟩, nm, p, en⟩ HIM.o)
 rw [hos, hod] at HOP
 clear h hk hl hX hW hb hB ht hG hM hx4 hsz hop hos hod hlv
 go_enter Try.func93, Try.ntmps93
 go_wp2_with fail
 refine HOP.o.mono ?_
 rintro e w1 ⟨rfl, hi1, hg1⟩
 have HI1 := J0.m hi1
 have HV1 := J0.m (HVM.o.trans (Hv.Qa6 hg1 (by have := HIM.o.glt; omega)))
 clear hi1 hg1
 go_wp2
 refine bodyPost_ret (results_none rfl _ _ _) rfl ?_
 exact ⟨rfl, vn, vd, HI1.o, HV1.o⟩
theorem Qij (w : World) (A : Option Addr) (c : Nat) (L : List Tk) (g : Nat) (vn vd : Value) (ts : List Tk) (lev : Nat) (ns : List Nd) (dp : List Int) (nm p en : Int) (hG : Good L) (h : Is w A c L g vn vd (.ok ts lev ns dp)) (ht : hd ts = ⟨1, ⟨#[104, 101, 120]⟩, nm, p, en⟩) (hlv : 100 ≤ lev) :
  Calls Try.prog 93 #[.pointer (some ⟨g, 0, none⟩), .agg #[.int .i64 1, .string ⟨#[104, 101, 120]⟩, .int .u64 nm, .int .i64 p, .int .i64 en]] w fun e w' => e = .returned (.tuple #[]) ∧ Ends w A c L g vn vd (.bad 91 p) w' := by
 have hk : (hd ts).f0 ≠ 0 := by rw [ht]; exact (by decide : (1 : Int) ≠ 0)
 have hl := P.Qc7 hk
 have HSZ : J0 (ns.length + 1 + ts.tail.length ≤ 33554432) := ⟨by obtain ⟨q, _, _, _, h4⟩ := h; have := h4.sz; omega⟩
 obtain ⟨W, hW⟩ : ∃ W, W = w.alloc (.cells #[.int .i64 1, .string ⟨#[104, 101, 120]⟩, .int .u64 nm, .int .i64 p, .int .i64 en] 47) := ⟨_, rfl⟩
 have hB : Below w.heap.size w W := by rw [hW]; exact Qab (Below.refl _ _) _
 have hX : W.heap[w.heap.size]? = some (.cells #[.int .i64 1, .string ⟨#[104, 101, 120]⟩, .int .u64 nm, .int .i64 p, .int .i64 en] 47 (0, 0)) := by rw [hW]; exact Qay _ _
 obtain ⟨b, hb⟩ : ∃ b, b = w.heap.size := ⟨_, rfl⟩
 rw [← hb] at hX
 have HI := J0.m (h.below hB)
 have HV := J0.m ((Hv.refl (vn := vn) (vd := vd) (by have := h.glt; omega) : Hv w w g vn vd vn vd).below hB (by have := h.glt; omega))
 obtain ⟨z0, z1, z2, z3, z4⟩ := Qbi (t := ⟨1, ⟨#[104, 101, 120]⟩, nm, p, en⟩) hX
 have HX := J0.m hX
 have HW := J0.m hW
 have HB := J0.m hb
 have HT := J0.m ht
 have HK := J0.m hk
 have HG := J0.m hG
 obtain ⟨M1, M2, M3, M4, u1, u2, u3, u4, u5, hM⟩ := Qd1 W ⟨#[104, 101, 120]⟩
 have hop : opOf ⟨#[104, 101, 120]⟩ = 12 := by kernel_rfl
 rw [hop] at u5
 have HIM := J0.m (HI.o.below hM)
 have HVM := J0.m (HV.o.below hM (by have := h.glt; have := hB.size; omega))
 have hx4 := Qae HX.o hM
 have HXM := J0.m hx4
 obtain ⟨x0, x1, x2, x3, x4⟩ := Qbi (t := ⟨1, ⟨#[104, 101, 120]⟩, nm, p, en⟩) hx4
 have hmm := @run_makeMap Try.prog
 have hsz : W.heap.size = w.heap.size + 1 := by rw [hW]; exact Array.size_push _
 rw [hsz] at u1 u2 u3 u4 u5
 rw [hW] at u1
 rw [hb] at x0 x1 x2 x3 x4
 rw [hW, hb] at z0 z1 z2 z3 z4
 have hos : Qdu ⟨1, ⟨#[104, 101, 120]⟩, nm, p, en⟩ (.ok ts lev ns dp) = .bad 91 p := by unfold Qdu; simp only [if_pos hlv]
 have hod : decide (lev < 100) = false := decide_eq_false (by omega)
 have HOP := J0.m (Qcj M4 A c L g vn vd ts lev ns dp ⟨1, ⟨#[104, 101, 120]⟩, nm, p, en⟩ HIM.o)
 rw [hos, hod] at HOP
 clear h hk hl hX hW hb hB ht hG hM hx4 hsz hop hos hod hlv
 go_enter Try.func93, Try.ntmps93
 go_wp2_with fail
 refine HOP.o.mono ?_
 rintro e w1 ⟨rfl, hi1, hg1⟩
 have HI1 := J0.m hi1
 have HV1 := J0.m (HVM.o.trans (Hv.Qa6 hg1 (by have := HIM.o.glt; omega)))
 clear hi1 hg1
 go_wp2
 refine bodyPost_ret (results_none rfl _ _ _) rfl ?_
 exact ⟨rfl, vn, vd, HI1.o, HV1.o⟩
theorem Qin {N k l : Nat} {s : Sg} (h : s.At N k l) (n : Nd) : (puG n k s).At (N + 1) 0 l := by
 intro ts lev ns dp e
 cases s with
 | bad e p => cases e
 | ok ts0 lev0 ns0 dp0 =>
  obtain ⟨h1, h2, h3⟩ := h _ _ _ _ rfl
  unfold puG putS at e
  simp only at e
  split at e
  ·cases e
  ·cases e
   exact ⟨by rw [List.length_append, List.length_singleton]; omega, Nat.zero_le _, h3⟩
theorem Qkj (lev : Nat) (ns : List Nd) (dp : List Int) (r : List Tk) {N : Nat} (h : ns.length + r.length ≤ N) : (stS lev ns dp [] r).At N 0 lev := by
 intro ts lev' ns' dp' e
 rw [Qek] at e
 cases e
 exact ⟨h, Nat.zero_le _, rfl⟩
theorem Qnj (m : Nat) (HE : CT m .expr 49) (w : World) (A : Option Addr) (c : Nat) (L : List Tk) (g : Nat) (vn vd : Value) (ts : List Tk) (lev : Nat) (ns : List Nd) (dp : List Int) (nm p en : Int) (hG : Good L) (h : Is w A c L g vn vd (.ok ts lev ns dp)) (ht : hd ts = ⟨1, ⟨#[108, 101, 110]⟩, nm, p, en⟩) (hlv : lev < 100) (hf : ∀ pl, ((Qar 40 ts.tail).bind fun _ r => (P.X m .expr (lev + 1) r).bind fun a r => (Qar 41 r).bind fun _ r => comb (P.node 11 p) [a] r) ≠ .bad 0 pl) :
  Calls Try.prog 93 #[.pointer (some ⟨g, 0, none⟩), .agg #[.int .i64 1, .string ⟨#[108, 101, 110]⟩, .int .u64 nm, .int .i64 p, .int .i64 en]] w fun e w' => e = .returned (.tuple #[]) ∧ Ends w A c L g vn vd (outS lev ns dp ((Qar 40 ts.tail).bind fun _ r => (P.X m .expr (lev + 1) r).bind fun a r => (Qar 41 r).bind fun _ r => comb (P.node 11 p) [a] r)) w' := by
 have hk : (hd ts).f0 ≠ 0 := by rw [ht]; exact (by decide : (1 : Int) ≠ 0)
 have hl := P.Qc7 hk
 have HSZ : J0 (ns.length + 1 + ts.tail.length ≤ 33554432) := ⟨by obtain ⟨q, _, _, _, h4⟩ := h; have := h4.sz; omega⟩
 obtain ⟨W, hW⟩ : ∃ W, W = w.alloc (.cells #[.int .i64 1, .string ⟨#[108, 101, 110]⟩, .int .u64 nm, .int .i64 p, .int .i64 en] 47) := ⟨_, rfl⟩
 have hB : Below w.heap.size w W := by rw [hW]; exact Qab (Below.refl _ _) _
 have hX : W.heap[w.heap.size]? = some (.cells #[.int .i64 1, .string ⟨#[108, 101, 110]⟩, .int .u64 nm, .int .i64 p, .int .i64 en] 47 (0, 0)) := by rw [hW]; exact Qay _ _
 obtain ⟨b, hb⟩ : ∃ b, b = w.heap.size := ⟨_, rfl⟩
 rw [← hb] at hX
 have HI := J0.m (h.below hB)
 have HV := J0.m ((Hv.refl (vn := vn) (vd := vd) (by have := h.glt; omega) : Hv w w g vn vd vn vd).below hB (by have := h.glt; omega))
 obtain ⟨z0, z1, z2, z3, z4⟩ := Qbi (t := ⟨1, ⟨#[108, 101, 110]⟩, nm, p, en⟩) hX
 have HX := J0.m hX
 have HW := J0.m hW
 have HB := J0.m hb
 have HT := J0.m ht
 have HK := J0.m hk
 have HG := J0.m hG
 obtain ⟨M1, M2, M3, M4, u1, u2, u3, u4, u5, hM⟩ := Qd1 W ⟨#[108, 101, 110]⟩
 have hop : opOf ⟨#[108, 101, 110]⟩ = 11 := by kernel_rfl
 rw [hop] at u5
 have HIM := J0.m (HI.o.below hM)
 have HVM := J0.m (HV.o.below hM (by have := h.glt; have := hB.size; omega))
 have hx4 := Qae HX.o hM
 have HXM := J0.m hx4
 obtain ⟨x0, x1, x2, x3, x4⟩ := Qbi (t := ⟨1, ⟨#[108, 101, 110]⟩, nm, p, en⟩) hx4
 have hmm := @run_makeMap Try.prog
 have hsz : W.heap.size = w.heap.size + 1 := by rw [hW]; exact Array.size_push _
 rw [hsz] at u1 u2 u3 u4 u5
 rw [hW] at u1
 rw [hb] at x0 x1 x2 x3 x4
 rw [hW, hb] at z0 z1 z2 z3 z4
 have hos : Qdu ⟨1, ⟨#[108, 101, 110]⟩, nm, p, en⟩ (.ok ts lev ns dp) = .ok ts (lev + 1) ns dp := by unfold Qdu; simp only [if_neg (by omega : ¬ 100 ≤ lev)]
 have hod : decide (lev < 100) = true := decide_eq_true (by omega)
 have HOP := J0.m (Qcj M4 A c L g vn vd ts lev ns dp ⟨1, ⟨#[108, 101, 110]⟩, nm, p, en⟩ HIM.o)
 rw [hos, hod] at HOP
 have HFL : J0 (∀ pl, (puG (P.node 11 p) 1 ((goS m .expr ((stS (lev + 1) ns dp [] ts.tail).step (Qar 40))).step (Qar 41))).down ≠ .bad 0 pl) := ⟨fun pl e => by
  rw [Qjy] at e
  cases hr : ((Qar 40 ts.tail).bind fun _ r => (P.X m .expr (lev + 1) r).bind fun a r => (Qar 41 r).bind fun _ r => comb (P.node 11 p) [a] r) with
  | ok a r => rw [hr] at e; cases e
  | bad e0 p0 =>
   rw [hr] at e
   injection e with e1 e2
   subst e1
   exact hf _ hr⟩
 have HLAW := J0.m (Qjy m lev ns dp ts.tail (P.node 11 p))
 have HE := J0.m HE
 clear h hk hl hX hW hb hB ht hG hM hx4 hsz hop hos hod hlv hf
 go_enter Try.func93, Try.ntmps93
 go_wp2_with fail
 refine HOP.o.mono ?_
 rintro e w1 ⟨rfl, hi1, hg1⟩
 have HI1 := J0.m hi1
 have HV1 := J0.m (show Hv M4 w1 g vn vd vn vd from Hv.Qa6 hg1 (by have := HIM.o.glt; omega))
 have HTK := J0.m (Qb9 w1 A c L g vn vd ts (lev + 1) ns dp true HG.o (fun _ => HK.o) HI1.o)
 clear hi1 hg1
 go_wp2_with fail
 refine HTK.o.mono ?_
 rintro e w2 ⟨rfl, hi2, hg2⟩
 unfold tokV
 have HI2 := J0.m (show Is w2 A c L g vn vd (stS (lev + 1) ns dp [] ts.tail) from by rw [Qek]; exact hi2)
 have HV2 := J0.m (HV1.o.trans (Hv.Qa6 hg2 (by have := HI1.o.glt; omega)))
 have HA2 := J0.m (Qkj (lev + 1) ns dp ts.tail (N := 33554431) (by have := HSZ.o; omega))
 clear hi2 hg2
 have HMK := J0.m (Qe7 40 HG.o HI2.o)
 go_wp2_with fail
 refine HMK.o.mono ?_
 rintro e w3 ⟨⟨tq, rfl⟩, hi, hv⟩
 have HI3 := J0.m hi
 have HV3 := J0.m (HV2.o.trans hv)
 have HA3 := J0.m (Qcw HA2.o 40)
 clear hi hv HMK
 have HXP := J0.m (Qf4 HE.o HG.o HI3.o (fun p e => HFL.o p (by rw [e]; rfl)))
 go_wp2_with fail
 refine HXP.o.mono ?_
 rintro e w4 ⟨rfl, vn4, vd4, hi, hv⟩
 have HI4 := J0.m hi
 have HV4 := J0.m (HV3.o.trans hv)
 have HA4 := J0.m (Qgu (m := m) (f := .expr) HA3.o rfl)
 clear hi hv HXP
 have HMK := J0.m (Qe7 41 HG.o HI4.o)
 go_wp2_with fail
 refine HMK.o.mono ?_
 rintro e w5 ⟨⟨tq, rfl⟩, hi, hv⟩
 have HI5 := J0.m hi
 have HV5 := J0.m (HV4.o.trans hv)
 have HA5 := J0.m (Qcw HA4.o 41)
 clear hi hv HMK
 obtain ⟨y0, y1, y2, y3, y4⟩ := Qbi (t := ⟨1, ⟨#[108, 101, 110]⟩, nm, p, en⟩) (HIM.o.Qbv HV5.o HXM.o)
 rw [HB.o] at y0 y1 y2 y3 y4
 obtain ⟨Wn, hWn⟩ : ∃ Wn, Wn = w5.alloc (.cells #[.int .i64 11, .int .i64 0, .int .u64 0, .string ⟨#[]⟩, .int .i64 p] 49) := ⟨_, rfl⟩
 have hBn : Below w5.heap.size w5 Wn := by rw [hWn]; exact Qab (Below.refl _ _) _
 have hXn : Wn.heap[w5.heap.size]? = some (.cells #[.int .i64 11, .int .i64 0, .int .u64 0, .string ⟨#[]⟩, .int .i64 p] 49 (0, 0)) := by rw [hWn]; exact Qay _ _
 have HIn := J0.m (HI5.o.below hBn)
 have HVn := J0.m (HV5.o.below hBn (by have := HI5.o.glt; omega))
 obtain ⟨k0, k1, k2, k3, k4⟩ := Qdt (n := ⟨11, 0, 0, ⟨#[]⟩, p⟩) hXn
 have HPT := J0.m (gput (P.node 11 p) HIn.o HA5.o (by omega))
 have HWn := J0.m hWn
 rw [hWn] at k0 k1 k2 k3 k4
 clear hWn hBn hXn
 go_wp2_with fail
 rw [← HWn.o]
 refine HPT.o.mono ?_
 rintro e wp ⟨rfl, vnp, vdp, hip, hvp⟩
 have HVp := J0.m (HVn.o.trans hvp)
 obtain ⟨lv, l4, f4, hid, hvd⟩ := Qfb hip (Qin HA5.o (P.node 11 p)) (by omega)
 have HID := J0.m hid
 have HVD := J0.m (HVp.o.trans hvd)
 clear hip hvp hid hvd
 go_wp2
 go_end0
 refine ⟨rfl, vnp, vdp, ?_, HVM.o.trans HVD.o⟩
 rw [← HLAW.o]
 exact HID.o
theorem Qnk (m : Nat) (HE : CT m .expr 49) (w : World) (A : Option Addr) (c : Nat) (L : List Tk) (g : Nat) (vn vd : Value) (ts : List Tk) (lev : Nat) (ns : List Nd) (dp : List Int) (nm p en : Int) (hG : Good L) (h : Is w A c L g vn vd (.ok ts lev ns dp)) (ht : hd ts = ⟨1, ⟨#[104, 101, 120]⟩, nm, p, en⟩) (hlv : lev < 100) (hf : ∀ pl, ((Qar 40 ts.tail).bind fun _ r => (P.X m .expr (lev + 1) r).bind fun a r => (Qar 41 r).bind fun _ r => comb (P.node 12 p) [a] r) ≠ .bad 0 pl) :
  Calls Try.prog 93 #[.pointer (some ⟨g, 0, none⟩), .agg #[.int .i64 1, .string ⟨#[104, 101, 120]⟩, .int .u64 nm, .int .i64 p, .int .i64 en]] w fun e w' => e = .returned (.tuple #[]) ∧ Ends w A c L g vn vd (outS lev ns dp ((Qar 40 ts.tail).bind fun _ r => (P.X m .expr (lev + 1) r).bind fun a r => (Qar 41 r).bind fun _ r => comb (P.node 12 p) [a] r)) w' := by
 have hk : (hd ts).f0 ≠ 0 := by rw [ht]; exact (by decide : (1 : Int) ≠ 0)
 have hl := P.Qc7 hk
 have HSZ : J0 (ns.length + 1 + ts.tail.length ≤ 33554432) := ⟨by obtain ⟨q, _, _, _, h4⟩ := h; have := h4.sz; omega⟩
 obtain ⟨W, hW⟩ : ∃ W, W = w.alloc (.cells #[.int .i64 1, .string ⟨#[104, 101, 120]⟩, .int .u64 nm, .int .i64 p, .int .i64 en] 47) := ⟨_, rfl⟩
 have hB : Below w.heap.size w W := by rw [hW]; exact Qab (Below.refl _ _) _
 have hX : W.heap[w.heap.size]? = some (.cells #[.int .i64 1, .string ⟨#[104, 101, 120]⟩, .int .u64 nm, .int .i64 p, .int .i64 en] 47 (0, 0)) := by rw [hW]; exact Qay _ _
 obtain ⟨b, hb⟩ : ∃ b, b = w.heap.size := ⟨_, rfl⟩
 rw [← hb] at hX
 have HI := J0.m (h.below hB)
 have HV := J0.m ((Hv.refl (vn := vn) (vd := vd) (by have := h.glt; omega) : Hv w w g vn vd vn vd).below hB (by have := h.glt; omega))
 obtain ⟨z0, z1, z2, z3, z4⟩ := Qbi (t := ⟨1, ⟨#[104, 101, 120]⟩, nm, p, en⟩) hX
 have HX := J0.m hX
 have HW := J0.m hW
 have HB := J0.m hb
 have HT := J0.m ht
 have HK := J0.m hk
 have HG := J0.m hG
 obtain ⟨M1, M2, M3, M4, u1, u2, u3, u4, u5, hM⟩ := Qd1 W ⟨#[104, 101, 120]⟩
 have hop : opOf ⟨#[104, 101, 120]⟩ = 12 := by kernel_rfl
 rw [hop] at u5
 have HIM := J0.m (HI.o.below hM)
 have HVM := J0.m (HV.o.below hM (by have := h.glt; have := hB.size; omega))
 have hx4 := Qae HX.o hM
 have HXM := J0.m hx4
 obtain ⟨x0, x1, x2, x3, x4⟩ := Qbi (t := ⟨1, ⟨#[104, 101, 120]⟩, nm, p, en⟩) hx4
 have hmm := @run_makeMap Try.prog
 have hsz : W.heap.size = w.heap.size + 1 := by rw [hW]; exact Array.size_push _
 rw [hsz] at u1 u2 u3 u4 u5
 rw [hW] at u1
 rw [hb] at x0 x1 x2 x3 x4
 rw [hW, hb] at z0 z1 z2 z3 z4
 have hos : Qdu ⟨1, ⟨#[104, 101, 120]⟩, nm, p, en⟩ (.ok ts lev ns dp) = .ok ts (lev + 1) ns dp := by unfold Qdu; simp only [if_neg (by omega : ¬ 100 ≤ lev)]
 have hod : decide (lev < 100) = true := decide_eq_true (by omega)
 have HOP := J0.m (Qcj M4 A c L g vn vd ts lev ns dp ⟨1, ⟨#[104, 101, 120]⟩, nm, p, en⟩ HIM.o)
 rw [hos, hod] at HOP
 have HFL : J0 (∀ pl, (puG (P.node 12 p) 1 ((goS m .expr ((stS (lev + 1) ns dp [] ts.tail).step (Qar 40))).step (Qar 41))).down ≠ .bad 0 pl) := ⟨fun pl e => by
  rw [Qjy] at e
  cases hr : ((Qar 40 ts.tail).bind fun _ r => (P.X m .expr (lev + 1) r).bind fun a r => (Qar 41 r).bind fun _ r => comb (P.node 12 p) [a] r) with
  | ok a r => rw [hr] at e; cases e
  | bad e0 p0 =>
   rw [hr] at e
   injection e with e1 e2
   subst e1
   exact hf _ hr⟩
 have HLAW := J0.m (Qjy m lev ns dp ts.tail (P.node 12 p))
 have HE := J0.m HE
 clear h hk hl hX hW hb hB ht hG hM hx4 hsz hop hos hod hlv hf
 go_enter Try.func93, Try.ntmps93
 go_wp2_with fail
 refine HOP.o.mono ?_
 rintro e w1 ⟨rfl, hi1, hg1⟩
 have HI1 := J0.m hi1
 have HV1 := J0.m (show Hv M4 w1 g vn vd vn vd from Hv.Qa6 hg1 (by have := HIM.o.glt; omega))
 have HTK := J0.m (Qb9 w1 A c L g vn vd ts (lev + 1) ns dp true HG.o (fun _ => HK.o) HI1.o)
 clear hi1 hg1
 go_wp2_with fail
 refine HTK.o.mono ?_
 rintro e w2 ⟨rfl, hi2, hg2⟩
 unfold tokV
 have HI2 := J0.m (show Is w2 A c L g vn vd (stS (lev + 1) ns dp [] ts.tail) from by rw [Qek]; exact hi2)
 have HV2 := J0.m (HV1.o.trans (Hv.Qa6 hg2 (by have := HI1.o.glt; omega)))
 have HA2 := J0.m (Qkj (lev + 1) ns dp ts.tail (N := 33554431) (by have := HSZ.o; omega))
 clear hi2 hg2
 have HMK := J0.m (Qe7 40 HG.o HI2.o)
 go_wp2_with fail
 refine HMK.o.mono ?_
 rintro e w3 ⟨⟨tq, rfl⟩, hi, hv⟩
 have HI3 := J0.m hi
 have HV3 := J0.m (HV2.o.trans hv)
 have HA3 := J0.m (Qcw HA2.o 40)
 clear hi hv HMK
 have HXP := J0.m (Qf4 HE.o HG.o HI3.o (fun p e => HFL.o p (by rw [e]; rfl)))
 go_wp2_with fail
 refine HXP.o.mono ?_
 rintro e w4 ⟨rfl, vn4, vd4, hi, hv⟩
 have HI4 := J0.m hi
 have HV4 := J0.m (HV3.o.trans hv)
 have HA4 := J0.m (Qgu (m := m) (f := .expr) HA3.o rfl)
 clear hi hv HXP
 have HMK := J0.m (Qe7 41 HG.o HI4.o)
 go_wp2_with fail
 refine HMK.o.mono ?_
 rintro e w5 ⟨⟨tq, rfl⟩, hi, hv⟩
 have HI5 := J0.m hi
 have HV5 := J0.m (HV4.o.trans hv)
 have HA5 := J0.m (Qcw HA4.o 41)
 clear hi hv HMK
 obtain ⟨y0, y1, y2, y3, y4⟩ := Qbi (t := ⟨1, ⟨#[104, 101, 120]⟩, nm, p, en⟩) (HIM.o.Qbv HV5.o HXM.o)
 rw [HB.o] at y0 y1 y2 y3 y4
 obtain ⟨Wn, hWn⟩ : ∃ Wn, Wn = w5.alloc (.cells #[.int .i64 12, .int .i64 0, .int .u64 0, .string ⟨#[]⟩, .int .i64 p] 49) := ⟨_, rfl⟩
 have hBn : Below w5.heap.size w5 Wn := by rw [hWn]; exact Qab (Below.refl _ _) _
 have hXn : Wn.heap[w5.heap.size]? = some (.cells #[.int .i64 12, .int .i64 0, .int .u64 0, .string ⟨#[]⟩, .int .i64 p] 49 (0, 0)) := by rw [hWn]; exact Qay _ _
 have HIn := J0.m (HI5.o.below hBn)
 have HVn := J0.m (HV5.o.below hBn (by have := HI5.o.glt; omega))
 obtain ⟨k0, k1, k2, k3, k4⟩ := Qdt (n := ⟨12, 0, 0, ⟨#[]⟩, p⟩) hXn
 have HPT := J0.m (gput (P.node 12 p) HIn.o HA5.o (by omega))
 have HWn := J0.m hWn
 rw [hWn] at k0 k1 k2 k3 k4
 clear hWn hBn hXn
 go_wp2_with fail
 rw [← HWn.o]
 refine HPT.o.mono ?_
 rintro e wp ⟨rfl, vnp, vdp, hip, hvp⟩
 have HVp := J0.m (HVn.o.trans hvp)
 obtain ⟨lv, l4, f4, hid, hvd⟩ := Qfb hip (Qin HA5.o (P.node 12 p)) (by omega)
 have HID := J0.m hid
 have HVD := J0.m (HVp.o.trans hvd)
 clear hip hvp hid hvd
 go_wp2
 go_end0
 refine ⟨rfl, vnp, vdp, ?_, HVM.o.trans HVD.o⟩
 rw [← HLAW.o]
 exact HID.o
theorem Qni (m : Nat) (HE : CT m .expr 49) (w : World) (A : Option Addr) (c : Nat) (L : List Tk) (g : Nat) (vn vd : Value) (ts : List Tk) (lev : Nat) (ns : List Nd) (dp : List Int) (nm p en : Int) (hG : Good L) (h : Is w A c L g vn vd (.ok ts lev ns dp)) (ht : hd ts = ⟨1, ⟨#[114, 101, 112]⟩, nm, p, en⟩) (hlv : lev < 100) (hf : ∀ pl, ((Qar 40 ts.tail).bind fun _ r => (P.X m .expr (lev + 1) r).bind fun a r => (Qar 44 r).bind fun _ r => (P.X m .expr (lev + 1) r).bind fun b r => (Qar 41 r).bind fun _ r => comb (P.node 10 p) [a, b] r) ≠ .bad 0 pl) :
  Calls Try.prog 93 #[.pointer (some ⟨g, 0, none⟩), .agg #[.int .i64 1, .string ⟨#[114, 101, 112]⟩, .int .u64 nm, .int .i64 p, .int .i64 en]] w fun e w' => e = .returned (.tuple #[]) ∧ Ends w A c L g vn vd (outS lev ns dp ((Qar 40 ts.tail).bind fun _ r => (P.X m .expr (lev + 1) r).bind fun a r => (Qar 44 r).bind fun _ r => (P.X m .expr (lev + 1) r).bind fun b r => (Qar 41 r).bind fun _ r => comb (P.node 10 p) [a, b] r)) w' := by
 have hk : (hd ts).f0 ≠ 0 := by rw [ht]; exact (by decide : (1 : Int) ≠ 0)
 have hl := P.Qc7 hk
 have HSZ : J0 (ns.length + 1 + ts.tail.length ≤ 33554432) := ⟨by obtain ⟨q, _, _, _, h4⟩ := h; have := h4.sz; omega⟩
 obtain ⟨W, hW⟩ : ∃ W, W = w.alloc (.cells #[.int .i64 1, .string ⟨#[114, 101, 112]⟩, .int .u64 nm, .int .i64 p, .int .i64 en] 47) := ⟨_, rfl⟩
 have hB : Below w.heap.size w W := by rw [hW]; exact Qab (Below.refl _ _) _
 have hX : W.heap[w.heap.size]? = some (.cells #[.int .i64 1, .string ⟨#[114, 101, 112]⟩, .int .u64 nm, .int .i64 p, .int .i64 en] 47 (0, 0)) := by rw [hW]; exact Qay _ _
 obtain ⟨b, hb⟩ : ∃ b, b = w.heap.size := ⟨_, rfl⟩
 rw [← hb] at hX
 have HI := J0.m (h.below hB)
 have HV := J0.m ((Hv.refl (vn := vn) (vd := vd) (by have := h.glt; omega) : Hv w w g vn vd vn vd).below hB (by have := h.glt; omega))
 obtain ⟨z0, z1, z2, z3, z4⟩ := Qbi (t := ⟨1, ⟨#[114, 101, 112]⟩, nm, p, en⟩) hX
 have HX := J0.m hX
 have HW := J0.m hW
 have HB := J0.m hb
 have HT := J0.m ht
 have HK := J0.m hk
 have HG := J0.m hG
 obtain ⟨M1, M2, M3, M4, u1, u2, u3, u4, u5, hM⟩ := Qd1 W ⟨#[114, 101, 112]⟩
 have hop : opOf ⟨#[114, 101, 112]⟩ = 10 := by kernel_rfl
 rw [hop] at u5
 have HIM := J0.m (HI.o.below hM)
 have HVM := J0.m (HV.o.below hM (by have := h.glt; have := hB.size; omega))
 have hx4 := Qae HX.o hM
 have HXM := J0.m hx4
 obtain ⟨x0, x1, x2, x3, x4⟩ := Qbi (t := ⟨1, ⟨#[114, 101, 112]⟩, nm, p, en⟩) hx4
 have hmm := @run_makeMap Try.prog
 have hsz : W.heap.size = w.heap.size + 1 := by rw [hW]; exact Array.size_push _
 rw [hsz] at u1 u2 u3 u4 u5
 rw [hW] at u1
 rw [hb] at x0 x1 x2 x3 x4
 rw [hW, hb] at z0 z1 z2 z3 z4
 have hos : Qdu ⟨1, ⟨#[114, 101, 112]⟩, nm, p, en⟩ (.ok ts lev ns dp) = .ok ts (lev + 1) ns dp := by unfold Qdu; simp only [if_neg (by omega : ¬ 100 ≤ lev)]
 have hod : decide (lev < 100) = true := decide_eq_true (by omega)
 have HOP := J0.m (Qcj M4 A c L g vn vd ts lev ns dp ⟨1, ⟨#[114, 101, 112]⟩, nm, p, en⟩ HIM.o)
 rw [hos, hod] at HOP
 have HFL : J0 (∀ pl, (puG (P.node 10 p) 2 ((goS m .expr ((goS m .expr ((stS (lev + 1) ns dp [] ts.tail).step (Qar 40))).step (Qar 44))).step (Qar 41))).down ≠ .bad 0 pl) := ⟨fun pl e => by
  rw [Qmw] at e
  cases hr : ((Qar 40 ts.tail).bind fun _ r => (P.X m .expr (lev + 1) r).bind fun a r => (Qar 44 r).bind fun _ r => (P.X m .expr (lev + 1) r).bind fun b r => (Qar 41 r).bind fun _ r => comb (P.node 10 p) [a, b] r) with
  | ok a r => rw [hr] at e; cases e
  | bad e0 p0 =>
   rw [hr] at e
   injection e with e1 e2
   subst e1
   exact hf _ hr⟩
 have HLAW := J0.m (Qmw m lev ns dp ts.tail (P.node 10 p))
 have HE := J0.m HE
 clear h hk hl hX hW hb hB ht hG hM hx4 hsz hop hos hod hlv hf
 go_enter Try.func93, Try.ntmps93
 go_wp2_with fail
 refine HOP.o.mono ?_
 rintro e w1 ⟨rfl, hi1, hg1⟩
 have HI1 := J0.m hi1
 have HV1 := J0.m (show Hv M4 w1 g vn vd vn vd from Hv.Qa6 hg1 (by have := HIM.o.glt; omega))
 have HTK := J0.m (Qb9 w1 A c L g vn vd ts (lev + 1) ns dp true HG.o (fun _ => HK.o) HI1.o)
 clear hi1 hg1
 go_wp2_with fail
 refine HTK.o.mono ?_
 rintro e w2 ⟨rfl, hi2, hg2⟩
 unfold tokV
 have HI2 := J0.m (show Is w2 A c L g vn vd (stS (lev + 1) ns dp [] ts.tail) from by rw [Qek]; exact hi2)
 have HV2 := J0.m (HV1.o.trans (Hv.Qa6 hg2 (by have := HI1.o.glt; omega)))
 have HA2 := J0.m (Qkj (lev + 1) ns dp ts.tail (N := 33554431) (by have := HSZ.o; omega))
 clear hi2 hg2
 have HMK := J0.m (Qe7 40 HG.o HI2.o)
 go_wp2_with fail
 refine HMK.o.mono ?_
 rintro e w3 ⟨⟨tq, rfl⟩, hi, hv⟩
 have HI3 := J0.m hi
 have HV3 := J0.m (HV2.o.trans hv)
 have HA3 := J0.m (Qcw HA2.o 40)
 clear hi hv HMK
 have HXP := J0.m (Qf4 HE.o HG.o HI3.o (fun p e => HFL.o p (by rw [e]; rfl)))
 go_wp2_with fail
 refine HXP.o.mono ?_
 rintro e w4 ⟨rfl, vn4, vd4, hi, hv⟩
 have HI4 := J0.m hi
 have HV4 := J0.m (HV3.o.trans hv)
 have HA4 := J0.m (Qgu (m := m) (f := .expr) HA3.o rfl)
 clear hi hv HXP
 have HMK := J0.m (Qe7 44 HG.o HI4.o)
 go_wp2_with fail
 refine HMK.o.mono ?_
 rintro e w5 ⟨⟨tq, rfl⟩, hi, hv⟩
 have HI5 := J0.m hi
 have HV5 := J0.m (HV4.o.trans hv)
 have HA5 := J0.m (Qcw HA4.o 44)
 clear hi hv HMK
 have HXP := J0.m (Qf4 HE.o HG.o HI5.o (fun p e => HFL.o p (by rw [e]; rfl)))
 go_wp2_with fail
 refine HXP.o.mono ?_
 rintro e w6 ⟨rfl, vn6, vd6, hi, hv⟩
 have HI6 := J0.m hi
 have HV6 := J0.m (HV5.o.trans hv)
 have HA6 := J0.m (Qgu (m := m) (f := .expr) HA5.o rfl)
 clear hi hv HXP
 have HMK := J0.m (Qe7 41 HG.o HI6.o)
 go_wp2_with fail
 refine HMK.o.mono ?_
 rintro e w7 ⟨⟨tq, rfl⟩, hi, hv⟩
 have HI7 := J0.m hi
 have HV7 := J0.m (HV6.o.trans hv)
 have HA7 := J0.m (Qcw HA6.o 41)
 clear hi hv HMK
 obtain ⟨y0, y1, y2, y3, y4⟩ := Qbi (t := ⟨1, ⟨#[114, 101, 112]⟩, nm, p, en⟩) (HIM.o.Qbv HV7.o HXM.o)
 rw [HB.o] at y0 y1 y2 y3 y4
 obtain ⟨Wn, hWn⟩ : ∃ Wn, Wn = w7.alloc (.cells #[.int .i64 10, .int .i64 0, .int .u64 0, .string ⟨#[]⟩, .int .i64 p] 49) := ⟨_, rfl⟩
 have hBn : Below w7.heap.size w7 Wn := by rw [hWn]; exact Qab (Below.refl _ _) _
 have hXn : Wn.heap[w7.heap.size]? = some (.cells #[.int .i64 10, .int .i64 0, .int .u64 0, .string ⟨#[]⟩, .int .i64 p] 49 (0, 0)) := by rw [hWn]; exact Qay _ _
 have HIn := J0.m (HI7.o.below hBn)
 have HVn := J0.m (HV7.o.below hBn (by have := HI7.o.glt; omega))
 obtain ⟨k0, k1, k2, k3, k4⟩ := Qdt (n := ⟨10, 0, 0, ⟨#[]⟩, p⟩) hXn
 have HPT := J0.m (gput (P.node 10 p) HIn.o HA7.o (by omega))
 have HWn := J0.m hWn
 rw [hWn] at k0 k1 k2 k3 k4
 clear hWn hBn hXn
 go_wp2_with fail
 rw [← HWn.o]
 refine HPT.o.mono ?_
 rintro e wp ⟨rfl, vnp, vdp, hip, hvp⟩
 have HVp := J0.m (HVn.o.trans hvp)
 obtain ⟨lv, l4, f4, hid, hvd⟩ := Qfb hip (Qin HA7.o (P.node 10 p)) (by omega)
 have HID := J0.m hid
 have HVD := J0.m (HVp.o.trans hvd)
 clear hip hvp hid hvd
 go_wp2
 go_end0
 refine ⟨rfl, vnp, vdp, ?_, HVM.o.trans HVD.o⟩
 rw [← HLAW.o]
 exact HID.o
def CatR (final : Res EO) (t : Tk) (lev : Nat) (ns : List Nd) (dp : List Int) (k j : Nat) (s : Sg) : Prop :=
 s.At 33554431 j (lev + 1) ∧ ((∃ e p, s = .bad e p ∧ final = .bad e p) ∨ ∃ l r, s = stS (lev + 1) ns dp l r ∧ P.X k (.args t l) (lev + 1) r = final ∧ l.length = j)
theorem Qn9 {final : Res EO} {t : Tk} {lev : Nat} {ns : List Nd} {dp : List Int} {k j : Nat} {s : Sg} (h : CatR final t lev ns dp k j s) (hf : ∀ p, final ≠ .bad 0 p) (hi : s.is 4 ⟨#[44]⟩ = false) :
  (puG ⟨9, (j : Int), 0, ⟨#[]⟩, t.f3⟩ j (s.step (Qar 41))).down = outS lev ns dp final := by
 obtain ⟨_, h⟩ := h
 rcases h with ⟨e, p, rfl, rfl⟩ | ⟨l, r, rfl, hx, rfl⟩
 ·rfl
 ·cases k with
  | zero => exact absurd hx.symm (hf 0)
  | succ k =>
   rw [P.X, if_neg (by rw [show isM 44 r = false from hi]; decide)] at hx
   rw [← hx, Qfg]
   cases Qar 41 r with
   | bad e p => rfl
   | ok _ r => simp only [Res.bind]; rw [Qha (kids := l) (k := l.length) (hk := rfl), Qhg]
theorem Ql5 {final : Res EO} {t : Tk} {lev : Nat} {ns : List Nd} {dp : List Int} {k j : Nat} {s : Sg} (h : CatR final t lev ns dp k j s) (hf : ∀ p, final ≠ .bad 0 p) (hi : s.is 4 ⟨#[44]⟩ = true) :
  ∃ k', k = k' + 1 ∧ (∀ p, goS k' .expr (s.step (Qar 44)) ≠ .bad 0 p) ∧ CatR final t lev ns dp k' (j + 1) (goS k' .expr (s.step (Qar 44))) := by
 obtain ⟨ha, h⟩ := h
 rcases h with ⟨e, p, rfl, rfl⟩ | ⟨l, r, rfl, hx, rfl⟩
 ·cases hi
 ·cases k with
  | zero => exact absurd hx.symm (hf 0)
  | succ k =>
   have hm : isM 44 r = true := hi
   rw [P.X, if_pos hm] at hx
   have hs : (stS (lev + 1) ns dp l r).step (Qar 44) = stS (lev + 1) ns dp l r.tail := by
    rw [Qfg]; unfold Qar P.want; rw [hm]; rfl
   have hr : CatR final t lev ns dp k (l.length + 1) (goS k .expr ((stS (lev + 1) ns dp l r).step (Qar 44))) := by
    refine ⟨At.mono (Qgu (f := .expr) (Qcw (N := 33554430) ha 44) rfl) (by omega), ?_⟩
    rw [hs, Qk5]
    cases hq : P.X k .expr (lev + 1) r.tail with
    | bad e p => rw [hq] at hx; exact .inl ⟨e, p, rfl, hx.symm⟩
    | ok b r' => rw [hq] at hx; exact .inr ⟨l ++ [b], r', rfl, hx, by simp⟩
   refine ⟨k, rfl, fun p e => ?_, hr⟩
   rw [e] at hr
   obtain ⟨_, hr⟩ := hr
   rcases hr with ⟨e', p', h1, h2⟩ | ⟨l', r', h1, _, _⟩
   ·cases h1; exact hf _ h2
   ·cases h1
theorem Qka {final : Res EO} {t : Tk} {lev : Nat} {ns : List Nd} {dp : List Int} {m : Nat} {r : List Tk} (hz : ns.length + r.length ≤ 33554431) (hx : (Qar 40 r).bind (fun _ r => (P.X m .expr (lev + 1) r).bind fun a r => P.X m (.args t [a]) (lev + 1) r) = final) :
  CatR final t lev ns dp m 1 (goS m .expr ((stS (lev + 1) ns dp [] r).step (Qar 40))) := by
 refine ⟨At.mono (Qgu (f := .expr) (Qcw (N := 33554430) (Qkj (lev + 1) ns dp r (by omega)) 40) rfl) (by omega), ?_⟩
 rw [Qfg]
 cases hq : Qar 40 r with
 | bad e p => rw [hq] at hx; exact .inl ⟨e, p, rfl, hx.symm⟩
 | ok _ r1 =>
  rw [hq] at hx
  simp only [Res.bind] at hx
  simp only [Qk5]
  cases hy : P.X m .expr (lev + 1) r1 with
  | bad e p => rw [hy] at hx; exact .inl ⟨e, p, rfl, hx.symm⟩
  | ok a r2 => rw [hy] at hx; exact .inr ⟨[a], r2, rfl, hx, rfl⟩
def CatM (final : Res EO) (t : Tk) (w : World) (A : Option Addr) (c : Nat) (L : List Tk) (g : Nat) (vn vd : Value) (lev : Nat) (ns : List Nd) (dp : List Int) (k j : Nat) (wr : World) : Prop :=
 ∃ vn1 vd1 s, Hv w wr g vn vd vn1 vd1 ∧ Is wr A c L g vn1 vd1 s ∧ CatR final t lev ns dp k j s
theorem Is.cnt {w : World} {A : Option Addr} {c : Nat} {L : List Tk} {g : Nat} {vn vd : Value} {s : Sg} {N j l : Nat} (h : Is w A c L g vn vd s) (ha : s.At N j l) (hi : s.is 4 ⟨#[44]⟩ = true) : j ≤ 33554432 := by
 cases s with
 | bad e p => cases hi
 | ok ts lev ns dp =>
  obtain ⟨q, _, _, _, h4⟩ := h
  have := (ha _ _ _ _ rfl).2.1
  have := h4.dl
  have := h4.sz
  omega
theorem Qnl (m : Nat) (HE : ∀ m', m' ≤ m → CT m' .expr 49) (w : World) (A : Option Addr) (c : Nat) (L : List Tk) (g : Nat) (vn vd : Value) (ts : List Tk) (lev : Nat) (ns : List Nd) (dp : List Int) (nm p en : Int) (hG : Good L) (h : Is w A c L g vn vd (.ok ts lev ns dp)) (ht : hd ts = ⟨1, ⟨#[99, 97, 116]⟩, nm, p, en⟩) (hlv : lev < 100) (hf : ∀ pl, ((Qar 40 ts.tail).bind fun _ r => (P.X m .expr (lev + 1) r).bind fun a r => P.X m (.args ⟨1, ⟨#[99, 97, 116]⟩, nm, p, en⟩ [a]) (lev + 1) r) ≠ .bad 0 pl) :
  Calls Try.prog 93 #[.pointer (some ⟨g, 0, none⟩), .agg #[.int .i64 1, .string ⟨#[99, 97, 116]⟩, .int .u64 nm, .int .i64 p, .int .i64 en]] w fun e w' => e = .returned (.tuple #[]) ∧ Ends w A c L g vn vd (outS lev ns dp ((Qar 40 ts.tail).bind fun _ r => (P.X m .expr (lev + 1) r).bind fun a r => P.X m (.args ⟨1, ⟨#[99, 97, 116]⟩, nm, p, en⟩ [a]) (lev + 1) r)) w' := by
 have hk : (hd ts).f0 ≠ 0 := by rw [ht]; exact (by decide : (1 : Int) ≠ 0)
 have hl := P.Qc7 hk
 have HSZ : J0 (ns.length + 1 + ts.tail.length ≤ 33554432) := ⟨by obtain ⟨q, _, _, _, h4⟩ := h; have := h4.sz; omega⟩
 obtain ⟨W, hW⟩ : ∃ W, W = w.alloc (.cells #[.int .i64 1, .string ⟨#[99, 97, 116]⟩, .int .u64 nm, .int .i64 p, .int .i64 en] 47) := ⟨_, rfl⟩
 have hB : Below w.heap.size w W := by rw [hW]; exact Qab (Below.refl _ _) _
 have hX : W.heap[w.heap.size]? = some (.cells #[.int .i64 1, .string ⟨#[99, 97, 116]⟩, .int .u64 nm, .int .i64 p, .int .i64 en] 47 (0, 0)) := by rw [hW]; exact Qay _ _
 obtain ⟨b, hb⟩ : ∃ b, b = w.heap.size := ⟨_, rfl⟩
 rw [← hb] at hX
 have HI := J0.m (h.below hB)
 have HV := J0.m ((Hv.refl (vn := vn) (vd := vd) (by have := h.glt; omega) : Hv w w g vn vd vn vd).below hB (by have := h.glt; omega))
 obtain ⟨z0, z1, z2, z3, z4⟩ := Qbi (t := ⟨1, ⟨#[99, 97, 116]⟩, nm, p, en⟩) hX
 have HX := J0.m hX
 have HW := J0.m hW
 have HB := J0.m hb
 have HT := J0.m ht
 have HK := J0.m hk
 have HG := J0.m hG
 obtain ⟨M1, M2, M3, M4, u1, u2, u3, u4, u5, hM⟩ := Qd1 W ⟨#[99, 97, 116]⟩
 have hop : opOf ⟨#[99, 97, 116]⟩ = 9 := by kernel_rfl
 rw [hop] at u5
 have HIM := J0.m (HI.o.below hM)
 have HVM := J0.m (HV.o.below hM (by have := h.glt; have := hB.size; omega))
 have hx4 := Qae HX.o hM
 have HXM := J0.m hx4
 obtain ⟨x0, x1, x2, x3, x4⟩ := Qbi (t := ⟨1, ⟨#[99, 97, 116]⟩, nm, p, en⟩) hx4
 have hmm := @run_makeMap Try.prog
 have hsz : W.heap.size = w.heap.size + 1 := by rw [hW]; exact Array.size_push _
 rw [hsz] at u1 u2 u3 u4 u5
 rw [hW] at u1
 rw [hb] at x0 x1 x2 x3 x4
 rw [hW, hb] at z0 z1 z2 z3 z4
 have hos : Qdu ⟨1, ⟨#[99, 97, 116]⟩, nm, p, en⟩ (.ok ts lev ns dp) = .ok ts (lev + 1) ns dp := by unfold Qdu; simp only [if_neg (by omega : ¬ 100 ≤ lev)]
 have hod : decide (lev < 100) = true := decide_eq_true (by omega)
 have HOP := J0.m (Qcj M4 A c L g vn vd ts lev ns dp ⟨1, ⟨#[99, 97, 116]⟩, nm, p, en⟩ HIM.o)
 rw [hos, hod] at HOP
 obtain ⟨final, hfin⟩ : ∃ final, final = ((Qar 40 ts.tail).bind fun _ r => (P.X m .expr (lev + 1) r).bind fun a r => P.X m (.args ⟨1, ⟨#[99, 97, 116]⟩, nm, p, en⟩ [a]) (lev + 1) r) := ⟨_, rfl⟩
 have HCF := J0.m (Qka (t := ⟨1, ⟨#[99, 97, 116]⟩, nm, p, en⟩) (lev := lev) (ns := ns) (dp := dp) (by have := HSZ.o; omega) hfin.symm)
 rw [← hfin] at hf ⊢
 have HFI := J0.m hf
 have HFL : J0 (∀ pl, goS m .expr ((stS (lev + 1) ns dp [] ts.tail).step (Qar 40)) ≠ .bad 0 pl) := ⟨fun pl e => by
  have h := HCF.o
  rw [e] at h
  obtain ⟨_, h⟩ := h
  rcases h with ⟨e', p', h1, h2⟩ | ⟨l', r', h1, _, _⟩
  ·cases h1; exact hf _ h2
  ·cases h1⟩
 have HE := J0.m HE
 clear h hk hl hX hW hb hB ht hG hM hx4 hsz hop hos hod hlv hf hfin
 go_enter Try.func93, Try.ntmps93
 go_wp2_with fail
 refine HOP.o.mono ?_
 rintro e w1 ⟨rfl, hi1, hg1⟩
 have HI1 := J0.m hi1
 have HV1 := J0.m (show Hv M4 w1 g vn vd vn vd from Hv.Qa6 hg1 (by have := HIM.o.glt; omega))
 have HTK := J0.m (Qb9 w1 A c L g vn vd ts (lev + 1) ns dp true HG.o (fun _ => HK.o) HI1.o)
 clear hi1 hg1
 go_wp2_with fail
 refine HTK.o.mono ?_
 rintro e w2 ⟨rfl, hi2, hg2⟩
 unfold tokV
 have HI2 := J0.m (show Is w2 A c L g vn vd (stS (lev + 1) ns dp [] ts.tail) from by rw [Qek]; exact hi2)
 have HV2 := J0.m (HV1.o.trans (Hv.Qa6 hg2 (by have := HI1.o.glt; omega)))
 clear hi2 hg2
 have HMK := J0.m (Qe7 40 HG.o HI2.o)
 go_wp2_with fail
 refine HMK.o.mono ?_
 rintro e w3 ⟨⟨tq, rfl⟩, hi, hv⟩
 have HI3 := J0.m hi
 have HV3 := J0.m (HV2.o.trans hv)
 clear hi hv HMK
 have HXP := J0.m (Qf4 (HE.o m (Nat.le_refl _)) HG.o HI3.o HFL.o)
 go_wp2_with fail
 refine HXP.o.mono ?_
 rintro e w4 ⟨rfl, vn4, vd4, hi, hv⟩
 have HLP : J0 (CatM final ⟨1, ⟨#[99, 97, 116]⟩, nm, p, en⟩ M4 A c L g vn vd lev ns dp m 1 w4) := ⟨vn4, vd4, _, HV3.o.trans hv, hi, HCF.o⟩
 clear hi hv HXP
 go_wp2_with fail
 go_loopg [5] m (fun k s5 wr => ∃ j : Nat, s5 = .int .i64 (j : Int) ∧ j ≤ 33554433 ∧ J0 (CatM final ⟨1, ⟨#[99, 97, 116]⟩, nm, p, en⟩ M4 A c L g vn vd lev ns dp k j wr) ∧ J0 (k ≤ m))
 case atStart => exact ⟨1, rfl, by omega, HLP, ⟨Nat.le_refl _⟩⟩
 case round =>
  obtain ⟨j, rfl, hj, ⟨vn5, vd5, s, hv, hi, hc⟩, hk⟩ := hrel
  have HI := J0.m hi
  have HV := J0.m hv
  have HC := J0.m hc
  have HIS := J0.m (Qaz wr A c L g vn5 vd5 s 4 ⟨#[44]⟩ hi)
  clear hi hv hc
  cases hb : s.is 4 ⟨#[44]⟩ with
  | true =>
   obtain ⟨k', rfl, hnz, hcr⟩ := Ql5 HC.o HFI.o hb
   have hj2 : j ≤ 33554432 := HI.o.cnt HC.o.1 hb
   have hnx : wrap64 ((j : Int) + 1) = ((j + 1 : Nat) : Int) := by unfold wrap64; omega
   have HCR := J0.m hcr
   have HNZ := J0.m hnz
   have HNX := J0.m hnx
   rw [hb] at HIS
   clear hnz hcr hb hnx
   go_wp2_with fail
   refine HIS.o.mono ?_
   rintro e w6 ⟨rfl, hb6⟩
   have HI6 := J0.m (HI.o.below hb6)
   have HV6 := J0.m (HV.o.below hb6 (by have := HI.o.glt; omega))
   have HMK := J0.m (Qe7 44 HG.o HI6.o)
   clear hb6
   go_wp2_with fail
   refine HMK.o.mono ?_
   rintro e w7 ⟨⟨tq2, rfl⟩, hi, hv⟩
   have HI7 := J0.m hi
   have HV7 := J0.m (HV6.o.trans hv)
   clear hi hv HMK
   have HXP := J0.m (Qf4 (HE.o k' (by have := hk.o; omega)) HG.o HI7.o HNZ.o)
   go_wp2_with fail
   refine HXP.o.mono ?_
   rintro e w8 ⟨rfl, vn8, vd8, hi, hv⟩
   have HI8 := J0.m hi
   have HV8 := J0.m (HV7.o.trans hv)
   clear hi hv HXP
   go_wp2
   go_roundg k'
   case measure => omega
   case rel => exact ⟨j + 1, by first | rfl | exact congrArg (Value.int .i64) (by omega), by omega, ⟨vn8, vd8, _, HV8.o, HI8.o, HCR.o⟩, ⟨by have := hk.o; omega⟩⟩
  | false =>
   have HEND := J0.m (Qn9 HC.o HFI.o hb)
   have HA := J0.m (Qcw (N := 33554430) HC.o.1 41)
   rw [hb] at HIS
   clear hb
   go_wp2_with fail
   refine HIS.o.mono ?_
   rintro e w6 ⟨rfl, hb6⟩
   have HI6 := J0.m (HI.o.below hb6)
   have HV6 := J0.m (HV.o.below hb6 (by have := HI.o.glt; omega))
   have HMK := J0.m (Qe7 41 HG.o HI6.o)
   clear hb6
   go_wp2_with fail
   refine HMK.o.mono ?_
   rintro e w7 ⟨⟨tq2, rfl⟩, hi, hv⟩
   have HI7 := J0.m hi
   have HV7 := J0.m (HV6.o.trans hv)
   clear hi hv HMK
   obtain ⟨y0, y1, y2, y3, y4⟩ := Qbi (t := ⟨1, ⟨#[99, 97, 116]⟩, nm, p, en⟩) (HIM.o.Qbv HV7.o HXM.o)
   rw [HB.o] at y0 y1 y2 y3 y4
   obtain ⟨Wn, hWn⟩ : ∃ Wn, Wn = w7.alloc (.cells #[.int .i64 9, .int .i64 (j : Int), .int .u64 0, .string ⟨#[]⟩, .int .i64 p] 49) := ⟨_, rfl⟩
   obtain ⟨bn, hbn⟩ : ∃ bn, bn = w7.heap.size := ⟨_, rfl⟩
   have hBn : Below w7.heap.size w7 Wn := by rw [hWn]; exact Qab (Below.refl _ _) _
   have hXn : Wn.heap[bn]? = some (.cells #[.int .i64 9, .int .i64 (j : Int), .int .u64 0, .string ⟨#[]⟩, .int .i64 p] 49 (0, 0)) := by rw [hWn, hbn]; exact Qay _ _
   have HIn := J0.m (HI7.o.below hBn)
   have HVn := J0.m (HV7.o.below hBn (by have := HI7.o.glt; omega))
   obtain ⟨k0, k1, k2, k3, k4⟩ := Qdt (n := ⟨9, (j : Int), 0, ⟨#[]⟩, p⟩) hXn
   have HPT := J0.m (gput ⟨9, (j : Int), 0, ⟨#[]⟩, p⟩ HIn.o HA.o (by omega))
   have HWn := J0.m hWn
   have HBN := J0.m hbn
   rw [hWn] at k0 k1 k2 k3 k4
   rw [hbn] at k0 k1 k2 k3 k4
   clear hWn hBn hXn hbn
   go_wp2_with fail
   rw [← HWn.o]
   refine HPT.o.mono ?_
   rintro e wp ⟨rfl, vnp, vdp, hip, hvp⟩
   have HVp := J0.m (HVn.o.trans hvp)
   obtain ⟨lv, l4, f4, hid, hvd⟩ := Qfb hip (Qin HA.o ⟨9, (j : Int), 0, ⟨#[]⟩, p⟩) (by omega)
   have HID := J0.m hid
   have HVD := J0.m (HVp.o.trans hvd)
   clear hip hvp hid hvd
   go_wp2
   go_end0
   refine ⟨rfl, vnp, vdp, ?_, HVM.o.trans HVD.o⟩
   rw [← HEND.o]
   exact HID.o
theorem Is.ok2 {w : World} {A : Option Addr} {c : Nat} {L : List Tk} {g : Nat} {vn vd : Value} {ts : List Tk} {lev : Nat} {ns : List Nd} {dp : List Int} (h : Is w A c L g vn vd (.ok ts lev ns dp)) : w.cell? ⟨g, 2, none⟩ = some (.int .i64 0) := by
 obtain ⟨q, h1, _, h3, _⟩ := h
 rw [← h1]; exact h3.p.c2
theorem Qc6 (w : World) (A : Option Addr) (c : Nat) (L : List Tk) (g : Nat) (vn vd : Value) (ts : List Tk) (lev : Nat) (ns : List Nd) (dp : List Int) (h : Is w A c L g vn vd (.ok ts lev ns dp)) :
  Calls Try.prog 32 #[.pointer (some ⟨g, 0, none⟩)] w fun e w' => e = .returned (.agg #[.int .i64 (hd ts).f0, .string (hd ts).f1, .int .u64 (hd ts).f2, .int .i64 (hd ts).f3, .int .i64 (hd ts).f4]) ∧ Below w.heap.size w w' := by
 obtain ⟨q, h1, rfl, h3, h4⟩ := h
 exact (Qeq w A c L g q _ _ _ h3.p).mono fun e w' ⟨he, hb⟩ => ⟨by rw [he, Qcg h3.p.lt], hb⟩
theorem Qng (m lev : Nat) (ns : List Nd) (dp : List Int) (r : List Tk) (n : Nd) : (puG n 1 (goS m .fac (stS (lev + 1) ns dp [] r))).down = outS lev ns dp ((P.X m .fac (lev + 1) r).bind fun a r => comb n [a] r) := by
 rw [Qk5]
 cases P.X m .fac (lev + 1) r with
 | bad e p => rfl
 | ok a r => simp only [Res.bind, List.nil_append]; rw [Qha (kids := [a]) (k := 1) (hk := rfl), Qhg]
theorem Qnb (m lev : Nat) (ns : List Nd) (dp : List Int) (r : List Tk) : ((goS m .expr (stS (lev + 1) ns dp [] r)).step (Qar 41)).down = outS lev ns dp ((P.X m .expr (lev + 1) r).bind fun a r => (Qar 41 r).bind fun _ r => .ok a r) := by
 rw [Qk5]
 cases P.X m .expr (lev + 1) r with
 | bad e p => rfl
 | ok a r =>
  simp only [Res.bind, List.nil_append, Qfg]
  cases Qar 41 r with
  | bad e p => rfl
  | ok _ r => unfold stS outS Sg.down; simp
theorem Qk7 (w : World) (A : Option Addr) (c : Nat) (L : List Tk) (g : Nat) (vn vd : Value) (ts : List Tk) (lev : Nat) (ns : List Nd) (dp : List Int) (s : ByteArray) (nm p en : Int) (hG : Good L) (h : Is w A c L g vn vd (.ok ts lev ns dp)) (ht : hd ts = ⟨2, s, nm, p, en⟩) :
  Calls Try.prog 86 #[.pointer (some ⟨g, 0, none⟩)] w fun e w' => e = .returned (.tuple #[]) ∧ Ends w A c L g vn vd (outS lev ns dp (comb ⟨1, 0, nm, ⟨#[]⟩, p⟩ [] ts.tail)) w' := by
 have HN := J0.m (Qc6 w A c L g vn vd ts lev ns dp h)
 rw [ht] at HN
 have HSZ : J0 (ns.length + ts.length ≤ 33554432) := ⟨by obtain ⟨q, _, _, _, h4⟩ := h; exact h4.sz⟩
 have HI := J0.m h
 have HT := J0.m ht
 have HG := J0.m hG
 have HK : J0 ((hd ts).f0 ≠ 0) := ⟨by rw [ht]; exact (by decide : (2 : Int) ≠ 0)⟩
 clear h ht hG
 go_enter Try.func86, Try.ntmps86
 go_wp2_with fail
 refine HN.o.mono ?_
 rintro e w0 ⟨rfl, hb0⟩
 obtain ⟨W, hW⟩ : ∃ W, W = w0.alloc (.cells #[.int .i64 2, .string s, .int .u64 nm, .int .i64 p, .int .i64 en] 47) := ⟨_, rfl⟩
 have hB : Below w.heap.size w W := by rw [hW]; exact Qab hb0 _
 have hX : W.heap[w0.heap.size]? = some (.cells #[.int .i64 2, .string s, .int .u64 nm, .int .i64 p, .int .i64 en] 47 (0, 0)) := by rw [hW]; exact Qay _ _
 obtain ⟨b, hb⟩ : ∃ b, b = w0.heap.size := ⟨_, rfl⟩
 rw [← hb] at hX
 have HI0 := J0.m (HI.o.below hB)
 have HV0 := J0.m ((Hv.refl (vn := vn) (vd := vd) (by have := HI.o.glt; omega) : Hv w w g vn vd vn vd).below hB (by have := HI.o.glt; omega))
 have y2 := HI0.o.ok2
 obtain ⟨z0, z1, z2, z3, z4⟩ := Qbi (t := ⟨2, s, nm, p, en⟩) hX
 have HX := J0.m hX
 have HW := J0.m hW
 have HB := J0.m hb
 rw [hW] at y2
 rw [hW, hb] at z0 z1 z2 z3 z4
 have HTK := J0.m (Qb9 W A c L g vn vd ts lev ns dp true HG.o (fun _ => HK.o) HI0.o)
 clear hW hB hX hb hb0
 go_wp2_with fail
 rw [← HW.o]
 refine HTK.o.mono ?_
 rintro e w1 ⟨rfl, hi1, hg1⟩
 unfold tokV
 have HI1 := J0.m (show Is w1 A c L g vn vd (stS lev ns dp [] ts.tail) from by rw [Qek]; exact hi1)
 have hv1 : Hv W w1 g vn vd vn vd := Hv.Qa6 hg1 (by have := HI0.o.glt; omega)
 have hx1 := HI0.o.Qbv hv1 HX.o
 have HV1 := J0.m (HV0.o.trans hv1)
 have HPT := J0.m (gput (k := 0) ⟨1, 0, nm, ⟨#[]⟩, p⟩ HI1.o (Qkj lev ns dp ts.tail (N := 33554431) (by have := HSZ.o; have := P.Qc7 HK.o; omega)) (by omega))
 obtain ⟨y0, y1, y2, y3, y4⟩ := Qbi (t := ⟨2, s, nm, p, en⟩) hx1
 rw [HB.o] at y0 y1 y2 y3 y4
 clear hi1 hg1 hv1 hx1
 go_wp2_with fail
 refine HPT.o.mono ?_
 rintro e w2 ⟨rfl, vn2, vd2, hi2, hv2⟩
 have HI2 := J0.m hi2
 have HV2 := J0.m (HV1.o.trans hv2)
 clear hi2 hv2
 go_wp2
 go_end0
 refine ⟨rfl, vn2, vd2, ?_, HV2.o⟩
 have := HI2.o
 rw [Qha (kids := []) (k := 0) (hk := rfl)] at this
 exact this
theorem Qjh (w : World) (A : Option Addr) (c : Nat) (L : List Tk) (g : Nat) (vn vd : Value) (ts : List Tk) (lev : Nat) (ns : List Nd) (dp : List Int) (s : ByteArray) (nm p en : Int) (hG : Good L) (h : Is w A c L g vn vd (.ok ts lev ns dp)) (ht : hd ts = ⟨3, s, nm, p, en⟩) :
  Calls Try.prog 86 #[.pointer (some ⟨g, 0, none⟩)] w fun e w' => e = .returned (.tuple #[]) ∧ Ends w A c L g vn vd (outS lev ns dp (comb ⟨2, 0, 0, s, p⟩ [] ts.tail)) w' := by
 have HN := J0.m (Qc6 w A c L g vn vd ts lev ns dp h)
 rw [ht] at HN
 have HSZ : J0 (ns.length + ts.length ≤ 33554432) := ⟨by obtain ⟨q, _, _, _, h4⟩ := h; exact h4.sz⟩
 have HI := J0.m h
 have HT := J0.m ht
 have HG := J0.m hG
 have HK : J0 ((hd ts).f0 ≠ 0) := ⟨by rw [ht]; exact (by decide : (3 : Int) ≠ 0)⟩
 clear h ht hG
 go_enter Try.func86, Try.ntmps86
 go_wp2_with fail
 refine HN.o.mono ?_
 rintro e w0 ⟨rfl, hb0⟩
 obtain ⟨W, hW⟩ : ∃ W, W = w0.alloc (.cells #[.int .i64 3, .string s, .int .u64 nm, .int .i64 p, .int .i64 en] 47) := ⟨_, rfl⟩
 have hB : Below w.heap.size w W := by rw [hW]; exact Qab hb0 _
 have hX : W.heap[w0.heap.size]? = some (.cells #[.int .i64 3, .string s, .int .u64 nm, .int .i64 p, .int .i64 en] 47 (0, 0)) := by rw [hW]; exact Qay _ _
 obtain ⟨b, hb⟩ : ∃ b, b = w0.heap.size := ⟨_, rfl⟩
 rw [← hb] at hX
 have HI0 := J0.m (HI.o.below hB)
 have HV0 := J0.m ((Hv.refl (vn := vn) (vd := vd) (by have := HI.o.glt; omega) : Hv w w g vn vd vn vd).below hB (by have := HI.o.glt; omega))
 have y2 := HI0.o.ok2
 obtain ⟨z0, z1, z2, z3, z4⟩ := Qbi (t := ⟨3, s, nm, p, en⟩) hX
 have HX := J0.m hX
 have HW := J0.m hW
 have HB := J0.m hb
 rw [hW] at y2
 rw [hW, hb] at z0 z1 z2 z3 z4
 have HTK := J0.m (Qb9 W A c L g vn vd ts lev ns dp true HG.o (fun _ => HK.o) HI0.o)
 clear hW hB hX hb hb0
 go_wp2_with fail
 rw [← HW.o]
 refine HTK.o.mono ?_
 rintro e w1 ⟨rfl, hi1, hg1⟩
 unfold tokV
 have HI1 := J0.m (show Is w1 A c L g vn vd (stS lev ns dp [] ts.tail) from by rw [Qek]; exact hi1)
 have hv1 : Hv W w1 g vn vd vn vd := Hv.Qa6 hg1 (by have := HI0.o.glt; omega)
 have hx1 := HI0.o.Qbv hv1 HX.o
 have HV1 := J0.m (HV0.o.trans hv1)
 have HPT := J0.m (gput (k := 0) ⟨2, 0, 0, s, p⟩ HI1.o (Qkj lev ns dp ts.tail (N := 33554431) (by have := HSZ.o; have := P.Qc7 HK.o; omega)) (by omega))
 obtain ⟨y0, y1, y2, y3, y4⟩ := Qbi (t := ⟨3, s, nm, p, en⟩) hx1
 rw [HB.o] at y0 y1 y2 y3 y4
 clear hi1 hg1 hv1 hx1
 go_wp2_with fail
 refine HPT.o.mono ?_
 rintro e w2 ⟨rfl, vn2, vd2, hi2, hv2⟩
 have HI2 := J0.m hi2
 have HV2 := J0.m (HV1.o.trans hv2)
 clear hi2 hv2
 go_wp2
 go_end0
 refine ⟨rfl, vn2, vd2, ?_, HV2.o⟩
 have := HI2.o
 rw [Qha (kids := []) (k := 0) (hk := rfl)] at this
 exact this
theorem Qhe (R : Sg) (w : World) (A : Option Addr) (c : Nat) (L : List Tk) (g : Nat) (vn vd : Value) (ts : List Tk) (lev : Nat) (ns : List Nd) (dp : List Int) (s : ByteArray) (nm p en : Int) (hG : Good L) (h : Is w A c L g vn vd (.ok ts lev ns dp)) (ht : hd ts = ⟨1, s, nm, p, en⟩) (HNM : ∀ w, Is w A c L g vn vd (.ok ts lev ns dp) → Calls Try.prog 93 #[.pointer (some ⟨g, 0, none⟩), .agg #[.int .i64 1, .string s, .int .u64 nm, .int .i64 p, .int .i64 en]] w fun e w' => e = .returned (.tuple #[]) ∧ Ends w A c L g vn vd R w') :
  Calls Try.prog 86 #[.pointer (some ⟨g, 0, none⟩)] w fun e w' => e = .returned (.tuple #[]) ∧ Ends w A c L g vn vd (R) w' := by
 have HN := J0.m (Qc6 w A c L g vn vd ts lev ns dp h)
 rw [ht] at HN
 have HSZ : J0 (ns.length + ts.length ≤ 33554432) := ⟨by obtain ⟨q, _, _, _, h4⟩ := h; exact h4.sz⟩
 have HI := J0.m h
 have HT := J0.m ht
 have HG := J0.m hG
 have HNM := J0.m HNM
 clear h ht hG
 go_enter Try.func86, Try.ntmps86
 go_wp2_with fail
 refine HN.o.mono ?_
 rintro e w0 ⟨rfl, hb0⟩
 obtain ⟨W, hW⟩ : ∃ W, W = w0.alloc (.cells #[.int .i64 1, .string s, .int .u64 nm, .int .i64 p, .int .i64 en] 47) := ⟨_, rfl⟩
 have hB : Below w.heap.size w W := by rw [hW]; exact Qab hb0 _
 have hX : W.heap[w0.heap.size]? = some (.cells #[.int .i64 1, .string s, .int .u64 nm, .int .i64 p, .int .i64 en] 47 (0, 0)) := by rw [hW]; exact Qay _ _
 obtain ⟨b, hb⟩ : ∃ b, b = w0.heap.size := ⟨_, rfl⟩
 rw [← hb] at hX
 have HI0 := J0.m (HI.o.below hB)
 have HV0 := J0.m ((Hv.refl (vn := vn) (vd := vd) (by have := HI.o.glt; omega) : Hv w w g vn vd vn vd).below hB (by have := HI.o.glt; omega))
 have y2 := HI0.o.ok2
 obtain ⟨z0, z1, z2, z3, z4⟩ := Qbi (t := ⟨1, s, nm, p, en⟩) hX
 have HX := J0.m hX
 have HW := J0.m hW
 have HB := J0.m hb
 rw [hW] at y2
 rw [hW, hb] at z0 z1 z2 z3 z4
 clear hW hB hX hb hb0
 go_wp2_with fail
 rw [← HW.o]
 refine (HNM.o W HI0.o).mono ?_
 rintro e w1 ⟨rfl, vn1, vd1, hi1, hv1⟩
 have HI1 := J0.m hi1
 have HV1 := J0.m (HV0.o.trans hv1)
 clear hi1 hv1
 go_wp2
 go_end0
 exact ⟨rfl, vn1, vd1, HI1.o, HV1.o⟩
theorem Qpk (w : World) (A : Option Addr) (c : Nat) (L : List Tk) (g : Nat) (vn vd : Value) (ts : List Tk) (lev : Nat) (ns : List Nd) (dp : List Int) (k : Int) (s : ByteArray) (nm p en : Int) (hG : Good L) (h : Is w A c L g vn vd (.ok ts lev ns dp)) (ht : hd ts = ⟨k, s, nm, p, en⟩) (k2 : k ≠ 2) (k3 : k ≠ 3) (k1 : k ≠ 1) (m45 : isM 45 ts = false) (m40 : isM 40 ts = false) :
  Calls Try.prog 86 #[.pointer (some ⟨g, 0, none⟩)] w fun e w' => e = .returned (.tuple #[]) ∧ Ends w A c L g vn vd (.bad 90 p) w' := by
 have HN := J0.m (Qc6 w A c L g vn vd ts lev ns dp h)
 rw [ht] at HN
 have HSZ : J0 (ns.length + ts.length ≤ 33554432) := ⟨by obtain ⟨q, _, _, _, h4⟩ := h; exact h4.sz⟩
 have HI := J0.m h
 have HT := J0.m ht
 have HG := J0.m hG
 have e2 : (k == 2) = false := beq_eq_false_iff_ne.2 k2
 have e3 : (k == 3) = false := beq_eq_false_iff_ne.2 k3
 have e1 : (k == 1) = false := beq_eq_false_iff_ne.2 k1
 have HM45 : J0 (Sg.is 4 ⟨#[45]⟩ (.ok ts lev ns dp) = false) := ⟨m45⟩
 have HM40 : J0 (Sg.is 4 ⟨#[40]⟩ (.ok ts lev ns dp) = false) := ⟨m40⟩
 clear h ht hG k2 k3 k1 m45 m40
 go_enter Try.func86, Try.ntmps86
 go_wp2_with fail
 refine HN.o.mono ?_
 rintro e w0 ⟨rfl, hb0⟩
 obtain ⟨W, hW⟩ : ∃ W, W = w0.alloc (.cells #[.int .i64 k, .string s, .int .u64 nm, .int .i64 p, .int .i64 en] 47) := ⟨_, rfl⟩
 have hB : Below w.heap.size w W := by rw [hW]; exact Qab hb0 _
 have hX : W.heap[w0.heap.size]? = some (.cells #[.int .i64 k, .string s, .int .u64 nm, .int .i64 p, .int .i64 en] 47 (0, 0)) := by rw [hW]; exact Qay _ _
 obtain ⟨b, hb⟩ : ∃ b, b = w0.heap.size := ⟨_, rfl⟩
 rw [← hb] at hX
 have HI0 := J0.m (HI.o.below hB)
 have HV0 := J0.m ((Hv.refl (vn := vn) (vd := vd) (by have := HI.o.glt; omega) : Hv w w g vn vd vn vd).below hB (by have := HI.o.glt; omega))
 have y2 := HI0.o.ok2
 obtain ⟨z0, z1, z2, z3, z4⟩ := Qbi (t := ⟨k, s, nm, p, en⟩) hX
 have HX := J0.m hX
 have HW := J0.m hW
 have HB := J0.m hb
 rw [hW] at y2
 rw [hW, hb] at z0 z1 z2 z3 z4
 clear hW hB hX hb hb0
 go_wp2_with fail
 rw [← HW.o]
 refine (Qaz W A c L g vn vd _ 4 ⟨#[45]⟩ HI0.o).mono ?_
 rw [HM45.o]
 rintro e w5 ⟨rfl, hb5⟩
 have HI5 := J0.m (HI0.o.below hb5)
 have HX5 := J0.m (Qae HX.o hb5)
 have HV5 := J0.m (HV0.o.below hb5 (by have := HI0.o.glt; omega))
 clear hb5
 go_wp2_with fail
 refine (Qaz w5 A c L g vn vd _ 4 ⟨#[40]⟩ HI5.o).mono ?_
 rw [HM40.o]
 rintro e w6 ⟨rfl, hb6⟩
 have HI6 := J0.m (HI5.o.below hb6)
 have HX6 := J0.m (Qae HX5.o hb6)
 have HV6 := J0.m (HV5.o.below hb6 (by have := HI5.o.glt; omega))
 clear hb6
 have HTK := J0.m (Qb9 w6 A c L g vn vd ts lev ns dp false HG.o (fun h => by cases h) HI6.o)
 go_wp2_with fail
 refine HTK.o.mono ?_
 rintro e w1 ⟨rfl, hi1, hg1⟩
 unfold tokV
 have HI1 := J0.m (show Is w1 A c L g vn vd (.bad 90 p) from by have := hi1; rw [show Sg.step (.ok ts lev ns dp) (P.want false) = .bad 90 (hd ts).f3 from rfl, HT.o] at this; exact this)
 have HV1 := J0.m (HV6.o.trans (Hv.Qa6 hg1 (by have := HI6.o.glt; omega)))
 clear hi1 hg1
 go_wp2
 go_end0
 exact ⟨rfl, vn, vd, HI1.o, HV1.o⟩
theorem Qj6 (w : World) (A : Option Addr) (c : Nat) (L : List Tk) (g : Nat) (vn vd : Value) (ts : List Tk) (lev : Nat) (ns : List Nd) (dp : List Int) (k : Int) (s : ByteArray) (nm p en : Int) (hG : Good L) (h : Is w A c L g vn vd (.ok ts lev ns dp)) (ht : hd ts = ⟨k, s, nm, p, en⟩) (k2 : k ≠ 2) (k3 : k ≠ 3) (k1 : k ≠ 1) (m45 : isM 45 ts = true) (hlv : 100 ≤ lev) :
  Calls Try.prog 86 #[.pointer (some ⟨g, 0, none⟩)] w fun e w' => e = .returned (.tuple #[]) ∧ Ends w A c L g vn vd (.bad 91 p) w' := by
 have HN := J0.m (Qc6 w A c L g vn vd ts lev ns dp h)
 rw [ht] at HN
 have HSZ : J0 (ns.length + ts.length ≤ 33554432) := ⟨by obtain ⟨q, _, _, _, h4⟩ := h; exact h4.sz⟩
 have HI := J0.m h
 have HT := J0.m ht
 have HG := J0.m hG
 have e2 : (k == 2) = false := beq_eq_false_iff_ne.2 k2
 have e3 : (k == 3) = false := beq_eq_false_iff_ne.2 k3
 have e1 : (k == 1) = false := beq_eq_false_iff_ne.2 k1
 have HM45 : J0 (Sg.is 4 ⟨#[45]⟩ (.ok ts lev ns dp) = true) := ⟨m45⟩
 have HOS : J0 (Qdu ⟨k, s, nm, p, en⟩ (.ok ts lev ns dp) = .bad 91 p) := ⟨by unfold Qdu; simp only [if_pos hlv]⟩
 have HOD : J0 (decide (lev < 100) = false) := ⟨decide_eq_false (by omega)⟩
 clear h ht hG k2 k3 k1 m45 hlv
 go_enter Try.func86, Try.ntmps86
 go_wp2_with fail
 refine HN.o.mono ?_
 rintro e w0 ⟨rfl, hb0⟩
 obtain ⟨W, hW⟩ : ∃ W, W = w0.alloc (.cells #[.int .i64 k, .string s, .int .u64 nm, .int .i64 p, .int .i64 en] 47) := ⟨_, rfl⟩
 have hB : Below w.heap.size w W := by rw [hW]; exact Qab hb0 _
 have hX : W.heap[w0.heap.size]? = some (.cells #[.int .i64 k, .string s, .int .u64 nm, .int .i64 p, .int .i64 en] 47 (0, 0)) := by rw [hW]; exact Qay _ _
 obtain ⟨b, hb⟩ : ∃ b, b = w0.heap.size := ⟨_, rfl⟩
 rw [← hb] at hX
 have HI0 := J0.m (HI.o.below hB)
 have HV0 := J0.m ((Hv.refl (vn := vn) (vd := vd) (by have := HI.o.glt; omega) : Hv w w g vn vd vn vd).below hB (by have := HI.o.glt; omega))
 have y2 := HI0.o.ok2
 obtain ⟨z0, z1, z2, z3, z4⟩ := Qbi (t := ⟨k, s, nm, p, en⟩) hX
 have HX := J0.m hX
 have HW := J0.m hW
 have HB := J0.m hb
 rw [hW] at y2
 rw [hW, hb] at z0 z1 z2 z3 z4
 clear hW hB hX hb hb0
 go_wp2_with fail
 rw [← HW.o]
 refine (Qaz W A c L g vn vd _ 4 ⟨#[45]⟩ HI0.o).mono ?_
 rw [HM45.o]
 rintro e w5 ⟨rfl, hb5⟩
 have HI5 := J0.m (HI0.o.below hb5)
 have HX5 := J0.m (Qae HX.o hb5)
 have HV5 := J0.m (HV0.o.below hb5 (by have := HI0.o.glt; omega))
 clear hb5
 obtain ⟨x0, x1, x2, x3, x4⟩ := Qbi (t := ⟨k, s, nm, p, en⟩) HX5.o
 rw [HB.o] at x0 x1 x2 x3 x4
 have HOP := J0.m (Qcj w5 A c L g vn vd ts lev ns dp ⟨k, s, nm, p, en⟩ HI5.o)
 rw [HOS.o, HOD.o] at HOP
 go_wp2_with fail
 refine HOP.o.mono ?_
 rintro e wa ⟨rfl, hi, hg⟩
 have HIa := J0.m hi
 have HVa := J0.m (HV5.o.trans (Hv.Qa6 hg (by have := HI5.o.glt; omega)))
 clear hi hg
 go_wp2
 refine bodyPost_ret (results_none rfl _ _ _) rfl ?_
 exact ⟨rfl, vn, vd, HIa.o, HVa.o⟩
theorem Qj5 (w : World) (A : Option Addr) (c : Nat) (L : List Tk) (g : Nat) (vn vd : Value) (ts : List Tk) (lev : Nat) (ns : List Nd) (dp : List Int) (k : Int) (s : ByteArray) (nm p en : Int) (hG : Good L) (h : Is w A c L g vn vd (.ok ts lev ns dp)) (ht : hd ts = ⟨k, s, nm, p, en⟩) (k2 : k ≠ 2) (k3 : k ≠ 3) (k1 : k ≠ 1) (m45 : isM 45 ts = false) (m40 : isM 40 ts = true) (hlv : 100 ≤ lev) :
  Calls Try.prog 86 #[.pointer (some ⟨g, 0, none⟩)] w fun e w' => e = .returned (.tuple #[]) ∧ Ends w A c L g vn vd (.bad 91 p) w' := by
 have HN := J0.m (Qc6 w A c L g vn vd ts lev ns dp h)
 rw [ht] at HN
 have HSZ : J0 (ns.length + ts.length ≤ 33554432) := ⟨by obtain ⟨q, _, _, _, h4⟩ := h; exact h4.sz⟩
 have HI := J0.m h
 have HT := J0.m ht
 have HG := J0.m hG
 have e2 : (k == 2) = false := beq_eq_false_iff_ne.2 k2
 have e3 : (k == 3) = false := beq_eq_false_iff_ne.2 k3
 have e1 : (k == 1) = false := beq_eq_false_iff_ne.2 k1
 have HM45 : J0 (Sg.is 4 ⟨#[45]⟩ (.ok ts lev ns dp) = false) := ⟨m45⟩
 have HM40 : J0 (Sg.is 4 ⟨#[40]⟩ (.ok ts lev ns dp) = true) := ⟨m40⟩
 have HOS : J0 (Qdu ⟨k, s, nm, p, en⟩ (.ok ts lev ns dp) = .bad 91 p) := ⟨by unfold Qdu; simp only [if_pos hlv]⟩
 have HOD : J0 (decide (lev < 100) = false) := ⟨decide_eq_false (by omega)⟩
 clear h ht hG k2 k3 k1 m45 m40 hlv
 go_enter Try.func86, Try.ntmps86
 go_wp2_with fail
 refine HN.o.mono ?_
 rintro e w0 ⟨rfl, hb0⟩
 obtain ⟨W, hW⟩ : ∃ W, W = w0.alloc (.cells #[.int .i64 k, .string s, .int .u64 nm, .int .i64 p, .int .i64 en] 47) := ⟨_, rfl⟩
 have hB : Below w.heap.size w W := by rw [hW]; exact Qab hb0 _
 have hX : W.heap[w0.heap.size]? = some (.cells #[.int .i64 k, .string s, .int .u64 nm, .int .i64 p, .int .i64 en] 47 (0, 0)) := by rw [hW]; exact Qay _ _
 obtain ⟨b, hb⟩ : ∃ b, b = w0.heap.size := ⟨_, rfl⟩
 rw [← hb] at hX
 have HI0 := J0.m (HI.o.below hB)
 have HV0 := J0.m ((Hv.refl (vn := vn) (vd := vd) (by have := HI.o.glt; omega) : Hv w w g vn vd vn vd).below hB (by have := HI.o.glt; omega))
 have y2 := HI0.o.ok2
 obtain ⟨z0, z1, z2, z3, z4⟩ := Qbi (t := ⟨k, s, nm, p, en⟩) hX
 have HX := J0.m hX
 have HW := J0.m hW
 have HB := J0.m hb
 rw [hW] at y2
 rw [hW, hb] at z0 z1 z2 z3 z4
 clear hW hB hX hb hb0
 go_wp2_with fail
 rw [← HW.o]
 refine (Qaz W A c L g vn vd _ 4 ⟨#[45]⟩ HI0.o).mono ?_
 rw [HM45.o]
 rintro e w5 ⟨rfl, hb5⟩
 have HI5 := J0.m (HI0.o.below hb5)
 have HX5 := J0.m (Qae HX.o hb5)
 have HV5 := J0.m (HV0.o.below hb5 (by have := HI0.o.glt; omega))
 clear hb5
 go_wp2_with fail
 refine (Qaz w5 A c L g vn vd _ 4 ⟨#[40]⟩ HI5.o).mono ?_
 rw [HM40.o]
 rintro e w6 ⟨rfl, hb6⟩
 have HI6 := J0.m (HI5.o.below hb6)
 have HX6 := J0.m (Qae HX5.o hb6)
 have HV6 := J0.m (HV5.o.below hb6 (by have := HI5.o.glt; omega))
 clear hb6
 obtain ⟨x0, x1, x2, x3, x4⟩ := Qbi (t := ⟨k, s, nm, p, en⟩) HX6.o
 rw [HB.o] at x0 x1 x2 x3 x4
 have HOP := J0.m (Qcj w6 A c L g vn vd ts lev ns dp ⟨k, s, nm, p, en⟩ HI6.o)
 rw [HOS.o, HOD.o] at HOP
 go_wp2_with fail
 refine HOP.o.mono ?_
 rintro e wa ⟨rfl, hi, hg⟩
 have HIa := J0.m hi
 have HVa := J0.m (HV6.o.trans (Hv.Qa6 hg (by have := HI6.o.glt; omega)))
 clear hi hg
 go_wp2
 refine bodyPost_ret (results_none rfl _ _ _) rfl ?_
 exact ⟨rfl, vn, vd, HIa.o, HVa.o⟩
theorem Qk8 (m : Nat) (HF : CT m .fac 86) (w : World) (A : Option Addr) (c : Nat) (L : List Tk) (g : Nat) (vn vd : Value) (ts : List Tk) (lev : Nat) (ns : List Nd) (dp : List Int) (k : Int) (s : ByteArray) (nm p en : Int) (hG : Good L) (h : Is w A c L g vn vd (.ok ts lev ns dp)) (ht : hd ts = ⟨k, s, nm, p, en⟩) (k2 : k ≠ 2) (k3 : k ≠ 3) (k1 : k ≠ 1) (m45 : isM 45 ts = true) (hlv : lev < 100) (hf : ∀ pl, ((P.X m .fac (lev + 1) ts.tail).bind fun a r => comb (P.node 5 p) [a] r) ≠ .bad 0 pl) :
  Calls Try.prog 86 #[.pointer (some ⟨g, 0, none⟩)] w fun e w' => e = .returned (.tuple #[]) ∧ Ends w A c L g vn vd (outS lev ns dp ((P.X m .fac (lev + 1) ts.tail).bind fun a r => comb (P.node 5 p) [a] r)) w' := by
 have HN := J0.m (Qc6 w A c L g vn vd ts lev ns dp h)
 rw [ht] at HN
 have HSZ : J0 (ns.length + ts.length ≤ 33554432) := ⟨by obtain ⟨q, _, _, _, h4⟩ := h; exact h4.sz⟩
 have HI := J0.m h
 have HT := J0.m ht
 have HG := J0.m hG
 have e2 : (k == 2) = false := beq_eq_false_iff_ne.2 k2
 have e3 : (k == 3) = false := beq_eq_false_iff_ne.2 k3
 have e1 : (k == 1) = false := beq_eq_false_iff_ne.2 k1
 have HM45 : J0 (Sg.is 4 ⟨#[45]⟩ (.ok ts lev ns dp) = true) := ⟨m45⟩
 have HOS : J0 (Qdu ⟨k, s, nm, p, en⟩ (.ok ts lev ns dp) = .ok ts (lev + 1) ns dp) := ⟨by unfold Qdu; simp only [if_neg (by omega : ¬ 100 ≤ lev)]⟩
 have HOD : J0 (decide (lev < 100) = true) := ⟨decide_eq_true (by omega)⟩
 have HK : J0 ((hd ts).f0 ≠ 0) := ⟨by rw [Qbz (show isT 4 (mk1 45) ts = true from m45)]; decide⟩
 have HF := J0.m HF
 have HFL : J0 (∀ pl, (puG (P.node 5 p) 1 (goS m .fac (stS (lev + 1) ns dp [] ts.tail))).down ≠ .bad 0 pl) := ⟨fun pl e => by
  have e' := Qng m lev ns dp ts.tail (P.node 5 p)
  rw [e] at e'
  cases hr : ((P.X m .fac (lev + 1) ts.tail).bind fun a r => comb (P.node 5 p) [a] r) with
  | ok a r => rw [hr] at e'; cases e'
  | bad e0 p0 =>
   rw [hr] at e'
   injection e' with e1 e2
   subst e1
   exact hf _ hr⟩
 have HLAW := J0.m (Qng m lev ns dp ts.tail (P.node 5 p))
 clear h ht hG k2 k3 k1 m45 hlv hf
 go_enter Try.func86, Try.ntmps86
 go_wp2_with fail
 refine HN.o.mono ?_
 rintro e w0 ⟨rfl, hb0⟩
 obtain ⟨W, hW⟩ : ∃ W, W = w0.alloc (.cells #[.int .i64 k, .string s, .int .u64 nm, .int .i64 p, .int .i64 en] 47) := ⟨_, rfl⟩
 have hB : Below w.heap.size w W := by rw [hW]; exact Qab hb0 _
 have hX : W.heap[w0.heap.size]? = some (.cells #[.int .i64 k, .string s, .int .u64 nm, .int .i64 p, .int .i64 en] 47 (0, 0)) := by rw [hW]; exact Qay _ _
 obtain ⟨b, hb⟩ : ∃ b, b = w0.heap.size := ⟨_, rfl⟩
 rw [← hb] at hX
 have HI0 := J0.m (HI.o.below hB)
 have HV0 := J0.m ((Hv.refl (vn := vn) (vd := vd) (by have := HI.o.glt; omega) : Hv w w g vn vd vn vd).below hB (by have := HI.o.glt; omega))
 have y2 := HI0.o.ok2
 obtain ⟨z0, z1, z2, z3, z4⟩ := Qbi (t := ⟨k, s, nm, p, en⟩) hX
 have HX := J0.m hX
 have HW := J0.m hW
 have HB := J0.m hb
 rw [hW] at y2
 rw [hW, hb] at z0 z1 z2 z3 z4
 clear hW hB hX hb hb0
 go_wp2_with fail
 rw [← HW.o]
 refine (Qaz W A c L g vn vd _ 4 ⟨#[45]⟩ HI0.o).mono ?_
 rw [HM45.o]
 rintro e w5 ⟨rfl, hb5⟩
 have HI5 := J0.m (HI0.o.below hb5)
 have HX5 := J0.m (Qae HX.o hb5)
 have HV5 := J0.m (HV0.o.below hb5 (by have := HI0.o.glt; omega))
 clear hb5
 obtain ⟨x0, x1, x2, x3, x4⟩ := Qbi (t := ⟨k, s, nm, p, en⟩) HX5.o
 rw [HB.o] at x0 x1 x2 x3 x4
 have HOP := J0.m (Qcj w5 A c L g vn vd ts lev ns dp ⟨k, s, nm, p, en⟩ HI5.o)
 rw [HOS.o, HOD.o] at HOP
 go_wp2_with fail
 refine HOP.o.mono ?_
 rintro e wa ⟨rfl, hi, hg⟩
 have HIa := J0.m hi
 have HVa := J0.m (HV5.o.trans (Hv.Qa6 hg (by have := HI5.o.glt; omega)))
 have HXa := J0.m (HI5.o.Qbv (Hv.Qa6 hg (by have := HI5.o.glt; omega)) HX5.o)
 clear hi hg
 have HTK := J0.m (Qb9 wa A c L g vn vd ts (lev + 1) ns dp true HG.o (fun _ => HK.o) HIa.o)
 go_wp2_with fail
 refine HTK.o.mono ?_
 rintro e wb ⟨rfl, hi, hg⟩
 unfold tokV
 have HIb := J0.m (show Is wb A c L g vn vd (stS (lev + 1) ns dp [] ts.tail) from by rw [Qek]; exact hi)
 have HXb := J0.m (HIa.o.Qbv (Hv.Qa6 hg (by have := HIa.o.glt; omega)) HXa.o)
 have HVb := J0.m (HVa.o.trans (Hv.Qa6 hg (by have := HIa.o.glt; omega)))
 have HAb := J0.m (Qkj (lev + 1) ns dp ts.tail (N := 33554431) (by have := HSZ.o; have := P.Qc7 HK.o; omega))
 clear hi hg
 have HXP := J0.m (gfac HF.o HG.o HIb.o (fun p e => HFL.o p (by rw [e]; rfl)))
 go_wp2_with fail
 refine HXP.o.mono ?_
 rintro e wc ⟨rfl, vnc, vdc, hi, hv⟩
 have HIc := J0.m hi
 have HVc := J0.m (HVb.o.trans hv)
 have HAc := J0.m (Qgu (m := m) (f := .fac) HAb.o rfl)
 obtain ⟨y0, y1, y2, y3, y4⟩ := Qbi (t := ⟨k, s, nm, p, en⟩) (HIb.o.Qbv hv HXb.o)
 rw [HB.o] at y0 y1 y2 y3 y4
 clear hi hv HXP
 have HPT := J0.m (gput (P.node 5 p) HIc.o HAc.o (by omega))
 go_wp2_with fail
 refine HPT.o.mono ?_
 rintro e wp ⟨rfl, vnp, vdp, hip, hvp⟩
 have HIp := J0.m hip
 have HVp := J0.m (HVc.o.trans hvp)
 clear hip hvp
 obtain ⟨lv, l4, f4, hid, hvd⟩ := Qfb HIp.o (Qin HAc.o (P.node 5 p)) (by omega)
 have HID := J0.m hid
 have HVD := J0.m (HVp.o.trans hvd)
 clear hid hvd
 go_wp2
 go_end0
 refine ⟨rfl, vnp, vdp, ?_, HVD.o⟩
 rw [← HLAW.o]
 exact HID.o
theorem Qk6 (m : Nat) (HE : CT m .expr 49) (w : World) (A : Option Addr) (c : Nat) (L : List Tk) (g : Nat) (vn vd : Value) (ts : List Tk) (lev : Nat) (ns : List Nd) (dp : List Int) (k : Int) (s : ByteArray) (nm p en : Int) (hG : Good L) (h : Is w A c L g vn vd (.ok ts lev ns dp)) (ht : hd ts = ⟨k, s, nm, p, en⟩) (k2 : k ≠ 2) (k3 : k ≠ 3) (k1 : k ≠ 1) (m45 : isM 45 ts = false) (m40 : isM 40 ts = true) (hlv : lev < 100) (hf : ∀ pl, ((P.X m .expr (lev + 1) ts.tail).bind fun a r => (Qar 41 r).bind fun _ r => .ok a r) ≠ .bad 0 pl) :
  Calls Try.prog 86 #[.pointer (some ⟨g, 0, none⟩)] w fun e w' => e = .returned (.tuple #[]) ∧ Ends w A c L g vn vd (outS lev ns dp ((P.X m .expr (lev + 1) ts.tail).bind fun a r => (Qar 41 r).bind fun _ r => .ok a r)) w' := by
 have HN := J0.m (Qc6 w A c L g vn vd ts lev ns dp h)
 rw [ht] at HN
 have HSZ : J0 (ns.length + ts.length ≤ 33554432) := ⟨by obtain ⟨q, _, _, _, h4⟩ := h; exact h4.sz⟩
 have HI := J0.m h
 have HT := J0.m ht
 have HG := J0.m hG
 have e2 : (k == 2) = false := beq_eq_false_iff_ne.2 k2
 have e3 : (k == 3) = false := beq_eq_false_iff_ne.2 k3
 have e1 : (k == 1) = false := beq_eq_false_iff_ne.2 k1
 have HM45 : J0 (Sg.is 4 ⟨#[45]⟩ (.ok ts lev ns dp) = false) := ⟨m45⟩
 have HM40 : J0 (Sg.is 4 ⟨#[40]⟩ (.ok ts lev ns dp) = true) := ⟨m40⟩
 have HOS : J0 (Qdu ⟨k, s, nm, p, en⟩ (.ok ts lev ns dp) = .ok ts (lev + 1) ns dp) := ⟨by unfold Qdu; simp only [if_neg (by omega : ¬ 100 ≤ lev)]⟩
 have HOD : J0 (decide (lev < 100) = true) := ⟨decide_eq_true (by omega)⟩
 have HK : J0 ((hd ts).f0 ≠ 0) := ⟨by rw [Qbz (show isT 4 (mk1 40) ts = true from m40)]; decide⟩
 have HE := J0.m HE
 have HFL : J0 (∀ pl, ((goS m .expr (stS (lev + 1) ns dp [] ts.tail)).step (Qar 41)).down ≠ .bad 0 pl) := ⟨fun pl e => by
  have e' := Qnb m lev ns dp ts.tail
  rw [e] at e'
  cases hr : ((P.X m .expr (lev + 1) ts.tail).bind fun a r => (Qar 41 r).bind fun _ r => .ok a r) with
  | ok a r => rw [hr] at e'; cases e'
  | bad e0 p0 =>
   rw [hr] at e'
   injection e' with e1 e2
   subst e1
   exact hf _ hr⟩
 have HLAW := J0.m (Qnb m lev ns dp ts.tail)
 clear h ht hG k2 k3 k1 m45 m40 hlv hf
 go_enter Try.func86, Try.ntmps86
 go_wp2_with fail
 refine HN.o.mono ?_
 rintro e w0 ⟨rfl, hb0⟩
 obtain ⟨W, hW⟩ : ∃ W, W = w0.alloc (.cells #[.int .i64 k, .string s, .int .u64 nm, .int .i64 p, .int .i64 en] 47) := ⟨_, rfl⟩
 have hB : Below w.heap.size w W := by rw [hW]; exact Qab hb0 _
 have hX : W.heap[w0.heap.size]? = some (.cells #[.int .i64 k, .string s, .int .u64 nm, .int .i64 p, .int .i64 en] 47 (0, 0)) := by rw [hW]; exact Qay _ _
 obtain ⟨b, hb⟩ : ∃ b, b = w0.heap.size := ⟨_, rfl⟩
 rw [← hb] at hX
 have HI0 := J0.m (HI.o.below hB)
 have HV0 := J0.m ((Hv.refl (vn := vn) (vd := vd) (by have := HI.o.glt; omega) : Hv w w g vn vd vn vd).below hB (by have := HI.o.glt; omega))
 have y2 := HI0.o.ok2
 obtain ⟨z0, z1, z2, z3, z4⟩ := Qbi (t := ⟨k, s, nm, p, en⟩) hX
 have HX := J0.m hX
 have HW := J0.m hW
 have HB := J0.m hb
 rw [hW] at y2
 rw [hW, hb] at z0 z1 z2 z3 z4
 clear hW hB hX hb hb0
 go_wp2_with fail
 rw [← HW.o]
 refine (Qaz W A c L g vn vd _ 4 ⟨#[45]⟩ HI0.o).mono ?_
 rw [HM45.o]
 rintro e w5 ⟨rfl, hb5⟩
 have HI5 := J0.m (HI0.o.below hb5)
 have HX5 := J0.m (Qae HX.o hb5)
 have HV5 := J0.m (HV0.o.below hb5 (by have := HI0.o.glt; omega))
 clear hb5
 go_wp2_with fail
 refine (Qaz w5 A c L g vn vd _ 4 ⟨#[40]⟩ HI5.o).mono ?_
 rw [HM40.o]
 rintro e w6 ⟨rfl, hb6⟩
 have HI6 := J0.m (HI5.o.below hb6)
 have HX6 := J0.m (Qae HX5.o hb6)
 have HV6 := J0.m (HV5.o.below hb6 (by have := HI5.o.glt; omega))
 clear hb6
 obtain ⟨x0, x1, x2, x3, x4⟩ := Qbi (t := ⟨k, s, nm, p, en⟩) HX6.o
 rw [HB.o] at x0 x1 x2 x3 x4
 have HOP := J0.m (Qcj w6 A c L g vn vd ts lev ns dp ⟨k, s, nm, p, en⟩ HI6.o)
 rw [HOS.o, HOD.o] at HOP
 go_wp2_with fail
 refine HOP.o.mono ?_
 rintro e wa ⟨rfl, hi, hg⟩
 have HIa := J0.m hi
 have HVa := J0.m (HV6.o.trans (Hv.Qa6 hg (by have := HI6.o.glt; omega)))
 have HXa := J0.m (HI6.o.Qbv (Hv.Qa6 hg (by have := HI6.o.glt; omega)) HX6.o)
 clear hi hg
 have HTK := J0.m (Qb9 wa A c L g vn vd ts (lev + 1) ns dp true HG.o (fun _ => HK.o) HIa.o)
 go_wp2_with fail
 refine HTK.o.mono ?_
 rintro e wb ⟨rfl, hi, hg⟩
 unfold tokV
 have HIb := J0.m (show Is wb A c L g vn vd (stS (lev + 1) ns dp [] ts.tail) from by rw [Qek]; exact hi)
 have HXb := J0.m (HIa.o.Qbv (Hv.Qa6 hg (by have := HIa.o.glt; omega)) HXa.o)
 have HVb := J0.m (HVa.o.trans (Hv.Qa6 hg (by have := HIa.o.glt; omega)))
 have HAb := J0.m (Qkj (lev + 1) ns dp ts.tail (N := 33554431) (by have := HSZ.o; have := P.Qc7 HK.o; omega))
 clear hi hg
 have HXP := J0.m (Qf4 HE.o HG.o HIb.o (fun p e => HFL.o p (by rw [e]; rfl)))
 go_wp2_with fail
 refine HXP.o.mono ?_
 rintro e wc ⟨rfl, vnc, vdc, hi, hv⟩
 have HIc := J0.m hi
 have HVc := J0.m (HVb.o.trans hv)
 have HAc := J0.m (Qgu (m := m) (f := .expr) HAb.o rfl)
 clear hi hv HXP
 have HMK := J0.m (Qe7 41 HG.o HIc.o)
 go_wp2_with fail
 refine HMK.o.mono ?_
 rintro e wd ⟨⟨tq, rfl⟩, hi, hv⟩
 have HIp := J0.m hi
 have HVp := J0.m (HVc.o.trans hv)
 clear hi hv HMK
 obtain ⟨lv, l4, f4, hid, hvd⟩ := Qfb HIp.o (Qcw (N := 33554430) HAc.o 41) (by omega)
 have HID := J0.m hid
 have HVD := J0.m (HVp.o.trans hvd)
 clear hid hvd
 go_wp2
 go_end0
 refine ⟨rfl, vnc, vdc, ?_, HVD.o⟩
 rw [← HLAW.o]
 exact HID.o
end Go.Proofs.Ytbdcndkafaajpaa.A
end
section
namespace Go.Proofs.Ytbdcndkafaajpaa.R
open Go.RowKit Ytbdcndkafaajpaa.X Ytbdcndkafaajpaa.A YtbdcndkafaajpaaW.PrintWords YtbdcndkafaajpaaW.PrintLast YtbdcndkafaajpaaW.PrintMore
open Ytbdcndkafaajpaa.P (Nd EO Res hd isT isM Qar mxl comb mk1)
theorem Qkk {ts : List Tk} {lev : Nat} {ns : List Nd} {dp : List Int} (h0 : (hd ts).f0 ≠ 0) (hz : ns.length + ts.length ≤ 33554432) : (levS (.ok ts lev ns dp)).At 33554431 0 (lev + 1) := by
 intro ts' lev' ns' dp' e
 rw [Qh0] at e
 have hl := P.Qc7 h0
 split at e
 ·cases e
 ·cases e
  exact ⟨by omega, Nat.zero_le _, rfl⟩
theorem Is.sz {w : World} {A : Option Addr} {c : Nat} {L : List Tk} {g : Nat} {vn vd : Value} {ts : List Tk} {lev : Nat} {ns : List Nd} {dp : List Int} (h : Is w A c L g vn vd (.ok ts lev ns dp)) : ns.length + ts.length ≤ 33554432 := by obtain ⟨q, _, _, _, h4⟩ := h; exact h4.sz
theorem Is.cnt {w : World} {A : Option Addr} {c : Nat} {L : List Tk} {g : Nat} {vn vd : Value} {s : Sg} {N j l : Nat} (h : Is w A c L g vn vd s) (ha : s.At N j l) (hi : s.is 4 ⟨#[44]⟩ = true) : j ≤ 33554432 := by
 cases s with
 | bad e p => cases hi
 | ok ts lev ns dp =>
  obtain ⟨q, _, _, _, h4⟩ := h
  have := (ha _ _ _ _ rfl).2.1
  have := h4.dl
  have := h4.sz
  omega
theorem Is.comma {w : World} {A : Option Addr} {c : Nat} {L : List Tk} {g : Nat} {vn vd : Value} {s : Sg} (hG : Qdo L) (h : Is w A c L g vn vd s) (hi : s.is 4 ⟨#[44]⟩ = true) : ∃ at_ : Int, w.cell? ⟨g, 1, none⟩ = some (.int .i64 at_) ∧ w.frozen? ⟨g, 1, none⟩ = false ∧ Is (w.setCell ⟨g, 1, none⟩ (.int .i64 (wrap64 (at_ + 1)))) A c L g vn vd (s.step (Qar 44)) ∧ Hv w (w.setCell ⟨g, 1, none⟩ (.int .i64 (wrap64 (at_ + 1)))) g vn vd vn vd := by
 cases s with
 | bad e p => cases hi
 | ok ts lev ns dp =>
  have hm : isM 44 ts = true := hi
  have hs : (Sg.ok ts lev ns dp).step (Qar 44) = .ok ts.tail lev ns dp := by unfold Sg.step Qar P.want; simp only [hm]; rfl
  rw [hs]
  exact h.adv hG (by rw [Qbz hm]; decide)
theorem Ql6 (op : Int) (hop : op ≠ 9) (m : Nat) (HE : CT m .expr 51) (w : World) (A : Option Addr) (c : Nat) (L : List Tk) (g : Nat) (vn vd : Value) (ts : List Tk) (lev : Nat) (ns : List Nd) (dp : List Int) (t : Tk) (hG : Qdo L) (h : Is w A c L g vn vd (.ok ts lev ns dp)) (ht : t = hd ts) (hk : t.f0 ≠ 0) (hf : ∀ pl, (goS m .expr ((levS (.ok ts lev ns dp)).step (Qar 40))) ≠ .bad 0 pl) :
  Calls Try.prog 97 #[.pointer (some ⟨g, 0, none⟩), .int .i64 op, .int .i64 1] w fun e w' => e = .returned (.tuple #[]) ∧ Ends w A c L g vn vd (puG (P.node op t.f3) 1 ((goS m .expr ((levS (.ok ts lev ns dp)).step (Qar 40))).step (Qar 41))).down w' := by
 have d9 : (op == 9) = false := beq_eq_false_iff_ne.2 hop
 have hsz0 := h.sz
 have HA1 := J0.m (Qkk (lev := lev) (dp := dp) (by rw [← ht]; exact hk) hsz0)
 have HTK : J0 (Calls Try.prog 43 #[.pointer (some ⟨g, 0, none⟩)] w fun e w' => e = .returned (.agg #[.int .i64 t.f0, .string t.f1, .int .u64 t.f2, .int .i64 t.f3, .int .i64 t.f4]) ∧ Below w.heap.size w w') := ⟨(Qcm h).mono fun e w' ⟨t', he, ht', hb⟩ => ⟨by rw [he, ht' _ _ _ _ rfl, ht], hb⟩⟩
 have HLV : J0 (∀ W, Is W A c L g vn vd (.ok ts lev ns dp) → Calls Try.prog 95 #[.pointer (some ⟨g, 0, none⟩)] W fun e w' => e = .returned (.tuple #[]) ∧ Is w' A c L g vn vd (levS (.ok ts lev ns dp)) ∧ Hv W w' g vn vd vn vd) := ⟨fun W hW => Qet W A c L g vn vd _ hG (fun ts' lev' ns' dp' e => by cases e; rw [← ht]; exact hk) hW⟩
 have HI := J0.m h
 have HV := J0.m (Hv.refl (vn := vn) (vd := vd) (by have := h.glt; omega) : Hv w w g vn vd vn vd)
 have HG := J0.m hG
 have HE := J0.m HE
 obtain ⟨gd0, gd1, gd2, gd3⟩ := fld t
 obtain ⟨s1, hs1⟩ : ∃ s1, s1 = levS (.ok ts lev ns dp) := ⟨_, rfl⟩
 rw [← hs1] at HA1 HLV hf ⊢
 have HF := J0.m hf
 clear h hG hf hs1 hk ht hsz0
 go_enter Try.func97, Try.ntmps97
 go_wp2_with fail
 refine HTK.o.mono ?_
 rintro e w1 ⟨rfl, hb⟩
 have HI1 := J0.m (HI.o.below hb)
 have HV1 := J0.m (HV.o.below hb (by have := HI.o.glt; omega))
 clear hb
 go_wp2_with fail
 refine (HLV.o w1 HI1.o).mono ?_
 rintro e w2 ⟨rfl, hi, hv⟩
 have HI2 := J0.m hi
 have HV2 := J0.m (HV1.o.trans hv)
 clear hi hv
 have HMK := J0.m (Qe7 40 HG.o HI2.o)
 go_wp2_with fail
 refine HMK.o.mono ?_
 rintro e w3 ⟨rfl, hi, hv⟩
 have HI3 := J0.m hi
 have HV3 := J0.m (HV2.o.trans hv)
 have HA3 := J0.m (Qcw (N := 33554430) HA1.o 40)
 clear hi hv HMK
 have HXP := J0.m (Qf4 (HE.o) HG.o HI3.o HF.o)
 go_wp2_with fail
 refine HXP.o.mono ?_
 rintro e w4 ⟨rfl, vn4, vd4, hi, hv⟩
 have HI4 := J0.m hi
 have HV4 := J0.m (HV3.o.trans hv)
 have HA4 := J0.m (Qgu (m := m) (f := .expr) HA3.o rfl)
 clear hi hv HXP
 go_wp2_with fail
 go_loopg [7] 0 (fun k s7 wr => s7 = .int .i64 1 ∧ J0 (wr = w4))
 case atStart => exact ⟨rfl, ⟨rfl⟩⟩
 case round =>
  obtain ⟨rfl, hw⟩ := hrel
  have hw := hw.o
  subst hw
  have HIS := J0.m (Qaz wr A c L g vn4 vd4 _ 4 ⟨#[44]⟩ HI4.o)
  cases hb : Sg.is 4 ⟨#[44]⟩ (goS m .expr (s1.step (Qar 40)))
  all_goals
   rw [hb] at HIS
   clear hb
   go_wp2_with fail
   refine HIS.o.mono ?_
   rintro e w6 ⟨rfl, hb6⟩
   have HI6 := J0.m (HI4.o.below hb6)
   have HV6 := J0.m (HV4.o.below hb6 (by have := HI4.o.glt; omega))
   clear hb6
   have HMK := J0.m (Qe7 41 HG.o HI6.o)
   go_wp2_with fail
   refine HMK.o.mono ?_
   rintro e w7 ⟨rfl, hi, hv⟩
   have HI7 := J0.m hi
   have HV7 := J0.m (HV6.o.trans hv)
   have HA7 := J0.m (Qcw (N := 33554429) HA4.o 41)
   clear hi hv HMK
   obtain ⟨Wn, hWn⟩ : ∃ Wn, Wn = w7.alloc (.cells #[.int .i64 op, .int .i64 0, .int .u64 0, .string ⟨#[]⟩, .int .i64 t.f3] 49) := ⟨_, rfl⟩
   obtain ⟨bn, hbn⟩ : ∃ bn, bn = w7.heap.size := ⟨_, rfl⟩
   have hBn : Below w7.heap.size w7 Wn := by rw [hWn]; exact Qab (Below.refl _ _) _
   have hXn : Wn.heap[bn]? = some (.cells #[.int .i64 op, .int .i64 0, .int .u64 0, .string ⟨#[]⟩, .int .i64 t.f3] 49 (0, 0)) := by rw [hWn, hbn]; exact Qay _ _
   have HIn := J0.m (HI7.o.below hBn)
   have HVn := J0.m (HV7.o.below hBn (by have := HI7.o.glt; omega))
   obtain ⟨k0, k1, k2, k3, k4⟩ := Qdt (n := (P.node op t.f3)) hXn
   have HPT := J0.m (Qjg (P.node op t.f3) HIn.o HA7.o (by omega))
   have HWn := J0.m hWn
   have HBN := J0.m hbn
   rw [hWn] at k0 k1 k2 k3 k4
   rw [hbn] at k0 k1 k2 k3 k4
   clear hWn hBn hXn hbn
   go_wp2_with fail
   rw [← HWn.o]
   refine HPT.o.mono ?_
   rintro e wp ⟨rfl, vnp, vdp, hip, hvp⟩
   have HVp := J0.m (HVn.o.trans hvp)
   obtain ⟨lv, l4, f4, hid, hvd⟩ := Qfb hip (Qin HA7.o (P.node op t.f3)) (by omega)
   have HID := J0.m hid
   have HVD := J0.m (HVp.o.trans hvd)
   clear hip hvp hid hvd
   go_wp2
   go_end0
   exact ⟨rfl, vnp, vdp, HID.o, HVD.o⟩
theorem Qps (op : Int) (hop : op ≠ 9) (m : Nat) (HE : CT m .expr 51) (w : World) (A : Option Addr) (c : Nat) (L : List Tk) (g : Nat) (vn vd : Value) (ts : List Tk) (lev : Nat) (ns : List Nd) (dp : List Int) (t : Tk) (hG : Qdo L) (h : Is w A c L g vn vd (.ok ts lev ns dp)) (ht : t = hd ts) (hk : t.f0 ≠ 0) (hf : ∀ pl, (goS m .expr ((levS (.ok ts lev ns dp)).step (Qar 40))) ≠ .bad 0 pl) (hf2 : ∀ pl, (goS m .expr ((goS m .expr ((levS (.ok ts lev ns dp)).step (Qar 40))).step (Qar 44))) ≠ .bad 0 pl) :
  Calls Try.prog 97 #[.pointer (some ⟨g, 0, none⟩), .int .i64 op, .int .i64 2] w fun e w' => e = .returned (.tuple #[]) ∧ Ends w A c L g vn vd (puG (P.node op t.f3) 2 ((goS m .expr ((goS m .expr ((levS (.ok ts lev ns dp)).step (Qar 40))).step (Qar 44))).step (Qar 41))).down w' := by
 have d9 : (op == 9) = false := beq_eq_false_iff_ne.2 hop
 have hsz0 := h.sz
 have HA1 := J0.m (Qkk (lev := lev) (dp := dp) (by rw [← ht]; exact hk) hsz0)
 have HTK : J0 (Calls Try.prog 43 #[.pointer (some ⟨g, 0, none⟩)] w fun e w' => e = .returned (.agg #[.int .i64 t.f0, .string t.f1, .int .u64 t.f2, .int .i64 t.f3, .int .i64 t.f4]) ∧ Below w.heap.size w w') := ⟨(Qcm h).mono fun e w' ⟨t', he, ht', hb⟩ => ⟨by rw [he, ht' _ _ _ _ rfl, ht], hb⟩⟩
 have HLV : J0 (∀ W, Is W A c L g vn vd (.ok ts lev ns dp) → Calls Try.prog 95 #[.pointer (some ⟨g, 0, none⟩)] W fun e w' => e = .returned (.tuple #[]) ∧ Is w' A c L g vn vd (levS (.ok ts lev ns dp)) ∧ Hv W w' g vn vd vn vd) := ⟨fun W hW => Qet W A c L g vn vd _ hG (fun ts' lev' ns' dp' e => by cases e; rw [← ht]; exact hk) hW⟩
 have HI := J0.m h
 have HV := J0.m (Hv.refl (vn := vn) (vd := vd) (by have := h.glt; omega) : Hv w w g vn vd vn vd)
 have HG := J0.m hG
 have HE := J0.m HE
 obtain ⟨gd0, gd1, gd2, gd3⟩ := fld t
 obtain ⟨s1, hs1⟩ : ∃ s1, s1 = levS (.ok ts lev ns dp) := ⟨_, rfl⟩
 rw [← hs1] at HA1 HLV hf hf2 ⊢
 obtain ⟨s4, hs4⟩ : ∃ s4, s4 = goS m .expr (s1.step (Qar 40)) := ⟨_, rfl⟩
 rw [← hs4] at hf2 ⊢
 have HS4 := J0.m hs4
 have HF := J0.m hf
 have HF2 := J0.m hf2
 clear h hG hf hf2 hs4 hs1 hk ht hsz0
 go_enter Try.func97, Try.ntmps97
 go_wp2_with fail
 refine HTK.o.mono ?_
 rintro e w1 ⟨rfl, hb⟩
 have HI1 := J0.m (HI.o.below hb)
 have HV1 := J0.m (HV.o.below hb (by have := HI.o.glt; omega))
 clear hb
 go_wp2_with fail
 refine (HLV.o w1 HI1.o).mono ?_
 rintro e w2 ⟨rfl, hi, hv⟩
 have HI2 := J0.m hi
 have HV2 := J0.m (HV1.o.trans hv)
 clear hi hv
 have HMK := J0.m (Qe7 40 HG.o HI2.o)
 go_wp2_with fail
 refine HMK.o.mono ?_
 rintro e w3 ⟨rfl, hi, hv⟩
 have HI3 := J0.m hi
 have HV3 := J0.m (HV2.o.trans hv)
 have HA3 := J0.m (Qcw (N := 33554430) HA1.o 40)
 clear hi hv HMK
 have HXP := J0.m (Qf4 (HE.o) HG.o HI3.o HF.o)
 go_wp2_with fail
 refine HXP.o.mono ?_
 rintro e w4 ⟨rfl, vn4, vd4, hi, hv⟩
 have HI4 := J0.m hi
 have HV4 := J0.m (HV3.o.trans hv)
 have HA4 := J0.m (Qgu (m := m) (f := .expr) HA3.o rfl)
 clear hi hv HXP
 rw [← HS4.o] at HI4 HA4
 have HIS := J0.m (Qaz w4 A c L g vn4 vd4 _ 4 ⟨#[44]⟩ HI4.o)
 cases hb : Sg.is 4 ⟨#[44]⟩ s4 with
 | false =>
  have hbad : ∃ e p, s4.step (Qar 44) = .bad e p := by
   cases s4 with
   | bad e p => exact ⟨e, p, rfl⟩
   | ok ts4 lev4 ns4 dp4 =>
    have hm : isM 44 ts4 = false := hb
    exact ⟨90, (hd ts4).f3, by unfold Sg.step Qar P.want; simp only [hm]; rfl⟩
  obtain ⟨e5, p5, h5⟩ := hbad
  rw [hb] at HIS
  clear hb
  have HFIN : J0 ((puG (P.node op t.f3) 2 ((goS m .expr (s4.step (Qar 44))).step (Qar 41))).down = (puG (P.node op t.f3) 1 ((s4.step (Qar 44)).step (Qar 41))).down) := ⟨by rw [h5]; rfl⟩
  clear h5
  go_wp2_with fail
  go_loopg [7] 0 (fun k s7 wr => s7 = .int .i64 1 ∧ J0 (wr = w4))
  case atStart => exact ⟨rfl, ⟨rfl⟩⟩
  case round =>
   obtain ⟨rfl, hw⟩ := hrel
   have hw := hw.o
   subst hw
   go_wp2_with fail
   refine HIS.o.mono ?_
   rintro e w6 ⟨rfl, hb6⟩
   have HI6 := J0.m (HI4.o.below hb6)
   have HV6 := J0.m (HV4.o.below hb6 (by have := HI4.o.glt; omega))
   clear hb6
   have HMK := J0.m (Qe7 44 HG.o HI6.o)
   go_wp2_with fail
   refine HMK.o.mono ?_
   rintro e w8 ⟨rfl, hi, hv⟩
   have HI8 := J0.m hi
   have HV8 := J0.m (HV6.o.trans hv)
   have HA8 : J0 ((s4.step (Qar 44)).At 33554431 1 (lev + 1)) := ⟨At.mono (Qcw (N := 33554429) HA4.o 44) (by omega)⟩
   clear hi hv HMK
   have HMK := J0.m (Qe7 41 HG.o HI8.o)
   go_wp2_with fail
   refine HMK.o.mono ?_
   rintro e w7 ⟨rfl, hi, hv⟩
   have HI7 := J0.m hi
   have HV7 := J0.m (HV8.o.trans hv)
   have HA7 := J0.m (Qcw (N := 33554430) HA8.o 41)
   clear hi hv HMK
   obtain ⟨Wn, hWn⟩ : ∃ Wn, Wn = w7.alloc (.cells #[.int .i64 op, .int .i64 0, .int .u64 0, .string ⟨#[]⟩, .int .i64 t.f3] 49) := ⟨_, rfl⟩
   obtain ⟨bn, hbn⟩ : ∃ bn, bn = w7.heap.size := ⟨_, rfl⟩
   have hBn : Below w7.heap.size w7 Wn := by rw [hWn]; exact Qab (Below.refl _ _) _
   have hXn : Wn.heap[bn]? = some (.cells #[.int .i64 op, .int .i64 0, .int .u64 0, .string ⟨#[]⟩, .int .i64 t.f3] 49 (0, 0)) := by rw [hWn, hbn]; exact Qay _ _
   have HIn := J0.m (HI7.o.below hBn)
   have HVn := J0.m (HV7.o.below hBn (by have := HI7.o.glt; omega))
   obtain ⟨k0, k1, k2, k3, k4⟩ := Qdt (n := (P.node op t.f3)) hXn
   have HPT := J0.m (Qjg (P.node op t.f3) HIn.o HA7.o (by omega))
   have HWn := J0.m hWn
   have HBN := J0.m hbn
   rw [hWn] at k0 k1 k2 k3 k4
   rw [hbn] at k0 k1 k2 k3 k4
   clear hWn hBn hXn hbn
   go_wp2_with fail
   rw [← HWn.o]
   refine HPT.o.mono ?_
   rintro e wp ⟨rfl, vnp, vdp, hip, hvp⟩
   have HVp := J0.m (HVn.o.trans hvp)
   obtain ⟨lv, l4, f4, hid, hvd⟩ := Qfb hip (Qin HA7.o (P.node op t.f3)) (by omega)
   have HID := J0.m hid
   have HVD := J0.m (HVp.o.trans hvd)
   clear hip hvp hid hvd
   go_wp2
   go_end0
   exact ⟨rfl, vnp, vdp, by rw [HFIN.o]; exact HID.o, HVD.o⟩
 | true =>
  have HB := J0.m hb
  rw [hb] at HIS
  clear hb
  go_wp2_with fail
  go_loopg [7] 1 (fun k s7 wr => (k = 1 ∧ s7 = .int .i64 1 ∧ J0 (wr = w4)) ∨ (k = 0 ∧ s7 = .int .i64 2 ∧ J0 (∃ vn5 vd5, Is wr A c L g vn5 vd5 (goS m .expr (s4.step (Qar 44))) ∧ Hv w wr g vn vd vn5 vd5)))
  case atStart => exact .inl ⟨rfl, rfl, ⟨rfl⟩⟩
  case round =>
   rcases hrel with ⟨rfl, rfl, hw⟩ | ⟨rfl, rfl, ⟨vn5, vd5, hi5, hv5⟩⟩
   ·have hw := hw.o
    subst hw
    go_wp2_with fail
    refine HIS.o.mono ?_
    rintro e w6 ⟨rfl, hb6⟩
    have HI6 := J0.m (HI4.o.below hb6)
    have HV6 := J0.m (HV4.o.below hb6 (by have := HI4.o.glt; omega))
    clear hb6
    obtain ⟨at_, y1, f1, hi7, hv7⟩ := HI6.o.comma HG.o HB.o
    have HXP := J0.m (Qf4 HE.o HG.o hi7 HF2.o)
    have HV7 := J0.m (HV6.o.trans hv7)
    clear hi7 hv7
    go_wp2_with fail
    refine HXP.o.mono ?_
    rintro e w8 ⟨rfl, vn8, vd8, hi, hv⟩
    have HI8 := J0.m hi
    have HV8 := J0.m (HV7.o.trans hv)
    clear hi hv HXP
    go_wp2
    go_roundg 0
    case measure => omega
    case rel => exact .inr ⟨rfl, rfl, ⟨vn8, vd8, HI8.o, HV8.o⟩⟩
   ·have HI5 := J0.m hi5
    have HV5 := J0.m hv5
    have HA5 : J0 ((goS m .expr (s4.step (Qar 44))).At 33554431 2 (lev + 1)) := ⟨At.mono (Qgu (m := m) (f := .expr) (Qcw (N := 33554429) HA4.o 44) rfl) (by omega)⟩
    have HIS5 := J0.m (Qaz wr A c L g vn5 vd5 _ 4 ⟨#[44]⟩ hi5)
    clear hi5 hv5
    cases hb : Sg.is 4 ⟨#[44]⟩ (goS m .expr (s4.step (Qar 44)))
    all_goals
     rw [hb] at HIS5
     clear hb
     go_wp2_with fail
     refine HIS5.o.mono ?_
     rintro e w6 ⟨rfl, hb6⟩
     have HI6 := J0.m (HI5.o.below hb6)
     have HV6 := J0.m (HV5.o.below hb6 (by have := HI5.o.glt; omega))
     clear hb6
     have HMK := J0.m (Qe7 41 HG.o HI6.o)
     go_wp2_with fail
     refine HMK.o.mono ?_
     rintro e w7 ⟨rfl, hi, hv⟩
     have HI7 := J0.m hi
     have HV7 := J0.m (HV6.o.trans hv)
     have HA7 := J0.m (Qcw (N := 33554430) HA5.o 41)
     clear hi hv HMK
     obtain ⟨Wn, hWn⟩ : ∃ Wn, Wn = w7.alloc (.cells #[.int .i64 op, .int .i64 0, .int .u64 0, .string ⟨#[]⟩, .int .i64 t.f3] 49) := ⟨_, rfl⟩
     obtain ⟨bn, hbn⟩ : ∃ bn, bn = w7.heap.size := ⟨_, rfl⟩
     have hBn : Below w7.heap.size w7 Wn := by rw [hWn]; exact Qab (Below.refl _ _) _
     have hXn : Wn.heap[bn]? = some (.cells #[.int .i64 op, .int .i64 0, .int .u64 0, .string ⟨#[]⟩, .int .i64 t.f3] 49 (0, 0)) := by rw [hWn, hbn]; exact Qay _ _
     have HIn := J0.m (HI7.o.below hBn)
     have HVn := J0.m (HV7.o.below hBn (by have := HI7.o.glt; omega))
     obtain ⟨k0, k1, k2, k3, k4⟩ := Qdt (n := (P.node op t.f3)) hXn
     have HPT := J0.m (Qjg (P.node op t.f3) HIn.o HA7.o (by omega))
     have HWn := J0.m hWn
     have HBN := J0.m hbn
     rw [hWn] at k0 k1 k2 k3 k4
     rw [hbn] at k0 k1 k2 k3 k4
     clear hWn hBn hXn hbn
     go_wp2_with fail
     rw [← HWn.o]
     refine HPT.o.mono ?_
     rintro e wp ⟨rfl, vnp, vdp, hip, hvp⟩
     have HVp := J0.m (HVn.o.trans hvp)
     obtain ⟨lv, l4, f4, hid, hvd⟩ := Qfb hip (Qin HA7.o (P.node op t.f3)) (by omega)
     have HID := J0.m hid
     have HVD := J0.m (HVp.o.trans hvd)
     clear hip hvp hid hvd
     go_wp2
     go_end0
     exact ⟨rfl, vnp, vdp, HID.o, HVD.o⟩
theorem Qpt (m : Nat) (HE : ∀ m', m' ≤ m → CT m' .expr 51) (w : World) (A : Option Addr) (c : Nat) (L : List Tk) (g : Nat) (vn vd : Value) (ts : List Tk) (lev : Nat) (ns : List Nd) (dp : List Int) (t : Tk) (hG : Qdo L) (h : Is w A c L g vn vd (.ok ts lev ns dp)) (ht : t = hd ts) (hk : t.f0 ≠ 0) (final : Res EO) (hfin : ∀ pl, final ≠ .bad 0 pl) (hf : ∀ pl, (goS m .expr ((levS (.ok ts lev ns dp)).step (Qar 40))) ≠ .bad 0 pl) (hcr : CatR final t lev ns dp m 1 (goS m .expr ((levS (.ok ts lev ns dp)).step (Qar 40)))) :
  Calls Try.prog 97 #[.pointer (some ⟨g, 0, none⟩), .int .i64 9, .int .i64 0] w fun e w' => e = .returned (.tuple #[]) ∧ Ends w A c L g vn vd (outS lev ns dp final) w' := by
 have hsz0 := h.sz
 have HA1 := J0.m (Qkk (lev := lev) (dp := dp) (by rw [← ht]; exact hk) hsz0)
 have HTK : J0 (Calls Try.prog 43 #[.pointer (some ⟨g, 0, none⟩)] w fun e w' => e = .returned (.agg #[.int .i64 t.f0, .string t.f1, .int .u64 t.f2, .int .i64 t.f3, .int .i64 t.f4]) ∧ Below w.heap.size w w') := ⟨(Qcm h).mono fun e w' ⟨t', he, ht', hb⟩ => ⟨by rw [he, ht' _ _ _ _ rfl, ht], hb⟩⟩
 have HLV : J0 (∀ W, Is W A c L g vn vd (.ok ts lev ns dp) → Calls Try.prog 95 #[.pointer (some ⟨g, 0, none⟩)] W fun e w' => e = .returned (.tuple #[]) ∧ Is w' A c L g vn vd (levS (.ok ts lev ns dp)) ∧ Hv W w' g vn vd vn vd) := ⟨fun W hW => Qet W A c L g vn vd _ hG (fun ts' lev' ns' dp' e => by cases e; rw [← ht]; exact hk) hW⟩
 have HI := J0.m h
 have HV := J0.m (Hv.refl (vn := vn) (vd := vd) (by have := h.glt; omega) : Hv w w g vn vd vn vd)
 have HG := J0.m hG
 have HE := J0.m HE
 obtain ⟨gd0, gd1, gd2, gd3⟩ := fld t
 obtain ⟨s1, hs1⟩ : ∃ s1, s1 = levS (.ok ts lev ns dp) := ⟨_, rfl⟩
 rw [← hs1] at HA1 HLV hf hcr
 have HF := J0.m hf
 have HFI := J0.m hfin
 have HCF := J0.m hcr
 clear h hG hf hfin hcr hs1 hk ht hsz0
 go_enter Try.func97, Try.ntmps97
 go_wp2_with fail
 refine HTK.o.mono ?_
 rintro e w1 ⟨rfl, hb⟩
 have HI1 := J0.m (HI.o.below hb)
 have HV1 := J0.m (HV.o.below hb (by have := HI.o.glt; omega))
 clear hb
 go_wp2_with fail
 refine (HLV.o w1 HI1.o).mono ?_
 rintro e w2 ⟨rfl, hi, hv⟩
 have HI2 := J0.m hi
 have HV2 := J0.m (HV1.o.trans hv)
 clear hi hv
 have HMK := J0.m (Qe7 40 HG.o HI2.o)
 go_wp2_with fail
 refine HMK.o.mono ?_
 rintro e w3 ⟨rfl, hi, hv⟩
 have HI3 := J0.m hi
 have HV3 := J0.m (HV2.o.trans hv)
 have HA3 := J0.m (Qcw (N := 33554430) HA1.o 40)
 clear hi hv HMK
 have HXP := J0.m (Qf4 (HE.o m (Nat.le_refl _)) HG.o HI3.o HF.o)
 go_wp2_with fail
 refine HXP.o.mono ?_
 rintro e w4 ⟨rfl, vn4, vd4, hi, hv⟩
 have HI4 := J0.m hi
 have HV4 := J0.m (HV3.o.trans hv)
 have HA4 := J0.m (Qgu (m := m) (f := .expr) HA3.o rfl)
 clear hi hv HXP
 go_wp2_with fail
 go_loopg [7] m (fun k s7 wr => ∃ j : Nat, s7 = .int .i64 (j : Int) ∧ j ≤ 33554433 ∧ J0 (∃ vn5 vd5 s, Hv w wr g vn vd vn5 vd5 ∧ Is wr A c L g vn5 vd5 s ∧ CatR final t lev ns dp k j s) ∧ J0 (k ≤ m))
 case atStart => exact ⟨1, rfl, by omega, ⟨vn4, vd4, _, HV4.o, HI4.o, HCF.o⟩, ⟨Nat.le_refl _⟩⟩
 case round =>
  obtain ⟨j, rfl, hj, ⟨vn5, vd5, s, hv, hi, hc⟩, hk⟩ := hrel
  have HI5 := J0.m hi
  have HV5 := J0.m hv
  have HC := J0.m hc
  have HIS := J0.m (Qaz wr A c L g vn5 vd5 s 4 ⟨#[44]⟩ hi)
  clear hi hv hc
  cases hb : s.is 4 ⟨#[44]⟩ with
  | true =>
   obtain ⟨k', rfl, hnz, hcr⟩ := Ql5 HC.o HFI.o hb
   have hj2 : j ≤ 33554432 := HI5.o.cnt HC.o.1 hb
   have hnx : wrap64 ((j : Int) + 1) = ((j + 1 : Nat) : Int) := by unfold wrap64; omega
   have HCR := J0.m hcr
   have HNZ := J0.m hnz
   have HNX := J0.m hnx
   have HB := J0.m hb
   rw [hb] at HIS
   clear hnz hcr hb hnx
   go_wp2_with fail
   refine HIS.o.mono ?_
   rintro e w6 ⟨rfl, hb6⟩
   have HI6 := J0.m (HI5.o.below hb6)
   have HV6 := J0.m (HV5.o.below hb6 (by have := HI5.o.glt; omega))
   clear hb6
   obtain ⟨at_, y1, f1, hi7, hv7⟩ := HI6.o.comma HG.o HB.o
   have HXP := J0.m (Qf4 (HE.o k' (by have := hk.o; omega)) HG.o hi7 HNZ.o)
   have HV7 := J0.m (HV6.o.trans hv7)
   clear hi7 hv7
   go_wp2_with fail
   refine HXP.o.mono ?_
   rintro e w8 ⟨rfl, vn8, vd8, hi, hv⟩
   have HI8 := J0.m hi
   have HV8 := J0.m (HV7.o.trans hv)
   clear hi hv HXP
   go_wp2
   go_roundg k'
   case measure => omega
   case rel => exact ⟨j + 1, by first | rfl | exact congrArg (Value.int .i64) (by omega), by omega, ⟨vn8, vd8, _, HV8.o, HI8.o, HCR.o⟩, ⟨by have := hk.o; omega⟩⟩
  | false =>
   have HEND := J0.m (Qn9 HC.o HFI.o hb)
   have HA := J0.m HC.o.1
   rw [hb] at HIS
   clear hb
   go_wp2_with fail
   refine HIS.o.mono ?_
   rintro e w6 ⟨rfl, hb6⟩
   have HI6 := J0.m (HI5.o.below hb6)
   have HV6 := J0.m (HV5.o.below hb6 (by have := HI5.o.glt; omega))
   clear hb6
   have HMK := J0.m (Qe7 41 HG.o HI6.o)
   go_wp2_with fail
   refine HMK.o.mono ?_
   rintro e w7 ⟨rfl, hi, hv⟩
   have HI7 := J0.m hi
   have HV7 := J0.m (HV6.o.trans hv)
   have HA7 := J0.m (Qcw (N := 33554430) HA.o 41)
   clear hi hv HMK
   obtain ⟨Wn, hWn⟩ : ∃ Wn, Wn = w7.alloc (.cells #[.int .i64 9, .int .i64 (j : Int), .int .u64 0, .string ⟨#[]⟩, .int .i64 t.f3] 49) := ⟨_, rfl⟩
   obtain ⟨bn, hbn⟩ : ∃ bn, bn = w7.heap.size := ⟨_, rfl⟩
   have hBn : Below w7.heap.size w7 Wn := by rw [hWn]; exact Qab (Below.refl _ _) _
   have hXn : Wn.heap[bn]? = some (.cells #[.int .i64 9, .int .i64 (j : Int), .int .u64 0, .string ⟨#[]⟩, .int .i64 t.f3] 49 (0, 0)) := by rw [hWn, hbn]; exact Qay _ _
   have HIn := J0.m (HI7.o.below hBn)
   have HVn := J0.m (HV7.o.below hBn (by have := HI7.o.glt; omega))
   obtain ⟨k0, k1, k2, k3, k4⟩ := Qdt (n := ⟨9, (j : Int), 0, ⟨#[]⟩, t.f3⟩) hXn
   have HPT := J0.m (Qjg ⟨9, (j : Int), 0, ⟨#[]⟩, t.f3⟩ HIn.o HA7.o (by omega))
   have HWn := J0.m hWn
   have HBN := J0.m hbn
   rw [hWn] at k0 k1 k2 k3 k4
   rw [hbn] at k0 k1 k2 k3 k4
   clear hWn hBn hXn hbn
   go_wp2_with fail
   rw [← HWn.o]
   refine HPT.o.mono ?_
   rintro e wp ⟨rfl, vnp, vdp, hip, hvp⟩
   have HVp := J0.m (HVn.o.trans hvp)
   obtain ⟨lv, l4, f4, hid, hvd⟩ := Qfb hip (Qin HA7.o ⟨9, (j : Int), 0, ⟨#[]⟩, t.f3⟩) (by omega)
   have HID := J0.m hid
   have HVD := J0.m (HVp.o.trans hvd)
   clear hip hvp hid hvd
   go_wp2
   go_end0
   exact ⟨rfl, vnp, vdp, by rw [← HEND.o]; exact HID.o, HVD.o⟩
theorem Qoe (R : Sg) (w : World) (A : Option Addr) (c : Nat) (L : List Tk) (g : Nat) (vn vd : Value) (s : Sg) (t : Tk) (h : Is w A c L g vn vd s) (b0 : s.is 1 ⟨#[99, 97, 116]⟩ = true) (HC : ∀ W, Is W A c L g vn vd s → Calls Try.prog 97 #[.pointer (some ⟨g, 0, none⟩), .int .i64 9, .int .i64 0] W fun e w' => e = .returned (.tuple #[]) ∧ Ends W A c L g vn vd R w') :
  Calls Try.prog 96 #[.pointer (some ⟨g, 0, none⟩), .agg #[.int .i64 t.f0, .string t.f1, .int .u64 t.f2, .int .i64 t.f3, .int .i64 t.f4]] w fun e w' => e = .returned (.tuple #[]) ∧ Ends w A c L g vn vd R w' := by
 obtain ⟨W, hW⟩ : ∃ W, W = w.alloc (.cells #[.int .i64 t.f0, .string t.f1, .int .u64 t.f2, .int .i64 t.f3, .int .i64 t.f4] 47) := ⟨_, rfl⟩
 have hB : Below w.heap.size w W := by rw [hW]; exact Qab (Below.refl _ _) _
 obtain ⟨b, hb⟩ : ∃ b, b = w.heap.size := ⟨_, rfl⟩
 have HX0 : J0 (W.heap[b]? = some (.cells #[.int .i64 t.f0, .string t.f1, .int .u64 t.f2, .int .i64 t.f3, .int .i64 t.f4] 47 (0, 0))) := ⟨by rw [hW, hb]; exact Qay _ _⟩
 have HI0 := J0.m (h.below hB)
 have HV0 := J0.m ((Hv.refl (vn := vn) (vd := vd) (by have := h.glt; omega) : Hv w w g vn vd vn vd).below hB (by have := h.glt; omega))
 have HC := J0.m HC
 have HW := J0.m hW
 have HB := J0.m hb
 have HB0 := J0.m b0
 clear h hB hW hb b0
 go_enter Try.func96, Try.ntmps96
 go_wp2_with fail
 rw [← HW.o, ← HB.o]
 refine (Qaz W A c L g vn vd s 1 ⟨#[99, 97, 116]⟩ HI0.o).mono ?_
 rw [HB0.o]
 rintro e w1 ⟨rfl, hb0⟩
 have HI1 := J0.m (HI0.o.below hb0)
 have HV1 := J0.m (HV0.o.below hb0 (by have := HI0.o.glt; omega))
 have HX1 := J0.m (Qae HX0.o hb0)
 clear hb0
 go_wp2_with fail
 refine (HC.o w1 HI1.o).mono ?_
 rintro e we ⟨rfl, vne, vde, hie, hve⟩
 have HIE := J0.m hie
 have HVE := J0.m (HV1.o.trans hve)
 clear hie hve
 go_wp2
 first | go_end0 | refine bodyPost_ret (results_none rfl _ _ _) rfl ?_
 exact ⟨rfl, vne, vde, HIE.o, HVE.o⟩
theorem Qob (R : Sg) (w : World) (A : Option Addr) (c : Nat) (L : List Tk) (g : Nat) (vn vd : Value) (s : Sg) (t : Tk) (h : Is w A c L g vn vd s) (b0 : s.is 1 ⟨#[99, 97, 116]⟩ = false) (b1 : s.is 1 ⟨#[114, 101, 112]⟩ = true) (HC : ∀ W, Is W A c L g vn vd s → Calls Try.prog 97 #[.pointer (some ⟨g, 0, none⟩), .int .i64 10, .int .i64 2] W fun e w' => e = .returned (.tuple #[]) ∧ Ends W A c L g vn vd R w') :
  Calls Try.prog 96 #[.pointer (some ⟨g, 0, none⟩), .agg #[.int .i64 t.f0, .string t.f1, .int .u64 t.f2, .int .i64 t.f3, .int .i64 t.f4]] w fun e w' => e = .returned (.tuple #[]) ∧ Ends w A c L g vn vd R w' := by
 obtain ⟨W, hW⟩ : ∃ W, W = w.alloc (.cells #[.int .i64 t.f0, .string t.f1, .int .u64 t.f2, .int .i64 t.f3, .int .i64 t.f4] 47) := ⟨_, rfl⟩
 have hB : Below w.heap.size w W := by rw [hW]; exact Qab (Below.refl _ _) _
 obtain ⟨b, hb⟩ : ∃ b, b = w.heap.size := ⟨_, rfl⟩
 have HX0 : J0 (W.heap[b]? = some (.cells #[.int .i64 t.f0, .string t.f1, .int .u64 t.f2, .int .i64 t.f3, .int .i64 t.f4] 47 (0, 0))) := ⟨by rw [hW, hb]; exact Qay _ _⟩
 have HI0 := J0.m (h.below hB)
 have HV0 := J0.m ((Hv.refl (vn := vn) (vd := vd) (by have := h.glt; omega) : Hv w w g vn vd vn vd).below hB (by have := h.glt; omega))
 have HC := J0.m HC
 have HW := J0.m hW
 have HB := J0.m hb
 have HB0 := J0.m b0
 have HB1 := J0.m b1
 clear h hB hW hb b0 b1
 go_enter Try.func96, Try.ntmps96
 go_wp2_with fail
 rw [← HW.o, ← HB.o]
 refine (Qaz W A c L g vn vd s 1 ⟨#[99, 97, 116]⟩ HI0.o).mono ?_
 rw [HB0.o]
 rintro e w1 ⟨rfl, hb0⟩
 have HI1 := J0.m (HI0.o.below hb0)
 have HV1 := J0.m (HV0.o.below hb0 (by have := HI0.o.glt; omega))
 have HX1 := J0.m (Qae HX0.o hb0)
 clear hb0
 go_wp2_with fail
 refine (Qaz w1 A c L g vn vd s 1 ⟨#[114, 101, 112]⟩ HI1.o).mono ?_
 rw [HB1.o]
 rintro e w2 ⟨rfl, hb1⟩
 have HI2 := J0.m (HI1.o.below hb1)
 have HV2 := J0.m (HV1.o.below hb1 (by have := HI1.o.glt; omega))
 have HX2 := J0.m (Qae HX1.o hb1)
 clear hb1
 go_wp2_with fail
 refine (HC.o w2 HI2.o).mono ?_
 rintro e we ⟨rfl, vne, vde, hie, hve⟩
 have HIE := J0.m hie
 have HVE := J0.m (HV2.o.trans hve)
 clear hie hve
 go_wp2
 first | go_end0 | refine bodyPost_ret (results_none rfl _ _ _) rfl ?_
 exact ⟨rfl, vne, vde, HIE.o, HVE.o⟩
theorem Qoc (R : Sg) (w : World) (A : Option Addr) (c : Nat) (L : List Tk) (g : Nat) (vn vd : Value) (s : Sg) (t : Tk) (h : Is w A c L g vn vd s) (b0 : s.is 1 ⟨#[99, 97, 116]⟩ = false) (b1 : s.is 1 ⟨#[114, 101, 112]⟩ = false) (b2 : s.is 1 ⟨#[108, 101, 110]⟩ = true) (HC : ∀ W, Is W A c L g vn vd s → Calls Try.prog 97 #[.pointer (some ⟨g, 0, none⟩), .int .i64 11, .int .i64 1] W fun e w' => e = .returned (.tuple #[]) ∧ Ends W A c L g vn vd R w') :
  Calls Try.prog 96 #[.pointer (some ⟨g, 0, none⟩), .agg #[.int .i64 t.f0, .string t.f1, .int .u64 t.f2, .int .i64 t.f3, .int .i64 t.f4]] w fun e w' => e = .returned (.tuple #[]) ∧ Ends w A c L g vn vd R w' := by
 obtain ⟨W, hW⟩ : ∃ W, W = w.alloc (.cells #[.int .i64 t.f0, .string t.f1, .int .u64 t.f2, .int .i64 t.f3, .int .i64 t.f4] 47) := ⟨_, rfl⟩
 have hB : Below w.heap.size w W := by rw [hW]; exact Qab (Below.refl _ _) _
 obtain ⟨b, hb⟩ : ∃ b, b = w.heap.size := ⟨_, rfl⟩
 have HX0 : J0 (W.heap[b]? = some (.cells #[.int .i64 t.f0, .string t.f1, .int .u64 t.f2, .int .i64 t.f3, .int .i64 t.f4] 47 (0, 0))) := ⟨by rw [hW, hb]; exact Qay _ _⟩
 have HI0 := J0.m (h.below hB)
 have HV0 := J0.m ((Hv.refl (vn := vn) (vd := vd) (by have := h.glt; omega) : Hv w w g vn vd vn vd).below hB (by have := h.glt; omega))
 have HC := J0.m HC
 have HW := J0.m hW
 have HB := J0.m hb
 have HB0 := J0.m b0
 have HB1 := J0.m b1
 have HB2 := J0.m b2
 clear h hB hW hb b0 b1 b2
 go_enter Try.func96, Try.ntmps96
 go_wp2_with fail
 rw [← HW.o, ← HB.o]
 refine (Qaz W A c L g vn vd s 1 ⟨#[99, 97, 116]⟩ HI0.o).mono ?_
 rw [HB0.o]
 rintro e w1 ⟨rfl, hb0⟩
 have HI1 := J0.m (HI0.o.below hb0)
 have HV1 := J0.m (HV0.o.below hb0 (by have := HI0.o.glt; omega))
 have HX1 := J0.m (Qae HX0.o hb0)
 clear hb0
 go_wp2_with fail
 refine (Qaz w1 A c L g vn vd s 1 ⟨#[114, 101, 112]⟩ HI1.o).mono ?_
 rw [HB1.o]
 rintro e w2 ⟨rfl, hb1⟩
 have HI2 := J0.m (HI1.o.below hb1)
 have HV2 := J0.m (HV1.o.below hb1 (by have := HI1.o.glt; omega))
 have HX2 := J0.m (Qae HX1.o hb1)
 clear hb1
 go_wp2_with fail
 refine (Qaz w2 A c L g vn vd s 1 ⟨#[108, 101, 110]⟩ HI2.o).mono ?_
 rw [HB2.o]
 rintro e w3 ⟨rfl, hb2⟩
 have HI3 := J0.m (HI2.o.below hb2)
 have HV3 := J0.m (HV2.o.below hb2 (by have := HI2.o.glt; omega))
 have HX3 := J0.m (Qae HX2.o hb2)
 clear hb2
 go_wp2_with fail
 refine (HC.o w3 HI3.o).mono ?_
 rintro e we ⟨rfl, vne, vde, hie, hve⟩
 have HIE := J0.m hie
 have HVE := J0.m (HV3.o.trans hve)
 clear hie hve
 go_wp2
 first | go_end0 | refine bodyPost_ret (results_none rfl _ _ _) rfl ?_
 exact ⟨rfl, vne, vde, HIE.o, HVE.o⟩
theorem Qod (R : Sg) (w : World) (A : Option Addr) (c : Nat) (L : List Tk) (g : Nat) (vn vd : Value) (s : Sg) (t : Tk) (h : Is w A c L g vn vd s) (b0 : s.is 1 ⟨#[99, 97, 116]⟩ = false) (b1 : s.is 1 ⟨#[114, 101, 112]⟩ = false) (b2 : s.is 1 ⟨#[108, 101, 110]⟩ = false) (b3 : s.is 1 ⟨#[104, 101, 120]⟩ = true) (HC : ∀ W, Is W A c L g vn vd s → Calls Try.prog 97 #[.pointer (some ⟨g, 0, none⟩), .int .i64 12, .int .i64 1] W fun e w' => e = .returned (.tuple #[]) ∧ Ends W A c L g vn vd R w') :
  Calls Try.prog 96 #[.pointer (some ⟨g, 0, none⟩), .agg #[.int .i64 t.f0, .string t.f1, .int .u64 t.f2, .int .i64 t.f3, .int .i64 t.f4]] w fun e w' => e = .returned (.tuple #[]) ∧ Ends w A c L g vn vd R w' := by
 obtain ⟨W, hW⟩ : ∃ W, W = w.alloc (.cells #[.int .i64 t.f0, .string t.f1, .int .u64 t.f2, .int .i64 t.f3, .int .i64 t.f4] 47) := ⟨_, rfl⟩
 have hB : Below w.heap.size w W := by rw [hW]; exact Qab (Below.refl _ _) _
 obtain ⟨b, hb⟩ : ∃ b, b = w.heap.size := ⟨_, rfl⟩
 have HX0 : J0 (W.heap[b]? = some (.cells #[.int .i64 t.f0, .string t.f1, .int .u64 t.f2, .int .i64 t.f3, .int .i64 t.f4] 47 (0, 0))) := ⟨by rw [hW, hb]; exact Qay _ _⟩
 have HI0 := J0.m (h.below hB)
 have HV0 := J0.m ((Hv.refl (vn := vn) (vd := vd) (by have := h.glt; omega) : Hv w w g vn vd vn vd).below hB (by have := h.glt; omega))
 have HC := J0.m HC
 have HW := J0.m hW
 have HB := J0.m hb
 have HB0 := J0.m b0
 have HB1 := J0.m b1
 have HB2 := J0.m b2
 have HB3 := J0.m b3
 clear h hB hW hb b0 b1 b2 b3
 go_enter Try.func96, Try.ntmps96
 go_wp2_with fail
 rw [← HW.o, ← HB.o]
 refine (Qaz W A c L g vn vd s 1 ⟨#[99, 97, 116]⟩ HI0.o).mono ?_
 rw [HB0.o]
 rintro e w1 ⟨rfl, hb0⟩
 have HI1 := J0.m (HI0.o.below hb0)
 have HV1 := J0.m (HV0.o.below hb0 (by have := HI0.o.glt; omega))
 have HX1 := J0.m (Qae HX0.o hb0)
 clear hb0
 go_wp2_with fail
 refine (Qaz w1 A c L g vn vd s 1 ⟨#[114, 101, 112]⟩ HI1.o).mono ?_
 rw [HB1.o]
 rintro e w2 ⟨rfl, hb1⟩
 have HI2 := J0.m (HI1.o.below hb1)
 have HV2 := J0.m (HV1.o.below hb1 (by have := HI1.o.glt; omega))
 have HX2 := J0.m (Qae HX1.o hb1)
 clear hb1
 go_wp2_with fail
 refine (Qaz w2 A c L g vn vd s 1 ⟨#[108, 101, 110]⟩ HI2.o).mono ?_
 rw [HB2.o]
 rintro e w3 ⟨rfl, hb2⟩
 have HI3 := J0.m (HI2.o.below hb2)
 have HV3 := J0.m (HV2.o.below hb2 (by have := HI2.o.glt; omega))
 have HX3 := J0.m (Qae HX2.o hb2)
 clear hb2
 go_wp2_with fail
 refine (Qaz w3 A c L g vn vd s 1 ⟨#[104, 101, 120]⟩ HI3.o).mono ?_
 rw [HB3.o]
 rintro e w4 ⟨rfl, hb3⟩
 have HI4 := J0.m (HI3.o.below hb3)
 have HV4 := J0.m (HV3.o.below hb3 (by have := HI3.o.glt; omega))
 have HX4 := J0.m (Qae HX3.o hb3)
 clear hb3
 go_wp2_with fail
 refine (HC.o w4 HI4.o).mono ?_
 rintro e we ⟨rfl, vne, vde, hie, hve⟩
 have HIE := J0.m hie
 have HVE := J0.m (HV4.o.trans hve)
 clear hie hve
 go_wp2
 first | go_end0 | refine bodyPost_ret (results_none rfl _ _ _) rfl ?_
 exact ⟨rfl, vne, vde, HIE.o, HVE.o⟩
theorem Qiy (R : Sg) (w : World) (A : Option Addr) (c : Nat) (L : List Tk) (g : Nat) (vn vd : Value) (s : Sg) (t : Tk) (h : Is w A c L g vn vd s) (b0 : s.is 1 ⟨#[99, 97, 116]⟩ = false) (b1 : s.is 1 ⟨#[114, 101, 112]⟩ = false) (b2 : s.is 1 ⟨#[108, 101, 110]⟩ = false) (b3 : s.is 1 ⟨#[104, 101, 120]⟩ = false) (HC : ∀ W, Is W A c L g vn vd s → Calls Try.prog 48 #[.pointer (some ⟨g, 0, none⟩), .int .i64 t.f3, .int .i64 90] W fun e w' => e = .returned (.tuple #[]) ∧ Ends W A c L g vn vd R w') :
  Calls Try.prog 96 #[.pointer (some ⟨g, 0, none⟩), .agg #[.int .i64 t.f0, .string t.f1, .int .u64 t.f2, .int .i64 t.f3, .int .i64 t.f4]] w fun e w' => e = .returned (.tuple #[]) ∧ Ends w A c L g vn vd R w' := by
 obtain ⟨W, hW⟩ : ∃ W, W = w.alloc (.cells #[.int .i64 t.f0, .string t.f1, .int .u64 t.f2, .int .i64 t.f3, .int .i64 t.f4] 47) := ⟨_, rfl⟩
 have hB : Below w.heap.size w W := by rw [hW]; exact Qab (Below.refl _ _) _
 obtain ⟨b, hb⟩ : ∃ b, b = w.heap.size := ⟨_, rfl⟩
 have HX0 : J0 (W.heap[b]? = some (.cells #[.int .i64 t.f0, .string t.f1, .int .u64 t.f2, .int .i64 t.f3, .int .i64 t.f4] 47 (0, 0))) := ⟨by rw [hW, hb]; exact Qay _ _⟩
 have HI0 := J0.m (h.below hB)
 have HV0 := J0.m ((Hv.refl (vn := vn) (vd := vd) (by have := h.glt; omega) : Hv w w g vn vd vn vd).below hB (by have := h.glt; omega))
 have HC := J0.m HC
 have HW := J0.m hW
 have HB := J0.m hb
 have HB0 := J0.m b0
 have HB1 := J0.m b1
 have HB2 := J0.m b2
 have HB3 := J0.m b3
 clear h hB hW hb b0 b1 b2 b3
 go_enter Try.func96, Try.ntmps96
 go_wp2_with fail
 rw [← HW.o, ← HB.o]
 refine (Qaz W A c L g vn vd s 1 ⟨#[99, 97, 116]⟩ HI0.o).mono ?_
 rw [HB0.o]
 rintro e w1 ⟨rfl, hb0⟩
 have HI1 := J0.m (HI0.o.below hb0)
 have HV1 := J0.m (HV0.o.below hb0 (by have := HI0.o.glt; omega))
 have HX1 := J0.m (Qae HX0.o hb0)
 clear hb0
 go_wp2_with fail
 refine (Qaz w1 A c L g vn vd s 1 ⟨#[114, 101, 112]⟩ HI1.o).mono ?_
 rw [HB1.o]
 rintro e w2 ⟨rfl, hb1⟩
 have HI2 := J0.m (HI1.o.below hb1)
 have HV2 := J0.m (HV1.o.below hb1 (by have := HI1.o.glt; omega))
 have HX2 := J0.m (Qae HX1.o hb1)
 clear hb1
 go_wp2_with fail
 refine (Qaz w2 A c L g vn vd s 1 ⟨#[108, 101, 110]⟩ HI2.o).mono ?_
 rw [HB2.o]
 rintro e w3 ⟨rfl, hb2⟩
 have HI3 := J0.m (HI2.o.below hb2)
 have HV3 := J0.m (HV2.o.below hb2 (by have := HI2.o.glt; omega))
 have HX3 := J0.m (Qae HX2.o hb2)
 clear hb2
 go_wp2_with fail
 refine (Qaz w3 A c L g vn vd s 1 ⟨#[104, 101, 120]⟩ HI3.o).mono ?_
 rw [HB3.o]
 rintro e w4 ⟨rfl, hb3⟩
 have HI4 := J0.m (HI3.o.below hb3)
 have HV4 := J0.m (HV3.o.below hb3 (by have := HI3.o.glt; omega))
 have HX4 := J0.m (Qae HX3.o hb3)
 clear hb3
 obtain ⟨z0, z1, z2, z3, z4⟩ := Qbi HX4.o
 go_wp2_with fail
 refine (HC.o w4 HI4.o).mono ?_
 rintro e we ⟨rfl, vne, vde, hie, hve⟩
 have HIE := J0.m hie
 have HVE := J0.m (HV4.o.trans hve)
 clear hie hve
 go_wp2
 first | go_end0 | refine bodyPost_ret (results_none rfl _ _ _) rfl ?_
 exact ⟨rfl, vne, vde, HIE.o, HVE.o⟩
theorem Qk7 (w : World) (A : Option Addr) (c : Nat) (L : List Tk) (g : Nat) (vn vd : Value) (ts : List Tk) (lev : Nat) (ns : List Nd) (dp : List Int) (t : Tk) (hG : Qdo L) (h : Is w A c L g vn vd (.ok ts lev ns dp)) (ht : t = hd ts) (d2 : (t.f0 == 2) = true) (hk : t.f0 ≠ 0) :
  Calls Try.prog 87 #[.pointer (some ⟨g, 0, none⟩)] w fun e w' => e = .returned (.tuple #[]) ∧ Ends w A c L g vn vd (puG ⟨1, 0, t.f2, ⟨#[]⟩, t.f3⟩ 0 (.ok ts.tail lev ns dp)) w' := by
 have HTK : J0 (Calls Try.prog 43 #[.pointer (some ⟨g, 0, none⟩)] w fun e w' => e = .returned (.agg #[.int .i64 t.f0, .string t.f1, .int .u64 t.f2, .int .i64 t.f3, .int .i64 t.f4]) ∧ Below w.heap.size w w') := ⟨(Qcm h).mono fun e w' ⟨t', he, ht', hb⟩ => ⟨by rw [he, ht' _ _ _ _ rfl, ht], hb⟩⟩
 have y3 := h.sound
 have HI := J0.m h
 have HV := J0.m (Hv.refl (vn := vn) (vd := vd) (by have := h.glt; omega) : Hv w w g vn vd vn vd)
 have HG := J0.m hG
 have HT := J0.m ht
 have HSZ := J0.m h.sz
 have HKD := J0.m hk
 clear h hG ht hk
 go_enter Try.func87, Try.ntmps87
 go_wp2_with fail
 refine HTK.o.mono ?_
 rintro e w1 ⟨rfl, hb⟩
 have hi1 := HI.o.below hb
 have hv1 := HV.o.below hb (by have := HI.o.glt; omega)
 obtain ⟨W1, hW1⟩ : ∃ W1, W1 = w1.alloc (.cells #[.int .i64 t.f0, .string t.f1, .int .u64 t.f2, .int .i64 t.f3, .int .i64 t.f4] 47) := ⟨_, rfl⟩
 have hB1 : Below w1.heap.size w1 W1 := by rw [hW1]; exact Qab (Below.refl _ _) _
 obtain ⟨b, hbb⟩ : ∃ b, b = w1.heap.size := ⟨_, rfl⟩
 have HX1 : J0 (W1.heap[b]? = some (.cells #[.int .i64 t.f0, .string t.f1, .int .u64 t.f2, .int .i64 t.f3, .int .i64 t.f4] 47 (0, 0))) := ⟨by rw [hW1, hbb]; exact Qay _ _⟩
 have HI1 := J0.m (hi1.below hB1)
 have HV1 := J0.m (hv1.below hB1 (by have := hi1.glt; omega))
 obtain ⟨z0, z1, z2, z3, z4⟩ := Qbi HX1.o
 have HW1 := J0.m hW1
 have HBB := J0.m hbb
 obtain ⟨at_, y1, f1, hi4, hv4⟩ := HI1.o.adv HG.o (by rw [← HT.o]; exact HKD.o)
 have hx4 := HI1.o.Qbv hv4 HX1.o
 obtain ⟨x0, x1, x2, x3, x4⟩ := Qbi hx4
 obtain ⟨W4, hW4⟩ : ∃ W4, W4 = W1.setCell ⟨g, 1, none⟩ (.int .i64 (wrap64 (at_ + 1))) := ⟨_, rfl⟩
 have HI4 : J0 (Is W4 A c L g vn vd (.ok ts.tail lev ns dp)) := ⟨by rw [hW4]; exact hi4⟩
 have HV4 : J0 (Hv w W4 g vn vd vn vd) := ⟨by rw [hW4]; exact HV1.o.trans hv4⟩
 have HW4 := J0.m hW4
 rw [hW1] at y1 f1 z0 z1 z2 z3 z4 x0 x1 x2 x3 x4
 rw [hbb] at z0 z1 z2 z3 z4 x0 x1 x2 x3 x4
 clear hi1 hv1 hb hB1 hW1 hbb hi4 hv4 hx4 hW4
 have HPT := J0.m (Qjg (N := 33554431) (k := 0) (l := lev) ⟨1, 0, t.f2, ⟨#[]⟩, t.f3⟩ HI4.o (fun ts' lev' ns' dp' e => by cases e; exact ⟨by have := HSZ.o; have := P.Qc7 (ts := ts) (by rw [← HT.o]; exact HKD.o); omega, Nat.zero_le _, rfl⟩) (by omega))
 go_wp2_with fail
 rw [← HW1.o, ← HW4.o]
 refine HPT.o.mono ?_
 rintro e we ⟨rfl, vne, vde, hie, hve⟩
 have HIE := J0.m hie
 have HVE := J0.m (HV4.o.trans hve)
 clear hie hve
 go_wp2
 first | go_end0 | refine bodyPost_ret (results_none rfl _ _ _) rfl ?_
 exact ⟨rfl, vne, vde, HIE.o, HVE.o⟩
theorem Qjh (w : World) (A : Option Addr) (c : Nat) (L : List Tk) (g : Nat) (vn vd : Value) (ts : List Tk) (lev : Nat) (ns : List Nd) (dp : List Int) (t : Tk) (hG : Qdo L) (h : Is w A c L g vn vd (.ok ts lev ns dp)) (ht : t = hd ts) (d2 : (t.f0 == 2) = false) (d3 : (t.f0 == 3) = true) (hk : t.f0 ≠ 0) :
  Calls Try.prog 87 #[.pointer (some ⟨g, 0, none⟩)] w fun e w' => e = .returned (.tuple #[]) ∧ Ends w A c L g vn vd (puG ⟨2, 0, 0, t.f1, t.f3⟩ 0 (.ok ts.tail lev ns dp)) w' := by
 have HTK : J0 (Calls Try.prog 43 #[.pointer (some ⟨g, 0, none⟩)] w fun e w' => e = .returned (.agg #[.int .i64 t.f0, .string t.f1, .int .u64 t.f2, .int .i64 t.f3, .int .i64 t.f4]) ∧ Below w.heap.size w w') := ⟨(Qcm h).mono fun e w' ⟨t', he, ht', hb⟩ => ⟨by rw [he, ht' _ _ _ _ rfl, ht], hb⟩⟩
 have y3 := h.sound
 have HI := J0.m h
 have HV := J0.m (Hv.refl (vn := vn) (vd := vd) (by have := h.glt; omega) : Hv w w g vn vd vn vd)
 have HG := J0.m hG
 have HT := J0.m ht
 have HSZ := J0.m h.sz
 have HKD := J0.m hk
 clear h hG ht hk
 go_enter Try.func87, Try.ntmps87
 go_wp2_with fail
 refine HTK.o.mono ?_
 rintro e w1 ⟨rfl, hb⟩
 have hi1 := HI.o.below hb
 have hv1 := HV.o.below hb (by have := HI.o.glt; omega)
 obtain ⟨W1, hW1⟩ : ∃ W1, W1 = w1.alloc (.cells #[.int .i64 t.f0, .string t.f1, .int .u64 t.f2, .int .i64 t.f3, .int .i64 t.f4] 47) := ⟨_, rfl⟩
 have hB1 : Below w1.heap.size w1 W1 := by rw [hW1]; exact Qab (Below.refl _ _) _
 obtain ⟨b, hbb⟩ : ∃ b, b = w1.heap.size := ⟨_, rfl⟩
 have HX1 : J0 (W1.heap[b]? = some (.cells #[.int .i64 t.f0, .string t.f1, .int .u64 t.f2, .int .i64 t.f3, .int .i64 t.f4] 47 (0, 0))) := ⟨by rw [hW1, hbb]; exact Qay _ _⟩
 have HI1 := J0.m (hi1.below hB1)
 have HV1 := J0.m (hv1.below hB1 (by have := hi1.glt; omega))
 obtain ⟨z0, z1, z2, z3, z4⟩ := Qbi HX1.o
 have HW1 := J0.m hW1
 have HBB := J0.m hbb
 obtain ⟨at_, y1, f1, hi4, hv4⟩ := HI1.o.adv HG.o (by rw [← HT.o]; exact HKD.o)
 have hx4 := HI1.o.Qbv hv4 HX1.o
 obtain ⟨x0, x1, x2, x3, x4⟩ := Qbi hx4
 obtain ⟨W4, hW4⟩ : ∃ W4, W4 = W1.setCell ⟨g, 1, none⟩ (.int .i64 (wrap64 (at_ + 1))) := ⟨_, rfl⟩
 have HI4 : J0 (Is W4 A c L g vn vd (.ok ts.tail lev ns dp)) := ⟨by rw [hW4]; exact hi4⟩
 have HV4 : J0 (Hv w W4 g vn vd vn vd) := ⟨by rw [hW4]; exact HV1.o.trans hv4⟩
 have HW4 := J0.m hW4
 rw [hW1] at y1 f1 z0 z1 z2 z3 z4 x0 x1 x2 x3 x4
 rw [hbb] at z0 z1 z2 z3 z4 x0 x1 x2 x3 x4
 clear hi1 hv1 hb hB1 hW1 hbb hi4 hv4 hx4 hW4
 have HPT := J0.m (Qjg (N := 33554431) (k := 0) (l := lev) ⟨2, 0, 0, t.f1, t.f3⟩ HI4.o (fun ts' lev' ns' dp' e => by cases e; exact ⟨by have := HSZ.o; have := P.Qc7 (ts := ts) (by rw [← HT.o]; exact HKD.o); omega, Nat.zero_le _, rfl⟩) (by omega))
 go_wp2_with fail
 rw [← HW1.o, ← HW4.o]
 refine HPT.o.mono ?_
 rintro e we ⟨rfl, vne, vde, hie, hve⟩
 have HIE := J0.m hie
 have HVE := J0.m (HV4.o.trans hve)
 clear hie hve
 go_wp2
 first | go_end0 | refine bodyPost_ret (results_none rfl _ _ _) rfl ?_
 exact ⟨rfl, vne, vde, HIE.o, HVE.o⟩
theorem Qpj (w : World) (A : Option Addr) (c : Nat) (L : List Tk) (g : Nat) (vn vd : Value) (ts : List Tk) (lev : Nat) (ns : List Nd) (dp : List Int) (t : Tk) (hG : Qdo L) (h : Is w A c L g vn vd (.ok ts lev ns dp)) (ht : t = hd ts) (d2 : (t.f0 == 2) = false) (d3 : (t.f0 == 3) = false) (b2 : Sg.is 1 ⟨#[116, 114, 117, 101]⟩ (.ok ts lev ns dp) = true) (hk : t.f0 ≠ 0) :
  Calls Try.prog 87 #[.pointer (some ⟨g, 0, none⟩)] w fun e w' => e = .returned (.tuple #[]) ∧ Ends w A c L g vn vd (puG (P.node 3 t.f3) 0 (.ok ts.tail lev ns dp)) w' := by
 have HTK : J0 (Calls Try.prog 43 #[.pointer (some ⟨g, 0, none⟩)] w fun e w' => e = .returned (.agg #[.int .i64 t.f0, .string t.f1, .int .u64 t.f2, .int .i64 t.f3, .int .i64 t.f4]) ∧ Below w.heap.size w w') := ⟨(Qcm h).mono fun e w' ⟨t', he, ht', hb⟩ => ⟨by rw [he, ht' _ _ _ _ rfl, ht], hb⟩⟩
 have y3 := h.sound
 have HI := J0.m h
 have HV := J0.m (Hv.refl (vn := vn) (vd := vd) (by have := h.glt; omega) : Hv w w g vn vd vn vd)
 have HG := J0.m hG
 have HT := J0.m ht
 have HSZ := J0.m h.sz
 have HB2 := J0.m b2
 have HKD := J0.m hk
 clear h hG ht b2 hk
 go_enter Try.func87, Try.ntmps87
 go_wp2_with fail
 refine HTK.o.mono ?_
 rintro e w1 ⟨rfl, hb⟩
 have hi1 := HI.o.below hb
 have hv1 := HV.o.below hb (by have := HI.o.glt; omega)
 obtain ⟨W1, hW1⟩ : ∃ W1, W1 = w1.alloc (.cells #[.int .i64 t.f0, .string t.f1, .int .u64 t.f2, .int .i64 t.f3, .int .i64 t.f4] 47) := ⟨_, rfl⟩
 have hB1 : Below w1.heap.size w1 W1 := by rw [hW1]; exact Qab (Below.refl _ _) _
 obtain ⟨b, hbb⟩ : ∃ b, b = w1.heap.size := ⟨_, rfl⟩
 have HX1 : J0 (W1.heap[b]? = some (.cells #[.int .i64 t.f0, .string t.f1, .int .u64 t.f2, .int .i64 t.f3, .int .i64 t.f4] 47 (0, 0))) := ⟨by rw [hW1, hbb]; exact Qay _ _⟩
 have HI1 := J0.m (hi1.below hB1)
 have HV1 := J0.m (hv1.below hB1 (by have := hi1.glt; omega))
 obtain ⟨z0, z1, z2, z3, z4⟩ := Qbi HX1.o
 have HW1 := J0.m hW1
 have HBB := J0.m hbb
 rw [hW1] at z0 z1 z2 z3 z4
 rw [hbb] at z0 z1 z2 z3 z4
 clear hi1 hv1 hb hB1 hW1 hbb
 go_wp2_with fail
 rw [← HW1.o, ← HBB.o]
 clear z0 z1 z2 z3 z4 y3 d2 d3
 refine (Qaz W1 A c L g vn vd _ 1 ⟨#[116, 114, 117, 101]⟩ HI1.o).mono ?_
 rw [HB2.o]
 rintro e v2 ⟨rfl, hb2⟩
 have HJ2 := J0.m (HI1.o.below hb2)
 have HU2 := J0.m (HV1.o.below hb2 (by have := HI1.o.glt; omega))
 have HY2 := J0.m (Qae HX1.o hb2)
 clear hb2
 obtain ⟨at_, y1, f1, hi4, hv4⟩ := HJ2.o.adv HG.o (by rw [← HT.o]; exact HKD.o)
 have hx4 := HJ2.o.Qbv hv4 HY2.o
 obtain ⟨x0, x1, x2, x3, x4⟩ := Qbi hx4
 obtain ⟨W4, hW4⟩ : ∃ W4, W4 = v2.setCell ⟨g, 1, none⟩ (.int .i64 (wrap64 (at_ + 1))) := ⟨_, rfl⟩
 have HI4 : J0 (Is W4 A c L g vn vd (.ok ts.tail lev ns dp)) := ⟨by rw [hW4]; exact hi4⟩
 have HV4 : J0 (Hv w W4 g vn vd vn vd) := ⟨by rw [hW4]; exact HU2.o.trans hv4⟩
 have HW4 := J0.m hW4
 clear hi4 hv4 hx4 hW4
 have HPT := J0.m (Qjg (N := 33554431) (k := 0) (l := lev) (P.node 3 t.f3) HI4.o (fun ts' lev' ns' dp' e => by cases e; exact ⟨by have := HSZ.o; have := P.Qc7 (ts := ts) (by rw [← HT.o]; exact HKD.o); omega, Nat.zero_le _, rfl⟩) (by omega))
 go_wp2_with fail
 rw [← HW4.o]
 refine HPT.o.mono ?_
 rintro e we ⟨rfl, vne, vde, hie, hve⟩
 have HIE := J0.m hie
 have HVE := J0.m (HV4.o.trans hve)
 clear hie hve
 go_wp2
 first | go_end0 | refine bodyPost_ret (results_none rfl _ _ _) rfl ?_
 exact ⟨rfl, vne, vde, HIE.o, HVE.o⟩
theorem Qnx (w : World) (A : Option Addr) (c : Nat) (L : List Tk) (g : Nat) (vn vd : Value) (ts : List Tk) (lev : Nat) (ns : List Nd) (dp : List Int) (t : Tk) (hG : Qdo L) (h : Is w A c L g vn vd (.ok ts lev ns dp)) (ht : t = hd ts) (d2 : (t.f0 == 2) = false) (d3 : (t.f0 == 3) = false) (b2 : Sg.is 1 ⟨#[116, 114, 117, 101]⟩ (.ok ts lev ns dp) = false) (b3 : Sg.is 1 ⟨#[102, 97, 108, 115, 101]⟩ (.ok ts lev ns dp) = true) (hk : t.f0 ≠ 0) :
  Calls Try.prog 87 #[.pointer (some ⟨g, 0, none⟩)] w fun e w' => e = .returned (.tuple #[]) ∧ Ends w A c L g vn vd (puG (P.node 4 t.f3) 0 (.ok ts.tail lev ns dp)) w' := by
 have HTK : J0 (Calls Try.prog 43 #[.pointer (some ⟨g, 0, none⟩)] w fun e w' => e = .returned (.agg #[.int .i64 t.f0, .string t.f1, .int .u64 t.f2, .int .i64 t.f3, .int .i64 t.f4]) ∧ Below w.heap.size w w') := ⟨(Qcm h).mono fun e w' ⟨t', he, ht', hb⟩ => ⟨by rw [he, ht' _ _ _ _ rfl, ht], hb⟩⟩
 have y3 := h.sound
 have HI := J0.m h
 have HV := J0.m (Hv.refl (vn := vn) (vd := vd) (by have := h.glt; omega) : Hv w w g vn vd vn vd)
 have HG := J0.m hG
 have HT := J0.m ht
 have HSZ := J0.m h.sz
 have HB2 := J0.m b2
 have HB3 := J0.m b3
 have HKD := J0.m hk
 clear h hG ht b2 b3 hk
 go_enter Try.func87, Try.ntmps87
 go_wp2_with fail
 refine HTK.o.mono ?_
 rintro e w1 ⟨rfl, hb⟩
 have hi1 := HI.o.below hb
 have hv1 := HV.o.below hb (by have := HI.o.glt; omega)
 obtain ⟨W1, hW1⟩ : ∃ W1, W1 = w1.alloc (.cells #[.int .i64 t.f0, .string t.f1, .int .u64 t.f2, .int .i64 t.f3, .int .i64 t.f4] 47) := ⟨_, rfl⟩
 have hB1 : Below w1.heap.size w1 W1 := by rw [hW1]; exact Qab (Below.refl _ _) _
 obtain ⟨b, hbb⟩ : ∃ b, b = w1.heap.size := ⟨_, rfl⟩
 have HX1 : J0 (W1.heap[b]? = some (.cells #[.int .i64 t.f0, .string t.f1, .int .u64 t.f2, .int .i64 t.f3, .int .i64 t.f4] 47 (0, 0))) := ⟨by rw [hW1, hbb]; exact Qay _ _⟩
 have HI1 := J0.m (hi1.below hB1)
 have HV1 := J0.m (hv1.below hB1 (by have := hi1.glt; omega))
 obtain ⟨z0, z1, z2, z3, z4⟩ := Qbi HX1.o
 have HW1 := J0.m hW1
 have HBB := J0.m hbb
 rw [hW1] at z0 z1 z2 z3 z4
 rw [hbb] at z0 z1 z2 z3 z4
 clear hi1 hv1 hb hB1 hW1 hbb
 go_wp2_with fail
 rw [← HW1.o, ← HBB.o]
 clear z0 z1 z2 z3 z4 y3 d2 d3
 refine (Qaz W1 A c L g vn vd _ 1 ⟨#[116, 114, 117, 101]⟩ HI1.o).mono ?_
 rw [HB2.o]
 rintro e v2 ⟨rfl, hb2⟩
 have HJ2 := J0.m (HI1.o.below hb2)
 have HU2 := J0.m (HV1.o.below hb2 (by have := HI1.o.glt; omega))
 have HY2 := J0.m (Qae HX1.o hb2)
 clear hb2
 go_wp2_with fail
 refine (Qaz v2 A c L g vn vd _ 1 ⟨#[102, 97, 108, 115, 101]⟩ HJ2.o).mono ?_
 rw [HB3.o]
 rintro e v3 ⟨rfl, hb3⟩
 have HJ3 := J0.m (HJ2.o.below hb3)
 have HU3 := J0.m (HU2.o.below hb3 (by have := HJ2.o.glt; omega))
 have HY3 := J0.m (Qae HY2.o hb3)
 clear hb3
 obtain ⟨at_, y1, f1, hi4, hv4⟩ := HJ3.o.adv HG.o (by rw [← HT.o]; exact HKD.o)
 have hx4 := HJ3.o.Qbv hv4 HY3.o
 obtain ⟨x0, x1, x2, x3, x4⟩ := Qbi hx4
 obtain ⟨W4, hW4⟩ : ∃ W4, W4 = v3.setCell ⟨g, 1, none⟩ (.int .i64 (wrap64 (at_ + 1))) := ⟨_, rfl⟩
 have HI4 : J0 (Is W4 A c L g vn vd (.ok ts.tail lev ns dp)) := ⟨by rw [hW4]; exact hi4⟩
 have HV4 : J0 (Hv w W4 g vn vd vn vd) := ⟨by rw [hW4]; exact HU3.o.trans hv4⟩
 have HW4 := J0.m hW4
 clear hi4 hv4 hx4 hW4
 have HPT := J0.m (Qjg (N := 33554431) (k := 0) (l := lev) (P.node 4 t.f3) HI4.o (fun ts' lev' ns' dp' e => by cases e; exact ⟨by have := HSZ.o; have := P.Qc7 (ts := ts) (by rw [← HT.o]; exact HKD.o); omega, Nat.zero_le _, rfl⟩) (by omega))
 go_wp2_with fail
 rw [← HW4.o]
 refine HPT.o.mono ?_
 rintro e we ⟨rfl, vne, vde, hie, hve⟩
 have HIE := J0.m hie
 have HVE := J0.m (HV4.o.trans hve)
 clear hie hve
 go_wp2
 first | go_end0 | refine bodyPost_ret (results_none rfl _ _ _) rfl ?_
 exact ⟨rfl, vne, vde, HIE.o, HVE.o⟩
theorem Qk8 (w : World) (A : Option Addr) (c : Nat) (L : List Tk) (g : Nat) (vn vd : Value) (ts : List Tk) (lev : Nat) (ns : List Nd) (dp : List Int) (t : Tk) (hG : Qdo L) (h : Is w A c L g vn vd (.ok ts lev ns dp)) (ht : t = hd ts) (d2 : (t.f0 == 2) = false) (d3 : (t.f0 == 3) = false) (b2 : Sg.is 1 ⟨#[116, 114, 117, 101]⟩ (.ok ts lev ns dp) = false) (b3 : Sg.is 1 ⟨#[102, 97, 108, 115, 101]⟩ (.ok ts lev ns dp) = false) (b4 : Sg.is 4 ⟨#[45]⟩ (.ok ts lev ns dp) = true) (hk : t.f0 ≠ 0) (m : Nat) (HE : CT m .fac 87) (hf : ∀ pl, goS m .fac (levS (.ok ts lev ns dp)) ≠ .bad 0 pl) :
  Calls Try.prog 87 #[.pointer (some ⟨g, 0, none⟩)] w fun e w' => e = .returned (.tuple #[]) ∧ Ends w A c L g vn vd (puG (P.node 5 t.f3) 1 (goS m .fac (levS (.ok ts lev ns dp)))).down w' := by
 have HTK : J0 (Calls Try.prog 43 #[.pointer (some ⟨g, 0, none⟩)] w fun e w' => e = .returned (.agg #[.int .i64 t.f0, .string t.f1, .int .u64 t.f2, .int .i64 t.f3, .int .i64 t.f4]) ∧ Below w.heap.size w w') := ⟨(Qcm h).mono fun e w' ⟨t', he, ht', hb⟩ => ⟨by rw [he, ht' _ _ _ _ rfl, ht], hb⟩⟩
 have y3 := h.sound
 have HI := J0.m h
 have HV := J0.m (Hv.refl (vn := vn) (vd := vd) (by have := h.glt; omega) : Hv w w g vn vd vn vd)
 have HG := J0.m hG
 have HT := J0.m ht
 have HSZ := J0.m h.sz
 have HB2 := J0.m b2
 have HB3 := J0.m b3
 have HB4 := J0.m b4
 have HKD := J0.m hk
 have HE := J0.m HE
 have HF := J0.m hf
 clear h hG ht b2 b3 b4 hk hf
 go_enter Try.func87, Try.ntmps87
 go_wp2_with fail
 refine HTK.o.mono ?_
 rintro e w1 ⟨rfl, hb⟩
 have hi1 := HI.o.below hb
 have hv1 := HV.o.below hb (by have := HI.o.glt; omega)
 obtain ⟨W1, hW1⟩ : ∃ W1, W1 = w1.alloc (.cells #[.int .i64 t.f0, .string t.f1, .int .u64 t.f2, .int .i64 t.f3, .int .i64 t.f4] 47) := ⟨_, rfl⟩
 have hB1 : Below w1.heap.size w1 W1 := by rw [hW1]; exact Qab (Below.refl _ _) _
 obtain ⟨b, hbb⟩ : ∃ b, b = w1.heap.size := ⟨_, rfl⟩
 have HX1 : J0 (W1.heap[b]? = some (.cells #[.int .i64 t.f0, .string t.f1, .int .u64 t.f2, .int .i64 t.f3, .int .i64 t.f4] 47 (0, 0))) := ⟨by rw [hW1, hbb]; exact Qay _ _⟩
 have HI1 := J0.m (hi1.below hB1)
 have HV1 := J0.m (hv1.below hB1 (by have := hi1.glt; omega))
 obtain ⟨z0, z1, z2, z3, z4⟩ := Qbi HX1.o
 have HW1 := J0.m hW1
 have HBB := J0.m hbb
 rw [hW1] at z0 z1 z2 z3 z4
 rw [hbb] at z0 z1 z2 z3 z4
 clear hi1 hv1 hb hB1 hW1 hbb
 go_wp2_with fail
 rw [← HW1.o, ← HBB.o]
 clear z0 z1 z2 z3 z4 y3 d2 d3
 refine (Qaz W1 A c L g vn vd _ 1 ⟨#[116, 114, 117, 101]⟩ HI1.o).mono ?_
 rw [HB2.o]
 rintro e v2 ⟨rfl, hb2⟩
 have HJ2 := J0.m (HI1.o.below hb2)
 have HU2 := J0.m (HV1.o.below hb2 (by have := HI1.o.glt; omega))
 have HY2 := J0.m (Qae HX1.o hb2)
 clear hb2
 go_wp2_with fail
 refine (Qaz v2 A c L g vn vd _ 1 ⟨#[102, 97, 108, 115, 101]⟩ HJ2.o).mono ?_
 rw [HB3.o]
 rintro e v3 ⟨rfl, hb3⟩
 have HJ3 := J0.m (HJ2.o.below hb3)
 have HU3 := J0.m (HU2.o.below hb3 (by have := HJ2.o.glt; omega))
 have HY3 := J0.m (Qae HY2.o hb3)
 clear hb3
 go_wp2_with fail
 refine (Qaz v3 A c L g vn vd _ 4 ⟨#[45]⟩ HJ3.o).mono ?_
 rw [HB4.o]
 rintro e v4 ⟨rfl, hb4⟩
 have HJ4 := J0.m (HJ3.o.below hb4)
 have HU4 := J0.m (HU3.o.below hb4 (by have := HJ3.o.glt; omega))
 have HY4 := J0.m (Qae HY3.o hb4)
 clear hb4
 go_wp2_with fail
 refine (Qet v4 A c L g vn vd _ HG.o (fun ts' lev' ns' dp' e => by cases e; rw [← HT.o]; exact HKD.o) HJ4.o).mono ?_
 rintro e w5 ⟨rfl, hi, hv⟩
 have HI5 := J0.m hi
 have HV5 := J0.m (HU4.o.trans hv)
 have HX5 := J0.m (HJ4.o.Qbv hv HY4.o)
 have HA5 := J0.m (Qkk (lev := lev) (dp := dp) (by rw [← HT.o]; exact HKD.o) HSZ.o)
 clear hi hv
 have HXP := J0.m (gfac HE.o HG.o HI5.o HF.o)
 go_wp2_with fail
 refine HXP.o.mono ?_
 rintro e w6 ⟨rfl, vn6, vd6, hi, hv⟩
 have HI6 := J0.m hi
 have HV6 := J0.m (HV5.o.trans hv)
 have HX6 := J0.m (HI5.o.Qbv hv HX5.o)
 have HA6 := J0.m (Qgu (m := m) (f := .fac) HA5.o rfl)
 clear hi hv HXP
 obtain ⟨x0, x1, x2, x3, x4⟩ := Qbi HX6.o
 have HPT := J0.m (Qjg (P.node 5 t.f3) HI6.o HA6.o (by omega))
 go_wp2_with fail
 refine HPT.o.mono ?_
 rintro e wp ⟨rfl, vnp, vdp, hip, hvp⟩
 have HVp := J0.m (HV6.o.trans hvp)
 obtain ⟨lv, l4, f4, hid, hvd⟩ := Qfb hip (Qin HA6.o (P.node 5 t.f3)) (by omega)
 have HID := J0.m hid
 have HVD := J0.m (HVp.o.trans hvd)
 clear hip hvp hid hvd
 go_wp2
 go_end0
 exact ⟨rfl, _, _, HID.o, HVD.o⟩
theorem Qk6 (w : World) (A : Option Addr) (c : Nat) (L : List Tk) (g : Nat) (vn vd : Value) (ts : List Tk) (lev : Nat) (ns : List Nd) (dp : List Int) (t : Tk) (hG : Qdo L) (h : Is w A c L g vn vd (.ok ts lev ns dp)) (ht : t = hd ts) (d2 : (t.f0 == 2) = false) (d3 : (t.f0 == 3) = false) (b2 : Sg.is 1 ⟨#[116, 114, 117, 101]⟩ (.ok ts lev ns dp) = false) (b3 : Sg.is 1 ⟨#[102, 97, 108, 115, 101]⟩ (.ok ts lev ns dp) = false) (b4 : Sg.is 4 ⟨#[45]⟩ (.ok ts lev ns dp) = false) (b5 : Sg.is 4 ⟨#[40]⟩ (.ok ts lev ns dp) = true) (hk : t.f0 ≠ 0) (m : Nat) (HE : CT m .expr 51) (hf : ∀ pl, goS m .expr (levS (.ok ts lev ns dp)) ≠ .bad 0 pl) :
  Calls Try.prog 87 #[.pointer (some ⟨g, 0, none⟩)] w fun e w' => e = .returned (.tuple #[]) ∧ Ends w A c L g vn vd ((goS m .expr (levS (.ok ts lev ns dp))).step (Qar 41)).down w' := by
 have HTK : J0 (Calls Try.prog 43 #[.pointer (some ⟨g, 0, none⟩)] w fun e w' => e = .returned (.agg #[.int .i64 t.f0, .string t.f1, .int .u64 t.f2, .int .i64 t.f3, .int .i64 t.f4]) ∧ Below w.heap.size w w') := ⟨(Qcm h).mono fun e w' ⟨t', he, ht', hb⟩ => ⟨by rw [he, ht' _ _ _ _ rfl, ht], hb⟩⟩
 have y3 := h.sound
 have HI := J0.m h
 have HV := J0.m (Hv.refl (vn := vn) (vd := vd) (by have := h.glt; omega) : Hv w w g vn vd vn vd)
 have HG := J0.m hG
 have HT := J0.m ht
 have HSZ := J0.m h.sz
 have HB2 := J0.m b2
 have HB3 := J0.m b3
 have HB4 := J0.m b4
 have HB5 := J0.m b5
 have HKD := J0.m hk
 have HE := J0.m HE
 have HF := J0.m hf
 clear h hG ht b2 b3 b4 b5 hk hf
 go_enter Try.func87, Try.ntmps87
 go_wp2_with fail
 refine HTK.o.mono ?_
 rintro e w1 ⟨rfl, hb⟩
 have hi1 := HI.o.below hb
 have hv1 := HV.o.below hb (by have := HI.o.glt; omega)
 obtain ⟨W1, hW1⟩ : ∃ W1, W1 = w1.alloc (.cells #[.int .i64 t.f0, .string t.f1, .int .u64 t.f2, .int .i64 t.f3, .int .i64 t.f4] 47) := ⟨_, rfl⟩
 have hB1 : Below w1.heap.size w1 W1 := by rw [hW1]; exact Qab (Below.refl _ _) _
 obtain ⟨b, hbb⟩ : ∃ b, b = w1.heap.size := ⟨_, rfl⟩
 have HX1 : J0 (W1.heap[b]? = some (.cells #[.int .i64 t.f0, .string t.f1, .int .u64 t.f2, .int .i64 t.f3, .int .i64 t.f4] 47 (0, 0))) := ⟨by rw [hW1, hbb]; exact Qay _ _⟩
 have HI1 := J0.m (hi1.below hB1)
 have HV1 := J0.m (hv1.below hB1 (by have := hi1.glt; omega))
 obtain ⟨z0, z1, z2, z3, z4⟩ := Qbi HX1.o
 have HW1 := J0.m hW1
 have HBB := J0.m hbb
 rw [hW1] at z0 z1 z2 z3 z4
 rw [hbb] at z0 z1 z2 z3 z4
 clear hi1 hv1 hb hB1 hW1 hbb
 go_wp2_with fail
 rw [← HW1.o, ← HBB.o]
 clear z0 z1 z2 z3 z4 y3 d2 d3
 refine (Qaz W1 A c L g vn vd _ 1 ⟨#[116, 114, 117, 101]⟩ HI1.o).mono ?_
 rw [HB2.o]
 rintro e v2 ⟨rfl, hb2⟩
 have HJ2 := J0.m (HI1.o.below hb2)
 have HU2 := J0.m (HV1.o.below hb2 (by have := HI1.o.glt; omega))
 have HY2 := J0.m (Qae HX1.o hb2)
 clear hb2
 go_wp2_with fail
 refine (Qaz v2 A c L g vn vd _ 1 ⟨#[102, 97, 108, 115, 101]⟩ HJ2.o).mono ?_
 rw [HB3.o]
 rintro e v3 ⟨rfl, hb3⟩
 have HJ3 := J0.m (HJ2.o.below hb3)
 have HU3 := J0.m (HU2.o.below hb3 (by have := HJ2.o.glt; omega))
 have HY3 := J0.m (Qae HY2.o hb3)
 clear hb3
 go_wp2_with fail
 refine (Qaz v3 A c L g vn vd _ 4 ⟨#[45]⟩ HJ3.o).mono ?_
 rw [HB4.o]
 rintro e v4 ⟨rfl, hb4⟩
 have HJ4 := J0.m (HJ3.o.below hb4)
 have HU4 := J0.m (HU3.o.below hb4 (by have := HJ3.o.glt; omega))
 have HY4 := J0.m (Qae HY3.o hb4)
 clear hb4
 go_wp2_with fail
 refine (Qaz v4 A c L g vn vd _ 4 ⟨#[40]⟩ HJ4.o).mono ?_
 rw [HB5.o]
 rintro e v5 ⟨rfl, hb5⟩
 have HJ5 := J0.m (HJ4.o.below hb5)
 have HU5 := J0.m (HU4.o.below hb5 (by have := HJ4.o.glt; omega))
 have HY5 := J0.m (Qae HY4.o hb5)
 clear hb5
 go_wp2_with fail
 refine (Qet v5 A c L g vn vd _ HG.o (fun ts' lev' ns' dp' e => by cases e; rw [← HT.o]; exact HKD.o) HJ5.o).mono ?_
 rintro e w5 ⟨rfl, hi, hv⟩
 have HI5 := J0.m hi
 have HV5 := J0.m (HU5.o.trans hv)
 have HX5 := J0.m (HJ5.o.Qbv hv HY5.o)
 have HA5 := J0.m (Qkk (lev := lev) (dp := dp) (by rw [← HT.o]; exact HKD.o) HSZ.o)
 clear hi hv
 have HXP := J0.m (Qf4 HE.o HG.o HI5.o HF.o)
 go_wp2_with fail
 refine HXP.o.mono ?_
 rintro e w6 ⟨rfl, vn6, vd6, hi, hv⟩
 have HI6 := J0.m hi
 have HV6 := J0.m (HV5.o.trans hv)
 have HX6 := J0.m (HI5.o.Qbv hv HX5.o)
 have HA6 := J0.m (Qgu (m := m) (f := .expr) HA5.o rfl)
 clear hi hv HXP
 have HMK := J0.m (Qe7 41 HG.o HI6.o)
 go_wp2_with fail
 refine HMK.o.mono ?_
 rintro e wp ⟨rfl, hip, hvp⟩
 have HVp := J0.m (HV6.o.trans hvp)
 obtain ⟨lv, l4, f4, hid, hvd⟩ := Qfb hip (Qcw (N := 33554430) HA6.o 41) (by omega)
 have HID := J0.m hid
 have HVD := J0.m (HVp.o.trans hvd)
 clear hip hvp hid hvd
 go_wp2
 go_end0
 exact ⟨rfl, _, _, HID.o, HVD.o⟩
theorem Qhe (w : World) (A : Option Addr) (c : Nat) (L : List Tk) (g : Nat) (vn vd : Value) (ts : List Tk) (lev : Nat) (ns : List Nd) (dp : List Int) (t : Tk) (hG : Qdo L) (h : Is w A c L g vn vd (.ok ts lev ns dp)) (ht : t = hd ts) (d2 : (t.f0 == 2) = false) (d3 : (t.f0 == 3) = false) (b2 : Sg.is 1 ⟨#[116, 114, 117, 101]⟩ (.ok ts lev ns dp) = false) (b3 : Sg.is 1 ⟨#[102, 97, 108, 115, 101]⟩ (.ok ts lev ns dp) = false) (b4 : Sg.is 4 ⟨#[45]⟩ (.ok ts lev ns dp) = false) (b5 : Sg.is 4 ⟨#[40]⟩ (.ok ts lev ns dp) = false) (R : Sg) (HC : ∀ W, Is W A c L g vn vd (.ok ts lev ns dp) → Calls Try.prog 96 #[.pointer (some ⟨g, 0, none⟩), .agg #[.int .i64 t.f0, .string t.f1, .int .u64 t.f2, .int .i64 t.f3, .int .i64 t.f4]] W fun e w' => e = .returned (.tuple #[]) ∧ Ends W A c L g vn vd R w') :
  Calls Try.prog 87 #[.pointer (some ⟨g, 0, none⟩)] w fun e w' => e = .returned (.tuple #[]) ∧ Ends w A c L g vn vd R w' := by
 have HTK : J0 (Calls Try.prog 43 #[.pointer (some ⟨g, 0, none⟩)] w fun e w' => e = .returned (.agg #[.int .i64 t.f0, .string t.f1, .int .u64 t.f2, .int .i64 t.f3, .int .i64 t.f4]) ∧ Below w.heap.size w w') := ⟨(Qcm h).mono fun e w' ⟨t', he, ht', hb⟩ => ⟨by rw [he, ht' _ _ _ _ rfl, ht], hb⟩⟩
 have y3 := h.sound
 have HI := J0.m h
 have HV := J0.m (Hv.refl (vn := vn) (vd := vd) (by have := h.glt; omega) : Hv w w g vn vd vn vd)
 have HG := J0.m hG
 have HT := J0.m ht
 have HSZ := J0.m h.sz
 have HB2 := J0.m b2
 have HB3 := J0.m b3
 have HB4 := J0.m b4
 have HB5 := J0.m b5
 have HC := J0.m HC
 clear h hG ht b2 b3 b4 b5
 go_enter Try.func87, Try.ntmps87
 go_wp2_with fail
 refine HTK.o.mono ?_
 rintro e w1 ⟨rfl, hb⟩
 have hi1 := HI.o.below hb
 have hv1 := HV.o.below hb (by have := HI.o.glt; omega)
 obtain ⟨W1, hW1⟩ : ∃ W1, W1 = w1.alloc (.cells #[.int .i64 t.f0, .string t.f1, .int .u64 t.f2, .int .i64 t.f3, .int .i64 t.f4] 47) := ⟨_, rfl⟩
 have hB1 : Below w1.heap.size w1 W1 := by rw [hW1]; exact Qab (Below.refl _ _) _
 obtain ⟨b, hbb⟩ : ∃ b, b = w1.heap.size := ⟨_, rfl⟩
 have HX1 : J0 (W1.heap[b]? = some (.cells #[.int .i64 t.f0, .string t.f1, .int .u64 t.f2, .int .i64 t.f3, .int .i64 t.f4] 47 (0, 0))) := ⟨by rw [hW1, hbb]; exact Qay _ _⟩
 have HI1 := J0.m (hi1.below hB1)
 have HV1 := J0.m (hv1.below hB1 (by have := hi1.glt; omega))
 obtain ⟨z0, z1, z2, z3, z4⟩ := Qbi HX1.o
 have HW1 := J0.m hW1
 have HBB := J0.m hbb
 rw [hW1] at z0 z1 z2 z3 z4
 rw [hbb] at z0 z1 z2 z3 z4
 clear hi1 hv1 hb hB1 hW1 hbb
 go_wp2_with fail
 rw [← HW1.o, ← HBB.o]
 clear z0 z1 z2 z3 z4 y3 d2 d3
 refine (Qaz W1 A c L g vn vd _ 1 ⟨#[116, 114, 117, 101]⟩ HI1.o).mono ?_
 rw [HB2.o]
 rintro e v2 ⟨rfl, hb2⟩
 have HJ2 := J0.m (HI1.o.below hb2)
 have HU2 := J0.m (HV1.o.below hb2 (by have := HI1.o.glt; omega))
 have HY2 := J0.m (Qae HX1.o hb2)
 clear hb2
 go_wp2_with fail
 refine (Qaz v2 A c L g vn vd _ 1 ⟨#[102, 97, 108, 115, 101]⟩ HJ2.o).mono ?_
 rw [HB3.o]
 rintro e v3 ⟨rfl, hb3⟩
 have HJ3 := J0.m (HJ2.o.below hb3)
 have HU3 := J0.m (HU2.o.below hb3 (by have := HJ2.o.glt; omega))
 have HY3 := J0.m (Qae HY2.o hb3)
 clear hb3
 go_wp2_with fail
 refine (Qaz v3 A c L g vn vd _ 4 ⟨#[45]⟩ HJ3.o).mono ?_
 rw [HB4.o]
 rintro e v4 ⟨rfl, hb4⟩
 have HJ4 := J0.m (HJ3.o.below hb4)
 have HU4 := J0.m (HU3.o.below hb4 (by have := HJ3.o.glt; omega))
 have HY4 := J0.m (Qae HY3.o hb4)
 clear hb4
 go_wp2_with fail
 refine (Qaz v4 A c L g vn vd _ 4 ⟨#[40]⟩ HJ4.o).mono ?_
 rw [HB5.o]
 rintro e v5 ⟨rfl, hb5⟩
 have HJ5 := J0.m (HJ4.o.below hb5)
 have HU5 := J0.m (HU4.o.below hb5 (by have := HJ4.o.glt; omega))
 have HY5 := J0.m (Qae HY4.o hb5)
 clear hb5
 obtain ⟨x0, x1, x2, x3, x4⟩ := Qbi HY5.o
 go_wp2_with fail
 refine (HC.o v5 HJ5.o).mono ?_
 rintro e we ⟨rfl, vne, vde, hie, hve⟩
 have HIE := J0.m hie
 have HVE := J0.m (HU5.o.trans hve)
 clear hie hve
 go_wp2
 first | go_end0 | refine bodyPost_ret (results_none rfl _ _ _) rfl ?_
 exact ⟨rfl, vne, vde, HIE.o, HVE.o⟩
end Go.Proofs.Ytbdcndkafaajpaa.R
end
section
namespace Go.Proofs.Ytbdcndkafaajpaa.A
open Go.RowKit Ytbdcndkafaajpaa.X YtbdcndkafaajpaaW.PrintWords YtbdcndkafaajpaaW.PrintLast YtbdcndkafaajpaaW.PrintMore
open Ytbdcndkafaajpaa.P (Nd EO Res hd isT isM Qar mxl comb mk1)
theorem Qpa (n : Nat) (HE : ∀ m, m ≤ n → CT m .expr 49) (w : World) (A : Option Addr) (c : Nat) (L : List Tk) (g : Nat) (vn vd : Value) (ts : List Tk) (lev : Nat) (ns : List Nd) (dp : List Int) (s : ByteArray) (nm p en : Int) (hG : Good L) (h : Is w A c L g vn vd (.ok ts lev ns dp)) (ht : hd ts = ⟨1, s, nm, p, en⟩) (hf : ∀ pl, P.X (n + 1) .fac lev ts ≠ .bad 0 pl) :
  Calls Try.prog 93 #[.pointer (some ⟨g, 0, none⟩), .agg #[.int .i64 1, .string s, .int .u64 nm, .int .i64 p, .int .i64 en]] w fun e w' => e = .returned (.tuple #[]) ∧ Ends w A c L g vn vd (outS lev ns dp (P.X (n + 1) .fac lev ts)) w' := by
 rw [P.X, ht] at hf ⊢
 simp only [show (1 : Int) ≠ 2 by decide, show (1 : Int) ≠ 3 by decide, if_true, if_false] at hf ⊢
 by_cases c1 : s = P.Qif
 ·subst c1
  rw [if_pos rfl]
  exact Qmh w A c L g vn vd ts lev ns dp nm p en hG h ht
 rw [if_neg c1] at hf ⊢
 by_cases c2 : s = P.Qgj
 ·subst c2
  rw [if_pos rfl]
  exact Qky w A c L g vn vd ts lev ns dp nm p en hG h ht
 rw [if_neg c2] at hf ⊢
 by_cases c3 : s = P.sCat
 ·subst c3
  rw [if_pos rfl] at hf ⊢
  by_cases cl : 100 ≤ lev
  ·rw [if_pos cl]
   exact Qik w A c L g vn vd ts lev ns dp nm p en hG h ht cl
  ·rw [if_neg cl] at hf ⊢
   exact Qnl n HE w A c L g vn vd ts lev ns dp nm p en hG h ht (by omega) hf
 rw [if_neg c3] at hf ⊢
 by_cases c4 : s = P.sRep
 ·subst c4
  rw [if_pos rfl] at hf ⊢
  by_cases cl : 100 ≤ lev
  ·rw [if_pos cl]
   exact Qih w A c L g vn vd ts lev ns dp nm p en hG h ht cl
  ·rw [if_neg cl] at hf ⊢
   exact Qni n (HE n (Nat.le_refl _)) w A c L g vn vd ts lev ns dp nm p en hG h ht (by omega) hf
 rw [if_neg c4] at hf ⊢
 by_cases c5 : s = P.sLen
 ·subst c5
  rw [if_pos rfl] at hf ⊢
  by_cases cl : 100 ≤ lev
  ·rw [if_pos cl]
   exact Qii w A c L g vn vd ts lev ns dp nm p en hG h ht cl
  ·rw [if_neg cl] at hf ⊢
   exact Qnj n (HE n (Nat.le_refl _)) w A c L g vn vd ts lev ns dp nm p en hG h ht (by omega) hf
 rw [if_neg c5] at hf ⊢
 by_cases c6 : s = P.sHex
 ·subst c6
  rw [if_pos rfl] at hf ⊢
  by_cases cl : 100 ≤ lev
  ·rw [if_pos cl]
   exact Qij w A c L g vn vd ts lev ns dp nm p en hG h ht cl
  ·rw [if_neg cl] at hf ⊢
   exact Qnk n (HE n (Nat.le_refl _)) w A c L g vn vd ts lev ns dp nm p en hG h ht (by omega) hf
 rw [if_neg c6]
 exact Qmi w A c L g vn vd ts lev ns dp s nm p en hG h ht c1 c2 (by unfold opOf; rw [if_neg c3, if_neg c4, if_neg c5, if_neg c6])
theorem Qnw (n : Nat) (HE : ∀ m, m ≤ n → CT m .expr 49) (HF : CT n .fac 86) : CT (n + 1) .fac 86 := by
 intro w A c L g vn vd ts lev ns dp hG h hf
 obtain ⟨t, ht⟩ : ∃ t, t = hd ts := ⟨_, rfl⟩
 obtain ⟨k, s, nm, p, en⟩ := t
 have ht := ht.symm
 by_cases c1 : k = 1
 ·subst c1
  exact Qhe _ w A c L g vn vd ts lev ns dp s nm p en hG h ht (fun w' h' => Qpa n HE w' A c L g vn vd ts lev ns dp s nm p en hG h' ht hf)
 rw [P.X, ht] at hf ⊢
 by_cases c2 : k = 2
 ·subst c2
  rw [if_pos rfl]
  exact Qk7 w A c L g vn vd ts lev ns dp s nm p en hG h ht
 by_cases c3 : k = 3
 ·subst c3
  rw [if_neg (show ¬ (3 : Int) = 2 by decide), if_pos rfl]
  exact Qjh w A c L g vn vd ts lev ns dp s nm p en hG h ht
 rw [if_neg c2, if_neg c3, if_neg c1] at hf ⊢
 by_cases m1 : isM 45 ts = true
 ·rw [if_pos m1] at hf ⊢
  by_cases cl : 100 ≤ lev
  ·rw [if_pos cl]
   exact Qj6 w A c L g vn vd ts lev ns dp k s nm p en hG h ht c2 c3 c1 m1 cl
  ·rw [if_neg cl] at hf ⊢
   exact Qk8 n HF w A c L g vn vd ts lev ns dp k s nm p en hG h ht c2 c3 c1 m1 (by omega) hf
 rw [if_neg m1] at hf ⊢
 by_cases m2 : isM 40 ts = true
 ·rw [if_pos m2] at hf ⊢
  by_cases cl : 100 ≤ lev
  ·rw [if_pos cl]
   exact Qj5 w A c L g vn vd ts lev ns dp k s nm p en hG h ht c2 c3 c1 (by simpa using m1) m2 cl
  ·rw [if_neg cl] at hf ⊢
   exact Qk6 n (HE n (Nat.le_refl _)) w A c L g vn vd ts lev ns dp k s nm p en hG h ht c2 c3 c1 (by simpa using m1) m2 (by omega) hf
 rw [if_neg m2]
 exact Qpk w A c L g vn vd ts lev ns dp k s nm p en hG h ht c2 c3 c1 (by simpa using m1) (by simpa using m2)
theorem Qlj (f : P.Fn) (fid : Nat) : CT 0 f fid := fun w A c L g vn vd ts lev ns dp _ _ hf => absurd rfl (hf 0)
theorem Qoi : ∀ n, (∀ m, m ≤ n → CT m .expr 49) ∧ (∀ m, m ≤ n → CT m .term 73) ∧ (∀ m, m ≤ n → CT m .fac 86) := by
 intro n
 induction n with
 | zero =>
  refine ⟨fun m hm => ?_, fun m hm => ?_, fun m hm => ?_⟩ <;> obtain rfl : m = 0 := by omega
  all_goals exact Qlj _ _
 | succ n ih =>
  obtain ⟨h1, h2, h3⟩ := ih
  have k1 := Qk9 n h2
  have k2 := Qkn n h3
  have k3 := Qnw n h1 (h3 n (Nat.le_refl _))
  refine ⟨fun m hm => ?_, fun m hm => ?_, fun m hm => ?_⟩
  ·rcases Nat.lt_or_ge m (n + 1) with h | h
   ·exact h1 m (by omega)
   ·obtain rfl : m = n + 1 := by omega
    exact k1
  ·rcases Nat.lt_or_ge m (n + 1) with h | h
   ·exact h2 m (by omega)
   ·obtain rfl : m = n + 1 := by omega
    exact k2
  ·rcases Nat.lt_or_ge m (n + 1) with h | h
   ·exact h3 m (by omega)
   ·obtain rfl : m = n + 1 := by omega
    exact k3
end Go.Proofs.Ytbdcndkafaajpaa.A
end
section
namespace Go.Proofs.Ytbdcndkafaajpaa.R
open Go.RowKit Ytbdcndkafaajpaa.X Ytbdcndkafaajpaa.A YtbdcndkafaajpaaW.PrintWords YtbdcndkafaajpaaW.PrintLast YtbdcndkafaajpaaW.PrintMore
open Ytbdcndkafaajpaa.P (Nd EO Res hd isT isM Qar mxl comb mk1)
theorem Qh1 {k : Int} {x : ByteArray} {ts : List Tk} (h1 : (hd ts).f0 = k) (h2 : (hd ts).f1 = x) : isT k x ts = true := by
 unfold isT; rw [h1, h2]; simp
theorem Qns {k : Int} {x : ByteArray} {ts : List Tk} (h1 : (hd ts).f0 ≠ k) : isT k x ts = false := by
 unfold isT; rw [beq_eq_false_iff_ne.2 h1]; rfl
theorem Qk3 {k : Int} {x : ByteArray} {ts : List Tk} (h1 : (hd ts).f1 ≠ x) : isT k x ts = false := by
 unfold isT; rw [Qrq h1 rfl, Bool.and_false]
theorem Qgn {ts : List Tk} {lev : Nat} {ns : List Nd} {dp : List Int} (h : 100 ≤ lev) : levS (.ok ts lev ns dp) = .bad 91 (hd ts).f3 := by rw [Qh0, if_pos h]
theorem Qj1 {ts : List Tk} {lev : Nat} {ns : List Nd} {dp : List Int} (h : ¬ 100 ≤ lev) : levS (.ok ts lev ns dp) = stS (lev + 1) ns dp [] ts.tail := by rw [Qh0, if_neg h, Qek]
theorem Qf1 {lev : Nat} {ns : List Nd} {dp : List Int} {x : Res EO} {e p : Int} (h : outS lev ns dp x = .bad e p) : x = .bad e p := by
 cases x with
 | ok a r => cases h
 | bad e' p' => cases h; rfl
section
variable (m lev : Nat) (ns : List Nd) (dp : List Int) (ts : List Tk) (n : Nd)
theorem one_l : (puG n 1 ((goS m .expr ((levS (.ok ts lev ns dp)).step (Qar 40))).step (Qar 41))).down = outS lev ns dp (if 100 ≤ lev then .bad 91 (hd ts).f3 else (Qar 40 ts.tail).bind fun _ r => (P.X m .expr (lev + 1) r).bind fun a r => (Qar 41 r).bind fun _ r => comb n [a] r) := by
 by_cases h : 100 ≤ lev
 ·rw [Qgn h, if_pos h]; rfl
 ·rw [Qj1 h, if_neg h, Qjy]
theorem two_l : (puG n 2 ((goS m .expr ((goS m .expr ((levS (.ok ts lev ns dp)).step (Qar 40))).step (Qar 44))).step (Qar 41))).down = outS lev ns dp (if 100 ≤ lev then .bad 91 (hd ts).f3 else (Qar 40 ts.tail).bind fun _ r => (P.X m .expr (lev + 1) r).bind fun a r => (Qar 44 r).bind fun _ r => (P.X m .expr (lev + 1) r).bind fun b r => (Qar 41 r).bind fun _ r => comb n [a, b] r) := by
 by_cases h : 100 ≤ lev
 ·rw [Qgn h, if_pos h]; rfl
 ·rw [Qj1 h, if_neg h, Qmw]
theorem neg_l : (puG n 1 (goS m .fac (levS (.ok ts lev ns dp)))).down = outS lev ns dp (if 100 ≤ lev then .bad 91 (hd ts).f3 else (P.X m .fac (lev + 1) ts.tail).bind fun a r => comb n [a] r) := by
 by_cases h : 100 ≤ lev
 ·rw [Qgn h, if_pos h]; rfl
 ·rw [Qj1 h, if_neg h, Qng]
theorem par_l : ((goS m .expr (levS (.ok ts lev ns dp))).step (Qar 41)).down = outS lev ns dp (if 100 ≤ lev then .bad 91 (hd ts).f3 else (P.X m .expr (lev + 1) ts.tail).bind fun a r => (Qar 41 r).bind fun _ r => .ok a r) := by
 by_cases h : 100 ≤ lev
 ·rw [Qgn h, if_pos h]; rfl
 ·rw [Qj1 h, if_neg h, Qnb]
theorem cat_l {t : Tk} {final : Res EO} (hz : ns.length + ts.tail.length ≤ 33554431) (hx : (if 100 ≤ lev then .bad 91 (hd ts).f3 else (Qar 40 ts.tail).bind fun _ r => (P.X m .expr (lev + 1) r).bind fun a r => P.X m (.args t [a]) (lev + 1) r) = final) : CatR final t lev ns dp m 1 (goS m .expr ((levS (.ok ts lev ns dp)).step (Qar 40))) := by
 by_cases h : 100 ≤ lev
 ·rw [if_pos h] at hx
  rw [Qgn h]
  exact ⟨(fun ts' lev' ns' dp' e => by cases e), .inl ⟨91, _, rfl, hx.symm⟩⟩
 ·rw [if_neg h] at hx
  rw [Qj1 h]
  exact Qka hz hx
end
theorem CatR.nz {final : Res EO} {t : Tk} {lev : Nat} {ns : List Nd} {dp : List Int} {k j : Nat} {s : Sg} (h : CatR final t lev ns dp k j s) (hf : ∀ p, final ≠ .bad 0 p) : ∀ p, s ≠ .bad 0 p := by
 rintro p rfl
 obtain ⟨_, h⟩ := h
 rcases h with ⟨e', p', h1, h2⟩ | ⟨l', r', h1, _, _⟩
 ·cases h1; exact hf _ h2
 ·cases h1
theorem Qpr (n : Nat) (HE : ∀ m, m ≤ n → CT m .expr 51) (w : World) (A : Option Addr) (c : Nat) (L : List Tk) (g : Nat) (vn vd : Value) (ts : List Tk) (lev : Nat) (ns : List Nd) (dp : List Int) (t : Tk) (hG : Qdo L) (h : Is w A c L g vn vd (.ok ts lev ns dp)) (ht : t = hd ts) (hk : t.f0 = 1) (h1 : t.f1 ≠ P.Qif) (h2 : t.f1 ≠ P.Qgj) (hf : ∀ pl, P.X (n + 1) .fac lev ts ≠ .bad 0 pl) :
  Calls Try.prog 96 #[.pointer (some ⟨g, 0, none⟩), .agg #[.int .i64 t.f0, .string t.f1, .int .u64 t.f2, .int .i64 t.f3, .int .i64 t.f4]] w fun e w' => e = .returned (.tuple #[]) ∧ Ends w A c L g vn vd (outS lev ns dp (P.X (n + 1) .fac lev ts)) w' := by
 have hk0 : t.f0 ≠ 0 := by rw [hk]; decide
 have hk1 : (hd ts).f0 = 1 := by rw [← ht]; exact hk
 have hlen := P.Qc7 (ts := ts) (by rw [← ht]; exact hk0)
 have hz : ns.length + ts.tail.length ≤ 33554431 := by have := h.sz; omega
 rw [P.X, ← ht] at hf ⊢
 rw [if_neg (by rw [hk]; decide), if_neg (by rw [hk]; decide), if_pos hk, if_neg h1, if_neg h2] at hf ⊢
 by_cases c1 : t.f1 = P.sCat
 ·rw [if_pos c1] at hf ⊢
  have hcr := cat_l n lev ns dp ts (t := t) hz rfl
  rw [← ht] at hcr
  exact Qoe _ w A c L g vn vd _ t h (Qh1 hk1 (by rw [← ht]; exact c1)) (fun W hW => Qpt n HE W A c L g vn vd ts lev ns dp t hG hW ht hk0 _ hf (CatR.nz hcr hf) hcr)
 rw [if_neg c1] at hf ⊢
 have f1 : isT 1 P.sCat ts = false := Qk3 (by rw [← ht]; exact c1)
 by_cases c2 : t.f1 = P.sRep
 ·rw [if_pos c2] at hf ⊢
  have hl := two_l n lev ns dp ts (P.node 10 t.f3)
  rw [← ht] at hl
  rw [← hl]
  refine Qob _ w A c L g vn vd _ t h f1 (Qh1 hk1 (by rw [← ht]; exact c2)) (fun W hW => Qps 10 (by decide) n (HE n (Nat.le_refl _)) W A c L g vn vd ts lev ns dp t hG hW ht hk0 ?_ ?_)
  ·intro pl e; rw [e] at hl; exact hf pl (Qf1 hl.symm)
  ·intro pl e; rw [e] at hl; exact hf pl (Qf1 hl.symm)
 rw [if_neg c2] at hf ⊢
 have f2 : isT 1 P.sRep ts = false := Qk3 (by rw [← ht]; exact c2)
 by_cases c3 : t.f1 = P.sLen
 ·rw [if_pos c3] at hf ⊢
  have hl := one_l n lev ns dp ts (P.node 11 t.f3)
  rw [← ht] at hl
  rw [← hl]
  refine Qoc _ w A c L g vn vd _ t h f1 f2 (Qh1 hk1 (by rw [← ht]; exact c3)) (fun W hW => Ql6 11 (by decide) n (HE n (Nat.le_refl _)) W A c L g vn vd ts lev ns dp t hG hW ht hk0 ?_)
  intro pl e; rw [e] at hl; exact hf pl (Qf1 hl.symm)
 rw [if_neg c3] at hf ⊢
 have f3 : isT 1 P.sLen ts = false := Qk3 (by rw [← ht]; exact c3)
 by_cases c4 : t.f1 = P.sHex
 ·rw [if_pos c4] at hf ⊢
  have hl := one_l n lev ns dp ts (P.node 12 t.f3)
  rw [← ht] at hl
  rw [← hl]
  refine Qod _ w A c L g vn vd _ t h f1 f2 f3 (Qh1 hk1 (by rw [← ht]; exact c4)) (fun W hW => Ql6 12 (by decide) n (HE n (Nat.le_refl _)) W A c L g vn vd ts lev ns dp t hG hW ht hk0 ?_)
  intro pl e; rw [e] at hl; exact hf pl (Qf1 hl.symm)
 rw [if_neg c4] at hf ⊢
 have f4 : isT 1 P.sHex ts = false := Qk3 (by rw [← ht]; exact c4)
 refine Qiy _ w A c L g vn vd _ t h f1 f2 f3 f4 (fun W hW => ?_)
 obtain ⟨q, q1, q2, q3, q4⟩ := hW
 refine (Qcs W A c L g q _ _ _ 90 t.f3 q3.p).mono ?_
 rintro e w1 ⟨rfl, hp⟩
 unfold Qcy at hp
 rw [if_pos q1] at hp
 exact ⟨rfl, _, _, ⟨_, _, ns, dp, rfl, rfl, by decide, q3.Qd0 hp⟩, Hv.Qa6 hp.2 (by have := q3.p.glt; omega)⟩
theorem Qoa (w : World) (A : Option Addr) (c : Nat) (L : List Tk) (g : Nat) (vn vd : Value) (ts : List Tk) (lev : Nat) (ns : List Nd) (dp : List Int) (t : Tk) (h : Is w A c L g vn vd (.ok ts lev ns dp)) (ht : t = hd ts) (hk : t.f0 ≠ 1) :
  Calls Try.prog 96 #[.pointer (some ⟨g, 0, none⟩), .agg #[.int .i64 t.f0, .string t.f1, .int .u64 t.f2, .int .i64 t.f3, .int .i64 t.f4]] w fun e w' => e = .returned (.tuple #[]) ∧ Ends w A c L g vn vd (.bad 90 t.f3) w' := by
 have f : ∀ x, isT 1 x ts = false := fun x => Qns (by rw [← ht]; exact hk)
 refine Qiy _ w A c L g vn vd _ t h (f _) (f _) (f _) (f _) (fun W hW => ?_)
 obtain ⟨q, q1, q2, q3, q4⟩ := hW
 refine (Qcs W A c L g q _ _ _ 90 t.f3 q3.p).mono ?_
 rintro e w1 ⟨rfl, hp⟩
 unfold Qcy at hp
 rw [if_pos q1] at hp
 exact ⟨rfl, _, _, ⟨_, _, ns, dp, rfl, rfl, by decide, q3.Qd0 hp⟩, Hv.Qa6 hp.2 (by have := q3.p.glt; omega)⟩
theorem Qnw (n : Nat) (HE : ∀ m, m ≤ n → CT m .expr 51) (HF : CT n .fac 87) : CT (n + 1) .fac 87 := by
 intro w A c L g vn vd ts lev ns dp hG h hf
 obtain ⟨t, ht⟩ : ∃ t, t = hd ts := ⟨_, rfl⟩
 by_cases c2 : t.f0 = 2
 ·rw [P.X, ← ht, if_pos c2, ← Qha (kids := []) (k := 0) (hk := rfl), Qek]
  exact Qk7 w A c L g vn vd ts lev ns dp t hG h ht (by rw [c2]; rfl) (by rw [c2]; decide)
 have d2 : (t.f0 == 2) = false := beq_eq_false_iff_ne.2 c2
 by_cases c3 : t.f0 = 3
 ·rw [P.X, ← ht, if_neg c2, if_pos c3, ← Qha (kids := []) (k := 0) (hk := rfl), Qek]
  exact Qjh w A c L g vn vd ts lev ns dp t hG h ht d2 (by rw [c3]; rfl) (by rw [c3]; decide)
 have d3 : (t.f0 == 3) = false := beq_eq_false_iff_ne.2 c3
 by_cases c1 : t.f0 = 1
 ·have hk1 : (hd ts).f0 = 1 := by rw [← ht]; exact c1
  have hk0 : t.f0 ≠ 0 := by rw [c1]; decide
  by_cases e1 : t.f1 = P.Qif
  ·rw [P.X, ← ht, if_neg c2, if_neg c3, if_pos c1, if_pos e1, ← Qha (kids := []) (k := 0) (hk := rfl), Qek]
   exact Qpj w A c L g vn vd ts lev ns dp t hG h ht d2 d3 (Qh1 hk1 (by rw [← ht]; exact e1)) hk0
  have g1 : isT 1 P.Qif ts = false := Qk3 (by rw [← ht]; exact e1)
  by_cases e2 : t.f1 = P.Qgj
  ·rw [P.X, ← ht, if_neg c2, if_neg c3, if_pos c1, if_neg e1, if_pos e2, ← Qha (kids := []) (k := 0) (hk := rfl), Qek]
   exact Qnx w A c L g vn vd ts lev ns dp t hG h ht d2 d3 g1 (Qh1 hk1 (by rw [← ht]; exact e2)) hk0
  have g2 : isT 1 P.Qgj ts = false := Qk3 (by rw [← ht]; exact e2)
  exact Qhe w A c L g vn vd ts lev ns dp t hG h ht d2 d3 g1 g2 (Qns (by rw [hk1]; decide)) (Qns (by rw [hk1]; decide)) _ (fun W hW => Qpr n HE W A c L g vn vd ts lev ns dp t hG hW ht c1 e1 e2 hf)
 have g0 : ∀ x, isT 1 x ts = false := fun x => Qns (by rw [← ht]; exact c1)
 rw [P.X, ← ht, if_neg c2, if_neg c3, if_neg c1] at hf ⊢
 by_cases m1 : isM 45 ts = true
 ·have hk0 : t.f0 ≠ 0 := by rw [ht, Qbz m1]; decide
  rw [if_pos m1] at hf ⊢
  have hl := neg_l n lev ns dp ts (P.node 5 t.f3)
  rw [← ht] at hl
  rw [← hl]
  refine Qk8 w A c L g vn vd ts lev ns dp t hG h ht d2 d3 (g0 _) (g0 _) m1 hk0 n HF ?_
  intro pl e; rw [e] at hl; exact hf pl (Qf1 hl.symm)
 rw [if_neg m1] at hf ⊢
 have m1 : isM 45 ts = false := by simpa using m1
 by_cases m2 : isM 40 ts = true
 ·have hk0 : t.f0 ≠ 0 := by rw [ht, Qbz m2]; decide
  rw [if_pos m2] at hf ⊢
  have hl := par_l n lev ns dp ts
  rw [← ht] at hl
  rw [← hl]
  refine Qk6 w A c L g vn vd ts lev ns dp t hG h ht d2 d3 (g0 _) (g0 _) m1 m2 hk0 n (HE n (Nat.le_refl _)) ?_
  intro pl e; rw [e] at hl; exact hf pl (Qf1 hl.symm)
 rw [if_neg m2]
 have m2 : isM 40 ts = false := by simpa using m2
 exact Qhe w A c L g vn vd ts lev ns dp t hG h ht d2 d3 (g0 _) (g0 _) m1 m2 _ (fun W hW => Qoa W A c L g vn vd ts lev ns dp t hW ht c1)
theorem Qlj (f : P.Fn) (fid : Nat) : CT 0 f fid := fun w A c L g vn vd ts lev ns dp _ _ hf => absurd rfl (hf 0)
theorem Qoi : ∀ n, (∀ m, m ≤ n → CT m .expr 51) ∧ (∀ m, m ≤ n → CT m .term 75) ∧ (∀ m, m ≤ n → CT m .fac 87) := by
 intro n
 induction n with
 | zero =>
  refine ⟨fun m hm => ?_, fun m hm => ?_, fun m hm => ?_⟩ <;> obtain rfl : m = 0 := by omega
  all_goals exact Qlj _ _
 | succ n ih =>
  obtain ⟨h1, h2, h3⟩ := ih
  have k1 := Qk9 n h2
  have k2 := Qkn n h3
  have k3 := Qnw n h1 (h3 n (Nat.le_refl _))
  refine ⟨fun m hm => ?_, fun m hm => ?_, fun m hm => ?_⟩
  ·rcases Nat.lt_or_ge m (n + 1) with h | h
   ·exact h1 m (by omega)
   ·obtain rfl : m = n + 1 := by omega
    exact k1
  ·rcases Nat.lt_or_ge m (n + 1) with h | h
   ·exact h2 m (by omega)
   ·obtain rfl : m = n + 1 := by omega
    exact k2
  ·rcases Nat.lt_or_ge m (n + 1) with h | h
   ·exact h3 m (by omega)
   ·obtain rfl : m = n + 1 := by omega
    exact k3
end Go.Proofs.Ytbdcndkafaajpaa.R
end
section
namespace Go.Proofs.Ytbdcndkafaajpaa.A
open Go.RowKit Ytbdcndkafaajpaa.X YtbdcndkafaajpaaW.PrintWords YtbdcndkafaajpaaW.PrintLast YtbdcndkafaajpaaW.PrintMore
open Ytbdcndkafaajpaa.P (Nd EO Res hd isT isM Qar mxl comb mk1)
inductive US where
 | ok (ts : List Tk)
 | bad (e pl : Int)
def US.step {α : Type} (s : US) (f : List Tk → Res α) : US := match s with
 | .ok ts => match f ts with
  | .ok _ r => .ok r
  | .bad e p => .bad e p
 | .bad e p => .bad e p
def US.is (k : Int) (x : ByteArray) : US → Bool
 | .ok ts => isT k x ts
 | .bad _ _ => false
def UQ (L : List Tk) (q : Q3) : US → Prop
 | .ok ts => q.fl = 0 ∧ L.drop q.at_ = ts
 | .bad e p => q.fl = e ∧ q.pl = p ∧ e ≠ 0
def Up (w : World) (A : Option Addr) (c : Nat) (L : List Tk) (g : Nat) (s : US) : Prop := ∃ (q : Q3) (lv : Int) (v5 v6 : Value), UQ L q s ∧ IsP w A c L g q (.int .i64 lv) v5 v6
def Fr (s : US) (t : Tk) : Prop := ∀ ts, s = .ok ts → t = hd ts
section
variable {w w' : World} {A : Option Addr} {c : Nat} {L : List Tk} {g : Nat} {s : US}
theorem Up.below (h : Up w A c L g s) (hb : Below w.heap.size w w') : Up w' A c L g s := by
 obtain ⟨q, v4, v5, v6, hq, hp⟩ := h
 exact ⟨q, v4, v5, v6, hq, hp.below hb⟩
theorem Up.glt (h : Up w A c L g s) : g < w.heap.size := by
 obtain ⟨q, v4, v5, v6, hq, hp⟩ := h
 exact hp.glt
theorem UQ.fr {q : Q3} (h : UQ L q s) (hl : q.at_ < L.length) : Fr s (tk L q.at_) := by
 rintro ts rfl
 obtain ⟨_, rfl⟩ := h
 exact (Qcg hl).symm
theorem Qe5 {q : Q3} {lv : Int} {v5 v6 : Value} {b : Bool} (hq : UQ L q s) (hl : q.at_ < L.length) (f : List Tk → Bool) (hb : ∀ ts, s = .ok ts → b = f ts ∧ (b = true → (hd ts).f0 ≠ 0)) (hp : Post w w' A c L g (Qcv L b q) (.int .i64 lv) v5 v6) :
  Up w' A c L g (s.step fun ts => P.want (f ts) ts) ∧ w.grownBy w' (some g) := by
 refine ⟨?_, hp.2⟩
 cases s with
 | ok ts =>
  obtain ⟨h1, rfl⟩ := hq
  obtain ⟨hb1, hb2⟩ := hb _ rfl
  have hp := hp.1
  unfold Qcv at hp
  rw [if_pos h1] at hp
  unfold US.step
  simp only
  rw [← hb1]
  cases b with
  | true =>
   have h0 := hb2 rfl
   rw [if_pos rfl, if_neg (by rw [← Qcg hl]; exact h0)] at hp
   exact ⟨⟨q.at_ + 1, q.fl, q.pl⟩, _, _, _, ⟨h1, by rw [List.tail_drop]⟩, hp⟩
  | false =>
   rw [if_neg (by decide)] at hp
   unfold Qcy at hp
   rw [if_pos h1] at hp
   exact ⟨_, _, _, _, ⟨rfl, by rw [Qcg hl], by decide⟩, hp⟩
 | bad e p =>
  obtain ⟨h1, h2, h0⟩ := hq
  have hp := hp.1
  unfold Qcv at hp
  rw [if_neg (by rw [h1]; exact h0)] at hp
  exact ⟨_, _, _, _, ⟨h1, h2, h0⟩, hp⟩
theorem Qen (h : Up w A c L g s) : Calls Try.prog 32 #[.pointer (some ⟨g, 0, none⟩)] w fun e w' => ∃ t, Fr s t ∧ e = .returned (.agg #[.int .i64 t.f0, .string t.f1, .int .u64 t.f2, .int .i64 t.f3, .int .i64 t.f4]) ∧ Below w.heap.size w w' := by
 obtain ⟨q, v4, v5, v6, hq, hp⟩ := h
 exact (Qeq w A c L g q _ _ _ hp).mono fun e w' ⟨he, hb⟩ => ⟨_, hq.fr hp.lt, he, hb⟩
theorem Qc8 (hG : Good L) (b : Bool) (f : List Tk → Bool) (h : Up w A c L g s) (hb : ∀ ts, s = .ok ts → b = f ts ∧ (b = true → (hd ts).f0 ≠ 0)) : Calls Try.prog 31 #[.pointer (some ⟨g, 0, none⟩), .bool b] w fun e w' =>
  (∃ t, Fr s t ∧ e = .returned (.agg #[.int .i64 t.f0, .string t.f1, .int .u64 t.f2, .int .i64 t.f3, .int .i64 t.f4])) ∧ Up w' A c L g (s.step fun ts => P.want (f ts) ts) ∧ w.grownBy w' (some g) := by
 obtain ⟨q, v4, v5, v6, hq, hp⟩ := h
 exact (Qd5 w A c L g q _ _ _ b hp hG).mono fun e w' ⟨he, hp'⟩ => ⟨⟨_, hq.fr hp.lt, he⟩, Qe5 hq hp.lt f hb hp'⟩
theorem Qcn (k : Int) (x : ByteArray) (h : Up w A c L g s) : Calls Try.prog 39 #[.pointer (some ⟨g, 0, none⟩), .int .i64 k, .string x] w fun e w' => e = .returned (.bool (s.is k x)) ∧ Below w.heap.size w w' := by
 obtain ⟨q, v4, v5, v6, hq, hp⟩ := h
 refine (Qec w A c L g q _ _ _ k x hp).mono fun e w' ⟨he, hb⟩ => ⟨?_, hb⟩
 rw [he]
 cases s with
 | ok ts =>
  obtain ⟨h1, rfl⟩ := hq
  simp only [isQ, US.is, isT, Qcg hp.lt, h1, beq_self_eq_true, Bool.true_and]
 | bad e0 p =>
  obtain ⟨h1, h2, h0⟩ := hq
  unfold isQ US.is
  have : (q.fl == 0) = false := beq_eq_false_iff_ne.2 (by rw [h1]; exact h0)
  rw [this]; simp
theorem Qlk {q : Q3} (hq : UQ L q s) (hl : q.at_ < L.length) (k : Int) (hk : k ≠ 0) (x : ByteArray) : ∀ ts, s = .ok ts → isQ L q k x = isT k x ts ∧ (isQ L q k x = true → (hd ts).f0 ≠ 0) := by
 rintro ts rfl
 obtain ⟨h1, rfl⟩ := hq
 have e := Qnt h1 hl k x
 exact ⟨e, fun h => by rw [e] at h; rw [Qbz h]; exact hk⟩
theorem Qb1 (hG : Good L) (x : ByteArray) (h : Up w A c L g s) : Calls Try.prog 59 #[.pointer (some ⟨g, 0, none⟩), .string x] w fun e w' =>
  (∃ t, Fr s t ∧ e = .returned (.agg #[.int .i64 t.f0, .string t.f1, .int .u64 t.f2, .int .i64 t.f3, .int .i64 t.f4])) ∧ Up w' A c L g (s.step (P.Qdi x)) ∧ w.grownBy w' (some g) := by
 obtain ⟨q, v4, v5, v6, hq, hp⟩ := h
 exact (Qgv w A c L g q _ _ _ x hp hG).mono fun e w' ⟨he, hp'⟩ => ⟨⟨_, hq.fr hp.lt, he⟩, Qe5 hq hp.lt (isT 1 x) (Qlk hq hp.lt 1 (by decide) x) hp'⟩
theorem Qa4 (hG : Good L) (m : UInt8) (h : Up w A c L g s) : Calls Try.prog 61 #[.pointer (some ⟨g, 0, none⟩), .string (mk1 m)] w fun e w' =>
  (∃ t, Fr s t ∧ e = .returned (.agg #[.int .i64 t.f0, .string t.f1, .int .u64 t.f2, .int .i64 t.f3, .int .i64 t.f4])) ∧ Up w' A c L g (s.step (Qar m)) ∧ w.grownBy w' (some g) := by
 obtain ⟨q, v4, v5, v6, hq, hp⟩ := h
 exact (Qd6 w A c L g q _ _ _ (mk1 m) hp hG).mono fun e w' ⟨he, hp'⟩ => ⟨⟨_, hq.fr hp.lt, he⟩, Qe5 hq hp.lt (isM m) (Qlk hq hp.lt 4 (by decide) (mk1 m)) hp'⟩
theorem kw_eq : Qcz.take 18 = P.kw := by kernel_rfl
theorem Qpb {q : Q3} {ts : List Tk} (h2 : L.drop q.at_ = ts) (hl : q.at_ < L.length) : Qmj L q = P.Qe0 ts := by
 subst h2
 unfold Qmj P.Qe0
 rw [kw_eq, Qcg hl]
 congr 2
 rw [Bool.eq_iff_iff, Lib.containsS_iff, List.any_eq_true]
 constructor
 ·exact fun h => ⟨_, h, decide_eq_true rfl⟩
 ·rintro ⟨x, hx, he⟩
  rw [← of_decide_eq_true he]; exact hx
theorem Qbf (hG : Good L) (h : Up w A c L g s) : Calls Try.prog 60 #[.pointer (some ⟨g, 0, none⟩)] w fun e w' =>
  (∃ t, Fr s t ∧ e = .returned (.string t.f1)) ∧ Up w' A c L g (s.step P.Qdg) ∧ w.grownBy w' (some g) := by
 obtain ⟨q, v4, v5, v6, hq, hp⟩ := h
 refine (Qg2 w A c L g q _ _ _ hp hG).mono fun e w' ⟨he, hp'⟩ => ⟨⟨_, hq.fr hp.lt, he⟩, Qe5 hq hp.lt P.Qe0 ?_ hp'⟩
 rintro ts rfl
 have e := Qpb hq.2 hp.lt
 exact ⟨e, fun h => by rw [e] at h; exact P.Qfj h⟩
theorem Qeo (hG : Good L) (h : Up w A c L g s) : Calls Try.prog 91 #[.pointer (some ⟨g, 0, none⟩)] w fun e w' =>
  (∃ t, Fr s t ∧ e = .returned (.string t.f1)) ∧ Up w' A c L g (s.step P.Qgi) ∧ w.grownBy w' (some g) := by
 obtain ⟨q, v4, v5, v6, hq, hp⟩ := h
 refine (Qgy w A c L g q _ _ _ hp hG).mono fun e w' ⟨he, hp'⟩ => ⟨⟨_, hq.fr hp.lt, he⟩, Qe5 hq hp.lt (fun ts => (hd ts).f0 == 3) ?_ hp'⟩
 rintro ts rfl
 rw [← hq.2, Qcg hp.lt]
 exact ⟨rfl, fun h => by rw [eq_of_beq h]; decide⟩
end
theorem Qhn (w : World) (A : Option Addr) (c : Nat) (L : List Tk) (g : Nat) (s : US) (hG : Good L) (hL : L.length ≤ 33554432) (h : Up w A c L g s) :
  Calls Try.prog 30 #[.pointer (some ⟨g, 0, none⟩)] w fun e w' => ∃ v ns, e = .returned v ∧ Kd.R kn 49 w' g (fun _ => True) v ns ∧ (∀ k, v.ownBlock = some k → w.heap.size ≤ k) ∧ Up w' A c L g (s.step P.Qdh) ∧ w.grownBy w' (some g) ∧ (∀ ts a r, s = .ok ts → P.Qdh ts = .ok a r → ns = a.ns) := by
 obtain ⟨q, v4, v5, v6, hq, hp⟩ := h
 obtain ⟨W1, hW1⟩ : ∃ W1, W1 = w.setCell ⟨g, 5, none⟩ (.slice none 0 0) := ⟨_, rfl⟩
 obtain ⟨W2, hW2⟩ : ∃ W2, W2 = W1.setCell ⟨g, 6, none⟩ (.slice none 0 0) := ⟨_, rfl⟩
 obtain ⟨W3, hW3⟩ : ∃ W3, W3 = W2.setCell ⟨g, 4, none⟩ (.int .i64 0) := ⟨_, rfl⟩
 have p1 : IsP W1 A c L g q (.int .i64 v4) (.slice none 0 0) v6 := by rw [hW1]; exact hp.set 5 _ rfl hp.lt
 have p2 : IsP W2 A c L g q (.int .i64 v4) (.slice none 0 0) (.slice none 0 0) := by rw [hW2]; exact p1.set 6 _ rfl hp.lt
 have p3 : IsP W3 A c L g q (.int .i64 0) (.slice none 0 0) (.slice none 0 0) := by rw [hW3]; exact p2.set 4 _ rfl hp.lt
 have hg : w.grownBy W3 (some g) := by
  rw [hW3, hW2, hW1]
  exact ((Qbg w g 5 _).trans (Qbg _ g 6 _)).trans (Qbg _ g 4 _)
 have f5 := hp.fz 5
 have f6 := p1.fz 6
 have f4 := p2.fz 4
 have c4 := p2.c4
 have c5 := hp.c5
 have c6 := p1.c6
 have f5' := p1.fz 5
 have e5 := p3.c5
 have hsz : W3.heap.size = w.heap.size := by rw [hW3, hW2, hW1]; simp
 obtain ⟨m, s', hs', hi⟩ : ∃ (m : Nat) (s' : Sg), ((∀ p, goS m .expr s' ≠ .bad 0 p) ∧ (∀ e p, goS m .expr s' = .bad e p → s.step P.Qdh = .bad e p) ∧ (∀ ts lev ns dp, goS m .expr s' = .ok ts lev ns dp → s.step P.Qdh = .ok ts ∧ ∀ ts0 a r, s = .ok ts0 → P.Qdh ts0 = .ok a r → ns = a.ns)) ∧ Is W3 A c L g (.slice none 0 0) (.slice none 0 0) s' := by
  cases s with
  | ok ts =>
   obtain ⟨h1, h2⟩ := hq
   refine ⟨4 * ts.length + 3, .ok ts 0 [] [], ⟨?_, ?_, ?_⟩, ⟨q, h1, h2, ⟨p3, Kd.Qdd _ _ _ _ _, Kd.Qdd _ _ _ _ _⟩, ⟨?_, Nat.le_refl _, fun d hd => (by cases hd), Nat.zero_le _⟩⟩⟩
   ·intro p e
    have hne := P.Qji ts
    unfold goS at e
    simp only at e
    unfold P.Qdh at hne
    cases hx : P.X (4 * ts.length + 3) .expr 0 ts with
    | ok a r => rw [hx] at e; cases e
    | bad e0 p0 =>
     rw [hx] at e
     injection e with e1 e2
     subst e1
     exact hne _ hx
   ·intro e p he
    unfold US.step P.Qdh
    unfold goS at he
    simp only at he ⊢
    cases hx : P.X (4 * ts.length + 3) .expr 0 ts with
    | ok a r => rw [hx] at he; cases he
    | bad e0 p0 => rw [hx] at he; cases he; rfl
   ·intro ts' lev ns dp he
    unfold goS at he
    simp only at he
    cases hx : P.X (4 * ts.length + 3) .expr 0 ts with
    | ok a r =>
     rw [hx] at he
     cases he
     refine ⟨by unfold US.step P.Qdh; simp only [hx], ?_⟩
     intro ts0 a0 r0 h0 hx0
     cases h0
     unfold P.Qdh at hx0
     rw [hx] at hx0
     cases hx0
     exact List.nil_append _
    | bad e0 p0 => rw [hx] at he; cases he
   ·rw [← h2, List.length_drop]
    show 0 + _ ≤ _
    omega
  | bad e p =>
   obtain ⟨h1, h2, h0⟩ := hq
   refine ⟨0, .bad e p, ⟨fun p' e' => ?_, fun e' p' h => ?_, fun _ _ _ _ h => by cases h⟩, ⟨q, 0, [], [], h1, h2, h0, ⟨p3, Kd.Qdd _ _ _ _ _, Kd.Qdd _ _ _ _ _⟩⟩⟩
   ·cases e'; exact h0 rfl
   ·cases h; rfl
 obtain ⟨hne, hb1, hb2⟩ := hs'
 have HEX := J0.m (Qf4 ((Qoi m).1 m (Nat.le_refl _)) hG hi hne)
 have HGR := J0.m hg
 have HB1 := J0.m hb1
 have HB2 := J0.m hb2
 have HSZ := J0.m hsz
 have HW1 := J0.m hW1
 have HW2 := J0.m hW2
 have HW3 := J0.m hW3
 have HI := J0.m hi
 rw [hW2, hW1] at f4 c4
 rw [hW1] at f6 c6
 clear f5' e5
 clear hb1 hb2 hne hi hg hq hp p1 p2 p3 hsz hW1 hW2 hW3 hG hL
 go_enter Try.func30, Try.ntmps30
 go_wp2_with fail
 rw [← HW1.o, ← HW2.o, ← HW3.o]
 refine HEX.o.mono ?_
 rintro e w1 ⟨rfl, vn, vd, hi1, hv1⟩
 have HV := J0.m hv1
 have hfin : ∃ (q' : Q3) (v4' : Int) (v6' : Value) (ns : List Nd), IsP w1 A c L g q' (.int .i64 v4') vn v6' ∧ UQ L q' (s.step P.Qdh) ∧ RN w1 g vn ns ∧ ∀ ts0 a r, s = .ok ts0 → P.Qdh ts0 = .ok a r → ns = a.ns := by
  cases hx : goS m .expr s' with
  | ok ts lev ns dp =>
   rw [hx] at hi1
   obtain ⟨q', h1, h2, h3, _⟩ := hi1
   obtain ⟨k1, k2⟩ := HB2.o _ _ _ _ hx
   exact ⟨q', _, _, ns, h3.p, by rw [k1]; exact ⟨h1, h2⟩, h3.n, k2⟩
  | bad e p =>
   rw [hx] at hi1
   obtain ⟨q', lev, ns, dp, h1, h2, h0, h3⟩ := hi1
   have k1 := HB1.o _ _ hx
   refine ⟨q', _, _, ns, h3.p, by rw [k1]; exact ⟨h1, h2, h0⟩, h3.n, ?_⟩
   intro ts0 a r h0 hx0
   subst h0
   unfold US.step at k1
   simp only [hx0] at k1
   cases k1
 obtain ⟨q', v4', v6', ns, hp', hu', hn', hv'⟩ := hfin
 have y5 := hp'.c5
 have HP := J0.m hp'
 have HU := J0.m hu'
 have HN := J0.m hn'
 have HVV := J0.m hv'
 clear hi1 hv1 hp' hu' hn' hv'
 go_wp2
 go_ret
 refine ⟨vn, ns, rfl, HN.o, fun k hk => ?_, ⟨q', _, _, _, HU.o, HP.o⟩, HGR.o.trans ⟨HV.o.bl.os, HV.o.bl.tape, HV.o.bl.output, HV.o.bl.size, fun k hk hr => HV.o.kp k hk (fun e => hr (by rw [e])) (by simp [Value.ownBlock]) (by simp [Value.ownBlock])⟩, HVV.o⟩
 rcases HV.o.nn with h | ⟨b, h, hb⟩
 ·rw [h] at hk; simp [Value.ownBlock] at hk
 ·rw [h] at hk
  injection hk with hk
  rw [← hk, ← HSZ.o]
  exact hb
open Ytbdcndkafaajpaa.P (Nd EO Res hd isT isM Qar mxl comb mk1 StD VeD EvD)
structure Sl where
 A : Option Addr
 n : Nat
 c : Nat
def Sl.v (x : Sl) : Value := .slice x.A x.n x.c
structure StV where
 k : Int
 a : ByteArray
 b : ByteArray
 c : ByteArray
 sep : ByteArray
 ty : ByteArray
 val : Sl
 pl : Int
def stCs (x : StV) : List Value := [.int .i64 x.k, .string x.a, .string x.b, .string x.c, .string x.sep, .string x.ty, .slice x.val.A x.val.n x.val.c, .int .i64 x.pl]
def StM (x : StV) (ns : List Nd) (d : StD) : Prop := x.k = d.k ∧ x.a = d.a ∧ x.b = d.b ∧ x.c = d.c ∧ x.sep = d.sep ∧ x.ty = d.ty ∧ ns = d.val ∧ x.pl = d.pl
theorem Qct {α : Type} {s : US} {f : List Tk → Res α} {r : List Tk} (h : s.step f = .ok r) : ∃ ts a, s = .ok ts ∧ f ts = .ok a r := by
 cases s with
 | bad e p => cases h
 | ok ts =>
  unfold US.step at h
  simp only at h
  cases hx : f ts with
  | bad e p => rw [hx] at h; cases h
  | ok a r' => rw [hx] at h; cases h; exact ⟨ts, a, rfl, hx⟩
theorem step_ok {α : Type} {ts r : List Tk} {f : List Tk → Res α} {a : α} (h : f ts = .ok a r) : (US.ok ts).step f = .ok r := by
 unfold US.step; simp only [h]
theorem Qfq {α : Type} {ts : List Tk} {f : List Tk → Res α} {e p : Int} (h : f ts = .bad e p) : (US.ok ts).step f = .bad e p := by
 unfold US.step; simp only [h]
def Co {β : Type} (F : Res β) (k : List Tk → Res β) : US → Prop
 | .ok r => F = k r
 | .bad e p => F = .bad e p
section
variable {β : Type} {F : Res β} {k k' : List Tk → Res β} {s : US} {t : Tk}
theorem Co.to (h : Co F k s) (hk : ∀ r, s = .ok r → k r = k' r) : Co F k' s := by
 cases s with
 | ok r => exact Eq.trans h (hk r rfl)
 | bad e p => exact h
theorem Co.step {b : List Tk → Bool} {g : Tk → List Tk → Res β} (h : Co F (fun r => (P.want (b r) r).bind g) s) (hf : Fr s t) : Co F (g t) (s.step fun r => P.want (b r) r) := by
 cases s with
 | ok r =>
  have hf := hf r rfl
  subst hf
  unfold US.step P.want
  simp only
  by_cases hb : b r = true
  ·rw [if_pos hb]
   refine Eq.trans h ?_
   simp only [P.want, if_pos hb]; rfl
  ·rw [if_neg hb]
   refine Eq.trans h ?_
   simp only [P.want, if_neg hb]; rfl
 | bad e p => exact h
theorem Co.word {x : ByteArray} {g : Tk → List Tk → Res β} (h : Co F (fun r => (P.Qdi x r).bind g) s) (hf : Fr s t) : Co F (g t) (s.step (P.Qdi x)) := Co.step (b := isT 1 x) h hf
theorem Co.mark {x : UInt8} {g : Tk → List Tk → Res β} (h : Co F (fun r => (Qar x r).bind g) s) (hf : Fr s t) : Co F (g t) (s.step (Qar x)) := Co.step (b := isM x) h hf
theorem Co.name {g : Tk → List Tk → Res β} (h : Co F (fun r => (P.Qdg r).bind g) s) (hf : Fr s t) : Co F (g t) (s.step P.Qdg) := Co.step (b := P.Qe0) h hf
theorem Co.text {g : Tk → List Tk → Res β} (h : Co F (fun r => (P.Qgi r).bind g) s) (hf : Fr s t) : Co F (g t) (s.step P.Qgi) := Co.step (b := fun r => (hd r).f0 == 3) h hf
theorem Co.num {g : Tk → List Tk → Res β} (h : Co F (fun r => (P.numW r).bind g) s) (hf : Fr s t) : Co F (g t) (s.step P.numW) := Co.step (b := fun r => (hd r).f0 == 2) h hf
theorem Co.call {α : Type} {f : List Tk → Res α} {g : α → List Tk → Res β} {P : α → Prop} {g' : List Tk → Res β} (h : Co F (fun r => (f r).bind g) s) (hf : ∀ ts a r, s = .ok ts → f ts = .ok a r → g a r = g' r) : Co F g' (s.step f) := by
 cases s with
 | ok r =>
  unfold US.step
  simp only
  cases hx : f r with
  | ok a r' =>
   refine Eq.trans h ?_
   simp only [hx]
   exact hf r a r' rfl hx
  | bad e p =>
   refine Eq.trans h ?_
   simp only [hx]; rfl
 | bad e p => exact h
theorem Co.end_ {d : β} (h : Co F (fun r => .ok d r) s) : (∃ r, s = .ok r ∧ F = .ok d r) ∨ ∃ e p, s = .bad e p ∧ F = .bad e p := by
 cases s with
 | ok r => exact .inl ⟨r, rfl, h⟩
 | bad e p => exact .inr ⟨e, p, rfl, h⟩
theorem Co.start (s : US) (k : List Tk → Res β) : ∃ F, Co F k s ∧ ∀ fin, ((∃ d r, fin = US.ok r ∧ F = .ok d r) ∨ ∃ e p, fin = US.bad e p ∧ F = .bad e p) → fin = s.step k := by
 cases s with
 | ok r =>
  refine ⟨k r, rfl, fun fin h => ?_⟩
  rcases h with ⟨d, r', rfl, h⟩ | ⟨e, p, rfl, h⟩
  ·exact (step_ok h).symm
  ·exact (Qfq h).symm
 | bad e p =>
  refine ⟨.bad e p, rfl, fun fin h => ?_⟩
  rcases h with ⟨d, r', rfl, h⟩ | ⟨e', p', rfl, h⟩
  ·cases h
  ·cases h; rfl
theorem Co.val {d : β} {fin : US} (h : Co F (fun r => .ok d r) fin) (hs : Co F k s) : ∀ ts x r, s = .ok ts → k ts = .ok x r → x = d := by
 rintro ts x r rfl hx
 have hF : F = .ok x r := Eq.trans hs hx
 cases fin with
 | ok r' =>
  have h : F = .ok d r' := h
  rw [hF] at h
  cases h; rfl
 | bad e p =>
  have h : F = .bad e p := h
  rw [hF] at h
  cases h
end
end Go.Proofs.Ytbdcndkafaajpaa.A
end
section
namespace Go.Proofs.Ytbdcndkafaajpaa.R
open Go.RowKit Ytbdcndkafaajpaa.X Ytbdcndkafaajpaa.A YtbdcndkafaajpaaW.PrintWords YtbdcndkafaajpaaW.PrintLast YtbdcndkafaajpaaW.PrintMore
open Ytbdcndkafaajpaa.P (Nd EO Res hd isT isM Qar mxl comb mk1)
def Up (w : World) (A : Option Addr) (c : Nat) (L : List Tk) (g : Nat) (s : US) : Prop := ∃ (q : Q3) (lv : Int) (v5 v6 : Value), UQ L q s ∧ IsR w A c L g q (.int .i64 lv) v5 v6
section
variable {w w' : World} {A : Option Addr} {c : Nat} {L : List Tk} {g : Nat} {s : US}
theorem Up.below (h : Up w A c L g s) (hb : Below w.heap.size w w') : Up w' A c L g s := by
 obtain ⟨q, v4, v5, v6, hq, hp⟩ := h
 exact ⟨q, v4, v5, v6, hq, hp.below hb⟩
theorem Up.glt (h : Up w A c L g s) : g < w.heap.size := by
 obtain ⟨q, v4, v5, v6, hq, hp⟩ := h
 exact hp.glt
theorem Qe5 {q : Q3} {lv : Int} {v5 v6 : Value} {b : Bool} (hq : UQ L q s) (hl : q.at_ < L.length) (f : List Tk → Bool) (hb : ∀ ts, s = .ok ts → b = f ts ∧ (b = true → (hd ts).f0 ≠ 0)) (hp : Post w w' A c L g (Qcv L b q) (.int .i64 lv) v5 v6) :
  Up w' A c L g (s.step fun ts => P.want (f ts) ts) ∧ w.grownBy w' (some g) := by
 refine ⟨?_, hp.2⟩
 cases s with
 | ok ts =>
  obtain ⟨h1, rfl⟩ := hq
  obtain ⟨hb1, hb2⟩ := hb _ rfl
  have hp := hp.1
  unfold Qcv at hp
  rw [if_pos h1] at hp
  unfold US.step
  simp only
  rw [← hb1]
  cases b with
  | true =>
   have h0 := hb2 rfl
   rw [if_pos rfl, if_neg (by rw [← Qcg hl]; exact h0)] at hp
   exact ⟨⟨q.at_ + 1, q.fl, q.pl⟩, _, _, _, ⟨h1, by rw [List.tail_drop]⟩, hp⟩
  | false =>
   rw [if_neg (by decide)] at hp
   unfold Qcy at hp
   rw [if_pos h1] at hp
   exact ⟨_, _, _, _, ⟨rfl, by rw [Qcg hl], by decide⟩, hp⟩
 | bad e p =>
  obtain ⟨h1, h2, h0⟩ := hq
  have hp := hp.1
  unfold Qcv at hp
  rw [if_neg (by rw [h1]; exact h0)] at hp
  exact ⟨_, _, _, _, ⟨h1, h2, h0⟩, hp⟩
theorem Qdp (h : Up w A c L g s) : Calls Try.prog 43 #[.pointer (some ⟨g, 0, none⟩)] w fun e w' => ∃ t, Fr s t ∧ e = .returned (.agg #[.int .i64 t.f0, .string t.f1, .int .u64 t.f2, .int .i64 t.f3, .int .i64 t.f4]) ∧ Below w.heap.size w w' := by
 obtain ⟨q, v4, v5, v6, hq, hp⟩ := h
 exact (Qef w A c L g q _ _ _ hp).mono fun e w' ⟨he, hb⟩ => ⟨_, UQ.fr hq hp.lt, he, hb⟩
theorem Qcn (k : Int) (x : ByteArray) (h : Up w A c L g s) : Calls Try.prog 26 #[.pointer (some ⟨g, 0, none⟩), .int .i64 k, .string x] w fun e w' => e = .returned (.bool (s.is k x)) ∧ Below w.heap.size w w' := by
 obtain ⟨q, v4, v5, v6, hq, hp⟩ := h
 refine (Qec w A c L g q _ _ _ k x hp).mono fun e w' ⟨he, hb⟩ => ⟨?_, hb⟩
 rw [he]
 cases s with
 | ok ts =>
  obtain ⟨h1, rfl⟩ := hq
  simp only [isQ, US.is, isT, Qcg hp.lt, h1, beq_self_eq_true, Bool.true_and]
 | bad e0 p =>
  obtain ⟨h1, h2, h0⟩ := hq
  unfold isQ US.is
  have : (q.fl == 0) = false := beq_eq_false_iff_ne.2 (by rw [h1]; exact h0)
  rw [this]; simp
theorem Qb1 (hG : Qdo L) (x : ByteArray) (h : Up w A c L g s) : Calls Try.prog 44 #[.pointer (some ⟨g, 0, none⟩), .string x] w fun e w' =>
  e = .returned (.tuple #[]) ∧ Up w' A c L g (s.step (P.Qdi x)) ∧ w.grownBy w' (some g) := by
 obtain ⟨q, v4, v5, v6, hq, hp⟩ := h
 exact (Qgv w A c L g q _ _ _ x hp hG).mono fun e w' ⟨he, hp'⟩ => ⟨he, Qe5 hq hp.lt (isT 1 x) (Qlk hq hp.lt 1 (by decide) x) hp'⟩
theorem Qa4 (hG : Qdo L) (m : UInt8) (h : Up w A c L g s) : Calls Try.prog 46 #[.pointer (some ⟨g, 0, none⟩), .string (mk1 m)] w fun e w' =>
  e = .returned (.tuple #[]) ∧ Up w' A c L g (s.step (Qar m)) ∧ w.grownBy w' (some g) := by
 obtain ⟨q, v4, v5, v6, hq, hp⟩ := h
 exact (Qd6 w A c L g q _ _ _ (mk1 m) hp hG).mono fun e w' ⟨he, hp'⟩ => ⟨he, Qe5 hq hp.lt (isM m) (Qlk hq hp.lt 4 (by decide) (mk1 m)) hp'⟩
def Fw (b : List Tk → Bool) (s : US) (t : Tk) : Prop := ∀ ts, s = .ok ts → b ts = true → t = hd ts
theorem fw_of {q : Q3} {b : List Tk → Bool} {b' : Bool} (hq : UQ L q s) (hl : q.at_ < L.length) (hb : ∀ ts, s = .ok ts → b' = b ts) : Fw b s ⟨(tk L q.at_).f0, strQ b' q (tk L q.at_), (tk L q.at_).f2, (tk L q.at_).f3, (tk L q.at_).f4⟩ := by
 rintro ts rfl ht
 have e := hb _ rfl
 rw [ht] at e
 subst e
 unfold strQ
 rw [if_pos ⟨hq.1, rfl⟩]
 exact UQ.fr hq hl ts rfl
theorem Qbf (hG : Qdo L) (h : Up w A c L g s) : Calls Try.prog 45 #[.pointer (some ⟨g, 0, none⟩)] w fun e w' =>
  (∃ t, Fw P.Qe0 s t ∧ e = .returned (.string t.f1)) ∧ Up w' A c L g (s.step P.Qdg) ∧ w.grownBy w' (some g) := by
 obtain ⟨q, v4, v5, v6, hq, hp⟩ := h
 have hb : ∀ ts, s = .ok ts → (((tk L q.at_).f0 == 1) && !(P.kw.any fun x => decide (x = (tk L q.at_).f1))) = P.Qe0 ts := by
  rintro ts rfl
  rw [← hq.2]; unfold P.Qe0; rw [Qcg hp.lt]
 exact (Qg2 w A c L g q _ _ _ _ hp hG rfl).mono fun e w' ⟨he, hp'⟩ => ⟨⟨_, fw_of hq hp.lt hb, he⟩, Qe5 hq hp.lt P.Qe0 (fun ts hs => ⟨hb ts hs, fun h => by rw [hb ts hs] at h; exact P.Qfj h⟩) hp'⟩
theorem Qeo (hG : Qdo L) (h : Up w A c L g s) : Calls Try.prog 85 #[.pointer (some ⟨g, 0, none⟩)] w fun e w' =>
  (∃ t, Fw (fun ts => (hd ts).f0 == 3) s t ∧ e = .returned (.string t.f1)) ∧ Up w' A c L g (s.step P.Qgi) ∧ w.grownBy w' (some g) := by
 obtain ⟨q, v4, v5, v6, hq, hp⟩ := h
 have hb : ∀ ts, s = .ok ts → ((tk L q.at_).f0 == 3) = ((hd ts).f0 == 3) := by
  rintro ts rfl
  rw [← hq.2, Qcg hp.lt]
 exact (Qgy w A c L g q _ _ _ _ hp hG rfl).mono fun e w' ⟨he, hp'⟩ => ⟨⟨_, fw_of hq hp.lt hb, he⟩, Qe5 hq hp.lt (fun ts => (hd ts).f0 == 3) (fun ts hs => ⟨hb ts hs, fun h => by rw [hb ts hs] at h; rw [eq_of_beq h]; decide⟩) hp'⟩
def Qrk (e p : Int) : US → US
 | .ok _ => .bad e p
 | .bad e' p' => .bad e' p'
theorem Qff (e p : Int) (h0 : e ≠ 0) (h : Up w A c L g s) : Calls Try.prog 48 #[.pointer (some ⟨g, 0, none⟩), .int .i64 p, .int .i64 e] w fun r w' => r = .returned (.tuple #[]) ∧ Up w' A c L g (Qrk e p s) ∧ w.grownBy w' (some g) := by
 obtain ⟨q, v4, v5, v6, hq, hp⟩ := h
 refine (Qcs w A c L g q _ _ _ e p hp).mono fun r w' ⟨he, hp'⟩ => ⟨he, ?_, hp'.2⟩
 have hp' := hp'.1
 unfold Qcy at hp'
 cases s with
 | ok ts =>
  rw [if_pos hq.1] at hp'
  exact ⟨_, _, _, _, ⟨rfl, rfl, h0⟩, hp'⟩
 | bad e' p' =>
  obtain ⟨h1, h2, h3⟩ := hq
  rw [if_neg (by rw [h1]; exact h3)] at hp'
  exact ⟨_, _, _, _, ⟨h1, h2, h3⟩, hp'⟩
theorem Up.adv {ts : List Tk} (hG : Qdo L) (h : Up w A c L g (.ok ts)) (h0 : (hd ts).f0 ≠ 0) : ∃ at_ : Int, w.cell? ⟨g, 1, none⟩ = some (.int .i64 at_) ∧ w.frozen? ⟨g, 1, none⟩ = false ∧ Up (w.setCell ⟨g, 1, none⟩ (.int .i64 (wrap64 (at_ + 1)))) A c L g (.ok ts.tail) ∧ w.grownBy (w.setCell ⟨g, 1, none⟩ (.int .i64 (wrap64 (at_ + 1)))) (some g) := by
 obtain ⟨q, v4, v5, v6, ⟨h1, rfl⟩, hp⟩ := h
 have hk : (tk L q.at_).f0 ≠ 0 := by rw [← Qcg hp.lt]; exact h0
 have hl := hG q.at_ hp.lt hk
 refine ⟨_, hp.c1, hp.fz 1, ?_, Qbg _ _ _ _⟩
 rw [Qfa hp]
 exact ⟨⟨q.at_ + 1, q.fl, q.pl⟩, v4, v5, v6, ⟨h1, by rw [List.tail_drop]⟩, hp.step hl⟩
theorem Up.fault (h : Up w A c L g s) : ∃ e : Int, w.cell? ⟨g, 3, none⟩ = some (.int .i64 e) ∧ ((e == 0) = match s with | .ok _ => true | .bad _ _ => false) := by
 obtain ⟨q, v4, v5, v6, hq, hp⟩ := h
 refine ⟨_, hp.cf, ?_⟩
 cases s with
 | ok ts => rw [hq.1]; rfl
 | bad e p => exact beq_eq_false_iff_ne.2 (by rw [hq.1]; exact hq.2.2)
end
theorem Qqj {α : Type} (d : Kd α) (W : World) (base e : Nat) (hb : base ≤ W.heap.size) : d.R e (W.alloc (.cells #[] e)) base (fun _ => True) (.slice (some ⟨W.heap.size, 0, none⟩) 0 0) [] :=
 ⟨fun _ _ => trivial, Qcx.lit (inner := []) W base (Reps.none _ _) hb (by simp)⟩
theorem Qkm (w : World) (A : Option Addr) (c : Nat) (L : List Tk) (g : Nat) (s : US) (hG : Qdo L) (hL : L.length ≤ 33554432) (h : Up w A c L g s) :
  Calls Try.prog 33 #[.pointer (some ⟨g, 0, none⟩)] w fun e w' => ∃ v ns, e = .returned v ∧ Kd.R kn 49 w' g (fun _ => True) v ns ∧ (∀ k, v.ownBlock = some k → w.heap.size ≤ k) ∧ Up w' A c L g (s.step P.Qdh) ∧ w.grownBy w' (some g) ∧ (∀ ts a r, s = .ok ts → P.Qdh ts = .ok a r → ns = a.ns) := by
 obtain ⟨q, v4, v5, v6, hq, hp⟩ := h
 obtain ⟨U1, hU1⟩ : ∃ U1, U1 = w.alloc (.cells #[] 49) := ⟨_, rfl⟩
 obtain ⟨W1, hW1⟩ : ∃ W1, W1 = U1.setCell ⟨g, 4, none⟩ (.slice (some ⟨w.heap.size, 0, none⟩) 0 0) := ⟨_, rfl⟩
 obtain ⟨U2, hU2⟩ : ∃ U2, U2 = W1.alloc (.cells #[] 3) := ⟨_, rfl⟩
 obtain ⟨W2, hW2⟩ : ∃ W2, W2 = U2.setCell ⟨g, 5, none⟩ (.slice (some ⟨w.heap.size + 1, 0, none⟩) 0 0) := ⟨_, rfl⟩
 obtain ⟨W3, hW3⟩ : ∃ W3, W3 = W2.setCell ⟨g, 6, none⟩ (.int .i64 0) := ⟨_, rfl⟩
 have hgl := hp.glt
 have hb1 : Below w.heap.size w U1 := by rw [hU1]; exact Qab (Below.refl _ _) _
 have s1 : U1.heap.size = w.heap.size + 1 := by rw [hU1]; exact Array.size_push _
 have s1' : W1.heap.size = w.heap.size + 1 := by rw [hW1]; simpa using s1
 have u1 : IsR U1 A c L g q (.int .i64 v4) v5 v6 := hp.below hb1
 have p1 : IsR W1 A c L g q (.int .i64 v4) (.slice (some ⟨w.heap.size, 0, none⟩) 0 0) v6 := by rw [hW1]; exact u1.set 4 _ rfl hp.lt
 have hb2 : Below W1.heap.size W1 U2 := by rw [hU2]; exact Qab (Below.refl _ _) _
 have s2 : U2.heap.size = w.heap.size + 2 := by rw [hU2]; exact (Array.size_push _).trans (by rw [s1'])
 have u2 : IsR U2 A c L g q (.int .i64 v4) (.slice (some ⟨w.heap.size, 0, none⟩) 0 0) v6 := p1.below hb2
 have p2 : IsR W2 A c L g q (.int .i64 v4) (.slice (some ⟨w.heap.size, 0, none⟩) 0 0) (.slice (some ⟨w.heap.size + 1, 0, none⟩) 0 0) := by rw [hW2]; exact u2.set 5 _ rfl hp.lt
 have p3 : IsR W3 A c L g q (.int .i64 0) (.slice (some ⟨w.heap.size, 0, none⟩) 0 0) (.slice (some ⟨w.heap.size + 1, 0, none⟩) 0 0) := by rw [hW3]; exact p2.set 6 _ rfl hp.lt
 have n1 : RN U1 g (.slice (some ⟨w.heap.size, 0, none⟩) 0 0) [] := by rw [hU1]; exact Qqj kn w g _ (by omega)
 have n2 : RN W1 g (.slice (some ⟨w.heap.size, 0, none⟩) 0 0) [] := Qf3 n1 (by rw [hW1]; exact Qbg _ _ _ _) ⟨_, u1.blk⟩
 have n3 : RN U2 g (.slice (some ⟨w.heap.size, 0, none⟩) 0 0) [] := Kd.Qb4 n2 hb2
 have n4 : RN W2 g (.slice (some ⟨w.heap.size, 0, none⟩) 0 0) [] := Qf3 n3 (by rw [hW2]; exact Qbg _ _ _ _) ⟨_, u2.blk⟩
 have n5 : RN W3 g (.slice (some ⟨w.heap.size, 0, none⟩) 0 0) [] := Qf3 n4 (by rw [hW3]; exact Qbg _ _ _ _) ⟨_, p2.blk⟩
 have d1 : RI U2 g (.slice (some ⟨w.heap.size + 1, 0, none⟩) 0 0) [] := by
  have h := Qqj (Kd.int .i64) W1 g 3 (by omega)
  rw [s1'] at h
  rw [hU2]; exact h
 have d2 : RI W2 g (.slice (some ⟨w.heap.size + 1, 0, none⟩) 0 0) [] := Qgt d1 (by rw [hW2]; exact Qbg _ _ _ _) ⟨_, u2.blk⟩
 have d3 : RI W3 g (.slice (some ⟨w.heap.size + 1, 0, none⟩) 0 0) [] := Qgt d2 (by rw [hW3]; exact Qbg _ _ _ _) ⟨_, p2.blk⟩
 have hg : w.grownBy W3 (some g) := by
  have k1 := (Qaj hb1 (some g)).trans (Qbg U1 g 4 (.slice (some ⟨w.heap.size, 0, none⟩) 0 0))
  rw [← hW1] at k1
  have k2 := (k1.trans (Qaj hb2 (some g))).trans (Qbg U2 g 5 (.slice (some ⟨w.heap.size + 1, 0, none⟩) 0 0))
  rw [← hW2] at k2
  rw [hW3]
  exact k2.trans (Qbg _ g 6 _)
 have f4 := u1.fz 4
 have c4 := u1.cn
 have f5 := u2.fz 5
 have c5 := u2.cd
 have f6 := p2.fz 6
 have c6 := p2.cl
 have hsz : W3.heap.size = w.heap.size + 2 := by rw [hW3, hW2]; simpa using s2
 obtain ⟨m, s', hs', hi⟩ : ∃ (m : Nat) (s' : Sg), ((∀ p, goS m .expr s' ≠ .bad 0 p) ∧ (∀ e p, goS m .expr s' = .bad e p → s.step P.Qdh = .bad e p) ∧ (∀ ts lev ns dp, goS m .expr s' = .ok ts lev ns dp → s.step P.Qdh = .ok ts ∧ ∀ ts0 a r, s = .ok ts0 → P.Qdh ts0 = .ok a r → ns = a.ns)) ∧ Is W3 A c L g (.slice (some ⟨w.heap.size, 0, none⟩) 0 0) (.slice (some ⟨w.heap.size + 1, 0, none⟩) 0 0) s' := by
  cases s with
  | ok ts =>
   obtain ⟨h1, h2⟩ := hq
   refine ⟨4 * ts.length + 3, .ok ts 0 [] [], ⟨?_, ?_, ?_⟩, ⟨q, h1, h2, ⟨p3, n5, d3⟩, ⟨?_, Nat.le_refl _, fun d hd => (by cases hd), Nat.zero_le _⟩⟩⟩
   ·intro p e
    have hne := P.Qji ts
    unfold goS at e
    simp only at e
    unfold P.Qdh at hne
    cases hx : P.X (4 * ts.length + 3) .expr 0 ts with
    | ok a r => rw [hx] at e; cases e
    | bad e0 p0 =>
     rw [hx] at e
     injection e with e1 e2
     subst e1
     exact hne _ hx
   ·intro e p he
    unfold US.step P.Qdh
    unfold goS at he
    simp only at he ⊢
    cases hx : P.X (4 * ts.length + 3) .expr 0 ts with
    | ok a r => rw [hx] at he; cases he
    | bad e0 p0 => rw [hx] at he; cases he; rfl
   ·intro ts' lev ns dp he
    unfold goS at he
    simp only at he
    cases hx : P.X (4 * ts.length + 3) .expr 0 ts with
    | ok a r =>
     rw [hx] at he
     cases he
     refine ⟨by unfold US.step P.Qdh; simp only [hx], ?_⟩
     intro ts0 a0 r0 h0 hx0
     cases h0
     unfold P.Qdh at hx0
     rw [hx] at hx0
     cases hx0
     exact List.nil_append _
    | bad e0 p0 => rw [hx] at he; cases he
   ·rw [← h2, List.length_drop]
    show 0 + _ ≤ _
    omega
  | bad e p =>
   obtain ⟨h1, h2, h0⟩ := hq
   refine ⟨0, .bad e p, ⟨fun p' e' => ?_, fun e' p' h => ?_, fun _ _ _ _ h => by cases h⟩, ⟨q, 0, [], [], h1, h2, h0, ⟨p3, n5, d3⟩⟩⟩
   ·cases e'; exact h0 rfl
   ·cases h; rfl
 obtain ⟨hne, hq1, hq2⟩ := hs'
 have HEX := J0.m (Qf4 ((Qoi m).1 m (Nat.le_refl _)) hG hi hne)
 have HGR := J0.m hg
 have HB1 := J0.m hq1
 have HB2 := J0.m hq2
 have HSZ := J0.m hsz
 have HW1 := J0.m hW1
 have HW2 := J0.m hW2
 have HW3 := J0.m hW3
 have HI := J0.m hi
 have HU1 := J0.m hU1
 have HU2 := J0.m hU2
 rw [hW2, hU2, hW1, hU1] at f6 c6
 rw [hU2, hW1, hU1] at f5 c5
 rw [hU1] at f4 c4
 have hz1 : (w.alloc (.cells #[] 49)).heap.size = w.heap.size + 1 := Array.size_push _
 have hgl' := hgl
 clear hb1 hb2 hq1 hq2 hne hi hg hq hp p1 p2 p3 u1 u2 n1 n2 n3 n4 n5 d1 d2 d3 s1 s1' s2 hsz hW1 hW2 hW3 hU1 hU2 hG hL hgl hgl'
 go_enter Try.func33, Try.ntmps33
 go_wp2_with fail
 rw [← HU1.o, ← HW1.o, ← HU2.o, ← HW2.o, ← HW3.o]
 refine HEX.o.mono ?_
 rintro e w1 ⟨rfl, vn, vd, hi1, hv1⟩
 have HV := J0.m hv1
 have hfin : ∃ (q' : Q3) (v4' : Int) (v6' : Value) (ns : List Nd), IsR w1 A c L g q' (.int .i64 v4') vn v6' ∧ UQ L q' (s.step P.Qdh) ∧ RN w1 g vn ns ∧ ∀ ts0 a r, s = .ok ts0 → P.Qdh ts0 = .ok a r → ns = a.ns := by
  cases hx : goS m .expr s' with
  | ok ts lev ns dp =>
   rw [hx] at hi1
   obtain ⟨q', h1, h2, h3, _⟩ := hi1
   obtain ⟨k1, k2⟩ := HB2.o _ _ _ _ hx
   exact ⟨q', _, _, ns, h3.p, by rw [k1]; exact ⟨h1, h2⟩, h3.n, k2⟩
  | bad e p =>
   rw [hx] at hi1
   obtain ⟨q', lev, ns, dp, h1, h2, h0, h3⟩ := hi1
   have k1 := HB1.o _ _ hx
   refine ⟨q', _, _, ns, h3.p, by rw [k1]; exact ⟨h1, h2, h0⟩, h3.n, ?_⟩
   intro ts0 a r h0 hx0
   subst h0
   unfold US.step at k1
   simp only [hx0] at k1
   cases k1
 obtain ⟨q', v4', v6', ns, hp', hu', hn', hv'⟩ := hfin
 have y5 := hp'.cn
 have HP := J0.m hp'
 have HU := J0.m hu'
 have HN := J0.m hn'
 have HVV := J0.m hv'
 clear hi1 hv1 hp' hu' hn' hv'
 go_wp2
 go_ret
 refine ⟨vn, ns, rfl, HN.o, fun k hk => ?_, ⟨q', _, _, _, HU.o, HP.o⟩, ⟨HV.o.bl.os.trans HGR.o.os, HV.o.bl.tape.trans HGR.o.tape, HV.o.bl.output.trans HGR.o.output, Nat.le_trans HGR.o.size HV.o.bl.size, fun k hk hr => ?_⟩, HVV.o⟩
 ·rcases HV.o.nn with h | ⟨b, h, hb⟩
  ·rw [h] at hk
   simp only [Value.ownBlock, Option.some.injEq] at hk
   omega
  ·rw [h] at hk
   injection hk with hk
   rw [← hk]
   have := HSZ.o
   omega
 ·have := HSZ.o
  rw [HV.o.kp k (by omega) (fun e => hr (by rw [e])) (by simp only [Value.ownBlock, ne_eq, Option.some.injEq]; omega) (by simp only [Value.ownBlock, ne_eq, Option.some.injEq]; omega)]
  exact HGR.o.block k hk hr
end Go.Proofs.Ytbdcndkafaajpaa.R
end
