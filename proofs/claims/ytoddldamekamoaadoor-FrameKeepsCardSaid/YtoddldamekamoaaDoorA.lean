/- append that tells whether the row has moved; rows that are only read, with the block they lie in. Plain lemmas over the kit's printed words. -/
import Derived.Test.YtoddldamekamoaaDoorWWords
import Derived.Test.YtoddldamekamoaaDoorWMore
import Derived.Test.YtoddldamekamoaaDoorWShare
import Derived.Test.YtoddldamekamoaaDoorWApart
set_option linter.unusedVariables false
set_option linter.unusedSimpArgs false
namespace Go.Proofs.YtoddldamekamoaaDoorW.PrintWords
open Go.RowKit
/-- The row stays where it was, or it is a new one and nothing that was there has changed. -/
def Went (W w1 : World) (v v1 : Value) (n : Nat) : Prop :=
  (∃ g c, v = .slice (some ⟨g, 0, none⟩) n c ∧ v1 = .slice (some ⟨g, 0, none⟩) (n + 1) c ∧ W.grownBy w1 (some g)) ∨ (∃ b, v1.ownBlock = some b ∧ W.heap.size ≤ b ∧ W.grownBy w1 none)
theorem Went.grown {W w1 : World} {v v1 : Value} {n : Nat} (h : Went W w1 v v1 n) : W.grownBy w1 v.ownBlock := by
  rcases h with ⟨g, c, rfl, _, h⟩ | ⟨b, _, _, h⟩
  · simpa [Value.ownBlock] using h
  · exact ⟨h.os, h.tape, h.output, h.size, fun k hk _ => h.block k hk (by simp)⟩
theorem Went.at {W w1 : World} {v v1 : Value} {n : Nat} (h : Went W w1 v v1 n) : v1.ownBlock = v.ownBlock ∨ ∃ b, v1.ownBlock = some b ∧ W.heap.size ≤ b := by
  rcases h with ⟨g, c, rfl, rfl, h⟩ | ⟨b, h1, h2, _⟩
  · exact .inl (by simp [Value.ownBlock])
  · exact .inr ⟨b, h1, h2⟩
theorem grown_new (w : World) (o : Obj) (row : Option Nat) : w.grownBy (w.drew.alloc o) row := ⟨rfl, rfl, rfl, by simp, fun k hk _ => heap_alloc_old w.drew _ hk⟩
theorem own_went {P : Program} (w : World) (base : Nat) (t ty e : TypeId) (i : TypeInfo) (z : Value) (size bytes : Nat) (ht : P.underlying t = some (.slice e)) (hi : P.info? e = some i) (hz : i.zero = some z)
    (hsize : i.size = size) (hby : i.bytes = bytes) (hzs : z.cells.size = size) (hsz : 0 < size)
    (v : Value) (n : Nat) (xs : List Value) (hown : w.ownsRow base e size v n xs)
    (a : Addr) (c : Nat) (news : List Value) (hl : news.length = size) (hnews : ∀ j u, news[j]? = some u → w.cell? (a.add j) = some u) (h1 : ∀ u ∈ news, u.oneCell' = true)
    (hb0 : 0 < bytes) (hbytes : (n + 1) * bytes ≤ 140737488355328) (hbase : base ≤ w.heap.size) :
    ∃ v' w', (Builtin.append_ #[t, t] ty #[v, .slice (some a) 1 c]).run P w = .ok v' w' ∧ w'.ownsRow base e size v' (n + 1) (xs ++ news) ∧ Went w w' v v' n := by
  have hn : n + 1 ≤ 140737488355328 := Nat.le_trans (Nat.le_mul_of_pos_right _ hb0) hbytes
  have hl1 : news.length = 1 * size := by omega
  obtain ⟨v', w', hr, ho, hg, _⟩ := run_append_own (P := P) w base t ty e i z size bytes ht hi hz hsize hby hzs hsz v n xs hown a 1 c news hl1 hnews h1 (by simp only [maxLen]; omega) hbytes hbase
  refine ⟨v', w', hr, ho, ?_⟩
  subst hsize
  subst hby
  rcases hown.2 with ⟨rfl, rfl⟩ | ⟨g, cap, cur, rfl, hbg, hgc, hnc, hcm, hcs, htake⟩
  · have h2 := run_append_nil (P := P) w t ty e i z ht hi hz a 1 c news hl1 hnews (by omega) (by omega) (by omega)
    rw [hr] at h2
    injection h2 with e1 e2
    subst e1 e2
    exact .inr ⟨_, rfl, Nat.le_refl _, grown_new _ _ _⟩
  · by_cases hroom : n + 1 ≤ cap
    · have hfit : n * i.size + news.length ≤ cur.size := by
        rw [hl1, hcs, ← Nat.add_mul]; exact Nat.mul_le_mul_right _ hroom
      have h2 := run_append_room (P := P) w t ty e i ht hi g n cap cur hgc a 1 c news hl1 hnews h1 hroom hfit
      rw [hr] at h2
      injection h2 with e1 e2
      subst e1
      exact .inl ⟨g, cap, rfl, rfl, by simpa [Value.ownBlock] using hg⟩
    · have holds : ∀ j u, xs[j]? = some u → w.cell? ((⟨g, 0, none⟩ : Addr).add j) = some u := hown.cells (g := g) rfl
      have h2 := run_append_grow (P := P) w t ty e i z ht hi hz ⟨g, 0, none⟩ n cap xs hown.1 holds a 1 c news hl1 hnews (by omega) (by omega) (growslice_fits (by omega) hbytes)
      rw [hr] at h2
      injection h2 with e1 e2
      subst e1 e2
      exact .inr ⟨_, rfl, Nat.le_refl _, grown_new _ _ _⟩
namespace Kd
section
variable {α : Type} {P : Program} {ops : Array Oper} {rest : List Oper} {o : Oper} {a : Act} {Q' : Exit → Act → World → Prop}
theorem R_went (d : Kd α) {w0 W : World} (base : Nat) (hgd : o.guard = none) (s x : Operand) (t e : TypeId) (z : Value) (bytes : Nat)
    (ho : o.op = .call { callee := .builtin .append, args := #[s, x], argTypes := #[t, t] })
    (ht : P.underlying t = some (.slice e)) (hinfo : (P.info? e).map (fun i => (i.zero, i.size, i.bytes)) = some (some z, d.sz, bytes)) (hz : z.cells.size = d.sz) (hs0 : 0 < d.sz) (hb0 : 0 < bytes)
    (v : Value) (xs : List α) (p : α) (cs : List Value) (ok okp : Nat → Prop) (hs : a.eval s = v) (hx : a.eval x = .slice (some ⟨W.heap.size, 0, none⟩) 1 1) (hp : d.M W base okp p cs) (hokp : ∀ k, okp k → ok k ∧ some k ≠ v.ownBlock) (hfresh : ∀ k, W.heap.size ≤ k → ok k)
    (HO : d.R e W base ok v xs) (HB : Below base w0 W) (hbase : base ≤ W.heap.size) (hl : (xs.length + 1) * bytes ≤ 140737488355328)
    (h : ∀ v1 w1, d.R e w1 base ok v1 (xs ++ [p]) → Below base w0 w1 → Went W w1 v v1 xs.length → wpList P ops Q' rest (a.put o.dst v1) w1) :
    wpList P ops Q' (o :: rest) a (W.alloc (.cells cs.toArray e)) := by
  obtain ⟨h0, inner, hown, hr⟩ := HO
  obtain ⟨i0, hi, hzz⟩ := Option.map_eq_some_iff.1 hinfo
  simp only [Prod.mk.injEq] at hzz
  obtain ⟨hz0, hz1, hz2⟩ := hzz
  have hcl := d.K_len (d.K_of_M hp)
  obtain ⟨v1, w1, hrun, hq1, hw⟩ := own_went (P := P) (W.alloc (.cells cs.toArray e)) base t o.type e i0 z d.sz bytes ht hi hz0 hz1 hz2 hz hs0 v xs.length inner (hown.alloc _) ⟨W.heap.size, 0, none⟩ 1 cs hcl
    (by simpa using World.news_of_block (cs := cs.toArray) (t := e) (fr := (0, 0)) (heap_alloc_new W (.cells cs.toArray e))) (d.K_one (d.K_of_M hp)) hb0 hl (by simp; omega)
  have hwent : Went W w1 v v1 xs.length := by
    rcases hw with ⟨g, c, e1, e2, hg⟩ | ⟨b, hb, hle, hg⟩
    · exact .inl ⟨g, c, e1, e2, World.grownBy.trans (World.grownBy_alloc W _ _) hg⟩
    · exact .inr ⟨b, hb, by rw [World.size_alloc] at hle; omega, World.grownBy.trans (World.grownBy_alloc W _ _) hg⟩
  refine wpList_plain hgd fun K hK => ?_
  unfold Oper.wp execOp
  simp only [ho, resolve, invoke, builtin, Sem.run_bind, Sem.run_pure, Result.andThen_ok, List.map_toArray, List.map_cons, List.map_nil, hs, hx, hrun]
  exact hK _ _ (h v1 w1 (R_appended h0 hr hp hokp hfresh hq1 hwent.grown hwent.at) (HB.grown hwent.grown hbase (fun k hk => own_base hown k hk)) hwent)
end
section
variable {α : Type} {d : Kd α} {e base : Nat} {ok : Nat → Prop} {W w1 : World} {v : Value} {xs : List α}
/-- A row of one's own, of elements that lead nowhere, as one that is only read. -/
theorem F_of_R {A : Option Addr} {n c : Nat} (hE : d.E = []) (h : d.R e W base ok (.slice A n c) xs) : F d W (fun k => (Value.slice A n c).ownBlock = some k) A xs.length xs := by
  intro W' hW'
  exact (R_reads' (R_step (R_tight hE h) (fun k hk hlt => hW' k hk.symm hlt))).2.2
/-- The front of it likewise. -/
theorem F_front {A : Option Addr} {n c m : Nat} (hE : d.E = []) (h : d.R e W base ok (.slice A n c) xs) (hm : m ≤ xs.length) : F d W (fun k => (Value.slice A n c).ownBlock = some k) A (xs.take m).length (xs.take m) :=
  F_imp (F_of_R hE h) (fun W' hc => C_take hc hm)
end
end Kd
end Go.Proofs.YtoddldamekamoaaDoorW.PrintWords
