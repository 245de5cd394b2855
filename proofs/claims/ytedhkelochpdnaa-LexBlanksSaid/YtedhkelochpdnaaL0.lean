/- Layer 8 in plain Lean, on lists of bytes: what the program's tokens are. No condition. -/
import Derived.Test.YtedhkelochpdnaaG1
set_option linter.unusedVariables false
set_option linter.unusedSimpArgs false
namespace Go.Proofs.Ytedhkelochpdnaa.L
open Go.Proofs.Ytedhkelochpdnaa

def isD (b : UInt8) : Bool := G.dig (b.toNat : Int)
def isL (b : UInt8) : Bool := G.letr (b.toNat : Int)
def isW (b : UInt8) : Bool := isL b || isD b
def blank (b : UInt8) : Bool := decide (b.toNat = 32 ∨ b.toNat = 9 ∨ b.toNat = 10 ∨ b.toNat = 13)
/-- How many bytes at the front are ok. -/
def lead (p : UInt8 → Bool) : List UInt8 → Nat
  | [] => 0
  | b :: t => if p b then lead p t + 1 else 0
/-- Blanks and remarks at the front (true: inside a remark). -/
def sk : Bool → List UInt8 → Nat
  | _, [] => 0
  | false, b :: t => if blank b then sk false t + 1 else if b.toNat = 35 then sk true t + 1 else 0
  | true, b :: t => sk (b.toNat != 10) t + 1
def hexv (b : UInt8) : Option Nat :=
  if 48 ≤ b.toNat ∧ b.toNat ≤ 57 then some (b.toNat - 48)
  else if 97 ≤ b.toNat ∧ b.toNat ≤ 102 then some (b.toNat - 87)
  else if 65 ≤ b.toNat ∧ b.toNat ≤ 70 then some (b.toNat - 55) else none
def escx : List UInt8 → Option (UInt8 × Nat)
  | a :: b :: _ => match hexv a, hexv b with
    | some x, some y => some ((16 * x + y).toUInt8, 3)
    | _, _ => none
  | _ => none
/-- The escape behind a backslash: the byte that it stands for, how many bytes of it stand behind the backslash. -/
def esc : List UInt8 → Option (UInt8 × Nat)
  | [] => none
  | c :: t => if c.toNat = 92 ∨ c.toNat = 34 then some (c, 1) else if c.toNat = 110 then some (10, 1) else if c.toNat = 116 then some (9, 1)
    else if c.toNat = 120 then escx t
    else none
structure Tk where
  kind : Nat
  text : List UInt8
  num : Nat
  len : Nat
inductive R where
  | ok (t : Tk)
  | bad (off : Nat) (e : Nat)
/-- The text behind its first mark: off bytes of it are read. -/
def tx (off : Nat) (acc : List UInt8) (l : List UInt8) : R :=
  match l with
  | [] => .bad 0 81
  | b :: t =>
    if b.toNat = 10 then .bad 0 81
    else if b.toNat = 34 then .ok ⟨3, acc, 0, off + 1⟩
    else if b.toNat = 92 then
      match esc t with
      | none => .bad off 82
      | some (c, n) => tx (off + n + 1) (acc ++ [c]) (t.drop n)
    else tx (off + 1) (acc ++ [b]) t
termination_by l.length
decreasing_by all_goals (simp only [List.length_cons, List.length_drop]; omega)
def marks : List Nat := [123, 125, 40, 41, 58, 59, 44, 61, 43, 45, 42]
def tok : List UInt8 → R
  | [] => .bad 0 0
  | b :: t =>
    if isL b then (if lead isW (b :: t) > 64 then .bad 0 111 else .ok ⟨1, (b :: t).take (lead isW (b :: t)), 0, lead isW (b :: t)⟩)
    else if isD b then (match G.numv 0 ((b :: t).take (lead isD (b :: t))) with
      | none => .bad 0 111
      | some x => .ok ⟨2, [], x, lead isD (b :: t)⟩)
    else if b.toNat = 34 then tx 1 [] t
    else if b.toNat ∈ marks then .ok ⟨4, [b], 0, 1⟩
    else .bad 0 80

theorem lead_le (p : UInt8 → Bool) (l : List UInt8) : lead p l ≤ l.length := by
  induction l with
  | nil => exact Nat.le_refl _
  | cons b t ih => simp only [lead, List.length_cons]; split <;> omega
theorem escx_le {l : List UInt8} {c : UInt8} {n : Nat} (h : escx l = some (c, n)) : n = 3 ∧ 2 ≤ l.length := by
  match l, h with
  | a :: b :: t, h =>
    rw [escx] at h
    split at h
    · simp only [Option.some.injEq, Prod.mk.injEq] at h; exact ⟨h.2.symm, by simp only [List.length_cons]; omega⟩
    · cases h
theorem escx_loc {w r r' : List UInt8} (h : 2 ≤ w.length) : escx (w ++ r) = escx (w ++ r') := by
  match w, h with
  | a :: b :: t, _ => rfl
theorem esc_le {l : List UInt8} {c : UInt8} {n : Nat} (h : esc l = some (c, n)) : 1 ≤ n ∧ n ≤ l.length := by
  cases l with
  | nil => simp [esc] at h
  | cons a t =>
    rw [esc] at h
    split at h
    · simp at h; simp; omega
    split at h
    · simp at h; simp; omega
    split at h
    · simp at h; simp; omega
    split at h
    · have := escx_le h; simp only [List.length_cons]; omega
    · simp at h
theorem tx_len {off : Nat} {acc l : List UInt8} {t : Tk} (h : tx off acc l = .ok t) : off + 1 ≤ t.len ∧ t.len ≤ off + l.length := by
  induction off, acc, l using tx.induct generalizing t with
  | case1 off acc => rw [tx] at h; cases h
  | case2 off acc b t' hb => rw [tx, if_pos hb] at h; cases h
  | case3 off acc b t' hb h34 => rw [tx, if_neg hb, if_pos h34] at h; cases h; simp only [List.length_cons]; omega
  | case4 off acc b t' hb h34 h92 he => rw [tx, if_neg hb, if_neg h34, if_pos h92, he] at h; cases h
  | case5 off acc b t' hb h34 h92 c n he ih =>
    rw [tx, if_neg hb, if_neg h34, if_pos h92, he] at h
    have := ih h; have := esc_le he
    rw [List.length_drop] at *; simp only [List.length_cons]; omega
  | case6 off acc b t' hb h34 h92 ih =>
    rw [tx, if_neg hb, if_neg h34, if_neg h92] at h
    have := ih h; simp only [List.length_cons]; omega
theorem lead_pos {p : UInt8 → Bool} {b : UInt8} {t : List UInt8} (h : p b = true) : 1 ≤ lead p (b :: t) := by
  rw [lead, if_pos h]; omega
theorem tok_len {l : List UInt8} {t : Tk} (h : tok l = .ok t) : 1 ≤ t.len ∧ t.len ≤ l.length := by
  cases l with
  | nil => cases h
  | cons b r =>
    have l1 := lead_le isW (b :: r)
    have l2 := lead_le isD (b :: r)
    rw [tok] at h
    split at h
    · rename_i hb
      have := @lead_pos isW b r (by unfold isW; rw [hb]; rfl)
      split at h
      · cases h
      · cases h; exact ⟨this, l1⟩
    split at h
    · rename_i hb
      have := @lead_pos isD b r hb
      split at h
      · cases h
      · cases h; exact ⟨this, l2⟩
    split at h
    · have := tx_len h; simp only [List.length_cons]; omega
    split at h
    · cases h; simp
    · cases h
structure Tok where
  kind : Nat
  text : List UInt8
  num : Nat
  at' : Nat
  fin : Nat
inductive LR where
  | toks (l : List Tok)
  | bad (at' : Nat) (e : Nat)
def LR.push (t : Tok) : LR → LR
  | .toks l => .toks (t :: l)
  | .bad a e => .bad a e
def Tk.at_ (t : Tk) (o : Nat) : Tok := ⟨t.kind, t.text, t.num, o, o + t.len⟩
theorem sk_le (r : Bool) (l : List UInt8) : sk r l ≤ l.length := by
  induction l generalizing r with
  | nil => cases r <;> exact Nat.le_refl _
  | cons b t ih =>
    have h1 := ih false; have h2 := ih true; have h3 := ih (b.toNat != 10)
    cases r
    · rw [sk, List.length_cons]; split
      · omega
      · split <;> omega
    · rw [sk, List.length_cons]; omega
/-- The tokens from off on. -/
def lx (off : Nat) (l : List UInt8) : LR :=
  if hz : sk false l = l.length then .toks [⟨0, [], 0, off + l.length, off + l.length⟩]
  else match ht : tok (l.drop (sk false l)) with
    | .bad a e => .bad (off + sk false l + a) e
    | .ok t => (lx (off + sk false l + t.len) (l.drop (sk false l + t.len))).push (t.at_ (off + sk false l))
termination_by l.length
decreasing_by
  have h1 := tok_len ht
  have h2 := sk_le false l
  rw [List.length_drop] at h1 ⊢; omega
theorem lx_end {off : Nat} {l : List UInt8} (h : sk false l = l.length) : lx off l = .toks [⟨0, [], 0, off + l.length, off + l.length⟩] := by
  rw [lx, dif_pos h]
theorem lx_bad {off : Nat} {l : List UInt8} {a e : Nat} (h : sk false l ≠ l.length) (ht : tok (l.drop (sk false l)) = .bad a e) : lx off l = .bad (off + sk false l + a) e := by
  rw [lx, dif_neg h]; split
  · rename_i h2; rw [ht] at h2; cases h2; rfl
  · rename_i h2; rw [ht] at h2; cases h2
theorem lx_ok {off : Nat} {l : List UInt8} {t : Tk} (h : sk false l ≠ l.length) (ht : tok (l.drop (sk false l)) = .ok t) : lx off l = (lx (off + sk false l + t.len) (l.drop (sk false l + t.len))).push (t.at_ (off + sk false l)) := by
  rw [lx, dif_neg h]; split
  · rename_i h2; rw [ht] at h2; cases h2
  · rename_i h2; rw [ht] at h2; cases h2; rfl
/-- The tokens of a text, or the place of its first fault. -/
def Lex (l : List UInt8) : LR := if l.length > 1048576 then .bad 0 2 else lx 0 l
def Name (l : List UInt8) : Bool := match l with
  | [] => false
  | b :: t => decide (l.length ≤ 64) && isL b && decide (lead isW l = l.length)
def hx (n : Nat) : UInt8 := (if n < 10 then 48 + n else 87 + n).toUInt8
def qb (b : UInt8) : List UInt8 :=
  if b.toNat = 92 ∨ b.toNat = 34 then [92, b] else if b.toNat = 10 then [92, 110] else if b.toNat = 9 then [92, 116]
  else if 32 ≤ b.toNat ∧ b.toNat ≤ 126 then [b] else [92, 120, hx (b.toNat / 16), hx (b.toNat % 16)]
def qs : List UInt8 → List UInt8
  | [] => []
  | b :: t => qb b ++ qs t
def Quote (l : List UInt8) : List UInt8 := 34 :: (qs l ++ [34])
end Go.Proofs.Ytedhkelochpdnaa.L
