/- Plain facts: the sum CRC-32 by nibbles and bit by bit. No condition. -/
import Derived.Laws.BitsAllLaws
import Derived.Laws.BitsLemmas
set_option linter.unusedVariables false
set_option linter.unusedSimpArgs false
namespace Go.Proofs.YtoddldamekamoaaDoor.C

def table : List Nat := [0, 498536548, 997073096, 651767980, 1994146192, 1802195444, 1303535960, 1342533948, 3988292384, 4027552580, 3604390888, 3412177804, 2607071920, 2262029012, 2685067896, 3183342108]
def tab (i : Nat) : Nat := table.getD i 0
/-- Four steps, by the table. -/
def nib (x : Nat) : Nat := (x / 16) ^^^ tab (x % 16)
/-- One step. -/
def bit (x : Nat) : Nat := if x % 2 = 1 then (x / 2) ^^^ 3988292384 else x / 2
def step (x c : Nat) : Nat := nib (nib (x ^^^ c))
theorem tab_lt (i : Nat) : tab i < 4294967296 := by
  by_cases h : i < 16
  · have key : ∀ j, j < 16 → tab j < 4294967296 := by decide +kernel
    exact key i h
  · have : tab i = 0 := by unfold tab; rw [List.getD_eq_getElem?_getD, List.getElem?_eq_none (by simp [table]; omega)]; rfl
    omega
theorem nib_lt {x : Nat} (h : x < 4294967296) : nib x < 4294967296 := by
  have h1 : x / 16 < 2 ^ 32 := by omega
  exact Nat.xor_lt_two_pow h1 (tab_lt _)
theorem step_lt {x c : Nat} (h : x < 4294967296) (hc : c < 256) : step x c < 4294967296 := by
  have : x ^^^ c < 2 ^ 32 := Nat.xor_lt_two_pow h (by omega)
  exact nib_lt (nib_lt this)
/-- The low five bits of what a step lays in are empty. -/
theorem bit_lo {x : Nat} {m : Nat} (hm : m = 16 ∨ m = 8 ∨ m = 4 ∨ m = 2) : (x ^^^ 3988292384) % m = x % m := by
  have e : (3988292384 : Nat) % m = 0 := by rcases hm with rfl | rfl | rfl | rfl <;> rfl
  have hp : ∃ k, m = 2 ^ k := by
    rcases hm with rfl | rfl | rfl | rfl
    · exact ⟨4, rfl⟩
    · exact ⟨3, rfl⟩
    · exact ⟨2, rfl⟩
    · exact ⟨1, rfl⟩
  obtain ⟨k, rfl⟩ := hp
  rw [Nat.xor_mod_two_pow, e, Nat.xor_zero]
theorem div_xor (a b : Nat) : (a ^^^ b) / 2 = (a / 2) ^^^ (b / 2) := by
  have := Nat.shiftRight_xor_distrib (a := a) (b := b) (i := 1)
  simpa only [Nat.shiftRight_eq_div_pow, Nat.pow_one] using this
theorem four (x : Nat) : bit (bit (bit (bit x))) = nib x := by
  have e16 : x / 16 = x / 2 / 2 / 2 / 2 := by omega
  have key : ∀ j, j < 16 → tab j = (if j % 2 = 1 then 3988292384 / 2 / 2 / 2 else 0) ^^^ (if j / 2 % 2 = 1 then 3988292384 / 2 / 2 else 0) ^^^ (if j / 4 % 2 = 1 then 3988292384 / 2 else 0) ^^^ (if j / 8 % 2 = 1 then 3988292384 else 0) := by decide +kernel
  have b0 : ∀ y : Nat, bit y = (y / 2) ^^^ (if y % 2 = 1 then 3988292384 else 0) := by
    intro y; unfold bit; split <;> simp
  have m2 : ∀ (y z : Nat), (y ^^^ (if z = 1 then 3988292384 else 0)) % 2 = y % 2 := by
    intro y z; split
    · exact bit_lo (by omega)
    · simp
  have m4 : ∀ (y z : Nat), (y ^^^ (if z = 1 then 3988292384 / 2 else 0)) % 2 = y % 2 := by
    intro y z; split
    · rw [show (2 : Nat) = 2 ^ 1 from rfl, Nat.xor_mod_two_pow]; simp
    · simp
  have m8 : ∀ (y z : Nat), (y ^^^ (if z = 1 then 3988292384 / 2 / 2 else 0)) % 2 = y % 2 := by
    intro y z; split
    · rw [show (2 : Nat) = 2 ^ 1 from rfl, Nat.xor_mod_two_pow]; simp
    · simp
  have d1 : ∀ (z c : Nat), (if z = 1 then c else 0) / 2 = if z = 1 then c / 2 else 0 := by intro z c; split <;> rfl
  unfold nib
  rw [key _ (Nat.mod_lt _ (by omega)), e16]
  simp only [b0, m2, div_xor, d1, m4, m8]
  have r0 : x % 16 % 2 = x % 2 := by omega
  have r1 : x % 16 / 2 % 2 = x / 2 % 2 := by omega
  have r2 : x % 16 / 4 % 2 = x / 2 / 2 % 2 := by omega
  have r3 : x % 16 / 8 % 2 = x / 2 / 2 / 2 % 2 := by omega
  rw [r0, r1, r2, r3]
  simp only [Nat.xor_assoc]
/-- The sum, bit by bit and by nibbles. -/
theorem eight (x c : Nat) : bit (bit (bit (bit (bit (bit (bit (bit (x ^^^ c)))))))) = step x c := by
  rw [four, four]; rfl

/-! ### a byte that is turned changes the sum -/
theorem tab_top : ∀ i, i < 16 → ∀ j, j < 16 → tab i / 268435456 = tab j / 268435456 → i = j := by decide +kernel
theorem xor_cancel {a b c : Nat} (h : a ^^^ b = a ^^^ c) : b = c := by
  have := congrArg (a ^^^ ·) h
  simpa [← Nat.xor_assoc] using this
theorem xor_cancel_r {a b c : Nat} (h : a ^^^ c = b ^^^ c) : a = b := by
  rw [Nat.xor_comm a, Nat.xor_comm b] at h; exact xor_cancel h
theorem nib_inj {x y : Nat} (hx : x < 4294967296) (hy : y < 4294967296) (h : nib x = nib y) : x = y := by
  unfold nib at h
  have top : ∀ a b : Nat, a < 268435456 → (a ^^^ b) / 268435456 = b / 268435456 := by
    intro a b ha
    have := Nat.shiftRight_xor_distrib (a := a) (b := b) (i := 28)
    simp only [Nat.shiftRight_eq_div_pow] at this
    rw [show (268435456 : Nat) = 2 ^ 28 from rfl, this, Nat.div_eq_of_lt (by omega : a < 2 ^ 28), Nat.zero_xor]
  have h1 := congrArg (· / 268435456) h
  simp only [top _ _ (show x / 16 < 268435456 by omega), top _ _ (show y / 16 < 268435456 by omega)] at h1
  have h2 := tab_top _ (Nat.mod_lt x (by omega)) _ (Nat.mod_lt y (by omega)) h1
  rw [h2] at h
  have h3 := xor_cancel_r h
  omega
theorem step_inj {x y c : Nat} (hx : x < 4294967296) (hy : y < 4294967296) (hc : c < 256) (h : step x c = step y c) : x = y := by
  have a : x ^^^ c < 2 ^ 32 := Nat.xor_lt_two_pow hx (by omega)
  have b : y ^^^ c < 2 ^ 32 := Nat.xor_lt_two_pow hy (by omega)
  exact xor_cancel_r (nib_inj a b (nib_inj (nib_lt a) (nib_lt b) h))
theorem step_byte {x c d : Nat} (hx : x < 4294967296) (hc : c < 256) (hd : d < 256) (h : step x c = step x d) : c = d := by
  have a : x ^^^ c < 2 ^ 32 := Nat.xor_lt_two_pow hx (by omega)
  have b : x ^^^ d < 2 ^ 32 := Nat.xor_lt_two_pow hx (by omega)
  exact xor_cancel (nib_inj a b (nib_inj (nib_lt a) (nib_lt b) h))
def run (x : Nat) (l : List Nat) : Nat := l.foldl step x
theorem run_lt : ∀ (l : List Nat) {x : Nat}, x < 4294967296 → (∀ c ∈ l, c < 256) → run x l < 4294967296
  | [], _, h, _ => h
  | c :: t, x, h, hl => run_lt t (step_lt h (hl c (by simp))) (fun d hd => hl d (by simp [hd]))
theorem run_inj : ∀ (l : List Nat) {x y : Nat}, x < 4294967296 → y < 4294967296 → (∀ c ∈ l, c < 256) → run x l = run y l → x = y
  | [], _, _, _, _, _, h => h
  | c :: t, x, y, hx, hy, hl, h => step_inj hx hy (hl c (by simp)) (run_inj t (step_lt hx (hl c (by simp))) (step_lt hy (hl c (by simp))) (fun d hd => hl d (by simp [hd])) h)
theorem run_turn {x c d : Nat} {a b : List Nat} (hx : x < 4294967296) (ha : ∀ e ∈ a, e < 256) (hb : ∀ e ∈ b, e < 256) (hc : c < 256) (hd : d < 256) (h : run x (a ++ c :: b) = run x (a ++ d :: b)) : c = d := by
  unfold run at h
  rw [List.foldl_append, List.foldl_append, List.foldl_cons, List.foldl_cons] at h
  have hr := run_lt a hx ha
  exact step_byte hr hc hd (run_inj b (step_lt hr hc) (step_lt hr hd) hb h)
end Go.Proofs.YtoddldamekamoaaDoor.C
