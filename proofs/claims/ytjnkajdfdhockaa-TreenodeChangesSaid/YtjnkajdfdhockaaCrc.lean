/-
  The checksum in plain Lean: bit by bit, and by a table.
-/
import Derived.Test.YtjnkajdfdhockaaBase
namespace Go.Proofs.Ytjnkajdfdhockaa
set_option linter.unusedVariables false

def poly : Nat := 2197175160
/-- The register shifted by one bit. -/
def stepC (x : Nat) : Nat := (x >>> 1) ^^^ (if x.testBit 0 then poly else 0)
def stepN : Nat → Nat → Nat
  | 0, x => x
  | k + 1, x => stepC (stepN k x)
def step8 (x : Nat) : Nat := stepN 8 x
def feedC (x b : Nat) : Nat := step8 (x ^^^ b)
/-- Byte i of a word. -/
def byteC (w i : Nat) : Nat := (w >>> (8 * i)) % 256
/-- The register behind the first k bytes of a word. -/
def wordC (x w : Nat) : Nat → Nat
  | 0 => x
  | k + 1 => feedC (wordC x w k) (byteC w k)
def wordsC (x : Nat) (l : List Nat) : Nat := l.foldl (fun x w => wordC x w 8) x
def extendC (s : Nat) (l : List Nat) : Nat := 4294967295 - wordsC (4294967295 - s) l
def shortC (s : Nat) : Nat := ((s >>> 16) % 65536) ^^^ (s % 65536)

theorem stepC_xor (a b : Nat) : stepC (a ^^^ b) = stepC a ^^^ stepC b := by
  unfold stepC
  rw [Nat.shiftRight_xor_distrib, Nat.testBit_xor]
  apply Nat.eq_of_testBit_eq
  intro j
  cases a.testBit 0 <;> cases b.testBit 0 <;> simp only [Nat.testBit_xor, Nat.zero_testBit, if_true, if_false, Bool.xor_false, Bool.xor_true, Bool.not_false, Bool.not_true, Bool.false_eq_true] <;>
    generalize (a >>> 1).testBit j = p <;> generalize (b >>> 1).testBit j = q <;> generalize poly.testBit j = r <;> cases p <;> cases q <;> cases r <;> rfl
theorem stepN_xor (k a b : Nat) : stepN k (a ^^^ b) = stepN k a ^^^ stepN k b := by
  induction k with
  | zero => rfl
  | succ k ih => simp only [stepN, ih, stepC_xor]
theorem stepC_even (m : Nat) : stepC (2 * m) = m := by
  unfold stepC
  have : (2 * m).testBit 0 = false := by simp
  rw [this, Nat.shiftRight_eq_div_pow]
  simp
theorem stepN_shift (k m : Nat) : stepN k (2 ^ k * m) = m := by
  induction k generalizing m with
  | zero => simp [stepN]
  | succ k ih =>
    have : 2 ^ (k + 1) * m = 2 ^ k * (2 * m) := by rw [Nat.pow_succ, Nat.mul_assoc]
    rw [stepN, this, ih, stepC_even]
theorem split8 (y : Nat) : y = (y % 256) ^^^ (2 ^ 8 * (y >>> 8)) := by
  have h1 : y % 256 < 2 ^ 8 := Nat.mod_lt _ (by omega)
  have h2 : 2 ^ 8 * (y >>> 8) + y % 256 = y := by rw [Nat.shiftRight_eq_div_pow]; omega
  apply Nat.eq_of_testBit_eq
  intro j
  rw [Nat.testBit_xor, Nat.testBit_two_pow_mul, show (256 : Nat) = 2 ^ 8 from rfl, Nat.testBit_mod_two_pow, Nat.testBit_shiftRight]
  by_cases h : j < 8
  · have : ¬ 8 ≤ j := by omega
    simp [h, this]
  · have h' : 8 ≤ j := by omega
    have : 8 + (j - 8) = j := by omega
    simp [h, h', this]
/-- A byte by the table. -/
theorem feedC_table (x b : Nat) (hb : b < 256) : feedC x b = step8 ((x % 256) ^^^ b) ^^^ (x >>> 8) := by
  unfold feedC step8
  have e1 : (x ^^^ b) % 256 = (x % 256) ^^^ b := by
    have : b = b % 2 ^ 8 := (Nat.mod_eq_of_lt hb).symm
    rw [show (256 : Nat) = 2 ^ 8 from rfl, Nat.xor_mod_two_pow, ← this]
  have e2 : (x ^^^ b) >>> 8 = x >>> 8 := by
    rw [Nat.shiftRight_xor_distrib, Nat.shiftRight_eq_div_pow b, Nat.div_eq_of_lt hb, Nat.xor_zero]
  conv => lhs; rw [split8 (x ^^^ b)]
  rw [stepN_xor, stepN_shift, e1, e2]

theorem poly_lt : poly < 4294967296 := by decide
theorem stepC_lt (x : Nat) (h : x < 4294967296) : stepC x < 4294967296 := by
  unfold stepC
  refine Nat.xor_lt_two_pow (n := 32) ?_ ?_
  · rw [Nat.shiftRight_eq_div_pow]; omega
  · split
    · exact poly_lt
    · omega
theorem stepN_lt (k x : Nat) (h : x < 4294967296) : stepN k x < 4294967296 := by
  induction k with
  | zero => exact h
  | succ k ih => exact stepC_lt _ ih
theorem feedC_lt (x b : Nat) (h : x < 4294967296) (hb : b < 256) : feedC x b < 4294967296 :=
  stepN_lt 8 _ (Nat.xor_lt_two_pow (n := 32) h (by omega))
theorem byteC_lt (w i : Nat) : byteC w i < 256 := Nat.mod_lt _ (by omega)
theorem wordC_lt (x w k : Nat) (h : x < 4294967296) : wordC x w k < 4294967296 := by
  induction k with
  | zero => exact h
  | succ k ih => exact feedC_lt _ _ ih (byteC_lt _ _)
theorem wordsC_lt (x : Nat) (l : List Nat) (h : x < 4294967296) : wordsC x l < 4294967296 := by
  induction l generalizing x with
  | nil => exact h
  | cons w l ih => exact ih _ (wordC_lt _ _ _ h)
theorem wordsC_snoc (x : Nat) (l : List Nat) (w : Nat) : wordsC x (l ++ [w]) = wordC (wordsC x l) w 8 := by simp [wordsC]
theorem shortC_lt (s : Nat) : shortC s < 65536 := by
  unfold shortC
  exact Nat.xor_lt_two_pow (n := 16) (Nat.mod_lt _ (by omega)) (Nat.mod_lt _ (by omega))

end Go.Proofs.Ytjnkajdfdhockaa
