/-
  Bits of words as natural numbers: what the walk writes, in Nat's words. No program in sight.
-/
import Derived.Test.YtjnkajdfdhockaaBase
namespace Go.Proofs.Ytjnkajdfdhockaa
set_option linter.unusedVariables false

theorem two_pow_lt (k : Nat) (h : k < 64) : 2 ^ k < 18446744073709551616 := by
  have := Nat.pow_lt_pow_right (a := 2) (by omega) h
  simpa using this
theorem cast_two_pow (k : Nat) : (2 : Int) ^ k = ((2 ^ k : Nat) : Int) := by rw [Int.natCast_pow]; rfl
theorem wrap_nat (a : Nat) : IntKind.u64.wrap (a : Int) = ((a % 18446744073709551616 : Nat) : Int) := by
  rw [IntKind.wrap_u64]; omega
theorem wrap_two_pow (k : Nat) (h : k < 64) : IntKind.u64.wrap ((2 : Int) ^ k) = ((2 ^ k : Nat) : Int) := by
  rw [cast_two_pow, wrap_nat, Nat.mod_eq_of_lt (two_pow_lt k h)]
theorem cast_shr (x k : Nat) : (x : Int) / 2 ^ k = ((x >>> k : Nat) : Int) := by
  rw [cast_two_pow, Nat.shiftRight_eq_div_pow]; rfl
theorem shr_lt (x k : Nat) (h : x < 18446744073709551616) : x >>> k < 18446744073709551616 :=
  Nat.lt_of_le_of_lt (Nat.shiftRight_le x k) h
theorem or_lt {a b : Nat} (ha : a < 18446744073709551616) (hb : b < 18446744073709551616) : a ||| b < 18446744073709551616 :=
  Nat.or_lt_two_pow (n := 64) ha hb
theorem and_lt {a : Nat} (b : Nat) (ha : a < 18446744073709551616) : a &&& b < 18446744073709551616 :=
  Nat.lt_of_le_of_lt Nat.and_le_left ha
theorem xor_lt {a b : Nat} (ha : a < 18446744073709551616) (hb : b < 18446744073709551616) : a ^^^ b < 18446744073709551616 :=
  Nat.xor_lt_two_pow (n := 64) ha hb
theorem bit_and_one (x k : Nat) (h : x < 18446744073709551616) : (bits BinOp.and IntKind.u64 ((x : Int) / 2 ^ k) 1 == 1) = x.testBit k := by
  have h1 : (1 : Int) = ((1 : Nat) : Int) := rfl
  rw [cast_shr, h1, u64_and_nat _ _ (shr_lt x k h) (by omega), Nat.and_one_is_mod, Nat.testBit, Nat.one_and_eq_mod_two]
  rcases Nat.mod_two_eq_zero_or_one (x >>> k) with e | e <;> rw [e] <;> rfl
theorem not_bit (i k : Nat) (hk : k < 64) : (18446744073709551615 - 2 ^ k).testBit i = (decide (i < 64) && decide (i ≠ k)) := by
  have e : 18446744073709551615 - 2 ^ k = 2 ^ 64 - (2 ^ k + 1) := by omega
  rw [e, Nat.testBit_two_pow_sub_succ (two_pow_lt k hk), Nat.testBit_two_pow]
  by_cases h : k = i
  · subst h; simp
  · have h' : i ≠ k := fun e => h e.symm
    simp [h, h']
theorem clear_or (x k : Nat) (hk : k < 64) (hx : x < 18446744073709551616) : (x &&& (18446744073709551615 - 2 ^ k)) ||| 2 ^ k = x ||| 2 ^ k := by
  refine Nat.eq_of_testBit_eq fun i => ?_
  rw [Nat.testBit_or, Nat.testBit_or, Nat.testBit_and, not_bit i k hk, Nat.testBit_two_pow]
  by_cases h : k = i
  · subst h; simp
  · have h' : i ≠ k := fun e => h e.symm
    by_cases h64 : i < 64
    · simp [h, h', h64]
    · have : x.testBit i = false := Nat.testBit_lt_two_pow (Nat.lt_of_lt_of_le hx (Nat.pow_le_pow_right (n := 2) (by omega) (show 64 ≤ i by omega)))
      simp [this]

end Go.Proofs.Ytjnkajdfdhockaa
