/-
  The words of a text, in plain Lean.
-/
import Derived.Test.YtcafhnaododjfaaBits
namespace Go.Proofs.Ytcafhnaododjfaa
set_option linter.unusedVariables false

/-- The number of words of a text of n bytes. -/
def lenW (n : Nat) : Nat := 1 + n / 8 + (if n % 8 > 0 then 1 else 0)

/-- The words behind the first k bytes. -/
def textTo (bs : List UInt8) : Nat → List Nat
  | 0 => bs.length :: List.replicate (lenW bs.length - 1) 0
  | k + 1 => (textTo bs k).set (1 + k / 8) (((textTo bs k)[1 + k / 8]?.getD 0) ||| ((bs[k]?.getD 0).toNat <<< (k % 8 * 8)))

theorem textTo_length (bs : List UInt8) (k : Nat) : (textTo bs k).length = lenW bs.length := by
  induction k with
  | zero => simp [textTo, lenW]; omega
  | succ k ih => simp [textTo, ih]

theorem lenW_gt (n k : Nat) (h : k < n) : 1 + k / 8 < lenW n := by
  unfold lenW
  split <;> omega

theorem byte_shl_lt (b : UInt8) (k : Nat) : b.toNat <<< (k % 8 * 8) < 18446744073709551616 := by
  have h1 : b.toNat < 2 ^ 8 := b.toNat_lt
  have h2 : b.toNat <<< (k % 8 * 8) < 2 ^ (8 + k % 8 * 8) := by
    rw [Nat.shiftLeft_eq, Nat.pow_add]
    exact Nat.mul_lt_mul_of_pos_right h1 (Nat.pow_pos (by omega))
  have h3 : 2 ^ (8 + k % 8 * 8) ≤ 2 ^ 64 := Nat.pow_le_pow_right (by omega) (by omega)
  omega

theorem textTo_w (bs : List UInt8) (k : Nat) (h : bs.length < 18446744073709551616) : W64 (textTo bs k) := by
  induction k with
  | zero =>
    intro x hx
    simp only [textTo, List.mem_cons, List.mem_replicate] at hx
    rcases hx with rfl | ⟨_, rfl⟩
    · exact h
    · omega
  | succ k ih => exact ih.set _ _ (or_lt (ih.at _) (byte_shl_lt _ _))

def textW (bs : List UInt8) : List Nat := textTo bs bs.length

/-- The bytes that words say. -/
def byteOf (l : List Nat) (i : Nat) : UInt8 := UInt8.ofNat ((l[1 + i / 8]?.getD 0) >>> (i % 8 * 8))
def fromL (l : List Nat) (n : Nat) : List UInt8 := (List.range n).map (byteOf l)
theorem fromL_length (l : List Nat) (n : Nat) : (fromL l n).length = n := by simp [fromL]
/-- These words are those of a text. -/
def okT (l : List Nat) : Prop := l.length ≠ 0 ∧ l[0]?.getD 0 ≤ 8192 ∧ l.length = lenW (l[0]?.getD 0) ∧ textW (fromL l (l[0]?.getD 0)) = l
instance (l : List Nat) : Decidable (okT l) := inferInstanceAs (Decidable (_ ∧ _))

end Go.Proofs.Ytcafhnaododjfaa
