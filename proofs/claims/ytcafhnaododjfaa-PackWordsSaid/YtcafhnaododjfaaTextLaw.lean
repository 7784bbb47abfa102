/-
  Which words are those of a text, in plain Lean.
-/
import Derived.Test.YtcafhnaododjfaaPackI
namespace Go.Proofs.Ytcafhnaododjfaa
set_option linter.unusedVariables false

theorem testBit_w64 {x t : Nat} (h : x < 18446744073709551616) (ht : 64 ≤ t) : x.testBit t = false :=
  Nat.testBit_lt_two_pow (Nat.lt_of_lt_of_le h (Nat.pow_le_pow_right (n := 2) (by omega) ht))

theorem shl_byte_bit (b : UInt8) (k t : Nat) : (b.toNat <<< (k % 8 * 8)).testBit t = (decide (t / 8 = k % 8) && b.toNat.testBit (t % 8)) := by
  rw [Nat.testBit_shiftLeft]
  by_cases h : t / 8 = k % 8
  · have e : t - k % 8 * 8 = t % 8 := by omega
    have g : k % 8 * 8 ≤ t := by omega
    simp [h, e, g]
  · simp only [h, decide_false, Bool.false_and]
    by_cases g : k % 8 * 8 ≤ t
    · have h8 : b.toNat < 2 ^ (t - k % 8 * 8) := Nat.lt_of_lt_of_le b.toNat_lt (Nat.pow_le_pow_right (n := 2) (by omega) (show 8 ≤ t - k % 8 * 8 by omega))
      rw [Nat.testBit_lt_two_pow h8]
      simp
    · simp [g]

/-- The bits of the words of a text behind k bytes. -/
theorem textTo_bit (bs : List UInt8) (k j t : Nat) (hk : k ≤ bs.length) (hj : 1 + j < lenW bs.length) (ht : t < 64) :
    ((textTo bs k)[1 + j]?.getD 0).testBit t = (decide (8 * j + t / 8 < k) && (bs[8 * j + t / 8]?.getD 0).toNat.testBit (t % 8)) := by
  induction k with
  | zero =>
    have : (textTo bs 0)[1 + j]?.getD 0 = 0 := by
      rw [Nat.add_comm]
      simp only [textTo, List.getElem?_cons_succ, List.getElem?_replicate]
      split <;> rfl
    rw [this]
    simp
  | succ k ih =>
    have ih := ih (by omega)
    simp only [textTo]
    by_cases h : k / 8 = j
    · rw [h, List.getElem?_set_self (by rw [textTo_length]; exact hj), Option.getD_some, Nat.testBit_or, ih, shl_byte_bit]
      by_cases h2 : t / 8 = k % 8
      · have e : 8 * j + t / 8 = k := by omega
        rw [e]
        simp [h2]
      · have e : (decide (8 * j + t / 8 < k + 1)) = decide (8 * j + t / 8 < k) := by
          rw [decide_eq_decide]; omega
        simp [h2, e]
    · rw [List.getElem?_set_ne (by omega), ih]
      have e : (decide (8 * j + t / 8 < k + 1)) = decide (8 * j + t / 8 < k) := by
        rw [decide_eq_decide]; omega
      rw [e]

theorem textTo_head (bs : List UInt8) (k : Nat) : (textTo bs k)[0]?.getD 0 = bs.length := by
  induction k with
  | zero => rfl
  | succ k ih =>
    simp only [textTo]
    rw [List.getElem?_set_ne (by omega), ih]

theorem byteOf_bit (l : List Nat) (j t : Nat) (ht : t < 64) : (byteOf l (8 * j + t / 8)).toNat.testBit (t % 8) = (l[1 + j]?.getD 0).testBit t := by
  unfold byteOf
  have e1 : 1 + (8 * j + t / 8) / 8 = 1 + j := by omega
  have e2 : (8 * j + t / 8) % 8 * 8 = t / 8 * 8 := by omega
  rw [e1, e2, UInt8.toNat_ofNat', Nat.testBit_mod_two_pow, Nat.testBit_shiftRight]
  have e3 : t / 8 * 8 + t % 8 = t := by omega
  rw [e3]
  have : t % 8 < 8 := by omega
  simp [this]

theorem textW_iff (l : List Nat) (x : Nat) (hw : W64 l) (hx : l[0]?.getD 0 = x) (hl : l.length = lenW x) (h64 : x < 18446744073709551616) :
    textW (fromL l x) = l ↔ restZero l x (8 * (l.length - 1)) := by
  have hlen : (fromL l x).length = x := fromL_length l x
  constructor
  · intro h i h1 h2
    have key : ∀ s, s < 8 → (byteOf l i).toNat.testBit s = false := by
      intro s hs
      have hb := byteOf_bit l (i / 8) (i % 8 * 8 + s) (by omega)
      have e1 : 8 * (i / 8) + (i % 8 * 8 + s) / 8 = i := by omega
      have e2 : (i % 8 * 8 + s) % 8 = s := by omega
      rw [e1, e2] at hb
      rw [hb, ← h]
      unfold textW
      rw [textTo_bit _ _ _ _ (Nat.le_refl _) (by rw [hlen, ← hl]; omega) (by omega), e1, hlen]
      simp
      intro h; omega
    apply UInt8.toNat_inj.1
    refine Nat.eq_of_testBit_eq fun s => ?_
    by_cases hs : s < 8
    · rw [key s hs]; simp
    · have h8 : (byteOf l i).toNat < 2 ^ s := Nat.lt_of_lt_of_le (byteOf l i).toNat_lt (Nat.pow_le_pow_right (n := 2) (by omega) (show 8 ≤ s by omega))
      rw [Nat.testBit_lt_two_pow h8]; simp
  · intro h
    have hlen2 : (textW (fromL l x)).length = l.length := by unfold textW; rw [textTo_length, hlen, hl]
    refine List.ext_getElem hlen2 fun i h1 h2 => ?_
    have e : ∀ m : List Nat, ∀ hm : i < m.length, m[i] = m[i]?.getD 0 := fun m hm => by simp [hm]
    rw [e _ h1, e _ h2]
    cases i with
    | zero => unfold textW; rw [textTo_head, hlen, hx]
    | succ j =>
      rw [Nat.add_comm j 1]
      refine Nat.eq_of_testBit_eq fun t => ?_
      by_cases ht : t < 64
      · unfold textW
        rw [textTo_bit _ _ _ _ (Nat.le_refl _) (by rw [hlen, ← hl]; omega) ht, hlen]
        by_cases hlt : 8 * j + t / 8 < x
        · have : (fromL l x)[8 * j + t / 8]?.getD 0 = byteOf l (8 * j + t / 8) := by simp [fromL, hlt]
          rw [this, byteOf_bit l j t ht]
          simp [hlt]
        · have hz := h (8 * j + t / 8) (by omega) (by omega)
          have hb := byteOf_bit l j t ht
          rw [hz] at hb
          rw [← hb]
          simp [hlt]
      · have hw2 := textTo_w (fromL l x) (fromL l x).length (by rw [hlen]; exact h64)
        rw [testBit_w64 (hw.at _) (by omega)]
        exact testBit_w64 (hw2.at _) (by omega)

theorem okT_iff (l : List Nat) (hw : W64 l) (hl : l.length ≤ 1000) : okT l ↔ (l.length ≠ 0 ∧ l[0]?.getD 0 ≤ 8 * l.length ∧ l.length = lenW (l[0]?.getD 0) ∧ restZero l (l[0]?.getD 0) (8 * (l.length - 1))) := by
  unfold okT
  constructor
  · rintro ⟨h0, h1, h2, h3⟩
    refine ⟨h0, ?_, h2, (textW_iff l _ hw rfl h2 (by omega)).1 h3⟩
    unfold lenW at h2
    split at h2 <;> omega
  · rintro ⟨h0, h1, h2, h3⟩
    have : l[0]?.getD 0 ≤ 8192 := by unfold lenW at h2; split at h2 <;> omega
    exact ⟨h0, this, h2, (textW_iff l _ hw rfl h2 (by omega)).2 h3⟩

/-- What FromText answers. -/
def txtR (l : List Nat) : ByteArray := if okT l then ⟨(fromL l (l[0]?.getD 0)).toArray⟩ else ⟨#[]⟩
def txtE (l : List Nat) : Int := if okT l then 0 else 2

open Go.RowKit in
theorem fromText_all (A : Option Addr) (c N : Nat) (l : List Nat) (w : World) (hN : l.length = N) (hA : Reads w A (uv l)) (hl : N ≤ 1000000) (hw : W64 l) :
    Calls Try.prog 24 #[.slice A N c] w fun e w' => e = .returned (.tuple #[.string (txtR l), .int .i64 (txtE l)]) ∧ Below w.heap.size w w' := by
  subst hN
  unfold txtR txtE
  by_cases hs : l.length = 0 ∨ 8192 < l[0]?.getD 0 ∨ l.length ≠ lenW (l[0]?.getD 0)
  · have hn : ¬ okT l := by
      rintro ⟨h0, h1, h2, _⟩
      omega
    rw [if_neg hn, if_neg hn]
    refine (fromText_short A c l w hA hl hw hs).mono ?_
    rintro e w' ⟨rfl, rfl⟩
    exact ⟨rfl, Below.refl _ _⟩
  · have h1 : l.length ≠ 0 := fun h => hs (.inl h)
    have h2 : l[0]?.getD 0 ≤ 8192 := Nat.le_of_not_lt fun h => hs (.inr (.inl h))
    have h3 : l.length = lenW (l[0]?.getD 0) := Classical.byContradiction fun h => hs (.inr (.inr h))
    refine (fromText_long A c l w hA hl hw h1 h2 h3).mono ?_
    rintro e w' ⟨hb, ⟨h, rfl⟩ | ⟨h, rfl⟩⟩
    · have : okT l := ⟨h1, h2, h3, h⟩
      rw [if_pos this, if_pos this]
      exact ⟨rfl, hb⟩
    · have : ¬ okT l := fun k => h k.2.2.2
      rw [if_neg this, if_neg this]
      exact ⟨rfl, hb⟩

open Go.RowKit in
theorem refFromText_all (A : Option Addr) (c N : Nat) (l : List Nat) (w : World) (hN : l.length = N) (hA : Reads w A (uv l)) (hl : N ≤ 1000) (hw : W64 l) :
    Calls Try.prog 26 #[.slice A N c] w fun e w' => e = .returned (.tuple #[.string (txtR l), .int .i64 (txtE l)]) ∧ Below w.heap.size w w' := by
  subst hN
  have hiff := okT_iff l hw hl
  unfold txtR txtE
  by_cases hs : l.length = 0 ∨ 8 * l.length < l[0]?.getD 0 ∨ l.length ≠ lenW (l[0]?.getD 0)
  · have hn : ¬ okT l := by
      rw [hiff]
      rintro ⟨h0, h1, h2, _⟩
      omega
    rw [if_neg hn, if_neg hn]
    refine (refFromText_short A c l w hA hl hw hs).mono ?_
    rintro e w' ⟨rfl, rfl⟩
    exact ⟨rfl, Below.refl _ _⟩
  · have h1 : l.length ≠ 0 := fun h => hs (.inl h)
    have h2 : l[0]?.getD 0 ≤ 8 * l.length := Nat.le_of_not_lt fun h => hs (.inr (.inl h))
    have h3 : l.length = lenW (l[0]?.getD 0) := Classical.byContradiction fun h => hs (.inr (.inr h))
    refine (refFromText_long A c l w hA hl hw h1 h2 h3).mono ?_
    rintro e w' ⟨hb, ⟨h, rfl⟩ | ⟨h, rfl⟩⟩
    · have : okT l := hiff.2 ⟨h1, h2, h3, h⟩
      rw [if_pos this, if_pos this]
      exact ⟨rfl, hb⟩
    · have : ¬ okT l := fun k => h (hiff.1 k).2.2.2
      rw [if_neg this, if_neg this]
      exact ⟨rfl, hb⟩

/-- FromText undoes Text. -/
theorem byteOf_textW (bs : List UInt8) (i : Nat) (h : i < bs.length) : byteOf (textW bs) i = bs[i]?.getD 0 := by
  apply UInt8.toNat_inj.1
  refine Nat.eq_of_testBit_eq fun s => ?_
  by_cases hs : s < 8
  · have hb := byteOf_bit (textW bs) (i / 8) (i % 8 * 8 + s) (by omega)
    have e1 : 8 * (i / 8) + (i % 8 * 8 + s) / 8 = i := by omega
    have e2 : (i % 8 * 8 + s) % 8 = s := by omega
    rw [e1, e2] at hb
    rw [hb]
    unfold textW
    rw [textTo_bit _ _ _ _ (Nat.le_refl _) (lenW_gt _ _ h) (by omega), e1, e2]
    simp [h]
  · have h8 : ∀ b : UInt8, b.toNat.testBit s = false := fun b => Nat.testBit_lt_two_pow (Nat.lt_of_lt_of_le b.toNat_lt (Nat.pow_le_pow_right (n := 2) (by omega) (show 8 ≤ s by omega)))
    rw [h8, h8]
theorem fromL_textW (bs : List UInt8) : fromL (textW bs) bs.length = bs := by
  refine List.ext_getElem (fromL_length _ _) fun i h1 h2 => ?_
  have := byteOf_textW bs i h2
  simp [fromL, this, h2]
theorem okT_textW (bs : List UInt8) (h : bs.length ≤ 8192) : okT (textW bs) ∧ txtR (textW bs) = ⟨bs.toArray⟩ ∧ txtE (textW bs) = 0 := by
  have h0 : (textW bs)[0]?.getD 0 = bs.length := textTo_head bs _
  have hl : (textW bs).length = lenW bs.length := textTo_length bs _
  have hok : okT (textW bs) := ⟨by rw [hl]; unfold lenW; omega, by rw [h0]; exact h, by rw [h0, hl], by rw [h0, fromL_textW]⟩
  refine ⟨hok, ?_, if_pos hok⟩
  unfold txtR
  rw [if_pos hok, h0, fromL_textW]

end Go.Proofs.Ytcafhnaododjfaa
