/-
  Plain law: Decode undoes Encode.
-/
import Derived.Test.YtjnkajdfdhockaaNodeJ
namespace Go.Proofs.Ytjnkajdfdhockaa
set_option linter.unusedVariables false
open Go.RowKit

theorem clearS_at (a s t : Nat) (ha : a < 4294967296) (hs : s < 65536) (ht : t < 65536) : clearS (a + s * 4294967296 + t * 281474976710656) = a + t * 281474976710656 := by
  unfold clearS
  have e1 : a + s * 4294967296 + t * 281474976710656 = 2 ^ 48 * t + (2 ^ 32 * s + a) := by omega
  have e2 : 18446744073709551615 - 281470681743360 = 2 ^ 48 * 65535 + (2 ^ 32 * 0 + (2 ^ 32 - 1)) := by omega
  have e3 : a + t * 281474976710656 = 2 ^ 48 * t + (2 ^ 32 * 0 + a) := by omega
  rw [e1, e2, e3]
  refine Nat.eq_of_testBit_eq fun j => ?_
  rw [Nat.testBit_and, Nat.testBit_two_pow_mul_add _ (by omega), Nat.testBit_two_pow_mul_add _ (by omega), Nat.testBit_two_pow_mul_add _ (by omega), Nat.testBit_two_pow_mul_add _ (by omega), Nat.testBit_two_pow_mul_add _ (by omega), Nat.testBit_two_pow_mul_add _ (by omega)]
  by_cases h48 : j < 48
  · rw [if_pos h48, if_pos h48, if_pos h48]
    by_cases h32 : j < 32
    · rw [if_pos h32, if_pos h32, if_pos h32, Nat.testBit_two_pow_sub_one]
      simp [h32]
    · rw [if_neg h32, if_neg h32, if_neg h32]
      simp
  · rw [if_neg h48, if_neg h48, if_neg h48]
    have h : (65535 : Nat) = 2 ^ 16 - 1 := by omega
    rw [h, Nat.testBit_two_pow_sub_one]
    by_cases h16 : j - 48 < 16
    · simp [h16]
    · have : t.testBit (j - 48) = false := Nat.testBit_lt_two_pow (Nat.lt_of_lt_of_le (show t < 2 ^ 16 by omega) (Nat.pow_le_pow_right (by omega) (by omega)))
      simp [h16, this]

theorem sealW_at (a s t : Nat) (ha : a < 4294967296) (hs : s < 65536) (ht : t < 65536) : sealW (a + t * 281474976710656) s = a + s * 4294967296 + t * 281474976710656 := by
  unfold sealW
  have h0 := clearS_at a 0 t ha (by omega) ht
  rw [Nat.zero_mul, Nat.add_zero] at h0
  rw [h0, Nat.shiftLeft_eq]
  have e1 : a + t * 281474976710656 = 2 ^ 48 * t + (2 ^ 32 * 0 + a) := by omega
  have e2 : s * 2 ^ 32 = 2 ^ 48 * 0 + (2 ^ 32 * s + 0) := by omega
  have e3 : a + s * 4294967296 + t * 281474976710656 = 2 ^ 48 * t + (2 ^ 32 * s + a) := by omega
  rw [e3, e1, e2]
  refine Nat.eq_of_testBit_eq fun j => ?_
  rw [Nat.testBit_or, Nat.testBit_two_pow_mul_add _ (by omega), Nat.testBit_two_pow_mul_add _ (by omega), Nat.testBit_two_pow_mul_add _ (by omega), Nat.testBit_two_pow_mul_add _ (by omega), Nat.testBit_two_pow_mul_add _ (by omega), Nat.testBit_two_pow_mul_add _ (by omega)]
  by_cases h48 : j < 48
  · rw [if_pos h48, if_pos h48, if_pos h48]
    by_cases h32 : j < 32
    · rw [if_pos h32, if_pos h32, if_pos h32]; simp
    · rw [if_neg h32, if_neg h32, if_neg h32]; simp
  · rw [if_neg h48, if_neg h48, if_neg h48]; simp

theorem padN_full (l : List Nat) (h : l.length = 16) : padN l = l := by simp [padN, h]

theorem sumN_def (X : List Nat) : sumN X = shortC (extendC 0 (X.set 0 (clearS (X[0]?.getD 0)))) := by unfold sumN; exact Eq.refl _

/-- A word with its sum: set, and read again. -/
theorem seal_gen (P : List Nat) (x y : Nat) (hl : P.length = 16) (h0 : P[0]?.getD 0 = x) (hy : sealW x (sumN P) = y) (hcx : clearS x = x) (hcy : clearS y = x) :
    sealN P = P.set 0 y ∧ sumN (sealN P) = sumN P := by
  have h1 : sealN P = P.set 0 y := by
    unfold sealN
    rw [padN_full P hl, h0, hy]
  refine ⟨h1, ?_⟩
  have e0 : (P.set 0 y)[0]?.getD 0 = y := by
    rw [List.getElem?_set_self (by omega), Option.getD_some]
  have hq := sumN_def P
  rw [h0, hcx] at hq
  rw [h1, sumN_def (P.set 0 y), e0, hcy, List.set_set, hq]

/-- The words of a block behind their seal. -/
theorem seal_parts (P : List Nat) (a t : Nat) (ha : a < 4294967296) (ht : t < 65536) (hl : P.length = 16) (h0 : P[0]?.getD 0 = a + t * 281474976710656) :
    sealN P = P.set 0 (a + sumN P * 4294967296 + t * 281474976710656) ∧ sumN (sealN P) = sumN P := by
  have hs := sumN_lt P
  have hc := clearS_at a 0 t ha (by omega) ht
  rw [Nat.zero_mul, Nat.add_zero] at hc
  exact seal_gen P _ _ hl h0 (sealW_at a (sumN P) t ha hs ht) hc (clearS_at a (sumN P) t ha hs ht)

theorem encTo_at (h : Nat) (l : List (Int × Nat)) (k : Nat) (hk : k ≤ 7) (j : Nat) (hj : j < 16) :
    (encTo h l k)[j]?.getD 0 = if j = 0 then h else if j < 1 + k then (l[j - 1]?.getD (0, 0)).1.toNat else if 8 ≤ j ∧ j < 8 + k then (l[j - 8]?.getD (0, 0)).2 else 0 := by
  induction k with
  | zero =>
    rw [encTo]
    by_cases h0 : j = 0
    · subst h0; rfl
    · rw [if_neg h0, if_neg (by omega), if_neg (by omega), List.getElem?_set_ne (by omega)]
      rw [List.getElem?_replicate, if_pos hj]
      rfl
  | succ k ih =>
    have ih := ih (by omega)
    rw [encTo]
    by_cases h8 : j = 8 + k
    · subst h8
      rw [List.getElem?_set_self (by rw [List.length_set, encTo_length]; omega), if_neg (by omega), if_neg (by omega), if_pos ⟨by omega, by omega⟩, show 8 + k - 8 = k by omega]
      rfl
    · rw [List.getElem?_set_ne (fun e => h8 e.symm)]
      by_cases h1 : j = 1 + k
      · subst h1
        rw [List.getElem?_set_self (by rw [encTo_length]; omega), if_neg (by omega), if_pos (by omega), show 1 + k - 1 = k by omega]
        rfl
      · rw [List.getElem?_set_ne (fun e => h1 e.symm), ih]
        by_cases h0 : j = 0
        · rw [if_pos h0, if_pos h0]
        · rw [if_neg h0, if_neg h0]
          by_cases h2 : j < 1 + k
          · rw [if_pos h2, if_pos (show j < 1 + (k + 1) by omega)]
          · rw [if_neg h2, if_neg (show ¬ j < 1 + (k + 1) by omega)]
            by_cases h3 : 8 ≤ j ∧ j < 8 + k
            · rw [if_pos h3, if_pos (show 8 ≤ j ∧ j < 8 + (k + 1) by omega)]
            · rw [if_neg h3, if_neg (show ¬ (8 ≤ j ∧ j < 8 + (k + 1)) by omega)]

theorem encP_at (lv sq : Int) (l : List (Int × Nat)) (block : Int) (hl : l.length ≤ 7) (j : Nat) (hj : j < 15) :
    (encP lv sq l block)[j]?.getD 0 = if j = 0 then hdN 2 lv l.length block else if j < 1 + l.length then (l[j - 1]?.getD (0, 0)).1.toNat else if 8 ≤ j ∧ j < 8 + l.length then (l[j - 8]?.getD (0, 0)).2 else 0 := by
  unfold encP
  rw [List.getElem?_set_ne (by omega), encTo_at _ _ _ hl _ (by omega)]
theorem encP_15 (lv sq : Int) (l : List (Int × Nat)) (block : Int) : (encP lv sq l block)[15]?.getD 0 = sq.toNat := by
  unfold encP
  rw [List.getElem?_set_self (by rw [encTo_length]; omega)]
  rfl

/-- All that is asked of the words of a valid node. -/
theorem enc_facts (lv sq : Int) (l : List (Int × Nat)) (block : Int) (hv : validN lv sq l = 0) (h1 : 0 ≤ block) (h2 : block < 4096) :
    ∃ s, s < 65536 ∧ s = sumN (encN lv sq l block) ∧ (encN lv sq l block)[0]?.getD 0 = (2 + lv.toNat * 16 + l.length * 256 + block.toNat * 4096) + s * 4294967296 + 19796 * 281474976710656 ∧
      (∀ j, 0 < j → (encN lv sq l block)[j]?.getD 0 = (encP lv sq l block)[j]?.getD 0) := by
  obtain ⟨q1, q2, q3, q4, q5, q6⟩ := (valid_iff lv sq l).1 hv
  have hh : hdN 2 lv l.length block = (2 + lv.toNat * 16 + l.length * 256 + block.toNat * 4096) + 19796 * 281474976710656 := by
    unfold hdN; omega
  have h0 := encP_at lv sq l block q5 0 (by omega)
  rw [if_pos rfl, hh] at h0
  obtain ⟨e1, e2⟩ := seal_parts (encP lv sq l block) (2 + lv.toNat * 16 + l.length * 256 + block.toNat * 4096) 19796 (by omega) (by omega) (encP_length _ _ _ _) h0
  refine ⟨sumN (encP lv sq l block), sumN_lt _, e2.symm, ?_, ?_⟩
  · show (sealN _)[0]?.getD 0 = _
    rw [e1, List.getElem?_set_self (by rw [encP_length]; omega)]
    rfl
  · intro j hj
    show (sealN _)[j]?.getD 0 = _
    rw [e1, List.getElem?_set_ne (by omega)]

theorem sealed_enc (lv sq : Int) (l : List (Int × Nat)) (block b2 : Int) (hv : validN lv sq l = 0) (h1 : 0 ≤ block) (h2 : block < 4096) :
    sealedN (encN lv sq l block) 2 b2 = if block ≠ b2 then 24 else 0 := by
  obtain ⟨q1, q2, q3, q4, q5, q6⟩ := (valid_iff lv sq l).1 hv
  obtain ⟨s, hs, e1, e2, e3⟩ := enc_facts lv sq l block hv h1 h2
  unfold sealedN
  rw [if_neg (by rw [encN_length]; omega), e2, if_neg (by omega), ← e1, if_neg (by omega)]
  have hb : ((((2 + lv.toNat * 16 + l.length * 256 + block.toNat * 4096) + s * 4294967296 + 19796 * 281474976710656) / 4096 % 1048576 : Nat) : Int) = block := by omega
  rw [hb]

theorem decode_enc (lv sq : Int) (l : List (Int × Nat)) (block : Int) (hl : E64 l) (hv : validN lv sq l = 0) (h1 : 0 ≤ block) (h2 : block < 4096) :
    decE (encN lv sq l block) block = 0 ∧ decLv (encN lv sq l block) block = lv ∧ decSq (encN lv sq l block) block = sq ∧ decL (encN lv sq l block) block = l := by
  obtain ⟨q1, q2, q3, q4, q5, q6⟩ := (valid_iff lv sq l).1 hv
  obtain ⟨s, hs, e1, e2, e3⟩ := enc_facts lv sq l block hv h1 h2
  have hS : sealedN (encN lv sq l block) 2 block = 0 := by rw [sealed_enc lv sq l block block hv h1 h2, if_neg (by omega)]
  have hc : cntN (encN lv sq l block) = l.length := by unfold cntN; rw [e2]; omega
  have hL : lvN (encN lv sq l block) = lv.toNat := by unfold lvN; rw [e2]; omega
  have hQ : sqN (encN lv sq l block) = sq.toNat := by unfold sqN; rw [e3 15 (by omega), encP_15]
  have hent : ∀ i, i < l.length → entAt (encN lv sq l block) i = l[i]?.getD (0, 0) := by
    intro i hi
    have hk := ascF_at (-1) l i q6 hi
    unfold entAt
    rw [e3 (1 + i) (by omega), e3 (8 + i) (by omega), encP_at _ _ _ _ q5 _ (by omega), encP_at _ _ _ _ q5 _ (by omega)]
    rw [if_neg (show ¬ 1 + i = 0 by omega), if_pos (show 1 + i < 1 + l.length by omega), if_neg (show ¬ 8 + i = 0 by omega), if_neg (show ¬ 8 + i < 1 + l.length by omega), if_pos (show 8 ≤ 8 + i ∧ 8 + i < 8 + l.length by omega)]
    rw [show 1 + i - 1 = i by omega, show 8 + i - 8 = i by omega]
    apply Prod.ext
    · simp only []; omega
    · rfl
  have hup : upto (entAt (encN lv sq l block)) l.length = l := by
    apply List.ext_getElem (by rw [upto_length])
    intro i h3 h4
    have := hent i h4
    rw [List.getElem?_eq_getElem h4] at this
    simp only [upto, List.getElem_map, List.getElem_range]
    exact this
  have hok : okAll (encN lv sq l block) l.length = true := by
    refine okAll_of fun i hi => ?_
    unfold okAt
    rw [decide_eq_true_eq, e3 (1 + i) (by omega), e3 (8 + i) (by omega), encP_at _ _ _ _ q5 _ (by omega), encP_at _ _ _ _ q5 _ (by omega)]
    rw [if_neg (show ¬ 1 + i = 0 by omega), if_neg (show ¬ 8 + i = 0 by omega)]
    by_cases hi2 : i < l.length
    · have hk := ascF_at (-1) l i q6 hi2
      rw [if_pos (show 1 + i < 1 + l.length by omega), show 1 + i - 1 = i by omega]
      exact ⟨by omega, fun h => absurd h (by omega)⟩
    · rw [if_neg (show ¬ 1 + i < 1 + l.length by omega), if_neg (show ¬ (8 ≤ 1 + i ∧ 1 + i < 8 + l.length) by omega), if_neg (show ¬ 8 + i < 1 + l.length by omega), if_neg (show ¬ (8 ≤ 8 + i ∧ 8 + i < 8 + l.length) by omega)]
      exact ⟨by omega, fun _ => ⟨rfl, rfl⟩⟩
  have hvv : validN (lvN (encN lv sq l block)) (sqN (encN lv sq l block)) (upto (entAt (encN lv sq l block)) (cntN (encN lv sq l block))) = 0 := by
    rw [hc, hup, hL, hQ, show ((lv.toNat : Nat) : Int) = lv by omega, show ((sq.toNat : Nat) : Int) = sq by omega]
    exact hv
  have hE : decE (encN lv sq l block) block = 0 := by
    unfold decE
    rw [if_neg (by omega), hvv, hc, hok, if_neg (by rw [hQ]; omega), if_neg (by simp), if_neg (by omega)]
  refine ⟨hE, ?_, ?_, ?_⟩
  · unfold decLv; rw [if_pos hE, hL]; omega
  · unfold decSq; rw [if_pos hE, hQ]; omega
  · unfold decL; rw [if_pos hE, hc, hup]

end Go.Proofs.Ytjnkajdfdhockaa
