/-
  The reference's checksum (volumegroupref01): step, feed, word, Extend, Words, Short.
-/
import Derived.Test.YtjnkajdfdhockaaCrc
import Derived.Test.YtjnkajdfdhockaaC1
namespace Go.Proofs.Ytjnkajdfdhockaa
set_option linter.unusedVariables false
open Go.RowKit

theorem step_odd (x : Nat) (h : x % 2 = 1) : stepC x = (x >>> 1) ^^^ 2197175160 := by
  unfold stepC
  rw [if_pos (by rw [Nat.testBit_zero, h]; rfl)]
  rfl
theorem step_even (x : Nat) (h : ¬ x % 2 = 1) : stepC x = x >>> 1 := by
  unfold stepC
  rw [if_neg (by rw [Nat.testBit_zero]; simpa using h), Nat.xor_zero]
theorem and_one32 (x : Nat) (h : x < 4294967296) : bits .and .u32 (x : Int) 1 = ((x % 2 : Nat) : Int) := by
  have := u32_and_nat x 1 h (by omega)
  rw [Nat.and_one_is_mod] at this
  exact this
theorem shr1_lt (x : Nat) (h : x < 4294967296) : x >>> 1 < 4294967296 := Nat.lt_of_le_of_lt (Nat.shiftRight_le _ _) h

set_option maxHeartbeats 400000 in
theorem refStep_any (x : Nat) (w : World) (hx : x < 4294967296) :
    Calls Try.prog 71 #[.int .u32 (x : Int)] w fun e w' => e = .returned (.int .u32 ((stepC x : Nat) : Int)) ∧ w = w' := by
  have h0 := and_one32 x hx
  by_cases h : x % 2 = 1
  · have h1 : bits .and .u32 (x : Int) 1 = 1 := by rw [h0, h]; rfl
    have H := Lib.hid h
    clear h0 h
    go_enter Try.func71, Try.ntmps71
    go_wp2
    go_ret
    refine ⟨ret_int ?_, rfl⟩
    rw [step_odd x H.out, ← u32_xor_nat _ _ (shr1_lt x hx) (by omega), Nat.shiftRight_eq_div_pow]
    rfl
  · have h1 : (bits .and .u32 (x : Int) 1 == 1) = false := by rw [h0]; simp; omega
    have h2 : ¬ bits .and .u32 (x : Int) 1 = 1 := by simpa using h1
    have H := Lib.hid h
    clear h0 h
    go_enter Try.func71, Try.ntmps71
    go_wp2
    go_ret
    refine ⟨ret_int ?_, rfl⟩
    rw [step_even x H.out, Nat.shiftRight_eq_div_pow]
    rfl

set_option maxHeartbeats 400000 in
theorem refFeed_any (x b : Nat) (w : World) (hx : x < 4294967296) (hb : b < 256) :
    Calls Try.prog 69 #[.int .u32 (x : Int), .int .u8 (b : Int)] w fun e w' => e = .returned (.int .u32 ((feedC x b : Nat) : Int)) ∧ w = w' := by
  have hxb : bits .xor .u32 (x : Int) (b : Int) = ((x ^^^ b : Nat) : Int) := u32_xor_nat x b hx (by omega)
  have hlt : x ^^^ b < 4294967296 := Nat.xor_lt_two_pow (n := 32) hx (by omega)
  go_enter Try.func69, Try.ntmps69
  go_wp2
  go_loop [0, 5] (fun y i => ∃ k : Nat, k ≤ 8 ∧ i = .int .i64 k ∧ y = .int .u32 ((stepN k (x ^^^ b) : Nat) : Int)) (fun _ i => 8 - (intOf i).toNat)
  case atStart => exact ⟨0, Nat.zero_le _, rfl, rfl⟩
  case round =>
    obtain ⟨k, hk, rfl, rfl⟩ := hrel
    have hs := stepN_lt k _ hlt
    by_cases hlt8 : k < 8
    · have h8 : (k : Int) < 8 := by omega
      go_wp2_with fail
      refine (refStep_any _ _ hs).mono ?_
      rintro e w' ⟨rfl, rfl⟩
      go_wp2_with fail
      go_round
      case rel => exact ⟨k + 1, by omega, by go_num, rfl⟩
      case measure => simp [intOf]; omega
    · obtain rfl : k = 8 := by omega
      go_wp2_with fail
      go_ret
      exact ⟨rfl, rfl⟩

theorem byte_wrap (w k : Nat) : IntKind.u8.wrap ((w : Int) / 2 ^ k) = ((((w >>> k) % 256 : Nat)) : Int) := by
  rw [cast_shr, IntKind.wrap_u8]; omega

set_option maxHeartbeats 400000 in
theorem refWord_any (x v : Nat) (w : World) (hx : x < 4294967296) (hv : v < 18446744073709551616) :
    Calls Try.prog 64 #[.int .u32 (x : Int), .int .u64 (v : Int)] w fun e w' => e = .returned (.int .u32 ((wordC x v 8 : Nat) : Int)) ∧ w = w' := by
  go_enter Try.func64, Try.ntmps64
  go_wp2
  go_loop [0, 5] (fun y i => ∃ k : Nat, k ≤ 8 ∧ i = .int .i64 k ∧ y = .int .u32 ((wordC x v k : Nat) : Int)) (fun _ i => 8 - (intOf i).toNat)
  case atStart => exact ⟨0, Nat.zero_le _, rfl, rfl⟩
  case round =>
    obtain ⟨k, hk, rfl, rfl⟩ := hrel
    have hs := wordC_lt x v k hx
    by_cases hlt8 : k < 8
    · have h8 : (k : Int) < 8 := by omega
      have e8 : ((8 : Int) * (k : Int)).toNat = 8 * k := by omega
      have hby := byte_wrap v (8 * k)
      rw [← show byteC v k = (v >>> (8 * k)) % 256 from rfl] at hby
      have hbl := byteC_lt v k
      go_wp2_with fail
      refine (refFeed_any _ _ _ hs hbl).mono ?_
      rintro e w' ⟨rfl, rfl⟩
      go_wp2_with fail
      go_round
      case rel => exact ⟨k + 1, by omega, by go_num, rfl⟩
      case measure => simp [intOf]; omega
    · obtain rfl : k = 8 := by omega
      go_wp2_with fail
      go_ret
      exact ⟨rfl, rfl⟩

theorem xor_ones (s : Nat) (h : s < 4294967296) : 4294967295 ^^^ s = 4294967295 - s := by
  have e : 4294967295 - s = 2 ^ 32 - (s + 1) := by omega
  apply Nat.eq_of_testBit_eq
  intro j
  rw [e, Nat.testBit_two_pow_sub_succ h, Nat.testBit_xor, show (4294967295 : Nat) = 2 ^ 32 - 1 from rfl, Nat.testBit_two_pow_sub_one]
  by_cases hj : j < 32
  · simp [hj]
  · have : s.testBit j = false := Nat.testBit_lt_two_pow (Nat.lt_of_lt_of_le h (Nat.pow_le_pow_right (n := 2) (by omega) (show 32 ≤ j by omega)))
    simp [hj, this]
theorem not32 (s : Nat) (h : s < 4294967296) : bits .xor .u32 IntKind.u32.max (s : Int) = ((4294967295 - s : Nat) : Int) := by
  have := u32_xor_nat 4294967295 s (by omega) h
  rw [xor_ones s h] at this
  exact this

set_option maxHeartbeats 400000 in
theorem refExtend_any (s : Nat) (A : Option Addr) (c n : Nat) (l : List Nat) (w : World) (hn : l.length = n) (hA : Reads w A (uv l)) (hl : W64 l) (hlen : n ≤ 1000000) (hs : s < 4294967296) :
    Calls Try.prog 60 #[.int .u32 (s : Int), .slice A n c] w fun e w' => e = .returned (.int .u32 ((extendC s l : Nat) : Int)) ∧ w = w' := by
  have hcx : ∀ i, i < n → ∃ b off, A = some ⟨b, off, none⟩ ∧ w.cell? ⟨b, off + i, none⟩ = some (.int .u64 ((l[i]?.getD 0 : Nat) : Int)) := by
    intro i hi
    obtain ⟨b, off, e, _, hc⟩ := hA.u (by omega)
    exact ⟨b, off, e, hc i (by omega)⟩
  have HX := Lib.hid hcx
  have HN := Lib.hid hn
  clear hcx hA hn
  go_enter Try.func60, Try.ntmps60
  go_wp2
  go_loop [5, 6] (fun y i => ∃ k : Nat, k ≤ n ∧ i = .int .i64 k ∧ y = .int .u32 ((wordsC (4294967295 - s) (l.take k) : Nat) : Int)) (fun _ i => n - (intOf i).toNat)
  case atStart => exact ⟨0, Nat.zero_le _, rfl, val_int (by rw [not32 s hs]; rfl)⟩
  case round =>
    obtain ⟨k, hk, rfl, rfl⟩ := hrel
    have hs' := wordsC_lt (4294967295 - s) (l.take k) (by omega)
    by_cases hlt : k < n
    · obtain ⟨b, off, rfl, hc1⟩ := HX.out k hlt
      have hv := hl.at k
      have HS := Lib.hid (show wordsC (4294967295 - s) (l.take (k + 1)) = wordC (wordsC (4294967295 - s) (l.take k)) (l[k]?.getD 0) 8 by
        rw [List.take_succ_eq_append_getElem (by rw [HN.out]; exact hlt), wordsC_snoc, List.getElem?_eq_getElem (by rw [HN.out]; exact hlt)]; rfl)
      obtain ⟨v, ev⟩ : ∃ v, l[k]?.getD 0 = v := ⟨_, rfl⟩
      rw [ev] at hc1 hv HS
      clear ev
      have k1 : (k : Int) < (n : Int) := by omega
      go_wp2_with fail
      refine (refWord_any _ _ _ hs' hv).mono ?_
      rintro e w' ⟨rfl, rfl⟩
      go_wp2_with fail
      go_round
      case rel => exact ⟨k + 1, by omega, by go_num, by rw [HS.out]⟩
      case measure => simp [intOf]; omega
    · obtain rfl : k = n := by omega
      go_wp2_with fail
      go_ret
      refine ⟨ret_int ?_, rfl⟩
      rw [not32 _ hs', List.take_of_length_le (by rw [HN.out]; exact Nat.le_refl _)]
      rfl

theorem extendC_lt (s : Nat) (l : List Nat) : extendC s l < 4294967296 := by unfold extendC; omega

set_option maxHeartbeats 400000 in
theorem refWords_sum (A : Option Addr) (c n : Nat) (l : List Nat) (w : World) (hn : l.length = n) (hA : Reads w A (uv l)) (hl : W64 l) (hlen : n ≤ 1000000) :
    Calls Try.prog 51 #[.slice A n c] w fun e w' => e = .returned (.int .u32 ((extendC 0 l : Nat) : Int)) ∧ w = w' := by
  go_enter Try.func51, Try.ntmps51
  go_wp2_with fail
  refine (refExtend_any 0 A c n l w hn hA hl hlen (by omega)).mono ?_
  rintro e w' ⟨rfl, rfl⟩
  go_wp2_with fail
  go_ret
  exact ⟨rfl, rfl⟩

theorem short_val (s : Nat) (h : s < 4294967296) : bits .xor .u16 ((s : Int) / 65536) (IntKind.u16.wrap (s : Int)) = ((shortC s : Nat) : Int) := by
  have e1 : (s : Int) / 65536 = (((s >>> 16) % 65536 : Nat) : Int) := by
    rw [Nat.shiftRight_eq_div_pow]; omega
  have e2 : IntKind.u16.wrap (s : Int) = ((s % 65536 : Nat) : Int) := by rw [IntKind.wrap_u16]; omega
  rw [show (65536 : Int) = ((65536 : Nat) : Int) from rfl, e1, e2, u16_xor_nat _ _ (Nat.mod_lt _ (by omega)) (Nat.mod_lt _ (by omega))]
  rfl

set_option maxHeartbeats 400000 in
theorem refShort_any (s : Nat) (w : World) (h : s < 4294967296) :
    Calls Try.prog 50 #[.int .u32 (s : Int)] w fun e w' => e = .returned (.int .u16 ((shortC s : Nat) : Int)) ∧ w = w' := by
  have H := Lib.hid (short_val s h)
  go_enter Try.func50, Try.ntmps50
  go_wp2_with fail
  go_ret
  exact ⟨ret_int H.out, rfl⟩

set_option maxHeartbeats 400000 in
theorem short_any (s : Nat) (w : World) (h : s < 4294967296) :
    Calls Try.prog 55 #[.int .u32 (s : Int)] w fun e w' => e = .returned (.int .u16 ((shortC s : Nat) : Int)) ∧ w = w' := by
  have H := Lib.hid (short_val s h)
  go_enter Try.func55, Try.ntmps55
  go_wp2_with fail
  go_ret
  exact ⟨ret_int H.out, rfl⟩

end Go.Proofs.Ytjnkajdfdhockaa
