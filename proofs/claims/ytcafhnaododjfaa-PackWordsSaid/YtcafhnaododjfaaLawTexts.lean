import Derived.Test.YtcafhnaododjfaaTextLaw
import Derived.Test.YtcafhnaododjfaaLawSets
namespace Go.Proofs.Ytcafhnaododjfaa
set_option linter.unusedVariables false
open Go.RowKit

theorem tmod_bd (n : Int) : n.tmod 100000 ≤ 1000000 ∧ -9223372036854775808 ≤ n.tmod 100000 := by
  have h1 := Int.tmod_lt_of_pos n (b := 100000) (by omega)
  have h2 : -100000 < n.tmod 100000 := Int.lt_tmod_of_pos n (by omega)
  omega

set_option maxHeartbeats 400000 in
theorem packTexts_no (s : ByteArray) (n : Int) (w : World) (h : 8201 < s.size) :
    Calls Try.prog 6 #[.string s, .int .i64 n] w fun e w' => e = .returned (.bool true) ∧ Below w.heap.size w w' := by
  have h2 : 8201 < (s.size : Int) := by omega
  go_enter Try.func6, Try.ntmps6
  go_wp2_with fail
  refine (awake_any _).mono ?_
  rintro e w8 ⟨rfl, b8⟩
  go_wp2_with fail
  go_ret
  exact ⟨rfl, b8⟩

set_option maxHeartbeats 400000 in
theorem packTexts_mid (s : ByteArray) (n : Int) (w : World) (h : s.size ≤ 8201) (h1 : 8192 < s.size) :
    Calls Try.prog 6 #[.string s, .int .i64 n] w fun e w' => e = .returned (.bool true) ∧ Below w.heap.size w w' := by
  have h2 : ¬ 8201 < (s.size : Int) := by omega
  obtain ⟨t1, t2⟩ := tmod_bd n
  go_enter Try.func6, Try.ntmps6
  go_wp2_with fail
  refine (text_no s _ h1).mono ?_
  rintro e w1 ⟨rfl, rfl⟩
  go_wp2_with fail
  refine (refText_no s _ h1).mono ?_
  rintro e w1 ⟨rfl, rfl⟩
  go_wp2_with fail
  refine (same_any' none none 0 0 0 0 [] [] _ rfl rfl Reads.nil Reads.nil (by omega) (by omega)).mono ?_
  rintro e w1 ⟨rfl, m1, rfl⟩
  rw [decide_eq_true (rfl : ([] : List Nat) = [])]
  go_wp2_with fail
  refine (length_any _ _ t1 t2).mono ?_
  rintro e w1 ⟨rfl, rfl⟩
  go_wp2_with fail
  refine (refLength_any _ _ t1 t2).mono ?_
  rintro e w1 ⟨rfl, rfl⟩
  have q : (lenI (n.tmod 100000) != lenI (n.tmod 100000)) = false := by simp
  go_wp2_with fail
  refine (fromText_all none 0 0 [] _ rfl Reads.nil (by omega) (by intro x hx; cases hx)).mono ?_
  rintro e w2 ⟨rfl, b2⟩
  go_wp2_with fail
  refine (awake_any _).mono ?_
  rintro e w8 ⟨rfl, b8⟩
  go_wp2_with fail
  go_ret
  have c2 := (below_drewN (Below.refl _ w) m1).trans b2
  exact ⟨rfl, c2.trans (b8.mono c2.size)⟩

set_option maxHeartbeats 400000 in
theorem packTexts_yes (s : ByteArray) (n : Int) (w : World) (h1 : s.size ≤ 8192) :
    Calls Try.prog 6 #[.string s, .int .i64 n] w fun e w' => e = .returned (.bool true) ∧ Below w.heap.size w w' := by
  have h2 : ¬ 8201 < (s.size : Int) := by omega
  obtain ⟨t1, t2⟩ := tmod_bd n
  have hsz : s.data.toList.length = s.size := Array.length_toList
  obtain ⟨_, k1, k2⟩ := okT_textW s.data.toList (by omega)
  have K1 := Lib.hid k1
  have K2 := Lib.hid k2
  have hL : lenW s.size ≤ 2000 := by unfold lenW; split <;> omega
  have hlen : Hid ((textW s.data.toList).length = lenW s.size) := by show _ = _; unfold textW; rw [textTo_length, hsz]
  have hw : W64 (textW s.data.toList) := textTo_w _ _ (by omega)
  clear k1 k2 hsz
  go_enter Try.func6, Try.ntmps6
  go_wp2_with fail
  refine (text_yes s _ h1).mono ?_
  rintro e w1 ⟨v1, rfl, o1, b1⟩
  obtain ⟨A1, c1, hv1⟩ := own_form o1
  subst hv1
  have r1 := Reads.of_own o1
  go_wp2_with fail
  refine (refText_yes s _ h1).mono ?_
  rintro e w2 ⟨v2, rfl, o2, b2⟩
  obtain ⟨A2, c2, hv2⟩ := own_form o2
  subst hv2
  have r2 := Reads.of_own o2
  have r1' := r1.keep b2
  clear o1 o2
  go_wp2_with fail
  refine (same_any' A1 A2 c1 c2 _ _ _ _ _ hlen.out hlen.out r1' r2 (by omega) (by omega)).mono ?_
  rintro e w3 ⟨rfl, m1, rfl⟩
  rw [decide_eq_true (rfl : textW s.data.toList = textW s.data.toList)]
  go_wp2_with fail
  refine (length_any _ _ t1 t2).mono ?_
  rintro e w3 ⟨rfl, rfl⟩
  go_wp2_with fail
  refine (refLength_any _ _ t1 t2).mono ?_
  rintro e w3 ⟨rfl, rfl⟩
  have q : (lenI (n.tmod 100000) != lenI (n.tmod 100000)) = false := by simp
  go_wp2_with fail
  refine (fromText_all A1 c1 _ _ _ hlen.out (r1'.drewN _) (by omega) hw).mono ?_
  rintro e w4 ⟨rfl, b4⟩
  rw [K1.out, K2.out]
  have hs : (⟨s.data.toList.toArray⟩ : ByteArray) = s := by cases s; rfl
  rw [hs]
  clear hs
  have q2 : (s.toList == s.toList) = true := by simp
  go_wp2_with fail
  refine (length_any _ _ (by omega) (by omega)).mono ?_
  rintro e w5 ⟨rfl, rfl⟩
  rw [lenI_nat]
  go_wp2_with fail
  refine (awake_any _).mono ?_
  rintro e w8 ⟨rfl, b8⟩
  go_wp2_with fail
  go_ret
  have d2 := below_drewN (b1.trans (b2.mono b1.size)) m1
  have d4 := d2.trans (b4.mono d2.size)
  exact ⟨rfl, d4.trans (b8.mono d4.size)⟩

end Go.Proofs.Ytcafhnaododjfaa
