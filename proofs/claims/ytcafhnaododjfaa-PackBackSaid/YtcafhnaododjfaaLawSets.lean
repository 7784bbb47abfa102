import Derived.Test.YtcafhnaododjfaaPackF
namespace Go.Proofs.Ytcafhnaododjfaa
set_option linter.unusedVariables false
open Go.RowKit

theorem addr_plain {w : World} {x : Addr} {v : Value} (h : w.cell? x = some v) : ∃ b off, x = ⟨b, off, none⟩ := by
  obtain ⟨b, off, spot⟩ := x
  cases spot with
  | none => exact ⟨b, off, rfl⟩
  | some s =>
    unfold World.cell? at h
    split at h <;> simp at h

theorem wf_u64 {n : Int} (h : (Lit.int .u64 n).wf = true) : 0 ≤ n ∧ n < 18446744073709551616 := by
  have := bounds_u64 h
  omega

theorem isRow_u {w : World} {a : Option Addr} {len cap : Nat} {zs : List Int}
    (h : (a = none ∧ len = 0 ∧ cap = 0 ∧ zs = []) ∨
      ∃ x, a = some x ∧ len ≤ cap ∧ cap ≤ maxLen ∧ zs.length = cap ∧ (∀ i, i < zs.length → w.cell? (x.add i) = some (.int .u64 (zs.getD i 0))) ∧ ∀ n ∈ zs, (Lit.int .u64 n).wf = true) :
    ∃ l : List Nat, l.length = len ∧ Reads w a (uv l) ∧ W64 l := by
  rcases h with ⟨rfl, rfl, _, _⟩ | ⟨x, rfl, hl, _, hz, hc, hw⟩
  · exact ⟨[], rfl, Reads.nil, by intro x hx; cases hx⟩
  · refine ⟨(zs.take len).map Int.toNat, by simp; omega, ?_, ?_⟩
    · intro hne
      have h0 := hc 0 (by rw [uv_length] at hne; simp at hne; omega)
      obtain ⟨b, off, rfl⟩ := addr_plain (show w.cell? (x.add 0) = _ from h0)
      refine ⟨b, off, rfl, World.block_lt_of_cell? _ _ h0, fun i v hi => ?_⟩
      have hil : i < (uv ((zs.take len).map Int.toNat)).length := (List.getElem?_eq_some_iff.1 hi).1
      rw [uv_length] at hil
      rw [uv_at _ _ hil] at hi
      have hil' : i < len ∧ i < zs.length := by simp at hil; omega
      have h1 := hc i hil'.2
      rw [Addr.add_lit] at h1
      rw [h1, ← hi]
      congr 2
      have hz : zs.getD i 0 = zs[i] := by simp [hil'.2]
      have := wf_u64 (hw _ (List.getElem_mem hil'.2))
      rw [hz]
      simp [hil'.1, hil'.2]
      omega
    · intro y hy
      simp only [List.mem_map] at hy
      obtain ⟨z, hz, rfl⟩ := hy
      have := wf_u64 (hw z (List.mem_of_mem_take hz))
      omega

theorem isRow_i {w : World} {a : Option Addr} {len cap : Nat} {zs : List Int}
    (h : (a = none ∧ len = 0 ∧ cap = 0 ∧ zs = []) ∨
      ∃ x, a = some x ∧ len ≤ cap ∧ cap ≤ maxLen ∧ zs.length = cap ∧ (∀ i, i < zs.length → w.cell? (x.add i) = some (.int .i64 (zs.getD i 0))) ∧ ∀ n ∈ zs, (Lit.int .i64 n).wf = true) :
    ∃ l : List Int, l.length = len ∧ Reads w a (iv l) ∧ I64 l := by
  rcases h with ⟨rfl, rfl, _, _⟩ | ⟨x, rfl, hl, _, hz, hc, hw⟩
  · exact ⟨[], rfl, Reads.nil, by intro x hx; cases hx⟩
  · refine ⟨zs.take len, by simp; omega, ?_, ?_⟩
    · intro hne
      have h0 := hc 0 (by rw [iv_length] at hne; simp at hne; omega)
      obtain ⟨b, off, rfl⟩ := addr_plain (show w.cell? (x.add 0) = _ from h0)
      refine ⟨b, off, rfl, World.block_lt_of_cell? _ _ h0, fun i v hi => ?_⟩
      have hil : i < (iv (zs.take len)).length := (List.getElem?_eq_some_iff.1 hi).1
      rw [iv_length] at hil
      rw [iv_at _ _ hil] at hi
      have hil' : i < len ∧ i < zs.length := by simp at hil; omega
      have h1 := hc i hil'.2
      rw [Addr.add_lit] at h1
      rw [h1, ← hi]
      congr 2
      simp [hil'.1]
    · intro y hy
      have := bounds_i64 (hw y (List.mem_of_mem_take hy))
      omega

theorem setBit_yes' (A : Option Addr) (c N : Nat) (l : List Nat) (n : Nat) (is : Bool) (w : World) (hN : l.length = N) (hA : Reads w A (uv l)) (hl : N ≤ 1000000) (hw : W64 l) (h : n / 64 < N) :
    Calls Try.prog 19 #[.slice A N c, .int .i64 n, .bool is] w fun e w' => ∃ A' c', e = .returned (.tuple #[.slice A' N c', .int .i64 0]) ∧ Reads w' A' (uv (setL l n is)) ∧ Below w.heap.size w w' := by
  subst hN
  refine (setBit_yes A c l n is w hA hl hw h).mono ?_
  rintro e w' ⟨v, rfl, hown, hb⟩
  obtain ⟨A', c', rfl⟩ := own_form hown
  exact ⟨A', c', rfl, Reads.of_own hown, hb⟩

theorem same_any' (A B : Option Addr) (c d N M : Nat) (xs ys : List Nat) (w : World) (hN : xs.length = N) (hM : ys.length = M) (ha : Reads w A (uv xs)) (hb : Reads w B (uv ys)) (hx : N ≤ 1000000) (hy : M ≤ 1000000) :
    Calls Try.prog 18 #[.slice A N c, .slice B M d] w fun e w' => e = .returned (.bool (decide (xs = ys))) ∧ ∃ n, w' = w.drewN n := by
  subst hN
  subst hM
  exact same_any A B c d xs ys w ha hb hx hy

theorem setW_bit (x k t : Nat) (is : Bool) (hk : k < 64) (hx : x < 18446744073709551616) : (setW x k is).testBit t = if t = k then is else x.testBit t := by
  have hb : 64 ≤ t → x.testBit t = false := fun h => Nat.testBit_lt_two_pow (Nat.lt_of_lt_of_le hx (Nat.pow_le_pow_right (n := 2) (by omega) h))
  cases is <;> simp only [setW, Nat.testBit_or, Nat.testBit_and, not_bit _ _ hk, Nat.testBit_two_pow, if_true, if_false, Bool.false_eq_true]
  · by_cases h1 : t = k
    · simp [h1]
    · by_cases h2 : t < 64
      · simp [h1, h2]
      · simp [h1, h2, hb (by omega)]
  · by_cases h1 : t = k
    · simp [h1]
    · have : ¬ k = t := fun e => h1 e.symm
      simp [h1, this]

theorem setW_comm (x i j : Nat) (a b : Bool) (hi : i < 64) (hj : j < 64) (hx : x < 18446744073709551616) (hij : i ≠ j ∨ a = b) : setW (setW x i a) j b = setW (setW x j b) i a := by
  refine Nat.eq_of_testBit_eq fun t => ?_
  rw [setW_bit _ _ _ _ hj (setW_lt _ _ _ hi hx), setW_bit _ _ _ _ hi hx, setW_bit _ _ _ _ hi (setW_lt _ _ _ hj hx), setW_bit _ _ _ _ hj hx]
  by_cases h1 : t = i <;> by_cases h2 : t = j
  · subst h1; subst h2; rcases hij with h | h
    · exact absurd rfl h
    · simp [h]
  · simp only [if_pos h1, if_neg h2]
  · simp only [if_neg h1, if_pos h2]
  · simp only [if_neg h1, if_neg h2]
theorem setW_again (x i j : Nat) (a b : Bool) (hi : i < 64) (hj : j < 64) (hx : x < 18446744073709551616) (hij : i ≠ j ∨ a = b) : setW (setW (setW x i a) j b) i a = setW (setW x i a) j b := by
  refine Nat.eq_of_testBit_eq fun t => ?_
  rw [setW_bit _ _ _ _ hi (setW_lt _ _ _ hj (setW_lt _ _ _ hi hx)), setW_bit _ _ _ _ hj (setW_lt _ _ _ hi hx), setW_bit _ _ _ _ hi hx]
  by_cases h1 : t = i <;> by_cases h2 : t = j
  · subst h1; subst h2; rcases hij with h | h
    · exact absurd rfl h
    · simp [h]
  · simp only [if_pos h1, if_neg h2]
  · simp only [if_neg h1, if_pos h2]
  · simp only [if_neg h1, if_neg h2]

theorem setL_at (l : List Nat) (n k : Nat) (is : Bool) (h : k < l.length) : (setL l n is)[k]?.getD 0 = if k = n / 64 then setW (l[k]?.getD 0) (n % 64) is else l[k]?.getD 0 := by
  unfold setL
  by_cases e : k = n / 64
  · rw [if_pos e, e, List.getElem?_set_self (by omega)]; rfl
  · rw [if_neg e, List.getElem?_set_ne (fun e' => e e'.symm)]

theorem ext_at {l m : List Nat} (hl : l.length = m.length) (h : ∀ k, k < l.length → l[k]?.getD 0 = m[k]?.getD 0) : l = m := by
  apply List.ext_getElem hl
  intro i h1 h2
  have := h i h1
  simpa [h1, h2] using this

theorem setL_comm (l : List Nat) (i j : Nat) (a b : Bool) (hw : W64 l) (hij : i ≠ j ∨ a = b) : setL (setL l i a) j b = setL (setL l j b) i a := by
  refine ext_at (by simp [setL_length]) fun k hk => ?_
  rw [setL_length, setL_length] at hk
  rw [setL_at _ _ _ _ (by rw [setL_length]; exact hk), setL_at _ _ _ _ hk, setL_at _ _ _ _ (by rw [setL_length]; exact hk), setL_at _ _ _ _ hk]
  by_cases h1 : k = i / 64 <;> by_cases h2 : k = j / 64
  · rw [if_pos h1, if_pos h2, if_pos h1, if_pos h2]
    exact setW_comm _ _ _ _ _ (by omega) (by omega) (hw.at _) (by rcases hij with h | h <;> first | (left; omega) | (right; exact h))
  · simp only [if_pos h1, if_neg h2]
  · simp only [if_neg h1, if_pos h2]
  · simp only [if_neg h1, if_neg h2]
theorem setL_again (l : List Nat) (i j : Nat) (a b : Bool) (hw : W64 l) (hij : i ≠ j ∨ a = b) : setL (setL (setL l i a) j b) i a = setL (setL l i a) j b := by
  refine ext_at (by simp [setL_length]) fun k hk => ?_
  rw [setL_length, setL_length, setL_length] at hk
  rw [setL_at _ _ _ _ (by rw [setL_length, setL_length]; exact hk), setL_at _ _ _ _ (by rw [setL_length]; exact hk), setL_at _ _ _ _ hk]
  by_cases h1 : k = i / 64 <;> by_cases h2 : k = j / 64
  · rw [if_pos h1, if_pos h2, if_pos h1]
    exact setW_again _ _ _ _ _ (by omega) (by omega) (hw.at _) (by rcases hij with h | h <;> first | (left; omega) | (right; exact h))
  · rw [if_pos h1, if_neg h2, if_pos h1]
    have e : setW (setW (l[k]?.getD 0) (i % 64) a) (i % 64) a = setW (l[k]?.getD 0) (i % 64) a := by
      refine Nat.eq_of_testBit_eq fun t => ?_
      rw [setW_bit _ _ _ _ (by omega) (setW_lt _ _ _ (by omega) (hw.at _)), setW_bit _ _ _ _ (by omega) (hw.at _)]
      split <;> rfl
    exact e
  · simp only [if_neg h1]
  · simp only [if_neg h1]

theorem emod_nat (a : Int) (n : Nat) (_h0 : 0 ≤ a) (hn : 1 ≤ n) : ∃ i : Nat, a % (64 * (n : Int)) = (i : Int) ∧ i < 64 * n := by
  refine ⟨(a % (64 * (n : Int))).toNat, ?_, ?_⟩
  · have := Int.emod_nonneg a (b := 64 * (n : Int)) (by omega)
    omega
  · have := Int.emod_lt_of_pos a (b := 64 * (n : Int)) (by omega)
    omega

set_option maxHeartbeats 1000000 in
theorem packSets_yes (A : Option Addr) (c : Nat) (l : List Nat) (a1 a2 : Int) (x y : Bool) (w : World) (hA : Reads w A (uv l)) (hw : W64 l) (h1 : 0 ≤ a1) (h1' : a1 ≤ 255) (h2 : 0 ≤ a2) (h2' : a2 ≤ 255) (hl1 : 1 ≤ l.length) (hl4 : l.length ≤ 4) :
    Calls Try.prog 5 #[.slice A l.length c, .int .u8 a1, .int .u8 a2, .bool x, .bool y] w fun e w' => e = .returned (.bool true) ∧ Below w.heap.size w w' := by
  obtain ⟨i, hi, hi64⟩ := emod_nat a1 l.length h1 hl1
  obtain ⟨k, hk, hk64⟩ := emod_nat a2 l.length h2 hl1
  by_cases hik : i = k
  · subst hik
    have hb : ((i : Int) == (i : Int)) = true := by simp
    go_enter Try.func5, Try.ntmps5
    go_wp2_with fail
    go_quiet (fail)
    go_wp2_with fail
    have r0 := hA.drewN nq
    refine (setBit_yes' A c l.length l i x _ rfl r0 (by omega) hw (by omega)).mono ?_
    rintro e w1 ⟨A1, c1, rfl, r1, b1⟩
    go_wp2_with fail
    refine (setBit_yes' A1 c1 l.length (setL l i x) i x _ (setL_length _ _ _) r1 (by omega) (setL_w _ _ _ hw) (by omega)).mono ?_
    rintro e w2 ⟨A2, c2, rfl, r2, b2⟩
    go_wp2_with fail
    refine (setBit_yes' A c l.length l i x _ rfl ((r0.keep b1).keep b2) (by omega) hw (by omega)).mono ?_
    rintro e w3 ⟨A3, c3, rfl, r3, b3⟩
    go_wp2_with fail
    refine (setBit_yes' A3 c3 l.length (setL l i x) i x _ (setL_length _ _ _) r3 (by omega) (setL_w _ _ _ hw) (by omega)).mono ?_
    rintro e w4 ⟨A4, c4, rfl, r4, b4⟩
    go_wp2_with fail
    refine (setBit_yes' A2 c2 l.length (setL (setL l i x) i x) i x _ (by simp only [setL_length]) ((r2.keep b3).keep b4) (by omega) (setL_w _ _ _ (setL_w _ _ _ hw)) (by omega)).mono ?_
    rintro e w5 ⟨A5, c5, rfl, r5, b5⟩
    have ra := ((r2.keep b3).keep b4).keep b5
    have rb := r4.keep b5
    go_wp2_with fail
    refine (same_any' A2 A4 c2 c4 l.length l.length _ _ _ (by simp only [setL_length]) (by simp only [setL_length]) ra rb (by omega) (by omega)).mono ?_
    rintro e w6 ⟨rfl, n6, rfl⟩
    have hs1 : decide (setL (setL l i x) i x = setL (setL l i x) i x) = true := decide_eq_true (setL_comm l i i x x hw (.inr rfl))
    rw [hs1]
    clear hs1
    go_wp2_with fail
    refine (same_any' A2 A5 c2 c5 l.length l.length _ _ _ (by simp only [setL_length]) (by simp only [setL_length]) (ra.drewN _) (r5.drewN _) (by omega) (by omega)).mono ?_
    rintro e w7 ⟨rfl, n7, rfl⟩
    have hs2 : decide (setL (setL l i x) i x = setL (setL (setL l i x) i x) i x) = true := decide_eq_true ((setL_again l i i x x hw (.inr rfl)).symm)
    rw [hs2]
    clear hs2
    go_wp2_with fail
    refine (awake_any _).mono ?_
    rintro e w8 ⟨rfl, b8⟩
    go_wp2_with fail
    go_ret
    refine ⟨rfl, ?_⟩
    have c1 : Below w.heap.size w w1 := (below_drewN (Below.refl _ _) nq).trans b1
    have c2 := c1.trans (b2.mono c1.size)
    have c3 := c2.trans (b3.mono c2.size)
    have c4 := c3.trans (b4.mono c3.size)
    have c5 := c4.trans (b5.mono c4.size)
    have c7 := below_drewN c5 (n6 + n7)
    exact c7.trans (b8.mono c7.size)
  · have hb : ((i : Int) == (k : Int)) = false := by simp; omega
    go_enter Try.func5, Try.ntmps5
    go_wp2_with fail
    go_quiet (fail)
    go_wp2_with fail
    have r0 := hA.drewN nq
    refine (setBit_yes' A c l.length l i x _ rfl r0 (by omega) hw (by omega)).mono ?_
    rintro e w1 ⟨A1, c1, rfl, r1, b1⟩
    go_wp2_with fail
    refine (setBit_yes' A1 c1 l.length (setL l i x) k y _ (setL_length _ _ _) r1 (by omega) (setL_w _ _ _ hw) (by omega)).mono ?_
    rintro e w2 ⟨A2, c2, rfl, r2, b2⟩
    go_wp2_with fail
    refine (setBit_yes' A c l.length l k y _ rfl ((r0.keep b1).keep b2) (by omega) hw (by omega)).mono ?_
    rintro e w3 ⟨A3, c3, rfl, r3, b3⟩
    go_wp2_with fail
    refine (setBit_yes' A3 c3 l.length (setL l k y) i x _ (setL_length _ _ _) r3 (by omega) (setL_w _ _ _ hw) (by omega)).mono ?_
    rintro e w4 ⟨A4, c4, rfl, r4, b4⟩
    go_wp2_with fail
    refine (setBit_yes' A2 c2 l.length (setL (setL l i x) k y) i x _ (by simp only [setL_length]) ((r2.keep b3).keep b4) (by omega) (setL_w _ _ _ (setL_w _ _ _ hw)) (by omega)).mono ?_
    rintro e w5 ⟨A5, c5, rfl, r5, b5⟩
    have ra := ((r2.keep b3).keep b4).keep b5
    have rb := r4.keep b5
    go_wp2_with fail
    refine (same_any' A2 A4 c2 c4 l.length l.length _ _ _ (by simp only [setL_length]) (by simp only [setL_length]) ra rb (by omega) (by omega)).mono ?_
    rintro e w6 ⟨rfl, n6, rfl⟩
    have hs1 : decide (setL (setL l i x) k y = setL (setL l k y) i x) = true := decide_eq_true (setL_comm l i k x y hw (.inl hik))
    rw [hs1]
    clear hs1
    go_wp2_with fail
    refine (same_any' A2 A5 c2 c5 l.length l.length _ _ _ (by simp only [setL_length]) (by simp only [setL_length]) (ra.drewN _) (r5.drewN _) (by omega) (by omega)).mono ?_
    rintro e w7 ⟨rfl, n7, rfl⟩
    have hs2 : decide (setL (setL l i x) k y = setL (setL (setL l i x) k y) i x) = true := decide_eq_true ((setL_again l i k x y hw (.inl hik)).symm)
    rw [hs2]
    clear hs2
    go_wp2_with fail
    refine (awake_any _).mono ?_
    rintro e w8 ⟨rfl, b8⟩
    go_wp2_with fail
    go_ret
    refine ⟨rfl, ?_⟩
    have c1 : Below w.heap.size w w1 := (below_drewN (Below.refl _ _) nq).trans b1
    have c2 := c1.trans (b2.mono c1.size)
    have c3 := c2.trans (b3.mono c2.size)
    have c4 := c3.trans (b4.mono c3.size)
    have c5 := c4.trans (b5.mono c4.size)
    have c7 := below_drewN c5 (n6 + n7)
    exact c7.trans (b8.mono c7.size)

set_option maxHeartbeats 400000 in
theorem packSets_no (A : Option Addr) (c n : Nat) (a1 a2 : Int) (x y : Bool) (w : World) (h : n < 1 ∨ 4 < n) :
    Calls Try.prog 5 #[.slice A n c, .int .u8 a1, .int .u8 a2, .bool x, .bool y] w fun e w' => e = .returned (.bool true) ∧ Below w.heap.size w w' := by
  by_cases h1 : n < 1
  · have h1' : (n : Int) < 1 := by omega
    go_enter Try.func5, Try.ntmps5
    go_wp2_with fail
    refine (awake_any _).mono ?_
    rintro e w8 ⟨rfl, b8⟩
    go_wp2_with fail
    go_ret
    exact ⟨rfl, b8⟩
  · have h1' : ¬ (n : Int) < 1 := by omega
    have h2 : 4 < (n : Int) := by omega
    go_enter Try.func5, Try.ntmps5
    go_wp2_with fail
    refine (awake_any _).mono ?_
    rintro e w8 ⟨rfl, b8⟩
    go_wp2_with fail
    go_ret
    exact ⟨rfl, b8⟩

end Go.Proofs.Ytcafhnaododjfaa
