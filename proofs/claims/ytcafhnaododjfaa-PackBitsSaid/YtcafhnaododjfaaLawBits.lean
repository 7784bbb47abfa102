import Derived.Test.YtcafhnaododjfaaLawSets
namespace Go.Proofs.Ytcafhnaododjfaa
set_option linter.unusedVariables false
open Go.RowKit

def inL (l : List Nat) (z : Int) : Prop := 0 ≤ z ∧ z / 64 < (l.length : Int)
instance (l : List Nat) (z : Int) : Decidable (inL l z) := inferInstanceAs (Decidable (_ ∧ _))
def setR (l : List Nat) (z : Int) (is : Bool) : List Nat := if inL l z then setL l z.toNat is else []
def errR (l : List Nat) (z : Int) : Int := if inL l z then 0 else 1
def bitR (l : List Nat) (z : Int) : Bool := if inL l z then (l[z.toNat / 64]?.getD 0).testBit (z.toNat % 64) else false

theorem setBit_all (A : Option Addr) (c N : Nat) (l : List Nat) (z : Int) (is : Bool) (w : World) (hN : l.length = N) (hA : Reads w A (uv l)) (hl : N ≤ 1000000) (hw : W64 l) (hz : z ≤ 9223372036854775807) :
    Calls Try.prog 19 #[.slice A N c, .int .i64 z, .bool is] w fun e w' => ∃ A' c', e = .returned (.tuple #[.slice A' (setR l z is).length c', .int .i64 (errR l z)]) ∧ Reads w' A' (uv (setR l z is)) ∧ Below w.heap.size w w' := by
  unfold setR errR
  by_cases h : inL l z
  · rw [if_pos h, if_pos h, setL_length, hN]
    have e : z = ((z.toNat : Nat) : Int) := by have := h.1; omega
    have := setBit_yes' A c N l z.toNat is w hN hA hl hw (by have := h.2; omega)
    rw [← e] at this
    exact this
  · rw [if_neg h, if_neg h]
    refine (setBit_no A c N z is w (by unfold inL at h; omega) hz).mono ?_
    rintro e w' ⟨rfl, rfl⟩
    exact ⟨none, 0, rfl, Reads.nil, Below.refl _ _⟩

theorem refSetBit_all (A : Option Addr) (c N : Nat) (l : List Nat) (z : Int) (is : Bool) (w : World) (hN : l.length = N) (hA : Reads w A (uv l)) (hl : N ≤ 1000000) (hw : W64 l) (hz : z ≤ 9223372036854775807) :
    Calls Try.prog 27 #[.slice A N c, .int .i64 z, .bool is] w fun e w' => ∃ A' c', e = .returned (.tuple #[.slice A' (setR l z is).length c', .int .i64 (errR l z)]) ∧ Reads w' A' (uv (setR l z is)) ∧ Below w.heap.size w w' := by
  unfold setR errR
  subst hN
  by_cases h : inL l z
  · rw [if_pos h, if_pos h, setL_length]
    have e : z = ((z.toNat : Nat) : Int) := by have := h.1; omega
    have := refSetBit_yes A c l z.toNat is w hA hl hw (by have := h.2; omega)
    rw [← e] at this
    refine this.mono ?_
    rintro e w' ⟨v, rfl, hown, hb⟩
    obtain ⟨A', c', rfl⟩ := own_form hown
    exact ⟨A', c', rfl, Reads.of_own hown, hb⟩
  · rw [if_neg h, if_neg h]
    refine (refSetBit_no A c l.length z is w (by unfold inL at h; omega) hz).mono ?_
    rintro e w' ⟨rfl, rfl⟩
    exact ⟨none, 0, rfl, Reads.nil, Below.refl _ _⟩

theorem bit_all (A : Option Addr) (c N : Nat) (l : List Nat) (z : Int) (w : World) (hN : l.length = N) (hA : Reads w A (uv l)) (hl : N ≤ 1000000) (hw : W64 l) (hz : z ≤ 9223372036854775807) :
    Calls Try.prog 28 #[.slice A N c, .int .i64 z] w fun e w' => e = .returned (.tuple #[.bool (bitR l z), .int .i64 (errR l z)]) ∧ w = w' := by
  unfold bitR errR
  subst hN
  by_cases h : inL l z
  · rw [if_pos h, if_pos h]
    have e : z = ((z.toNat : Nat) : Int) := by have := h.1; omega
    have := bit_yes A c l z.toNat w hA hl hw (by have := h.2; omega)
    rw [← e] at this
    exact this
  · rw [if_neg h, if_neg h]
    exact bit_no A c l.length z w (by unfold inL at h; omega) hz
theorem refBit_all (A : Option Addr) (c N : Nat) (l : List Nat) (z : Int) (w : World) (hN : l.length = N) (hA : Reads w A (uv l)) (hl : N ≤ 1000000) (hw : W64 l) (hz : z ≤ 9223372036854775807) :
    Calls Try.prog 29 #[.slice A N c, .int .i64 z] w fun e w' => e = .returned (.tuple #[.bool (bitR l z), .int .i64 (errR l z)]) ∧ w = w' := by
  unfold bitR errR
  subst hN
  by_cases h : inL l z
  · rw [if_pos h, if_pos h]
    have e : z = ((z.toNat : Nat) : Int) := by have := h.1; omega
    have := refBit_yes A c l z.toNat w hA hl hw (by have := h.2; omega)
    rw [← e] at this
    exact this
  · rw [if_neg h, if_neg h]
    exact refBit_no A c l.length z w (by unfold inL at h; omega) hz

theorem setR_w (l : List Nat) (z : Int) (is : Bool) (hw : W64 l) : W64 (setR l z is) := by
  unfold setR
  split
  · exact setL_w _ _ _ hw
  · intro x hx; cases hx
theorem setR_len (l : List Nat) (z : Int) (is : Bool) : (setR l z is).length ≤ l.length := by
  unfold setR
  split
  · rw [setL_length]; exact Nat.le_refl _
  · simp
/-- What SetBit sets Bit tells. -/
theorem bit_setR (l : List Nat) (z : Int) (is : Bool) (hw : W64 l) (h : errR l z = 0) : bitR (setR l z is) z = is ∧ errR (setR l z is) z = 0 := by
  unfold errR at h
  have hin : inL l z := by
    by_cases h' : inL l z
    · exact h'
    · rw [if_neg h'] at h; cases h
  have hs : setR l z is = setL l z.toNat is := if_pos hin
  have hin2 : inL (setR l z is) z := by rw [hs]; unfold inL; rw [setL_length]; exact hin
  refine ⟨?_, if_pos hin2⟩
  unfold bitR
  rw [if_pos hin2, hs, setL_at _ _ _ _ (by have := hin.2; have := hin.1; omega), if_pos rfl, setW_bit _ _ _ _ (by omega) (hw.at _), if_pos rfl]

set_option maxRecDepth 100000 in
set_option maxHeartbeats 1000000 in
theorem packBits_yes (A : Option Addr) (c : Nat) (l : List Nat) (n m : Int) (is : Bool) (w : World) (hA : Reads w A (uv l)) (hw : W64 l) (_hn : -9223372036854775808 ≤ n) (hn' : n ≤ 9223372036854775807) (_hm : -9223372036854775808 ≤ m) (hm' : m ≤ 9223372036854775807) (hl : l.length ≤ 20) :
    Calls Try.prog 8 #[.slice A l.length c, .int .i64 n, .int .i64 m, .bool is] w fun e w' => e = .returned (.bool true) ∧ Below w.heap.size w w' := by
  have hl' : ¬ ((20 : Int) < (l.length : Int)) := by omega
  go_enter Try.func8, Try.ntmps8
  go_wp2_with fail
  obtain ⟨q, hq⟩ : ∃ q : Int, ((wrap64 (wrap64 (n.tmod (64 * (l.length : Int) + 1) + 64 * (l.length : Int)) + 1)).tmod (64 * (l.length : Int) + 1)) = q := ⟨_, rfl⟩
  have hq2 : q ≤ 9223372036854775807 := by
    rw [← hq]
    have := Int.tmod_lt_of_pos (wrap64 (wrap64 (n.tmod (64 * (l.length : Int) + 1) + 64 * (l.length : Int)) + 1)) (b := 64 * (l.length : Int) + 1) (by omega)
    omega
  rw [hq]
  clear hq
  have hz : ∀ k, k < 4 → (([n, m, 64 * (l.length : Int), q] : List Int)[k]?.getD 0) ≤ 9223372036854775807 := by
    intro k hk
    match k, hk with
    | 0, _ => exact hn'
    | 1, _ => exact hm'
    | 2, _ => show 64 * (l.length : Int) ≤ _; omega
    | 3, _ => exact hq2
  have r1 := Reads.new w #[.int .i64 n, .int .i64 m, .int .i64 (64 * (l.length : Int)), .int .i64 q] 3
  have b1 : Below w.heap.size w (w.alloc (.cells #[.int .i64 n, .int .i64 m, .int .i64 (64 * (l.length : Int)), .int .i64 q] 3)) := (Below.refl _ w).alloc (Nat.le_refl _) _
  have hc : ∀ k, k < 4 → (w.alloc (.cells #[.int .i64 n, .int .i64 m, .int .i64 (64 * (l.length : Int)), .int .i64 q] 3)).cell? ⟨w.heap.size, k, none⟩ = some (.int .i64 (([n, m, 64 * (l.length : Int), q] : List Int)[k]?.getD 0)) := by
    intro k hk
    rw [World.cell?_alloc_at _ _ _ _ rfl]
    match k, hk with
    | 0, _ => rfl
    | 1, _ => rfl
    | 2, _ => rfl
    | 3, _ => rfl
  have hsz : w.heap.size + 1 ≤ (w.alloc (.cells #[.int .i64 n, .int .i64 m, .int .i64 (64 * (l.length : Int)), .int .i64 q] 3)).heap.size := by simp
  have hA1 := hA.keep b1
  generalize ([n, m, 64 * (l.length : Int), q] : List Int) = zs at hz hc
  generalize w.alloc (.cells #[.int .i64 n, .int .i64 m, .int .i64 (64 * (l.length : Int)), .int .i64 q] 3) = W1 at b1 hc hsz hA1 ⊢
  have HC := Lib.hid hc
  have HZ := Lib.hid hz
  clear r1 hc hz hA
  go_loopw [10] (fun i wr => ∃ k : Nat, k ≤ 4 ∧ i = .int .i64 k ∧ Below W1.heap.size W1 wr) (fun i _ => 4 - (intOf i).toNat)
  case atStart => exact ⟨0, by omega, rfl, Below.refl _ _⟩
  case round =>
    obtain ⟨k, hk, rfl, hb⟩ := hrel
    by_cases hlt : k < 4
    · have hc := (hb.cell (p := ⟨w.heap.size, k, none⟩) (by show w.heap.size < _; omega)).trans (HC.out k hlt)
      have hz := HZ.out k hlt
      obtain ⟨z, ez⟩ : ∃ z, zs[k]?.getD 0 = z := ⟨_, rfl⟩
      rw [ez] at hc hz
      clear ez
      have hAr := hA1.keep hb
      go_wp2_with fail
      refine (setBit_all A c l.length l z is _ rfl hAr (by omega) hw hz).mono ?_
      rintro e w2 ⟨A2, c2, rfl, r2, b2⟩
      have hc2 := (b2.cell (p := ⟨w.heap.size, k, none⟩) (by have := hb.size; show w.heap.size < _; omega)).trans hc
      go_wp2_with fail
      refine (refSetBit_all A c l.length l z is _ rfl (hAr.keep b2) (by omega) hw hz).mono ?_
      rintro e w3 ⟨A3, c3, rfl, r3, b3⟩
      have hc3 := (b3.cell (p := ⟨w.heap.size, k, none⟩) (by have := hb.size; have := b2.size; show w.heap.size < _; omega)).trans hc2
      have r2' := r2.keep b3
      have hsl := setR_len l z is
      go_wp2_with fail
      refine (bit_all A2 c2 _ (setR l z is) z _ rfl r2' (by omega) (setR_w _ _ _ hw) hz).mono ?_
      rintro e w4 ⟨rfl, rfl⟩
      obtain ⟨N, hN⟩ : ∃ N, (setR l z is).length = N := ⟨_, rfl⟩
      rw [hN] at hsl ⊢
      have HN := Lib.hid hN
      clear hN
      have hxx : (is != is) = false := by simp
      by_cases hE : errR l z = 0
      · obtain ⟨e1, e2⟩ := bit_setR l z is hw hE
        rw [hE, e1, e2]
        clear hE e1 e2
        go_wp2_with fail
        refine (same_any' A2 A3 c2 c3 N N _ _ _ HN.out HN.out r2' r3 (by omega) (by omega)).mono ?_
        rintro e w5 ⟨rfl, n5, rfl⟩
        rw [decide_eq_true (rfl : setR l z is = setR l z is)]
        go_wp2_with fail
        have hb3 : Below W1.heap.size W1 (w3.drewN n5) := below_drewN ((hb.trans (b2.mono hb.size)).trans (b3.mono (Nat.le_trans hb.size b2.size))) n5
        clear hc hc2 hc3 r2' r3 r2 hAr
        generalize w3.drewN n5 = w6 at hb3 ⊢
        obtain ⟨wo, rfl⟩ : ∃ wo : World, wo = wr := ⟨_, rfl⟩
        go_loopw [17] (fun i wr => ∃ j : Nat, j ≤ 4 ∧ i = .int .i64 j ∧ Below W1.heap.size W1 wr) (fun i _ => 4 - (intOf i).toNat)
        case atStart => exact ⟨0, by omega, rfl, hb3⟩
        case round =>
          obtain ⟨j, hj, rfl, hbj⟩ := hrel
          by_cases hjlt : j < 4
          · have hcj := (hbj.cell (p := ⟨w.heap.size, j, none⟩) (by show w.heap.size < _; omega)).trans (HC.out j hjlt)
            have hzj := HZ.out j hjlt
            obtain ⟨zj, ezj⟩ : ∃ zj, zs[j]?.getD 0 = zj := ⟨_, rfl⟩
            rw [ezj] at hcj hzj
            clear ezj
            go_wp2_with fail
            refine (bit_all A c l.length l zj _ rfl (hA1.keep hbj) (by omega) hw hzj).mono ?_
            rintro e w7 ⟨rfl, rfl⟩
            go_wp2_with fail
            refine (refBit_all A c l.length l zj _ rfl (hA1.keep hbj) (by omega) hw hzj).mono ?_
            rintro e w7 ⟨rfl, rfl⟩
            have q1 : (errR l zj != errR l zj) = false := by simp
            have q2 : (bitR l zj != bitR l zj) = false := by simp
            go_wp2_with fail
            go_roundw
            case rel => exact ⟨j + 1, by omega, by go_num, hbj⟩
            case measure => simp [intOf]; omega
          · go_wp2_with fail
            go_roundw
            case rel => exact ⟨k + 1, by omega, by go_num, hbj⟩
            case measure => simp [intOf]; omega
      · have hE1 : errR l z = 1 := by
          unfold errR at hE ⊢
          split
          · rename_i h; rw [if_pos h] at hE; exact absurd rfl hE
          · rfl
        rw [hE1]
        clear hE hE1
        go_wp2_with fail
        refine (same_any' A2 A3 c2 c3 N N _ _ _ HN.out HN.out r2' r3 (by omega) (by omega)).mono ?_
        rintro e w5 ⟨rfl, n5, rfl⟩
        rw [decide_eq_true (rfl : setR l z is = setR l z is)]
        go_wp2_with fail
        have hb3 : Below W1.heap.size W1 (w3.drewN n5) := below_drewN ((hb.trans (b2.mono hb.size)).trans (b3.mono (Nat.le_trans hb.size b2.size))) n5
        clear hc hc2 hc3 r2' r3 r2 hAr
        generalize w3.drewN n5 = w6 at hb3 ⊢
        obtain ⟨wo, rfl⟩ : ∃ wo : World, wo = wr := ⟨_, rfl⟩
        go_loopw [17] (fun i wr => ∃ j : Nat, j ≤ 4 ∧ i = .int .i64 j ∧ Below W1.heap.size W1 wr) (fun i _ => 4 - (intOf i).toNat)
        case atStart => exact ⟨0, by omega, rfl, hb3⟩
        case round =>
          obtain ⟨j, hj, rfl, hbj⟩ := hrel
          by_cases hjlt : j < 4
          · have hcj := (hbj.cell (p := ⟨w.heap.size, j, none⟩) (by show w.heap.size < _; omega)).trans (HC.out j hjlt)
            have hzj := HZ.out j hjlt
            obtain ⟨zj, ezj⟩ : ∃ zj, zs[j]?.getD 0 = zj := ⟨_, rfl⟩
            rw [ezj] at hcj hzj
            clear ezj
            go_wp2_with fail
            refine (bit_all A c l.length l zj _ rfl (hA1.keep hbj) (by omega) hw hzj).mono ?_
            rintro e w7 ⟨rfl, rfl⟩
            go_wp2_with fail
            refine (refBit_all A c l.length l zj _ rfl (hA1.keep hbj) (by omega) hw hzj).mono ?_
            rintro e w7 ⟨rfl, rfl⟩
            have q1 : (errR l zj != errR l zj) = false := by simp
            have q2 : (bitR l zj != bitR l zj) = false := by simp
            go_wp2_with fail
            go_roundw
            case rel => exact ⟨j + 1, by omega, by go_num, hbj⟩
            case measure => simp [intOf]; omega
          · go_wp2_with fail
            go_roundw
            case rel => exact ⟨k + 1, by omega, by go_num, hbj⟩
            case measure => simp [intOf]; omega
    · go_wp2_with fail
      refine (awake_any _).mono ?_
      rintro e w8 ⟨rfl, b8⟩
      go_wp2_with fail
      go_ret
      exact ⟨rfl, b1.trans ((hb.trans (b8.mono hb.size)).mono b1.size)⟩

set_option maxHeartbeats 400000 in
theorem packBits_no (A : Option Addr) (c n : Nat) (a b : Int) (is : Bool) (w : World) (h : 20 < n) :
    Calls Try.prog 8 #[.slice A n c, .int .i64 a, .int .i64 b, .bool is] w fun e w' => e = .returned (.bool true) ∧ Below w.heap.size w w' := by
  have h2 : 20 < (n : Int) := by omega
  go_enter Try.func8, Try.ntmps8
  go_wp2_with fail
  refine (awake_any _).mono ?_
  rintro e w8 ⟨rfl, b8⟩
  go_wp2_with fail
  go_ret
  exact ⟨rfl, b8⟩

end Go.Proofs.Ytcafhnaododjfaa
