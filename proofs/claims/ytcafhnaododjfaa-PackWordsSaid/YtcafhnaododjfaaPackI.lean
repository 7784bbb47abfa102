import Derived.Test.YtcafhnaododjfaaPackH
namespace Go.Proofs.Ytcafhnaododjfaa
set_option linter.unusedVariables false
open Go.RowKit

set_option maxHeartbeats 400000 in
theorem refFromText_short (A : Option Addr) (c : Nat) (l : List Nat) (w : World) (hA : Reads w A (uv l)) (hl : l.length ≤ 1000) (hw : W64 l)
    (h : l.length = 0 ∨ 8 * l.length < l[0]?.getD 0 ∨ l.length ≠ lenW (l[0]?.getD 0)) :
    Calls Try.prog 26 #[.slice A l.length c] w fun e w' => e = .returned (.tuple #[.string ⟨#[]⟩, .int .i64 2]) ∧ w = w' := by
  obtain ⟨n, hn⟩ : ∃ n, l.length = n := ⟨_, rfl⟩
  obtain ⟨x, hx⟩ : ∃ x, l[0]?.getD 0 = x := ⟨_, rfl⟩
  by_cases h0 : l.length = 0
  · have h1 : ((n : Int) == 0) = true := by simp; omega
    rw [hn]
    clear hn hx h h0
    go_enter Try.func26, Try.ntmps26
    go_wp2
    go_ret2
    exact ⟨rfl, rfl⟩
  · obtain ⟨b, off, rfl, hb, hcs⟩ := hA.u h0
    have hc := hcs 0 (by omega)
    rw [Nat.add_zero] at hc
    have hx64 := hw.at 0
    rw [hx] at hc h hx64
    rw [hn] at h hl ⊢
    have h1 : ((n : Int) == 0) = false := by simp; omega
    have hn0 : 0 < n := by omega
    clear hcs hx hA h0 hn
    by_cases h2 : 8 * n < x
    · have h2' : (8 * (n : Int)) < (x : Int) := by omega
      clear h
      go_enter Try.func26, Try.ntmps26
      go_wp2
      go_ret2
      exact ⟨rfl, rfl⟩
    · have h2' : ¬ (8 * (n : Int)) < (x : Int) := by omega
      have h3 : (((lenW x : Nat) : Int) != (n : Int)) = true := by simp; omega
      clear h
      go_enter Try.func26, Try.ntmps26
      go_wp2_with fail
      refine (refLength_any _ _ (by omega) (by omega)).mono ?_
      rintro e w1 ⟨rfl, rfl⟩
      rw [lenI_nat]
      go_wp2_with fail
      go_ret2
      exact ⟨rfl, rfl⟩

/-- The bytes behind the text are zero. -/
def restZero (l : List Nat) (x k : Nat) : Prop := ∀ j, x ≤ j → j < k → byteOf l j = 0

theorem restZero_zero (l : List Nat) (x : Nat) : restZero l x 0 := fun j _ h => absurd h (by omega)
theorem restZero_in (l : List Nat) (x k : Nat) (h : restZero l x k) (hk : k < x) : restZero l x (k + 1) := fun j h1 h2 => h j h1 (by omega)
theorem restZero_succ (l : List Nat) (x k : Nat) (h : restZero l x k) (hk : byteOf l k = 0) : restZero l x (k + 1) := fun j h1 h2 => by
  rcases Nat.lt_or_ge j k with h3 | h3
  · exact h j h1 h3
  · obtain rfl : j = k := by omega
    exact hk
theorem byte_ne (y : Nat) (k : Nat) : (((y : Int) / 2 ^ k % 256 != 0) = true) ↔ UInt8.ofNat (y >>> k) ≠ 0 := by
  rw [u8_shr, bne_iff_ne]
  constructor
  · intro h e; rw [e] at h; exact h rfl
  · intro h e
    apply h
    have : (UInt8.ofNat (y >>> k)).toNat = 0 := by omega
    exact UInt8.toNat_inj.1 (by simpa using this)

set_option maxHeartbeats 400000 in
theorem refFromText_long (A : Option Addr) (c : Nat) (l : List Nat) (w : World) (hA : Reads w A (uv l)) (hl : l.length ≤ 1000) (hw : W64 l)
    (h0 : l.length ≠ 0) (h1 : l[0]?.getD 0 ≤ 8 * l.length) (h2 : l.length = lenW (l[0]?.getD 0)) :
    Calls Try.prog 26 #[.slice A l.length c] w fun e w' => Below w.heap.size w w' ∧
      ((restZero l (l[0]?.getD 0) (8 * (l.length - 1)) ∧ e = .returned (.tuple #[.string ⟨(fromL l (l[0]?.getD 0)).toArray⟩, .int .i64 0])) ∨
       (¬ restZero l (l[0]?.getD 0) (8 * (l.length - 1)) ∧ e = .returned (.tuple #[.string ⟨#[]⟩, .int .i64 2]))) := by
  obtain ⟨n, hn⟩ : ∃ n, l.length = n := ⟨_, rfl⟩
  obtain ⟨x, hx⟩ : ∃ x, l[0]?.getD 0 = x := ⟨_, rfl⟩
  obtain ⟨i0, hi0, hz0, hz1, hz2⟩ := info_parts u8_info
  obtain ⟨b, off, rfl, hb, hcs⟩ := hA.u h0
  have HCS := Lib.hid hcs
  have hc := hcs 0 (by omega)
  rw [Nat.add_zero] at hc
  have hx64 := hw.at 0
  rw [hx] at hc h1 h2 hx64 ⊢
  rw [hn] at h1 h2 hl h0 ⊢
  have hxn : x ≤ 8 * (n - 1) := by
    have := h2; unfold lenW at this; split at this <;> omega
  have HN := Lib.hid hn
  have q1 : ((n : Int) == 0) = false := by simp; omega
  have q2 : ¬ (8 * (n : Int)) < (x : Int) := by omega
  have q3 : (((lenW x : Nat) : Int) != (n : Int)) = false := by simp; omega
  have hn0 : 0 < n := by omega
  clear hcs hx hA h0 hn h2
  go_enter Try.func26, Try.ntmps26
  go_wp2_with fail
  refine (refLength_any _ _ (by omega) (by omega)).mono ?_
  rintro e w1 ⟨rfl, rfl⟩
  rw [lenI_nat]
  go_wp2_with (at_make; refine wpList_make_full _ rfl _ _ _ rfl w.heap.size 5 i0 _ 1 Try.underlying58 hi0 hz0 hz1 .i64 .i64 _ _ x rfl rfl rfl rfl ?_ ?_ ?_ ?_)
  · rw [hz2]; omega
  · simp only [maxLen]; omega
  · exact Nat.le_refl _
  intro w1 hown hg
  have hb1 : Below w.heap.size w w1 := (Below.refl _ w).grown hg (Nat.le_refl _) (by intro k hk; cases hk)
  rw [made_bytes, ← fillTo_zero l] at hown
  go_wp2
  clear hg
  go_loopw [6] (fun i wr => ∃ k : Nat, k ≤ 8 * (n - 1) ∧ i = .int .i64 k ∧ wr.ownsRow w.heap.size 5 1 (.slice (some ⟨w.heap.size, 0, none⟩) x x) x (bv (fillTo l x (min k x))) ∧ Below w.heap.size w wr ∧ restZero l x k) (fun i _ => 8 * (n - 1) - (intOf i).toNat)
  case atStart => exact ⟨0, Nat.zero_le _, rfl, by simpa using hown, hb1, restZero_zero _ _⟩
  case round =>
    obtain ⟨k, hk, rfl, hownk, hbk, hrz⟩ := hrel
    by_cases hlt : k < 8 * (n - 1)
    · have hi : 1 + k / 8 < n := by omega
      have hcl := (hbk.cell (p := ⟨b, off + (1 + k / 8), none⟩) hb).trans (HCS.out (1 + k / 8) (by rw [HN.out]; exact hi))
      have hv := hw.at (1 + k / 8)
      have hB : Hid (byteOf l k = UInt8.ofNat ((l[1 + k / 8]?.getD 0) >>> (8 * (k % 8)))) := by show byteOf l k = _; rw [Nat.mul_comm 8]; rfl
      obtain ⟨v, ev⟩ : ∃ v, l[1 + k / 8]?.getD 0 = v := ⟨_, rfl⟩
      rw [ev] at hcl hv hB
      have hc' := (hbk.cell (p := ⟨b, off, none⟩) hb).trans hc
      clear ev hown hc
      by_cases hkx : k < x
      · rw [Nat.min_eq_left (by omega)] at hownk
        have hS : Hid ((fillTo l x k).set k (byteOf l k) = fillTo l x (k + 1)) := fillTo_succ l x k hkx
        have hck := hownk.cellAt k (by omega)
        rw [bv_at _ _ (by rw [fillTo_length _ _ _ (by omega)]; exact hkx)] at hck
        have hfk := hownk.frozenAt k
        go_wp2
        go_roundw
        case rel =>
          refine ⟨k + 1, by omega, by go_num, ?_, hbk.setCell (p := ⟨w.heap.size, k, none⟩) (Nat.le_refl _) _, restZero_in _ _ _ hrz hkx⟩
          have := (hownk.stored k (.int .u8 ((v : Int) / 2 ^ (8 * (k % 8)) % 256))).1
          rw [u8_shr, ← hB.out, bv_set, hS.out] at this
          rw [u8_shr, ← hB.out, Nat.min_eq_left (by omega)]
          exact this
        case measure => simp [intOf]; omega
      · by_cases hzero : byteOf l k = 0
        · have hq : ((v : Int) / 2 ^ (8 * (k % 8)) % 256 != 0) = false := by
            rw [u8_shr, ← hB.out, hzero]; rfl
          go_wp2
          go_roundw
          case rel =>
            refine ⟨k + 1, by omega, by go_num, ?_, hbk, restZero_succ _ _ _ hrz hzero⟩
            rw [Nat.min_eq_right (by omega)] at hownk ⊢
            exact hownk
          case measure => simp [intOf]; omega
        · have hq : ((v : Int) / 2 ^ (8 * (k % 8)) % 256 != 0) = true := (byte_ne v _).2 (by rw [← hB.out]; exact hzero)
          go_wp2
          go_ret2
          exact ⟨hbk, .inr ⟨fun h => hzero (h k (by omega) hlt), rfl⟩⟩
    · obtain rfl : k = 8 * (n - 1) := by omega
      rw [Nat.min_eq_right (by omega), fillTo_all] at hownk
      have hcv := conv_own (w := w) hownk (fromL_length l x)
      have hge : ¬ ((8 * (n - 1) : Nat) : Int) < 8 * ((n : Int) - 1) := by omega
      clear hown hc
      go_wp2
      go_ret2
      exact ⟨hbk, rfl⟩

end Go.Proofs.Ytcafhnaododjfaa
