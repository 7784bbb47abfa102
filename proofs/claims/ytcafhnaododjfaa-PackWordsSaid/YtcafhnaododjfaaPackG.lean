import Derived.Test.YtcafhnaododjfaaPackF
namespace Go.Proofs.Ytcafhnaododjfaa
set_option linter.unusedVariables false
open Go.RowKit

set_option maxHeartbeats 400000 in
theorem text_no (s : ByteArray) (w : World) (hs : 8192 < s.size) :
    Calls Try.prog 20 #[.string s] w fun e w' => e = .returned (.tuple #[.slice none 0 0, .int .i64 4]) ∧ w = w' := by
  have h8 : (8192 : Int) < (s.size : Int) := by omega
  go_enter Try.func20, Try.ntmps20
  go_wp2_with fail
  go_ret2
  exact ⟨rfl, rfl⟩

set_option maxHeartbeats 400000 in
theorem refWords_any (s : ByteArray) (w : World) (hs : s.size ≤ 100000) :
    Calls Try.prog 25 #[.string s] w fun e w' => ∃ v, e = .returned v ∧ w'.ownsRow w.heap.size 24 1 v (lenW s.size) (uv (textW s.data.toList)) ∧ Below w.heap.size w w' := by
  obtain ⟨i0, hi0, hz0, hz1, hz2⟩ := info_parts u64_info
  have hbs : s.data.toList.length = s.size := Array.length_toList
  obtain ⟨L, hL⟩ : ∃ L, lenW s.size = L := ⟨_, rfl⟩
  have hL1 : 1 ≤ L ∧ L ≤ 20000 := by rw [← hL]; unfold lenW; split <;> omega
  have HL := Lib.hid hL
  have HB := Lib.hid hbs
  rw [hL]
  clear hL hbs
  go_enter Try.func25, Try.ntmps25
  go_wp2_with (first | (go_at_call 23; refine (refLength_any _ _ (by omega) (by omega)).mono ?_; rintro e w1 ⟨rfl, rfl⟩; rw [lenI_nat, HL.out]) | (at_make; refine wpList_make_full _ rfl _ _ _ rfl w.heap.size 24 i0 _ 1 Try.underlying23 hi0 hz0 hz1 .i64 .i64 _ _ L rfl rfl rfl rfl ?_ ?_ ?_ ?_))
  · rw [hz2]; omega
  · simp only [maxLen]; omega
  · exact Nat.le_refl _
  intro w1 hown hg
  have hb : Below w.heap.size w w1 := (Below.refl _ w).grown hg (Nat.le_refl _) (by intro k hk; cases hk)
  rw [replicate_uv] at hown
  have hc0 := hown.cellAt 0 (by omega)
  rw [uv_at _ _ (by simp; omega)] at hc0
  have hf0 := hown.frozenAt 0
  have h1 := hown.stored 0 (.int .u64 (s.size : Int))
  have h1' := h1.1
  have hb1 := hb.setCell (p := ⟨w.heap.size, 0, none⟩) (Nat.le_refl _) (.int .u64 (s.size : Int))
  rw [uv_set, ← HB.out, textTo_zero _ L (by rw [HB.out]; exact HL.out), HB.out] at h1'
  have H1 := Lib.hid (And.intro h1' hb1)
  clear h1 h1' hb1
  go_wp2
  clear hc0 hf0 hown hb hg
  go_loopw [4] (fun i wr => ∃ k : Nat, k ≤ s.size ∧ i = .int .i64 k ∧ wr.ownsRow w.heap.size 24 1 (.slice (some ⟨w.heap.size, 0, none⟩) L L) L (uv (textTo s.data.toList k)) ∧ Below w.heap.size w wr) (fun i _ => s.size - (intOf i).toNat)
  case atStart => exact ⟨0, Nat.zero_le _, rfl, H1.out⟩
  case round =>
    obtain ⟨k, hk, rfl, hown, hb⟩ := hrel
    by_cases hlt : k < s.size
    · have hi : 1 + k / 8 < L := by rw [← HL.out]; exact lenW_gt _ _ hlt
      have hc := hown.cellAt (1 + k / 8) (by omega)
      rw [uv_at _ _ (by rw [textTo_length, HB.out, HL.out]; exact hi)] at hc
      have hf := hown.frozenAt (1 + k / 8)
      obtain ⟨x, ex⟩ : ∃ x, (textTo s.data.toList k)[1 + k / 8]?.getD 0 = x := ⟨_, rfl⟩
      rw [ex] at hc
      have Ex := Lib.hid ex
      clear ex
      go_wp2
      go_region
      go_wp2
      go_roundw
      case rel => exact ⟨k + 1, by omega, by go_num, text_step hlt hown hb (Nat.le_refl _) Ex.out (by omega) (by rw [Nat.mul_comm (k % 8) 8])⟩
      case measure => simp [intOf]; omega
    · go_wp2
      go_ret
      obtain rfl : k = s.size := by omega
      exact ⟨_, rfl, by unfold textW; rw [HB.out]; exact hown, hb⟩


set_option maxHeartbeats 400000 in
theorem refText_no (s : ByteArray) (w : World) (hs : 8192 < s.size) :
    Calls Try.prog 21 #[.string s] w fun e w' => e = .returned (.tuple #[.slice none 0 0, .int .i64 4]) ∧ w = w' := by
  have h8 : (8192 : Int) < (s.size : Int) := by omega
  go_enter Try.func21, Try.ntmps21
  go_wp2_with fail
  go_ret2
  exact ⟨rfl, rfl⟩

set_option maxHeartbeats 400000 in
theorem refText_yes (s : ByteArray) (w : World) (hs : s.size ≤ 8192) :
    Calls Try.prog 21 #[.string s] w fun e w' => ∃ v, e = .returned (.tuple #[v, .int .i64 0]) ∧ w'.ownsRow w.heap.size 24 1 v (lenW s.size) (uv (textW s.data.toList)) ∧ Below w.heap.size w w' := by
  have h8 : ¬ (8192 : Int) < (s.size : Int) := by omega
  go_enter Try.func21, Try.ntmps21
  go_wp2_with fail
  refine (refWords_any s _ (by omega)).mono ?_
  rintro e w1 ⟨v, rfl, hown, hb⟩
  go_wp2_with fail
  go_ret2
  exact ⟨v, rfl, hown, hb⟩

/- slices.Equal of words. -/
set_option maxHeartbeats 400000 in
theorem equal_any (A B : Option Addr) (c d : Nat) (xs ys : List Nat) (w : World) (ha : Reads w A (uv xs)) (hb : Reads w B (uv ys)) (hx : xs.length ≤ 1000000) (hy : ys.length ≤ 1000000) :
    Calls Try.prog 34 #[.slice A xs.length c, .slice B ys.length d] w fun e w' => e = .returned (.bool (decide (xs = ys))) ∧ ∃ n, w' = w.drewN n := by
  by_cases hl : xs.length = ys.length
  · have H1 : ((xs.length : Int) != (ys.length : Int)) = false := by simp; omega
    have HL := Lib.hid hl
    obtain ⟨n, hn⟩ : ∃ n, xs.length = n := ⟨_, rfl⟩
    rw [← hl, hn] at H1 ⊢
    rw [hn] at hx
    have HN := Lib.hid hn
    clear hl hn hy
    have hcx : ∀ i, i < n → ∃ b off, A = some ⟨b, off, none⟩ ∧ w.cell? ⟨b, off + i, none⟩ = some (.int .u64 ((xs[i]?.getD 0 : Nat) : Int)) := by
      intro i hi
      obtain ⟨b, off, e, _, hc⟩ := ha.u (by rw [HN.out]; omega)
      exact ⟨b, off, e, hc i (by rw [HN.out]; exact hi)⟩
    have hcy : ∀ i, i < n → ∃ b off, B = some ⟨b, off, none⟩ ∧ w.cell? ⟨b, off + i, none⟩ = some (.int .u64 ((ys[i]?.getD 0 : Nat) : Int)) := by
      intro i hi
      obtain ⟨b, off, e, _, hc⟩ := hb.u (by rw [← HL.out, HN.out]; omega)
      exact ⟨b, off, e, hc i (by rw [← HL.out, HN.out]; exact hi)⟩
    have HX := Lib.hid hcx
    have HY := Lib.hid hcy
    clear hcx hcy ha hb
    go_enter Try.func34, Try.ntmps34
    go_wp2
    go_loopw [13] (fun i wr => ∃ k m : Nat, k ≤ n ∧ i = .int .i64 k ∧ wr = w.drewN m ∧ Hid (xs.take k = ys.take k)) (fun i _ => n - (intOf i).toNat)
    case atStart => exact ⟨0, 0, Nat.zero_le _, rfl, rfl, by show _ = _; simp⟩
    case round =>
      obtain ⟨k, m, hk, rfl, rfl, hs⟩ := hrel
      by_cases hlt : k < n
      · obtain ⟨b, off, rfl, hc1⟩ := HX.out k hlt
        obtain ⟨b2, off2, rfl, hc2⟩ := HY.out k hlt
        obtain ⟨x, ex⟩ : ∃ x, xs[k]?.getD 0 = x := ⟨_, rfl⟩
        obtain ⟨y, ey⟩ : ∃ y, ys[k]?.getD 0 = y := ⟨_, rfl⟩
        rw [ex] at hc1
        rw [ey] at hc2
        have EX := Lib.hid ex
        have EY := Lib.hid ey
        clear ex ey
        by_cases hxy : x = y
        · have hq : ((x : Int) != (y : Int)) = false := by simp; omega
          go_wp2
          go_quiet (fail)
          go_wp2
          go_roundw
          case rel => exact ⟨k + 1, _, by omega, by go_num, rfl, take_eq_snoc (by rw [HN.out]; omega) HL.out hs.out (by rw [EX.out, EY.out, hxy])⟩
          case measure => simp [intOf]; omega
        · have hq : ((x : Int) != (y : Int)) = true := by simp; omega
          go_wp2
          go_quiet (fail)
          go_wp2
          go_ret
          refine ⟨?_, m + nq, by rw [World.drewN_drewN]⟩
          have : decide (xs = ys) = false := by
            simp only [decide_eq_false_iff_not]
            intro h
            exact hxy (by rw [← EX.out, ← EY.out, h])
          rw [this]
          rfl
      · go_wp2
        go_ret
        refine ⟨?_, _, rfl⟩
        have : decide (xs = ys) = true := by
          have h := hs.out
          rw [List.take_of_length_le (by rw [HN.out]; omega), List.take_of_length_le (by rw [← HL.out, HN.out]; omega)] at h
          simpa using h
        rw [this]
        rfl
  · have h1 : ((xs.length : Int) != (ys.length : Int)) = true := by simp; omega
    have h2 : Hid (decide (xs = ys) = false) := by show decide (xs = ys) = false; simp; intro h; exact hl (by rw [h])
    go_enter Try.func34, Try.ntmps34
    go_wp2
    go_ret
    exact ⟨by rw [h2.out]; rfl, 0, rfl⟩


end Go.Proofs.Ytcafhnaododjfaa
