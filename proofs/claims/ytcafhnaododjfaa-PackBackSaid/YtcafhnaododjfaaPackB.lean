import Derived.Test.YtcafhnaododjfaaPackA
namespace Go.Proofs.Ytcafhnaododjfaa
set_option linter.unusedVariables false
open Go.RowKit

theorem take_eq_snoc {xs ys : List Nat} {k : Nat} (hx : k < xs.length) (hl : xs.length = ys.length) (h : xs.take k = ys.take k) (e : xs[k]?.getD 0 = ys[k]?.getD 0) : xs.take (k + 1) = ys.take (k + 1) := by
  have hy : k < ys.length := by omega
  rw [List.take_succ_eq_append_getElem hx, List.take_succ_eq_append_getElem hy, h]
  simp [hx, hy] at e
  rw [e]

set_option maxHeartbeats 400000 in
theorem same_any (A B : Option Addr) (c d : Nat) (xs ys : List Nat) (w : World) (ha : Reads w A (uv xs)) (hb : Reads w B (uv ys)) (hx : xs.length ≤ 1000000) (hy : ys.length ≤ 1000000) :
    Calls Try.prog 18 #[.slice A xs.length c, .slice B ys.length d] w fun e w' => e = .returned (.bool (decide (xs = ys))) ∧ ∃ n, w' = w.drewN n := by
  by_cases hl : xs.length = ys.length
  · have H1 : ((xs.length : Int) != (ys.length : Int)) = false := by simp; omega
    have HL := Lib.hid hl
    obtain ⟨n, hn⟩ : ∃ n, xs.length = n := ⟨_, rfl⟩
    rw [← hl, hn] at H1 ⊢
    rw [hn] at hx
    have HN := Lib.hid hn
    clear hl hn hy
    have hcx : ∀ i, i < n → ∃ b off, A = some ⟨b, off, none⟩ ∧ w.cell? ⟨b, off + i, none⟩ = some (.int .u64 ((xs[i]?.getD 0 : Nat) : Int)) := by
      intro i hi
      obtain ⟨b, off, e, _, hc⟩ := ha.u (by rw [HN.out]; omega)
      exact ⟨b, off, e, hc i (by rw [HN.out]; exact hi)⟩
    have hcy : ∀ i, i < n → ∃ b off, B = some ⟨b, off, none⟩ ∧ w.cell? ⟨b, off + i, none⟩ = some (.int .u64 ((ys[i]?.getD 0 : Nat) : Int)) := by
      intro i hi
      obtain ⟨b, off, e, _, hc⟩ := hb.u (by rw [← HL.out, HN.out]; omega)
      exact ⟨b, off, e, hc i (by rw [← HL.out, HN.out]; exact hi)⟩
    have HX := Lib.hid hcx
    have HY := Lib.hid hcy
    clear hcx hcy ha hb
    go_enter Try.func18, Try.ntmps18
    go_wp2
    go_loopw [5] (fun i wr => ∃ k m : Nat, k ≤ n ∧ i = .int .i64 k ∧ wr = w.drewN m ∧ Hid (xs.take k = ys.take k)) (fun i _ => n - (intOf i).toNat)
    case atStart => exact ⟨0, 0, Nat.zero_le _, rfl, rfl, by show _ = _; simp⟩
    case round =>
      obtain ⟨k, m, hk, rfl, rfl, hs⟩ := hrel
      by_cases hlt : k < n
      · obtain ⟨b, off, rfl, hc1⟩ := HX.out k hlt
        obtain ⟨b2, off2, rfl, hc2⟩ := HY.out k hlt
        obtain ⟨x, ex⟩ : ∃ x, xs[k]?.getD 0 = x := ⟨_, rfl⟩
        obtain ⟨y, ey⟩ : ∃ y, ys[k]?.getD 0 = y := ⟨_, rfl⟩
        rw [ex] at hc1
        rw [ey] at hc2
        have EX := Lib.hid ex
        have EY := Lib.hid ey
        clear ex ey
        by_cases hxy : x = y
        · have hq : ((x : Int) != (y : Int)) = false := by simp; omega
          go_wp2
          go_quiet (fail)
          go_wp2
          go_roundw
          case rel => exact ⟨k + 1, _, by omega, by go_num, rfl, take_eq_snoc (by rw [HN.out]; omega) HL.out hs.out (by rw [EX.out, EY.out, hxy])⟩
          case measure => simp [intOf]; omega
        · have hq : ((x : Int) != (y : Int)) = true := by simp; omega
          go_wp2
          go_quiet (fail)
          go_wp2
          go_ret
          refine ⟨?_, m + nq, by rw [World.drewN_drewN]⟩
          have : decide (xs = ys) = false := by
            simp only [decide_eq_false_iff_not]
            intro h
            exact hxy (by rw [← EX.out, ← EY.out, h])
          rw [this]
          rfl
      · go_wp2
        go_ret
        refine ⟨?_, _, rfl⟩
        have : decide (xs = ys) = true := by
          have h := hs.out
          rw [List.take_of_length_le (by rw [HN.out]; omega), List.take_of_length_le (by rw [← HL.out, HN.out]; omega)] at h
          simpa using h
        rw [this]
        rfl
  · have h1 : ((xs.length : Int) != (ys.length : Int)) = true := by simp; omega
    have h2 : Hid (decide (xs = ys) = false) := by show decide (xs = ys) = false; simp; intro h; exact hl (by rw [h])
    go_enter Try.func18, Try.ntmps18
    go_wp2
    go_ret
    exact ⟨by rw [h2.out]; rfl, 0, rfl⟩

set_option maxHeartbeats 400000 in
theorem refSetBit_yes (A : Option Addr) (c : Nat) (l : List Nat) (n : Nat) (is : Bool) (w : World) (hA : Reads w A (uv l)) (hl : l.length ≤ 1000000) (hw : W64 l) (h : n / 64 < l.length) :
    Calls Try.prog 27 #[.slice A l.length c, .int .i64 n, .bool is] w fun e w' => ∃ v, e = .returned (.tuple #[v, .int .i64 0]) ∧ w'.ownsRow w.heap.size 24 1 v l.length (uv (setL l n is)) ∧ Below w.heap.size w w' := by
  obtain ⟨i0, hi0, hz0, hz1, hz2⟩ := info_parts u64_info
  have h0 : ¬ ((n : Int) < 0) := by omega
  have h1 : ¬ ((l.length : Int) ≤ (n : Int) / 64) := by omega
  have hx := hw.at (n / 64)
  obtain ⟨x, ex⟩ : ∃ x, l[n / 64]?.getD 0 = x := ⟨_, rfl⟩
  rw [ex] at hx
  have Ex := Lib.hid ex
  cases is
  all_goals
    go_enter Try.func27, Try.ntmps27
    go_wp2_with (at_builtin; refine wpList_append_reads _ rfl _ _ _ rfl w.heap.size 24 i0 _ 1 8 Try.underlying23 hi0 hz0 hz1 hz2 rfl (by omega) (.slice none 0 0) 0 [] rfl (World.ownsRow_nil _ _ _ _) A l.length c (uv l) rfl (by rw [uv_length]; omega) hA (uv_one l) (by simp only [maxLen]; omega) (by omega) (by simp) ?_; intro v1 w1 hown1 hg1 hat1)
    have hb : Below w.heap.size w w1 := (Below.refl _ w).grown hg1 (by simp) (by intro k hk; simp [Value.ownBlock] at hk)
    simp only [Nat.zero_add, List.nil_append] at hown1
    obtain ⟨g, cap, rfl, hg, hlt⟩ := hown1.form (by omega)
    have hc := hown1.cellAt (n / 64) (by omega)
    rw [uv_at _ _ h, ex] at hc
    clear ex hat1
    have hf := hown1.frozenAt (n / 64)
    go_wp2
    go_region
    go_wp2
  · go_ret2
    exact ⟨_, rfl, setBit_close hown1 Ex.out hg hb (bits_clear x (n % 64) (by omega) hx)⟩
  · have hz := bits_clear x (n % 64) (by omega) hx
    have h2 := setBit_close hown1 Ex.out hg hb hz
    rw [hz] at h2 ⊢
    generalize (w1.setCell _ _).drew = w2 at h2 ⊢
    obtain ⟨hown2, hb2⟩ := h2
    obtain ⟨y, ey⟩ : ∃ y, setW x (n % 64) false = y := ⟨_, rfl⟩
    have hy : y < 18446744073709551616 := by rw [← ey]; exact setW_lt _ _ _ (by omega) hx
    have h3 : (setL l n false)[n / 64]?.getD 0 = y := by rw [← ey]; simp [setL, h, Ex.out.symm]
    have hc2 := hown2.cellAt (n / 64) (by omega)
    rw [uv_at _ _ (by rw [setL_length]; exact h), h3] at hc2
    have hf2 := hown2.frozenAt (n / 64)
    rw [← setL_length l n false] at hown2
    have H3 := Lib.hid h3
    have Ey := Lib.hid ey
    clear hz h3 ey hc hf
    go_region
    go_wp2
    go_ret2
    have hz3 := bits_set y (n % 64) (by omega) hy
    have h4 := setBit_close hown2 H3.out hg hb2 hz3
    have h5 : setL (setL l n false) n true = setL l n true := by
      unfold setL
      rw [List.set_set]
      simp only [h, List.getElem?_set_self, Option.getD_some]
      rw [Ex.out]
      exact congrArg _ (clear_or x (n % 64) (by omega) hx)
    rw [h5, setL_length] at h4
    exact ⟨_, rfl, h4⟩

set_option maxHeartbeats 400000 in
theorem refSetBit_no (A : Option Addr) (c n : Nat) (m : Int) (is : Bool) (w : World) (h : m < 0 ∨ (n : Int) ≤ m / 64) (hm : m ≤ 9223372036854775807) :
    Calls Try.prog 27 #[.slice A n c, .int .i64 m, .bool is] w fun e w' => e = .returned (.tuple #[.slice none 0 0, .int .i64 1]) ∧ w = w' := by
  by_cases h0 : m < 0
  · go_enter Try.func27, Try.ntmps27
    go_wp2
    go_ret2
    exact ⟨rfl, rfl⟩
  · have h1 : (n : Int) ≤ m / 64 := by omega
    go_enter Try.func27, Try.ntmps27
    go_wp2
    go_ret2
    exact ⟨rfl, rfl⟩

end Go.Proofs.Ytcafhnaododjfaa
