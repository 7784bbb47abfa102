import Derived.Test.YtcafhnaododjfaaPackB
import Derived.Test.YtcafhnaododjfaaText
namespace Go.Proofs.Ytcafhnaododjfaa
set_option linter.unusedVariables false
open Go.RowKit

def lenI (n : Int) : Int := if n < 0 then 0 else (lenW n.toNat : Int)

theorem lenI_more (n : Int) (h0 : ¬ n < 0) (h1 : n % 8 > 0) : lenI n = 1 + n / 8 + 1 := by
  simp only [lenI, if_neg h0, lenW]
  rw [if_pos (by omega)]
  omega
theorem lenI_less (n : Int) (h0 : ¬ n < 0) (h1 : ¬ n % 8 > 0) : lenI n = 1 + n / 8 := by
  simp only [lenI, if_neg h0, lenW]
  rw [if_neg (by omega)]
  omega
theorem lenI_nat (n : Nat) : lenI (n : Int) = (lenW n : Int) := by
  unfold lenI
  rw [if_neg (by omega), Int.toNat_natCast]

set_option maxHeartbeats 400000 in
theorem length_any (n : Int) (w : World) (h : n ≤ 1000000) (hlo : -9223372036854775808 ≤ n) :
    Calls Try.prog 22 #[.int .i64 n] w fun e w' => e = .returned (.int .i64 (lenI n)) ∧ w = w' := by
  by_cases h0 : n < 0
  · go_enter Try.func22, Try.ntmps22
    go_wp2
    go_ret
    exact ⟨by simp [lenI, h0], rfl⟩
  · by_cases h1 : n % 8 > 0
    · have E := Lib.hid (lenI_more n h0 h1)
      go_enter Try.func22, Try.ntmps22
      go_wp2
      go_ret
      exact ⟨by rw [E.out]; rfl, rfl⟩
    · have E := Lib.hid (lenI_less n h0 h1)
      go_enter Try.func22, Try.ntmps22
      go_wp2
      go_ret
      exact ⟨by rw [E.out]; rfl, rfl⟩

set_option maxHeartbeats 400000 in
theorem refLength_any (n : Int) (w : World) (h : n ≤ 1000000) (hlo : -9223372036854775808 ≤ n) :
    Calls Try.prog 23 #[.int .i64 n] w fun e w' => e = .returned (.int .i64 (lenI n)) ∧ w = w' := by
  by_cases h0 : n < 0
  · go_enter Try.func23, Try.ntmps23
    go_wp2
    go_ret
    exact ⟨by simp [lenI, h0], rfl⟩
  · by_cases h1 : n % 8 > 0
    · have E := Lib.hid (lenI_more n h0 h1)
      go_enter Try.func23, Try.ntmps23
      go_wp2
      all_goals (go_ret; exact ⟨by rw [E.out]; exact ret_int (by omega), rfl⟩)
    · have E := Lib.hid (lenI_less n h0 h1)
      go_enter Try.func23, Try.ntmps23
      go_wp2
      all_goals (go_ret; exact ⟨by rw [E.out]; exact ret_int (by omega), rfl⟩)

theorem replicate_uv (n : Nat) : (madeCells #[Value.int IntKind.u64 0] n).toList = uv (List.replicate n 0) := by
  rw [toList_madeCells_one]; simp [uv]

theorem textTo_zero (bs : List UInt8) (L : Nat) (h : lenW bs.length = L) : (List.replicate L 0).set 0 bs.length = textTo bs 0 := by
  have : L = (lenW bs.length - 1) + 1 := by rw [← h]; unfold lenW; omega
  rw [this, List.replicate_succ, List.set_cons_zero]; rfl

theorem wrap_byte_shl (b : UInt8) (k : Nat) : IntKind.u64.wrap (IntKind.u64.wrap (b.toNat : Int) * 2 ^ (k % 8 * 8)) = ((b.toNat <<< (k % 8 * 8) : Nat) : Int) := by
  have h1 : b.toNat < 256 := b.toNat_lt
  rw [wrap_nat, Nat.mod_eq_of_lt (by omega), cast_two_pow, ← Int.natCast_mul, wrap_nat, ← Nat.shiftLeft_eq, Nat.mod_eq_of_lt (byte_shl_lt b k)]

theorem text_step {w0 wr : World} {g L k x : Nat} {s : ByteArray} {z : Int} (hlt : k < s.size)
    (hown : wr.ownsRow w0.heap.size 24 1 (.slice (some ⟨g, 0, none⟩) L L) L (uv (textTo s.data.toList k))) (hb : Below w0.heap.size w0 wr) (hg : w0.heap.size ≤ g)
    (hx : (textTo s.data.toList k)[1 + k / 8]?.getD 0 = x) (h64 : s.size < 18446744073709551616) (hz : z = bits BinOp.or IntKind.u64 (x : Int) (IntKind.u64.wrap (IntKind.u64.wrap (s[k].toNat : Int) * 2 ^ (k % 8 * 8)))) :
    (wr.setCell ⟨g, 1 + k / 8, none⟩ (.int .u64 z)).drew.ownsRow w0.heap.size 24 1 (.slice (some ⟨g, 0, none⟩) L L) L (uv (textTo s.data.toList (k + 1))) ∧ Below w0.heap.size w0 (wr.setCell ⟨g, 1 + k / 8, none⟩ (.int .u64 z)).drew := by
  refine ⟨World.ownsRow.drew ?_, (hb.setCell (p := ⟨g, 1 + k / 8, none⟩) hg _).drew⟩
  have hx' : x < 18446744073709551616 := by rw [← hx]; exact (textTo_w _ _ (by rw [Array.length_toList]; exact h64)).at _
  rw [wrap_byte_shl, u64_or_nat _ _ hx' (byte_shl_lt _ _)] at hz
  have := (hown.stored (1 + k / 8) (.int .u64 z)).1
  rw [hz, uv_set] at this
  rw [hz]
  have hbk : (s.data.toList[k]?.getD 0) = s[k] := by
    have : k < s.data.toList.length := by rw [Array.length_toList]; exact hlt
    rw [List.getElem?_eq_getElem this]; rfl
  rw [textTo, hx, hbk]
  exact this

set_option maxHeartbeats 400000 in
theorem text_yes (s : ByteArray) (w : World) (hs : s.size ≤ 8192) :
    Calls Try.prog 20 #[.string s] w fun e w' => ∃ v, e = .returned (.tuple #[v, .int .i64 0]) ∧ w'.ownsRow w.heap.size 24 1 v (lenW s.size) (uv (textW s.data.toList)) ∧ Below w.heap.size w w' := by
  obtain ⟨i0, hi0, hz0, hz1, hz2⟩ := info_parts u64_info
  have hbs : s.data.toList.length = s.size := Array.length_toList
  obtain ⟨L, hL⟩ : ∃ L, lenW s.size = L := ⟨_, rfl⟩
  have hL1 : 1 ≤ L ∧ L ≤ 2000 := by rw [← hL]; unfold lenW; split <;> omega
  have HL := Lib.hid hL
  have HB := Lib.hid hbs
  rw [hL]
  clear hL hbs
  have h8 : decide ((8192 : Int) < (s.size : Int)) = false := by simp; omega
  go_enter Try.func20, Try.ntmps20
  go_wp2_with (first | (go_at_call 22; refine (length_any _ _ (by omega) (by omega)).mono ?_; rintro e w1 ⟨rfl, rfl⟩; rw [lenI_nat, HL.out]) | (at_make; refine wpList_make_full _ rfl _ _ _ rfl w.heap.size 24 i0 _ 1 Try.underlying23 hi0 hz0 hz1 .i64 .i64 _ _ L rfl rfl rfl rfl ?_ ?_ ?_ ?_))
  · rw [hz2]; omega
  · simp only [maxLen]; omega
  · exact Nat.le_refl _
  intro w1 hown hg
  have hb : Below w.heap.size w w1 := (Below.refl _ w).grown hg (Nat.le_refl _) (by intro k hk; cases hk)
  rw [replicate_uv] at hown
  have hc0 := hown.cellAt 0 (by omega)
  rw [uv_at _ _ (by simp; omega)] at hc0
  have hf0 := hown.frozenAt 0
  have h1 := hown.stored 0 (.int .u64 (s.size : Int))
  have h1' := h1.1
  have hb1 := hb.setCell (p := ⟨w.heap.size, 0, none⟩) (Nat.le_refl _) (.int .u64 (s.size : Int))
  rw [uv_set, ← HB.out, textTo_zero _ L (by rw [HB.out]; exact HL.out), HB.out] at h1'
  have H1 := Lib.hid (And.intro h1' hb1)
  clear h1 h1' hb1
  go_wp2
  clear hc0 hf0 hown hb hg
  go_loopw [20] (fun i wr => ∃ k : Nat, k ≤ s.size ∧ i = .int .i64 k ∧ wr.ownsRow w.heap.size 24 1 (.slice (some ⟨w.heap.size, 0, none⟩) L L) L (uv (textTo s.data.toList k)) ∧ Below w.heap.size w wr) (fun i _ => s.size - (intOf i).toNat)
  case atStart => exact ⟨0, Nat.zero_le _, rfl, H1.out⟩
  case round =>
    obtain ⟨k, hk, rfl, hown, hb⟩ := hrel
    by_cases hlt : k < s.size
    · have hi : 1 + k / 8 < L := by rw [← HL.out]; exact lenW_gt _ _ hlt
      have hc := hown.cellAt (1 + k / 8) (by omega)
      rw [uv_at _ _ (by rw [textTo_length, HB.out, HL.out]; exact hi)] at hc
      have hf := hown.frozenAt (1 + k / 8)
      obtain ⟨x, ex⟩ : ∃ x, (textTo s.data.toList k)[1 + k / 8]?.getD 0 = x := ⟨_, rfl⟩
      rw [ex] at hc
      have Ex := Lib.hid ex
      clear ex
      go_wp2
      go_region
      go_wp2
      go_roundw
      case rel => exact ⟨k + 1, by omega, by go_num, text_step hlt hown hb (Nat.le_refl _) Ex.out (by omega) rfl⟩
      case measure => simp [intOf]; omega
    · go_wp2
      go_ret2
      obtain rfl : k = s.size := by omega
      exact ⟨_, rfl, by unfold textW; rw [HB.out]; exact hown, hb⟩

end Go.Proofs.Ytcafhnaododjfaa
