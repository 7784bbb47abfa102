/-
  treenode: widths, sum, Header; ref25: Header, Sum.
-/
import Derived.Test.YtjnkajdfdhockaaSumD
import Derived.Test.YtjnkajdfdhockaaC4
import Derived.Deep.RegionHeld3
namespace Go.Proofs.Ytjnkajdfdhockaa
set_option linter.unusedVariables false
open Go.RowKit

def headW : List Int := [4, 4, 4, 20, 16, 16]
set_option maxHeartbeats 400000 in
theorem widths_any (w : World) :
    Calls Try.prog 42 #[] w fun e w' => e = .returned (.slice (some ⟨w.heap.size, 0, none⟩) 6 6) ∧ Reads w' (some ⟨w.heap.size, 0, none⟩) (iv headW) ∧ Below w.heap.size w w' := by
  go_enter Try.func42, Try.ntmps42
  go_wp2_with fail
  go_ret
  exact ⟨rfl, Reads.new w #[.int .i64 4, .int .i64 4, .int .i64 4, .int .i64 20, .int .i64 16, .int .i64 16] _, (Below.refl _ w).alloc (Nat.le_refl _) _⟩

/-- The checksum of a block's words: the sum's own field reads as 0. -/
def clearS (x : Nat) : Nat := x &&& (18446744073709551615 - 281470681743360)
def sumN (l : List Nat) : Nat := shortC (extendC 0 (l.set 0 (clearS (l[0]?.getD 0))))
theorem sumN_lt (l : List Nat) : sumN l < 65536 := shortC_lt _
theorem clearS_lt (x : Nat) (h : x < 18446744073709551616) : clearS x < 18446744073709551616 := and_lt _ h
theorem clearS_bits (x : Nat) (h : x < 18446744073709551616) : bits .andNot .u64 (x : Int) 281470681743360 = ((clearS x : Nat) : Int) := u64_andNot_nat x 281470681743360 h (by omega)

set_option maxHeartbeats 1000000 in
theorem sum_any (A : Option Addr) (c n : Nat) (l : List Nat) (w : World) (hn : l.length = n) (hA : Reads w A (uv l)) (hl : W64 l) (h1 : 1 ≤ n) (hlen : n ≤ 1000000) :
    Calls Try.prog 43 #[.slice A n c] w fun e w' => e = .returned (.int .u64 ((sumN l : Nat) : Int)) ∧ Below w.heap.size w w' := by
  have hcl := clone_any A c l w hA (by omega)
  rw [hn] at hcl
  have HN := Lib.hid hn
  have HC := Lib.hid hcl
  have hx := hl.at 0
  obtain ⟨x, ex⟩ : ∃ x, l[0]?.getD 0 = x := ⟨_, rfl⟩
  rw [ex] at hx
  have EX := Lib.hid ex
  have hcx := clearS_bits x hx
  have hlw : W64 (l.set 0 (clearS x)) := hl.set 0 _ (clearS_lt x hx)
  clear hcl hn hA
  go_enter Try.func43, Try.ntmps43
  go_wp2_with fail
  refine HC.out.mono ?_
  rintro e w1 ⟨v, rfl, hown, hb⟩
  obtain ⟨g, cap, rfl, hg, hlt⟩ := hown.form (by omega)
  have hc := hown.cellAt 0 (by omega)
  rw [uv_at _ _ (by rw [HN.out]; omega), ex] at hc
  have hf := hown.frozenAt 0
  have h2 := (hown.stored 0 (.int .u64 ((clearS x : Nat) : Int))).1
  have hb2 := hb.setCell (p := ⟨g, 0, none⟩) hg (.int .u64 ((clearS x : Nat) : Int))
  rw [uv_set] at h2
  have H2 := Lib.hid (Reads.of_own h2)
  clear ex h2 hown
  go_wp2_with fail
  generalize hw2 : (w1.setCell _ _) = w2 at hb2 H2 ⊢
  clear hc hf hw2
  refine (words_sum (some ⟨g, 0, none⟩) cap n _ w2 (by rw [List.length_set]; exact HN.out) H2.out hlw hlen).mono ?_
  rintro e w3 ⟨rfl, hb3⟩
  go_wp2_with fail
  refine (short_any _ _ (extendC_lt _ _)).mono ?_
  rintro e w4 ⟨rfl, rfl⟩
  go_wp2_with fail
  go_ret
  refine ⟨ret_int ?_, hb2.trans (hb3.mono hb2.size)⟩
  unfold sumN
  rw [EX.out, wrap_nat, Nat.mod_eq_of_lt (Nat.lt_of_lt_of_le (shortC_lt _) (by omega))]

set_option maxHeartbeats 1000000 in
theorem refSum_any (A : Option Addr) (c n : Nat) (l : List Nat) (w : World) (hn : l.length = n) (hA : Reads w A (uv l)) (hl : W64 l) (h1 : 1 ≤ n) (hlen : n ≤ 1000000) :
    Calls Try.prog 39 #[.slice A n c] w fun e w' => e = .returned (.int .u64 ((sumN l : Nat) : Int)) ∧ Below w.heap.size w w' := by
  obtain ⟨i0, hi0, hz0, hz1, hz2⟩ := info_parts u64_info
  have HN := Lib.hid hn
  have hx := hl.at 0
  obtain ⟨x, ex⟩ : ∃ x, l[0]?.getD 0 = x := ⟨_, rfl⟩
  rw [ex] at hx
  have EX := Lib.hid ex
  have hcx := clearS_bits x hx
  have hlw : W64 (l.set 0 (clearS x)) := hl.set 0 _ (clearS_lt x hx)
  clear hn ex
  go_enter Try.func39, Try.ntmps39
  go_wp2_with (at_builtin; refine wpList_append_reads _ (by rfl) _ _ _ (by rfl) w.heap.size 38 i0 _ 1 8 Try.underlying30 hi0 hz0 hz1 hz2 (by rfl) (by omega) (.slice none 0 0) 0 [] (by rfl) (World.ownsRow_nil _ _ _ _) A n c (uv l) (by rfl) (by rw [uv_length, HN.out, Nat.mul_one]) hA (uv_one l) (by simp only [maxLen]; omega) (by omega) (by simp) ?_; intro v1 w1 hown hg1 hat1; have hb : Below w.heap.size w w1 := (Below.refl _ w).grown hg1 (by simp) (by intro k hk; simp [Value.ownBlock] at hk); simp only [Nat.zero_add, List.nil_append] at hown; obtain ⟨g, cap, rfl, hg, hlt⟩ := hown.form (by omega); have hc := hown.cellAt 0 (by omega); rw [uv_at _ _ (by rw [HN.out]; omega), EX.out] at hc; have hf := hown.frozenAt 0; have h2 := (hown.stored 0 (.int .u64 ((clearS x : Nat) : Int))).1; have hb2 := hb.setCell (p := ⟨g, 0, none⟩) hg (.int .u64 ((clearS x : Nat) : Int)); rw [uv_set] at h2; have H2 := Lib.hid (Reads.of_own h2); clear h2 hown hat1 hg1)
  generalize hw2 : (w1.setCell _ _) = w2 at hb2 H2 ⊢
  clear hc hf hw2
  refine (refWords_sum (some ⟨g, 0, none⟩) cap n _ w2 (by rw [List.length_set]; exact HN.out) H2.out hlw hlen).mono ?_
  rintro e w3 ⟨rfl, rfl⟩
  go_wp2_with fail
  refine (refShort_any _ _ (extendC_lt _ _)).mono ?_
  rintro e w4 ⟨rfl, rfl⟩
  go_wp2_with fail
  go_ret
  refine ⟨ret_int ?_, hb2⟩
  unfold sumN
  rw [EX.out, wrap_nat, Nat.mod_eq_of_lt (Nat.lt_of_lt_of_le (shortC_lt _) (by omega))]

end Go.Proofs.Ytjnkajdfdhockaa
