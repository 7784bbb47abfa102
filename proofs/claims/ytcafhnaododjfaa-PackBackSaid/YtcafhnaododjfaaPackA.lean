import Derived.Test.YtcafhnaododjfaaBits
import Derived.Test.YtcafhnaododjfaaRows
namespace Go.Proofs.Ytcafhnaododjfaa
set_option linter.unusedVariables false
open Go.RowKit

theorem u64_info : (Try.prog.info? 24).map (fun i => (i.zero, i.size, i.bytes)) = some (some (.int .u64 0), 1, 8) := by kernel_rfl
theorem int_info : (Try.prog.info? 3).map (fun i => (i.zero, i.size, i.bytes)) = some (some (.int .i64 0), 1, 8) := by kernel_rfl

/-- slices.Clone of words: a copy in new memory; nil stays nil. -/
theorem clone_any (A : Option Addr) (c : Nat) (l : List Nat) (w : World) (hA : Reads w A (uv l)) (hl : l.length ≤ 1000000) :
    Calls Try.prog 33 #[.slice A l.length c] w fun e w' => ∃ v, e = .returned v ∧ w'.ownsRow w.heap.size 24 1 v l.length (uv l) ∧ Below w.heap.size w w' := by
  obtain ⟨i0, hi0, hz0, hz1, hz2⟩ := info_parts u64_info
  have hn := fun W => Lib.run_eql_slice_nil (P := Try.prog) W 23 24 A l.length c 0 0 Try.underlying23
  rcases A with _ | a
  · have h0 : l = [] := by
      rcases Nat.eq_zero_or_pos l.length with h | h
      · exact List.eq_nil_of_length_eq_zero h
      · obtain ⟨b, off, h, _⟩ := hA.u (by omega)
        cases h
    subst h0
    simp only [List.length_nil, Option.isNone_none] at hn ⊢
    go_enter Try.func33, Try.ntmps33
    go_wp2
    go_ret
    exact ⟨_, rfl, World.ownsRow_nil _ _ _ _, Below.refl _ _⟩
  · go_enter Try.func33, Try.ntmps33
    go_wp2_with (at_builtin; refine wpList_append_reads _ rfl _ _ _ rfl w.heap.size 24 i0 _ 1 8 Try.underlying23 hi0 hz0 hz1 hz2 rfl (by omega) (.slice (some ⟨w.heap.size, 0, none⟩) 0 0) 0 [] rfl (World.ownsRow_lit w #[] 0 (Nat.le_refl _) (by simp only [maxLen]; omega) rfl) (some a) l.length c (uv l) rfl (by rw [uv_length]; omega) (hA.keep ((Below.refl _ _).alloc (Nat.le_refl _) _)) (uv_one l) (by simp only [maxLen]; omega) (by omega) (by simp) ?_; intro v1 w1 hown1 hg1 hat1)
    go_ret
    refine ⟨v1, rfl, by simpa using hown1, ((Below.refl _ w).alloc (Nat.le_refl _) _).grown hg1 (by simp) ?_⟩
    intro k hk
    simp [Value.ownBlock] at hk
    omega

def setW (x k : Nat) (is : Bool) : Nat := if is then x ||| 2 ^ k else x &&& (18446744073709551615 - 2 ^ k)
def setL (l : List Nat) (n : Nat) (is : Bool) : List Nat := l.set (n / 64) (setW (l[n / 64]?.getD 0) (n % 64) is)

theorem setW_lt (x k : Nat) (is : Bool) (hk : k < 64) (hx : x < 18446744073709551616) : setW x k is < 18446744073709551616 := by
  unfold setW
  cases is
  · exact and_lt _ hx
  · exact or_lt hx (two_pow_lt k hk)
theorem setL_length (l : List Nat) (n : Nat) (is : Bool) : (setL l n is).length = l.length := by simp [setL]
theorem setL_w (l : List Nat) (n : Nat) (is : Bool) (h : W64 l) : W64 (setL l n is) := h.set _ _ (setW_lt _ _ _ (by omega) (h.at _))
theorem uv_set (l : List Nat) (i x : Nat) : (uv l).set i (.int .u64 (x : Int)) = uv (l.set i x) := by simp [uv, List.map_set]

theorem setBit_close {w0 w1 : World} {g cap : Nat} {l : List Nat} {n x : Nat} {is : Bool} {z : Int}
    (hown : w1.ownsRow w0.heap.size 24 1 (.slice (some ⟨g, 0, none⟩) l.length cap) l.length (uv l)) (hx : l[n / 64]?.getD 0 = x)
    (hg : w0.heap.size ≤ g) (hb : Below w0.heap.size w0 w1) (hz : z = ((setW x (n % 64) is : Nat) : Int)) :
    (w1.setCell ⟨g, n / 64, none⟩ (.int .u64 z)).drew.ownsRow w0.heap.size 24 1 (.slice (some ⟨g, 0, none⟩) l.length cap) l.length (uv (setL l n is)) ∧ Below w0.heap.size w0 (w1.setCell ⟨g, n / 64, none⟩ (.int .u64 z)).drew := by
  refine ⟨World.ownsRow.drew ?_, (hb.setCell (p := ⟨g, n / 64, none⟩) hg _).drew⟩
  have := hown.stored (n / 64) (.int .u64 z)
  rw [hz, uv_set] at this
  rw [hz]
  unfold setL
  rw [hx]
  exact this.1

theorem bits_set (x k : Nat) (hk : k < 64) (hx : x < 18446744073709551616) : bits BinOp.or IntKind.u64 (x : Int) (IntKind.u64.wrap (2 ^ k)) = ((setW x k true : Nat) : Int) := by
  rw [wrap_two_pow k hk, u64_or_nat _ _ hx (two_pow_lt k hk)]
  rfl
theorem bits_clear (x k : Nat) (hk : k < 64) (hx : x < 18446744073709551616) : bits BinOp.andNot IntKind.u64 (x : Int) (IntKind.u64.wrap (2 ^ k)) = ((setW x k false : Nat) : Int) := by
  rw [wrap_two_pow k hk, u64_andNot_nat _ _ hx (two_pow_lt k hk)]
  rfl

set_option maxHeartbeats 400000 in
theorem setBit_yes (A : Option Addr) (c : Nat) (l : List Nat) (n : Nat) (is : Bool) (w : World) (hA : Reads w A (uv l)) (hl : l.length ≤ 1000000) (hw : W64 l) (h : n / 64 < l.length) :
    Calls Try.prog 19 #[.slice A l.length c, .int .i64 n, .bool is] w fun e w' => ∃ v, e = .returned (.tuple #[v, .int .i64 0]) ∧ w'.ownsRow w.heap.size 24 1 v l.length (uv (setL l n is)) ∧ Below w.heap.size w w' := by
  have h0 : ¬ ((n : Int) < 0) := by omega
  have h1 : ¬ ((l.length : Int) ≤ (n : Int) / 64) := by omega
  have hx := hw.at (n / 64)
  obtain ⟨x, ex⟩ : ∃ x, l[n / 64]?.getD 0 = x := ⟨_, rfl⟩
  rw [ex] at hx
  have Ex := Lib.hid ex
  cases is
  all_goals
    go_enter Try.func19, Try.ntmps19
    go_wp2_with (go_at_call 33; refine (clone_any _ _ _ _ hA hl).mono ?_; rintro e w1 ⟨v, rfl, hown, hb⟩)
    obtain ⟨g, cap, rfl, hg, hlt⟩ := hown.form (by omega)
    have hc := hown.cellAt (n / 64) (by omega)
    rw [uv_at _ _ h, ex] at hc
    clear ex
    have hf := hown.frozenAt (n / 64)
    go_wp2
    go_region
    go_wp2
    go_ret2
  · exact ⟨_, rfl, setBit_close hown Ex.out hg hb (bits_clear x (n % 64) (by omega) hx)⟩
  · exact ⟨_, rfl, setBit_close hown Ex.out hg hb (bits_set x (n % 64) (by omega) hx)⟩

set_option maxHeartbeats 400000 in
theorem setBit_no (A : Option Addr) (c n : Nat) (m : Int) (is : Bool) (w : World) (h : m < 0 ∨ (n : Int) ≤ m / 64) (hm : m ≤ 9223372036854775807) :
    Calls Try.prog 19 #[.slice A n c, .int .i64 m, .bool is] w fun e w' => e = .returned (.tuple #[.slice none 0 0, .int .i64 1]) ∧ w = w' := by
  by_cases h0 : m < 0
  · go_enter Try.func19, Try.ntmps19
    go_wp2
    go_ret2
    exact ⟨rfl, rfl⟩
  · have h1 : (n : Int) ≤ m / 64 := by omega
    go_enter Try.func19, Try.ntmps19
    go_wp2
    go_ret2
    exact ⟨rfl, rfl⟩

set_option maxHeartbeats 400000 in
theorem bit_yes (A : Option Addr) (c : Nat) (l : List Nat) (n : Nat) (w : World) (hA : Reads w A (uv l)) (hl : l.length ≤ 1000000) (hw : W64 l) (h : n / 64 < l.length) :
    Calls Try.prog 28 #[.slice A l.length c, .int .i64 n] w fun e w' => e = .returned (.tuple #[.bool ((l[n / 64]?.getD 0).testBit (n % 64)), .int .i64 0]) ∧ w = w' := by
  have h0 : ¬ ((n : Int) < 0) := by omega
  have h1 : ¬ ((l.length : Int) ≤ (n : Int) / 64) := by omega
  have hx := hw.at (n / 64)
  obtain ⟨x, ex⟩ : ∃ x, l[n / 64]?.getD 0 = x := ⟨_, rfl⟩
  rw [ex] at hx ⊢
  obtain ⟨b, off, rfl, hb, hcs⟩ := hA.u (by omega)
  have hc := hcs _ h
  rw [ex] at hc
  clear ex hcs
  go_enter Try.func28, Try.ntmps28
  go_wp2
  go_ret2
  exact ⟨by rw [← bit_and_one x (n % 64) hx]; rfl, rfl⟩

set_option maxHeartbeats 400000 in
theorem bit_no (A : Option Addr) (c n : Nat) (m : Int) (w : World) (h : m < 0 ∨ (n : Int) ≤ m / 64) (hm : m ≤ 9223372036854775807) :
    Calls Try.prog 28 #[.slice A n c, .int .i64 m] w fun e w' => e = .returned (.tuple #[.bool false, .int .i64 1]) ∧ w = w' := by
  by_cases h0 : m < 0
  · go_enter Try.func28, Try.ntmps28
    go_wp2
    go_ret2
    exact ⟨rfl, rfl⟩
  · have h1 : (n : Int) ≤ m / 64 := by omega
    go_enter Try.func28, Try.ntmps28
    go_wp2
    go_ret2
    exact ⟨rfl, rfl⟩

set_option maxHeartbeats 400000 in
theorem refBit_yes (A : Option Addr) (c : Nat) (l : List Nat) (n : Nat) (w : World) (hA : Reads w A (uv l)) (hl : l.length ≤ 1000000) (hw : W64 l) (h : n / 64 < l.length) :
    Calls Try.prog 29 #[.slice A l.length c, .int .i64 n] w fun e w' => e = .returned (.tuple #[.bool ((l[n / 64]?.getD 0).testBit (n % 64)), .int .i64 0]) ∧ w = w' := by
  have h0 : ¬ ((n : Int) < 0) := by omega
  have h1 : ¬ ((l.length : Int) ≤ (n : Int) / 64) := by omega
  have hx := hw.at (n / 64)
  obtain ⟨x, ex⟩ : ∃ x, l[n / 64]?.getD 0 = x := ⟨_, rfl⟩
  rw [ex] at hx ⊢
  obtain ⟨b, off, rfl, hb, hcs⟩ := hA.u (by omega)
  have hc := hcs _ h
  rw [ex] at hc
  clear ex hcs
  go_enter Try.func29, Try.ntmps29
  go_wp2
  go_ret2
  exact ⟨by rw [← bit_and_one x (n % 64) hx]; rfl, rfl⟩

set_option maxHeartbeats 400000 in
theorem refBit_no (A : Option Addr) (c n : Nat) (m : Int) (w : World) (h : m < 0 ∨ (n : Int) ≤ m / 64) (hm : m ≤ 9223372036854775807) :
    Calls Try.prog 29 #[.slice A n c, .int .i64 m] w fun e w' => e = .returned (.tuple #[.bool false, .int .i64 1]) ∧ w = w' := by
  by_cases h0 : m < 0
  · go_enter Try.func29, Try.ntmps29
    go_wp2
    go_ret2
    exact ⟨rfl, rfl⟩
  · have h1 : (n : Int) ≤ m / 64 := by omega
    go_enter Try.func29, Try.ntmps29
    go_wp2
    go_ret2
    exact ⟨rfl, rfl⟩

end Go.Proofs.Ytcafhnaododjfaa
