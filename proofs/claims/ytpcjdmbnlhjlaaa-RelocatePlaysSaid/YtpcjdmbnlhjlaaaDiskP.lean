/-
  make.Keep.
-/
import Derived.Test.YtpcjdmbnlhjlaaaGa
namespace Go.Proofs.Ytpcjdmbnlhjlaaa
set_option linter.unusedVariables false
open Go.RowKit

def bv (l : List Bool) : List Value := l.map fun b => .bool b
theorem bv_append (l m : List Bool) : bv (l ++ m) = bv l ++ bv m := by simp [bv]
theorem bv_length (l : List Bool) : (bv l).length = l.length := by simp [bv]
theorem bv_at (l : List Bool) (i : Nat) (h : i < l.length) : (bv l)[i]? = some (.bool (l[i]?.getD false)) := by simp [bv, h]
theorem bool_info : (Try.prog.info? 4).map (fun i => (i.zero, i.size, i.bytes)) = some (some (.bool false), 1, 1) := by kernel_rfl

set_option maxHeartbeats 1000000 in
theorem keep_any (w : Nat) (W : World) (hw : w < 18446744073709551616) :
    Calls Try.prog 56 #[.int .u64 (w : Int)] W fun e W' => ∃ v bs, e = .returned v ∧ W'.ownsRow W.heap.size 4 1 v 192 (bv bs) ∧ bs.length = 192 ∧ Below W.heap.size W W' := by
  obtain ⟨i0, hi0, hz0, hz1, hz2⟩ := info_parts bool_info
  go_enter Try.func56, Try.ntmps56
  go_wp2_with fail
  go_loopw [3, 4] (fun v i wr => ∃ (k : Nat) (bs : List Bool), k ≤ 192 ∧ i = .int .i64 k ∧ wr.ownsRow W.heap.size 4 1 v k (bv bs) ∧ bs.length = k ∧ Below W.heap.size W wr) (fun _ i _ => 192 - (intOf i).toNat)
  case atStart => exact ⟨0, [], by omega, rfl, World.ownsRow_nil _ _ _ _, rfl, Below.refl _ _⟩
  case round =>
    obtain ⟨k, bs, hk, rfl, hown, hl, hb⟩ := hrel
    obtain ⟨A1, c1, rfl⟩ := own_form hown
    have HL := Lib.hid hl
    have HO := Lib.hid hown
    clear hl hown
    by_cases hlt : k < 192
    · have e1 : (k : Int).tmod 64 = ((k % 64 : Nat) : Int) := by rw [Int.tmod_eq_emod_of_nonneg (by omega)]; omega
      have hk64 : k % 64 < 64 := Nat.mod_lt _ (by omega)
      generalize k % 64 = m at *
      have t1 : (k : Int) < 192 := by omega
      go_wp2_with (at_builtin; refine wpList_append_reads _ (by rfl) _ _ _ (by rfl) W.heap.size 4 i0 _ 1 1 Try.underlying124 hi0 hz0 hz1 hz2 (by rfl) (by omega) (.slice A1 k c1) k (bv bs) (by rfl) (HO.out.alloc _) (some ⟨wr.heap.size, 0, none⟩) 1 1 [.bool _] (by rfl) (by rfl) (Reads.new _ _ _) (by simp [Value.oneCell']) (by simp only [maxLen]; omega) (by omega) (by have := hb.size; simp; omega) ?_; intro v1 w6 hown6 hg6 hat6; have hbb := app_below HO.out hg6 hb.size)
      have ho : w6.ownsRow W.heap.size 4 1 v1 (k + 1) (bv (bs ++ [(bits BinOp.and IntKind.u64 ((w : Int) / 2 ^ m) 1 == 1)])) := by rw [bv_append]; exact hown6
      have hl1 : (bs ++ [(bits BinOp.and IntKind.u64 ((w : Int) / 2 ^ m) 1 == 1)]).length = k + 1 := by rw [List.length_append, HL.out]; rfl
      have HO1 := Lib.hid ho
      have HL1 := Lib.hid hl1
      clear ho hl1 hown6 hg6 hat6
      generalize (bits BinOp.and IntKind.u64 ((w : Int) / 2 ^ m) 1 == 1) = q at *
      go_roundw
      case rel => exact ⟨k + 1, bs ++ [q], by omega, by go_num, HO1.out, HL1.out, hb.trans hbb⟩
      case measure => simp [intOf]; omega
    · have hkn : k = 192 := by omega
      subst hkn
      go_wp2_with fail
      go_ret
      exact ⟨_, bs, rfl, HO.out, HL.out, hb⟩

end Go.Proofs.Ytpcjdmbnlhjlaaa
