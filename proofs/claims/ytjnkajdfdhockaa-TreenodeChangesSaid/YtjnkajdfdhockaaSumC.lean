/-
  The checksum by a table (checksum): spread (the bytes of words, an iterator).
-/
import Derived.Test.YtjnkajdfdhockaaSumB
import Derived.Test.YtjnkajdfdhockaaC3
import Derived.Test.YtjnkajdfdhockaaMix
namespace Go.Proofs.Ytjnkajdfdhockaa
set_option linter.unusedVariables false
open Go.RowKit Go.Shelf
attribute [local go_sem] Oper.semAt_some

abbrev encB (x : Fin 256) : Array Value := #[.int .u8 (x.val : Int)]
/-- Byte i of a list of words. -/
def byteOf (l : List Nat) (i : Nat) : Fin 256 := ⟨byteC (l[i / 8]?.getD 0) (i % 8), byteC_lt _ _⟩

set_option maxRecDepth 100000 in
set_option maxHeartbeats 1000000 in
theorem spread1_in (F : Fence) (n : Nat) (h35 : F.fn 70) (hro : F.round = none) (hn : 1 ≤ n) (l Bs n₀ : Nat) (A : Option Addr) (cap : Nat) (ws : List Nat) (hw : W64 ws)
    (hlen : ws.length ≤ 1000000) (J Jx : List (Fin 256) → World → Prop)
    (hY : ∀ pre x W, J pre W → pre.length < 8 * ws.length → YieldAt F (n - 1) Try.prog l (encB x) W fun e W' =>
      (e = .returned (.bool true) ∧ J (pre ++ [x]) W' ∧ KeepB n₀ Bs W W') ∨ (e = .returned (.bool false) ∧ Jx (pre ++ [x]) W'))
    (W : World) (hBs : W.cell? ⟨Bs, 0, none⟩ = some (.slice A ws.length cap))
    (hA : ∀ i, i < ws.length → ∃ b off, A = some ⟨b, off, none⟩ ∧ b < n₀ ∧ W.cell? ⟨b, off + i, none⟩ = some (.int .u64 ((ws[i]?.getD 0 : Nat) : Int))) (h0 : J [] W) :
    CallsIn F n Try.prog 70 #[.func (.yield l) #[] #[], .pointer (some ⟨Bs, 0, none⟩)] W fun e W' => (∃ v, e = .returned v) ∧
      ((∃ ys, ys = upto (byteOf ws) (8 * ws.length) ∧ J ys W') ∨ (∃ pre, (∃ k, k ≤ 8 * ws.length ∧ pre = upto (byteOf ws) k) ∧ Jx pre W')) := by
  obtain ⟨m, hm⟩ : ∃ m, ws.length = m := ⟨_, rfl⟩
  have HM := Lib.hid hm
  rw [hm] at hlen hBs hA hY ⊢
  clear hm
  have HA := Lib.hid hA
  clear hA
  refine callsIn_of_wp Try.func70 rfl h35 ?_ hro
  simp only [Try.ntmps70, List.size_toArray, List.length_cons, List.length_nil, Nat.reduceAdd, Nat.reduceSub, Array.replicate_succ, Array.replicate_zero, List.push_toArray, List.append_toArray, List.nil_append, List.cons_append]
  gi_wp2
  gi_loopw [8] (fun i wr => ∃ k : Nat, k ≤ m ∧ i = .int .i64 k ∧ J (upto (byteOf ws) (8 * k)) wr ∧ KeepB n₀ Bs W wr) (fun i _ => m - (intOf i).toNat)
  case atStart => exact ⟨0, Nat.zero_le _, rfl, h0, KeepB.refl _ _ _⟩
  case round =>
    obtain ⟨k, hk, rfl, hJs, hnx⟩ := hrel
    by_cases hlt : k < m
    · obtain ⟨b, off, rfl, hb, hc1⟩ := HA.out k hlt
      have hc2 := (hnx.below.cell (p := ⟨b, off + k, none⟩) hb).trans hc1
      have hv := hw.at k
      obtain ⟨v, ev⟩ : ∃ v, ws[k]?.getD 0 = v := ⟨_, rfl⟩
      rw [ev] at hc2 hv
      have EV := Lib.hid ev
      clear ev hc1
      gi_wp2
      gi_loopw [12] (fun i wr2 => ∃ t : Nat, t ≤ 8 ∧ i = .int .i64 t ∧ J (upto (byteOf ws) (8 * k + t)) wr2 ∧ KeepB n₀ Bs W wr2) (fun i _ => 8 - (intOf i).toNat)
      case atStart => exact ⟨0, Nat.zero_le _, rfl, hJs, hnx⟩
      case round =>
        obtain ⟨t, ht, rfl, hJt, hnt⟩ := hrel
        by_cases h8 : t < 8
        · have h8' : (t : Int) < 8 := by omega
          have e8 : ((8 : Int) * (t : Int)).toNat = 8 * t := by omega
          have hby := byte_wrap v (8 * t)
          obtain ⟨fn, tmps, assign, body, hy, hR⟩ := hY _ (byteOf ws (8 * k + t)) _ hJt (by rw [upto_length]; omega)
          have e1 : ((byteOf ws (8 * k + t)).val : Int) = ((v >>> (8 * t) % 256 : Nat) : Int) := by
            show ((byteC (ws[(8 * k + t) / 8]?.getD 0) ((8 * k + t) % 8) : Nat) : Int) = _
            rw [show (8 * k + t) / 8 = k by omega, show (8 * k + t) % 8 = t by omega, EV.out]
            rfl
          obtain ⟨y, ey⟩ : ∃ y, v >>> (8 * t) % 256 = y := ⟨_, rfl⟩
          rw [ey] at e1 hby
          have hy' : _ := hy
          simp only [encB, e1] at hy'
          clear hy e1 ey
          gi_wp2
          refine hR.mono ?_
          rintro e W3 (⟨rfl, hJ3, hk3⟩ | ⟨rfl, hJx3⟩)
          · gi_wp2
            go_roundw
            case rel => exact ⟨t + 1, by omega, by simp, by rw [← Nat.add_assoc, upto_succ]; exact hJ3, hnt.trans hk3⟩
            case measure => simp [intOf]; omega
          · gi_wp2
            refine bodyPost_ret (results_none rfl _ _ _) rfl ?_
            exact ⟨⟨_, rfl⟩, .inr ⟨_, ⟨8 * k + t + 1, by omega, (upto_succ _ _).symm⟩, hJx3⟩⟩
        · obtain rfl : t = 8 := by omega
          gi_wp2
          go_roundw
          case rel => exact ⟨k + 1, by omega, by simp, hJt, hnt⟩
          case measure => simp [intOf]; omega
    · obtain rfl : k = m := by omega
      gi_wp2
      go_end0
      exact ⟨⟨_, rfl⟩, .inl ⟨_, rfl, hJs⟩⟩

set_option maxHeartbeats 1000000 in
theorem spread_in (F : Fence) (n : Nat) (h31 : F.fn 67) (hro : F.round = none) (a : Option Addr) (len cap : Nat) (w : World) :
    CallsIn F n Try.prog 67 #[.slice a len cap] w fun e w' => e = .returned (.func (.func 70) #[] #[.pointer (some ⟨w.heap.size, 0, none⟩)]) ∧ w.alloc (.cells #[.slice a len cap] 30) = w' := by
  refine callsIn_of_wp Try.func67 rfl h31 ?_ hro
  simp only [Try.ntmps67, List.size_toArray, List.length_cons, List.length_nil, Nat.reduceAdd, Nat.reduceSub, Array.replicate_succ, Array.replicate_zero, List.push_toArray, List.append_toArray, List.nil_append, List.cons_append]
  gi_wp2
  go_ret
  exact ⟨rfl, rfl⟩

theorem spread_stops (F : Fence) (n : Nat) (h35 : F.fn 70) (hro : F.round = none) (hn : 1 ≤ n) (Bs n₀ : Nat) (A : Option Addr) (cap : Nat) (ws : List Nat) (hw : W64 ws)
    (hlen : ws.length ≤ 1000000) (w : World) (hBs : Bs < w.heap.size) (hn₀ : n₀ ≤ w.heap.size)
    (hc : w.cell? ⟨Bs, 0, none⟩ = some (.slice A ws.length cap))
    (hA : ∀ i, i < ws.length → ∃ b off, A = some ⟨b, off, none⟩ ∧ b < n₀ ∧ w.cell? ⟨b, off + i, none⟩ = some (.int .u64 ((ws[i]?.getD 0 : Nat) : Int))) :
    SeqStopsK F n Try.prog 70 #[.pointer (some ⟨Bs, 0, none⟩)] encB (KeepB n₀ Bs) (fun ys => ys = upto (byteOf ws) (8 * ws.length))
      (fun pre => ∃ k, k ≤ 8 * ws.length ∧ pre = upto (byteOf ws) k) (8 * ws.length) w := fun l J Jx W hW _ _ hY h0 =>
  spread1_in F n h35 hro hn l Bs n₀ A cap ws hw hlen J Jx hY W ((hW.cell (p := ⟨Bs, 0, none⟩) (by show Bs < _; omega)).trans hc) (fun i hi => by
    obtain ⟨b, off, e, hb, h⟩ := hA i hi
    exact ⟨b, off, e, hb, (hW.cell (p := ⟨b, off + i, none⟩) (by show b < _; omega)).trans h⟩) h0

end Go.Proofs.Ytjnkajdfdhockaa
