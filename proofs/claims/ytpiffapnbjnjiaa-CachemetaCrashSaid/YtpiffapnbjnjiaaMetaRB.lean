/-
  ref32: SameSlots, of equal lists.
-/
import Derived.Test.YtpiffapnbjnjiaaMetaZ0
import Derived.Laws.StructEq
namespace Go.Proofs.Ytpiffapnbjnjiaa
set_option linter.unusedVariables false
open Go.RowKit

theorem sl_held : Try.prog.stoodInHeld 50 = false := by kernel_rfl
theorem sl_guard : Try.prog.eqGuardType Try.prog.depth 50 = false := by kernel_rfl
theorem Reads.s {w : World} {A : Option Addr} {l : List Sl} (h : Reads w A (scs l)) (hl : l.length ≠ 0) :
    ∃ b off, A = some ⟨b, off, none⟩ ∧ b < w.heap.size ∧ ∀ i s, l[i]? = some s → w.cell? ⟨b, off + i * 4, none⟩ = some (.bool s.valid) ∧ w.cell? ⟨b, off + i * 4 + 1, none⟩ = some (.bool s.dirty) ∧ w.cell? ⟨b, off + i * 4 + 2, none⟩ = some (.int .i64 s.block) ∧ w.cell? ⟨b, off + i * 4 + 3, none⟩ = some (.int .i64 s.stamp) := by
  obtain ⟨b, off, e, hb, hc⟩ := h (by rw [scs_length]; omega)
  refine ⟨b, off, e, hb, fun i s hs => ?_⟩
  obtain ⟨h0, h1, h2, h3⟩ := scs_at l i s hs
  exact ⟨hc _ _ h0, hc _ _ h1, hc _ _ h2, hc _ _ h3⟩

set_option maxRecDepth 100000 in
set_option maxHeartbeats 1000000 in
theorem sameS_any (A B : Option Addr) (c d n : Nat) (xs : List Sl) (w : World) (hN : xs.length = n) (ha : Reads w A (scs xs)) (hb : Reads w B (scs xs)) (hx : n ≤ 1000000) :
    Calls Try.prog 15 #[.slice A n c, .slice B n d] w fun e w' => e = .returned (.bool true) ∧ ∃ q, w' = w.drewN q := by
  have H1 : ((n : Int) != (n : Int)) = false := by simp
  have HN := Lib.hid hN
  have HA := Lib.hid ha
  have HB := Lib.hid hb
  clear hN ha hb
  go_enter Try.func15, Try.ntmps15
  go_wp2_with fail
  go_loopw [5] (fun i wr => ∃ k m : Nat, k ≤ n ∧ i = .int .i64 k ∧ wr = w.drewN m) (fun i _ => n - (intOf i).toNat)
  case atStart => exact ⟨0, 0, Nat.zero_le _, rfl, rfl⟩
  case round =>
    obtain ⟨k, m, hk, rfl, rfl⟩ := hrel
    by_cases hlt : k < n
    · obtain ⟨b, off, rfl, hb1, hc⟩ := HA.out.s (by rw [HN.out]; omega)
      obtain ⟨b2, off2, rfl, hb2, hc2⟩ := HB.out.s (by rw [HN.out]; omega)
      have hkx : k < xs.length := by rw [HN.out]; exact hlt
      obtain ⟨f0, f1, f2, f3⟩ := hc k xs[k] (List.getElem?_eq_getElem hkx)
      obtain ⟨g0, g1, g2, g3⟩ := hc2 k xs[k] (List.getElem?_eq_getElem hkx)
      generalize xs[k] = s at *
      obtain ⟨v, dd, bl, st⟩ := s
      have k1 := sl_held
      have k2 := sl_guard
      have hq0 : (v == v) = true := by simp
      have hq1 : (dd == dd) = true := by simp
      have hq2 : (bl == bl) = true := by simp
      have hq3 : (st == st) = true := by simp
      clear hc hc2
      go_wp2_with fail
      go_quiet (fail)
      go_wp2_with fail
      go_roundw
      case rel => exact ⟨k + 1, _, by omega, by go_num, rfl⟩
      case measure => simp [intOf]; omega
    · go_wp2_with fail
      go_ret
      exact ⟨rfl, m, rfl⟩

end Go.Proofs.Ytpiffapnbjnjiaa
