/-
  relocate: Copy of a mover (block.Copy).
-/
import Derived.Test.YtpcjdmbnlhjlaaaRelF
namespace Go.Proofs.Ytpcjdmbnlhjlaaa
set_option linter.unusedVariables false
open Go.RowKit
attribute [local go_sem] Oper.semAt_some m_size m_read m_write m_flush

theorem cpOne_len (S : DS) (n j : Nat) : (cpOne S n j).2.log.length ≤ S.log.length + 1 ∧ (cpOne S n j).2.wr ≤ S.wr + 1 := by
  unfold cpOne
  split
  · exact ⟨Nat.le_succ _, by show S.wr ≤ S.wr + 1; omega⟩
  · exact ⟨swrite_log _ _ _ _ _, swrite_wr _ _ _ _ _⟩
theorem cpyTo_len (S : DS) (n a k : Nat) : (cpyTo S n a k).2.log.length ≤ S.log.length + k ∧ (cpyTo S n a k).2.wr ≤ S.wr + k := by
  induction k with
  | zero => exact ⟨Nat.le_refl _, by show S.wr ≤ S.wr + 0; omega⟩
  | succ k ih =>
    rw [cpyTo]
    split
    · exact ⟨by omega, by push_cast; omega⟩
    · have := cpOne_len (cpyTo S n a k).2 n (a + k)
      exact ⟨by omega, by push_cast; omega⟩

def CopyP (W : World) (Fm : Nat → Prop) (g s0 s1 m n : Nat) (p : Int × DS) (ext done : Nat) (cp : Bool) (e : Ending) (W' : World) : Prop :=
  e = .returned (.int .i64 p.1) ∧ ∃ Fm', MovAt W' Fm' g s0 s1 m n p.2 ext done cp ∧ Turn Fm Fm' W W'

set_option maxRecDepth 100000 in
set_option maxHeartbeats 4000000 in
theorem bcopy_any (W : World) (F Fm : Nat → Prop) (g s0 s1 m n : Nat) (S : DS) (ext done : Nat) (cp : Bool) (h : MovIn W F Fm g s0 s1 m n S ext done cp) (a k : Nat) (hk : a + k ≤ n) (hn : n ≤ 65536) (hlog : S.log.length ≤ 800000) (hwr : S.wr ≤ 800000000) :
    Calls Try.prog 37 #[.iface 114 (.pointer (some ⟨s0, 0, none⟩)), .iface 114 (.pointer (some ⟨s1, 0, none⟩)), .int .i64 (a : Int), .int .i64 (k : Int)] W (CopyP W Fm g s0 s1 m n (cpyTo S n a k) ext done cp) := by
  have HH := Lib.hid h
  have HI : Hid (insB (n : Int) (a : Int) (k : Int) = true) := by show _ = _; unfold insB; exact decide_eq_true (by omega)
  clear h
  go_enter Try.func37, Try.ntmps37
  go_wp2_with (first
    | (go_at_call 92; first | (refine (ssize_any _ s0 g 0 n HH.out.sp0).mono ?_; rintro e w' ⟨rfl, rfl⟩) | (refine (ssize_any _ s1 g 1 n HH.out.sp1).mono ?_; rintro e w' ⟨rfl, rfl⟩))
    | (go_at_call 51; refine (inside_any (n : Int) (a : Int) (k : Int) _ (by omega) (by omega)).mono ?_; rintro e w' ⟨rfl, rfl⟩; rw [HI.out]))
  go_loopw [27] (fun s wx => ∃ (i : Nat) (Fx Fy : Nat → Prop), s = .int .i64 i ∧ i ≤ k ∧ (cpyTo S n a i).1 = 0 ∧ MovIn wx Fx Fy g s0 s1 m n (cpyTo S n a i).2 ext done cp ∧ Turn Fm Fy W wx) (fun s _ => k - (intOf s).toNat)
  case atStart => exact ⟨0, F, Fm, rfl, Nat.zero_le _, rfl, HH.out, Turn.refl _ _⟩
  case round =>
    rename World => wx
    clear HH
    obtain ⟨i, Fx, Fy, rfl, hi, h0, hm, ht⟩ := hrel
    have HM := Lib.hid hm
    have HT := Lib.hid ht
    have H0 := Lib.hid h0
    have hlen := cpyTo_len S n a i
    by_cases hlt : i < k
    · have t1 : (i : Int) < (k : Int) := by omega
      have e1 : IntKind.i64.wrap ((a : Int) + (i : Int)) = ((a + i : Nat) : Int) := by rw [IntWalk.i64_in _ (by omega)]; rfl
      have hc1 : ∀ S1 : DS, cpOne S1 n (a + i) = if S1.sE 0 n ((a + i : Nat) : Int) ≠ 0 then (S1.sE 0 n ((a + i : Nat) : Int), S1) else (S1.swE 1 n ((a + i : Nat) : Int), S1.swrite 1 n ((a + i : Nat) : Int) (S1.sread 0 n ((a + i : Nat) : Int))) := fun S1 => rfl
      have HC1 := Lib.hid hc1
      have HN : Hid (cpyTo S n a (i + 1) = cpOne (cpyTo S n a i).2 n (a + i)) := by show _ = _; rw [cpyTo, if_neg (by rw [H0.out]; decide)]
      clear hm ht h0 hc1
      generalize ((a + i : Nat) : Int) = J at *
      generalize (cpyTo S n a i).2 = S1 at *
      go_wp2_with fail
      refine (sread_any wx Fx g s0 0 n S1 J HM.out.dsk HM.out.sp0 hn).mono ?_
      rintro e w1 ⟨rfl, hb1⟩
      have HM1 := Lib.hid (HM.out.keep hb1)
      have HT1 := Lib.hid (HT.out.trans (Turn.of_below hb1))
      have hrl : S1.sread 0 n J < 18446744073709551616 := sread_lt HM.out.dsk
      clear hb1 HM HT
      by_cases hs : S1.sE 0 n J = 0
      · have t2 : (S1.sE 0 n J == 0) = true := by simpa using hs
        have HC : Hid (cpOne S1 n (a + i) = (S1.swE 1 n J, S1.swrite 1 n J (S1.sread 0 n J))) := by show _ = _; rw [HC1.out, if_neg (by rw [hs]; decide)]
        clear hs
        generalize S1.sread 0 n J = v at *
        go_wp2_with fail
        refine (swrite_any w1 Fx g s1 1 n S1 J v HM1.out.dsk HM1.out.sp1 HM1.out.n1 hn hrl (by omega) (by omega)).mono ?_
        rintro e w2 ⟨rfl, F2, hd2, ht2⟩
        have HM2 := Lib.hid (HM1.out.turn hd2 ht2)
        have HT2 := Lib.hid (HT1.out.trans (HM1.out.wide ht2))
        clear hd2 ht2 HM1 HT1
        by_cases hw : S1.swE 1 n J = 0
        · have t3 : (S1.swE 1 n J != 0) = false := by simpa using hw
          have HW := Lib.hid hw
          clear hw
          go_wp2_with fail
          go_roundw
          case rel => exact ⟨i + 1, F2, _, by go_num, by omega, by rw [HN.out, HC.out]; exact HW.out, by rw [HN.out, HC.out]; exact HM2.out, HT2.out⟩
          case measure => simp [intOf]; omega
        · have t3 : (S1.swE 1 n J != 0) = true := by simpa using hw
          have HS : Hid (cpyTo S n a k = (S1.swE 1 n J, S1.swrite 1 n J v)) := by
            show _ = _
            have := cpy_stuck S n a (i + 1) (by rw [HN.out, HC.out]; exact hw) (k - (i + 1))
            rw [show i + 1 + (k - (i + 1)) = k by omega, HN.out, HC.out] at this
            exact this
          clear hw
          go_wp2_with fail
          go_ret
          rw [HS.out]
          exact ⟨rfl, _, ⟨_, HM2.out⟩, HT2.out⟩
      · have t2 : (S1.sE 0 n J == 0) = false := by simpa using hs
        have t3 : (S1.sE 0 n J != 0) = true := by simpa using hs
        have HS : Hid (cpyTo S n a k = (S1.sE 0 n J, S1)) := by
          show _ = _
          have hc : cpOne S1 n (a + i) = (S1.sE 0 n J, S1) := by rw [HC1.out, if_pos hs]
          have := cpy_stuck S n a (i + 1) (by rw [HN.out, hc]; exact hs) (k - (i + 1))
          rw [show i + 1 + (k - (i + 1)) = k by omega, HN.out, hc] at this
          exact this
        clear hs
        go_wp2_with fail
        go_ret
        rw [HS.out]
        exact ⟨rfl, _, ⟨_, HM1.out⟩, HT1.out⟩
    · have hik : i = k := by omega
      subst hik
      clear hm ht h0
      go_wp2_with fail
      go_ret
      exact ⟨by rw [H0.out]; rfl, _, ⟨_, HM.out⟩, HT.out⟩

end Go.Proofs.Ytpcjdmbnlhjlaaa
