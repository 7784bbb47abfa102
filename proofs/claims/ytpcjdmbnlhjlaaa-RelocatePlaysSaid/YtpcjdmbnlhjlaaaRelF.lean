/-
  relocate: Write, Copy and Open of a mover.
-/
import Derived.Test.YtpcjdmbnlhjlaaaRelB
import Derived.Deep.DeepCutAuto
namespace Go.Proofs.Ytpcjdmbnlhjlaaa
set_option linter.unusedVariables false
open Go.RowKit
attribute [local go_sem] Oper.semAt_some m_size m_read m_write m_flush

theorem rwrite_no (W : World) (F Fm : Nat → Prop) (g s0 s1 m n : Nat) (S : DS) (ext done : Nat) (cp : Bool) (h : MovIn W F Fm g s0 s1 m n S ext done cp) (a : Int) (v : Nat) (ha : a < 0 ∨ (n : Int) ≤ a) :
    Calls Try.prog 15 #[.pointer (some ⟨m, 0, none⟩), .int .i64 a, .int .u64 (v : Int)] W fun e w' => e = .returned (.int .i64 1) ∧ W = w' := by
  by_cases h1 : a < 0
  · go_enter Try.func15, Try.ntmps15
    go_wp2_with fail
    go_ret
    exact ⟨rfl, rfl⟩
  · have h2 : (n : Int) ≤ a := by omega
    go_enter Try.func15, Try.ntmps15
    go_wp2_with fail
    refine (rsize_any W F Fm g s0 s1 m n S ext done cp h).mono ?_
    rintro e w' ⟨rfl, rfl⟩
    go_wp2_with fail
    go_ret
    exact ⟨rfl, rfl⟩

set_option maxRecDepth 100000 in
set_option maxHeartbeats 4000000 in
theorem rwrite_any (W : World) (F Fm : Nat → Prop) (g s0 s1 m n : Nat) (S : DS) (ext done : Nat) (cp : Bool) (h : MovIn W F Fm g s0 s1 m n S ext done cp) (a v : Nat) (he : 1 ≤ ext) (ha : a < n) (hn : n ≤ 65536) (hv : v < 18446744073709551616) (hlog : S.log.length < 900000) (hwr : S.wr ≤ 900000000) :
    Calls Try.prog 15 #[.pointer (some ⟨m, 0, none⟩), .int .i64 (a : Int), .int .u64 (v : Int)] W (MovP W Fm g s0 s1 m n (mwE S n ext done a) (mwS S n ext done cp a v) ext done (mwC S n ext done cp a v)) := by
  have HH := Lib.hid h
  have t1 : ¬ (a : Int) < 0 := by omega
  have t2 : ¬ (n : Int) ≤ (a : Int) := by omega
  clear h
  go_enter Try.func15, Try.ntmps15
  go_upto_region 3 with (refine (rsize_any W F Fm g s0 s1 m n S ext done cp HH.out).mono ?_; rintro e w' ⟨rfl, rfl⟩)
  go_cut [7] (fun s7 wx => s7 = .int .i64 (mwE S n ext done a) ∧ ∃ F1, MovIn wx F1 (fun j => Fm j ∨ F1 j) g s0 s1 m n (S.swrite (plc ext done a) n (a : Int) v) ext done cp ∧ Turn Fm (fun j => Fm j ∨ F1 j) W wx)
  case first =>
    rcases plc_01 ext done a with hp | hp
    · have hat := rat_any W F Fm g s0 s1 m n S ext done cp HH.out a he (by omega)
      have HP := Lib.hid hp
      rw [hp] at hat
      rw [if_neg (by decide)] at hat
      unfold spanV at hat
      have HAT := Lib.hid hat
      clear hat hp
      go_wp2_with fail
      refine HAT.out.mono ?_
      rintro e w1 ⟨rfl, hb1⟩
      have HB1 := Lib.hid hb1
      have HH1 := Lib.hid (HH.out.keep hb1)
      clear hb1
      go_wp2_with fail
      refine (swrite_any w1 F g s0 0 n S (a : Int) v HH1.out.dsk HH1.out.sp0 HH1.out.n0 hn hv (by omega) (by omega)).mono ?_
      rintro e w2 ⟨rfl, F2, hd2, ht2⟩
      have HM := Lib.hid (HH1.out.turn hd2 ht2)
      have HT := Lib.hid ((Turn.of_below (F := Fm) HB1.out).trans (HH1.out.wide ht2))
      clear hd2 ht2
      go_wp2_with fail
      go_meet
      case rel => exact ⟨by unfold mwE; rw [HP.out], F2, by rw [HP.out]; exact HM.out, HT.out⟩
    · have hat := rat_any W F Fm g s0 s1 m n S ext done cp HH.out a he (by omega)
      have HP := Lib.hid hp
      rw [hp] at hat
      rw [if_pos rfl] at hat
      unfold spanV at hat
      have HAT := Lib.hid hat
      clear hat hp
      go_wp2_with fail
      refine HAT.out.mono ?_
      rintro e w1 ⟨rfl, hb1⟩
      have HB1 := Lib.hid hb1
      have HH1 := Lib.hid (HH.out.keep hb1)
      clear hb1
      go_wp2_with fail
      refine (swrite_any w1 F g s1 1 n S (a : Int) v HH1.out.dsk HH1.out.sp1 HH1.out.n1 hn hv (by omega) (by omega)).mono ?_
      rintro e w2 ⟨rfl, F2, hd2, ht2⟩
      have HM := Lib.hid (HH1.out.turn hd2 ht2)
      have HT := Lib.hid ((Turn.of_below (F := Fm) HB1.out).trans (HH1.out.wide ht2))
      clear hd2 ht2
      go_wp2_with fail
      go_meet
      case rel => exact ⟨by unfold mwE; rw [HP.out], F2, by rw [HP.out]; exact HM.out, HT.out⟩
  case rest =>
    obtain ⟨rfl, F1, hm1, ht1⟩ := hcut
    have HM1 := Lib.hid hm1
    have HT1 := Lib.hid ht1
    obtain ⟨x0, x1, x2, x3, x4⟩ := hm1.cells
    clear hm1 ht1
    go_upto_region 4 with (fail)
    go_cut [42] (fun s42 wx => s42 = .bool (mwB S n ext done cp a) ∧ ∃ q, wx = wc.drewN q)
    case first =>
      have e1 := div_wrap a ext (by omega)
      have t0 : ¬ (ext : Int) = 0 := by omega
      by_cases hE : mwE S n ext done a = 0
      · have t3 : (mwE S n ext done a == 0) = true := by simpa using hE
        cases cp
        · have HQ : Hid (mwB S n ext done false a = false) := by show _ = _; unfold mwB; simp
          clear hE
          go_wp2_with fail
          go_quiet (fail)
          go_wp2_with fail
          go_meet
          case rel => exact ⟨by rw [HQ.out], _, rfl⟩
        · by_cases hq : a / ext = done
          · have HQ : Hid (mwB S n ext done true a = true) := by show _ = _; unfold mwB; simp [hE, hq]
            have t4 : (((a / ext : Nat) : Int) == (done : Int)) = true := by simp; omega
            generalize a / ext = q at *
            clear hE hq
            go_wp2_with fail
            go_quiet (fail)
            go_wp2_with fail
            go_meet
            case rel => exact ⟨by rw [HQ.out], _, rfl⟩
          · have HQ : Hid (mwB S n ext done true a = false) := by show _ = _; unfold mwB; simp [hq]
            have t4 : (((a / ext : Nat) : Int) == (done : Int)) = false := by simp; omega
            generalize a / ext = q at *
            clear hE hq
            go_wp2_with fail
            go_quiet (fail)
            go_wp2_with fail
            go_meet
            case rel => exact ⟨by rw [HQ.out], _, rfl⟩
      · have t3 : (mwE S n ext done a == 0) = false := by simpa using hE
        have HQ : Hid (mwB S n ext done cp a = false) := by show _ = _; unfold mwB; simp [hE]
        clear hE
        go_wp2_with fail
        go_quiet (fail)
        go_wp2_with fail
        go_meet
        case rel => exact ⟨by rw [HQ.out], _, rfl⟩
    case rest =>
      obtain ⟨rfl, q, rfl⟩ := hcut
      have HM3 := Lib.hid (HM1.out.keep (below_drewN (Below.refl _ _) q))
      have HT3 := Lib.hid (HT1.out.trans (Turn.of_below (below_drewN (Below.refl _ _) q)))
      clear x0 x1 x2 x3 x4 HM1 HT1
      generalize wc.drewN q = w3 at *
      obtain ⟨x0, x1, x2, x3, x4⟩ := HM3.out.cells
      have hl1 := swrite_log S (plc ext done a) n (a : Int) v
      have hl2 := swrite_wr S (plc ext done a) n (a : Int) v
      rcases hB : mwB S n ext done cp a with _ | _
      · have HS : Hid (mwS S n ext done cp a v = S.swrite (plc ext done a) n (a : Int) v) := by show _ = _; unfold mwS; rw [hB, if_neg (by decide)]
        have HC : Hid (mwC S n ext done cp a v = cp) := by show _ = _; unfold mwC; rw [hB, if_neg (by decide)]
        clear hB
        go_wp2_with fail
        go_ret
        exact ⟨rfl, _, ⟨_, by rw [HS.out, HC.out]; exact HM3.out⟩, HT3.out⟩
      · have HS : Hid (mwS S n ext done cp a v = (S.swrite (plc ext done a) n (a : Int) v).swrite 1 n (a : Int) v) := by show _ = _; unfold mwS; rw [hB, if_pos rfl]
        have HC : Hid (mwC S n ext done cp a v = decide ((S.swrite (plc ext done a) n (a : Int) v).swE 1 n (a : Int) = 0)) := by show _ = _; unfold mwC; rw [hB, if_pos rfl]
        clear hB
        generalize S.swrite (plc ext done a) n (a : Int) v = S1 at *
        go_wp2_with fail
        refine (swrite_any w3 F1 g s1 1 n S1 (a : Int) v HM3.out.dsk HM3.out.sp1 HM3.out.n1 hn hv (by omega) (by omega)).mono ?_
        rintro e w4 ⟨rfl, F4, hd4, ht4⟩
        have hm4 := HM3.out.turn hd4 ht4
        have HT4 := Lib.hid (HT3.out.trans (HM3.out.wide ht4))
        have c4 := hm4.mov.free 4
        have HM5 := Lib.hid (hm4.setC (decide (S1.swE 1 n (a : Int) = 0)))
        have him : Fm m ∨ F1 m := HM3.out.im
        have HT5 := Lib.hid (HT4.out.set (b := m) (i := 4) (by by_cases hf : Fm m; exact .inl hf; exact .inr (by have := (HT3.out.2 m him).resolve_left hf; exact this)) (.bool (decide (S1.swE 1 n (a : Int) = 0))))
        obtain ⟨z0, z1, z2, z3, z4⟩ := hm4.cells
        clear hm4 hd4 ht4 x0 x1 x2 x3 x4
        go_wp2_with fail
        go_ret
        exact ⟨rfl, _, ⟨_, by rw [HS.out, HC.out]; exact HM5.out⟩, HT5.out⟩

end Go.Proofs.Ytpcjdmbnlhjlaaa
