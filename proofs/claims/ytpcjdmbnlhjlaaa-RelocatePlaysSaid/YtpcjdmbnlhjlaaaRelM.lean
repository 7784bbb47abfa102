/-
  law34.awake.
-/
import Derived.Test.YtpcjdmbnlhjlaaaRelN
namespace Go.Proofs.Ytpcjdmbnlhjlaaa
set_option linter.unusedVariables false
open Go.RowKit
attribute [local go_sem] Oper.semAt_some m_size m_read m_write m_flush

theorem op4 : opE 4 4 2 0 = 0 := by decide
theorem flush_log (S : DS) (d : Int) : (S.flush d).log.length ≤ S.log.length := by
  unfold DS.flush
  split
  · exact Nat.le_refl _
  · exact others_le _ _
set_option maxRecDepth 100000 in
set_option maxHeartbeats 8000000 in
theorem awake34_any (W : World) : Calls Try.prog 12 #[] W fun e W' => e = .returned (.bool true) ∧ Below W.heap.size W W' := by
  have hmk : ∀ w : World, (Instr.makeSlice 30 (.int .i64 4) (.int .i64 4)).run Try.prog w = .ok (.slice (some ⟨w.heap.size, 0, none⟩) 4 4) (w.alloc (.cells (uv [0, 0, 0, 0]).toArray 32)) := fun w => run_make_u64 4 (by omega) w
  have hw0 : W64 [0, 0, 0, 0] := by intro x hx; simp at hx; omega
  go_enter Try.func12, Try.ntmps12
  go_upto_region 1 with (fail)
  go_cut [1, 2] (fun a1 a2 wx => ∃ pb Fm g s0 s1 m rb bO cO bN cN bL cL, a1 = .pointer (some ⟨pb, 0, none⟩) ∧ a2 = .bool true ∧ P34 W.heap.size wx Fm pb g s0 s1 m rb bO cO bN cN bL cL 4 (DS.full [wordsL 3 4, [0, 0, 0, 0]]) 2 0 false 0 false (wordsL 3 4) [0, 0, 0, 0] ∧ Below W.heap.size W wx ∧ W.heap.size < wx.heap.size)
  case first =>
    go_region_with ((first
      | (go_at_call 11; refine (words2_any 4 3 _ (by omega)).mono ?_; rintro e w1 ⟨v1, rfl, ho1, hb1⟩; obtain ⟨A1, c1, hv1⟩ := own_form ho1; subst hv1)
      | (go_at_call 10; refine Calls.mono (start34_any _ A1 _ 4 4 c1 4 (wordsL 3 4) [0, 0, 0, 0] (by first | exact Reads.of_own ho1 | exact (Reads.of_own ho1).keep ((Below.refl _ _).alloc (Nat.le_refl _) _)) (by first | exact (Reads.new W.drew (uv [0, 0, 0, 0]).toArray 32).keep hb1 | exact Reads.new _ _ _) (wordsL_length 3 4) rfl (by omega) (by omega) (wordsL_w 3 4) hw0 2 0) ?_; rintro e w2 ⟨pb, rfl, hb2, hp2, -, hok⟩)))
    all_goals
      obtain ⟨Fm, g, s0, s1, m, rb, bO, cO, bN, cN, bL, cL, hp⟩ := hok op4
      have hww : Below W.heap.size W w2 ∧ (∃ w : World, W.heap.size < w.heap.size ∧ w.heap.size ≤ w2.heap.size ∧ ∀ lo, lo < w.heap.size → P34 lo w2 Fm pb g s0 s1 m rb bO cO bN cN bL cL 4 (DS.full [wordsL 3 4, [0, 0, 0, 0]]) 2 0 false 0 false (wordsL 3 4) [0, 0, 0, 0]) := by
        first
        | (have k1 : Below W.heap.size W w1 := (Below.refl W.heap.size W).drew.trans hb1
           have k2 : Below W.heap.size W (w1.alloc (.cells (uv [0, 0, 0, 0]).toArray 32)) := k1.alloc k1.size _
           exact ⟨k2.trans (hb2.mono k2.size), _, (by have := k1.size; simp; omega), hb2.size, hp⟩)
        | (have k1 : Below W.heap.size W (W.drew.alloc (.cells (uv [0, 0, 0, 0]).toArray 32)) := (Below.refl W.heap.size W).drew.alloc (Nat.le_refl _) _
           have k2 : Below W.heap.size W w1 := k1.trans (hb1.mono k1.size)
           exact ⟨k2.trans (hb2.mono k2.size), _, (by have := hb1.size; simp at this; omega), hb2.size, hp⟩)
      obtain ⟨hbw, w, hs1, hs2, hp⟩ := hww
      have hp := hp W.heap.size hs1
      clear hok hb1 hb2
      go_wp2_with fail
      go_meet
      case rel => exact ⟨pb, Fm, g, s0, s1, m, rb, bO, cO, bN, cN, bL, cL, rfl, rfl, hp, hbw, by omega⟩
  case rest =>
    obtain ⟨pb, Fm, g, s0, s1, m, rb, bO, cO, bN, cN, bL, cL, rfl, rfl, hp, hbw, hsz⟩ := hcut
    have hP0 : PB W wc Fm ⟨pb, g, s0, s1, m, rb, bO, cO, bN, cN, bL, cL⟩ 4 (DS.full [wordsL 3 4, [0, 0, 0, 0]]) 2 0 false 0 false (wordsL 3 4) [0, 0, 0, 0] := ⟨hp, hbw, hsz, wordsL_length 3 4, rfl, by omega, by omega, by omega⟩
    clear hp hbw hsz
    have q0 := PLS.start 4 2 0 (wordsL 3 4) [0, 0, 0, 0] (wordsL_length 3 4) rfl (by omega)
    have hl0 : (DS.full [wordsL 3 4, [0, 0, 0, 0]]).log.length = 0 := rfl
    have hr0 : (DS.full [wordsL 3 4, [0, 0, 0, 0]]).wr = 0 := rfl
    generalize DS.full [wordsL 3 4, [0, 0, 0, 0]] = S0 at *
    obtain ⟨a1, q1, a2, a3⟩ := q0.copy (by decide)
    obtain ⟨b1, b2, b3, b4, q2⟩ := q1.write 1 9 (by omega)
    have q3 : PLS (mwS (cpS S0 4 2 0) 4 2 0 true 1 9) 4 2 1 false _ _ := q2.next
    rw [if_neg (by decide), if_pos (by decide)] at q3
    obtain ⟨d1, d2⟩ := q3.read 1 (by omega)
    have hlen := q1.lens
    rw [if_pos (by decide), List.getElem?_set_self (by rw [hlen.2]; omega)] at d2
    have d3 : (mwS (cpS S0 4 2 0) 4 2 0 true 1 9).sE 1 4 1 = 0 := (q3.hea.sE (i := 1) rfl 1 (by omega)).trans (by rw [q3.pw.2]; rfl)
    have d4 : (mwS (cpS S0 4 2 0) 4 2 0 true 1 9).sread 1 4 1 = 9 := (q3.hea.sread (i := 1) rfl 1 (by omega) q3.pw.2).trans (by rw [q3.n1, List.getElem?_set_self (by rw [hlen.2]; omega)]; rfl)
    obtain ⟨f1, q4, f3, f4⟩ := q3.flush
    have f5 := flush_log (mwS (cpS S0 4 2 0) 4 2 0 true 1 9) 0
    obtain ⟨k, hk⟩ : ∃ k : Bl, k = ⟨pb, g, s0, s1, m, rb, bO, cO, bN, cN, bL, cL⟩ := ⟨_, rfl⟩
    rw [← hk] at hP0
    have e1 : pb = k.pb := by rw [hk]
    subst e1
    clear hk
    have HP0 := Lib.hid hP0
    obtain ⟨x0, x1, x2, x3, x4, x5⟩ := hP0.cells
    clear hP0 q0 q1 q2 q3
    go_upto_region 4 with (refine (HP0.out.size_).mono ?_; rintro e w' ⟨rfl, rfl⟩)
    go_cut [3, 4, 5] (fun c3 c4 c5 wy => c3 = .int .i64 0 ∧ c4 = .int .i64 0 ∧ c5 = .int .i64 0 ∧ ∃ Fm', PB W wy Fm' k 4 (mwS (cpS S0 4 2 0) 4 2 0 true 1 9) 2 1 false 0 false (wordsL 3 4) [0, 0, 0, 0])
    case first =>
      go_region_held3 (fun w' => w'.cell? ⟨k.pb, 2, none⟩ = some (.pointer (some ⟨k.m, 0, none⟩)))
        (first | exact u2 | exact z2 | exact y2 | exact x2)
        ((first
        | (go_at_call 19; refine (hP2.adv (by omega)).mono ?_; rintro e w3 ⟨rfl, hP3⟩; obtain ⟨u0, u1, u2, u3, u4, u5⟩ := hP3.cells)
        | (go_at_call 15; refine (hP1.write 1 9 (by omega) (by omega) (by omega) (by omega)).mono ?_; rintro e w2 ⟨rfl, Fm2, hP2⟩; rw [b1]; rw [b2] at hP2; obtain ⟨z0, z1, z2, z3, z4, z5⟩ := hP2.cells)
        | (go_at_call 17; refine ((HP0.out.keep (Below.refl _ _).drew).copy (by decide) (by omega) (by omega)).mono ?_; rintro e w1 ⟨rfl, Fm1, hP1⟩; rw [a1]; rw [a1] at hP1; change PB W w1 Fm1 k 4 (cpS S0 4 2 0) 2 0 true 0 false (wordsL 3 4) [0, 0, 0, 0] at hP1; obtain ⟨y0, y1, y2, y3, y4, y5⟩ := hP1.cells)))
      all_goals
        have HP3 := Lib.hid hP3
        clear hP1 hP2 hP3
        go_wp2_with fail
        go_meet
        case rel => exact ⟨rfl, rfl, rfl, _, HP3.out⟩
    case rest =>
      obtain ⟨rfl, rfl, rfl, Fm3, hP3⟩ := hcut
      clear HP0 x0 x1 x2 x3 x4 x5
      obtain ⟨x0, x1, x2, x3, x4, x5⟩ := hP3.cells
      generalize mwS (cpS S0 4 2 0) 4 2 0 true 1 9 = S3 at *
      have HP3 := Lib.hid hP3
      clear hP3 q4
      go_wp2_with fail
      refine (HP3.out.read 1 (by omega)).mono ?_
      rintro e w4 ⟨rfl, hP4⟩
      rw [d1, d2]
      have HP4 := Lib.hid hP4
      clear HP3 x0 x1 x2 x3 x4 x5
      obtain ⟨x0, x1, x2, x3, x4, x5⟩ := hP4.cells
      obtain ⟨F4, hm4⟩ := hP4.p.mov
      clear hP4
      go_wp2_with fail
      refine (sread_any w4 F4 k.g k.s1 1 4 S3 1 hm4.dsk hm4.sp1 (by omega)).mono ?_
      rintro e w5 ⟨rfl, hb5⟩
      rw [d3, d4]
      have HP5 := Lib.hid (HP4.out.keep hb5)
      clear HP4 x0 x1 x2 x3 x4 x5 hm4 hb5
      obtain ⟨x0, x1, x2, x3, x4, x5⟩ := HP5.out.cells
      go_wp2_with (first
        | (go_at_call 22; refine (HP5.out.done_).mono ?_; rintro e w' ⟨rfl, rfl⟩)
        | (go_at_call 23; refine (HP5.out.copied_).mono ?_; rintro e w' ⟨rfl, rfl⟩)
        | (go_at_call 19; refine (HP5.out.advno).mono ?_; rintro e w6 ⟨rfl, hP6⟩; obtain ⟨y0, y1, y2, y3, y4, y5⟩ := hP6.cells)
        | (go_at_call 31; refine (hP6.flush (by omega) (by omega)).mono ?_; rintro e w7 ⟨rfl, Fm7, hP7⟩; rw [f1]))
      go_ret
      exact ⟨rfl, hP7.bel⟩

end Go.Proofs.Ytpcjdmbnlhjlaaa
