/-
  The law RelocatePlays.
-/
import Derived.Test.YtpcjdmbnlhjlaaaRelS
import Derived.Deep.CutBlock
import Derived.Deep.RegionHeld3
import Derived.BigQuiet
import Derived.Deep.QuietTactic
namespace Go.Proofs.Ytpcjdmbnlhjlaaa
set_option linter.unusedVariables false
open Go.RowKit
attribute [local go_sem] Oper.semAt_some

theorem u64_nat (v : Nat) (h : v < 18446744073709551616) : IntKind.u64.wrap (v : Int) = (v : Int) := by
  have : IntKind.u64.wrap (v : Int) = (v : Int) % 18446744073709551616 := by simp [IntKind.wrap, IntKind.signed, IntKind.bits]
  omega

theorem u64_nat' (v : Int) (h0 : 0 ≤ v) (h : v < 18446744073709551616) : IntKind.u64.wrap v = v := by
  obtain ⟨n, rfl⟩ : ∃ n : Nat, v = (n : Int) := ⟨v.toNat, by omega⟩
  exact u64_nat n (by omega)

set_option maxRecDepth 100000 in
set_option maxHeartbeats 40000000 in
theorem plays34_any (A : Option Addr) (c n0 : Nat) (ls : List Int) (ext0 done0 : Int) (W : World) (hn : ls.length = n0) (hA : Reads W A (iv ls)) (hw : I64 ls) (hc : n0 ≤ c) :
    Calls Try.prog 3 #[.slice A n0 c, .int .i64 ext0, .int .i64 done0] W fun e W' => e = .returned (.bool true) ∧ Below W.heap.size W W' := by
  go_enter Try.func3, Try.ntmps3
  go_wp2_with fail
  refine (new_any A n0 c ls W hn hA hw hc).mono ?_
  rintro e W1 ⟨rfl, hs1, hb1, hsz1⟩
  go_wp2_with fail
  refine (range_any W.heap.size 1 4 W1 hs1 (by omega) (by omega) (by omega)).mono ?_
  rintro e W2 ⟨nn, rfl, hn1, hn4, hs2, hg2⟩
  obtain ⟨n, rfl⟩ : ∃ n : Nat, nn = (n : Int) := ⟨nn.toNat, by omega⟩
  have HB2 := Lib.hid (gb_Below hb1 hg2 hb1.size (Nat.le_refl _))
  clear hs1 hb1 hg2 hsz1 hn hA hw hc
  go_wp2_with fail
  refine (n_any W.heap.size 5 W2 hs2 (by omega) (by omega)).mono ?_
  rintro e W3 ⟨r3, rfl, hr3, hr3', hs3, hg3⟩
  have HB3 := Lib.hid (gb_Below HB2.out hg3 HB2.out.size (Nat.le_refl _))
  have HS3 := Lib.hid hs3
  clear hs2 hg3 hs3 HB2
  go_upto_if 29 with (fail)
  go_cut [1, 2] (fun s1 s2 wx => ∃ ext done : Int, s1 = .int .i64 ext ∧ s2 = .int .i64 done ∧ SrcAt wx W.heap.size ∧ Below W.heap.size W wx)
  case first =>
    by_cases h3 : 0 < r3
    · go_wp2_with fail
      refine (range_any W.heap.size 1 4 W3 HS3.out (by omega) (by omega) (by omega)).mono ?_
      rintro e W4 ⟨x, rfl, hx1, hx4, hs4, hg4⟩
      have HB4 := Lib.hid (gb_Below HB3.out hg4 HB3.out.size (Nat.le_refl _))
      go_wp2_with fail
      refine (n_any W.heap.size ((n : Int) + 1) W4 hs4 (by omega) (by omega)).mono ?_
      rintro e W5 ⟨y, rfl, hy1, hy4, hs5, hg5⟩
      have HB5 := Lib.hid (gb_Below HB4.out hg5 HB4.out.size (Nat.le_refl _))
      go_wp2_with fail
      go_meet
      case rel => exact ⟨x, y, rfl, rfl, hs5, HB5.out⟩
    · go_wp2_with fail
      go_meet
      case rel => exact ⟨ext0, done0, rfl, rfl, HS3.out, HB3.out⟩
  case rest =>
    obtain ⟨ext, done, rfl, rfl, hs4, hb4⟩ := hcut
    clear HS3 HB3
    go_wp2_with fail
    refine (range_any W.heap.size 1 4 wc hs4 (by omega) (by omega) (by omega)).mono ?_
    rintro e W5 ⟨r5, rfl, hr5, hr5', hs5, hg5⟩
    have HB5 := Lib.hid (gb_Below hb4 hg5 hb4.size (Nat.le_refl _))
    have HS5 := Lib.hid hs5
    obtain ⟨q5, rfl⟩ : ∃ q : Nat, r5 = (q : Int) := ⟨r5.toNat, by omega⟩
    have hm1 : 1 ≤ n * q5 := Nat.mul_le_mul (show 1 ≤ n by omega) (show 1 ≤ q5 by omega)
    have hm2 : n * q5 ≤ 4 * 4 := Nat.mul_le_mul (show n ≤ 4 by omega) (show q5 ≤ 4 by omega)
    have em : IntKind.i64.wrap ((n : Int) * (q5 : Int)) = ((n * q5 : Nat) : Int) := by rw [← Int.natCast_mul]; generalize n * q5 = z at *; rw [IntWalk.i64_in _ (by omega)]
    clear hs4 hb4 hs5 hg5
    generalize n * q5 = z5 at *
    go_upto_region 7 with (fail)
    go_cut [45] (fun s45 wx => ∃ b : Bool, s45 = .bool b ∧ (b = true → 0 < ext ∧ ext < 5) ∧ wx = W5)
    case first =>
      by_cases h1 : 0 < ext
      · by_cases h2 : ext < 5
        · go_wp2_with fail
          go_meet
          case rel => exact ⟨true, rfl, fun _ => ⟨h1, h2⟩, rfl⟩
        · go_wp2_with fail
          go_meet
          case rel => exact ⟨false, rfl, (fun e => by cases e), rfl⟩
      · go_wp2_with fail
        go_meet
        case rel => exact ⟨false, rfl, (fun e => by cases e), rfl⟩
    case rest =>
    obtain ⟨b45, rfl, hb45, rfl⟩ := hcut
    go_upto_if 45 with (fail)
    go_cut [9] (fun s9 wx => ∃ z : Nat, s9 = .int .i64 z ∧ 1 ≤ z ∧ z ≤ 16 ∧ wx = wc)
    case first =>
      cases b45
      · go_wp2_with fail
        go_meet
        case rel => exact ⟨z5, rfl, hm1, hm2, rfl⟩
      · obtain ⟨h1, h2⟩ := hb45 rfl
        obtain ⟨x, rfl⟩ : ∃ x : Nat, ext = (x : Int) := ⟨ext.toNat, by omega⟩
        have hm3 : 1 ≤ n * x := Nat.mul_le_mul (show 1 ≤ n by omega) (show 1 ≤ x by omega)
        have hm4 : n * x ≤ 4 * 4 := Nat.mul_le_mul (show n ≤ 4 by omega) (show x ≤ 4 by omega)
        have em2 : IntKind.i64.wrap ((n : Int) * (x : Int)) = ((n * x : Nat) : Int) := by rw [← Int.natCast_mul]; generalize n * x = z at *; rw [IntWalk.i64_in _ (by omega)]
        generalize n * x = z6 at *
        go_wp2_with fail
        go_meet
        case rel => exact ⟨z6, rfl, hm3, hm4, rfl⟩
    case rest =>
      obtain ⟨z, rfl, hz1, hz2, rfl⟩ := hcut
      clear em hm1 hm2 hb45
      go_upto_region 9 with (fail)
      go_cut [10, 11] (fun s10 s11 wx => ∃ pb : Nat, s10 = .pointer (some ⟨pb, 0, none⟩) ∧ s11 = .bool true ∧ Below W.heap.size W wx ∧ (wx.cell? ⟨pb, 2, none⟩ = some (.pointer none) ∨ ∃ (k : Bl) (Fm : Nat → Prop) (x d : Nat) (S : DS) (old new : List Nat), pb = k.pb ∧ x ≤ z ∧ PY W wx Fm k z S x d false old new 0))
      case first =>
        --DONE{
        as_aux_lemma =>
          go_wp2_with fail
          refine (n_any W.heap.size 20 wc HS5.out (by omega) (by omega)).mono ?_
          rintro e W6 ⟨r6, rfl, hr6, hr6', hs6, hg6⟩
          have HB6 := Lib.hid (gb_Below HB5.out hg6 HB5.out.size (Nat.le_refl _))
          have HS6 := Lib.hid hs6
          obtain ⟨q6, rfl⟩ : ∃ q : Nat, r6 = (q : Int) := ⟨r6.toNat, by omega⟩
          have ed : IntKind.i64.wrap ((q6 : Int) / 19) = ((q6 / 19 : Nat) : Int) := div_wrap q6 19 (by omega)
          have hd1 : q6 / 19 ≤ 1 := by omega
          have ea : IntKind.i64.wrap ((z : Int) + ((q6 / 19 : Nat) : Int)) = ((z + q6 / 19 : Nat) : Int) := by rw [IntWalk.i64_in _ (by omega)]; rfl
          clear hs6 hg6 HB5 HS5
          generalize hzo : z + q6 / 19 = zo at *
          have hzo1 : 1 ≤ zo ∧ zo ≤ 17 := by omega
          clear hzo
          generalize q6 / 19 = d6 at *
          have hs6l : W.heap.size < W6.heap.size := HS6.out.lt
          go_wp2_with fail
          refine (words2_any zo 3 W6 (by omega)).mono ?_
          rintro e W7 ⟨v7, rfl, ho7, hb7⟩
          obtain ⟨A7, c7, hv7⟩ := own_form ho7
          subst hv7
          have HB7 := Lib.hid (HB6.out.trans (hb7.mono HB6.out.size))
          have HS7 := Lib.hid (HS6.out.keep hb7)
          have HO7 := Lib.hid ho7
          have hs67 := hb7.size
          clear ho7 hb7 HB6 HS6
          go_wp2_with fail
          refine (words2_any z 70 W7 (by omega)).mono ?_
          rintro e W8 ⟨v8, rfl, ho8, hb8⟩
          obtain ⟨A8, c8, hv8⟩ := own_form ho8
          subst hv8
          have HR7 := Lib.hid ((Reads.of_own HO7.out).keep hb8)
          have HB8 := Lib.hid (HB7.out.trans (hb8.mono HB7.out.size))
          have HS8 := Lib.hid (HS7.out.keep hb8)
          have HO8 := Lib.hid ho8
          have hs78 := hb8.size
          clear ho8 hb8 HB7 HS7 HO7
          go_wp2_with fail
          refine (start34_any W8 A7 A8 zo z c7 c8 (wordsL 3 zo) (wordsL 70 z) HR7.out (Reads.of_own HO8.out) (wordsL_length _ _) (wordsL_length _ _) (by omega) (by omega) (wordsL_w _ _) (wordsL_w _ _) ext done).mono ?_
          rintro e W9 ⟨pb, rfl, hb9, hpb, hno, hok⟩
          have HB9 := Lib.hid (HB8.out.trans (hb9.mono HB8.out.size))
          have HS9 := Lib.hid (HS8.out.keep hb9)
          have hs89 := hb9.size
          clear hb9 HB8 HS8 HR7 HO8
          by_cases hop : opE zo z ext done = 0
          · obtain ⟨Fm, g, s0, s1, m, rb, bO, cO, bN, cN, bL, cL, hp⟩ := hok hop
            have hp := hp W.heap.size (by omega)
            obtain ⟨p1, p2, p3, p4, p5, p6⟩ := opE_zero hop
            subst p3
            obtain ⟨x, rfl⟩ : ∃ x : Nat, ext = (x : Int) := ⟨ext.toNat, by omega⟩
            obtain ⟨d, rfl⟩ : ∃ d : Nat, done = (d : Int) := ⟨done.toNat, by omega⟩
            rw [Int.toNat_natCast] at p4 p6
            rw [Int.toNat_natCast, Int.toNat_natCast] at hp
            have hxl : x ≤ zo := Nat.le_of_dvd (by omega) (Nat.dvd_of_mod_eq_zero p4)
            have hdl : zo / x ≤ zo := Nat.div_le_self _ _
            obtain ⟨k, hk⟩ : ∃ k : Bl, k = ⟨pb, g, s0, s1, m, rb, bO, cO, bN, cN, bL, cL⟩ := ⟨_, rfl⟩
            have hP : PY W W9 Fm k zo (DS.full [wordsL 3 zo, wordsL 70 zo]) x d false (wordsL 3 zo) (wordsL 70 zo) 0 := ⟨by rw [hk]; exact ⟨hp, HB9.out, by omega, wordsL_length _ _, wordsL_length _ _, by omega, by omega, by omega⟩, PLS.start zo x d _ _ (wordsL_length _ _) (wordsL_length _ _) (by omega), HS9.out, Nat.le_refl _, Int.le_refl _⟩
            have HE1 : Hid (pb = k.pb) := by show _ = _; rw [hk]
            have HP := Lib.hid hP
            clear hk hP
            go_wp2_with fail
            go_meet
            case rel => exact ⟨pb, rfl, rfl, HB9.out, .inr ⟨k, Fm, x, d, _, _, _, HE1.out, hxl, HP.out⟩⟩
          · have x2 := hno hop
            go_wp2_with fail
            go_meet
            case rel => exact ⟨pb, rfl, rfl, HB9.out, .inl x2⟩
        --}DONE
      case rest =>
        obtain ⟨pb, rfl, rfl, hbw, hpy⟩ := hcut
        clear HB5 HS5
        rcases hpy with x2 | ⟨k, Fm, x, d, S0, old0, new0, rfl, hx, hPY⟩
        · skip
          --DONE{
          as_aux_lemma =>
            go_wp2_with fail
            refine (awake34_any _).mono ?_
            rintro e w1 ⟨rfl, hb1⟩
            go_wp2_with fail
            go_ret
            exact ⟨rfl, hbw.trans (hb1.mono hbw.size)⟩
          --}DONE
        · have HP := Lib.hid hPY
          clear hPY hbw
          obtain ⟨x0, x1, x2, x3, x4, x5⟩ := HP.out.b.cells
          go_wp2_with fail
          refine (n_any W.heap.size 30 _ HP.out.src (by omega) (by omega)).mono ?_
          rintro e V0 ⟨r9, rfl, hr9, hr9', hs9, hg9⟩
          have HP0 := Lib.hid (HP.out.grown hs9 hg9)
          clear HP x0 x1 x2 x3 x4 x5 hs9 hg9
          go_wp2_with fail
          go_loopw [12] (fun s wy => ∃ (j : Nat) (Fm : Nat → Prop) (S : DS) (done : Nat) (cp : Bool) (old new : List Nat), s = .int .i64 j ∧ j ≤ 30 ∧ PY W wy Fm k z S x done cp old new (20 * (30 - j))) (fun s _ => (intOf s).toNat)
          case atStart => exact ⟨r9.toNat, Fm, S0, d, false, old0, new0, by rw [show ((r9.toNat : Nat) : Int) = r9 by omega], by omega, HP0.out.b, HP0.out.pl, HP0.out.src, by have := HP0.out.lg; omega, by have := HP0.out.wr; omega⟩
          case round =>
            rename World => wx
            clear HP0
            obtain ⟨j, Fm, S, done, cp, old, new, rfl, hj, hP⟩ := hrel
            have HP := Lib.hid hP
            clear hP
            by_cases hj0 : 0 < j
            · have t1 : (0 : Int) < (j : Int) := by omega
              have e5 : IntKind.i64.wrap ((j : Int) - 1) = ((j - 1 : Nat) : Int) := by rw [IntWalk.i64_in _ (by omega)]; omega
              have ez : IntKind.i64.wrap ((z : Int) + 2) = (z : Int) + 2 := IntWalk.i64_in _ (by omega)
              go_upto_block 2 with (first
                | (go_at_call 9; refine (n_any W.heap.size 6 w1 HP1.out.src (by omega) (by omega)).mono ?_; rintro e w2 ⟨c2, rfl, hc2, hc2', hs2, hg2⟩; have HP2 := Lib.hid (HP1.out.grown hs2 hg2))
                | (go_at_call 9; refine (n_any W.heap.size ((z : Int) + 2) wx HP.out.src (by omega) (by omega)).mono ?_; rintro e w1 ⟨a1, rfl, ha1, ha1', hs1, hg1⟩; obtain ⟨b1, hb1⟩ : ∃ b1, a1 - 1 = b1 := ⟨_, rfl⟩; have ea1 : IntKind.i64.wrap (a1 - 1) = b1 := (IntWalk.i64_in _ (by omega)).trans hb1; have HP1 := Lib.hid (HP.out.grown hs1 hg1); have HB1 := Lib.hid hb1; clear hb1))
              have hL : 20 * (30 - j) ≤ 600 := by omega
              obtain ⟨q2, rfl⟩ : ∃ q : Nat, c2 = (q : Int) := ⟨c2.toNat, by omega⟩
              have HP := HP2
              clear HP1 HP2 hs1 hg1 hs2 hg2 ea1
              go_cut [] (fun wy => ∃ (Fm : Nat → Prop) (S : DS) (done : Nat) (cp : Bool) (old new : List Nat), PY W wy Fm k z S x done cp old new (20 * (30 - j) + 20))
              case first =>
                obtain ⟨x0, x1, x2, x3, x4, x5⟩ := HP.out.b.cells
                have hb16 : -1 ≤ b1 ∧ b1 ≤ (z : Int) := by have := HB1.out; omega
                clear HB1
                by_cases q0 : q2 = 0 ∨ q2 = 1
                · skip
                  --DONE{
                  as_aux_lemma =>
                    by_cases hin : b1 < 0 ∨ (z : Int) ≤ b1
                    · rcases q0 with rfl | rfl
                      · go_wp2_with fail
                        refine (HP.out.readno b1 hin).mono ?_
                        rintro e w3 ⟨rfl, rfl⟩
                        go_wp2_with fail
                        refine (HP.out.rreadno b1 hin).mono ?_
                        rintro e w4 ⟨rfl, rfl⟩
                        go_wp2_with fail
                        go_meet
                        case rel => exact ⟨_, _, _, _, _, _, HP.out.mono (by omega)⟩
                      · go_wp2_with fail
                        refine (HP.out.readno b1 hin).mono ?_
                        rintro e w3 ⟨rfl, rfl⟩
                        go_wp2_with fail
                        refine (HP.out.rreadno b1 hin).mono ?_
                        rintro e w4 ⟨rfl, rfl⟩
                        go_wp2_with fail
                        go_meet
                        case rel => exact ⟨_, _, _, _, _, _, HP.out.mono (by omega)⟩
                    · obtain ⟨a, rfl⟩ : ∃ a : Nat, b1 = (a : Int) := ⟨b1.toNat, by omega⟩
                      rcases q0 with rfl | rfl
                      · go_wp2_with fail
                        refine (HP.out.read a (by omega)).mono ?_
                        rintro e w3 ⟨rfl, hp3⟩
                        have HP3 := Lib.hid hp3
                        obtain ⟨y0, y1, y2, y3, y4, y5⟩ := hp3.b.cells
                        clear hp3 x0 x1 x2 x3 x4 x5
                        generalize hrv : (if a / x < done then new else old)[a]?.getD 0 = rv
                        have HRV := Lib.hid hrv
                        clear hrv
                        go_wp2_with fail
                        refine (HP3.out.rread a (by omega)).mono ?_
                        rintro e w4 ⟨rfl, hp4⟩
                        rw [HRV.out]
                        have HP4 := Lib.hid hp4
                        clear hp4 y0 y1 y2 y3 y4 y5
                        go_wp2_with fail
                        go_meet
                        case rel => exact ⟨_, _, _, _, _, _, HP4.out.mono (by omega)⟩
                      · go_wp2_with fail
                        refine (HP.out.read a (by omega)).mono ?_
                        rintro e w3 ⟨rfl, hp3⟩
                        have HP3 := Lib.hid hp3
                        obtain ⟨y0, y1, y2, y3, y4, y5⟩ := hp3.b.cells
                        clear hp3 x0 x1 x2 x3 x4 x5
                        generalize hrv : (if a / x < done then new else old)[a]?.getD 0 = rv
                        have HRV := Lib.hid hrv
                        clear hrv
                        go_wp2_with fail
                        refine (HP3.out.rread a (by omega)).mono ?_
                        rintro e w4 ⟨rfl, hp4⟩
                        rw [HRV.out]
                        have HP4 := Lib.hid hp4
                        clear hp4 y0 y1 y2 y3 y4 y5
                        go_wp2_with fail
                        go_meet
                        case rel => exact ⟨_, _, _, _, _, _, HP4.out.mono (by omega)⟩
                  --}DONE
                · have t0 : ((q2 : Int) == 0) = false := by simp; omega
                  have t1 : ((q2 : Int) == 1) = false := by simp; omega
                  by_cases q1 : q2 = 2 ∨ q2 = 3
                  · skip
                    --DONE{
                    as_aux_lemma =>
                      clear t0 t1 q0
                      by_cases hin : b1 < 0 ∨ (z : Int) ≤ b1
                      · rcases q1 with rfl | rfl
                        · go_upto_region 30 with (go_at_call 9; refine (n_any W.heap.size 100 _ HP.out.src (by omega) (by omega)).mono ?_; rintro e w3 ⟨v3, rfl, hv3, hv3', hs3, hg3⟩; have ev := u64_nat' v3 hv3 (by omega); have HP3 := Lib.hid (HP.out.grown hs3 hg3))
                          obtain ⟨v, rfl⟩ : ∃ v : Nat, v3 = (v : Int) := ⟨v3.toNat, by omega⟩
                          clear HP x0 x1 x2 x3 x4 x5 hs3 hg3 ev
                          obtain ⟨x0, x1, x2, x3, x4, x5⟩ := HP3.out.b.cells
                          go_region_held3 (fun w' => w'.cell? ⟨k.pb, 2, none⟩ = some (.pointer (some ⟨k.m, 0, none⟩)) ∧ w'.cell? ⟨k.pb, 3, none⟩ = some (.pointer (some ⟨k.rb, 0, none⟩)))
                            (first | exact yb | exact yy | exact ⟨x2, x3⟩)
                            (first
                            | (go_at_call 16; refine ((HP3.out.keep (Below.refl _ _).drew).rwriteno b1 v hin).mono ?_; rintro e w5 ⟨rfl, hw5⟩; subst hw5; have yb : w3.drew.cell? ⟨k.pb, 2, none⟩ = some (.pointer (some ⟨k.m, 0, none⟩)) ∧ w3.drew.cell? ⟨k.pb, 3, none⟩ = some (.pointer (some ⟨k.rb, 0, none⟩)) := ⟨HP3.out.b.cells.2.2.1, HP3.out.b.cells.2.2.2.1⟩)
                            | (go_at_call 15; refine ((HP3.out.keep (Below.refl _ _).drew).writeno b1 v hin).mono ?_; rintro e w4 ⟨rfl, hw4⟩; subst hw4; have yy : w3.drew.cell? ⟨k.pb, 2, none⟩ = some (.pointer (some ⟨k.m, 0, none⟩)) ∧ w3.drew.cell? ⟨k.pb, 3, none⟩ = some (.pointer (some ⟨k.rb, 0, none⟩)) := ⟨HP3.out.b.cells.2.2.1, HP3.out.b.cells.2.2.2.1⟩))
                          have HE := Lib.hid (HP3.out.keep (Below.refl _ _).drew)
                          clear yb yy x0 x1 x2 x3 x4 x5
                          go_wp2_with fail
                          go_meet
                          case rel => exact ⟨_, _, _, _, _, _, HE.out.mono (by omega)⟩
                        · go_upto_region 30 with (go_at_call 9; refine (n_any W.heap.size 100 _ HP.out.src (by omega) (by omega)).mono ?_; rintro e w3 ⟨v3, rfl, hv3, hv3', hs3, hg3⟩; have ev := u64_nat' v3 hv3 (by omega); have HP3 := Lib.hid (HP.out.grown hs3 hg3))
                          obtain ⟨v, rfl⟩ : ∃ v : Nat, v3 = (v : Int) := ⟨v3.toNat, by omega⟩
                          clear HP x0 x1 x2 x3 x4 x5 hs3 hg3 ev
                          obtain ⟨x0, x1, x2, x3, x4, x5⟩ := HP3.out.b.cells
                          go_region_held3 (fun w' => w'.cell? ⟨k.pb, 2, none⟩ = some (.pointer (some ⟨k.m, 0, none⟩)) ∧ w'.cell? ⟨k.pb, 3, none⟩ = some (.pointer (some ⟨k.rb, 0, none⟩)))
                            (first | exact yb | exact yy | exact ⟨x2, x3⟩)
                            (first
                            | (go_at_call 16; refine ((HP3.out.keep (Below.refl _ _).drew).rwriteno b1 v hin).mono ?_; rintro e w5 ⟨rfl, hw5⟩; subst hw5; have yb : w3.drew.cell? ⟨k.pb, 2, none⟩ = some (.pointer (some ⟨k.m, 0, none⟩)) ∧ w3.drew.cell? ⟨k.pb, 3, none⟩ = some (.pointer (some ⟨k.rb, 0, none⟩)) := ⟨HP3.out.b.cells.2.2.1, HP3.out.b.cells.2.2.2.1⟩)
                            | (go_at_call 15; refine ((HP3.out.keep (Below.refl _ _).drew).writeno b1 v hin).mono ?_; rintro e w4 ⟨rfl, hw4⟩; subst hw4; have yy : w3.drew.cell? ⟨k.pb, 2, none⟩ = some (.pointer (some ⟨k.m, 0, none⟩)) ∧ w3.drew.cell? ⟨k.pb, 3, none⟩ = some (.pointer (some ⟨k.rb, 0, none⟩)) := ⟨HP3.out.b.cells.2.2.1, HP3.out.b.cells.2.2.2.1⟩))
                          have HE := Lib.hid (HP3.out.keep (Below.refl _ _).drew)
                          clear yb yy x0 x1 x2 x3 x4 x5
                          go_wp2_with fail
                          go_meet
                          case rel => exact ⟨_, _, _, _, _, _, HE.out.mono (by omega)⟩
                      · obtain ⟨a, rfl⟩ : ∃ a : Nat, b1 = (a : Int) := ⟨b1.toNat, by omega⟩
                        rcases q1 with rfl | rfl
                        · go_upto_region 30 with (go_at_call 9; refine (n_any W.heap.size 100 _ HP.out.src (by omega) (by omega)).mono ?_; rintro e w3 ⟨v3, rfl, hv3, hv3', hs3, hg3⟩; have ev := u64_nat' v3 hv3 (by omega); have HP3 := Lib.hid (HP.out.grown hs3 hg3))
                          obtain ⟨v, rfl⟩ : ∃ v : Nat, v3 = (v : Int) := ⟨v3.toNat, by omega⟩
                          clear HP x0 x1 x2 x3 x4 x5 hs3 hg3 ev
                          obtain ⟨x0, x1, x2, x3, x4, x5⟩ := HP3.out.b.cells
                          go_region_held3 (fun w' => w'.cell? ⟨k.pb, 2, none⟩ = some (.pointer (some ⟨k.m, 0, none⟩)) ∧ w'.cell? ⟨k.pb, 3, none⟩ = some (.pointer (some ⟨k.rb, 0, none⟩)))
                            (first | exact yb | exact yy | exact ⟨x2, x3⟩)
                            (first
                            | (go_at_call 16; refine (hm4.rwrite (by omega)).mono ?_; rintro e w5 ⟨rfl, old5, new5, hp5⟩; have yb : w5.cell? ⟨k.pb, 2, none⟩ = some (.pointer (some ⟨k.m, 0, none⟩)) ∧ w5.cell? ⟨k.pb, 3, none⟩ = some (.pointer (some ⟨k.rb, 0, none⟩)) := ⟨hp5.b.cells.2.2.1, hp5.b.cells.2.2.2.1⟩)
                            | (go_at_call 15; refine ((HP3.out.keep (Below.refl _ _).drew).write a v (by omega) (by omega) (by omega)).mono ?_; rintro e w4 ⟨rfl, Fm4, S4, hm4⟩; have yy : w4.cell? ⟨k.pb, 2, none⟩ = some (.pointer (some ⟨k.m, 0, none⟩)) ∧ w4.cell? ⟨k.pb, 3, none⟩ = some (.pointer (some ⟨k.rb, 0, none⟩)) := ⟨hm4.b.cells.2.2.1, hm4.b.cells.2.2.2.1⟩))
                          have HE := Lib.hid hp5
                          clear hp5 hm4 yb yy x0 x1 x2 x3 x4 x5
                          go_wp2_with fail
                          go_meet
                          case rel => exact ⟨_, _, _, _, _, _, HE.out.mono (by omega)⟩
                        · go_upto_region 30 with (go_at_call 9; refine (n_any W.heap.size 100 _ HP.out.src (by omega) (by omega)).mono ?_; rintro e w3 ⟨v3, rfl, hv3, hv3', hs3, hg3⟩; have ev := u64_nat' v3 hv3 (by omega); have HP3 := Lib.hid (HP.out.grown hs3 hg3))
                          obtain ⟨v, rfl⟩ : ∃ v : Nat, v3 = (v : Int) := ⟨v3.toNat, by omega⟩
                          clear HP x0 x1 x2 x3 x4 x5 hs3 hg3 ev
                          obtain ⟨x0, x1, x2, x3, x4, x5⟩ := HP3.out.b.cells
                          go_region_held3 (fun w' => w'.cell? ⟨k.pb, 2, none⟩ = some (.pointer (some ⟨k.m, 0, none⟩)) ∧ w'.cell? ⟨k.pb, 3, none⟩ = some (.pointer (some ⟨k.rb, 0, none⟩)))
                            (first | exact yb | exact yy | exact ⟨x2, x3⟩)
                            (first
                            | (go_at_call 16; refine (hm4.rwrite (by omega)).mono ?_; rintro e w5 ⟨rfl, old5, new5, hp5⟩; have yb : w5.cell? ⟨k.pb, 2, none⟩ = some (.pointer (some ⟨k.m, 0, none⟩)) ∧ w5.cell? ⟨k.pb, 3, none⟩ = some (.pointer (some ⟨k.rb, 0, none⟩)) := ⟨hp5.b.cells.2.2.1, hp5.b.cells.2.2.2.1⟩)
                            | (go_at_call 15; refine ((HP3.out.keep (Below.refl _ _).drew).write a v (by omega) (by omega) (by omega)).mono ?_; rintro e w4 ⟨rfl, Fm4, S4, hm4⟩; have yy : w4.cell? ⟨k.pb, 2, none⟩ = some (.pointer (some ⟨k.m, 0, none⟩)) ∧ w4.cell? ⟨k.pb, 3, none⟩ = some (.pointer (some ⟨k.rb, 0, none⟩)) := ⟨hm4.b.cells.2.2.1, hm4.b.cells.2.2.2.1⟩))
                          have HE := Lib.hid hp5
                          clear hp5 hm4 yb yy x0 x1 x2 x3 x4 x5
                          go_wp2_with fail
                          go_meet
                          case rel => exact ⟨_, _, _, _, _, _, HE.out.mono (by omega)⟩
                    --}DONE
                  · have t2 : ((q2 : Int) == 2) = false := by simp; omega
                    have t3 : ((q2 : Int) == 3) = false := by simp; omega
                    have HP3 := HP
                    clear HP
                    by_cases q3 : q2 = 4
                    · skip
                      --DONE{
                      as_aux_lemma =>
                        subst q3
                        clear t0 t1 t2 t3 q0 q1
                        by_cases hc : cp = true ∨ done = z / x
                        · go_upto_region 33 with (fail)
                          go_region_held3 (fun w' => w'.cell? ⟨k.pb, 2, none⟩ = some (.pointer (some ⟨k.m, 0, none⟩)) ∧ w'.cell? ⟨k.pb, 3, none⟩ = some (.pointer (some ⟨k.rb, 0, none⟩)))
                            (first | exact yb | exact yy | exact ⟨x2, x3⟩)
                            (first
                            | (go_at_call 18; refine (hm4.rcopyno hc).mono ?_; rintro e w5 ⟨rfl, hp5⟩; have yb : w5.cell? ⟨k.pb, 2, none⟩ = some (.pointer (some ⟨k.m, 0, none⟩)) ∧ w5.cell? ⟨k.pb, 3, none⟩ = some (.pointer (some ⟨k.rb, 0, none⟩)) := ⟨hp5.b.cells.2.2.1, hp5.b.cells.2.2.2.1⟩)
                            | (go_at_call 17; refine ((HP3.out.keep (Below.refl _ _).drew).copyno hc).mono ?_; rintro e w4 ⟨rfl, hm4⟩; have yy : w4.cell? ⟨k.pb, 2, none⟩ = some (.pointer (some ⟨k.m, 0, none⟩)) ∧ w4.cell? ⟨k.pb, 3, none⟩ = some (.pointer (some ⟨k.rb, 0, none⟩)) := ⟨hm4.b.cells.2.2.1, hm4.b.cells.2.2.2.1⟩))
                          have HE := Lib.hid hp5
                          clear hp5 hm4 yb yy x0 x1 x2 x3 x4 x5
                          go_wp2_with fail
                          go_meet
                          case rel => exact ⟨_, _, _, _, _, _, HE.out.mono (by omega)⟩
                        · obtain rfl : cp = false := by cases cp; rfl; exact absurd (.inl rfl) hc
                          have hdl : done < z / x := by have := HP3.out.pl.le; omega
                          go_upto_region 33 with (fail)
                          go_region_held3 (fun w' => w'.cell? ⟨k.pb, 2, none⟩ = some (.pointer (some ⟨k.m, 0, none⟩)) ∧ w'.cell? ⟨k.pb, 3, none⟩ = some (.pointer (some ⟨k.rb, 0, none⟩)))
                            (first | exact yb | exact yy | exact ⟨x2, x3⟩)
                            (first
                            | (go_at_call 18; refine (hm4.rcopy hdl).mono ?_; rintro e w5 ⟨rfl, old5, new5, hp5⟩; have yb : w5.cell? ⟨k.pb, 2, none⟩ = some (.pointer (some ⟨k.m, 0, none⟩)) ∧ w5.cell? ⟨k.pb, 3, none⟩ = some (.pointer (some ⟨k.rb, 0, none⟩)) := ⟨hp5.b.cells.2.2.1, hp5.b.cells.2.2.2.1⟩)
                            | (go_at_call 17; refine ((HP3.out.keep (Below.refl _ _).drew).copy hdl (by omega) (by omega)).mono ?_; rintro e w4 ⟨rfl, Fm4, S4, hm4⟩; have yy : w4.cell? ⟨k.pb, 2, none⟩ = some (.pointer (some ⟨k.m, 0, none⟩)) ∧ w4.cell? ⟨k.pb, 3, none⟩ = some (.pointer (some ⟨k.rb, 0, none⟩)) := ⟨hm4.b.cells.2.2.1, hm4.b.cells.2.2.2.1⟩))
                          have HE := Lib.hid hp5
                          clear hp5 hm4 yb yy x0 x1 x2 x3 x4 x5
                          go_wp2_with fail
                          go_meet
                          case rel => exact ⟨_, _, _, _, _, _, HE.out.mono (by omega)⟩
                      --}DONE
                    · have t4 : ((q2 : Int) == 4) = false := by simp; omega
                      --DONE{
                      as_aux_lemma =>
                        clear q0 q1 q3
                        cases cp
                        · go_upto_region 19 with (fail)
                          go_region_held3 (fun w' => w'.cell? ⟨k.pb, 2, none⟩ = some (.pointer (some ⟨k.m, 0, none⟩)) ∧ w'.cell? ⟨k.pb, 3, none⟩ = some (.pointer (some ⟨k.rb, 0, none⟩)))
                            (first | exact yb | exact yy | exact ⟨x2, x3⟩)
                            (first
                            | (go_at_call 20; refine ((HP3.out.keep (Below.refl _ _).drew).radvno).mono ?_; rintro e w5 ⟨rfl, hw5⟩; subst hw5; have yb : w2.drew.cell? ⟨k.pb, 2, none⟩ = some (.pointer (some ⟨k.m, 0, none⟩)) ∧ w2.drew.cell? ⟨k.pb, 3, none⟩ = some (.pointer (some ⟨k.rb, 0, none⟩)) := ⟨HP3.out.b.cells.2.2.1, HP3.out.b.cells.2.2.2.1⟩)
                            | (go_at_call 19; refine ((HP3.out.keep (Below.refl _ _).drew).advno).mono ?_; rintro e w4 ⟨rfl, hw4⟩; subst hw4; have yy : w2.drew.cell? ⟨k.pb, 2, none⟩ = some (.pointer (some ⟨k.m, 0, none⟩)) ∧ w2.drew.cell? ⟨k.pb, 3, none⟩ = some (.pointer (some ⟨k.rb, 0, none⟩)) := ⟨HP3.out.b.cells.2.2.1, HP3.out.b.cells.2.2.2.1⟩))
                          have HE := Lib.hid (HP3.out.keep (Below.refl _ _).drew)
                          clear yb yy x0 x1 x2 x3 x4 x5
                          go_wp2_with fail
                          go_meet
                          case rel => exact ⟨_, _, _, _, _, _, HE.out.mono (by omega)⟩
                        · go_upto_region 19 with (fail)
                          go_region_held3 (fun w' => w'.cell? ⟨k.pb, 2, none⟩ = some (.pointer (some ⟨k.m, 0, none⟩)) ∧ w'.cell? ⟨k.pb, 3, none⟩ = some (.pointer (some ⟨k.rb, 0, none⟩)))
                            (first | exact yb | exact yy | exact ⟨x2, x3⟩)
                            (first
                            | (go_at_call 20; refine (hm4.radv).mono ?_; rintro e w5 ⟨rfl, hp5⟩; have yb : w5.cell? ⟨k.pb, 2, none⟩ = some (.pointer (some ⟨k.m, 0, none⟩)) ∧ w5.cell? ⟨k.pb, 3, none⟩ = some (.pointer (some ⟨k.rb, 0, none⟩)) := ⟨hp5.b.cells.2.2.1, hp5.b.cells.2.2.2.1⟩)
                            | (go_at_call 19; refine ((HP3.out.keep (Below.refl _ _).drew).adv).mono ?_; rintro e w4 ⟨rfl, hm4⟩; have yy : w4.cell? ⟨k.pb, 2, none⟩ = some (.pointer (some ⟨k.m, 0, none⟩)) ∧ w4.cell? ⟨k.pb, 3, none⟩ = some (.pointer (some ⟨k.rb, 0, none⟩)) := ⟨hm4.b.cells.2.2.1, hm4.b.cells.2.2.2.1⟩))
                          have HE := Lib.hid hp5
                          clear hp5 hm4 yb yy x0 x1 x2 x3 x4 x5
                          go_wp2_with fail
                          go_meet
                          case rel => exact ⟨_, _, _, _, _, _, HE.out.mono (by omega)⟩
                      --}DONE
              case rest =>
                as_aux_lemma =>
                  obtain ⟨Fm2, S2, done2, cp2, old2, new2, hpc⟩ := hcut
                  have HPC := Lib.hid hpc
                  clear hpc HP
                  obtain ⟨x0, x1, x2, x3, x4, x5⟩ := HPC.out.b.cells
                  go_wp2_with fail
                  refine (HPC.out.image 0 (by omega)).mono ?_
                  rintro e w5 ⟨A5, c5, rfl, hr5, hb5, hp5⟩
                  have HP5 := Lib.hid hp5
                  have HR5 := Lib.hid hr5
                  clear hp5 hr5 hb5 x0 x1 x2 x3 x4 x5 HPC
                  obtain ⟨x0, x1, x2, x3, x4, x5⟩ := HP5.out.b.cells
                  go_wp2_with fail
                  refine (HP5.out.image 1 (by omega)).mono ?_
                  rintro e w6 ⟨A6, c6, rfl, hr6, hb6, hp6⟩
                  have HP6 := Lib.hid hp6
                  have HR6 : Hid (Reads w6 A6 (uv new2)) := hr6
                  have HR7 : Hid (Reads w6 A5 (uv old2)) := HR5.out.keep hb6
                  clear hp6 hr6 hb6 x0 x1 x2 x3 x4 x5 HP5 HR5
                  obtain ⟨x0, x1, x2, x3, x4, x5⟩ := HP6.out.b.cells
                  obtain ⟨r0, r1, r2, r3, r4⟩ := HP6.out.b.rf.cells
                  have HD : Hid (∀ n, Calls Try.prog 22 #[.pointer (some ⟨k.m, 0, none⟩)] (w6.drewN n) fun e w' => e = .returned (.int .i64 (done2 : Int)) ∧ w' = w6.drewN n) := fun n => (HP6.out.keep (below_drewN (Below.refl _ w6) n)).b.done_.mono fun _ _ h => ⟨h.1, h.2.symm⟩
                  have HC : Hid (∀ n, Calls Try.prog 23 #[.pointer (some ⟨k.m, 0, none⟩)] (w6.drewN n) fun e w' => e = .returned (.bool cp2) ∧ w' = w6.drewN n) := fun n => (HP6.out.keep (below_drewN (Below.refl _ w6) n)).b.copied_.mono fun _ _ h => ⟨h.1, h.2.symm⟩
                  have HS0 : Hid (∀ n, Calls Try.prog 24 #[.slice A5 z c5, .slice (some ⟨k.bO, 0, none⟩) z k.cO] (w6.drewN n) fun e w' => e = .returned (.bool true) ∧ ∃ m, w' = (w6.drewN n).drewN m) := fun n => (same_any' A5 (some ⟨k.bO, 0, none⟩) c5 k.cO z z old2 old2 (w6.drewN n) HP6.out.b.l0 HP6.out.b.l0 (HR7.out.drewN n) ((Reads.of_own HP6.out.b.rf.ownO).drewN n) (by omega) (by omega)).mono fun _ _ h => ⟨by rw [h.1]; simp, h.2⟩
                  have HS1 : Hid (∀ n, Calls Try.prog 24 #[.slice A6 z c6, .slice (some ⟨k.bN, 0, none⟩) z k.cN] (w6.drewN n) fun e w' => e = .returned (.bool true) ∧ ∃ m, w' = (w6.drewN n).drewN m) := fun n => (same_any' A6 (some ⟨k.bN, 0, none⟩) c6 k.cN z z new2 new2 (w6.drewN n) HP6.out.b.l1 HP6.out.b.l1 (HR6.out.drewN n) ((Reads.of_own HP6.out.b.rf.ownN).drewN n) (by omega) (by omega)).mono fun _ _ h => ⟨by rw [h.1]; simp, h.2⟩
                  have n1 : ((done2 : Int) != (done2 : Int)) = false := by simp
                  have n2 : (cp2 != cp2) = false := by cases cp2 <;> rfl
                  go_upto_region 37 with (fail)
                  go_quiet ((first | (go_at_call 22; exact Calls.quiet_of_same (HD.out _)) | (go_at_call 23; exact Calls.quiet_of_same (HC.out _)) | (go_at_call 24; first | with_reducible exact Calls.quiet_of (HS0.out _) | with_reducible exact Calls.quiet_of (HS1.out _))))
                  have HPE := Lib.hid (HP6.out.keep (below_drewN (Below.refl _ w6) nq))
                  clear HP6 HR6 HR7 HD HC HS0 HS1 x0 x1 x2 x3 x4 x5 r0 r1 r2 r3 r4
                  generalize w6.drewN nq = w7 at *
                  go_wp2_with fail
                  go_roundw
                  case rel => exact ⟨j - 1, Fm2, S2, done2, cp2, old2, new2, by go_num, by omega, HPE.out.mono (by omega)⟩
                  case measure => simp [intOf]; omega
            · skip
              --DONE{
              as_aux_lemma =>
                go_wp2_with fail
                refine (awake34_any wx).mono ?_
                rintro e w1 ⟨rfl, hb1⟩
                go_wp2_with fail
                go_ret
                exact ⟨rfl, HP.out.b.bel.trans (hb1.mono HP.out.b.bel.size)⟩
              --}DONE

end Go.Proofs.Ytpcjdmbnlhjlaaa
