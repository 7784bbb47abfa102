/-
  The law RelocateEnds.
-/
import Derived.Test.YtomblhoileglfaaRelQ
import Derived.Deep.CutBlock
namespace Go.Proofs.Ytomblhoileglfaa
set_option linter.unusedVariables false
open Go.RowKit
attribute [local go_sem] Oper.semAt_some

theorem u64_wrap (v : Nat) (h : v < 18446744073709551616) : IntKind.u64.wrap (v : Int) = (v : Int) := by
  have : IntKind.u64.wrap (v : Int) = (v : Int) % 18446744073709551616 := by simp [IntKind.wrap, IntKind.signed, IntKind.bits]
  omega
theorem opE_ok (n x : Nat) (hx : 1 ≤ x) (hx4 : x ≤ 4) : opE (n * x) (n * x) (x : Int) 0 = 0 := by
  unfold opE
  have hq := Int.natCast_nonneg (n * x / x)
  rw [if_neg (by omega), Int.toNat_natCast, if_neg (by rintro (h | h); exact h rfl; exact h (Nat.mul_mod_left n x)), if_neg (by rintro (h | h); omega; omega)]
theorem mul_wrap (a b : Nat) (h : a ≤ 1000) (h2 : b ≤ 1000) : IntKind.i64.wrap ((a : Int) * (b : Int)) = ((a * b : Nat) : Int) := by
  have : a * b ≤ 1000 * 1000 := Nat.mul_le_mul h h2
  rw [← Int.natCast_mul]
  generalize a * b = z at *
  rw [IntWalk.i64_in _ (by omega)]

set_option maxRecDepth 100000 in
set_option maxHeartbeats 40000000 in
theorem ends34_any (A : Option Addr) (c n0 : Nat) (ls : List Int) (W : World) (hn : ls.length = n0) (hA : Reads W A (iv ls)) (hw : I64 ls) (hc : n0 ≤ c) :
    Calls Try.prog 4 #[.slice A n0 c] W fun e W' => e = .returned (.bool true) ∧ Below W.heap.size W W' := by
  go_enter Try.func4, Try.ntmps4
  go_wp2_with fail
  refine (new_any A n0 c ls W hn hA hw hc).mono ?_
  rintro e W1 ⟨rfl, hs1, hb1, hsz1⟩
  go_wp2_with fail
  refine (range_any W.heap.size 1 4 W1 hs1 (by omega) (by omega) (by omega)).mono ?_
  rintro e W2 ⟨nn, rfl, hn1, hn4, hs2, hg2⟩
  obtain ⟨n, rfl⟩ : ∃ n : Nat, nn = (n : Int) := ⟨nn.toNat, by omega⟩
  have HB2 := Lib.hid (gb_Below hb1 hg2 hb1.size (Nat.le_refl _))
  clear hs1 hb1 hg2 hsz1 hn hA hw hc
  go_wp2_with fail
  refine (range_any W.heap.size 1 4 W2 hs2 (by omega) (by omega) (by omega)).mono ?_
  rintro e W3 ⟨xx, rfl, hx1, hx4, hs3, hg3⟩
  obtain ⟨x, rfl⟩ : ∃ x : Nat, xx = (x : Int) := ⟨xx.toNat, by omega⟩
  have HB3 := Lib.hid (gb_Below HB2.out hg3 HB2.out.size (Nat.le_refl _))
  have HS3 := Lib.hid hs3
  have hm1 : 1 ≤ n * x := Nat.mul_le_mul (show 1 ≤ n by omega) (show 1 ≤ x by omega)
  have hm2 : n * x ≤ 4 * 4 := Nat.mul_le_mul (show n ≤ 4 by omega) (show x ≤ 4 by omega)
  have em := mul_wrap n x (by omega) (by omega)
  have hop := opE_ok n x (by omega) (by omega)
  have hdv : n * x / x = n := Nat.mul_div_cancel _ (by omega)
  have HDV := Lib.hid hdv
  have HOP := Lib.hid hop
  have hs3l : W.heap.size < W3.heap.size := HS3.out.lt
  clear hs2 hg3 hs3 HB2 hdv hop
  obtain ⟨N, hN⟩ : ∃ N, n * x = N := ⟨_, rfl⟩
  have HN := Lib.hid hN
  rw [hN] at em hm1 hm2 HDV HOP
  clear hN
  go_upto_region 3 with (fail)
  go_cut [6, 7] (fun s6 s7 wx => ∃ (k : Bl) (Fm : Nat → Prop), s6 = .pointer (some ⟨k.pb, 0, none⟩) ∧ s7 = .bool true ∧ SrcAt wx W.heap.size ∧ PB W wx Fm k N (DS.full [wordsL 3 N, wordsL 80 N]) x 0 false 0 false (wordsL 3 N) (wordsL 80 N))
  case first =>
    --DONE{
    as_aux_lemma =>
      go_wp2_with fail
      refine (words2_any N 3 W3 (by omega)).mono ?_
      rintro e W7 ⟨v7, rfl, ho7, hb7⟩
      obtain ⟨A7, c7, hv7⟩ := own_form ho7
      subst hv7
      have HB7 := Lib.hid (HB3.out.trans (hb7.mono HB3.out.size))
      have HS7 := Lib.hid (HS3.out.keep hb7)
      have HO7 := Lib.hid ho7
      have hs67 := hb7.size
      clear ho7 hb7 HB3 HS3
      go_wp2_with fail
      refine (words2_any N 80 W7 (by omega)).mono ?_
      rintro e W8 ⟨v8, rfl, ho8, hb8⟩
      obtain ⟨A8, c8, hv8⟩ := own_form ho8
      subst hv8
      have HR7 := Lib.hid ((Reads.of_own HO7.out).keep hb8)
      have HB8 := Lib.hid (HB7.out.trans (hb8.mono HB7.out.size))
      have HS8 := Lib.hid (HS7.out.keep hb8)
      have HO8 := Lib.hid ho8
      have hs78 := hb8.size
      clear ho8 hb8 HB7 HS7 HO7
      go_wp2_with fail
      refine (start34_any W8 A7 A8 N N c7 c8 (wordsL 3 N) (wordsL 80 N) HR7.out (Reads.of_own HO8.out) (wordsL_length _ _) (wordsL_length _ _) (by omega) (by omega) (wordsL_w _ _) (wordsL_w _ _) (x : Int) 0).mono ?_
      rintro e W9 ⟨pb, rfl, hb9, hpb, hno, hok⟩
      have HB9 := Lib.hid (HB8.out.trans (hb9.mono HB8.out.size))
      have HS9 := Lib.hid (HS8.out.keep hb9)
      have hs89 := hb9.size
      obtain ⟨Fm, g, s0, s1, m, rb, bO, cO, bN, cN, bL, cL, hp⟩ := hok HOP.out
      have hp := hp W.heap.size (by omega)
      rw [Int.toNat_natCast] at hp
      clear hb9 HB8 HS8 HR7 HO8 hno hok
      go_wp2_with fail
      go_meet
      case rel => exact ⟨⟨pb, g, s0, s1, m, rb, bO, cO, bN, cN, bL, cL⟩, Fm, rfl, rfl, HS9.out, hp, HB9.out, by omega, wordsL_length _ _, wordsL_length _ _, by omega, by omega, by omega⟩
    --}DONE
  case rest =>
    obtain ⟨k, Fm, rfl, rfl, hsr, hpb⟩ := hcut
    have HP := Lib.hid hpb.tight
    have HS := Lib.hid hsr
    obtain ⟨x0, x1, x2, x3, x4, x5⟩ := hpb.cells
    clear hpb hsr HB3 HS3
    go_upto_region 7 with (go_at_call 11; refine (words2_any N 3 wc (by omega)).mono ?_; rintro e w1 ⟨v1, rfl, ho1, hb1⟩; obtain ⟨bW, cW, hv1, hbW, hbWl⟩ := ho1.form (by omega); subst hv1)
    have hE : EY W w1 (fun j => Fm j ∧ j < wc.heap.size) k bW cW N (DS.full [wordsL 3 N, wordsL 80 N]) x 0 false (wordsL 3 N) (wordsL 80 N) (wordsL 3 N) (wordsL 3 N) (wordsL 3 N) (wordsL 80 N) 0 := by
      have hp := HP.out.p
      have hlt := HP.out.lt
      refine ⟨HP.out.keep hb1, PLS.start N x 0 _ _ (wordsL_length _ _) (wordsL_length _ _) (Nat.zero_le _), EN.start N x _ _ (wordsL_length _ _) (wordsL_length _ _), own_lower ho1 (Nat.zero_le _), wordsL_length _ _, ?_, by omega, ?_, ?_, HS.out.keep hb1, Nat.le_refl _, Int.le_refl _⟩
      · intro e
        have := e.2
        omega
      · intro e
        have : k.bO < wc.heap.size := own_lt hp.ownO _ rfl
        omega
      · intro e
        have : k.bN < wc.heap.size := own_lt hp.ownN _ rfl
        omega
    obtain ⟨Fm1, hFm1⟩ : ∃ F : Nat → Prop, F = (fun j => Fm j ∧ j < wc.heap.size) := ⟨_, rfl⟩
    rw [← hFm1] at hE
    have HE0 := Lib.hid hE
    clear hE hFm1 HP HS ho1 hb1 hbWl hbW x0 x1 x2 x3 x4 x5
    clear Fm
    generalize DS.full [wordsL 3 N, wordsL 80 N] = S0 at *
    generalize hl0 : wordsL 3 N = l0 at *
    generalize hl1 : wordsL 80 N = l1 at *
    clear hl0 hl1
    go_wp2_with fail
    go_loopw [9] (fun s wy => ∃ (e : Nat) (Fm : Nat → Prop) (S : DS) (old new want : List Nat), s = .int .i64 e ∧ e ≤ n ∧ EY W wy Fm k bW cW N S x e false old new want want l0 l1 (20 * e)) (fun s _ => n - (intOf s).toNat)
    case atStart => exact ⟨0, Fm1, S0, l0, l1, l0, rfl, Nat.zero_le _, HE0.out⟩
    case round =>
      rename World => wx
      clear HE0
      clear Fm1 S0
      obtain ⟨e, Fm, S, old, new, want, rfl, he, hE⟩ := hrel
      have HE := Lib.hid hE
      clear hE
      by_cases hlt : e < n
      · have t1 : (e : Int) < (n : Int) := by omega
        have e9 : IntKind.i64.wrap ((e : Int) + 1) = ((e + 1 : Nat) : Int) := IntWalk.i64_in _ (by omega)
        go_wp2_with fail
        refine (n_any W.heap.size 4 wx HE.out.src (by omega) (by omega)).mono ?_
        rintro e' w1 ⟨r1, rfl, hr1, hr1', hs1, hg1⟩
        have H1 := Lib.hid (HE.out.grown hs1 hg1)
        clear HE hs1 hg1
        go_wp2_with fail
        go_loopw [10] (fun s wy => ∃ (j : Nat) (Fm : Nat → Prop) (S : DS) (old new want : List Nat), s = .int .i64 j ∧ j ≤ 3 ∧ EY W wy Fm k bW cW N S x e false old new want want l0 l1 (20 * e + 2 * (3 - j))) (fun s _ => (intOf s).toNat)
        case atStart => exact ⟨r1.toNat, Fm, S, old, new, want, by rw [show ((r1.toNat : Nat) : Int) = r1 by omega], by omega, H1.out.mono (by omega)⟩
        case round =>
          rename World => wy
          clear H1
          clear Fm S old new want
          obtain ⟨j, Fm, S, old, new, want, rfl, hj, hI⟩ := hrel
          have HI := Lib.hid hI
          clear hI
          by_cases hj0 : 0 < j
          · have t2 : (0 : Int) < (j : Int) := by omega
            have e7 : IntKind.i64.wrap ((j : Int) - 1) = ((j - 1 : Nat) : Int) := by rw [IntWalk.i64_in _ (by omega)]; omega
            go_wp2_with fail
            refine (n_any W.heap.size (N : Int) wy HI.out.src (by omega) (by omega)).mono ?_
            rintro e' u1 ⟨a1, rfl, ha1, ha1', hs1, hg1⟩
            obtain ⟨a, rfl⟩ : ∃ a : Nat, a1 = (a : Int) := ⟨a1.toNat, by omega⟩
            have HI1 := Lib.hid (HI.out.grown hs1 hg1)
            clear HI hs1 hg1
            go_wp2_with fail
            refine (n_any W.heap.size 100 u1 HI1.out.src (by omega) (by omega)).mono ?_
            rintro e' u2 ⟨v1, rfl, hv1, hv1', hs2, hg2⟩
            obtain ⟨v, rfl⟩ : ∃ v : Nat, v1 = (v : Int) := ⟨v1.toNat, by omega⟩
            have HI2 := Lib.hid (HI1.out.grown hs2 hg2)
            have ev := u64_wrap v (by omega)
            clear HI1 hs2 hg2
            obtain ⟨x0, x1, x2, x3, x4, x5⟩ := HI2.out.b.cells
            go_wp2_with fail
            refine (HI2.out.write a v (by omega) (by omega) (by omega)).mono ?_
            rintro e' u3 ⟨rfl, Fm3, S3, old3, new3, hI3⟩
            obtain ⟨c0, c1⟩ := hI3.at_ a (by omega)
            have HI4 := Lib.hid (hI3.store a v)
            have hal : a < N := by omega
            clear hI3 HI2 x0 x1 x2 x3 x4 x5
            go_wp2_with fail
            go_roundw
            case rel => exact ⟨j - 1, Fm3, S3, old3, new3, _, rfl, by omega, HI4.out.mono (by omega)⟩
            case measure => simp [intOf]; omega
          · obtain ⟨x0, x1, x2, x3, x4, x5⟩ := HI.out.b.cells
            go_wp2_with fail
            refine (HI.out.copy (by rw [HDV.out]; exact hlt) (by omega) (by omega)).mono ?_
            rintro e' w2 ⟨rfl, Fm2, S2, old2, new2, hI2⟩
            have H2 := Lib.hid hI2
            clear hI2 HI x0 x1 x2 x3 x4 x5
            go_wp2_with fail
            refine (n_any W.heap.size 3 w2 H2.out.src (by omega) (by omega)).mono ?_
            rintro e' w3 ⟨r3, rfl, hr3, hr3', hs3, hg3⟩
            have H3 := Lib.hid (H2.out.grown hs3 hg3)
            clear H2 hs3 hg3
            go_wp2_with fail
            go_loopw [13] (fun s wz => ∃ (j : Nat) (Fm : Nat → Prop) (S : DS) (old new want : List Nat), s = .int .i64 j ∧ j ≤ 2 ∧ EY W wz Fm k bW cW N S x e true old new want want l0 l1 (20 * e + 10 + 2 * (2 - j))) (fun s _ => (intOf s).toNat)
            case atStart => exact ⟨r3.toNat, Fm2, S2, old2, new2, want, by rw [show ((r3.toNat : Nat) : Int) = r3 by omega], by omega, H3.out.mono (by omega)⟩
            case round =>
              rename World => wy
              clear H3
              clear Fm2 S2 old2 new2 Fm S old new want
              obtain ⟨j, Fm, S, old, new, want, rfl, hj, hI⟩ := hrel
              have HI := Lib.hid hI
              clear hI
              by_cases hj0 : 0 < j
              · have t2 : (0 : Int) < (j : Int) := by omega
                have e7 : IntKind.i64.wrap ((j : Int) - 1) = ((j - 1 : Nat) : Int) := by rw [IntWalk.i64_in _ (by omega)]; omega
                go_wp2_with fail
                refine (n_any W.heap.size (N : Int) wy HI.out.src (by omega) (by omega)).mono ?_
                rintro e' u1 ⟨a1, rfl, ha1, ha1', hs1, hg1⟩
                obtain ⟨a, rfl⟩ : ∃ a : Nat, a1 = (a : Int) := ⟨a1.toNat, by omega⟩
                have HI1 := Lib.hid (HI.out.grown hs1 hg1)
                clear HI hs1 hg1
                go_wp2_with fail
                refine (n_any W.heap.size 100 u1 HI1.out.src (by omega) (by omega)).mono ?_
                rintro e' u2 ⟨v1, rfl, hv1, hv1', hs2, hg2⟩
                obtain ⟨v, rfl⟩ : ∃ v : Nat, v1 = (v : Int) := ⟨v1.toNat, by omega⟩
                have HI2 := Lib.hid (HI1.out.grown hs2 hg2)
                have ev := u64_wrap v (by omega)
                clear HI1 hs2 hg2
                obtain ⟨x0, x1, x2, x3, x4, x5⟩ := HI2.out.b.cells
                go_wp2_with fail
                refine (HI2.out.write a v (by omega) (by omega) (by omega)).mono ?_
                rintro e' u3 ⟨rfl, Fm3, S3, old3, new3, hI3⟩
                obtain ⟨c0, c1⟩ := hI3.at_ a (by omega)
                have HI4 := Lib.hid (hI3.store a v)
                have hal : a < N := by omega
                clear hI3 HI2 x0 x1 x2 x3 x4 x5
                go_wp2_with fail
                go_roundw
                case rel => exact ⟨j - 1, Fm3, S3, old3, new3, _, rfl, by omega, HI4.out.mono (by omega)⟩
                case measure => simp [intOf]; omega
              · obtain ⟨x0, x1, x2, x3, x4, x5⟩ := HI.out.b.cells
                go_wp2_with fail
                refine (HI.out.adv (by omega)).mono ?_
                rintro e' w4 ⟨rfl, hI4⟩
                have H4 := Lib.hid (hI4.mono (M := 20 * (e + 1)) (by omega))
                clear hI4 HI x0 x1 x2 x3 x4 x5
                go_wp2_with fail
                go_roundw
                case rel => exact ⟨e + 1, Fm, S, old, new, want, rfl, by omega, H4.out⟩
                case measure => simp [intOf]; omega
      · have hen : e = n := by omega
        subst hen
        have hEn := HE.out
        have ewn : want = new := by
          have := hEn.en
          rw [← HN.out] at this
          exact this.done
        have EWN := Lib.hid ewn
        have hnl := hEn.pl.lens
        have hn1 := hEn.pl.n1
        have HN1 := Lib.hid hn1
        have hdr : 1 < S.dr.length := hEn.pl.hea.lt (i := 1) rfl
        obtain ⟨x0, x1, x2, x3, x4, x5⟩ := hEn.b.cells
        clear ewn hEn hn1
        go_wp2_with fail
        refine (HE.out.b.image2 1 hdr).mono ?_
        rintro e' w1 ⟨v1, rfl, ho1, hb1, hP1⟩
        obtain ⟨A1, c1, hv1⟩ := own_form ho1
        subst hv1
        have hlen1 : (S.now 1).length = N := by rw [HN1.out]; exact hnl.2
        rw [HN1.out, hnl.2] at ho1
        rw [hlen1]
        have HR1 := Lib.hid (Reads.of_own ho1)
        have HRW := Lib.hid (Reads.of_own (own_keepB HE.out.wt hb1))
        have HP1 := Lib.hid hP1
        have HLN := Lib.hid hnl.2
        have HWL := Lib.hid HE.out.wl
        have hnd : e = N / x := HDV.out.symm
        clear HE ho1 hb1 hP1 hnl hlen1 x0 x1 x2 x3 x4 x5
        go_wp2_with fail
        refine (same_any' _ _ c1 cW N N new want w1 HLN.out HWL.out HR1.out HRW.out (by omega) (by omega)).mono ?_
        rintro e' w2 ⟨rfl, q, rfl⟩
        rw [decide_eq_true EWN.out.symm]
        have HP2 := Lib.hid (HP1.out.keep (below_drewN (Below.refl w1.heap.size w1) q))
        clear HP1 HR1 HRW
        obtain ⟨x0, x1, x2, x3, x4, x5⟩ := HP2.out.cells
        go_wp2_with (first
          | (go_at_call 17; refine (HP2.out.copyno (.inr hnd)).mono ?_; rintro e' w3 ⟨rfl, hP3⟩; obtain ⟨y0, y1, y2, y3, y4, y5⟩ := hP3.cells)
          | (go_at_call 19; refine (hP3.advno).mono ?_; rintro e' w4 ⟨rfl, hP4⟩)
          | (go_at_call 12; refine (awake34_any w4).mono ?_; rintro e' w5 ⟨rfl, hb5⟩))
        go_ret
        exact ⟨rfl, hP4.bel.trans (hb5.mono hP4.bel.size)⟩

end Go.Proofs.Ytomblhoileglfaa
