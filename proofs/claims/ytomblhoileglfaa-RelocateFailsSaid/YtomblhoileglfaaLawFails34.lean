/-
  The law RelocateFails.
-/
import Derived.Test.YtomblhoileglfaaRelQ
import Derived.Test.YtomblhoileglfaaRelR
import Derived.Test.YtomblhoileglfaaMixL
import Derived.Deep.DeepCutAuto
import Derived.Deep.CutBlock
namespace Go.Proofs.Ytomblhoileglfaa
set_option linter.unusedVariables false
open Go.RowKit
attribute [local go_sem] Oper.semAt_some

theorem u64_wrap2 (v : Nat) (h : v < 18446744073709551616) : IntKind.u64.wrap (v : Int) = (v : Int) := by
  have : IntKind.u64.wrap (v : Int) = (v : Int) % 18446744073709551616 := by simp [IntKind.wrap, IntKind.signed, IntKind.bits]
  omega
theorem opE_ok2 (n x : Nat) (hx : 1 ≤ x) (hx4 : x ≤ 4) : opE (n * x) (n * x) (x : Int) 0 = 0 := by
  unfold opE
  have hq := Int.natCast_nonneg (n * x / x)
  rw [if_neg (by omega), Int.toNat_natCast, if_neg (by rintro (h | h); exact h rfl; exact h (Nat.mul_mod_left n x)), if_neg (by rintro (h | h); omega; omega)]
theorem mul_wrap2 (a b : Nat) (h : a ≤ 1000) (h2 : b ≤ 1000) : IntKind.i64.wrap ((a : Int) * (b : Int)) = ((a * b : Nat) : Int) := by
  have : a * b ≤ 1000 * 1000 := Nat.mul_le_mul h h2
  rw [← Int.natCast_mul]
  generalize a * b = z at *
  rw [IntWalk.i64_in _ (by omega)]

set_option maxRecDepth 100000 in
set_option maxHeartbeats 40000000 in
theorem fails34_any (A : Option Addr) (c n0 : Nat) (ls : List Int) (first : Bool) (W : World) (hn : ls.length = n0) (hA : Reads W A (iv ls)) (hw : I64 ls) (hc : n0 ≤ c) :
    Calls Try.prog 6 #[.slice A n0 c, .bool first] W fun e W' => e = .returned (.bool true) ∧ Below W.heap.size W W' := by
  go_enter Try.func6, Try.ntmps6
  go_wp2_with fail
  refine (new_any A n0 c ls W hn hA hw hc).mono ?_
  rintro e W1 ⟨rfl, hs1, hb1, hsz1⟩
  go_wp2_with fail
  refine (range_any W.heap.size 1 4 W1 hs1 (by omega) (by omega) (by omega)).mono ?_
  rintro e W2 ⟨nn, rfl, hn1, hn4, hs2, hg2⟩
  obtain ⟨n, rfl⟩ : ∃ n : Nat, nn = (n : Int) := ⟨nn.toNat, by omega⟩
  have HB2 := Lib.hid (gb_Below hb1 hg2 hb1.size (Nat.le_refl _))
  clear hs1 hb1 hg2 hsz1 hn hA hw hc
  go_wp2_with fail
  refine (range_any W.heap.size 1 4 W2 hs2 (by omega) (by omega) (by omega)).mono ?_
  rintro e W3 ⟨xx, rfl, hx1, hx4, hs3, hg3⟩
  obtain ⟨x, rfl⟩ : ∃ x : Nat, xx = (x : Int) := ⟨xx.toNat, by omega⟩
  have HB3 := Lib.hid (gb_Below HB2.out hg3 HB2.out.size (Nat.le_refl _))
  have HS3 := Lib.hid hs3
  have hm1 : 1 ≤ n * x := Nat.mul_le_mul (show 1 ≤ n by omega) (show 1 ≤ x by omega)
  have hm2 : n * x ≤ 4 * 4 := Nat.mul_le_mul (show n ≤ 4 by omega) (show x ≤ 4 by omega)
  have em := mul_wrap2 n x (by omega) (by omega)
  have hop := opE_ok2 n x (by omega) (by omega)
  have hdv : n * x / x = n := Nat.mul_div_cancel _ (by omega)
  have HDV := Lib.hid hdv
  have HOP := Lib.hid hop
  have hs3l : W.heap.size < W3.heap.size := HS3.out.lt
  clear hs2 hg3 hs3 HB2 hdv hop
  obtain ⟨N, hN⟩ : ∃ N, n * x = N := ⟨_, rfl⟩
  have HN := Lib.hid hN
  rw [hN] at em hm1 hm2 HDV HOP
  clear hN
  go_upto_region 3 with (fail)
  go_cut [8, 9] (fun s6 s7 wx => ∃ (k : Bl) (Fm : Nat → Prop), s6 = .pointer (some ⟨k.pb, 0, none⟩) ∧ s7 = .bool true ∧ SrcAt wx W.heap.size ∧ PB W wx Fm k N (DS.full [wordsL 3 N, wordsL 80 N]) x 0 false 0 false (wordsL 3 N) (wordsL 80 N))
  case first =>
    --DONE{
    as_aux_lemma =>
      go_wp2_with fail
      refine (words2_any N 3 W3 (by omega)).mono ?_
      rintro e W7 ⟨v7, rfl, ho7, hb7⟩
      obtain ⟨A7, c7, hv7⟩ := own_form ho7
      subst hv7
      have HB7 := Lib.hid (HB3.out.trans (hb7.mono HB3.out.size))
      have HS7 := Lib.hid (HS3.out.keep hb7)
      have HO7 := Lib.hid ho7
      have hs67 := hb7.size
      clear ho7 hb7 HB3 HS3
      go_wp2_with fail
      refine (words2_any N 80 W7 (by omega)).mono ?_
      rintro e W8 ⟨v8, rfl, ho8, hb8⟩
      obtain ⟨A8, c8, hv8⟩ := own_form ho8
      subst hv8
      have HR7 := Lib.hid ((Reads.of_own HO7.out).keep hb8)
      have HB8 := Lib.hid (HB7.out.trans (hb8.mono HB7.out.size))
      have HS8 := Lib.hid (HS7.out.keep hb8)
      have HO8 := Lib.hid ho8
      have hs78 := hb8.size
      clear ho8 hb8 HB7 HS7 HO7
      go_wp2_with fail
      refine (start34_any W8 A7 A8 N N c7 c8 (wordsL 3 N) (wordsL 80 N) HR7.out (Reads.of_own HO8.out) (wordsL_length _ _) (wordsL_length _ _) (by omega) (by omega) (wordsL_w _ _) (wordsL_w _ _) (x : Int) 0).mono ?_
      rintro e W9 ⟨pb, rfl, hb9, hpb, hno, hok⟩
      have HB9 := Lib.hid (HB8.out.trans (hb9.mono HB8.out.size))
      have HS9 := Lib.hid (HS8.out.keep hb9)
      have hs89 := hb9.size
      obtain ⟨Fm, g, s0, s1, m, rb, bO, cO, bN, cN, bL, cL, hp⟩ := hok HOP.out
      have hp := hp W.heap.size (by omega)
      rw [Int.toNat_natCast] at hp
      clear hb9 HB8 HS8 HR7 HO8 hno hok
      go_wp2_with fail
      go_meet
      case rel => exact ⟨⟨pb, g, s0, s1, m, rb, bO, cO, bN, cN, bL, cL⟩, Fm, rfl, rfl, HS9.out, hp, HB9.out, by omega, wordsL_length _ _, wordsL_length _ _, by omega, by omega, by omega⟩
    --}DONE
  case rest =>
    obtain ⟨k, Fm, rfl, rfl, hsr, hpb⟩ := hcut
    have q0 := PLS.start N x 0 (wordsL 3 N) (wordsL 80 N) (wordsL_length _ _) (wordsL_length _ _) (Nat.zero_le _)
    have hl0 : (DS.full [wordsL 3 N, wordsL 80 N]).log.length = 0 := rfl
    have hr0 : (DS.full [wordsL 3 N, wordsL 80 N]).wr = 0 := rfl
    have HP := Lib.hid hpb
    have HS := Lib.hid hsr
    obtain ⟨x0, x1, x2, x3, x4, x5⟩ := hpb.cells
    have hwl := wordsL_length 3 N
    have hxN : x ≤ N := by rw [← HN.out]; exact Nat.le_mul_of_pos_left x (by omega)
    clear hpb hsr HB3 HS3
    generalize DS.full [wordsL 3 N, wordsL 80 N] = S0 at *
    generalize hwo : wordsL 3 N = lo at *
    have HWO := Lib.hid hwo
    clear hwo
    generalize wordsL 80 N = ln at *
    obtain ⟨a1, q1, a2, a3⟩ := q0.copy (by rw [HDV.out]; omega)
    have hv1 := Liv.of_pls q1
    have hdr : (cpS S0 N x 0).dr.length = 2 := hv1.nd
    have hnew : ∀ a, a < x → (cpL lo ln (0 * x) x)[a]? = some (lo[a]?.getD 0) := fun a ha => by rw [cpL_at _ _ _ _ _ (by rw [q0.lens.2]; omega), if_pos (by rw [Nat.zero_mul]; omega)]
    have HNEW := Lib.hid hnew
    clear hnew q0 q1
    go_upto_region 6 with (go_at_call 17; refine (HP.out.copy_s HS.out (by rw [HDV.out]; omega) (by omega) (by omega)).mono ?_; rintro e w1 ⟨rfl, hs1, Fm1, hP1⟩; rw [a1]; rw [a1] at hP1; change PB W w1 Fm1 k N (cpS S0 N x 0) x 0 true 0 false lo ln at hP1)
    have HP1 := Lib.hid hP1
    have HS1 := Lib.hid hs1
    clear hP1 hs1 HP HS x0 x1 x2 x3 x4 x5 a1
    generalize cpS S0 N x 0 = S1 at *
    go_wp2_with fail
    refine (n_any W.heap.size (x : Int) w1 HS1.out (by omega) (by omega)).mono ?_
    rintro e w2 ⟨aa, rfl, ha1, ha2, hs2, hg2⟩
    obtain ⟨a, rfl⟩ : ∃ a : Nat, aa = (a : Int) := ⟨aa.toNat, by omega⟩
    have hax : a < x := by omega
    have HP2 := Lib.hid (HP1.out.grown hg2)
    clear HP1 HS1 hs2 hg2
    obtain ⟨x0, x1, x2, x3, x4, x5⟩ := HP2.out.cells
    have hml0 : (S1.miss 0).log.length = S1.log.length := rfl
    have hml1 : (S1.miss 1).log.length = S1.log.length := rfl
    have hmr0 : (S1.miss 0).wr = S1.wr := rfl
    have hmr1 : (S1.miss 1).wr = S1.wr := rfl
    cases first
    · skip
      --DONE{
      as_aux_lemma =>
        obtain ⟨f1, f2, f3⟩ := hv1.miss1.second x a 5 hax hxN
        obtain ⟨g1, g2, g3, g4, g5⟩ := f3.after x a 5 hax hxN (by rw [List.getElem?_set_self (by omega)]; rfl)
        obtain ⟨l1, l2⟩ := mwS_len (S1.miss 1) N x 0 true a 5
        have l3 := flush_log (mwS (S1.miss 1) N x 0 true a 5) 0
        go_upto_region 14 with (first
          | (go_at_call 30; refine (HP2.out.miss 1 (by omega)).mono ?_; rintro e w3 ⟨rfl, Fm3, hP3⟩; obtain ⟨y0, y1, y2, y3, y4, y5⟩ := hP3.cells)
          | (go_at_call 15; refine (hP3.write a 5 (by omega) (by omega) (by omega) (by omega)).mono ?_; rintro e w4 ⟨rfl, Fm4, hP4⟩; rw [f1]; rw [f2] at hP4; obtain ⟨z0, z1, z2, z3, z4, z5⟩ := hP4.cells)
          | (go_at_call 23; refine (hP4.copied_).mono ?_; rintro e w' ⟨rfl, rfl⟩))
        generalize mwS (S1.miss 1) N x 0 true a 5 = S4 at *
        have HP4 := Lib.hid hP4
        clear hP4 hP3 HP2 x0 x1 x2 x3 x4 x5 y0 y1 y2 y3 y4 y5 f3 hv1 f1 f2
        go_wp2_with fail
        refine (HP4.out.read a (by omega)).mono ?_
        rintro e w5 ⟨rfl, hP5⟩
        rw [g1, g2]
        have HP5 := Lib.hid hP5
        clear HP4 z0 z1 z2 z3 z4 z5 g1 g2
        obtain ⟨x0, x1, x2, x3, x4, x5⟩ := hP5.cells
        clear hP5
        go_wp2_with (first
          | (go_at_call 19; refine (HP5.out.advno).mono ?_; rintro e w6 ⟨rfl, hP6⟩; obtain ⟨y0, y1, y2, y3, y4, y5⟩ := hP6.cells)
          | (go_at_call 23; refine (hP7.copied_).mono ?_; rintro e w' ⟨rfl, rfl⟩)
          | (go_at_call 17; refine (hP6.copy (by rw [HDV.out]; omega) (by omega) (by omega)).mono ?_; rintro e w7 ⟨rfl, Fm7, hP7⟩; rw [g3]; rw [g3, g4] at hP7; change PB W w7 Fm7 k N S4 x 0 false 0 false lo ln at hP7; obtain ⟨u0, u1, u2, u3, u4, u5⟩ := hP7.cells)
          | (go_at_call 31; refine (hP7.flush (by omega) (by omega)).mono ?_; rintro e w8 ⟨rfl, Fm8, hP8⟩; rw [g5])
          | (go_at_call 12; refine (awake34_any _).mono ?_; rintro e w9 ⟨rfl, hb9⟩))
        go_ret
        exact ⟨rfl, hP8.bel.trans (hb9.mono hP8.bel.size)⟩
      --}DONE
    · as_aux_lemma =>
        have hm0 := hv1.miss0
        obtain ⟨f1, f2, f3, f4⟩ := hm0.first x a 5 true hax hxN
        have l3 := flush_log (S1.miss 0) 0
        have hn1 : (S1.miss 0).now 1 = cpL lo ln (0 * x) x := hm0.a1.1
        have hdr2 : 1 < (S1.miss 0).dr.length := by rw [hm0.nd]; omega
        have hcl : (cpL lo ln (0 * x) x).length = N := hm0.l1
        have hva := HNEW.out a hax
        go_upto_region 10 with (first
          | (go_at_call 30; refine (HP2.out.miss 0 (by omega)).mono ?_; rintro e w3 ⟨rfl, Fm3, hP3⟩; obtain ⟨y0, y1, y2, y3, y4, y5⟩ := hP3.cells)
          | (go_at_call 15; refine (hP3.write a 5 (by omega) (by omega) (by omega) (by omega)).mono ?_; rintro e w4 ⟨rfl, Fm4, hP4⟩; rw [f1]; rw [f2, f3] at hP4; obtain ⟨z0, z1, z2, z3, z4, z5⟩ := hP4.cells))
        generalize S1.miss 0 = S4 at *
        have HP4 := Lib.hid hP4.tight
        clear hP4 hP3 HP2 x0 x1 x2 x3 x4 x5 y0 y1 y2 y3 y4 y5 hv1 f1 f2 f3 hm0
        generalize cpL lo ln (0 * x) x = lc at *
        go_wp2_with fail
        refine (HP4.out.image2 1 hdr2).mono ?_
        rintro e w5 ⟨v5, rfl, ho5, hb5, hP5⟩
        rw [hn1, hcl] at ho5
        obtain ⟨bI, cI, hv5, hbI, hbIl⟩ := ho5.form (by omega)
        subst hv5
        have i0 : w5.cell? ⟨bI, a, none⟩ = some (.int .u64 ((lo[a]?.getD 0 : Nat) : Int)) := (ho5.cellAt a (by omega)).trans ((uv_get (by omega)).trans (by rw [hva]; rfl))
        have HP5 := Lib.hid hP5
        obtain ⟨x0, x1, x2, x3, x4, x5⟩ := hP5.cells
        have haN : (a : Int) < (N : Int) := by omega
        have hx2l : k.pb < w5.heap.size := hP5.p.pair.lt
        clear hP5 ho5 hb5 HP4 z0 z1 z2 z3 z4 z5 hn1 hva
        have hcm := em
        go_wp2_with fail
        have hfA : S4.log.length ≤ 900000 := by omega
        have hfB : (S4.flush 0).log.length ≤ 900000 := by omega
        have i6 : ∀ (w6 : World) (b6 c6 : Nat), w6.ownsRow w5.drew.heap.size 32 1 (.slice (some ⟨b6, 0, none⟩) N c6) N (uv lo) → w6.cell? ⟨b6, a, none⟩ = some (.int .u64 ((lo[a]?.getD 0 : Nat) : Int)) := fun w6 b6 c6 ho6 => (ho6.cellAt a (by omega)).trans (uv_get (by omega))
        have I6 := Lib.hid i6
        have HB := Lib.hid hbIl
        have HX2 := Lib.hid hx2l
        have HNL : Hid (N ≤ 1000) := by show N ≤ 1000; omega
        have HN1 : Hid (0 < N) := by show 0 < N; omega
        have HFA := Lib.hid hfA
        have HFB := Lib.hid hfB
        clear i6 hfA hfB x0 x1 x3 x4 x5 l3 hcl hdr2 hml0 hml1 hmr0 hmr1 hl0 hr0 a2 a3 hdr hwl hbI hbIl hx2l hcm ha1 ha2 hax hxN hm1 hm2 hn1 hn4 hx1 hx4 hs3l HNEW HDV HOP HN
        refine wp_region_mixL [0, 1, 2, 3, 4, 5, 6, 8] [7, 9, 10, 11, 12, 13, 14, 15, 16, 17, 18, 19, 20, 21, 22, 23, 24, 25, 26, 27, 28, 29, 30] 11 (by kernel_rfl) (by decide +kernel) (fun w' => w'.cell? ⟨bI, a, none⟩ = some (.int .u64 ((lo[a]?.getD 0 : Nat) : Int))) i0 ?_
        simp only [pickL, List.getElem?_toArray, List.getElem?_cons_zero, List.getElem?_cons_succ, List.map_cons, List.map_nil]
        iterate 8
          refine ⟨?_, Or.inl ⟨by rfl, fun W' hS' => ?_⟩, fun _ _ _ h => h, ?_⟩
          rotate_left
          · go_simp
            with_reducible rfl
          simp only [Act.put, List.setIfInBounds_toArray, List.set_cons_zero, List.set_cons_succ]
        show wpSeqL _ _ _ _ _ _ _ _
        refine wpSeqL_step (fun K hK => ?_)
        go_simp
        refine (words2_any N 3 w5.drew HNL.out).mono ?_
        rintro e w6 ⟨v6, rfl, ho6, hb6⟩
        rw [HWO.out] at ho6
        obtain ⟨b6, c6, hv6, hb6a, hb6l⟩ := ho6.form HN1.out
        subst hv6
        have i6 := I6.out w6 b6 c6 ho6
        have hP6 := HP5.out.keep ((Below.refl w5.heap.size w5).drew.trans hb6)
        have i6b : w6.cell? ⟨bI, a, none⟩ = some (.int .u64 ((lo[a]?.getD 0 : Nat) : Int)) := (hb6.cell (p := ⟨bI, a, none⟩) (by simpa using HB.out)).trans i0
        obtain ⟨x0, x1, x2b, x3, x4, x5⟩ := hP6.cells
        clear ho6 hb6a hb6l
        refine hK _ _ (fun _ => i6b) ?_
        clear hK K
        iterate 2
          refine wpSeqL_step (fun K hK => ?_)
          go_simp
          refine hK _ _ (fun _ => i6b) ?_
          clear hK K
        refine wpSeqL_list _ _ _ (by decide) ?_
        simp only [List.map_cons, List.map_nil]
        go_wp2_with (first
          | (go_at_call 23; refine (hP6.copied_).mono ?_; rintro e w' ⟨rfl, rfl⟩)
          | (go_at_call 31; refine (hP6.flush HFA.out HFB.out).mono ?_; rintro e w8 ⟨rfl, Fm8, hP8⟩; rw [f4])
          | (go_at_call 12; refine (awake34_any _).mono ?_; rintro e w9 ⟨rfl, hb9⟩))
        go_ret
        exact ⟨rfl, hP8.bel.trans (hb9.mono hP8.bel.size)⟩

end Go.Proofs.Ytomblhoileglfaa
