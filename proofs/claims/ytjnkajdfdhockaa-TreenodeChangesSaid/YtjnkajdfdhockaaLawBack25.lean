/-
  The law TreenodeBack.
-/
import Derived.Test.YtjnkajdfdhockaaLawWords25
namespace Go.Proofs.Ytjnkajdfdhockaa
set_option linter.unusedVariables false
open Go.RowKit

theorem dec_sum (X : List Nat) (b : Int) (h : decE X b = 0) : X.length = 16 ∧ sumN X = (X[0]?.getD 0) / 4294967296 % 65536 := by
  unfold decE at h
  by_cases hs : sealedN X 2 b = 0
  · unfold sealedN at hs
    by_cases h1 : X.length = 16
    · refine ⟨h1, ?_⟩
      rw [if_neg (by omega)] at hs
      split at hs
      · omega
      · split at hs
        · omega
        · rename_i h2; omega
    · rw [if_pos h1] at hs; omega
  · rw [if_pos hs] at h; exact absurd h hs

theorem dec_other (lv sq : Int) (l : List (Int × Nat)) (block b2 : Int) (hv : validN lv sq l = 0) (h1 : 0 ≤ block) (h2 : block < 4096) (hne : block ≠ b2) : decE (encN lv sq l block) b2 = 24 := by
  have hs := sealed_enc lv sq l block b2 hv h1 h2
  rw [if_pos hne] at hs
  unfold decE
  rw [hs, if_pos (by decide)]

set_option maxRecDepth 100000 in
set_option maxHeartbeats 2000000 in
theorem back25_any (L : Option Addr) (f k : Nat) (ls : List Int) (w : World) (hk : ls.length = k) (hL : Reads w L (iv ls)) (hl : I64 ls) (hkf : k ≤ f) :
    Calls Try.prog 7 #[.slice L k f] w fun e w' => e = .returned (.bool true) ∧ Below w.heap.size w w' := by
  have HK := Lib.hid hk
  clear hk
  go_enter Try.func7, Try.ntmps7
  go_wp2_with fail
  refine (new_any L k f ls w HK.out hL hl hkf).mono ?_
  rintro e W1 ⟨rfl, hS, hb1, hsz1⟩
  have hg1 : w.heap.size < W1.heap.size := hS.lt
  have HS1 := Lib.hid hS
  clear hsz1 hS
  go_wp2_with fail
  refine (node_any w.heap.size W1 HS1.out).mono ?_
  rintro e W2 ⟨lv, sq, v, l, rfl, hown, hE, hl9, hnil, hS2, hg2, hv1, hv2, hv3, hv4⟩
  obtain ⟨A, c, rfl⟩ := own_form hown
  have hbw2 := gb_Below hb1 hg2 hb1.size (Nat.le_refl _)
  have HO := Lib.hid (hown.alloc (.cells #[.int .i64 lv, .int .i64 sq, .slice A l.length c] 27))
  have HE := Lib.hid hE
  have HC := Lib.hid (Cs.new W2 27 #[.int .i64 lv, .int .i64 sq, .slice A l.length c])
  have HS := Lib.hid (hS2.alloc (.cells #[.int .i64 lv, .int .i64 sq, .slice A l.length c] 27))
  have hB := hbw2.alloc hbw2.size (.cells #[.int .i64 lv, .int .i64 sq, .slice A l.length c] 27)
  have hlt2 : W1.heap.size ≤ W2.heap.size := hg2.size
  clear hown hE hS2 hnil hbw2 hg2 HS1
  go_wp2_with fail
  generalize hq : W2.heap.size = bn at *
  generalize (W2.alloc _) = W3 at HO HC HS hB ⊢
  clear hq
  refine (n_any w.heap.size 4096 W3 HS.out (by omega) (by omega)).mono ?_
  rintro e W4 ⟨blk, rfl, hr1, hr2, s4, g4⟩
  have HO4 := Lib.hid (own_keep HO.out g4 hg1)
  have HC4 := Lib.hid (HC.out.grown g4 (by simp; omega))
  have hB4 := gb_Below hB g4 hB.size (Nat.le_refl _)
  have HS4 := Lib.hid s4
  clear HO HC HS hB s4 g4
  obtain ⟨x0, x1, x2⟩ := cell3 HC4.out
  go_wp2_with fail
  have EN := Lib.hid (((Env.start hB4).cons HC4.out).row (Reads.of_own HO4.out))
  clear x0 x1 x2 HO4 HC4 hB4
  by_cases hE0 : encE lv sq l blk = 0
  · obtain ⟨hv, _, _⟩ := encE_zero hE0
    have hdec := decode_enc lv sq l blk HE.out hv hr1 hr2
    have hoth := dec_other lv sq l blk ((blk + 1) % 4096) hv hr1 hr2 (by omega)
    have hEl := encN_length lv sq l blk
    have hval := (valid_iff lv sq l).1 hv
    have hEw := encN_w lv sq l blk HE.out hval.2.2.2.1
    have HDEC := Lib.hid hdec
    have HOTH := Lib.hid hoth
    have HEL := Lib.hid hEl
    have HV := Lib.hid hv
    clear hdec hoth hEl hval hE0 hv
    refine (encode_ok lv sq blk A c l.length l W4 rfl (EN.out.2.2 (A, ev l) (by simp)) HE.out HV.out hr1 hr2).mono ?_
    rintro e W6 ⟨ge, rfl, ho6, hb6⟩
    have EN6 := Lib.hid ((EN.out.keep hb6).row (Reads.of_own ho6))
    have HS6 := Lib.hid (HS4.out.keep hb6)
    clear EN hb6 ho6 HS4
    generalize encN lv sq l blk = E at *
    go_wp2_with fail
    refine (decode_all (some ⟨ge, 0, none⟩) 16 16 E blk W6 HEL.out (EN6.out.2.2 (some ⟨ge, 0, none⟩, uv E) (by simp)) hEw (by omega)).mono ?_
    rintro e W7 ⟨vm, rfl, ho7, hb7⟩
    rw [HDEC.out.1, HDEC.out.2.1, HDEC.out.2.2.1]
    rw [HDEC.out.2.2.2] at ho7
    obtain ⟨Am, cm, rfl⟩ := own_form ho7
    have EN7 := Lib.hid (((EN6.out.keep hb7).row (Reads.of_own ho7)).new 27 #[.int .i64 lv, .int .i64 sq, .slice Am l.length cm])
    have HS7 := Lib.hid ((HS6.out.keep hb7).alloc (.cells #[.int .i64 lv, .int .i64 sq, .slice Am l.length cm] 27))
    clear EN6 hb7 ho7 HS6
    obtain ⟨x0, x1, x2⟩ := cell3 (EN7.out.2.1 (bn, 27, #[.int .i64 lv, .int .i64 sq, .slice A l.length c]) (by simp))
    obtain ⟨m0, m1, m2⟩ := cell3 (EN7.out.2.1 (W7.heap.size, 27, #[.int .i64 lv, .int .i64 sq, .slice Am l.length cm]) (by simp))
    go_wp2_with fail
    generalize hq : W7.heap.size = bm at *
    generalize (W7.alloc _) = W8 at EN7 HS7 x0 x1 x2 m0 m1 m2 ⊢
    clear hq x0 x1 x2 m0 m1 m2
    refine (sameN_any lv sq lv sq A Am c cm l.length l.length l l W8 rfl rfl (EN7.out.2.2 (A, ev l) (by simp)) (EN7.out.2.2 (Am, ev l) (by simp)) (by omega) (by omega)).mono ?_
    rintro e W9 ⟨rfl, hb9⟩
    rw [decide_eq_true (show lv = lv ∧ sq = sq ∧ l = l from ⟨rfl, rfl, rfl⟩)]
    have EN9 := Lib.hid (EN7.out.keep hb9)
    have HS9 := Lib.hid (HS7.out.keep hb9)
    clear EN7 HS7 hb9
    have hrem : (blk + 1).tmod 4096 = (blk + 1) % 4096 := Int.tmod_eq_emod_of_nonneg (by omega)
    go_wp2_with fail
    refine (decode_all (some ⟨ge, 0, none⟩) 16 16 E ((blk + 1) % 4096) W9 HEL.out (EN9.out.2.2 (some ⟨ge, 0, none⟩, uv E) (by simp)) hEw (by omega)).mono ?_
    rintro e W10 ⟨vo, rfl, ho10, hb10⟩
    rw [HOTH.out]
    obtain ⟨Ao, co, rfl⟩ := own_form ho10
    generalize decLv E ((blk + 1) % 4096) = z1
    generalize decSq E ((blk + 1) % 4096) = z2
    generalize (decL E ((blk + 1) % 4096)).length = z3
    have EN10 := Lib.hid ((EN9.out.keep hb10).alloc (.cells #[.int .i64 z1, .int .i64 z2, .slice Ao z3 co] 27))
    have HS10 := Lib.hid ((HS9.out.keep hb10).alloc (.cells #[.int .i64 z1, .int .i64 z2, .slice Ao z3 co] 27))
    clear EN9 HS9 hb10 ho10 hrem
    obtain ⟨i0, hi0, hz0, hz1, hz2⟩ := info_parts u64_info
    have hbs : w.heap.size ≤ W10.heap.size + 1 := by have := EN10.out.1.size; simpa using this
    have R10 := Lib.hid (EN10.out.2.2 (some ⟨ge, 0, none⟩, uv E) (by simp))
    go_wp2_with (at_builtin; refine wpList_append_reads _ (by rfl) _ _ _ (by rfl) (W10.alloc (.cells #[.int .i64 z1, .int .i64 z2, .slice Ao z3 co] 27)).heap.size 38 i0 _ 1 8 Try.underlying30 hi0 hz0 hz1 hz2 (by rfl) (by omega) (.slice none 0 0) 0 [] (by rfl) (World.ownsRow_nil _ _ _ _) (some ⟨ge, 0, none⟩) 16 16 (uv E) (by rfl) (by rw [uv_length, HEL.out]) R10.out (uv_one E) (by simp only [maxLen]; omega) (by omega) (Nat.le_refl _) ?_; intro v11 W11 hown11 hg11 hat11; simp only [Nat.zero_add, List.nil_append] at hown11; obtain ⟨gx, cx, rfl, hgx, hltx⟩ := hown11.form (by omega); have hb11 := (Below.refl (W10.alloc (.cells #[.int .i64 z1, .int .i64 z2, .slice Ao z3 co] 27)).heap.size (W10.alloc (.cells #[.int .i64 z1, .int .i64 z2, .slice Ao z3 co] 27))).grown hg11 (Nat.le_refl _) (by intro k hk; simp [Value.ownBlock] at hk); have EN11 := Lib.hid (EN10.out.keep hb11); have HS11 := Lib.hid (HS10.out.keep hb11); have HO11 := Lib.hid hown11; clear hat11 hg11 hown11 hb11)
    have hbase := HS10.out.lt
    clear EN10 HS10 R10
    have HSd := Lib.hid (HS11.out.keep (Below.refl _ W11).drew)
    have HOd := Lib.hid (World.ownsRow.drew HO11.out)
    generalize (W10.alloc (.cells #[.int .i64 z1, .int .i64 z2, .slice Ao z3 co] 27)).heap.size = bx at *
    go_region_with (first
      | (go_at_call 11; (with_reducible refine (n_any w.heap.size 16 W11.drew HSd.out (by omega) (by omega)).mono ?_); rintro e Y1 ⟨k1, rfl, hk1, hk2, sY1, gY1⟩; obtain ⟨kx, rfl⟩ : ∃ j : Nat, k1 = (j : Int) := ⟨k1.toNat, by omega⟩; have HO1 := Lib.hid (own_keep HOd.out gY1 hbase); have e1 := HO1.out.cellAt kx (by omega); have f1 := HO1.out.frozenAt kx; have hkx : kx < 16 := (by omega); rw [uv_at _ _ (by rw [HEL.out]; exact hkx)] at e1)
      | (go_at_call 11; (with_reducible refine (n_any w.heap.size 32 Y1 sY1 (by omega) (by omega)).mono ?_); rintro e Y2 ⟨k2, rfl, hk3, hk4, sY2, gY2⟩; obtain ⟨nx, rfl⟩ : ∃ j : Nat, k2 = (j : Int) := ⟨k2.toNat, by omega⟩; have HO2 := Lib.hid (own_keep HO1.out gY2 hbase); have e2 := HO2.out.cellAt kx (by omega); have f2 := HO2.out.frozenAt kx; rw [uv_at _ _ (by rw [HEL.out]; exact hkx)] at e2))
    all_goals
      have hex := hEw.at kx
      have hxor : bits BinOp.xor IntKind.u64 ((E[kx]?.getD 0 : Nat) : Int) (IntKind.u64.wrap (2 ^ nx)) = ((E[kx]?.getD 0 ^^^ 2 ^ nx : Nat) : Int) := by
        rw [wrap_two_pow nx (by omega), u64_xor_nat _ _ hex (two_pow_lt nx (by omega))]
      rw [hxor]
      have hst := (HO2.out.stored kx (.int .u64 ((E[kx]?.getD 0 ^^^ 2 ^ nx : Nat) : Int))).1
      rw [uv_set] at hst
      have hXw : W64 (E.set kx (E[kx]?.getD 0 ^^^ 2 ^ nx)) := hEw.set _ _ (xor_lt hex (two_pow_lt nx (by omega)))
      have hXl : (E.set kx (E[kx]?.getD 0 ^^^ 2 ^ nx)).length = 16 := by rw [List.length_set, HEL.out]
      have hBd : Below w.heap.size w W11.drew := EN11.out.1.drew
      have hBY2 := gb_Below (gb_Below hBd gY1 hBd.size (Nat.le_refl _)) gY2 (Nat.le_trans hBd.size gY1.size) (Nat.le_refl _)
      have hBY3 := hBY2.setCell (p := ⟨gx, kx, none⟩) (show w.heap.size ≤ gx by omega) (.int .u64 ((E[kx]?.getD 0 ^^^ 2 ^ nx : Nat) : Int))
      have HX := Lib.hid (Reads.of_own hst)
      have HXL := Lib.hid hXl
      clear hst hXl hxor e1 f1 e2 f2 hBY2 hBd HO1 HO2 sY1 sY2 gY1 gY2
      generalize E.set kx (E[kx]?.getD 0 ^^^ 2 ^ nx) = X at *
      generalize (Y2.setCell _ _) = Y3 at HX hBY3 ⊢
      go_wp2_with fail
      refine (decode_all (some ⟨gx, 0, none⟩) cx 16 X blk Y3 HXL.out HX.out hXw (by omega)).mono ?_
      rintro e Y4 ⟨vd, rfl, hod, hbd⟩
      have HX4 := Lib.hid (HX.out.keep hbd)
      have hBY4 := hBY3.trans (hbd.mono hBY3.size)
      have HX4d : Hid (Reads Y4.drew (some ⟨gx, 0, none⟩) (uv X)) := HX4.out
      have c0 := reads_at HX4.out 0 (by rw [HXL.out]; omega)
      have hgx4 : gx < Y4.heap.size := by
        obtain ⟨b, off, e, hb, _⟩ := HX4.out.u (by rw [HXL.out]; omega)
        simp only [Option.some.injEq, Addr.mk.injEq] at e
        rw [e.1]; exact hb
      clear hod hbd
      by_cases hd0 : decE X blk = 0
      · obtain ⟨_, hsum⟩ := dec_sum X blk hd0
        have hx0 := hXw.at 0
        have hbit : bits BinOp.and IntKind.u64 (((X[0]?.getD 0 : Nat) : Int) / 4294967296) 65535 = ((sumN X : Nat) : Int) := by
          rw [hsum]; exact and_low ((X[0]?.getD 0) / 4294967296) 16 (by omega) (by omega)
        have HSM := Lib.hid (fun V hA => refSum_any (some ⟨gx, 0, none⟩) cx 16 X V HXL.out hA hXw (by omega) (by omega))
        rw [hd0]
        clear hsum hd0
        generalize X[0]?.getD 0 = x00 at *
        generalize sumN X = sm at *
        have hqq : ((sm : Int) == (sm : Int)) = true := by simp
        go_wp2_with fail
        go_region_held3 (fun w' => w'.cell? ⟨gx, 0, none⟩ = some (.int .u64 (x00 : Int))) (first | exact c0 | exact c1 | exact c2)
          (first
            | (go_at_call 39; refine (HSM.out Y4.drew HX4d.out).mono ?_; rintro e V1 ⟨rfl, hbV⟩; have c1 := (hbV.cell (p := ⟨gx, 0, none⟩) hgx4).trans c0)
            | (go_at_call 17; refine (awake_any V1).mono ?_; rintro e V2 ⟨rfl, hbV2⟩; have c2 := (hbV2.cell (p := ⟨gx, 0, none⟩) (Nat.lt_of_lt_of_le hgx4 hbV.size)).trans c1))
        go_wp2_with fail
        go_ret
        exact ⟨rfl, (hBY4.drew.trans (hbV.mono hBY4.size)).trans (hbV2.mono (Nat.le_trans hBY4.size hbV.size))⟩
      · have hne : (decE X blk != 0) = true := by simpa using hd0
        generalize decE X blk = dd at *
        clear hd0
        go_wp2_with fail
        refine wp_region_mix 13 13 (by kernel_rfl) (by kernel_rfl) (fun _ => True) trivial ?_
        simp only [List.take_succ_cons, List.take_zero, List.drop_succ_cons, List.drop_zero]
        iterate 3
          refine ⟨?_, Or.inl ⟨by rfl, fun W' hS' => ?_⟩, fun _ _ _ h => h, ?_⟩
          rotate_left
          · go_simp
            with_reducible rfl
          simp only [Act.put, List.setIfInBounds_toArray, List.set_cons_zero, List.set_cons_succ]
        iterate 8
          refine ⟨_, Or.inr ⟨by rfl, rfl⟩, fun _ _ _ h => h, ?_⟩
          simp only [Act.put, List.setIfInBounds_toArray, List.set_cons_zero, List.set_cons_succ]
        iterate 2
          refine ⟨?_, Or.inl ⟨by rfl, fun W' hS' => ?_⟩, fun _ _ _ h => h, ?_⟩
          rotate_left
          · go_simp
            with_reducible rfl
          simp only [Act.put, List.setIfInBounds_toArray, List.set_cons_zero, List.set_cons_succ]
        show wpSeqT _ _ _ _ _ _ _ _ _
        refine wpSeqT_list _ _ _ _ (by omega) ?_
        go_wp2_with fail
        refine (awake_any Y4.drew).mono ?_
        rintro e V2 ⟨rfl, hbV2⟩
        go_wp2_with fail
        go_ret
        exact ⟨rfl, hBY4.drew.trans (hbV2.mono hBY4.size)⟩
  · refine (encode_no lv sq blk A c l.length l W4 rfl (EN.out.2.2 (A, ev l) (by simp)) HE.out (by omega) hE0).mono ?_
    rintro e W6 ⟨rfl, hb6⟩
    have EN6 := Lib.hid (EN.out.keep hb6)
    generalize encE lv sq l blk = ee at *
    have hne : (ee != 0) = true := by simpa using hE0
    clear EN hb6 hE0
    go_wp2_with fail
    refine (awake_any W6).mono ?_
    rintro e W7 ⟨rfl, hb7⟩
    have EN7 := Lib.hid (EN6.out.keep hb7)
    go_wp2_with fail
    go_ret
    exact ⟨rfl, EN7.out.1⟩

end Go.Proofs.Ytjnkajdfdhockaa
