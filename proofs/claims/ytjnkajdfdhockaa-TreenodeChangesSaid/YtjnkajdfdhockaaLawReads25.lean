/-
  The law TreenodeReads.
-/
import Derived.Test.YtjnkajdfdhockaaLawBack25
import Derived.Deep.DeepCutAuto
namespace Go.Proofs.Ytjnkajdfdhockaa
set_option linter.unusedVariables false
open Go.RowKit

/-- The words that are tried, and the reader of numbers. -/
structure RD (w W : World) (v : Value) (X : List Nat) : Prop where
  src : SrcAt W w.heap.size
  below : Below w.heap.size w W
  own : W.ownsRow (w.heap.size + 1) 38 1 v X.length (uv X)
  w64 : W64 X
  le : X.length ≤ 20
theorem RD.grown {w W W' : World} {v : Value} {X : List Nat} (h : RD w W v X) (hg : W.grownBy W' (some w.heap.size)) (hs : SrcAt W' w.heap.size) : RD w W' v X :=
  ⟨hs, gb_Below h.below hg h.below.size (Nat.le_refl _), own_keep h.own hg (by omega), h.w64, h.le⟩
theorem RD.cap {w W : World} {A : Option Addr} {N c : Nat} {X : List Nat} (h : RD w W (.slice A N c) X) (hN : X.length = N) : N ≤ c := by
  subst hN
  exact own_cap h.own
theorem RD.reads {w W : World} {A : Option Addr} {N c : Nat} {X : List Nat} (h : RD w W (.slice A N c) X) (hN : X.length = N) : Reads W A (uv X) := by
  subst hN
  exact Reads.of_own h.own
theorem RD.keep {w W W' : World} {v : Value} {X : List Nat} (h : RD w W v X) (hb : Below W.heap.size W W') : RD w W' v X :=
  ⟨h.src.keep hb, h.below.trans (hb.mono h.below.size), own_keepB h.own hb, h.w64, h.le⟩

theorem RD.at_ {w W : World} {A : Option Addr} {N c : Nat} {X : List Nat} (h : RD w W (.slice A N c) X) (hN : X.length = N) (i : Nat) (hi : i < N) :
    ∃ g, A = some ⟨g, 0, none⟩ ∧ w.heap.size < g ∧ W.cell? ⟨g, i, none⟩ = some (.int .u64 ((X[i]?.getD 0 : Nat) : Int)) ∧ W.frozen? ⟨g, i, none⟩ = false ∧
      ∀ y : Nat, y < 18446744073709551616 → RD w (W.setCell ⟨g, i, none⟩ (.int .u64 (y : Int))) (.slice A N c) (X.set i y) := by
  subst hN
  obtain ⟨g, cap, hv, hg, hlt⟩ := h.own.form (by omega)
  have hA : A = some ⟨g, 0, none⟩ := by injection hv
  subst hA
  have hc := h.own.cellAt i (by omega)
  rw [uv_at _ _ hi] at hc
  refine ⟨g, rfl, by omega, hc, h.own.frozenAt i, fun y hy => ⟨h.src.set (by omega) _, h.below.setCell (p := ⟨g, i, none⟩) (show w.heap.size ≤ g by omega) _, ?_, h.w64.set _ _ hy, by rw [List.length_set]; exact h.le⟩⟩
  have := (h.own.stored i (.int .u64 (y : Int))).1
  rw [uv_set] at this
  rw [List.length_set]
  exact this

theorem decL_le (X : List Nat) (b : Int) : (decL X b).length ≤ 15 := by
  unfold decL
  split
  · rw [upto_length]; unfold cntN; omega
  · simp

set_option maxRecDepth 100000 in
set_option maxHeartbeats 2000000 in
theorem reads25_any (L : Option Addr) (f k : Nat) (ls : List Int) (at0 : Int) (byv : Nat) (w : World) (hk : ls.length = k) (hL : Reads w L (iv ls)) (hl : I64 ls) (hkf : k ≤ f) (ha1 : -9223372036854775808 ≤ at0) (ha2 : at0 ≤ 9223372036854775807) (hby : byv < 18446744073709551616) :
    Calls Try.prog 4 #[.slice L k f, .int .i64 at0, .int .u64 (byv : Int)] w fun e w' => e = .returned (.bool true) ∧ Below w.heap.size w w' := by
  have HK := Lib.hid hk
  clear hk
  go_enter Try.func4, Try.ntmps4
  go_wp2_with fail
  refine (new_any L k f ls w HK.out hL hl hkf).mono ?_
  rintro e W1 ⟨rfl, hS, hb1, hsz1⟩
  have hg1 : w.heap.size < W1.heap.size := hS.lt
  have HS1 := Lib.hid hS
  clear hsz1 hS
  go_wp2_with fail
  refine (node_any w.heap.size W1 HS1.out).mono ?_
  rintro e W2 ⟨lv, sq, v, l, rfl, hown, hE, hl9, hnil, hS2, hg2, hv1, hv2, hv3, hv4⟩
  obtain ⟨A, c, rfl⟩ := own_form hown
  have hbw2 := gb_Below hb1 hg2 hb1.size (Nat.le_refl _)
  have HO := Lib.hid (hown.alloc (.cells #[.int .i64 lv, .int .i64 sq, .slice A l.length c] 27))
  have HE := Lib.hid hE
  have HC := Lib.hid (Cs.new W2 27 #[.int .i64 lv, .int .i64 sq, .slice A l.length c])
  have HS := Lib.hid (hS2.alloc (.cells #[.int .i64 lv, .int .i64 sq, .slice A l.length c] 27))
  have hB := hbw2.alloc hbw2.size (.cells #[.int .i64 lv, .int .i64 sq, .slice A l.length c] 27)
  have hlt2 : W1.heap.size ≤ W2.heap.size := hg2.size
  clear hown hE hS2 hnil hbw2 hg2 HS1
  go_wp2_with fail
  generalize hq : W2.heap.size = bn at *
  generalize (W2.alloc _) = W3 at HO HC HS hB ⊢
  clear hq
  refine (n_any w.heap.size 200 W3 HS.out (by omega) (by omega)).mono ?_
  rintro e W4 ⟨blk, rfl, hr1, hr2, s4, g4⟩
  have HO4 := Lib.hid (own_keep HO.out g4 hg1)
  have HC4 := Lib.hid (HC.out.grown g4 (by simp; omega))
  have hB4 := gb_Below hB g4 hB.size (Nat.le_refl _)
  have HS4 := Lib.hid s4
  clear HO HC HS hB s4 g4
  obtain ⟨x0, x1, x2⟩ := cell3 HC4.out
  go_wp2_with fail
  refine (refEncode_all lv sq blk A c l.length l W4 rfl (Reads.of_own HO4.out) HE.out (by omega)).mono ?_
  rintro e W6 ⟨va, rfl, ho6, hb6⟩
  have hsW4 : w.heap.size + 1 ≤ W4.heap.size := HS4.out.lt
  have HRD := Lib.hid (RD.mk (HS4.out.keep hb6) (hB4.trans (hb6.mono hB4.size)) (own_lower ho6 hsW4) (encR_w lv sq l blk HE.out) (by have := encR_le lv sq l blk; omega))
  clear x0 x1 x2 HO4 HC4 HS4 hB4 ho6 hb6
  have HRL : Hid (encE lv sq l blk = 0 → 1 ≤ (encR lv sq l blk).length) := fun h => by unfold encR; rw [if_pos h, encN_length]; omega
  generalize encR lv sq l blk = R at *
  generalize encE lv sq l blk = ee at *
  go_upto_if 32 with (fail)
  go_cut [10] (fun s10 wx => ∃ (A1 : Option Addr) (c1 : Nat) (X : List Nat), s10 = .slice A1 X.length c1 ∧ 1 ≤ X.length ∧ RD w wx (.slice A1 X.length c1) X)
  case first =>
    by_cases h0 : ee = 0
    · have hz : (ee != 0) = false := by simpa using h0
      obtain ⟨A1, c1, rfl⟩ := own_form HRD.out.own
      have hR1 := HRL.out h0
      clear h0
      go_wp2_with fail
      go_meet
      case rel => exact ⟨A1, c1, R, rfl, hR1, HRD.out⟩
    · have hz : (ee != 0) = true := by simpa using h0
      clear h0
      go_wp2_with fail
      refine (range_any w.heap.size 14 18 W6 HRD.out.src (by omega) (by omega) (by omega)).mono ?_
      rintro e V1 ⟨n0, rfl, hn1, hn2, sV1, gV1⟩
      have HR1 := Lib.hid (HRD.out.grown gV1 sV1)
      clear sV1 gV1
      go_wp2_with fail
      refine (raw_any w.heap.size V1 HR1.out.src).mono ?_
      rintro e V2 ⟨raw, rfl, hw1, hw2, sV2, gV2⟩
      have HR2 := Lib.hid (HR1.out.grown gV2 sV2)
      clear sV2 gV2
      obtain ⟨nn, rfl⟩ : ∃ j : Nat, n0 = (j : Int) := ⟨n0.toNat, by omega⟩
      go_wp2_with fail
      refine (words_any nn _ V2 (by omega)).mono ?_
      rintro e V3 ⟨v3, X3, rfl, ho3, hl3, hw3, hb3⟩
      obtain ⟨A3, c3, rfl⟩ := own_form ho3
      subst hl3
      have hs2 : w.heap.size + 1 ≤ V2.heap.size := HR2.out.src.lt
      have HR3 := Lib.hid (RD.mk (HR2.out.src.keep hb3) (HR2.out.below.trans (hb3.mono HR2.out.below.size)) (own_lower ho3 hs2) hw3 (by omega))
      clear ho3 hb3
      go_wp2_with fail
      go_meet
      case rel => exact ⟨A3, c3, X3, rfl, by omega, HR3.out⟩
  case rest =>
    obtain ⟨A1, c1, X, rfl, hX1, hRD⟩ := hcut
    have HR := Lib.hid hRD
    clear hRD HRD
    obtain ⟨i0, hi0, hz0, hz1, hz2⟩ := info_parts u64_info
    have hXl := HR.out.le
    have hswc : w.heap.size + 1 ≤ wc.heap.size := HR.out.src.lt
    have RX := Lib.hid (Reads.of_own HR.out.own)
    go_wp2_with (at_builtin; refine wpList_append_reads _ (by rfl) _ _ _ (by rfl) wc.heap.size 38 i0 _ 1 8 Try.underlying30 hi0 hz0 hz1 hz2 (by rfl) (by omega) (.slice none 0 0) 0 [] (by rfl) (World.ownsRow_nil _ _ _ _) A1 X.length c1 (uv X) (by rfl) (by rw [uv_length, Nat.mul_one]) RX.out (uv_one X) (by simp only [maxLen]; omega) (by omega) (Nat.le_refl _) ?_; intro v11 W11 hown11 hg11 hat11; simp only [Nat.zero_add, List.nil_append] at hown11; have hb11 := (Below.refl wc.heap.size wc).grown hg11 (Nat.le_refl _) (by intro k hk; simp [Value.ownBlock] at hk); obtain ⟨A2, c2, rfl⟩ := own_form hown11; have HR2 := Lib.hid (RD.mk (HR.out.src.keep hb11) (HR.out.below.trans (hb11.mono HR.out.below.size)) (own_lower hown11 hswc) HR.out.w64 HR.out.le); clear hat11 hg11 hown11 hb11)
    refine (n_any w.heap.size 3 W11 HR2.out.src (by omega) (by omega)).mono ?_
    rintro e W12 ⟨cnt, rfl, hc1, hc2, s12, g12⟩
    have HR3 := Lib.hid (HR2.out.grown g12 s12)
    clear HR HR2 s12 g12 RX
    obtain ⟨N, hN⟩ : ∃ N, X.length = N := ⟨_, rfl⟩
    rw [hN] at HR3 hXl hX1 ⊢
    have HN := Lib.hid hN
    clear hN
    go_wp2_with fail
    go_loopw [12] (fun iv wr => ∃ (j : Nat) (X' : List Nat), j ≤ 3 ∧ iv = .int .i64 j ∧ Hid (X'.length = N) ∧ RD w wr (.slice A2 N c2) X') (fun iv _ => (intOf iv).toNat)
    case atStart => exact ⟨cnt.toNat, X, by omega, by rw [show (cnt.toNat : Int) = cnt by omega], HN, HR3.out⟩
    case round =>
      obtain ⟨j, X', hj, rfl, hX', hR⟩ := hrel
      have HR := Lib.hid hR
      clear hR
      by_cases hj0 : 0 < j
      · have hN0 : 0 < N := by omega
        · have z1 : (0 : Int) < (j : Int) := by omega
          have z2 : (0 : Int) < (N : Int) := by omega
          go_wp2_with fail
          refine (n_any w.heap.size (N : Int) wr HR.out.src (by omega) (by omega)).mono ?_
          rintro e V1 ⟨kk, rfl, hk1, hk2, sV1, gV1⟩
          have HR1 := Lib.hid (HR.out.grown gV1 sV1)
          clear HR sV1 gV1
          obtain ⟨kx, rfl⟩ : ∃ i : Nat, kk = (i : Int) := ⟨kk.toNat, by omega⟩
          have hkx : kx < N := by omega
          obtain ⟨gx, hA2, hgx, e1, f1, _⟩ := HR1.out.at_ hX'.out kx hkx
          subst hA2
          have hxw := HR1.out.w64.at kx
          generalize hxe : X'[kx]?.getD 0 = xe at *
          have HXE := Lib.hid hxe
          clear hxe
          go_wp2_with fail
          refine wp_region_mix 5 7 (by kernel_rfl) (by kernel_rfl) (fun w' => w'.cell? ⟨gx, kx, none⟩ = some (.int .u64 (xe : Int))) e1 ?_
          simp only [List.take_succ_cons, List.take_zero, List.drop_succ_cons, List.drop_zero]
          iterate 5
            refine ⟨?_, Or.inl ⟨by rfl, fun W' hS' => ?_⟩, fun _ _ _ h => h, ?_⟩
            rotate_left
            · go_simp
              with_reducible rfl
            simp only [Act.put, List.setIfInBounds_toArray, List.set_cons_zero, List.set_cons_succ]
          show wpSeqT _ _ _ _ _ _ _ _ _
          refine wpSeqT_step (fun K hK => ?_)
          go_simp
          refine (n_any w.heap.size 64 V1.drew (HR1.out.src.keep (Below.refl _ V1).drew) (by omega) (by omega)).mono ?_
          rintro e V2 ⟨k2, rfl, hk3, hk4, sV2, gV2⟩
          have HR2 := Lib.hid (HR1.out.grown (grown_undrew gV2) sV2)
          clear sV2 gV2 HR1 e1 f1
          obtain ⟨gx2, hA3, hgx2, e1, f1, hst⟩ := HR2.out.at_ hX'.out kx hkx
          obtain rfl : gx = gx2 := by simpa using hA3
          rw [HXE.out] at e1
          obtain ⟨nx, rfl⟩ : ∃ i : Nat, k2 = (i : Int) := ⟨k2.toNat, by omega⟩
          have hxor : bits BinOp.xor IntKind.u64 (xe : Int) (IntKind.u64.wrap (2 ^ nx)) = ((xe ^^^ 2 ^ nx : Nat) : Int) := by
            rw [wrap_two_pow nx (by omega), u64_xor_nat _ _ hxw (two_pow_lt nx (by omega))]
          have HR3 := Lib.hid (hst (xe ^^^ 2 ^ nx) (xor_lt hxw (two_pow_lt nx (by omega))))
          clear hst hA3
          refine hK _ _ (fun _ => e1) ?_
          clear hK K
          refine wpSeqT_step (fun K hK => ?_)
          go_simp
          refine hK _ _ (fun _ => e1) ?_
          clear hK K
          refine wpSeqT_list _ _ _ _ (by omega) ?_
          go_wp2_with fail
          go_roundw
          case rel => exact ⟨j - 1, _, by omega, by rw [show ((j - 1 : Nat) : Int) = (j : Int) - 1 by omega], by show _ = _; rw [List.length_set]; exact hX'.out, HR3.out⟩
          case measure => simp [intOf]; omega
      · have z1 : ¬ (0 : Int) < (j : Int) := by omega
        go_upto_region 13 with (fail)
        go_cut [72] (fun s72 wx => ∃ b : Bool, s72 = .bool b ∧ RD w wx (.slice A2 N c2) X')
        case first =>
          go_wp2_with fail
          refine (n_any w.heap.size 3 wr HR.out.src (by omega) (by omega)).mono ?_
          rintro e V1 ⟨r3, rfl, hr31, hr32, sV1, gV1⟩
          have HR1 := Lib.hid (HR.out.grown gV1 sV1)
          clear HR sV1 gV1
          have z2 : (0 : Int) < (N : Int) := by omega
          by_cases h0 : r3 = 0
          · have hz : (r3 == 0) = true := by simpa using h0
            clear h0
            go_wp2_with fail
            go_meet
            case rel => exact ⟨_, rfl, HR1.out⟩
          · have hz : (r3 == 0) = false := by simpa using h0
            clear h0
            go_wp2_with fail
            go_meet
            case rel => exact ⟨_, rfl, HR1.out⟩
        obtain ⟨b72, rfl, hR1⟩ := hcut
        have HR1 := Lib.hid hR1
        clear hR1 HR
        go_upto_if 72 with (fail)
        go_cut [14] (fun _ wx => ∃ X' : List Nat, Hid (X'.length = N) ∧ RD w wx (.slice A2 N c2) X')
        case first =>
          cases b72
          rotate_left
          · have t1 := Int.tmod_lt_of_pos at0 (b := (N : Int)) (by omega)
            have t2 : -(N : Int) < at0.tmod N := Int.lt_tmod_of_pos at0 (by omega)
            obtain ⟨T, hT⟩ : ∃ T, at0.tmod (N : Int) = T := ⟨_, rfl⟩
            rw [hT] at t1 t2
            obtain ⟨kx, hkk⟩ : ∃ kx : Nat, (T + N) % (N : Int) = kx := ⟨((T + N) % N).toNat, by have := Int.emod_nonneg (T + N) (b := (N : Int)) (by omega); omega⟩
            have hkx : kx < N := by
              have := Int.emod_lt_of_pos (T + N) (b := N) (by omega)
              omega
            have hk2 : (T + N).tmod N = kx := by
              rw [Int.tmod_eq_emod_of_nonneg (by omega)]
              exact hkk
            obtain ⟨gx, hA2, hgx, e1, f1, hst⟩ := HR1.out.at_ hX'.out kx hkx
            subst hA2
            have HR3 := Lib.hid (hst byv hby)
            clear hst
            go_wp2_with fail
            go_meet
            case rel => exact ⟨X'.set kx byv, by show _ = _; rw [List.length_set]; exact hX'.out, HR3.out⟩
          · go_wp2_with fail
            go_meet
            case rel => exact ⟨X', hX', HR1.out⟩
        case rest =>
          obtain ⟨X2, hX2, hR2⟩ := hcut
          have HR2 := Lib.hid hR2
          clear hR2 HR1 hX'
          go_wp2_with fail
          refine (n_any w.heap.size 2 wc HR2.out.src (by omega) (by omega)).mono ?_
          rintro e V3 ⟨r2, rfl, hr21, hr22, s3, g3⟩
          have HR3 := Lib.hid (HR2.out.grown g3 s3)
          clear s3 g3 HR2
          go_upto_if 89 with (fail)
          go_cut [10] (fun s10 wx => ∃ (A1 : Option Addr) (c1 : Nat) (X : List Nat), s10 = .slice A1 X.length c1 ∧ RD w wx (.slice A1 X.length c1) X)
          case first =>
            by_cases h0 : r2 = 0
            · have hz : (r2 == 0) = true := by simpa using h0
              clear h0
              have hcap := HR3.out.cap hX2.out
              have hNl := HR3.out.le
              have hs3 : w.heap.size + 1 ≤ V3.heap.size := HR3.out.src.lt
              obtain ⟨n16, hn16⟩ : ∃ n, min N 16 = n := ⟨_, rfl⟩
              have hRt : Reads V3 A2 (uv (X2.take n16)) := by
                have := (HR3.out.reads hX2.out).take' n16
                unfold uv at this ⊢
                rw [List.map_take]
                exact this
              have hlt : (X2.take n16).length = n16 := by rw [List.length_take, hX2.out]; omega
              have hwt : W64 (X2.take n16) := fun x hx => HR3.out.w64 x (List.mem_of_mem_take hx)
              have HRT := Lib.hid hRt
              have HLT := Lib.hid hlt
              clear hRt hlt
              by_cases h16 : 16 < N
              · have z2 : (16 : Int) < (N : Int) := by omega
                have z3 : (16 : Int) ≤ (c2 : Int) := by omega
                have z4 : ¬ c2 < 16 := by omega
                obtain rfl : n16 = 16 := by omega
                clear hn16 hcap hNl
                go_wp2_with fail
                refine (refSeal_any A2 c2 16 (X2.take 16) V3 HLT.out HRT.out hwt (by omega)).mono ?_
                rintro e V4 ⟨g4, rfl, ho4, hb4⟩
                have hsl := sealN_length (X2.take 16) (by rw [HLT.out]; omega)
                have HR4 := Lib.hid (RD.mk (X := sealN (X2.take 16)) (v := .slice (some ⟨g4, 0, none⟩) 16 16) (HR3.out.src.keep hb4) (HR3.out.below.trans (hb4.mono HR3.out.below.size)) (by rw [hsl]; exact own_lower ho4 hs3) (sealN_w _ hwt) (by rw [hsl]; omega))
                have HSL := Lib.hid hsl
                clear hsl ho4 hb4
                go_wp2_with fail
                go_meet
                case rel => exact ⟨some ⟨g4, 0, none⟩, 16, sealN (X2.take 16), by rw [HSL.out], by rw [HSL.out]; exact HR4.out⟩
              · have z2 : ¬ (16 : Int) < (N : Int) := by omega
                have z3 : (N : Int) ≤ (c2 : Int) := by omega
                have z4 : ¬ c2 < N := by omega
                obtain rfl : n16 = N := by omega
                clear hn16 hcap hNl
                go_wp2_with fail
                refine (refSeal_any A2 c2 n16 (X2.take n16) V3 HLT.out HRT.out hwt (by omega)).mono ?_
                rintro e V4 ⟨g4, rfl, ho4, hb4⟩
                have hsl := sealN_length (X2.take n16) (by rw [HLT.out]; omega)
                have HR4 := Lib.hid (RD.mk (X := sealN (X2.take n16)) (v := .slice (some ⟨g4, 0, none⟩) 16 16) (HR3.out.src.keep hb4) (HR3.out.below.trans (hb4.mono HR3.out.below.size)) (by rw [hsl]; exact own_lower ho4 hs3) (sealN_w _ hwt) (by rw [hsl]; omega))
                have HSL := Lib.hid hsl
                clear hsl ho4 hb4
                go_wp2_with fail
                go_meet
                case rel => exact ⟨some ⟨g4, 0, none⟩, 16, sealN (X2.take n16), by rw [HSL.out], by rw [HSL.out]; exact HR4.out⟩
            · have hz : (r2 == 0) = false := by simpa using h0
              clear h0
              go_wp2_with fail
              go_meet
              case rel => exact ⟨A2, c2, X2, by rw [hX2.out], by rw [hX2.out]; exact HR3.out⟩
          case rest =>
            obtain ⟨A4, c4, X4, rfl, hR4⟩ := hcut
            have HR4 := Lib.hid hR4
            clear hR4 HR3 hX2
            obtain ⟨M, hM⟩ : ∃ M, X4.length = M := ⟨_, rfl⟩
            rw [hM] at HR4 ⊢
            have HM := Lib.hid hM
            clear hM
            go_wp2_with fail
            refine (n_any w.heap.size 6 wc HR4.out.src (by omega) (by omega)).mono ?_
            rintro e V5 ⟨r6, rfl, hr61, hr62, s5, g5⟩
            have HR5 := Lib.hid (HR4.out.grown g5 s5)
            clear s5 g5 HR4
            go_upto_if 98 with (fail)
            go_cut [9] (fun s9 wx => ∃ b9 : Int, s9 = .int .i64 b9 ∧ RD w wx (.slice A4 M c4) X4)
            case first =>
              by_cases h0 : r6 = 0
              · have hz : (r6 == 0) = true := by simpa using h0
                clear h0
                go_wp2_with fail
                go_meet
                case rel => exact ⟨_, rfl, HR5.out⟩
              · have hz : (r6 == 0) = false := by simpa using h0
                clear h0
                go_wp2_with fail
                go_meet
                case rel => exact ⟨_, rfl, HR5.out⟩
            case rest =>
              obtain ⟨b9, rfl, hR6⟩ := hcut
              have HR6 := Lib.hid hR6
              clear hR6 HR5
              have hM20 := HR6.out.le
              rw [HM.out] at hM20
              go_wp2_with fail
              have hX4w := HR6.out.w64
              have hgw : w.heap.size < wc.heap.size := HR6.out.src.lt
              refine (decode_all A4 c4 M X4 b9 wc HM.out (HR6.out.reads HM.out) hX4w (by omega)).mono ?_
              rintro e Y1 ⟨v1, rfl, ho1, hb1'⟩
              obtain ⟨A5, c5, rfl⟩ := own_form ho1
              have hdle := decL_le X4 b9
              generalize hdl : decLv X4 b9 = dl at *
              generalize hds : decSq X4 b9 = ds at *
              generalize hde : decE X4 b9 = de at *
              generalize hdL : decL X4 b9 = dL at *
              have HD1 := Lib.hid hdl
              have HD2 := Lib.hid hds
              have HD3 := Lib.hid hde
              have HD4 := Lib.hid hdL
              clear hdl hds hde hdL
              have EN2 := Lib.hid (((Env.start HR6.out.below).keep hb1').new 27 #[.int .i64 dl, .int .i64 ds, .slice A5 dL.length c5])
              have HO2 := Lib.hid ((own_lower ho1 (show w.heap.size + 1 ≤ wc.heap.size from hgw)).alloc (.cells #[.int .i64 dl, .int .i64 ds, .slice A5 dL.length c5] 27))
              have HR2 := Lib.hid (HR6.out.keep (hb1'.alloc hb1'.size (.cells #[.int .i64 dl, .int .i64 ds, .slice A5 dL.length c5] 27)))
              have hY1 := hb1'.size
              clear HR6 ho1 hb1'
              go_wp2_with fail
              generalize hq : Y1.heap.size = bm1 at *
              generalize (Y1.alloc _) = Y2 at EN2 HO2 HR2 ⊢
              clear hq
              have hY2 : w.heap.size + 1 ≤ Y2.heap.size := HR2.out.src.lt
              refine (refDecode_all A4 c4 M X4 b9 Y2 HM.out (HR2.out.reads HM.out) hX4w (by omega)).mono ?_
              rintro e Y3 ⟨v3, rfl, ho3, hb3⟩
              rw [HD4.out] at ho3
              rw [HD1.out, HD2.out, HD3.out]
              obtain ⟨A6, c6, rfl⟩ := own_form ho3
              have hb4 := hb3.alloc hb3.size (.cells #[.int .i64 dl, .int .i64 ds, .slice A6 dL.length c6] 27)
              have EN4 := Lib.hid ((EN2.out.keep hb3).new 27 #[.int .i64 dl, .int .i64 ds, .slice A6 dL.length c6])
              have HO4 := Lib.hid (own_keepB HO2.out hb4)
              have HP4 := Lib.hid ((own_lower ho3 hY2).alloc (.cells #[.int .i64 dl, .int .i64 ds, .slice A6 dL.length c6] 27))
              have HR4 := Lib.hid (HR2.out.keep hb4)
              have hY3 := hb3.size
              clear EN2 HO2 HR2 ho3 hb3 hb4
              go_wp2_with fail
              have hD := Cs.new (Y3.alloc (.cells #[.int .i64 dl, .int .i64 ds, .slice A6 dL.length c6] 27)) 3 #[.int .i64 2, .int .i64 1, .int .i64 0]
              rw [World.size_alloc] at hD
              have HD := Lib.hid hD
              have HO5 := Lib.hid (HO4.out.alloc (.cells #[.int .i64 2, .int .i64 1, .int .i64 0] 3))
              have HP5 := Lib.hid (HP4.out.alloc (.cells #[.int .i64 2, .int .i64 1, .int .i64 0] 3))
              have EN5 := Lib.hid (EN4.out.alloc (.cells #[.int .i64 2, .int .i64 1, .int .i64 0] 3))
              have HR5 := Lib.hid (HR4.out.keep ((Below.refl _ _).alloc (Nat.le_refl _) (.cells #[.int .i64 2, .int .i64 1, .int .i64 0] 3)))
              clear EN4 HO4 HP4 HR4 hD
              generalize hq : Y3.heap.size = bm2 at *
              generalize ((Y3.alloc _).alloc _) = Y5 at EN5 HO5 HP5 HR5 HD ⊢
              clear hq
              refine (pick_any w.heap.size (bm2 + 1) 3 [2, 1, 0] Y5 HR5.out.src rfl (by omega) (by omega) HD.out (by omega)).mono ?_
              rintro e Y6 ⟨kd, rfl, _, s6, g6⟩
              have hbm1 : w.heap.size < bm1 := by omega
              have hbm2 : w.heap.size < bm2 := by omega
              have HR6 := Lib.hid (HR5.out.grown g6 s6)
              have HO6 := Lib.hid (own_keep HO5.out g6 (by omega))
              have HP6 := Lib.hid (own_keep HP5.out g6 (by omega))
              have EN6 := Lib.hid ((((EN5.out.grown g6 (Nat.le_refl _) (by intro c hc; simp at hc; rcases hc with rfl | rfl <;> (show _ ≠ _; omega)) (by intro r hr; cases hr)).row (HR6.out.reads HM.out)).row (Reads.of_own HO6.out)).row (Reads.of_own HP6.out))
              clear EN5 HO5 HP5 HR5 HD s6 g6 HO6 HP6 HR6
              obtain ⟨x0, x1, x2⟩ := cell3 (EN6.out.2.1 (bm1, 27, #[.int .i64 dl, .int .i64 ds, .slice A5 dL.length c5]) (by simp))
              obtain ⟨y0, y1, y2⟩ := cell3 (EN6.out.2.1 (bm2, 27, #[.int .i64 dl, .int .i64 ds, .slice A6 dL.length c6]) (by simp))
              have q2 : (de == de) = true := by simp
              go_wp2_with fail
              clear x0 x1 x2 y0 y1 y2
              refine (sameN_any dl ds dl ds A5 A6 c5 c6 dL.length dL.length dL dL Y6 rfl rfl (EN6.out.2.2 (A5, ev dL) (by simp)) (EN6.out.2.2 (A6, ev dL) (by simp)) (by omega) (by omega)).mono ?_
              rintro e Y7 ⟨rfl, hb7⟩
              rw [decide_eq_true (show dl = dl ∧ ds = ds ∧ dL = dL from ⟨rfl, rfl, rfl⟩)]
              have EN7 := Lib.hid (EN6.out.keep hb7)
              clear EN6 hb7
              go_wp2_with fail
              refine (sealed_any A4 c4 M X4 kd b9 Y7 HM.out (EN7.out.2.2 (A4, uv X4) (by simp)) hX4w (by omega)).mono ?_
              rintro e Y8 ⟨rfl, hb8⟩
              have EN8 := Lib.hid (EN7.out.keep hb8)
              clear EN7 hb8
              generalize hse : sealedN X4 kd b9 = se
              have HSE := Lib.hid hse
              clear hse
              have q3 : (se == se) = true := by simp
              go_wp2_with fail
              refine (refSealed_any A4 c4 M X4 kd b9 Y8 HM.out (EN8.out.2.2 (A4, uv X4) (by simp)) hX4w (by omega)).mono ?_
              rintro e Y9 ⟨rfl, hb9⟩
              rw [HSE.out]
              have EN9 := Lib.hid (EN8.out.keep hb9)
              clear EN8 hb9
              go_wp2_with fail
              refine (awake_any Y9).mono ?_
              rintro e Y10 ⟨rfl, hb10⟩
              have EN10 := Lib.hid (EN9.out.keep hb10)
              clear EN9 hb10
              go_wp2_with fail
              go_ret
              exact ⟨rfl, EN10.out.1⟩

end Go.Proofs.Ytjnkajdfdhockaa
