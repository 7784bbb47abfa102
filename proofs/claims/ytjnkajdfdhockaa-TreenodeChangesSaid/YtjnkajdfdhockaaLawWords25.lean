/-
  The law TreenodeWords.
-/
import Derived.Test.YtjnkajdfdhockaaNodeW
namespace Go.Proofs.Ytjnkajdfdhockaa
set_option linter.unusedVariables false
open Go.RowKit

theorem Env.grown {w W W' : World} {g : Nat} {cs : List (Nat × TypeId × Array Value)} {rs : List (Option Addr × List Value)} (h : Env w W cs rs) (hg : W.grownBy W' (some g)) (hw : w.heap.size ≤ g) (hc : ∀ c ∈ cs, c.1 ≠ g) (hr : ∀ r ∈ rs, Reads W' r.1 r.2) : Env w W' cs rs :=
  ⟨gb_Below h.1 hg h.1.size hw, fun c hm => (h.2.1 c hm).grown hg (by simpa using hc c hm), hr⟩
theorem cell3 {W : World} {g : Nat} {t : TypeId} {a b c : Value} (h : Cs W g t #[a, b, c]) : W.cell? ⟨g, 0, none⟩ = some a ∧ W.cell? ⟨g, 1, none⟩ = some b ∧ W.cell? ⟨g, 2, none⟩ = some c := ⟨h.cell 0, h.cell 1, h.cell 2⟩

set_option maxRecDepth 100000 in
set_option maxHeartbeats 2000000 in
theorem words25_any (L : Option Addr) (f k : Nat) (ls : List Int) (block : Int) (w : World) (hk : ls.length = k) (hL : Reads w L (iv ls)) (hl : I64 ls) (hkf : k ≤ f) :
    Calls Try.prog 3 #[.slice L k f, .int .i64 block] w fun e w' => e = .returned (.bool true) ∧ Below w.heap.size w w' := by
  have HK := Lib.hid hk
  clear hk
  go_enter Try.func3, Try.ntmps3
  go_wp2_with fail
  refine (new_any L k f ls w HK.out hL hl hkf).mono ?_
  rintro e W1 ⟨rfl, hS, hb1, hsz1⟩
  have hg1 : w.heap.size < W1.heap.size := hS.lt
  have HS1 := Lib.hid hS
  clear hsz1 hS
  go_wp2_with fail
  refine (node_any w.heap.size W1 HS1.out).mono ?_
  rintro e W2 ⟨lv, sq, v, l, rfl, hown, hE, hl9, hnil, hS2, hg2, hv1, hv2, hv3, hv4⟩
  obtain ⟨A, c, rfl⟩ := own_form hown
  have hbw2 := gb_Below hb1 hg2 hb1.size (Nat.le_refl _)
  have HO := Lib.hid (hown.alloc (.cells #[.int .i64 lv, .int .i64 sq, .slice A l.length c] 27))
  have HE := Lib.hid hE
  have HC := Lib.hid (Cs.new W2 27 #[.int .i64 lv, .int .i64 sq, .slice A l.length c])
  have HS := Lib.hid (hS2.alloc (.cells #[.int .i64 lv, .int .i64 sq, .slice A l.length c] 27))
  have hB := hbw2.alloc hbw2.size (.cells #[.int .i64 lv, .int .i64 sq, .slice A l.length c] 27)
  have hlt2 : W1.heap.size ≤ W2.heap.size := hg2.size
  clear hown hE hS2 hnil hbw2 hg2 HS1
  go_wp2_with fail
  generalize hq : W2.heap.size = bn at *
  generalize (W2.alloc _) = W3 at HO HC HS hB ⊢
  clear hq
  refine (n_any w.heap.size 5 W3 HS.out (by omega) (by omega)).mono ?_
  rintro e W4 ⟨r, rfl, hr1, hr2, s4, g4⟩
  have HO4 := Lib.hid (own_keep HO.out g4 hg1)
  have HC4 := Lib.hid (HC.out.grown g4 (by simp; omega))
  have hB4 := gb_Below hB g4 hB.size (Nat.le_refl _)
  have HS4 := Lib.hid s4
  clear HO HC HS hB s4 g4
  by_cases hr : 0 < r
  · go_wp2_with fail
    refine (n_any w.heap.size 4096 W4 HS4.out (by omega) (by omega)).mono ?_
    rintro e W5 ⟨blk, rfl, hq1, hq2, s5, g5⟩
    have HO5 := Lib.hid (own_keep HO4.out g5 hg1)
    have HC5 := Lib.hid (HC4.out.grown g5 (by simp; omega))
    have hB5 := gb_Below hB4 g5 hB4.size (Nat.le_refl _)
    clear HO4 HC4 HS4 hB4 s5 g5 hq1 hq2 hr hr1 hr2
    obtain ⟨x0, x1, x2⟩ := cell3 HC5.out
    go_wp2_with fail
    have EN := Lib.hid (((Env.start hB5).cons HC5.out).row (Reads.of_own HO5.out))
    clear x0 x1 x2 HO5 HC5 hB5
    refine (encode_all lv sq blk A c l.length l W5 rfl (EN.out.2.2 (A, ev l) (by simp)) HE.out (by omega)).mono ?_
    rintro e W6 ⟨va, rfl, ho6, hb6⟩
    obtain ⟨Aa, ca, rfl⟩ := own_form ho6
    have EN6 := Lib.hid ((EN.out.keep hb6).row (Reads.of_own ho6))
    clear EN hb6 ho6
    obtain ⟨x0, x1, x2⟩ := cell3 (EN6.out.2.1 (bn, 27, #[.int .i64 lv, .int .i64 sq, .slice A l.length c]) (by simp))
    go_wp2_with fail
    clear x0 x1 x2
    refine (refEncode_all lv sq blk A c l.length l W6 rfl (EN6.out.2.2 (A, ev l) (by simp)) HE.out (by omega)).mono ?_
    rintro e W7 ⟨vb, rfl, ho7, hb7⟩
    obtain ⟨Ab, cb, rfl⟩ := own_form ho7
    have EN7 := Lib.hid ((EN6.out.keep hb7).row (Reads.of_own ho7))
    clear EN6 hb7 ho7
    have hle := encR_le lv sq l blk
    have y0 := cell3 (EN7.out.2.1 (bn, 27, #[.int .i64 lv, .int .i64 sq, .slice A l.length c]) (by simp))
    have EN7d := Lib.hid (EN7.out.keep (Below.refl _ W7).drew)
    generalize encR lv sq l blk = R at *
    generalize encE lv sq l blk = ee at *
    generalize hvv : validN lv sq l = vv at *
    have HVV := Lib.hid hvv
    clear hvv
    have q1 : (vv == vv) = true := by simp
    have q2 : (ee == ee) = true := by simp
    go_wp2_with fail
    go_region_held3 (fun w' => w'.cell? ⟨bn, 0, none⟩ = some (.int .i64 lv) ∧ w'.cell? ⟨bn, 1, none⟩ = some (.int .i64 sq) ∧ w'.cell? ⟨bn, 2, none⟩ = some (.slice A l.length c))
      (first | exact y0 | exact y1 | exact y2 | exact y3 | exact y4)
      (first
        | (go_at_call 14; refine (valid_any lv sq A c l.length l W7.drew rfl (EN7d.out.2.2 (A, ev l) (by simp)) HE.out (by omega)).mono ?_; rintro e V1 ⟨rfl, hbV⟩; have EV1 := Lib.hid (EN7d.out.keep hbV); have y1 := cell3 (EV1.out.2.1 (bn, 27, #[.int .i64 lv, .int .i64 sq, .slice A l.length c]) (by simp)); clear hbV; rw [HVV.out])
        | (go_at_call 15; refine (refValid_any lv sq A c l.length l V1 rfl (EV1.out.2.2 (A, ev l) (by simp)) HE.out (by omega)).mono ?_; rintro e V2 ⟨rfl, hbV⟩; have EV2 := Lib.hid (EV1.out.keep hbV); have y2 := cell3 (EV2.out.2.1 (bn, 27, #[.int .i64 lv, .int .i64 sq, .slice A l.length c]) (by simp)); clear hbV; rw [HVV.out])
        | (go_at_call 16; refine (same_any' Aa Ab ca cb R.length R.length R R V2 rfl rfl (EV2.out.2.2 (Aa, uv R) (by simp)) (EV2.out.2.2 (Ab, uv R) (by simp)) (by omega) (by omega)).mono ?_; rintro e V3 ⟨rfl, n3, rfl⟩; have EV3 := Lib.hid (EV2.out.keep (below_drewN (Below.refl _ V2) n3)); have y3 := cell3 (EV3.out.2.1 (bn, 27, #[.int .i64 lv, .int .i64 sq, .slice A l.length c]) (by simp)); rw [decide_eq_true (rfl : R = R)])
        | (go_at_call 17; refine (awake_any (V2.drewN n3)).mono ?_; rintro e V4 ⟨rfl, hbV⟩; have EV4 := Lib.hid (EV3.out.keep hbV); have y4 := cell3 (EV4.out.2.1 (bn, 27, #[.int .i64 lv, .int .i64 sq, .slice A l.length c]) (by simp)); clear hbV))
    go_wp2_with fail
    go_ret
    exact ⟨rfl, EV4.out.1⟩
  · obtain ⟨x0, x1, x2⟩ := cell3 HC4.out
    go_wp2_with fail
    have HO5 := HO4
    have HC5 := HC4
    have hB5 := hB4
    clear HO4 HC4 HS4 hB4 hr1 hr2
    obtain ⟨W5, e5⟩ : ∃ x, x = W4 := ⟨_, rfl⟩
    subst e5
    obtain ⟨blk, e5⟩ : ∃ x, x = block := ⟨_, rfl⟩
    subst e5
    have EN := Lib.hid (((Env.start hB5).cons HC5.out).row (Reads.of_own HO5.out))
    clear x0 x1 x2 HO5 HC5 hB5
    refine (encode_all lv sq blk A c l.length l W5 rfl (EN.out.2.2 (A, ev l) (by simp)) HE.out (by omega)).mono ?_
    rintro e W6 ⟨va, rfl, ho6, hb6⟩
    obtain ⟨Aa, ca, rfl⟩ := own_form ho6
    have EN6 := Lib.hid ((EN.out.keep hb6).row (Reads.of_own ho6))
    clear EN hb6 ho6
    obtain ⟨x0, x1, x2⟩ := cell3 (EN6.out.2.1 (bn, 27, #[.int .i64 lv, .int .i64 sq, .slice A l.length c]) (by simp))
    go_wp2_with fail
    clear x0 x1 x2
    refine (refEncode_all lv sq blk A c l.length l W6 rfl (EN6.out.2.2 (A, ev l) (by simp)) HE.out (by omega)).mono ?_
    rintro e W7 ⟨vb, rfl, ho7, hb7⟩
    obtain ⟨Ab, cb, rfl⟩ := own_form ho7
    have EN7 := Lib.hid ((EN6.out.keep hb7).row (Reads.of_own ho7))
    clear EN6 hb7 ho7
    have hle := encR_le lv sq l blk
    have y0 := cell3 (EN7.out.2.1 (bn, 27, #[.int .i64 lv, .int .i64 sq, .slice A l.length c]) (by simp))
    have EN7d := Lib.hid (EN7.out.keep (Below.refl _ W7).drew)
    generalize encR lv sq l blk = R at *
    generalize encE lv sq l blk = ee at *
    generalize hvv : validN lv sq l = vv at *
    have HVV := Lib.hid hvv
    clear hvv
    have q1 : (vv == vv) = true := by simp
    have q2 : (ee == ee) = true := by simp
    go_wp2_with fail
    go_region_held3 (fun w' => w'.cell? ⟨bn, 0, none⟩ = some (.int .i64 lv) ∧ w'.cell? ⟨bn, 1, none⟩ = some (.int .i64 sq) ∧ w'.cell? ⟨bn, 2, none⟩ = some (.slice A l.length c))
      (first | exact y0 | exact y1 | exact y2 | exact y3 | exact y4)
      (first
        | (go_at_call 14; refine (valid_any lv sq A c l.length l W7.drew rfl (EN7d.out.2.2 (A, ev l) (by simp)) HE.out (by omega)).mono ?_; rintro e V1 ⟨rfl, hbV⟩; have EV1 := Lib.hid (EN7d.out.keep hbV); have y1 := cell3 (EV1.out.2.1 (bn, 27, #[.int .i64 lv, .int .i64 sq, .slice A l.length c]) (by simp)); clear hbV; rw [HVV.out])
        | (go_at_call 15; refine (refValid_any lv sq A c l.length l V1 rfl (EV1.out.2.2 (A, ev l) (by simp)) HE.out (by omega)).mono ?_; rintro e V2 ⟨rfl, hbV⟩; have EV2 := Lib.hid (EV1.out.keep hbV); have y2 := cell3 (EV2.out.2.1 (bn, 27, #[.int .i64 lv, .int .i64 sq, .slice A l.length c]) (by simp)); clear hbV; rw [HVV.out])
        | (go_at_call 16; refine (same_any' Aa Ab ca cb R.length R.length R R V2 rfl rfl (EV2.out.2.2 (Aa, uv R) (by simp)) (EV2.out.2.2 (Ab, uv R) (by simp)) (by omega) (by omega)).mono ?_; rintro e V3 ⟨rfl, n3, rfl⟩; have EV3 := Lib.hid (EV2.out.keep (below_drewN (Below.refl _ V2) n3)); have y3 := cell3 (EV3.out.2.1 (bn, 27, #[.int .i64 lv, .int .i64 sq, .slice A l.length c]) (by simp)); rw [decide_eq_true (rfl : R = R)])
        | (go_at_call 17; refine (awake_any (V2.drewN n3)).mono ?_; rintro e V4 ⟨rfl, hbV⟩; have EV4 := Lib.hid (EV3.out.keep hbV); have y4 := cell3 (EV4.out.2.1 (bn, 27, #[.int .i64 lv, .int .i64 sq, .slice A l.length c]) (by simp)); clear hbV))
    go_wp2_with fail
    go_ret
    exact ⟨rfl, EV4.out.1⟩

end Go.Proofs.Ytjnkajdfdhockaa
