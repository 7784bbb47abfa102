import Derived.Test.YtcafhnaododjfaaLawFields
namespace Go.Proofs.Ytcafhnaododjfaa
set_option linter.unusedVariables false
open Go.RowKit Go.Shelf

theorem okW_snoc (s : Int) (xs : List Int) (k : Int) (h : okW s xs = true) (h1 : 1 ≤ k) (h2 : k ≤ 64) (h3 : s + xs.sum + k ≤ 64) : okW s (xs ++ [k]) = true := by
  induction xs generalizing s with
  | nil => simp [okW] at h3 ⊢; omega
  | cons x r ih =>
    simp only [okW, Bool.and_eq_true, List.cons_append] at h ⊢
    refine ⟨h.1, ih _ h.2 ?_⟩
    simp at h3
    omega

/-- What lies below field k. -/
def lowS (ws : List Int) (k : Nat) : Nat := ((ws.take k).sum).toNat

theorem fld_parts (ws : List Int) (k : Nat) (hok : okW 0 ws = true) (hk : k < ws.length) :
    (fldOf ws k).at_ = lowS ws k ∧ (fldOf ws k).mask = 2 ^ (ws[k]?.getD 0).toNat - 1 ∧ lowS ws (k + 1) = lowS ws k + (ws[k]?.getD 0).toNat ∧ lowS ws k + (ws[k]?.getD 0).toNat ≤ 64 := by
  have h0 := sum_nonneg 0 ws hok k
  have h1 := okW_at 0 ws k hok hk
  have h2 := sum_take_succ ws k hk
  unfold lowS
  refine ⟨fldOf_at ws k _ rfl h0 (by omega), fldOf_mask ws k _ rfl (by omega), ?_, ?_⟩ <;> omega

theorem lowS_mono (ws : List Int) (hok : okW 0 ws = true) : ∀ d k, k + d ≤ ws.length → lowS ws k ≤ lowS ws (k + d)
  | 0, k, _ => Nat.le_refl _
  | d + 1, k, h => by
    have := lowS_mono ws hok d k (by omega)
    have h2 := (fld_parts ws (k + d) hok (by omega)).2.2.1
    rw [← Nat.add_assoc]
    omega

theorem split_at (ws : List Int) (x k : Nat) (hk : k < ws.length) : (splitF (upto (fldOf ws) ws.length) x)[k]?.getD 0 = (x >>> (fldOf ws k).at_) &&& (fldOf ws k).mask := by
  simp [splitF, upto, hk]

theorem word_split (ws : List Int) (x : Nat) (hok : okW 0 ws = true) : ∀ k, k ≤ ws.length → wordF (upto (fldOf ws) k) (splitF (upto (fldOf ws) ws.length) x) = x % 2 ^ lowS ws k
  | 0, _ => by simp [upto, wordF, lowS, Nat.mod_one]
  | k + 1, h => by
    obtain ⟨h1, h2, h3, h4⟩ := fld_parts ws k hok (by omega)
    rw [upto_succ, wordF_snoc, word_split ws x hok k (by omega), upto_length, split_at ws x k (by omega), h1, h2, h3]
    generalize lowS ws k = s at *
    generalize (ws[k]?.getD 0).toNat = t at *
    have e1 : x >>> s &&& 2 ^ t - 1 = x / 2 ^ s % 2 ^ t := by rw [Nat.and_two_pow_sub_one_eq_mod, Nat.shiftRight_eq_div_pow]
    rw [e1, Nat.pow_add, Nat.mod_mul]
    generalize hv : x / 2 ^ s % 2 ^ t = v
    have hvt : v < 2 ^ t := by rw [← hv]; exact Nat.mod_lt _ (Nat.pow_pos (by omega))
    have hlt : v <<< s < 18446744073709551616 := by
      rw [Nat.shiftLeft_eq]
      calc v * 2 ^ s < 2 ^ t * 2 ^ s := Nat.mul_lt_mul_of_pos_right hvt (Nat.pow_pos (by omega))
        _ = 2 ^ (s + t) := by rw [Nat.add_comm, Nat.pow_add]
        _ ≤ 2 ^ 64 := Nat.pow_le_pow_right (by omega) h4
    rw [Nat.mod_eq_of_lt hlt, Nat.shiftLeft_eq, Nat.mul_comm v]
    have h5 : x % 2 ^ s < 2 ^ s := Nat.mod_lt _ (Nat.pow_pos (by omega))
    rw [Nat.or_comm, ← Nat.two_pow_add_eq_or_of_lt h5, Nat.add_comm]

theorem split_low (ws : List Int) (x : Nat) (hok : okW 0 ws = true) : splitF (upto (fldOf ws) ws.length) (x % 2 ^ lowS ws ws.length) = splitF (upto (fldOf ws) ws.length) x := by
  unfold splitF
  refine List.map_congr_left fun f hf => ?_
  obtain ⟨k, hk, rfl⟩ : ∃ k, k < ws.length ∧ fldOf ws k = f := by
    simp only [upto, List.mem_map, List.mem_range] at hf
    exact hf
  obtain ⟨h1, h2, h3, h4⟩ := fld_parts ws k hok hk
  rw [h1, h2]
  have hm := lowS_mono ws hok (ws.length - (k + 1)) (k + 1) (by omega)
  rw [show k + 1 + (ws.length - (k + 1)) = ws.length by omega] at hm
  apply Nat.eq_of_testBit_eq
  intro j
  simp only [Nat.testBit_and, Nat.testBit_shiftRight, Nat.testBit_mod_two_pow, Nat.testBit_two_pow_sub_one]
  by_cases hj : j < (ws[k]?.getD 0).toNat
  · have : lowS ws k + j < lowS ws ws.length := by omega
    simp [this]
  · simp [hj]

theorem fits_split (ws : List Int) (x : Nat) : fitsF (upto (fldOf ws) ws.length) (splitF (upto (fldOf ws) ws.length) x) := by
  intro k hk f hf
  rw [upto_length] at hk
  rw [split_at ws x k hk]
  have : fldOf ws k = f := by simpa [upto, hk] using hf
  subst this
  exact Nat.and_le_right

/-- P2.5, in plain Lean. -/
theorem back_law (ws : List Int) (x : Nat) (hok : okW 0 ws = true) :
    splitE ws = 0 ∧ wordE ws (splitR ws x) = 0 ∧ wordR ws (splitR ws x) = x % 2 ^ lowS ws ws.length ∧ splitR ws (x % 2 ^ lowS ws ws.length) = splitR ws x := by
  have hl : ws.length = (splitF (upto (fldOf ws) ws.length) x).length := by rw [splitF_length, upto_length]
  have hf : fitsB (upto (fldOf ws) ws.length) (splitF (upto (fldOf ws) ws.length) x) = true := (fitsB_iff _ _).1 (fits_split ws x)
  unfold splitE splitR wordE wordR
  simp only [hok, if_true]
  refine ⟨trivial, ?_, ?_, split_low ws x hok⟩
  · rw [if_neg (fun h => h hl), if_pos ⟨trivial, hf⟩]
  · rw [if_pos ⟨hl, trivial, hf⟩, word_split ws x hok _ (Nat.le_refl _)]

theorem low_full (ws : List Int) (hok : okW 0 ws = true) (s : Int) (hs : ws.sum = s) : lowS ws ws.length = s.toNat ∧ 0 ≤ s := by
  have h0 := sum_nonneg 0 ws hok ws.length
  unfold lowS
  rw [List.take_length] at h0 ⊢
  rw [hs] at h0 ⊢
  exact ⟨rfl, h0⟩

set_option maxRecDepth 100000 in
set_option maxHeartbeats 2000000 in
theorem packBack_yes (L : Option Addr) (f k : Nat) (x : Nat) (ls : List Int) (w : World) (hk : ls.length = k) (hL : Reads w L (iv ls)) (hl : I64 ls) (hx : x < 18446744073709551616) (hkf : k ≤ f) :
    Calls Try.prog 4 #[.int .u64 x, .slice L k f] w fun e w' => e = .returned (.bool true) ∧ Below w.heap.size w w' := by
  have HK := Lib.hid hk
  have HX := Lib.hid hx
  clear hk hx
  go_enter Try.func4, Try.ntmps4
  go_wp2_with fail
  refine (new_any L k f ls w HK.out hL hl hkf).mono ?_
  rintro e w1 ⟨rfl, hs1, hb1, hz1⟩
  go_wp2_with fail
  refine (range_any _ 1 7 w1 hs1 (by omega) (by omega) (by omega)).mono ?_
  rintro e w2 ⟨r, rfl, hr0, hr1, hs2, hg2⟩
  go_wp2_with fail
  obtain ⟨q0, rfl⟩ := Int.eq_ofNat_of_zero_le (show 0 ≤ r by omega)
  obtain ⟨i1, hi1, hy0, hy1, hy2⟩ := info_parts int_info
  have hB2 : Below w.heap.size w w2 := hb1.grown hg2 hb1.size (by intro r e; cases e; exact Nat.le_refl _)
  have hsz2 := hg2.size
  go_loopw [6, 7, 8] (fun a s i wr => ∃ (q p : Nat) (t : Int) (xs : List Int), q ≤ 7 ∧ i = .int .i64 (q : Int) ∧ s = .int .i64 t ∧ 0 ≤ t ∧ t ≤ 64 ∧ p + q ≤ 7 ∧ Hid (xs.length = p) ∧ Hid (xs.sum = t) ∧ Hid (okW 0 xs = true) ∧ wr.ownsRow (w.heap.size + 1) 3 1 a p (iv xs) ∧ SrcAt wr w.heap.size ∧ Below w.heap.size w wr ∧ w.heap.size + 1 ≤ wr.heap.size) (fun _ _ i _ => (intOf i).toNat)
  case atStart => exact ⟨q0, 0, 0, [], by omega, rfl, rfl, by omega, by omega, by omega, rfl, rfl, rfl, World.ownsRow_nil _ _ _ _, hs2, hB2, by omega⟩
  case round =>
    obtain ⟨q, p, t, xs, hq, rfl, rfl, ht0, ht1, hpq, hxl, hxs, hok, hra, hsr, hBr, hszr⟩ := hrel
    clear hL hl hs1 hb1 hz1 hs2 hg2 hB2 hsz2 HK
    obtain ⟨a1, n1, hv1⟩ := own_form hra
    subst hv1
    by_cases hq0 : 0 < q
    · have hq' : (0 : Int) < (q : Int) := by omega
      go_wp2_with fail
      refine (range_any _ 1 12 wr hsr (by omega) (by omega) (by omega)).mono ?_
      rintro e w3 ⟨κ, rfl, hk1, hk2, hs3, hg3⟩
      replace hra := own_keep hra hg3 (by omega)
      have hB3 : Below w.heap.size w w3 := hBr.grown hg3 (by omega) (by intro r e; cases e; exact Nat.le_refl _)
      have hsz3 : w.heap.size + 1 ≤ w3.heap.size := Nat.le_trans hszr hg3.size
      clear hBr hsr hg3 hszr
      by_cases hle : t + κ ≤ 64
      · go_wp2_with (at_builtin; refine wpList_append_reads _ (by rfl) _ _ _ (by rfl) (w.heap.size + 1) 3 i1 _ 1 8 Try.underlying22 hi1 hy0 hy1 hy2 (by rfl) (by omega) (.slice a1 p n1) p (iv xs) (by rfl) (hra.alloc _) _ 1 1 [.int .i64 κ] (by rfl) (by rfl) (Reads.new _ _ _) (by simp [Value.oneCell']) (by simp only [maxLen]; omega) (by omega) (by simp; omega) ?_; intro v4 w4 hown4 hg4 hat4; obtain ⟨A4, c4, hv4⟩ := own_form hown4; subst hv4)
        have hb4 := app_below hra hg4 (by omega)
        have hra8 : w4.ownsRow (w.heap.size + 1) 3 1 (.slice A4 (p + 1) c4) (p + 1) (iv (xs ++ [κ])) := by rw [iv_append]; exact hown4
        exact ⟨⟨q - 1, p + 1, t + κ, xs ++ [κ], by omega, val_int (by omega), rfl, by omega, hle, by omega, Lib.hid (by rw [List.length_append, hxl.out]; rfl), Lib.hid (by rw [List.sum_append, hxs.out]; simp), Lib.hid (okW_snoc 0 xs κ hok.out hk1 (by omega) (by rw [hxs.out]; omega)), hra8, hs3.below hb4 (by omega), hB3.trans (hb4.mono (by omega)), by have := hb4.size; omega⟩, by simp [intOf]; omega⟩
      · go_wp2_with fail
        go_roundw
        case rel => exact ⟨q - 1, p, t, xs, by omega, val_int (by omega), rfl, ht0, ht1, by omega, hxl, hxs, hok, hra, hs3, hB3, hsz3⟩
        case measure => simp [intOf]; omega
    · obtain rfl : q = 0 := by omega
      have rX := Reads.of_own hra
      obtain ⟨hE1, hE2, hR, hS⟩ := back_law xs x hok.out
      obtain ⟨hlow, _⟩ := low_full xs hok.out t hxs.out
      rw [hlow] at hR hS
      have F1 := Lib.hid (fun W hA => split_all x a1 n1 p xs W hxl.out hA (by omega) HX.out)
      have L3 : (splitR xs x).length ≤ 80 := Nat.le_trans (splitR_len xs x) (by rw [hxl.out]; omega)
      have hvw := splitR_w xs x
      have F2 := Lib.hid (fun W B d hA hB => fields_all a1 B n1 d p (splitR xs x).length xs (splitR xs x) W hxl.out rfl hA hB (by omega) hvw)
      have hY : x % 2 ^ t.toNat < 18446744073709551616 := Nat.lt_of_le_of_lt (Nat.mod_le _ _) HX.out
      have F3 := Lib.hid (fun W hA => split_all (x % 2 ^ t.toNat) a1 n1 p xs W hxl.out hA (by omega) hY)
      rw [hE1] at F1 F3
      rw [hR, hE2] at F2
      rw [hS] at F3
      clear hR hS hE1 hE2 hvw hlow
      generalize splitR xs x = V3 at F1 F2 F3 L3
      obtain ⟨Y, eY⟩ : ∃ Y, x % 2 ^ t.toNat = Y := ⟨_, rfl⟩
      rw [eY] at F2 F3 hY
      have EY := Lib.hid eY
      obtain ⟨N3, hN3⟩ : ∃ N, V3.length = N := ⟨_, rfl⟩
      rw [hN3] at F1 F2 F3 L3
      have HN3 := Lib.hid hN3
      clear hN3 eY hra hsr
      go_wp2_with fail
      refine (F1.out _ rX).mono ?_
      rintro e v1 ⟨B1, d1, rfl, r1, b1⟩
      go_wp2_with fail
      refine (F2.out _ B1 d1 (rX.keep b1) r1).mono ?_
      rintro e v2 ⟨rfl, b2⟩
      replace b1 := b1.trans (b2.mono b1.size)
      replace r1 := r1.keep b2
      clear b2
      go_wp2_with fail
      refine (F3.out _ (rX.keep b1)).mono ?_
      rintro e v3 ⟨B3, d3, rfl, r3, b3⟩
      replace b1 := b1.trans (b3.mono b1.size)
      replace r1 := r1.keep b3
      clear b3 F1 F2 F3 rX
      go_wp2_with fail
      refine (same_any' B3 B1 d3 d1 N3 N3 V3 V3 _ HN3.out HN3.out r3 r1 (by omega) (by omega)).mono ?_
      rintro e v4 ⟨rfl, q4, rfl⟩
      rw [decide_eq_true rfl]
      replace b1 := below_drewN b1 q4
      clear r1 r3
      generalize v3.drewN q4 = v4 at b1 ⊢
      by_cases h64 : t < 64
      · have hcmp : bits BinOp.and IntKind.u64 (x : Int) (IntKind.u64.wrap (IntKind.u64.wrap (2 ^ t.toNat) - 1)) = (Y : Int) := by
          have hp : 2 ^ t.toNat ≤ 2 ^ 64 := Nat.pow_le_pow_right (by omega) (by omega)
          have hp0 : 0 < 2 ^ t.toNat := Nat.pow_pos (by omega)
          rw [ones_wrap _ (by omega), u64_and_nat _ _ HX.out (by omega), Nat.and_two_pow_sub_one_eq_mod, EY.out]
        go_wp2_with fail
        refine (awake_any _).mono ?_
        rintro e v5 ⟨rfl, b5⟩
        go_wp2_with fail
        go_ret
        exact ⟨rfl, hBr.trans ((b1.trans (b5.mono b1.size)).mono (by omega))⟩
      · obtain rfl : Y = x := by
          rw [← EY.out, show t.toNat = 64 by omega]
          exact Nat.mod_eq_of_lt HX.out
        go_wp2_with fail
        refine (awake_any _).mono ?_
        rintro e v5 ⟨rfl, b5⟩
        go_wp2_with fail
        go_ret
        exact ⟨rfl, hBr.trans ((b1.trans (b5.mono b1.size)).mono (by omega))⟩

end Go.Proofs.Ytcafhnaododjfaa
