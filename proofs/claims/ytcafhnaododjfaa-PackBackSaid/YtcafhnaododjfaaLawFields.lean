import Derived.Test.YtcafhnaododjfaaPackL
import Derived.Test.YtcafhnaododjfaaLawSets
import Derived.Deep.RegionHeld3
namespace Go.Proofs.Ytcafhnaododjfaa
set_option linter.unusedVariables false
open Go.RowKit Go.Shelf


theorem own_keep {W W' : World} {base g : Nat} {e : TypeId} {size n : Nat} {v : Value} {xs : List Value} (h : W.ownsRow base e size v n xs) (hg : W.grownBy W' (some g)) (hl : g < base) : W'.ownsRow base e size v n xs :=
  h.kept hg (.inr (fun e => by have := own_base h _ e; omega))
theorem rows_ne {W : World} {base base' : Nat} {e e' : TypeId} {n n' : Nat} {v v' : Value} {xs xs' : List Value} (h : W.ownsRow base e 1 v n xs) (h' : W.ownsRow base' e' 1 v' n' xs') (hne : e ≠ e') : v.ownBlock = none ∨ v.ownBlock ≠ v'.ownBlock := by
  rcases h.2 with ⟨rfl, _⟩ | ⟨g, cap, cur, rfl, _, hb, _⟩
  · exact .inl rfl
  · refine .inr fun ee => ?_
    rcases h'.2 with ⟨rfl, _⟩ | ⟨g', cap', cur', rfl, _, hb', _⟩
    · simp [Value.ownBlock] at ee
    · obtain rfl : g = g' := by simpa [Value.ownBlock] using ee
      rw [hb] at hb'
      simp at hb'
      exact hne hb'.2
theorem app_below {W w' : World} {base : Nat} {e : TypeId} {size n : Nat} {v : Value} {xs : List Value} {o : Obj} (h : W.ownsRow base e size v n xs) (hg : (W.alloc o).grownBy w' v.ownBlock) (hle : base ≤ W.heap.size) : Below base W w' :=
  ((Below.refl base W).alloc hle o).grown hg (by simp; omega) (own_base h)
theorem app_below' {W w' : World} {base : Nat} {e : TypeId} {size n : Nat} {v : Value} {xs : List Value} {o : Obj} (h : W.ownsRow base e size v n xs) (hg : (W.drew.alloc o).grownBy w' v.ownBlock) (hle : base ≤ W.heap.size) : Below base W w' :=
  ((Below.refl base W).drew).trans (app_below (W := W.drew) h hg hle)
theorem any_u64 (x : Int) : ∃ y : Nat, IntKind.u64.wrap x = (y : Int) ∧ y < 18446744073709551616 := by
  have h : IntKind.u64.wrap x = x % 18446744073709551616 := by simp [IntKind.wrap, IntKind.signed, IntKind.bits]
  refine ⟨(x % 18446744073709551616).toNat, ?_, ?_⟩ <;> omega
theorem val_u64 (a b c : Int) : ∃ y : Nat, bits BinOp.or IntKind.u64 (bits BinOp.and IntKind.u64 (IntKind.u64.wrap a) (IntKind.u64.wrap b)) (IntKind.u64.wrap c) = (y : Int) ∧ y < 18446744073709551616 := by
  obtain ⟨a', ea, ha⟩ := any_u64 a
  obtain ⟨b', eb, hb⟩ := any_u64 b
  obtain ⟨c', ec, hc⟩ := any_u64 c
  have h := Nat.lt_of_le_of_lt (Nat.and_le_left (n := a') (m := b')) ha
  exact ⟨_, by rw [ea, eb, ec, u64_and_nat _ _ ha hb, u64_or_nat _ _ h hc], or_lt h hc⟩
theorem grown_below {W W' : World} {row : Option Nat} {n₀ : Nat} {A : World} (hB : Below n₀ A W) (hg : W.grownBy W' row) (hn : n₀ ≤ W.heap.size) (hr : ∀ r, row = some r → n₀ ≤ r) : Below n₀ A W' := hB.grown hg hn hr

set_option maxHeartbeats 400000 in
theorem packFields_no (A B L : Option Addr) (c d f n m k : Nat) (x : Int) (w : World) (h : 80 < n ∨ 80 < m) :
    Calls Try.prog 3 #[.slice A n c, .slice B m d, .int .u64 x, .slice L k f] w fun e w' => e = .returned (.bool true) ∧ Below w.heap.size w w' := by
  by_cases h1 : 80 < n
  · have h1' : (80 : Int) < (n : Int) := by omega
    go_enter Try.func3, Try.ntmps3
    go_wp2_with fail
    refine (awake_any _).mono ?_
    rintro e w1 ⟨rfl, hb⟩
    go_wp2_with fail
    go_ret
    exact ⟨rfl, hb⟩
  · have h1' : ¬ (80 : Int) < (n : Int) := by omega
    have h2' : (80 : Int) < (m : Int) := by omega
    go_enter Try.func3, Try.ntmps3
    go_wp2_with fail
    refine (awake_any _).mono ?_
    rintro e w1 ⟨rfl, hb⟩
    go_wp2_with fail
    go_ret
    exact ⟨rfl, hb⟩

set_option maxRecDepth 100000 in
set_option maxHeartbeats 2000000 in
theorem packFields_yes (A B L : Option Addr) (c d f n m k : Nat) (x : Nat) (ws : List Int) (vs : List Nat) (ls : List Int) (w : World) (hn : ws.length = n) (hm : vs.length = m) (hk : ls.length = k)
    (hA : Reads w A (iv ws)) (hB : Reads w B (uv vs)) (hL : Reads w L (iv ls)) (hw : W64 vs) (hl : I64 ls) (hx : x < 18446744073709551616) (h1 : n ≤ 80) (h2 : m ≤ 80) (hkf : k ≤ f) :
    Calls Try.prog 3 #[.slice A n c, .slice B m d, .int .u64 x, .slice L k f] w fun e w' => e = .returned (.bool true) ∧ Below w.heap.size w w' := by
  have h1' : ¬ (80 : Int) < (n : Int) := by omega
  have h2' : ¬ (80 : Int) < (m : Int) := by omega
  have HN := Lib.hid hn
  have HM := Lib.hid hm
  have HK := Lib.hid hk
  clear hn hm hk
  go_enter Try.func3, Try.ntmps3
  go_wp2_with fail
  refine (new_any L k f ls w HK.out hL hl hkf).mono ?_
  rintro e w1 ⟨rfl, hs1, hb1, hz1⟩
  go_wp2_with fail
  refine (n_any _ 6 w1 hs1 (by omega) (by omega)).mono ?_
  rintro e w2 ⟨r, rfl, hr0, hr1, hs2, hg2⟩
  go_wp2_with fail
  obtain ⟨q0, rfl⟩ := Int.eq_ofNat_of_zero_le hr0
  obtain ⟨i0, hi0, hz0, hz1', hz2⟩ := info_parts u64_info
  obtain ⟨i1, hi1, hy0, hy1, hy2⟩ := info_parts int_info
  have hB2 : Below w.heap.size w w2 := hb1.grown hg2 hb1.size (by intro r e; cases e; exact Nat.le_refl _)
  have hsz2 := hg2.size
  go_loopw [10, 11, 12] (fun a b i wr => ∃ (q p : Nat) (xs : List Int) (ys : List Nat), q ≤ 5 ∧ i = .int .i64 (q : Int) ∧ p + q ≤ 5 ∧ Hid (xs.length = p) ∧ Hid (ys.length = p) ∧ W64 ys ∧ wr.ownsRow (w.heap.size + 1) 3 1 a p (iv xs) ∧ wr.ownsRow (w.heap.size + 1) 24 1 b p (uv ys) ∧ SrcAt wr w.heap.size ∧ Below w.heap.size w wr ∧ w.heap.size + 1 ≤ wr.heap.size) (fun _ _ i _ => (intOf i).toNat)
  case atStart => exact ⟨q0, 0, [], [], by omega, rfl, by omega, rfl, rfl, by (intro x hx; cases hx), World.ownsRow_nil _ _ _ _, World.ownsRow_nil _ _ _ _, hs2, hB2, by omega⟩
  case round =>
    obtain ⟨q, p, xs, ys, hq, rfl, hpq, hxl, hyl, hyw, hra, hrb, hsr, hBr, hszr⟩ := hrel
    by_cases hq0 : 0 < q
    · clear hA hB hL hl hs1 hb1 hz1 hs2 hg2 hB2 hsz2 h1' h2' HN HM HK
      have hq' : (0 : Int) < (q : Int) := by omega
      obtain ⟨a1, n1, hv1⟩ := own_form hra
      obtain ⟨a2, n2, hv2⟩ := own_form hrb
      subst hv1 hv2
      go_wp2_with fail
      refine (range_any _ 1 20 wr hsr (by omega) (by omega) (by omega)).mono ?_
      rintro e w3 ⟨κ, rfl, hk1, hk2, hs3, hg3⟩
      replace hra := own_keep hra hg3 (by omega)
      replace hrb := own_keep hrb hg3 (by omega)
      have hB3 : Below w.heap.size w w3 := hBr.grown hg3 (by omega) (by intro r e; cases e; exact Nat.le_refl _)
      have hsz3 : w.heap.size + 1 ≤ w3.heap.size := Nat.le_trans hszr hg3.size
      go_wp2_with fail
      have κ0 : 0 ≤ κ := by omega
      clear hBr hsr hg3 hszr
      go_region_held3 (fun _ => True) (trivial) (first
        | (refine step_append_reads _ (by rfl) (.tmp 49) (.tmp 51) _ (by rfl) (w.heap.size + 1) 3 i1 _ 1 8 Try.underlying22 hi1 hy0 hy1 hy2 rfl (by omega) (.slice a1 p n1) p (iv xs) (by rfl) (World.ownsRow.alloc (World.ownsRow.drew hra) _) _ 1 1 [.int .i64 κ] (by rfl) (by rfl) (Reads.new _ _ _) (by simp [Value.oneCell']) (by simp only [maxLen]; omega) (by omega) (by simp; omega) ?_; intro v4 w4 hown4 hg4 hat4; obtain ⟨A4, c4, hv4⟩ := own_form hown4; subst hv4; have hb4 := app_below' hra hg4 (by omega); have hs4 := hs3.below hb4 (by omega); have hrb4 := (World.ownsRow.alloc (World.ownsRow.drew hrb) _).kept hg4 (rows_ne hrb hra (by decide)))
        | (go_at_call 13; refine (raw_any _ w4 hs4).mono ?_; rintro e w5 ⟨ρ, rfl, hρ1, hρ2, hs5, hg5⟩; have hra5 := own_keep hown4 hg5 (by omega); have hrb5 := own_keep hrb4 hg5 (by omega))
        | (go_at_call 11; refine (n_any _ 20 w5 hs5 (by omega) (by omega)).mono ?_; rintro e w6 ⟨σ, rfl, hσ1, hσ2, hs6, hg6⟩; have hra6 := own_keep hra5 hg6 (by omega); have hrb6 := own_keep hrb5 hg6 (by omega))
        | (refine step_append_reads _ (by rfl) (.tmp 53) (.tmp 68) _ (by rfl) (w.heap.size + 1) 24 i0 _ 1 8 Try.underlying23 hi0 hz0 hz1' hz2 rfl (by omega) (.slice a2 p n2) p (uv ys) (by rfl) (hrb6.alloc _) _ 1 1 [_] (by rfl) (by rfl) (Reads.new _ _ _) (by simp [Value.oneCell']) (by simp only [maxLen]; omega) (by omega) (by have := hb4.size; have := hg5.size; have := hg6.size; simp; omega) ?_; intro v7 w7 hown7 hg7 hat7; obtain ⟨A7, c7, hv7⟩ := own_form hown7; subst hv7))
      obtain ⟨y, ey, hy⟩ := val_u64 ρ (IntKind.u64.wrap (2 ^ κ.toNat) - 1) (IntKind.u64.wrap (IntKind.i64.wrap (σ.tdiv 19)) * 2 ^ κ.toNat)
      rw [ey] at hown7
      have hra7 := (hra6.alloc _).kept hg7 (rows_ne hra6 hrb6 (by decide))
      have hb7 := app_below hrb6 hg7 (by have := hb4.size; have := hg5.size; have := hg6.size; omega)
      have hs7 := hs6.below hb7 (by omega)
      have hz7 : w.heap.size + 1 ≤ w7.heap.size := by have := hb4.size; have := hg5.size; have := hg6.size; have := hb7.size; omega
      have hB7 : Below w.heap.size w w7 := ((((hB3.trans (hb4.mono (by omega))).grown hg5 (by have := hb4.size; omega) (by intro r e; cases e; exact Nat.le_refl _)).grown hg6 (by have := hb4.size; have := hg5.size; omega) (by intro r e; cases e; exact Nat.le_refl _)).trans (hb7.mono (by omega)))
      have hra8 : w7.ownsRow (w.heap.size + 1) 3 1 (.slice A4 (p + 1) c4) (p + 1) (iv (xs ++ [κ])) := by rw [iv_append]; exact hra7
      have hrb8 : w7.ownsRow (w.heap.size + 1) 24 1 (.slice A7 (p + 1) c7) (p + 1) (uv (ys ++ [y])) := by rw [uv_append]; exact hown7
      clear hown7 hra7 hat7 hg7 hra6 hrb6 hg6 hs6 hra5 hrb5 hg5 hs5 hown4 hg4 hat4 hb4 hs4 hrb4 hra hrb hs3 ey
      go_wp2_with fail
      go_roundw
      case rel => exact ⟨q - 1, p + 1, xs ++ [κ], ys ++ [y], by omega, val_int (by omega), by omega, Lib.hid (by rw [List.length_append, hxl.out]; rfl), Lib.hid (by rw [List.length_append, hyl.out]; rfl), (by intro z hz; rcases List.mem_append.1 hz with h | h; exact hyw z h; simp at h; omega), hra8, hrb8, hs7, hB7, hz7⟩
      case measure => simp [intOf]; omega
    · obtain rfl : q = 0 := by omega
      clear hL hl hs1 hb1 hz1 hs2 hg2 hB2 hsz2 HK
      obtain ⟨a1, n1, hv1⟩ := own_form hra
      obtain ⟨a2, n2, hv2⟩ := own_form hrb
      subst hv1 hv2
      have rX := Reads.of_own hra
      have rY := Reads.of_own hrb
      have rA := hA.keep hBr
      have rB := hB.keep hBr
      have F1 := Lib.hid (fun W hA hB => fields_all A B c d n m ws vs W HN.out HM.out hA hB (by omega) hw)
      have G1 := Lib.hid (fun W hA hB => refFields_all A B c d n m ws vs W HN.out HM.out hA hB (by omega) hw)
      have F2 := Lib.hid (fun W hA hB => fields_all a1 a2 n1 n2 p p xs ys W hxl.out hyl.out hA hB (by omega) hyw)
      have G2 := Lib.hid (fun W hA hB => refFields_all a1 a2 n1 n2 p p xs ys W hxl.out hyl.out hA hB (by omega) hyw)
      have F3 := Lib.hid (fun W hA => split_all x A c n ws W HN.out hA (by omega) hx)
      have G3 := Lib.hid (fun W hA => refSplit_all x A c n ws W HN.out hA (by omega) hx)
      have F4 := Lib.hid (fun W hA => split_all x a1 n1 p xs W hxl.out hA (by omega) hx)
      have G4 := Lib.hid (fun W hA => refSplit_all x a1 n1 p xs W hxl.out hA (by omega) hx)
      have L3 : (splitR ws x).length ≤ 80 := Nat.le_trans (splitR_len ws x) (by rw [HN.out]; exact h1)
      have L4 : (splitR xs x).length ≤ 80 := Nat.le_trans (splitR_len xs x) (by rw [hxl.out]; omega)
      generalize wordR ws vs = X1 at F1 G1
      generalize wordE ws vs = E1 at F1 G1
      generalize wordR xs ys = X2 at F2 G2
      generalize wordE xs ys = E2 at F2 G2
      generalize splitR ws x = V3 at F3 G3 L3
      generalize splitE ws = E3 at F3 G3
      generalize splitR xs x = V4 at F4 G4 L4
      generalize splitE xs = E4 at F4 G4
      obtain ⟨N3, hN3⟩ : ∃ N, V3.length = N := ⟨_, rfl⟩
      obtain ⟨N4, hN4⟩ : ∃ N, V4.length = N := ⟨_, rfl⟩
      rw [hN3] at F3 G3 L3
      rw [hN4] at F4 G4 L4
      have HN3 := Lib.hid hN3
      have HN4 := Lib.hid hN4
      clear hN3 hN4 hA hB HN HM hxl hyl hra hrb hsr
      go_wp2_with fail
      refine (F1.out _ rA rB).mono ?_
      rintro e v1 ⟨rfl, b1⟩
      go_wp2_with fail
      refine (G1.out _ (rA.keep b1) (rB.keep b1)).mono ?_
      rintro e v2 ⟨rfl, q2, rfl⟩
      replace b1 := below_drewN b1 q2
      generalize v1.drewN q2 = v2 at b1 ⊢
      go_wp2_with fail
      refine (F2.out _ (rX.keep b1) (rY.keep b1)).mono ?_
      rintro e v3 ⟨rfl, b3⟩
      replace b1 := b1.trans (b3.mono b1.size)
      clear b3
      go_wp2_with fail
      refine (G2.out _ (rX.keep b1) (rY.keep b1)).mono ?_
      rintro e v4 ⟨rfl, q4, rfl⟩
      replace b1 := below_drewN b1 q4
      generalize v3.drewN q4 = v4 at b1 ⊢
      go_wp2_with fail
      refine (F3.out _ (rA.keep b1)).mono ?_
      rintro e v5 ⟨B5, d5, rfl, r5, b5⟩
      replace b1 := b1.trans (b5.mono b1.size)
      clear b5
      go_wp2_with fail
      refine (G3.out _ (rA.keep b1)).mono ?_
      rintro e v6 ⟨B6, d6, rfl, r6, b6⟩
      replace b1 := b1.trans (b6.mono b1.size)
      replace r5 := r5.keep b6
      clear b6
      go_wp2_with fail
      refine (F4.out _ (rX.keep b1)).mono ?_
      rintro e v7 ⟨B7, d7, rfl, r7, b7⟩
      replace b1 := b1.trans (b7.mono b1.size)
      replace r5 := r5.keep b7
      replace r6 := r6.keep b7
      clear b7
      go_wp2_with fail
      refine (G4.out _ (rX.keep b1)).mono ?_
      rintro e v8 ⟨B8, d8, rfl, r8, b8⟩
      replace b1 := b1.trans (b8.mono b1.size)
      replace r5 := r5.keep b8
      replace r6 := r6.keep b8
      replace r7 := r7.keep b8
      clear b8 F1 F2 F3 F4 G1 G2 G3 G4 rA rB rX rY
      have e1 : (E1 == E1) = true := by simp
      go_wp2_with fail
      refine (same_any' B5 B6 d5 d6 N3 N3 V3 V3 _ HN3.out HN3.out r5 r6 (by omega) (by omega)).mono ?_
      rintro e v9 ⟨rfl, q9, rfl⟩
      rw [decide_eq_true rfl]
      replace b1 := below_drewN b1 q9
      replace r7 := r7.drewN q9
      replace r8 := r8.drewN q9
      clear r5 r6
      generalize v8.drewN q9 = v9 at b1 r7 r8 ⊢
      go_wp2_with fail
      refine (same_any' B7 B8 d7 d8 N4 N4 V4 V4 _ HN4.out HN4.out r7 r8 (by omega) (by omega)).mono ?_
      rintro e v10 ⟨rfl, q10, rfl⟩
      rw [decide_eq_true rfl]
      replace b1 := below_drewN b1 q10
      generalize v9.drewN q10 = v10 at b1 ⊢
      go_wp2_with fail
      refine (awake_any _).mono ?_
      rintro e v11 ⟨rfl, b11⟩
      go_wp2_with fail
      go_ret
      exact ⟨rfl, hBr.trans ((b1.trans (b11.mono b1.size)).mono (by omega))⟩

end Go.Proofs.Ytcafhnaododjfaa
