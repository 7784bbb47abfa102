import Derived.Test.YtcafhnaododjfaaLawTexts
namespace Go.Proofs.Ytcafhnaododjfaa
set_option linter.unusedVariables false
open Go.RowKit

theorem refWords_any' (s : ByteArray) (w : World) (L : Nat) (ws : List Nat) (hs : s.size ≤ 100000) (hL : lenW s.size = L) (hws : textW s.data.toList = ws) :
    Calls Try.prog 25 #[.string s] w fun e w' => ∃ g cap, e = .returned (.slice (some ⟨g, 0, none⟩) L cap) ∧ w'.ownsRow w.heap.size 24 1 (.slice (some ⟨g, 0, none⟩) L cap) L (uv ws) ∧ w.heap.size ≤ g ∧ Below w.heap.size w w' := by
  subst hL hws
  refine (refWords_any s w hs).mono ?_
  rintro e w' ⟨v, rfl, hown, hb⟩
  obtain ⟨g, cap, rfl, hg, hlt⟩ := hown.form (by unfold lenW; omega)
  exact ⟨g, cap, rfl, hown, hg, hb⟩

/-- An index that Go's two remainders make. -/
theorem idx_mod (a : Int) (n : Nat) (hn : 1 ≤ n) (hn2 : n ≤ 100000) : ∃ (T : Int) (i : Nat), a.tmod n = T ∧ -(n : Int) < T ∧ T < n ∧ i < n ∧ (T + n) % n = i := by
  have h1 := Int.tmod_lt_of_pos a (b := n) (by omega)
  have h2 : -(n : Int) < a.tmod n := Int.lt_tmod_of_pos a (by omega)
  refine ⟨a.tmod n, ((a.tmod (n : Int) + n) % n).toNat, rfl, h2, h1, ?_, ?_⟩
  · have := Int.emod_lt_of_pos (a.tmod (n : Int) + n) (b := n) (by omega)
    omega
  · have := Int.emod_nonneg (a.tmod (n : Int) + n) (b := n) (by omega)
    omega

theorem reads_grown_nil {w w' : World} {A : Option Addr} {vs : List Value} (h : Reads w A vs) (hg : w.drew.grownBy w' (Value.slice none 0 0).ownBlock) : Reads w' A vs :=
  h.keep ⟨hg.os, hg.tape, hg.output, hg.size, fun k hk => hg.block k hk (by simp [Value.ownBlock])⟩
theorem below_grown_nil {B : Nat} {a w w' : World} (h : Below B a w) (hB : B ≤ w.heap.size) (hg : w.grownBy w' (Value.slice none 0 0).ownBlock) : Below B a w' :=
  h.grown hg hB (by simp [Value.ownBlock])
theorem below_two {W w3 w4 : World} {o : Obj} {v3 : Value} {n : Nat} {xs : List Value} (hown3 : w3.ownsRow W.heap.size 24 1 v3 n xs) (hg3 : W.drew.grownBy w3 (Value.slice none 0 0).ownBlock) (hg4 : (w3.alloc o).grownBy w4 v3.ownBlock) : Below W.heap.size W w4 := by
  have h3 : Below W.heap.size W w3 := below_grown_nil (Below.refl _ W).drew (Nat.le_refl _) hg3
  exact (h3.alloc h3.size o).grown hg4 (by have := h3.size; simp; omega) (fun k hk => (hown3.lt k hk).1)
theorem below_two' {W w3 w4 : World} {o : Obj} {v3 : Value} {n : Nat} {xs : List Value} (hown3 : w3.ownsRow W.heap.size 24 1 v3 n xs) (hg3 : (W.alloc o).drew.grownBy w3 (Value.slice none 0 0).ownBlock) (hg4 : w3.grownBy w4 v3.ownBlock) : Below W.heap.size W w4 := by
  have h3 : Below W.heap.size W w3 := below_grown_nil ((Below.refl _ W).alloc (Nat.le_refl _) o).drew (by show W.heap.size ≤ (W.alloc o).heap.size; simp) hg3
  exact h3.grown hg4 h3.size (fun k hk => (hown3.lt k hk).1)
theorem Reads.take {w : World} {A : Option Addr} {l : List Nat} (h : Reads w A (uv l)) (n : Nat) : Reads w A (uv (l.take n)) := by
  intro hz
  rw [uv_length] at hz
  have hz' : l.length ≠ 0 := by intro e; apply hz; simp [e]
  obtain ⟨b, off, e, hb, hc⟩ := h (by rw [uv_length]; exact hz')
  refine ⟨b, off, e, hb, fun i v hi => hc i v ?_⟩
  unfold uv at hi ⊢
  rw [List.map_take] at hi
  have hlt := (List.getElem?_eq_some_iff.1 hi).1
  rw [List.getElem?_take, if_pos (by simp at hlt; omega)] at hi
  exact hi
theorem okT_back (l : List Nat) (h : txtE l = 0) : okT l ∧ (txtR l).size ≤ 8192 ∧ textW (txtR l).data.toList = l := by
  have hok : okT l := by
    unfold txtE at h
    by_cases h' : okT l
    · exact h'
    · rw [if_neg h'] at h; cases h
  refine ⟨hok, ?_, ?_⟩
  · unfold txtR
    rw [if_pos hok]
    show (fromL l _).toArray.size ≤ 8192
    simp only [List.size_toArray, fromL_length]
    exact hok.2.1
  · unfold txtR
    rw [if_pos hok]
    exact hok.2.2.2
theorem txtE_01 (l : List Nat) : txtE l = 0 ∨ txtE l = 2 := by unfold txtE; split <;> simp

/-- The four lists of the law, where they lie. -/
def FourAt (W : World) (g4 : Nat) : Prop := ∀ k, k < 4 → ∃ (Ak : Option Addr) (ck : Nat) (lk : List Nat), W.cell? ⟨g4, k, none⟩ = some (.slice Ak lk.length ck) ∧ Reads W Ak (uv lk) ∧ W64 lk ∧ lk.length ≤ 100
theorem FourAt.keep {W W' : World} {g4 : Nat} (h : FourAt W g4) (hb : Below W.heap.size W W') (hg : g4 < W.heap.size) : FourAt W' g4 := by
  intro k hk
  obtain ⟨Ak, ck, lk, h1, h2, h3, h4⟩ := h k hk
  exact ⟨Ak, ck, lk, (hb.cell (p := ⟨g4, k, none⟩) hg).trans h1, h2.keep hb, h3, h4⟩

theorem own_cap {w : World} {base : Nat} {e : TypeId} {size n cap : Nat} {A : Option Addr} {xs : List Value} (h : w.ownsRow base e size (.slice A n cap) n xs) : n ≤ cap := by
  rcases h.2 with ⟨h1, h2⟩ | ⟨g', cap', cur, h1, _, _, h2, _⟩
  · omega
  · injection h1 with _ _ h3
    omega

set_option maxRecDepth 100000 in
set_option maxHeartbeats 2000000 in
theorem packWords_yes (A : Option Addr) (c : Nat) (l : List Nat) (s : ByteArray) (at0 : Int) (x : Nat) (w : World) (hA : Reads w A (uv l)) (hw : W64 l) (hl : l.length ≤ 60) (hs : s.size ≤ 200) (hx : x < 18446744073709551616) (ha1 : -9223372036854775808 ≤ at0) (ha2 : at0 ≤ 9223372036854775807) :
    Calls Try.prog 7 #[.slice A l.length c, .string s, .int .i64 at0, .int .u64 x] w fun e w' => e = .returned (.bool true) ∧ Below w.heap.size w w' := by
  have h1 : ¬ 60 < (l.length : Int) := by omega
  have h2 : ¬ 200 < (s.size : Int) := by omega
  obtain ⟨i0, hi0, hz0, hz1, hz2⟩ := info_parts u64_info
  obtain ⟨L, hL⟩ : ∃ L, lenW s.size = L := ⟨_, rfl⟩
  obtain ⟨ws, hws⟩ : ∃ ws, textW s.data.toList = ws := ⟨_, rfl⟩
  have hL1 : 1 ≤ L ∧ L ≤ 30 := by rw [← hL]; unfold lenW; split <;> omega
  have hlen : ws.length = L := by rw [← hws, ← hL]; unfold textW; rw [textTo_length]; rw [Array.length_toList]; rfl
  have hww : W64 ws := by rw [← hws]; exact textTo_w _ _ (by rw [Array.length_toList]; show s.size < _; omega)
  have HW := Lib.hid (fun W => refWords_any' s W L ws (by omega) hL hws)
  have HLEN := Lib.hid hlen
  clear hlen hL hws
  obtain ⟨T, i, hT, hT1, hT2, hi, hmod⟩ := idx_mod at0 L (by omega) (by omega)
  go_enter Try.func7, Try.ntmps7
  go_wp2_with fail
  refine (HW.out _).mono ?_
  rintro e w1 ⟨g, cap, rfl, hown, hg, hb1⟩
  have hc := hown.cellAt i (by omega)
  rw [uv_at _ _ (by rw [HLEN.out]; exact hi)] at hc
  have hf := hown.frozenAt i
  obtain ⟨y, ey⟩ : ∃ y, ws[i]?.getD 0 = y := ⟨_, rfl⟩
  have hy := hww.at i
  rw [ey] at hc hy
  have EY := Lib.hid ey
  clear ey
  go_wp2_with fail
  rw [u64_xor_nat y x hy hx]
  have hown2 := (hown.stored i (.int .u64 ((y ^^^ x : Nat) : Int))).1
  have hb2 := hb1.setCell (p := ⟨g, i, none⟩) hg (.int .u64 ((y ^^^ x : Nat) : Int))
  rw [uv_set] at hown2
  obtain ⟨ws2, hws2⟩ : ∃ ws2, ws.set i (y ^^^ x) = ws2 := ⟨_, rfl⟩
  have hlen2 : Hid (ws2.length = L) := by show _ = _; rw [← hws2, List.length_set]; exact HLEN.out
  have hw2 : W64 ws2 := by rw [← hws2]; exact hww.set _ _ (xor_lt hy hx)
  rw [hws2] at hown2
  clear hws2 hc hf hown
  generalize (w1.setCell _ _) = W2 at hown2 hb2 ⊢
  have r2 := Reads.of_own hown2
  have hgl : g < W2.heap.size := (hown2.lt g rfl).2
  have hcap : L ≤ cap := own_cap hown2
  have hA2 := hA.keep hb2
  clear hown2 HW HLEN hww hA hb1 hg hT hmod EY hT1 hT2
  have t1 : IntKind.i64.wrap ((L : Int) - 1) = (L : Int) - 1 := IntWalk.i64_in _ (by omega)
  have t2 : (0 : Int) ≤ (L : Int) - 1 := by omega
  have t3 : (1 : Int) ≤ (L : Int) := by omega
  have t4 : (L : Int) - 1 ≤ (cap : Int) := by omega
  have t5 : (L : Int) ≤ (cap : Int) + 1 := by omega
  have t6 : ((L : Int) - 1).toNat = L - 1 := by omega
  go_region_held3 (fun _ => True) (trivial) (first | (refine step_append_reads _ (by rfl) (.const (.slice none 0 0)) (.tmp 47) _ (by rfl) W2.heap.size 24 i0 _ 1 8 Try.underlying23 hi0 hz0 hz1 hz2 rfl (by omega) (.slice none 0 0) 0 [] (by rfl) (World.ownsRow_nil _ _ _ _) (some ⟨g, 0, none⟩) L cap (uv ws2) (by rfl) (by rw [uv_length, hlen2.out]; omega) (by first | exact r2 | exact r2.alloc _) (uv_one _) (by simp only [maxLen]; omega) (by omega) (by simp) ?_; intro v3 w3 hown3 hg3 hat3) | (refine step_append_reads _ (by rfl) (.tmp 48) (.tmp 49) _ (by rfl) W2.heap.size 24 i0 _ 1 8 Try.underlying23 hi0 hz0 hz1 hz2 rfl (by omega) v3 (0 + L) ([] ++ uv ws2) (by rfl) (by first | exact hown3 | exact hown3.alloc _) _ 1 1 [.int .u64 0] (by rfl) (by rfl) (by first | exact Reads.new _ _ _ | exact reads_grown_nil (Reads.new W2 #[.int .u64 0] 24) hg3) (by simp [Value.oneCell']) (by simp only [maxLen]; omega) (by omega) (by have := hg3.size; simp at this ⊢; omega) ?_; intro v4 w4 hown4 hg4 hat4; obtain ⟨A4, c4, hv4⟩ := own_form hown4; subst hv4))
  all_goals
    have hb4 : Below W2.heap.size W2 w4 := by first | exact below_two hown3 hg3 hg4 | exact below_two' hown3 hg3 hg4
    have r4 : Reads w4 A4 (uv (ws2 ++ [0])) := by
      have := Reads.of_own hown4
      rw [uv_append]
      simpa [uv] using this
    clear hown3 hg3 hg4 hat3 hat4 hown4 t1 t2 t3 t4 t5 t6
    have hL2 : (ws2 ++ [0]).length = L + 1 := by rw [List.length_append, hlen2.out]; rfl
    have hL3 : (ws2.take (L - 1)).length = L - 1 := by rw [List.length_take, hlen2.out]; omega
    have hfour : FourAt (w4.alloc (.cells #[.slice A l.length c, .slice (some ⟨g, 0, none⟩) L cap, .slice A4 (L + 1) c4, .slice (some ⟨g, 0, none⟩) (L - 1) cap] 23)) w4.heap.size := by
      intro k hk
      rw [World.cell?_alloc_at _ _ _ _ rfl]
      match k, hk with
      | 0, _ => exact ⟨A, c, l, rfl, (hA2.keep hb4).alloc _, hw, by omega⟩
      | 1, _ => exact ⟨_, cap, ws2, by rw [hlen2.out]; rfl, (r2.keep hb4).alloc _, hw2, by rw [hlen2.out]; omega⟩
      | 2, _ => exact ⟨A4, c4, ws2 ++ [0], by rw [hL2]; rfl, r4.alloc _, (by intro x hx; rcases List.mem_append.1 hx with h | h; exact hw2 x h; simp at h; omega), by rw [hL2]; omega⟩
      | 3, _ => exact ⟨_, cap, ws2.take (L - 1), by rw [hL3]; rfl, ((r2.take _).keep hb4).alloc _, (fun x hx => hw2 x (List.mem_of_mem_take hx)), by rw [hL3]; omega⟩
    have hb5 : Below w.heap.size w (w4.alloc (.cells #[.slice A l.length c, .slice (some ⟨g, 0, none⟩) L cap, .slice A4 (L + 1) c4, .slice (some ⟨g, 0, none⟩) (L - 1) cap] 23)) := (hb2.trans (hb4.mono hb2.size)).alloc (Nat.le_trans hb2.size hb4.size) _
    have hg4 : w4.heap.size < (w4.alloc (.cells #[.slice A l.length c, .slice (some ⟨g, 0, none⟩) L cap, .slice A4 (L + 1) c4, .slice (some ⟨g, 0, none⟩) (L - 1) cap] 23)).heap.size := by simp
    clear hL2 hL3 r4 hA2 r2 hb4 hb2 hlen2
    generalize hW4 : w4.alloc (.cells #[.slice A l.length c, .slice (some ⟨g, 0, none⟩) L cap, .slice A4 (L + 1) c4, .slice (some ⟨g, 0, none⟩) (L - 1) cap] 23) = W4 at hfour hb5 hg4 ⊢
    generalize w4.heap.size = g4 at hfour hg4 ⊢
    clear hW4
    have HF := Lib.hid hfour
    clear hfour
    go_wp2_with fail
    go_loopw [11] (fun i wr => ∃ k : Nat, k ≤ 4 ∧ i = .int .i64 k ∧ Below W4.heap.size W4 wr) (fun i _ => 4 - (intOf i).toNat)
    case atStart => exact ⟨0, by omega, rfl, Below.refl _ _⟩
    case round =>
      obtain ⟨k, hk, rfl, hb⟩ := hrel
      by_cases hlt : k < 4
      · obtain ⟨Ak, ck, lk, e1, e2, e3, e4⟩ := (HF.out.keep hb hg4) k hlt
        go_wp2_with fail
        refine (fromText_all Ak ck lk.length lk _ rfl e2 (by omega) e3).mono ?_
        rintro e w5 ⟨rfl, b5⟩
        have e1' := (b5.cell (p := ⟨g4, k, none⟩) (by have := hb.size; show g4 < _; omega)).trans e1
        go_wp2_with fail
        refine (refFromText_all Ak ck lk.length lk _ rfl (e2.keep b5) (by omega) e3).mono ?_
        rintro e w6 ⟨rfl, b6⟩
        have e1'' := (b6.cell (p := ⟨g4, k, none⟩) (by have := hb.size; have := b5.size; show g4 < _; omega)).trans e1'
        have e2'' := (e2.keep b5).keep b6
        have d6 : Below W4.heap.size W4 w6 := (hb.trans (b5.mono hb.size)).trans (b6.mono (Nat.le_trans hb.size b5.size))
        have q2 : ((txtR lk).toList == (txtR lk).toList) = true := by simp
        rcases txtE_01 lk with hE | hE
        · obtain ⟨_, f2, f3⟩ := okT_back lk hE
          have F3 := Lib.hid f3
          rw [hE]
          clear hE f3
          have f2' : ((txtR lk).size : Int) ≤ 8192 := by omega
          go_wp2_with fail
          refine (text_yes (txtR lk) _ f2).mono ?_
          rintro e w7 ⟨v7, rfl, o7, b7⟩
          obtain ⟨A7, c7, hv7⟩ := own_form o7
          subst hv7
          have r7 := Reads.of_own o7
          have l7 : lenW (txtR lk).size = lk.length := by
            have := congrArg List.length F3.out
            unfold textW at this
            rw [textTo_length, Array.length_toList] at this
            exact this
          rw [F3.out] at r7
          rw [l7]
          clear o7 l7
          have e1c := (b7.cell (p := ⟨g4, k, none⟩) (by have := d6.size; show g4 < _; omega)).trans e1''
          go_wp2_with fail
          refine (same_any' A7 Ak c7 ck _ _ lk lk _ rfl rfl r7 (e2''.keep b7) (by omega) (by omega)).mono ?_
          rintro e w8 ⟨rfl, n8, rfl⟩
          rw [decide_eq_true (rfl : lk = lk)]
          go_wp2_with fail
          go_roundw
          case rel => exact ⟨k + 1, by omega, by go_num, below_drewN (d6.trans (b7.mono d6.size)) n8⟩
          case measure => simp [intOf]; omega
        · rw [hE]
          clear hE
          go_wp2_with fail
          go_roundw
          case rel => exact ⟨k + 1, by omega, by go_num, d6⟩
          case measure => simp [intOf]; omega
      · go_wp2_with fail
        refine (awake_any _).mono ?_
        rintro e w8 ⟨rfl, b8⟩
        go_wp2_with fail
        go_ret
        have d7 := hb5.trans (hb.mono hb5.size)
        exact ⟨rfl, d7.trans (b8.mono d7.size)⟩

set_option maxHeartbeats 400000 in
theorem packWords_no (A : Option Addr) (c n : Nat) (s : ByteArray) (at0 x : Int) (w : World) (h : 60 < n ∨ 200 < s.size) :
    Calls Try.prog 7 #[.slice A n c, .string s, .int .i64 at0, .int .u64 x] w fun e w' => e = .returned (.bool true) ∧ Below w.heap.size w w' := by
  by_cases h1 : 60 < n
  · have h1' : 60 < (n : Int) := by omega
    go_enter Try.func7, Try.ntmps7
    go_wp2_with fail
    refine (awake_any _).mono ?_
    rintro e w8 ⟨rfl, b8⟩
    go_wp2_with fail
    go_ret
    exact ⟨rfl, b8⟩
  · have h1' : ¬ 60 < (n : Int) := by omega
    have h2 : 200 < (s.size : Int) := by omega
    go_enter Try.func7, Try.ntmps7
    go_wp2_with fail
    refine (awake_any _).mono ?_
    rintro e w8 ⟨rfl, b8⟩
    go_wp2_with fail
    go_ret
    exact ⟨rfl, b8⟩

end Go.Proofs.Ytcafhnaododjfaa
