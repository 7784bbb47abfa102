/-
  law25.node.
-/
import Derived.Test.YtjnkajdfdhockaaNodeZ
namespace Go.Proofs.Ytjnkajdfdhockaa
set_option linter.unusedVariables false
open Go.RowKit

/-- What node makes. -/
def NodeP (g : Nat) (W : World) (e : Ending) (W' : World) : Prop :=
  ∃ (lv sq : Int) (v : Value) (l : List (Int × Nat)), e = .returned (.agg #[.int .i64 lv, .int .i64 sq, v]) ∧ W'.ownsRow W.heap.size 52 2 v l.length (ev l) ∧ E64 l ∧ l.length ≤ 9 ∧ (l.length = 0 → v = .slice none 0 0) ∧
    SrcAt W' g ∧ W.grownBy W' (some g) ∧ -1 ≤ lv ∧ lv ≤ 50 ∧ -1 ≤ sq ∧ sq ≤ 16777216

theorem mem7 (r : Int) (h : r ∈ [0, 0, 1, 2, 8, 9, -1]) : -1 ≤ r ∧ r ≤ 50 := by simp at h; omega
theorem mem6 (r : Int) (h : r ∈ [0, 1, 9, 16777215, 16777216, -1]) : -1 ≤ r ∧ r ≤ 16777216 := by simp at h; omega
theorem mem6b (r : Int) (h : r ∈ [1, 1, 2, 5, 1000, 5592405]) : 1 ≤ r ∧ r ≤ 5592405 := by simp at h; omega
theorem mem4 (r : Int) (h : r ∈ [0, -1, 16777215, 16777216]) : -1 ≤ r ∧ r ≤ 16777216 := by simp at h; omega

/-- What holds while the node is made: its block is b3. -/
structure NI (g : Nat) (W X : World) (b3 : Nat) (lv sq : Int) (v : Value) : Prop where
  src : SrcAt X g
  gb : W.grownBy X (some g)
  res : Cs X W.heap.size 27 #[.int .i64 0, .int .i64 0, .slice none 0 0]
  box : Cs X b3 27 #[.int .i64 lv, .int .i64 sq, v]
  lo : W.heap.size < b3
  gl : g < W.heap.size
theorem NI.grown {g : Nat} {W X X' : World} {b3 : Nat} {lv sq : Int} {v : Value} (h : NI g W X b3 lv sq v) (hg : X.grownBy X' (some g)) (hs : SrcAt X' g) : NI g W X' b3 lv sq v :=
  have := h.gl
  have := h.lo
  ⟨hs, gb_trans h.gb hg, h.res.grown hg (by simp; omega), h.box.grown hg (by simp; omega), h.lo, h.gl⟩
theorem NI.alloc {g : Nat} {W X : World} {b3 : Nat} {lv sq : Int} {v : Value} (h : NI g W X b3 lv sq v) (o : Obj) : NI g W (X.alloc o) b3 lv sq v := h.grown (World.grownBy_alloc X o _) (h.src.alloc o)
theorem NI.fields {g : Nat} {W X : World} {b3 : Nat} {lv sq lv' sq' : Int} {v : Value} (h : NI g W X b3 lv sq v) : NI g W ((X.setCell ⟨b3, 0, none⟩ (.int .i64 lv')).setCell ⟨b3, 1, none⟩ (.int .i64 sq')) b3 lv' sq' v := by
  have h1 := h.gl
  have h2 := h.lo
  refine ⟨(h.src.set (by omega) _).set (by omega) _, gb_set (gb_set h.gb (by omega) _) (by omega) _, (h.res.far (by omega) _).far (by omega) _, ?_, h.lo, h.gl⟩
  have e1 : Cs (X.setCell ⟨b3, 0, none⟩ (.int .i64 lv')) b3 27 #[.int .i64 lv', .int .i64 sq, v] := heap_setCell_same X b3 0 _ _ _ h.box
  exact heap_setCell_same _ b3 1 _ _ _ e1

theorem gb_belowB {g n : Nat} {A B C : World} (h : A.grownBy B (some g)) (k : Below n B C) (hn : A.heap.size ≤ n) : A.grownBy C (some g) :=
  ⟨k.os.trans h.os, k.tape.trans h.tape, k.output.trans h.output, Nat.le_trans h.size k.size, fun j hj hne => (k.block j (by omega)).trans (h.block j hj hne)⟩
theorem NI.put {g : Nat} {W X X' : World} {b3 : Nat} {lv sq : Int} {v v1 : Value} (h : NI g W X b3 lv sq v) (hc : Cs X' b3 27 #[.int .i64 lv, .int .i64 sq, v1]) (hb : Below b3 X X') : NI g W X' b3 lv sq v1 := by
  have h1 := h.gl
  have h2 := h.lo
  exact ⟨h.src.below hb (by omega), gb_belowB h.gb hb (by omega), h.res.below hb (by omega), hc, h.lo, h.gl⟩
theorem E64.snoc {l : List (Int × Nat)} (h : E64 l) (k : Int) (y : Nat) (h1 : -1 ≤ k) (h2 : k ≤ 100000000) (hy : y < 18446744073709551616) : E64 (l ++ [(k, y)]) := by
  intro p hp
  rcases List.mem_append.1 hp with hp | hp
  · exact h p hp
  · rw [List.mem_singleton.1 hp]; exact ⟨by simp only []; omega, by simp only []; omega, hy⟩

set_option maxRecDepth 100000 in
set_option maxHeartbeats 2000000 in
theorem node_any (g : Nat) (W : World) (h : SrcAt W g) : Calls Try.prog 10 #[.pointer (some ⟨g, 0, none⟩)] W (NodeP g W) := by
  obtain ⟨i0, hi0, hz0, hz1, hz2⟩ := info_parts entry_info
  have hgl := h.lt
  go_enter Try.func10, Try.ntmps10
  go_wp2_with fail
  have s1 := (h.alloc (.cells #[.int .i64 0, .int .i64 0, .slice none 0 0] 27)).alloc (.cells #[.int .i64 0, .int .i64 0, .int .i64 1, .int .i64 2, .int .i64 8, .int .i64 9, .int .i64 (-1)] 3)
  have b1 := gb_alloc (gb_alloc (gb_refl g W) (.cells #[.int .i64 0, .int .i64 0, .slice none 0 0] 27)) (.cells #[.int .i64 0, .int .i64 0, .int .i64 1, .int .i64 2, .int .i64 8, .int .i64 9, .int .i64 (-1)] 3)
  have c1 := (Cs.new W 27 #[.int .i64 0, .int .i64 0, .slice none 0 0]).alloc (.cells #[.int .i64 0, .int .i64 0, .int .i64 1, .int .i64 2, .int .i64 8, .int .i64 9, .int .i64 (-1)] 3)
  have d1 := Cs.new (W.alloc (.cells #[.int .i64 0, .int .i64 0, .slice none 0 0] 27)) 3 #[.int .i64 0, .int .i64 0, .int .i64 1, .int .i64 2, .int .i64 8, .int .i64 9, .int .i64 (-1)]
  rw [World.size_alloc] at d1
  have S1 := Lib.hid s1
  have B1 := Lib.hid b1
  have C1 := Lib.hid c1
  have D1 := Lib.hid d1
  clear s1 b1 c1 d1
  generalize ((W.alloc _).alloc _) = W1 at S1 B1 C1 D1 ⊢
  refine (pick_any g (W.heap.size + 1) 7 [0, 0, 1, 2, 8, 9, -1] W1 S1.out rfl (by omega) (by omega) D1.out (by omega)).mono ?_
  rintro e W2 ⟨lv, rfl, hlv, s2, g2⟩
  have hlv := mem7 lv hlv
  have C2 := C1.out.grown g2 (by simp; omega)
  have B2 := gb_trans B1.out g2
  have S3 := Lib.hid (s2.alloc (.cells #[.int .i64 0, .int .i64 1, .int .i64 9, .int .i64 16777215, .int .i64 16777216, .int .i64 (-1)] 3))
  have B3 := Lib.hid (gb_alloc B2 (.cells #[.int .i64 0, .int .i64 1, .int .i64 9, .int .i64 16777215, .int .i64 16777216, .int .i64 (-1)] 3))
  have C3 := Lib.hid (C2.alloc (.cells #[.int .i64 0, .int .i64 1, .int .i64 9, .int .i64 16777215, .int .i64 16777216, .int .i64 (-1)] 3))
  have D3 := Lib.hid (Cs.new W2 3 #[.int .i64 0, .int .i64 1, .int .i64 9, .int .i64 16777215, .int .i64 16777216, .int .i64 (-1)])
  have hsz2 : W.heap.size ≤ W2.heap.size := B2.size
  clear C2 B2 S1 B1 C1 D1 g2 s2
  go_wp2_with fail
  generalize hB : W2.heap.size = q2 at *
  generalize (W2.alloc _) = W3 at S3 B3 C3 D3 ⊢
  clear hB
  refine (pick_any g q2 6 [0, 1, 9, 16777215, 16777216, -1] W3 S3.out rfl (by omega) (by omega) D3.out (by omega)).mono ?_
  rintro e W4 ⟨sq, rfl, hsq, s4, g4⟩
  have hsq := mem6 sq hsq
  have hni : NI g W (W4.alloc (.cells #[.int .i64 lv, .int .i64 sq, .slice none 0 0] 27)) W4.heap.size lv sq (.slice none 0 0) :=
    ⟨s4.alloc _, gb_alloc (gb_trans B3.out g4) _, (C3.out.grown g4 (by simp; omega)).alloc _, Cs.new W4 _ _, (C3.out.grown g4 (by simp; omega)).lt, hgl⟩
  have HNI := Lib.hid hni
  clear hni S3 B3 C3 D3 s4 g4
  go_wp2_with fail
  generalize hB : W4.heap.size = b3 at *
  generalize (W4.alloc _) = W5 at HNI ⊢
  clear hB
  refine (n_any g 4 W5 HNI.out.src (by omega) (by omega)).mono ?_
  rintro e W6 ⟨r, rfl, hr1, hr2, s6, g6⟩
  have HNI6 := Lib.hid (HNI.out.grown g6 s6)
  clear HNI s6 g6
  by_cases hr : 0 < r
  go_wp2_with fail
  refine (n_any g 3 W6 HNI6.out.src (by omega) (by omega)).mono ?_
  rintro e W7 ⟨lv', rfl, hl1, hl2, s7, g7⟩
  have HNI7 := Lib.hid (HNI6.out.grown g7 s7)
  clear s7 g7
  go_wp2_with fail
  refine (n_any g 50 W7 HNI7.out.src (by omega) (by omega)).mono ?_
  rintro e W8 ⟨sq', rfl, hq1, hq2, s8, g8⟩
  have HNI8 := Lib.hid (HNI7.out.grown g8 s8)
  clear s8 g8
  obtain ⟨x0, x1, x2, y0, y1, y2⟩ := HNI8.out.box.at3
  have HX := Lib.hid (HNI8.out.fields (lv' := lv') (sq' := sq'))
  have HBD : Hid (-1 ≤ lv' ∧ lv' ≤ 50 ∧ -1 ≤ sq' ∧ sq' ≤ 16777216) := ⟨by omega, by omega, by omega, by omega⟩
  go_wp2_with fail
  generalize ((W8.setCell _ _).setCell _ _) = W9 at HX ⊢
  clear x0 x1 x2 y0 y1 y2 HNI6 HNI7 HNI8 hlv hsq hl1 hl2 hq1 hq2 hr hr1 hr2
  obtain ⟨lvX, e1⟩ : ∃ x, x = lv' := ⟨_, rfl⟩
  subst e1
  obtain ⟨sqX, e1⟩ : ∃ x, x = sq' := ⟨_, rfl⟩
  subst e1
  obtain ⟨WX, e1⟩ : ∃ x, x = W9 := ⟨_, rfl⟩
  subst e1
  rotate_left
  go_wp2_with fail
  have HX := HNI6
  have HBD : Hid (-1 ≤ lv ∧ lv ≤ 50 ∧ -1 ≤ sq ∧ sq ≤ 16777216) := ⟨by omega, by omega, by omega, by omega⟩
  clear HNI6 hlv hsq hr hr1 hr2
  obtain ⟨lvX, e1⟩ : ∃ x, x = lv := ⟨_, rfl⟩
  subst e1
  obtain ⟨sqX, e1⟩ : ∃ x, x = sq := ⟨_, rfl⟩
  subst e1
  obtain ⟨WX, e1⟩ : ∃ x, x = W6 := ⟨_, rfl⟩
  subst e1
  all_goals
    refine (n_any g 3 WX HX.out.src (by omega) (by omega)).mono ?_
    rintro e WY ⟨key, rfl, hk1, hk2, sY, gY⟩
    have HY := Lib.hid (HX.out.grown gY sY)
    clear HX sY gY
    go_wp2_with fail
    refine (n_any g 10 WY HY.out.src (by omega) (by omega)).mono ?_
    rintro e WZ ⟨cnt, rfl, hc1, hc2, sZ, gZ⟩
    have HZ := Lib.hid (HY.out.grown gZ sZ)
    clear HY sZ gZ
    go_wp2_with fail
    go_loopw [4, 5] (fun kv iv wr => ∃ (k : Nat) (key : Int) (v : Value) (l : List (Int × Nat)), k ≤ 9 ∧ iv = .int .i64 k ∧ kv = .int .i64 key ∧ -1 ≤ key ∧ key + 5592405 * k ≤ 67108861 ∧ NI g W wr b3 lvX sqX v ∧ wr.ownsRow (b3 + 1) 52 2 v l.length (ev l) ∧ E64 l ∧ l.length + k ≤ 9 ∧ Hid (l.length = 0 → v = .slice none 0 0) ∧ b3 + 1 ≤ wr.heap.size) (fun _ iv _ => (intOf iv).toNat)
    case atStart => exact ⟨cnt.toNat, key, .slice none 0 0, [], by omega, by rw [show (cnt.toNat : Int) = cnt by omega], rfl, by omega, by omega, HZ.out, World.ownsRow_nil _ _ _ _, (fun p hp => absurd hp (by simp)), by simp; omega, fun _ => rfl, HZ.out.box.lt⟩
    case round =>
      obtain ⟨k, key, v, l, hk, rfl, rfl, hk1, hk2, hni, hown, hE, hlk, hnil, hsz⟩ := hrel
      obtain ⟨A1, c1, rfl⟩ := own_form hown
      obtain ⟨x0, x1, x2, y0, y1, y2⟩ := hni.box.at3
      have HN := Lib.hid hni
      have HO := Lib.hid hown
      clear hni hown
      by_cases h0 : 0 < k
      · have h0' : (0 : Int) < (k : Int) := by omega
        go_wp2_with fail
        refine wp_region_mix 4 8 (by kernel_rfl) (by kernel_rfl) (fun w' => w'.cell? ⟨b3, 2, none⟩ = some (.slice A1 l.length c1)) x2 ?_
        simp only [List.take_succ_cons, List.take_zero, List.drop_succ_cons, List.drop_zero]
        iterate 4
          refine ⟨?_, Or.inl ⟨by rfl, fun W' hS' => ?_⟩, fun _ _ _ h => h, ?_⟩
          rotate_left
          · go_simp
            with_reducible rfl
          simp only [Act.put, List.setIfInBounds_toArray, List.set_cons_zero, List.set_cons_succ]
        show wpSeqT _ _ _ _ _ _ _ _ _
        refine wpSeqT_step (fun K hK => ?_)
        go_simp
        refine (raw_any g wr.drew (HN.out.src.keep (Below.refl _ wr).drew)).mono ?_
        rintro e W1 ⟨raw, rfl, hw1, hw2, sR, gR⟩
        have HN1 := Lib.hid (HN.out.grown (grown_undrew gR) sR)
        have hgl2 := HN.out.gl
        have hlo2 := HN.out.lo
        have HO1 := Lib.hid (own_keep HO.out (grown_undrew gR) (by omega))
        have hsz1 : b3 + 1 ≤ W1.heap.size := HN1.out.box.lt
        have z2 := HN1.out.box.at3.2.2.1
        obtain ⟨y, ey, hy⟩ := any_u64 raw
        clear sR gR
        refine hK _ _ (fun _ => z2) ?_
        clear hK K
        refine wpSeqT_step (fun K hK => ?_)
        go_simp
        refine hK _ _ (fun _ => z2) ?_
        clear hK K
        refine wpSeqT_step (fun K hK => ?_)
        go_simp
        refine hK _ _ (fun _ => z2) ?_
        clear hK K
        refine wpSeqT_step (fun K hK => ?_)
        go_simp
        refine hK _ _ (fun _ => (World.cell?_alloc_lt _ _ _ (by show b3 < _; omega)).trans z2) ?_
        clear hK K
        refine wpSeqT_list _ _ _ _ (by omega) ?_
        refine wpList_append_reads _ (by rfl) (.tmp 31) (.tmp 37) _ (by rfl) (b3 + 1) 52 i0 _ 2 16 Try.underlying25 hi0 hz0 hz1 hz2 (by rfl) (by omega) (.slice A1 l.length c1) l.length (ev l) (by rfl) (HO1.out.alloc _) (some ⟨W1.heap.size, 0, none⟩) 1 1 [.int .i64 key, .int .u64 (y : Int)] (by rfl) (by rfl) (Reads.new W1 _ _) (by simp [Value.oneCell']) (by simp only [maxLen]; omega) (by omega) (by simp; omega) ?_
        intro v9 w6 hown6 hg6 hat6
        obtain ⟨A2, c2, rfl⟩ := own_form hown6
        obtain ⟨q1, q2', q3, q4, q5⟩ := DecI.put HN1.out.box HO1.out hown6 hg6 (by omega) hsz1
        obtain ⟨r0, r1, r2, r3, r4, r5⟩ := q1.at3
        have HN7 := Lib.hid (HN1.out.put q2' q4)
        have ho7 : (w6.setCell ⟨b3, 2, none⟩ (.slice A2 (l.length + 1) c2)).ownsRow (b3 + 1) 52 2 (.slice A2 (l.length + 1) c2) (l.length + 1) (ev (l ++ [(key, y)])) := by rw [ev_snoc]; exact q3
        have HO7 := Lib.hid ho7
        have hE7 := hE.snoc key y (by omega) (by omega) hy
        clear q1 q2' q3 q4 ho7 hown6 hg6 hat6 z2 x0 x1 x2 y0 y1 y2 HN HO HN1 HO1
        go_wp2_with fail
        have hD := Cs.new (w6.setCell ⟨b3, 2, none⟩ (.slice A2 (l.length + 1) c2)) 3 #[.int .i64 1, .int .i64 1, .int .i64 2, .int .i64 5, .int .i64 1000, .int .i64 5592405]
        rw [show (w6.setCell ⟨b3, 2, none⟩ (.slice A2 (l.length + 1) c2)).heap.size = w6.heap.size by simp] at hD
        have HD := Lib.hid hD
        have HN8 := Lib.hid (HN7.out.alloc (.cells #[.int .i64 1, .int .i64 1, .int .i64 2, .int .i64 5, .int .i64 1000, .int .i64 5592405] 3))
        have HO8 := Lib.hid (HO7.out.alloc (.cells #[.int .i64 1, .int .i64 1, .int .i64 2, .int .i64 5, .int .i64 1000, .int .i64 5592405] 3))
        have hsz8 : b3 + 1 ≤ w6.heap.size := by simpa using q5
        clear hD HN7 HO7 q5 r0 r1 r2 r3 r4 r5
        generalize hB : w6.heap.size = q6 at *
        generalize ((w6.setCell _ _).alloc _) = W8 at HD HN8 HO8 ⊢
        clear hB
        refine (pick_any g q6 6 [1, 1, 2, 5, 1000, 5592405] W8 HN8.out.src rfl (by omega) (by omega) HD.out (by omega)).mono ?_
        rintro e W9 ⟨d, rfl, hd, s9, g9⟩
        have hd := mem6b d hd
        have HN9 := Lib.hid (HN8.out.grown g9 s9)
        have HO9 := Lib.hid (own_keep HO8.out g9 (by omega))
        clear HN8 HO8 HD s9 g9
        go_wp2_with fail
        refine (n_any g 25 W9 HN9.out.src (by omega) (by omega)).mono ?_
        rintro e W10 ⟨r25, rfl, ha1, ha2, s10, g10⟩
        have HN10 := Lib.hid (HN9.out.grown g10 s10)
        have HO10 := Lib.hid (own_keep HO9.out g10 (by omega))
        clear HN9 HO9 s10 g10
        by_cases hz : r25 = 0
        · have hz1 : (r25 == 0) = true := by simpa using hz
          clear hz
          go_wp2_with fail
          have HD := Lib.hid (Cs.new W10 3 #[.int .i64 0, .int .i64 (-1), .int .i64 16777215, .int .i64 16777216])
          have HN11 := Lib.hid (HN10.out.alloc (.cells #[.int .i64 0, .int .i64 (-1), .int .i64 16777215, .int .i64 16777216] 3))
          have HO11 := Lib.hid (HO10.out.alloc (.cells #[.int .i64 0, .int .i64 (-1), .int .i64 16777215, .int .i64 16777216] 3))
          have hgW : g < W10.heap.size := HN10.out.src.lt
          clear HN10 HO10
          generalize hB : W10.heap.size = q7 at *
          generalize (W10.alloc _) = W11 at HD HN11 HO11 ⊢
          clear hB
          refine (pick_any g q7 4 [0, -1, 16777215, 16777216] W11 HN11.out.src rfl (by omega) (by omega) HD.out (by omega)).mono ?_
          rintro e W12 ⟨key2, rfl, hk2', s12, g12⟩
          have hk2' := mem4 key2 hk2'
          have HN12 := Lib.hid (HN11.out.grown g12 s12)
          have HO12 := Lib.hid (own_keep HO11.out g12 (by omega))
          clear HN11 HO11 HD s12 g12
          go_wp2_with fail
          go_roundw
          case rel => exact ⟨k - 1, key2, _, l ++ [(key, y)], by omega, by rw [show ((k - 1 : Nat) : Int) = (k : Int) - 1 by omega], rfl, by omega, by omega, HN12.out, by rw [List.length_append]; exact HO12.out, hE7, by simp; omega, fun h => absurd h (by simp), HN12.out.box.lt⟩
          case measure => simp [intOf]; omega
        · have hz1 : (r25 == 0) = false := by simpa using hz
          clear hz
          go_wp2_with fail
          go_roundw
          case rel => exact ⟨k - 1, key + d, _, l ++ [(key, y)], by omega, by rw [show ((k - 1 : Nat) : Int) = (k : Int) - 1 by omega], rfl, by omega, by omega, HN10.out, by rw [List.length_append]; exact HO10.out, hE7, by simp; omega, fun h => absurd h (by simp), HN10.out.box.lt⟩
          case measure => simp [intOf]; omega
      · have h0' : ¬ (0 : Int) < (k : Int) := by omega
        obtain ⟨p0, p1, p2, r0, r1, r2⟩ := HN.out.res.at3
        have hq := Lib.hid (HN.out.res.put3 (.int .i64 lvX) (.int .i64 sqX) (.slice A1 l.length c1))
        have ho := Lib.hid (own_put3 (x := .int .i64 lvX) (y := .int .i64 sqX) (z := .slice A1 l.length c1) HN.out.res HO.out)
        have hlo := HN.out.lo
        have hgl3 := HN.out.gl
        have hsrc := Lib.hid (((HN.out.src.set (i := 0) hgl3 (.int .i64 lvX)).set (i := 1) hgl3 (.int .i64 sqX)).set (i := 2) hgl3 (.slice A1 l.length c1))
        have hgb := Lib.hid (gb_set (i := 2) (gb_set (i := 1) (gb_set (i := 0) HN.out.gb (Nat.le_refl _) (.int .i64 lvX)) (Nat.le_refl _) (.int .i64 sqX)) (Nat.le_refl _) (.slice A1 l.length c1))
        have hneq : W.heap.size ≠ b3 := by omega
        clear HN HO
        go_wp2_with fail
        generalize (((wr.setCell _ _).setCell _ _).setCell _ _) = w8 at hq ho hsrc hgb ⊢
        clear x0 x1 x2 y0 y1 y2 p0 p1 p2 r0 r1 r2
        obtain ⟨x0, x1, x2, _⟩ := hq.out.at3
        exact bodyPost_ret (v := .agg #[.int .i64 lvX, .int .i64 sqX, .slice A1 l.length c1]) (by simp [results, Try.f10, go_sem, x0, x1, x2]) rfl ⟨lvX, sqX, _, l, rfl, own_lower ho.out (by omega), hE, by omega, hnil.out, hsrc.out, hgb.out, HBD.out.1, HBD.out.2.1, HBD.out.2.2.1, HBD.out.2.2.2⟩

end Go.Proofs.Ytjnkajdfdhockaa
