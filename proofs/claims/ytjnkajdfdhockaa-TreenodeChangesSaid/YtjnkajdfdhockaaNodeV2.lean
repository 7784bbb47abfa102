/-
  ref25.Split.
-/
import Derived.Test.YtjnkajdfdhockaaNodeV
import Derived.Test.YtjnkajdfdhockaaNodeS
namespace Go.Proofs.Ytjnkajdfdhockaa
set_option linter.unusedVariables false
open Go.RowKit

set_option maxRecDepth 100000 in
set_option maxHeartbeats 1000000 in
theorem refSplit_no (lv sq : Int) (A : Option Addr) (c n : Nat) (l : List (Int × Nat)) (w : World) (hn : 8 < n) :
    Calls Try.prog 38 #[.agg #[.int .i64 lv, .int .i64 sq, .slice A n c]] w fun e w' => e = .returned (.tuple #[.agg #[.int .i64 0, .int .i64 0, .slice none 0 0], .agg #[.int .i64 0, .int .i64 0, .slice none 0 0], .int .i64 4]) ∧ Below w.heap.size w w' := by
  have h8' : (8 : Int) < (n : Int) := by omega
  go_enter Try.func38, Try.ntmps38
  go_wp2_with fail
  exact bodyPost_ret (v := .tuple #[.agg #[.int .i64 0, .int .i64 0, .slice none 0 0], .agg #[.int .i64 0, .int .i64 0, .slice none 0 0], .int .i64 4]) (by simp [results, Try.f38, go_sem]) rfl ⟨rfl, (((Below.refl _ w).alloc (Nat.le_refl _) _).alloc (by simp) _).alloc (by simp; omega) _⟩

/-- with, at one part. -/
theorem with1 (lv sq : Int) (A0 A : Option Addr) (n0 c0 gb c n : Nat) (l : List (Int × Nat)) (W V : World) (hl : l.length = n) (hWV : Below W.heap.size W V) (hgb : Cs V gb 25 #[.slice A n c]) (hr : Reads W A (ev l)) (hn : n ≤ 1000) :
    Calls Try.prog 48 #[.agg #[.int .i64 lv, .int .i64 sq, .slice A0 n0 c0], .slice (some ⟨gb, 0, none⟩) 1 1] V fun e w' =>
      ∃ v, e = .returned (.agg #[.int .i64 lv, .int .i64 sq, v]) ∧ w'.ownsRow W.heap.size 52 2 v n (ev l) ∧ Below V.heap.size V w' := by
  have hf : flat [⟨A, c, l⟩] = l := by simp [flat]
  have h := with_any lv sq A0 n0 c0 gb 1 1 [⟨A, c, l⟩] V rfl
    (by
      simp only [List.map_cons, List.map_nil, Part.v, hl]
      exact hgb)
    (by
      intro p hp
      simp only [List.mem_cons, List.not_mem_nil, or_false] at hp
      subst hp
      exact hr.keep hWV) (by omega) (by rw [hf]; omega)
  rw [hf, hl] at h
  refine h.mono ?_
  rintro e w' ⟨v, rfl, ho, hb⟩
  exact ⟨v, rfl, own_lower ho hWV.size, hb⟩

theorem set3_cell {W : World} {b g i : Nat} {x y z : Value} (h : b ≠ g) : (((W.setCell ⟨g, 0, none⟩ x).setCell ⟨g, 1, none⟩ y).setCell ⟨g, 2, none⟩ z).cell? ⟨b, i, none⟩ = W.cell? ⟨b, i, none⟩ := by
  have hn : ∀ k, (⟨g, k, none⟩ : Addr) ≠ ⟨b, i, none⟩ := fun k e => h (congrArg Addr.block e).symm
  rw [World.cell?_setCell_other _ _ _ _ (hn 2), World.cell?_setCell_other _ _ _ _ (hn 1), World.cell?_setCell_other _ _ _ _ (hn 0)]
theorem set3_S {W : World} {b g : Nat} {x y z a0 a1 a2 : Value} (h : b ≠ g) (hS : W.cell? ⟨b, 0, none⟩ = some a0 ∧ W.cell? ⟨b, 1, none⟩ = some a1 ∧ W.cell? ⟨b, 2, none⟩ = some a2) :
    (((W.setCell ⟨g, 0, none⟩ x).setCell ⟨g, 1, none⟩ y).setCell ⟨g, 2, none⟩ z).cell? ⟨b, 0, none⟩ = some a0 ∧ (((W.setCell ⟨g, 0, none⟩ x).setCell ⟨g, 1, none⟩ y).setCell ⟨g, 2, none⟩ z).cell? ⟨b, 1, none⟩ = some a1 ∧ (((W.setCell ⟨g, 0, none⟩ x).setCell ⟨g, 1, none⟩ y).setCell ⟨g, 2, none⟩ z).cell? ⟨b, 2, none⟩ = some a2 := by
  rw [set3_cell h, set3_cell h, set3_cell h]; exact hS
theorem Cs.far3 {w : World} {g B : Nat} {t : TypeId} {cs : Array Value} (h : Cs w g t cs) (hne : g ≠ B) (x y z : Value) : Cs (((w.setCell ⟨B, 0, none⟩ x).setCell ⟨B, 1, none⟩ y).setCell ⟨B, 2, none⟩ z) g t cs := ((h.far hne x).far hne y).far hne z
theorem Cs.drew {w : World} {g : Nat} {t : TypeId} {cs : Array Value} (h : Cs w g t cs) : Cs w.drew g t cs := h

set_option maxRecDepth 100000 in
set_option maxHeartbeats 1000000 in
theorem refSplit_ok (lv sq : Int) (A : Option Addr) (c n : Nat) (l : List (Int × Nat)) (w : World) (hn : l.length = n) (hA : Reads w A (ev l)) (h8 : n ≤ 8) (hc : n ≤ c) :
    Calls Try.prog 38 #[.agg #[.int .i64 lv, .int .i64 sq, .slice A n c]] w fun e w' => ∃ va vb, e = .returned (.tuple #[.agg #[.int .i64 lv, .int .i64 sq, va], .agg #[.int .i64 lv, .int .i64 sq, vb], .int .i64 0]) ∧
      w'.ownsRow w.heap.size 52 2 va (n / 2) (ev (l.take (n / 2))) ∧ w'.ownsRow w.heap.size 52 2 vb (n - n / 2) (ev (l.drop (n / 2))) ∧ Below w.heap.size w w' := by
  have h8' : ¬ (8 : Int) < (n : Int) := by omega
  obtain ⟨H, hH⟩ : ∃ H, n / 2 = H := ⟨_, rfl⟩
  have hH2 : H ≤ n := by omega
  have q1 : (n : Int) / 2 = (H : Int) := by omega
  have q2 : (H : Int) ≤ (c : Int) := by omega
  have q3 : (0 : Int) ≤ (H : Int) := by omega
  have q4 : H ≤ c := by omega
  have q5 : (H : Int) ≤ (n : Int) := by omega
  rw [hH]
  clear hH
  obtain ⟨W, hW⟩ : ∃ W, W = ((w.alloc (.cells #[.int .i64 lv, .int .i64 sq, .slice A n c] 27)).alloc (.cells #[.int .i64 0, .int .i64 0, .slice none 0 0] 27)).alloc (.cells #[.int .i64 0, .int .i64 0, .slice none 0 0] 27) := ⟨_, rfl⟩
  have C0 : Cs W w.heap.size 27 #[.int .i64 lv, .int .i64 sq, .slice A n c] := by
    rw [hW]; exact ((Cs.new w _ _).alloc _).alloc _
  have C1 : Cs W (w.heap.size + 1) 27 #[.int .i64 0, .int .i64 0, .slice none 0 0] := by
    rw [hW]; have := ((Cs.new (w.alloc (.cells #[.int .i64 lv, .int .i64 sq, .slice A n c] 27)) 27 #[.int .i64 0, .int .i64 0, .slice none 0 0]).alloc (.cells #[.int .i64 0, .int .i64 0, .slice none 0 0] 27))
    rw [World.size_alloc] at this; exact this
  have C2 : Cs W (w.heap.size + 1 + 1) 27 #[.int .i64 0, .int .i64 0, .slice none 0 0] := by
    rw [hW]; have := Cs.new ((w.alloc (.cells #[.int .i64 lv, .int .i64 sq, .slice A n c] 27)).alloc (.cells #[.int .i64 0, .int .i64 0, .slice none 0 0] 27)) 27 #[.int .i64 0, .int .i64 0, .slice none 0 0]
    rw [World.size_alloc, World.size_alloc] at this; exact this
  have hB : Below w.heap.size w W := by
    rw [hW]; exact (((Below.refl _ w).alloc (Nat.le_refl _) _).alloc (by simp) _).alloc (by simp; omega) _
  have HW := Lib.hid hW
  have HL := Lib.hid hn
  have K0 := Lib.hid C0
  have K1 := Lib.hid C1
  have K2 := Lib.hid C2
  have hs2 : w.heap.size + 1 + 1 < W.heap.size := C2.lt
  have HA := Lib.hid (hA.keep hB)
  clear hn hW C0 C1 C2 hA
  go_enter Try.func38, Try.ntmps38
  go_wp2_with fail
  rw [← HW.out]
  clear HW
  have HT := Lib.hid (take_reads (k := H) HA.out)
  have HD := Lib.hid (cut_reads HA.out HL.out hc hH2)
  have HLT : Hid ((l.take H).length = H) := by show _ = _; rw [List.length_take, HL.out]; omega
  have HLD : Hid ((l.drop H).length = n - H) := by show _ = _; rw [List.length_drop, HL.out]
  have hle1 : H ≤ 1000 := by omega
  have hle2 : n - H ≤ 1000 := by omega
  obtain ⟨A', hA'⟩ : ∃ A', (if c = H then A else Option.map (fun x => x.add (H * 2)) A) = A' := ⟨_, rfl⟩
  rw [show Option.map (fun x => x.add (H * 2)) A = A.map (·.add (H * 2)) from rfl] at hA'
  rw [hA'] at HD
  obtain ⟨x0, x1, x2⟩ : W.cell? ⟨w.heap.size, 0, none⟩ = some (.int .i64 lv) ∧ W.cell? ⟨w.heap.size, 1, none⟩ = some (.int .i64 sq) ∧ W.cell? ⟨w.heap.size, 2, none⟩ = some (.slice A n c) := ⟨K0.out.cell 0, K0.out.cell 1, K0.out.cell 2⟩
  have y0 : Hid (W.cell? ⟨w.heap.size, 0, none⟩ = some (.int .i64 lv) ∧ W.cell? ⟨w.heap.size, 1, none⟩ = some (.int .i64 sq) ∧ W.cell? ⟨w.heap.size, 2, none⟩ = some (.slice A n c)) := ⟨x0, x1, x2⟩
  have B1 : Below W.heap.size W (W.alloc (.cells #[.slice A H c] 25)).drew := ((Below.refl _ W).alloc (Nat.le_refl _) _).drew
  have B12 : Below W.heap.size W ((W.alloc (.cells #[.slice A H c] 25)).alloc (.cells #[.slice A' (n - H) (c - H)] 25)).drew := (((Below.refl _ W).alloc (Nat.le_refl _) _).alloc (by simp) _).drew
  have B21 : Below W.heap.size W ((W.alloc (.cells #[.slice A' (n - H) (c - H)] 25)).alloc (.cells #[.slice A H c] 25)).drew := (((Below.refl _ W).alloc (Nat.le_refl _) _).alloc (by simp) _).drew
  have D1 : Cs (W.alloc (.cells #[.slice A H c] 25)).drew W.heap.size 25 #[.slice A H c] := (Cs.new W _ _).drew
  have D12 : Cs ((W.alloc (.cells #[.slice A H c] 25)).alloc (.cells #[.slice A' (n - H) (c - H)] 25)).drew W.heap.size 25 #[.slice A H c] := ((Cs.new W _ _).alloc _).drew
  have D21 : Cs ((W.alloc (.cells #[.slice A' (n - H) (c - H)] 25)).alloc (.cells #[.slice A H c] 25)).drew (W.heap.size + 1) 25 #[.slice A H c] := by
    have := (Cs.new (W.alloc (.cells #[.slice A' (n - H) (c - H)] 25)) 25 #[.slice A H c]).drew
    rw [World.size_alloc] at this; exact this
  have E21 : Cs ((W.alloc (.cells #[.slice A' (n - H) (c - H)] 25)).alloc (.cells #[.slice A H c] 25)).drew W.heap.size 25 #[.slice A' (n - H) (c - H)] := ((Cs.new W _ _).alloc _).drew
  have E12 : Cs ((W.alloc (.cells #[.slice A H c] 25)).alloc (.cells #[.slice A' (n - H) (c - H)] 25)).drew (W.heap.size + 1) 25 #[.slice A' (n - H) (c - H)] := by
    have := (Cs.new (W.alloc (.cells #[.slice A H c] 25)) 25 #[.slice A' (n - H) (c - H)]).drew
    rw [World.size_alloc] at this; exact this
  have tok1 : True := trivial
  go_region_held3 (fun w' => w'.cell? ⟨w.heap.size, 0, none⟩ = some (.int .i64 lv) ∧ w'.cell? ⟨w.heap.size, 1, none⟩ = some (.int .i64 sq) ∧ w'.cell? ⟨w.heap.size, 2, none⟩ = some (.slice A n c))
    (first | with_reducible exact y2.out | with_reducible exact y1.out | with_reducible exact set3_S (by omega) (set3_S (by omega) y2.out) | with_reducible exact set3_S (by omega) y2.out | go_keep)
    (first
      | (go_at_call 48; clear tok1; refine (with1 lv sq A A n c _ c H (l.take H) W _ HLT.out (by first | with_reducible exact B1 | with_reducible exact B12 | with_reducible exact B21) (by first | with_reducible exact D1 | with_reducible exact D12 | with_reducible exact D21) HT.out hle1).mono ?_; rintro e w1 ⟨v1, rfl, ho1, hb1⟩; obtain ⟨A1, c1, rfl⟩ := own_form ho1; have hX1 : Below W.heap.size W w1 := (by first | with_reducible exact B1.trans (hb1.mono B1.size) | with_reducible exact B12.trans (hb1.mono B12.size) | with_reducible exact B21.trans (hb1.mono B21.size)); have y1 : Hid (w1.cell? ⟨w.heap.size, 0, none⟩ = some (.int .i64 lv) ∧ w1.cell? ⟨w.heap.size, 1, none⟩ = some (.int .i64 sq) ∧ w1.cell? ⟨w.heap.size, 2, none⟩ = some (.slice A n c)) := ⟨(hX1.cell (p := ⟨w.heap.size, 0, none⟩) (show w.heap.size < _ by omega)).trans y0.out.1, (hX1.cell (p := ⟨w.heap.size, 1, none⟩) (show w.heap.size < _ by omega)).trans y0.out.2.1, (hX1.cell (p := ⟨w.heap.size, 2, none⟩) (show w.heap.size < _ by omega)).trans y0.out.2.2⟩)
      | (go_at_call 48; refine (with1 lv sq A A' n c _ (c - H) (n - H) (l.drop H) W _ HLD.out (by first | with_reducible exact hX1 | with_reducible exact hX1.alloc hX1.size _) (by first | with_reducible exact E12.below hb1 E12.lt | with_reducible exact E21.below hb1 E21.lt | with_reducible exact Cs.new w1 _ _) HD.out hle2).mono ?_; rintro e w2 ⟨v2, rfl, ho2, hb2⟩; obtain ⟨A2, c2, rfl⟩ := own_form ho2; have hY : Below w1.heap.size w1 w2 := (by first | with_reducible exact hb2 | exact ((Below.refl _ w1).alloc (Nat.le_refl _) _).trans (hb2.mono (by simp))); have hX2 := hX1.trans (hY.mono hX1.size); have y2 : Hid (w2.cell? ⟨w.heap.size, 0, none⟩ = some (.int .i64 lv) ∧ w2.cell? ⟨w.heap.size, 1, none⟩ = some (.int .i64 sq) ∧ w2.cell? ⟨w.heap.size, 2, none⟩ = some (.slice A n c)) := ⟨(hX2.cell (p := ⟨w.heap.size, 0, none⟩) (show w.heap.size < _ by omega)).trans y0.out.1, (hX2.cell (p := ⟨w.heap.size, 1, none⟩) (show w.heap.size < _ by omega)).trans y0.out.2.1, (hX2.cell (p := ⟨w.heap.size, 2, none⟩) (show w.heap.size < _ by omega)).trans y0.out.2.2⟩; have ho1' := own_keepB ho1 hY; have hK1 := K1.out.below hX2 (show w.heap.size + 1 < _ by omega); have hK2 := K2.out.below hX2 hs2; obtain ⟨p0, p1, p2, r0, r1, r2⟩ := hK1.at3; obtain ⟨p3, p4, p5, r3, r4, r5⟩ := hK2.at3))
  all_goals
    have hne : w.heap.size + 1 + 1 ≠ w.heap.size + 1 := by omega
    have e1 := own_put3 (x := .int .i64 lv) (y := .int .i64 sq) (z := .slice A2 (n - H) c2) (hK2.far3 hne _ _ _) (own_put3 (x := .int .i64 lv) (y := .int .i64 sq) (z := .slice A1 H c1) hK1 ho1')
    have e2 := own_put3 (x := .int .i64 lv) (y := .int .i64 sq) (z := .slice A2 (n - H) c2) (hK2.far3 hne _ _ _) (own_put3 (x := .int .i64 lv) (y := .int .i64 sq) (z := .slice A1 H c1) hK1 ho2)
    have f2 := (hK2.far3 hne (.int .i64 lv) (.int .i64 sq) (.slice A1 H c1)).put3 (.int .i64 lv) (.int .i64 sq) (.slice A2 (n - H) c2)
    have f1 := (hK1.put3 (.int .i64 lv) (.int .i64 sq) (.slice A1 H c1)).far3 (Ne.symm hne) (.int .i64 lv) (.int .i64 sq) (.slice A2 (n - H) c2)
    have hbz := below_put3 (below_put3 ((hB.trans (hX2.mono hB.size))) (show w.heap.size ≤ w.heap.size + 1 by omega) (.int .i64 lv) (.int .i64 sq) (.slice A1 H c1)) (show w.heap.size ≤ w.heap.size + 1 + 1 by omega) (.int .i64 lv) (.int .i64 sq) (.slice A2 (n - H) c2)
    have F1 := Lib.hid f1
    have F2 := Lib.hid f2
    have G1 := Lib.hid e1
    have G2 := Lib.hid e2
    have hbs := hB.size
    clear f1 f2 e1 e2 hK1 hK2 p0 p1 p2 r0 r1 r2 p3 p4 p5 r3 r4 r5 y2 y1 y0 x0 x1 x2 hA'
    go_wp2_with fail
    generalize ((((((w2.setCell _ _).setCell _ _).setCell _ _).setCell _ _).setCell _ _).setCell _ _) = w8 at F1 F2 G1 G2 hbz ⊢
    obtain ⟨x0, x1, x2, _⟩ := F1.out.at3
    obtain ⟨x3, x4, x5, _⟩ := F2.out.at3
    exact bodyPost_ret (v := .tuple #[.agg #[.int .i64 lv, .int .i64 sq, .slice A1 H c1], .agg #[.int .i64 lv, .int .i64 sq, .slice A2 (n - H) c2], .int .i64 0]) (by simp [results, Try.f38, go_sem, x0, x1, x2, x3, x4, x5]) rfl ⟨_, _, rfl, own_lower G1.out hbs, own_lower G2.out (Nat.le_trans hbs (by omega)), hbz⟩

theorem refSplit_any (lv sq : Int) (A : Option Addr) (c n : Nat) (l : List (Int × Nat)) (w : World) (hn : l.length = n) (hA : Reads w A (ev l)) (hc : n ≤ c) :
    Calls Try.prog 38 #[.agg #[.int .i64 lv, .int .i64 sq, .slice A n c]] w fun e w' => ∃ va vb, e = .returned (.tuple #[.agg #[.int .i64 (spV l lv), .int .i64 (spV l sq), va], .agg #[.int .i64 (spV l lv), .int .i64 (spV l sq), vb], .int .i64 (splE l)]) ∧
      w'.ownsRow w.heap.size 52 2 va (spA l).length (ev (spA l)) ∧ w'.ownsRow w.heap.size 52 2 vb (spB l).length (ev (spB l)) ∧ Below w.heap.size w w' := by
  subst hn
  unfold spV splE spA spB
  by_cases h8 : 8 < l.length
  · rw [if_pos h8, if_pos h8, if_pos h8, if_pos h8, if_pos h8]
    refine (refSplit_no lv sq A c l.length l w h8).mono ?_
    rintro e w' ⟨rfl, hb⟩
    exact ⟨_, _, rfl, World.ownsRow_nil _ _ _ _, World.ownsRow_nil _ _ _ _, hb⟩
  · rw [if_neg h8, if_neg h8, if_neg h8, if_neg h8, if_neg h8]
    refine (refSplit_ok lv sq A c l.length l w rfl hA (by omega) hc).mono ?_
    rintro e w' ⟨va, vb, rfl, h1, h2, hb⟩
    refine ⟨va, vb, rfl, ?_, ?_, hb⟩
    · rw [List.length_take, Nat.min_eq_left (by omega)]; exact h1
    · rw [List.length_drop]; exact h2

end Go.Proofs.Ytjnkajdfdhockaa
