/-
  treenode.Split.
-/
import Derived.Test.YtjnkajdfdhockaaNodeQ
namespace Go.Proofs.Ytjnkajdfdhockaa
set_option linter.unusedVariables false
open Go.RowKit

set_option maxRecDepth 100000 in
set_option maxHeartbeats 1000000 in
theorem splitN_ok (lv sq : Int) (A : Option Addr) (c n : Nat) (l : List (Int × Nat)) (w : World) (hn : l.length = n) (hA : Reads w A (ev l)) (h8 : n ≤ 8) (hc : n ≤ c) (hn0 : 0 < n) :
    Calls Try.prog 37 #[.agg #[.int .i64 lv, .int .i64 sq, .slice A n c]] w fun e w' => ∃ va vb, e = .returned (.tuple #[.agg #[.int .i64 lv, .int .i64 sq, va], .agg #[.int .i64 lv, .int .i64 sq, vb], .int .i64 0]) ∧
      w'.ownsRow w.heap.size 52 2 va (n / 2) (ev (l.take (n / 2))) ∧ w'.ownsRow w.heap.size 52 2 vb (n - n / 2) (ev (l.drop (n / 2))) ∧ Below w.heap.size w w' := by
  have h8' : ¬ (8 : Int) < (n : Int) := by omega
  have HL := Lib.hid hn
  have HA := Lib.hid hA
  have hT : Reads w A (ev (l.take (n / 2))) := by rw [← ev_take]; exact hA.take' _
  obtain ⟨A', hA', hD⟩ : ∃ A', (if c = n / 2 then A else A.map (·.add (n / 2 * 2))) = A' ∧ Reads w A' (ev (l.drop (n / 2))) := by
    refine ⟨_, rfl, ?_⟩
    intro hz
    rw [ev_length, List.length_drop, hn] at hz
    obtain ⟨b, off, rfl, hb, hcs⟩ := hA (by rw [ev_length, hn]; omega)
    rw [if_neg (by omega)]
    refine ⟨b, off + n / 2 * 2, ?_, hb, fun j v hj => ?_⟩
    · show some ((⟨b, off, none⟩ : Addr).add (n / 2 * 2)) = _
      rw [Addr.add_lit]
    · rw [← ev_drop, List.getElem?_drop] at hj
      rw [Nat.add_assoc]
      exact hcs _ _ hj
  have HT := Lib.hid hT
  have HD := Lib.hid hD
  have HA' := Lib.hid hA'
  have hlt : (l.take (n / 2)).length = n / 2 := by rw [List.length_take]; omega
  have hld : (l.drop (n / 2)).length = n - n / 2 := by rw [List.length_drop, hn]
  have HLT := Lib.hid hlt
  have HLD := Lib.hid hld
  obtain ⟨W, hW⟩ : ∃ W, W = (((((w.alloc (.cells #[.int .i64 lv, .int .i64 sq, .slice A n c] 27)).alloc (.cells #[.int .i64 0, .int .i64 0, .slice none 0 0] 27)).alloc (.cells #[.int .i64 0, .int .i64 0, .slice none 0 0] 27)).alloc (.cells #[.int .i64 lv, .int .i64 sq, .slice A n c] 27)).alloc (.cells #[.int .i64 lv, .int .i64 sq, .slice A n c] 27)).drew := ⟨_, rfl⟩
  have C0 : Cs W w.heap.size 27 #[.int .i64 lv, .int .i64 sq, .slice A n c] := by
    rw [hW]; exact ((((Cs.new w _ _).alloc _).alloc _).alloc _).alloc _
  have C1 : Cs W (w.heap.size + 1) 27 #[.int .i64 0, .int .i64 0, .slice none 0 0] := by
    rw [hW]; have := (((Cs.new (w.alloc (.cells #[.int .i64 lv, .int .i64 sq, .slice A n c] 27)) 27 #[.int .i64 0, .int .i64 0, .slice none 0 0]).alloc (.cells #[.int .i64 0, .int .i64 0, .slice none 0 0] 27)).alloc (.cells #[.int .i64 lv, .int .i64 sq, .slice A n c] 27)).alloc (.cells #[.int .i64 lv, .int .i64 sq, .slice A n c] 27)
    rw [World.size_alloc] at this; exact this
  have C2 : Cs W (w.heap.size + 1 + 1) 27 #[.int .i64 0, .int .i64 0, .slice none 0 0] := by
    rw [hW]; have := ((Cs.new ((w.alloc (.cells #[.int .i64 lv, .int .i64 sq, .slice A n c] 27)).alloc (.cells #[.int .i64 0, .int .i64 0, .slice none 0 0] 27)) 27 #[.int .i64 0, .int .i64 0, .slice none 0 0]).alloc (.cells #[.int .i64 lv, .int .i64 sq, .slice A n c] 27)).alloc (.cells #[.int .i64 lv, .int .i64 sq, .slice A n c] 27)
    rw [World.size_alloc, World.size_alloc] at this; exact this
  have C3 : Cs W (w.heap.size + 1 + 1 + 1) 27 #[.int .i64 lv, .int .i64 sq, .slice A n c] := by
    rw [hW]; have := (Cs.new (((w.alloc (.cells #[.int .i64 lv, .int .i64 sq, .slice A n c] 27)).alloc (.cells #[.int .i64 0, .int .i64 0, .slice none 0 0] 27)).alloc (.cells #[.int .i64 0, .int .i64 0, .slice none 0 0] 27)) 27 #[.int .i64 lv, .int .i64 sq, .slice A n c]).alloc (.cells #[.int .i64 lv, .int .i64 sq, .slice A n c] 27)
    rw [World.size_alloc, World.size_alloc, World.size_alloc] at this; exact this
  have C4 : Cs W (w.heap.size + 1 + 1 + 1 + 1) 27 #[.int .i64 lv, .int .i64 sq, .slice A n c] := by
    rw [hW]; have := Cs.new ((((w.alloc (.cells #[.int .i64 lv, .int .i64 sq, .slice A n c] 27)).alloc (.cells #[.int .i64 0, .int .i64 0, .slice none 0 0] 27)).alloc (.cells #[.int .i64 0, .int .i64 0, .slice none 0 0] 27)).alloc (.cells #[.int .i64 lv, .int .i64 sq, .slice A n c] 27)) 27 #[.int .i64 lv, .int .i64 sq, .slice A n c]
    rw [World.size_alloc, World.size_alloc, World.size_alloc, World.size_alloc] at this; exact this
  have hB : Below w.heap.size w W := by
    rw [hW]; exact ((((((Below.refl _ w).alloc (Nat.le_refl _) _).alloc (by simp) _).alloc (by simp; omega) _).alloc (by simp; omega) _).alloc (by simp; omega) _).drew
  have HW := Lib.hid hW
  have K0 := Lib.hid C0
  have K1 := Lib.hid C1
  have K2 := Lib.hid C2
  have K3 := Lib.hid C3
  have K4 := Lib.hid C4
  have hs4 : w.heap.size + 1 + 1 + 1 + 1 < W.heap.size := C4.lt
  clear hn hA hT hD hA' hlt hld hW C0 C1 C2 C3 C4
  go_enter Try.func37, Try.ntmps37
  go_wp2_with fail
  go_region
  go_wp2_with fail
  rw [← HW.out]
  have hpa : w.heap.size + 1 + 1 < w.heap.size + 1 + 1 + 1 := by omega
  have hpb : w.heap.size + 1 + 1 < w.heap.size + 1 + 1 + 1 + 1 := by omega
  have hpab : w.heap.size + 1 + 1 + 1 ≠ w.heap.size + 1 + 1 + 1 + 1 := by omega
  have hpa2 : w.heap.size + 1 + 1 + 1 < W.heap.size := by omega
  have hpb2 : w.heap.size + 1 + 1 + 1 + 1 < W.heap.size := by omega
  clear HW hs4
  generalize w.heap.size + 1 + 1 + 1 + 1 = pb at *
  generalize w.heap.size + 1 + 1 + 1 = pa at *
  have KA := K3
  have KB := K4
  clear K3 K4
  rotate_left
  go_wp2_with fail
  rw [← HW.out]
  have hpa : w.heap.size + 1 + 1 < w.heap.size + 1 + 1 + 1 + 1 := by omega
  have hpb : w.heap.size + 1 + 1 < w.heap.size + 1 + 1 + 1 := by omega
  have hpab : w.heap.size + 1 + 1 + 1 + 1 ≠ w.heap.size + 1 + 1 + 1 := by omega
  have hpa2 : w.heap.size + 1 + 1 + 1 + 1 < W.heap.size := by omega
  have hpb2 : w.heap.size + 1 + 1 + 1 < W.heap.size := by omega
  clear HW hs4
  generalize w.heap.size + 1 + 1 + 1 + 1 = pa at *
  generalize w.heap.size + 1 + 1 + 1 = pb at *
  have KA := K4
  have KB := K3
  clear K3 K4
  all_goals
    obtain ⟨b, off, hAe, hbl, hcs⟩ := HA.out.e (by rw [HL.out]; omega)
    have hAd : A' = some ⟨b, off + n / 2 * 2, none⟩ := by
      rw [← HA'.out, hAe, if_neg (by omega)]
      show some ((⟨b, off, none⟩ : Addr).add (n / 2 * 2)) = _
      rw [Addr.add_lit]
    subst hAe hAd
    clear hcs HA HA'
    obtain ⟨x0, x1, x2, y0, y1, y2⟩ := K0.out.at3
    obtain ⟨a0, a1, a2, a3, a4, a5⟩ := KA.out.at3
    obtain ⟨b0, b1, b2, b3, b4, b5⟩ := KB.out.at3
    have hn2 : n / 2 ≤ n := by omega
    have hn3 : n / 2 < c := by omega
    have e1 : (n : Int) / 2 = ((n / 2 : Nat) : Int) := by omega
    rw [e1]
    clear e1
    generalize hh : n / 2 = h at *
    have HH := Lib.hid hh
    clear hh
    have t1 : (h : Int) ≤ (c : Int) := by omega
    have t2 : (h : Int) ≤ (n : Int) := by omega
    have t3 : ¬ c = h := by omega
    have t4 : h ≤ c := by omega
    have hTW := HT.out.keep hB
    have hDW := HD.out.keep hB
    have hTW2 : Reads W.drew (some ⟨b, off, none⟩) (ev (l.take h)) := hTW
    have hDW2 : Reads W.drew (some ⟨b, off + h * 2, none⟩) (ev (l.drop h)) := hDW
    have hpa0 : w.heap.size ≠ pa := by omega
    have KAd := Lib.hid (show Cs W.drew pa _ _ from KA.out)
    have KBd := Lib.hid (show Cs W.drew pb _ _ from KB.out)
    go_region_held3 (fun w' => w'.cell? ⟨w.heap.size, 2, none⟩ = some (.slice (some ⟨b, off, none⟩) n c))
      (first | exact x2 | exact x2a | exact x2s | exact x2b | exact (World.cell?_setCell_other _ _ _ _ (by simp <;> omega)).trans x2b | exact (World.cell?_setCell_other _ _ _ _ (by simp <;> omega)).trans ((World.cell?_setCell_other _ _ _ _ (by simp <;> omega)).trans x2b) | go_keep)
      (first
        | (go_at_call 46; (with_reducible refine (cloneE_any (some ⟨b, off, none⟩) c h (l.take h) _ HLT.out hTW2 (by omega)).mono ?_); rintro e W1 ⟨v1, rfl, hown1, hbA⟩; obtain ⟨A1, c1, rfl⟩ := own_form hown1; have x2a := (hbA.cell (p := ⟨w.heap.size, 2, none⟩) K0.out.lt).trans x2; have hB1 := hB.drew.trans (hbA.mono hB.size); have hBs := hB1.setCell (p := ⟨pa, 2, none⟩) (show w.heap.size ≤ pa by omega) (.slice A1 h c1); have x2s := (World.cell?_setCell_other W1 ⟨pa, 2, none⟩ ⟨w.heap.size, 2, none⟩ (.slice A1 h c1) (by simp <;> omega)).trans x2a; obtain ⟨m0, m1, m2, m3, m4, m5⟩ := (KAd.out.below hbA hpa2).at3; obtain ⟨m6, m7, m8, m9, m10, m11⟩ := (KBd.out.below hbA hpb2).at3; clear m0 m1 m3 m4 m6 m7 m9 m10; have KA1 := Lib.hid (KAd.out.below hbA hpa2); have KB1 := Lib.hid (KBd.out.below hbA hpb2); have hpa3 := Nat.lt_of_lt_of_le hpa2 hbA.size; have hpb3 := Nat.lt_of_lt_of_le hpb2 hbA.size)
        | (go_at_call 46; (with_reducible refine (cloneE_any (some ⟨b, off + h * 2, none⟩) (c - h) (n - h) (l.drop h) W1 HLD.out (HD.out.keep hB1) (by omega)).mono ?_); rintro e W2 ⟨v2, rfl, hown2, hbB⟩; obtain ⟨A2, c2, rfl⟩ := own_form hown2; have x2b := (hbB.cell (p := ⟨w.heap.size, 2, none⟩) (Nat.lt_of_lt_of_le K0.out.lt hbA.size)).trans x2a; obtain ⟨o0, o1, o2, o3, o4, o5⟩ := (KA1.out.below hbB hpa3).at3; obtain ⟨o6, o7, o8, o9, o10, o11⟩ := (KB1.out.below hbB hpb3).at3; clear o0 o1 o3 o4 o6 o7 o9 o10)
        | (go_at_call 46; (with_reducible refine (cloneE_any (some ⟨b, off + h * 2, none⟩) (c - h) (n - h) (l.drop h) (W1.setCell ⟨pa, 2, none⟩ (.slice A1 h c1)) HLD.out (HD.out.keep hBs) (by omega)).mono ?_); rintro e W2 ⟨v2, rfl, hown2, hbB⟩; obtain ⟨A2, c2, rfl⟩ := own_form hown2; have x2b := (hbB.cell (p := ⟨w.heap.size, 2, none⟩) (by simp; exact Nat.lt_of_lt_of_le K0.out.lt hbA.size)).trans x2s; obtain ⟨o0, o1, o2, o3, o4, o5⟩ := (KA1.out.set3 (u := .slice A1 h c1)).below hbB (by simp; exact hpa3) |>.at3; obtain ⟨o6, o7, o8, o9, o10, o11⟩ := ((KB1.out.far (B := pa) (i := 2) (fun e => hpab e.symm) (.slice A1 h c1)).below hbB (by simp; exact hpb3)).at3; clear o0 o1 o3 o4 o6 o7 o9 o10))
    have KA2 := KA1.out.below hbB hpa3
    have KB2 := KB1.out.below hbB hpb3
    have own1 := own_keepB hown1 hbB
    obtain ⟨j1, j2⟩ := put_field KA2 own1
    have j3 := KB2.far (B := pa) (i := 2) (fun e => hpab e.symm) (.slice A1 h c1)
    have own2 : (W2.setCell ⟨pa, 2, none⟩ (.slice A1 h c1)).ownsRow W1.heap.size 52 2 (.slice A2 (n - h) c2) (n - h) (ev (l.drop h)) := hown2.kept (row := some pa) ⟨rfl, rfl, rfl, by simp, fun j _ hj => Below.heap_setCell _ _ _ j (fun e => hj (by rw [e]))⟩ (.inr (fun e => KA2.not_row hown2 (by decide) e.symm))
    obtain ⟨j4, j5⟩ := put_field j3 own2
    have j6 := j1.far (B := pb) (i := 2) hpab (.slice A2 (n - h) c2)
    have own3 := j2.kept (row := some pb) (w' := (W2.setCell ⟨pa, 2, none⟩ (.slice A1 h c1)).setCell ⟨pb, 2, none⟩ (.slice A2 (n - h) c2)) ⟨rfl, rfl, rfl, by simp, fun j _ hj => Below.heap_setCell _ _ _ j (fun e => hj (by rw [e]))⟩ (.inr (fun e => j3.not_row j2 (by decide) e.symm))
    have hB2 := ((hB1.trans (hbB.mono hB1.size)).setCell (p := ⟨pa, 2, none⟩) (show w.heap.size ≤ pa by omega) (.slice A1 h c1)).setCell (p := ⟨pb, 2, none⟩) (show w.heap.size ≤ pb by omega) (.slice A2 (n - h) c2)
    have l1 : w.heap.size + 1 < W.heap.size := by omega
    have l2 : w.heap.size + 1 + 1 < W.heap.size := by omega
    have r1 := (((((show Cs W.drew _ _ _ from K1.out).below hbA l1).below hbB (Nat.lt_of_lt_of_le l1 hbA.size)).far (B := pa) (i := 2) (by omega) (.slice A1 h c1)).far (B := pb) (i := 2) (by omega) (.slice A2 (n - h) c2))
    have r2 := (((((show Cs W.drew _ _ _ from K2.out).below hbA l2).below hbB (Nat.lt_of_lt_of_le l2 hbA.size)).far (B := pa) (i := 2) (by omega) (.slice A1 h c1)).far (B := pb) (i := 2) (by omega) (.slice A2 (n - h) c2))
    have hbase1 : w.heap.size ≤ W.drew.heap.size := hB.size
    have hbase2 : w.heap.size ≤ W1.heap.size := hB1.size
    have G1 := Lib.hid j6
    have G2 := Lib.hid j4
    have G3 := Lib.hid r1
    have G4 := Lib.hid r2
    have O1 := Lib.hid own3
    have O2 := Lib.hid j5
    generalize ((W2.setCell ⟨pa, 2, none⟩ _).setCell ⟨pb, 2, none⟩ _) = W4 at G1 G2 G3 G4 O1 O2 hB2 ⊢
    clear r1 r2 own3 j6 own2 j4 j5 j1 j2 j3 own1 KA2 KB2 o2 o5 o8 o11 x2b x2a x2s x0 x1 x2 y0 y1 y2 m2 m5 m8 m11 a0 a1 a2 a3 a4 a5 b0 b1 b2 b3 b4 b5 hbA hbB hown1 hown2 hB1 hBs KA1 KB1
    obtain ⟨a0, a1, a2, a3, a4, a5⟩ := G1.out.at3
    obtain ⟨b0, b1, b2, b3, b4, b5⟩ := G2.out.at3
    obtain ⟨d0, d1, d2, d3, d4, d5⟩ := G3.out.at3
    obtain ⟨f0, f1, f2, f3, f4, f5⟩ := G4.out.at3
    have q1 : w.heap.size + 1 ≠ pa := by omega
    have q2 : w.heap.size + 1 ≠ pb := by omega
    have q3 : w.heap.size + 1 + 1 ≠ pa := by omega
    have q4 : w.heap.size + 1 + 1 ≠ pb := by omega
    go_wp2_with fail
    go_region
    have v1 := Lib.hid ((((G3.out.put3 (.int .i64 lv) (.int .i64 sq) (.slice A1 h c1)).far (B := w.heap.size + 1 + 1) (i := 0) (by omega) (.int .i64 lv)).far (B := w.heap.size + 1 + 1) (i := 1) (by omega) (.int .i64 sq)).far (B := w.heap.size + 1 + 1) (i := 2) (by omega) (.slice A2 (n - h) c2))
    have v2' := ((((G4.out.far (B := w.heap.size + 1) (i := 0) (by omega) (.int .i64 lv)).far (B := w.heap.size + 1) (i := 1) (by omega) (.int .i64 sq)).far (B := w.heap.size + 1) (i := 2) (by omega) (.slice A1 h c1)))
    have v2 := Lib.hid (v2'.put3 (.int .i64 lv) (.int .i64 sq) (.slice A2 (n - h) c2))
    have u1 := Lib.hid (own_put3 (x := .int .i64 lv) (y := .int .i64 sq) (z := .slice A2 (n - h) c2) v2' (own_put3 (x := .int .i64 lv) (y := .int .i64 sq) (z := .slice A1 h c1) G3.out O1.out))
    have u2 := Lib.hid (own_put3 (x := .int .i64 lv) (y := .int .i64 sq) (z := .slice A2 (n - h) c2) v2' (own_put3 (x := .int .i64 lv) (y := .int .i64 sq) (z := .slice A1 h c1) G3.out O2.out))
    have hB5 := below_put3 (below_put3 hB2 (show w.heap.size ≤ w.heap.size + 1 by omega) (.int .i64 lv) (.int .i64 sq) (.slice A1 h c1)) (show w.heap.size ≤ w.heap.size + 1 + 1 by omega) (.int .i64 lv) (.int .i64 sq) (.slice A2 (n - h) c2)
    generalize ((((((W4.setCell _ _).setCell _ _).setCell _ _).setCell _ _).setCell _ _).setCell _ _) = W5 at v1 v2 u1 u2 hB5 ⊢
    clear a0 a1 a2 a3 a4 a5 b0 b1 b2 b3 b4 b5 d0 d1 d2 d3 d4 d5 f0 f1 f2 f3 f4 f5 v2'
    obtain ⟨a0, a1, a2, _⟩ := v1.out.at3
    obtain ⟨b0, b1, b2, _⟩ := v2.out.at3
    go_wp2_with fail
    exact bodyPost_ret (v := .tuple #[.agg #[.int .i64 lv, .int .i64 sq, .slice A1 h c1], .agg #[.int .i64 lv, .int .i64 sq, .slice A2 (n - h) c2], .int .i64 0]) (by simp [results, Try.f37, go_sem, a0, a1, a2, b0, b1, b2]) rfl ⟨_, _, rfl, by rw [HH.out]; exact World.ownsRow.drew (own_lower u1.out hbase1), by rw [HH.out]; exact World.ownsRow.drew (own_lower u2.out hbase2), hB5.drew⟩

end Go.Proofs.Ytjnkajdfdhockaa
