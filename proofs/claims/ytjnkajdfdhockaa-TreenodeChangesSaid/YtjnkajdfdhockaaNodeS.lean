/-
  treenode.Split of a node without entries; at any node.
-/
import Derived.Test.YtjnkajdfdhockaaNodeR
namespace Go.Proofs.Ytjnkajdfdhockaa
set_option linter.unusedVariables false
open Go.RowKit

theorem cloneE_nil (w : World) : Calls Try.prog 46 #[.slice none 0 0] w fun e w' => e = .returned (.slice none 0 0) ∧ w = w' := by
  have hq := fun W => Lib.run_eql_slice_nil (P := Try.prog) W 25 52 none 0 0 0 0 Try.underlying25
  simp only [Option.isNone_none] at hq
  go_enter Try.func46, Try.ntmps46
  go_wp2
  go_ret
  exact ⟨rfl, rfl⟩

set_option maxRecDepth 100000 in
set_option maxHeartbeats 1000000 in
theorem splitN_nil (lv sq : Int) (w : World) :
    Calls Try.prog 37 #[.agg #[.int .i64 lv, .int .i64 sq, .slice none 0 0]] w fun e w' => e = .returned (.tuple #[.agg #[.int .i64 lv, .int .i64 sq, .slice none 0 0], .agg #[.int .i64 lv, .int .i64 sq, .slice none 0 0], .int .i64 0]) ∧ Below w.heap.size w w' := by
  obtain ⟨W, hW⟩ : ∃ W, W = (((((w.alloc (.cells #[.int .i64 lv, .int .i64 sq, .slice none 0 0] 27)).alloc (.cells #[.int .i64 0, .int .i64 0, .slice none 0 0] 27)).alloc (.cells #[.int .i64 0, .int .i64 0, .slice none 0 0] 27)).alloc (.cells #[.int .i64 lv, .int .i64 sq, .slice none 0 0] 27)).alloc (.cells #[.int .i64 lv, .int .i64 sq, .slice none 0 0] 27)).drew := ⟨_, rfl⟩
  have C0 : Cs W w.heap.size 27 #[.int .i64 lv, .int .i64 sq, .slice none 0 0] := by
    rw [hW]; exact ((((Cs.new w _ _).alloc _).alloc _).alloc _).alloc _
  have C1 : Cs W (w.heap.size + 1) 27 #[.int .i64 0, .int .i64 0, .slice none 0 0] := by
    rw [hW]; have := (((Cs.new (w.alloc (.cells #[.int .i64 lv, .int .i64 sq, .slice none 0 0] 27)) 27 #[.int .i64 0, .int .i64 0, .slice none 0 0]).alloc (.cells #[.int .i64 0, .int .i64 0, .slice none 0 0] 27)).alloc (.cells #[.int .i64 lv, .int .i64 sq, .slice none 0 0] 27)).alloc (.cells #[.int .i64 lv, .int .i64 sq, .slice none 0 0] 27)
    rw [World.size_alloc] at this; exact this
  have C2 : Cs W (w.heap.size + 1 + 1) 27 #[.int .i64 0, .int .i64 0, .slice none 0 0] := by
    rw [hW]; have := ((Cs.new ((w.alloc (.cells #[.int .i64 lv, .int .i64 sq, .slice none 0 0] 27)).alloc (.cells #[.int .i64 0, .int .i64 0, .slice none 0 0] 27)) 27 #[.int .i64 0, .int .i64 0, .slice none 0 0]).alloc (.cells #[.int .i64 lv, .int .i64 sq, .slice none 0 0] 27)).alloc (.cells #[.int .i64 lv, .int .i64 sq, .slice none 0 0] 27)
    rw [World.size_alloc, World.size_alloc] at this; exact this
  have C3 : Cs W (w.heap.size + 1 + 1 + 1) 27 #[.int .i64 lv, .int .i64 sq, .slice none 0 0] := by
    rw [hW]; have := (Cs.new (((w.alloc (.cells #[.int .i64 lv, .int .i64 sq, .slice none 0 0] 27)).alloc (.cells #[.int .i64 0, .int .i64 0, .slice none 0 0] 27)).alloc (.cells #[.int .i64 0, .int .i64 0, .slice none 0 0] 27)) 27 #[.int .i64 lv, .int .i64 sq, .slice none 0 0]).alloc (.cells #[.int .i64 lv, .int .i64 sq, .slice none 0 0] 27)
    rw [World.size_alloc, World.size_alloc, World.size_alloc] at this; exact this
  have C4 : Cs W (w.heap.size + 1 + 1 + 1 + 1) 27 #[.int .i64 lv, .int .i64 sq, .slice none 0 0] := by
    rw [hW]; have := Cs.new ((((w.alloc (.cells #[.int .i64 lv, .int .i64 sq, .slice none 0 0] 27)).alloc (.cells #[.int .i64 0, .int .i64 0, .slice none 0 0] 27)).alloc (.cells #[.int .i64 0, .int .i64 0, .slice none 0 0] 27)).alloc (.cells #[.int .i64 lv, .int .i64 sq, .slice none 0 0] 27)) 27 #[.int .i64 lv, .int .i64 sq, .slice none 0 0]
    rw [World.size_alloc, World.size_alloc, World.size_alloc, World.size_alloc] at this; exact this
  have hB : Below w.heap.size w W := by
    rw [hW]; exact ((((((Below.refl _ w).alloc (Nat.le_refl _) _).alloc (by simp) _).alloc (by simp; omega) _).alloc (by simp; omega) _).alloc (by simp; omega) _).drew
  have HW := Lib.hid hW
  have K0 := Lib.hid C0
  have K1 := Lib.hid C1
  have K2 := Lib.hid C2
  have K3 := Lib.hid C3
  have K4 := Lib.hid C4
  have hs4 : w.heap.size + 1 + 1 + 1 + 1 < W.heap.size := C4.lt
  clear hW C0 C1 C2 C3 C4
  go_enter Try.func37, Try.ntmps37
  go_wp2_with fail
  go_region
  go_wp2_with fail
  rw [← HW.out]
  have hpa : w.heap.size + 1 + 1 < w.heap.size + 1 + 1 + 1 := by omega
  have hpb : w.heap.size + 1 + 1 < w.heap.size + 1 + 1 + 1 + 1 := by omega
  have hpab : w.heap.size + 1 + 1 + 1 ≠ w.heap.size + 1 + 1 + 1 + 1 := by omega
  have hpa2 : w.heap.size + 1 + 1 + 1 < W.heap.size := by omega
  have hpb2 : w.heap.size + 1 + 1 + 1 + 1 < W.heap.size := by omega
  clear HW hs4
  generalize w.heap.size + 1 + 1 + 1 + 1 = pb at *
  generalize w.heap.size + 1 + 1 + 1 = pa at *
  have KA := K3
  have KB := K4
  clear K3 K4
  rotate_left
  go_wp2_with fail
  rw [← HW.out]
  have hpa : w.heap.size + 1 + 1 < w.heap.size + 1 + 1 + 1 + 1 := by omega
  have hpb : w.heap.size + 1 + 1 < w.heap.size + 1 + 1 + 1 := by omega
  have hpab : w.heap.size + 1 + 1 + 1 + 1 ≠ w.heap.size + 1 + 1 + 1 := by omega
  have hpa2 : w.heap.size + 1 + 1 + 1 + 1 < W.heap.size := by omega
  have hpb2 : w.heap.size + 1 + 1 + 1 < W.heap.size := by omega
  clear HW hs4
  generalize w.heap.size + 1 + 1 + 1 + 1 = pa at *
  generalize w.heap.size + 1 + 1 + 1 = pb at *
  have KA := K4
  have KB := K3
  clear K3 K4
  all_goals
    obtain ⟨x0, x1, x2, y0, y1, y2⟩ := K0.out.at3
    obtain ⟨a0, a1, a2, a3, a4, a5⟩ := KA.out.at3
    obtain ⟨b0, b1, b2, b3, b4, b5⟩ := KB.out.at3
    have hpa0 : w.heap.size ≠ pa := by omega
    go_region_held3 (fun w' => w'.cell? ⟨w.heap.size, 2, none⟩ = some (.slice none 0 0))
      (first | exact x2 | exact (World.cell?_setCell_other _ _ _ _ (by simp <;> omega)).trans x2 | exact (World.cell?_setCell_other _ _ _ _ (by simp <;> omega)).trans ((World.cell?_setCell_other _ _ _ _ (by simp <;> omega)).trans x2) | go_keep)
      (first
        | (go_at_call 46; (refine (cloneE_nil _).mono ?_); rintro e W1 ⟨rfl, rfl⟩))
    have j1 := KA.out.set3 (u := .slice none 0 0)
    have j3 := KB.out.far (B := pa) (i := 2) (fun e => hpab e.symm) (.slice none 0 0)
    have j4 := j3.set3 (u := .slice none 0 0)
    have j6 := j1.far (B := pb) (i := 2) hpab (.slice none 0 0)
    have hB2 := ((hB.setCell (p := ⟨pa, 2, none⟩) (show w.heap.size ≤ pa by omega) (.slice none 0 0)).setCell (p := ⟨pb, 2, none⟩) (show w.heap.size ≤ pb by omega) (.slice none 0 0)).drew
    have r1 := (K1.out.far (B := pa) (i := 2) (by omega) (.slice none 0 0)).far (B := pb) (i := 2) (by omega) (.slice none 0 0)
    have r2 := (K2.out.far (B := pa) (i := 2) (by omega) (.slice none 0 0)).far (B := pb) (i := 2) (by omega) (.slice none 0 0)
    have G1 := Lib.hid (show Cs ((W.setCell ⟨pa, 2, none⟩ (.slice none 0 0)).setCell ⟨pb, 2, none⟩ (.slice none 0 0)).drew _ _ _ from j6)
    have G2 := Lib.hid (show Cs ((W.setCell ⟨pa, 2, none⟩ (.slice none 0 0)).setCell ⟨pb, 2, none⟩ (.slice none 0 0)).drew _ _ _ from j4)
    have G3 := Lib.hid (show Cs ((W.setCell ⟨pa, 2, none⟩ (.slice none 0 0)).setCell ⟨pb, 2, none⟩ (.slice none 0 0)).drew _ _ _ from r1)
    have G4 := Lib.hid (show Cs ((W.setCell ⟨pa, 2, none⟩ (.slice none 0 0)).setCell ⟨pb, 2, none⟩ (.slice none 0 0)).drew _ _ _ from r2)
    generalize ((W.setCell ⟨pa, 2, none⟩ _).setCell ⟨pb, 2, none⟩ _).drew = W4 at G1 G2 G3 G4 hB2 ⊢
    clear r1 r2 j6 j4 j1 j3 x0 x1 x2 y0 y1 y2 a0 a1 a2 a3 a4 a5 b0 b1 b2 b3 b4 b5 KA KB
    obtain ⟨a0, a1, a2, a3, a4, a5⟩ := G1.out.at3
    obtain ⟨b0, b1, b2, b3, b4, b5⟩ := G2.out.at3
    obtain ⟨d0, d1, d2, d3, d4, d5⟩ := G3.out.at3
    obtain ⟨f0, f1, f2, f3, f4, f5⟩ := G4.out.at3
    have q1 : w.heap.size + 1 ≠ pa := by omega
    have q2 : w.heap.size + 1 ≠ pb := by omega
    have q3 : w.heap.size + 1 + 1 ≠ pa := by omega
    have q4 : w.heap.size + 1 + 1 ≠ pb := by omega
    go_wp2_with fail
    go_region
    have v1 := Lib.hid ((((G3.out.put3 (.int .i64 lv) (.int .i64 sq) (.slice none 0 0)).far (B := w.heap.size + 1 + 1) (i := 0) (by omega) (.int .i64 lv)).far (B := w.heap.size + 1 + 1) (i := 1) (by omega) (.int .i64 sq)).far (B := w.heap.size + 1 + 1) (i := 2) (by omega) (.slice none 0 0))
    have v2' := ((((G4.out.far (B := w.heap.size + 1) (i := 0) (by omega) (.int .i64 lv)).far (B := w.heap.size + 1) (i := 1) (by omega) (.int .i64 sq)).far (B := w.heap.size + 1) (i := 2) (by omega) (.slice none 0 0)))
    have v2 := Lib.hid (v2'.put3 (.int .i64 lv) (.int .i64 sq) (.slice none 0 0))
    have hB5 := below_put3 (below_put3 hB2 (show w.heap.size ≤ w.heap.size + 1 by omega) (.int .i64 lv) (.int .i64 sq) (.slice none 0 0)) (show w.heap.size ≤ w.heap.size + 1 + 1 by omega) (.int .i64 lv) (.int .i64 sq) (.slice none 0 0)
    generalize ((((((W4.setCell _ _).setCell _ _).setCell _ _).setCell _ _).setCell _ _).setCell _ _) = W5 at v1 v2 hB5 ⊢
    clear a0 a1 a2 a3 a4 a5 b0 b1 b2 b3 b4 b5 d0 d1 d2 d3 d4 d5 f0 f1 f2 f3 f4 f5 v2'
    obtain ⟨a0, a1, a2, _⟩ := v1.out.at3
    obtain ⟨b0, b1, b2, _⟩ := v2.out.at3
    go_wp2_with fail
    exact bodyPost_ret (v := .tuple #[.agg #[.int .i64 lv, .int .i64 sq, .slice none 0 0], .agg #[.int .i64 lv, .int .i64 sq, .slice none 0 0], .int .i64 0]) (by simp [results, Try.f37, go_sem, a0, a1, a2, b0, b1, b2]) rfl ⟨rfl, hB5.drew⟩

/-- What Split answers. -/
def spA (l : List (Int × Nat)) : List (Int × Nat) := if 8 < l.length then [] else l.take (l.length / 2)
def spB (l : List (Int × Nat)) : List (Int × Nat) := if 8 < l.length then [] else l.drop (l.length / 2)
def spV (l : List (Int × Nat)) (x : Int) : Int := if 8 < l.length then 0 else x

theorem splitN_any (lv sq : Int) (A : Option Addr) (c n : Nat) (l : List (Int × Nat)) (w : World) (hn : l.length = n) (hA : Reads w A (ev l)) (hc : n ≤ c) (hz : n = 0 → A = none ∧ c = 0) :
    Calls Try.prog 37 #[.agg #[.int .i64 lv, .int .i64 sq, .slice A n c]] w fun e w' => ∃ va vb, e = .returned (.tuple #[.agg #[.int .i64 (spV l lv), .int .i64 (spV l sq), va], .agg #[.int .i64 (spV l lv), .int .i64 (spV l sq), vb], .int .i64 (splE l)]) ∧
      w'.ownsRow w.heap.size 52 2 va (spA l).length (ev (spA l)) ∧ w'.ownsRow w.heap.size 52 2 vb (spB l).length (ev (spB l)) ∧ Below w.heap.size w w' := by
  subst hn
  unfold spV splE spA spB
  by_cases h8 : 8 < l.length
  · rw [if_pos h8, if_pos h8, if_pos h8, if_pos h8, if_pos h8]
    refine (splitN_no lv sq A c l.length l w h8).mono ?_
    rintro e w' ⟨rfl, hb⟩
    exact ⟨_, _, rfl, World.ownsRow_nil _ _ _ _, World.ownsRow_nil _ _ _ _, hb⟩
  · rw [if_neg h8, if_neg h8, if_neg h8, if_neg h8, if_neg h8]
    by_cases h0 : l.length = 0
    · obtain ⟨rfl, rfl⟩ := hz h0
      obtain rfl : l = [] := List.eq_nil_of_length_eq_zero h0
      refine (splitN_nil lv sq w).mono ?_
      rintro e w' ⟨rfl, hb⟩
      exact ⟨_, _, rfl, World.ownsRow_nil _ _ _ _, World.ownsRow_nil _ _ _ _, hb⟩
    · refine (splitN_ok lv sq A c l.length l w rfl hA (by omega) hc (by omega)).mono ?_
      rintro e w' ⟨va, vb, rfl, h1, h2, hb⟩
      refine ⟨va, vb, rfl, ?_, ?_, hb⟩
      · rw [List.length_take, Nat.min_eq_left (by omega)]; exact h1
      · rw [List.length_drop]; exact h2

end Go.Proofs.Ytjnkajdfdhockaa
