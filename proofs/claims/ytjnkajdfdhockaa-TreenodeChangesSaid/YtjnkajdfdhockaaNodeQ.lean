/-
  treenode.Remove, Split.
-/
import Derived.Test.YtjnkajdfdhockaaNodeP
namespace Go.Proofs.Ytjnkajdfdhockaa
set_option linter.unusedVariables false
open Go.RowKit

def remE (l : List (Int × Nat)) (i : Int) : Int := if i < 0 ∨ (l.length : Int) ≤ i then 1 else 0

set_option maxRecDepth 100000 in
set_option maxHeartbeats 1000000 in
theorem remove_no (lv sq i : Int) (A : Option Addr) (c n : Nat) (l : List (Int × Nat)) (w : World) (hn : l.length = n) (hlen : n ≤ 1000000) (hE : remE l i ≠ 0) :
    Calls Try.prog 35 #[.agg #[.int .i64 lv, .int .i64 sq, .slice A n c], .int .i64 i] w fun e w' => e = .returned (.tuple #[.agg #[.int .i64 0, .int .i64 0, .slice none 0 0], .int .i64 1]) ∧ Below w.heap.size w w' := by
  have hb0 : Below w.heap.size w ((w.alloc (.cells #[.int .i64 lv, .int .i64 sq, .slice A n c] 27)).alloc (.cells #[.int .i64 0, .int .i64 0, .slice none 0 0] 27)) := ((Below.refl _ w).alloc (Nat.le_refl _) _).alloc (by simp) _
  have hk : i < 0 ∨ (n : Int) ≤ i := by
    unfold remE at hE
    rw [hn] at hE
    split at hE
    · assumption
    · exact absurd rfl hE
  clear hE hn
  by_cases h1 : i < 0
  · go_enter Try.func35, Try.ntmps35
    go_wp2_with fail
    exact bodyPost_ret (v := .tuple #[.agg #[.int .i64 0, .int .i64 0, .slice none 0 0], .int .i64 1]) (by simp [results, Try.f35, go_sem]) rfl ⟨rfl, hb0⟩
  · have h2 : (n : Int) ≤ i := by omega
    go_enter Try.func35, Try.ntmps35
    go_wp2_with fail
    exact bodyPost_ret (v := .tuple #[.agg #[.int .i64 0, .int .i64 0, .slice none 0 0], .int .i64 1]) (by simp [results, Try.f35, go_sem]) rfl ⟨rfl, hb0⟩

set_option maxRecDepth 100000 in
set_option maxHeartbeats 1000000 in
theorem remove_ok (lv sq i : Int) (A : Option Addr) (c n : Nat) (l : List (Int × Nat)) (w : World) (hn : l.length = n) (hA : Reads w A (ev l)) (hlen : n ≤ 100000) (hE : remE l i = 0) :
    Calls Try.prog 35 #[.agg #[.int .i64 lv, .int .i64 sq, .slice A n c], .int .i64 i] w fun e w' => ∃ v, e = .returned (.tuple #[.agg #[.int .i64 lv, .int .i64 sq, v], .int .i64 0]) ∧ w'.ownsRow w.heap.size 52 2 v (delN l i.toNat).length (ev (delN l i.toNat)) ∧ Below w.heap.size w w' := by
  have hk : 0 ≤ i ∧ i < (n : Int) := by
    unfold remE at hE
    rw [hn] at hE
    by_cases h : i < 0 ∨ (n : Int) ≤ i
    · rw [if_pos h] at hE; cases hE
    · omega
  obtain ⟨j, rfl⟩ : ∃ j : Nat, i = (j : Int) := ⟨i.toNat, by omega⟩
  rw [Int.toNat_natCast]
  have hj : j < n := by omega
  have hk1 : ¬ (j : Int) < 0 := by omega
  have hk2 : ¬ (n : Int) ≤ (j : Int) := by omega
  have hb0 : Below w.heap.size w ((w.alloc (.cells #[.int .i64 lv, .int .i64 sq, .slice A n c] 27)).alloc (.cells #[.int .i64 0, .int .i64 0, .slice none 0 0] 27)) := ((Below.refl _ w).alloc (Nat.le_refl _) _).alloc (by simp) _
  have hC6 := Cs.new (w.alloc (.cells #[.int .i64 lv, .int .i64 sq, .slice A n c] 27)) 27 #[.int .i64 0, .int .i64 0, .slice none 0 0]
  rw [World.size_alloc] at hC6
  have hC3 := (Cs.new w 27 #[.int .i64 lv, .int .i64 sq, .slice A n c]).alloc (.cells #[.int .i64 0, .int .i64 0, .slice none 0 0] 27)
  have hsz : ((w.alloc (.cells #[.int .i64 lv, .int .i64 sq, .slice A n c] 27)).alloc (.cells #[.int .i64 0, .int .i64 0, .slice none 0 0] 27)).heap.size = w.heap.size + 1 + 1 := by simp
  have HCL := Lib.hid (cloneE_any A c n l _ hn (hA.keep hb0) (by omega))
  have HL := Lib.hid hn
  have HLEN : Hid ((delN l j).length = n - 1) := by show _ = _; rw [delN_length _ _ (by omega), hn]
  have HC3 := Lib.hid hC3
  have HC6 := Lib.hid hC6
  clear hE hn hA hC3 hC6 hk
  go_enter Try.func35, Try.ntmps35
  go_wp2_with fail
  generalize ((w.alloc _).alloc _) = w1 at hb0 hsz HCL HC3 HC6 ⊢
  refine HCL.out.mono ?_
  rintro e w2 ⟨v, rfl, hown, hb2⟩
  have hlo : w.heap.size + 1 < w1.heap.size := by omega
  clear hsz
  have HDE := Lib.hid (delete_any l j n v w1.heap.size w2 HL.out hj hown hlen)
  have hC3 := HC3.out.below hb2 (by omega)
  have hC6 := HC6.out.below hb2 (by omega)
  have HD3 := Lib.hid hC3
  have HD6 := Lib.hid hC6
  have hbw2 := hb0.trans (hb2.mono hb0.size)
  clear hown hC3 hC6 HC3 HC6 HCL
  go_wp2_with fail
  refine HDE.out.mono ?_
  rintro e w6 ⟨v6, rfl, hown6, hb6⟩
  obtain ⟨A6, c6, rfl⟩ := own_form hown6
  have hC3 := HD3.out.below hb6 (by omega)
  have hC6 := HD6.out.below hb6 (by omega)
  obtain ⟨x0, x1, x2, y0, y1, y2⟩ := hC3.at3
  obtain ⟨p0, p1, p2, r0, r1, r2⟩ := hC6.at3
  obtain ⟨f1, f2⟩ := put_field hC3 hown6
  have f3 := hC6.far (B := w.heap.size) (i := 2) (by omega) (.slice A6 (n - 1) c6)
  have hbw6 := hbw2.trans (hb6.mono (show w.heap.size ≤ w1.heap.size by omega))
  have hbw7 := hbw6.setCell (p := ⟨w.heap.size, 2, none⟩) (Nat.le_refl _) (.slice A6 (n - 1) c6)
  have F1 := Lib.hid f1
  have F2 := Lib.hid f2
  have F3 := Lib.hid f3
  clear f1 f2 f3 hC3 hC6 hown6 HDE
  go_wp2_with fail
  generalize (w6.setCell _ (.slice A6 (n - 1) c6)) = w7 at F1 F2 F3 hbw7 ⊢
  clear x0 x1 x2 y0 y1 y2 p0 p1 p2 r0 r1 r2
  have hq := Lib.hid (F3.out.put3 (.int .i64 lv) (.int .i64 sq) (.slice A6 (n - 1) c6))
  have ho := Lib.hid (own_put3 (x := .int .i64 lv) (y := .int .i64 sq) (z := .slice A6 (n - 1) c6) F3.out F2.out)
  have hb := below_put3 hbw7 (show w.heap.size ≤ w.heap.size + 1 by omega) (.int .i64 lv) (.int .i64 sq) (.slice A6 (n - 1) c6)
  generalize (((w7.setCell _ _).setCell _ _).setCell _ _) = w8 at hq ho hb ⊢
  obtain ⟨x0, x1, x2, _⟩ := hq.out.at3
  exact bodyPost_ret (v := .tuple #[.agg #[.int .i64 lv, .int .i64 sq, .slice A6 (n - 1) c6], .int .i64 0]) (by simp [results, Try.f35, go_sem, x0, x1, x2]) rfl ⟨_, rfl, by rw [HLEN.out]; exact own_lower ho.out (by omega), hb⟩

def splE (l : List (Int × Nat)) : Int := if 8 < l.length then 4 else 0

set_option maxRecDepth 100000 in
set_option maxHeartbeats 1000000 in
theorem splitN_no (lv sq : Int) (A : Option Addr) (c n : Nat) (l : List (Int × Nat)) (w : World) (hn : 8 < n) :
    Calls Try.prog 37 #[.agg #[.int .i64 lv, .int .i64 sq, .slice A n c]] w fun e w' => e = .returned (.tuple #[.agg #[.int .i64 0, .int .i64 0, .slice none 0 0], .agg #[.int .i64 0, .int .i64 0, .slice none 0 0], .int .i64 4]) ∧ Below w.heap.size w w' := by
  have h8' : (8 : Int) < (n : Int) := by omega
  go_enter Try.func37, Try.ntmps37
  go_wp2_with fail
  exact bodyPost_ret (v := .tuple #[.agg #[.int .i64 0, .int .i64 0, .slice none 0 0], .agg #[.int .i64 0, .int .i64 0, .slice none 0 0], .int .i64 4]) (by simp [results, Try.f37, go_sem]) rfl ⟨rfl, (((Below.refl _ w).alloc (Nat.le_refl _) _).alloc (by simp) _).alloc (by simp; omega) _⟩

end Go.Proofs.Ytjnkajdfdhockaa
