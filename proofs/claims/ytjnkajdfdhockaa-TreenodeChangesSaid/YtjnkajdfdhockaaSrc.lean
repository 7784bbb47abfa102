/-
  The reader of numbers (volumegroupmake.Src): New, Raw, N, Range.
-/
import Derived.Test.YtjnkajdfdhockaaBase
import Derived.Test.YtjnkajdfdhockaaRows
namespace Go.Proofs.Ytjnkajdfdhockaa
set_option linter.unusedVariables false
open Go.RowKit

/-- Block g is a reader of numbers; what it reads lies in older memory. -/
def SrcAt (W : World) (g : Nat) : Prop :=
  ∃ (w0 : World) (A : Option Addr) (n c : Nat) (at0 : Nat) (L : List Int), W.heap[g]? = some (.cells #[.slice A n c, .int .i64 (at0 : Int)] 65 (0, 0)) ∧
    Reads w0 A (iv L) ∧ L.length = n ∧ I64 L ∧ at0 ≤ n ∧ n ≤ 1000 ∧ w0.heap.size ≤ g ∧ Below w0.heap.size w0 W

theorem SrcAt.lt {W : World} {g : Nat} (h : SrcAt W g) : g < W.heap.size := by
  obtain ⟨w0, A, n, c, at0, L, h1, _⟩ := h
  exact (Array.getElem?_eq_some_iff.1 h1).1
theorem SrcAt.below {W W' : World} {g B : Nat} (h : SrcAt W g) (hb : Below B W W') (hg : g < B) : SrcAt W' g := by
  obtain ⟨w0, A, n, c, at0, L, h1, h2, h3, h4, h5, h6, h7, h8⟩ := h
  exact ⟨w0, A, n, c, at0, L, (hb.block g hg).trans h1, h2, h3, h4, h5, h6, h7, h8.trans (hb.mono (by omega))⟩
theorem SrcAt.grown {W W' : World} {g : Nat} {row : Option Nat} (h : SrcAt W g) (hg : W.grownBy W' row) (hr : ∀ r, row = some r → g < r) : SrcAt W' g := by
  have hlt := h.lt
  exact h.below (B := g + 1) ((Below.refl _ W).grown hg (by omega) (fun k e => by have := hr k e; omega)) (by omega)

theorem only_drewN_refl (W : World) (n : Nat) {row : Option Nat} : W.grownBy (W.drewN n) row := ⟨rfl, rfl, rfl, Nat.le_refl _, fun _ _ _ => rfl⟩
theorem only_drewN' {a w : World} {row : Option Nat} (h : a.grownBy w row) (n : Nat) : a.grownBy (w.drewN n) row := ⟨h.os, h.tape, h.output, h.size, h.block⟩

set_option maxHeartbeats 400000 in
theorem new_any (A : Option Addr) (n c : Nat) (l : List Int) (w : World) (hN : l.length = n) (hA : Reads w A (iv l)) (hw : I64 l) (hl : n ≤ c) :
    Calls Try.prog 9 #[.slice A n c] w fun e w' => e = .returned (.pointer (some ⟨w.heap.size, 0, none⟩)) ∧ SrcAt w' w.heap.size ∧ Below w.heap.size w w' ∧ w'.heap.size = w.heap.size + 1 := by
  by_cases h : 1000 < n
  · have h' : 1000 < (n : Int) := by omega
    have h2 : (1000 : Int) ≤ (c : Int) := by omega
    have h3 : ¬ c < 1000 := by omega
    go_enter Try.func9, Try.ntmps9
    go_wp2
    go_ret
    refine ⟨rfl, ?_, (Below.refl _ _).alloc (Nat.le_refl _) _, by simp⟩
    refine ⟨w, A, 1000, c, 0, l.take 1000, heap_alloc_new w _, ?_, by simp; omega, fun x hx => hw x (List.mem_of_mem_take hx), Nat.zero_le _, by omega, Nat.le_refl _, (Below.refl _ _).alloc (Nat.le_refl _) _⟩
    have := hA.take' 1000
    unfold iv at this ⊢
    rw [List.map_take]
    exact this
  · have h' : ¬ 1000 < (n : Int) := by omega
    go_enter Try.func9, Try.ntmps9
    go_wp2
    go_ret
    refine ⟨rfl, ?_, (Below.refl _ _).alloc (Nat.le_refl _) _, by simp⟩
    exact ⟨w, A, n, c, 0, l, heap_alloc_new w _, hA, hN, hw, Nat.zero_le _, by omega, Nat.le_refl _, (Below.refl _ _).alloc (Nat.le_refl _) _⟩

set_option maxHeartbeats 400000 in
theorem raw_any (g : Nat) (W : World) (h : SrcAt W g) :
    Calls Try.prog 20 #[.pointer (some ⟨g, 0, none⟩)] W fun e W' => ∃ r : Int, e = .returned (.int .i64 r) ∧ -9223372036854775808 ≤ r ∧ r ≤ 9223372036854775807 ∧ SrcAt W' g ∧ W.grownBy W' (some g) := by
  obtain ⟨w0, A, n, c, k, L, h1, h2, h3, h4, h5, h6, h7, h8⟩ := h
  have hc0 : W.cell? ⟨g, 0, none⟩ = some (.slice A n c) := cell_of_row W g 0 _ _ _ h1
  have hc1 : W.cell? ⟨g, 1, none⟩ = some (.int .i64 (k : Int)) := cell_of_row W g 1 _ _ _ h1
  have hf1 : W.frozen? ⟨g, 1, none⟩ = false := frozen_of_row W g 1 _ _ h1
  by_cases hk : k < n
  · have hk' : ¬ (n : Int) ≤ (k : Int) := by omega
    have hL := I64.at h4 k
    obtain ⟨b, off, rfl, hb, hcs⟩ := h2.i (by omega)
    have hcl := (h8.cell (p := ⟨b, off + k, none⟩) hb).trans (hcs k (by omega))
    obtain ⟨r, er⟩ : ∃ r, L[k]?.getD 0 = r := ⟨_, rfl⟩
    rw [er] at hcl hL
    have hne : b ≠ g := by omega
    have H1 := Lib.hid h1
    have H3 := Lib.hid h3
    clear er hcs h1 h3
    go_enter Try.func20, Try.ntmps20
    go_wp2
    go_quiet (fail)
    go_wp2
    have hg : W.grownBy ((W.drewN nq).setCell ⟨g, 1, none⟩ (.int .i64 ((k : Int) + 1))) (some g) :=
      ⟨rfl, rfl, rfl, by simp, fun j _ hj => Below.heap_setCell _ _ _ j (fun e => hj (by rw [e]))⟩
    have hW2 : SrcAt ((W.drewN nq).setCell ⟨g, 1, none⟩ (.int .i64 ((k : Int) + 1))) g := by
      refine ⟨w0, some ⟨b, off, none⟩, n, c, k + 1, L, ?_, h2, H3.out, h4, by omega, h6, h7, (below_drewN h8 nq).setCell (p := ⟨g, 1, none⟩) h7 _⟩
      have := heap_setCell_same (W.drewN nq) g 1 _ 65 (.int .i64 ((k : Int) + 1)) H1.out
      exact this
    have d0 : ((W.drewN nq).setCell ⟨g, 1, none⟩ (.int .i64 ((k : Int) + 1))).cell? ⟨g, 0, none⟩ = some (.slice (some ⟨b, off, none⟩) n c) := (World.cell?_setCell_other _ _ _ _ (by simp)).trans hc0
    have d1 : ((W.drewN nq).setCell ⟨g, 1, none⟩ (.int .i64 ((k : Int) + 1))).cell? ⟨g, 1, none⟩ = some (.int .i64 ((k : Int) + 1)) := World.cell?_setCell_same _ _ _ hc1
    have d2 : ((W.drewN nq).setCell ⟨g, 1, none⟩ (.int .i64 ((k : Int) + 1))).cell? ⟨b, off + k, none⟩ = some (.int .i64 r) := (World.cell?_setCell_other _ _ _ _ (fun e => hne (congrArg Addr.block e).symm)).trans hcl
    generalize ((W.drewN nq).setCell _ _) = W2 at hg hW2 d0 d1 d2 ⊢
    have t1 : IntKind.i64.wrap (k : Int) = (k : Int) := IntWalk.i64_in _ (by omega)
    have t2 : (0 : Int) ≤ (k : Int) := by omega
    clear hc0 hc1 hf1 hcl
    go_quiet (fail)
    go_wp2
    go_ret
    exact ⟨r, rfl, hL.1, hL.2, hW2.grown (row := none) (only_drewN_refl _ _) (fun r e => by cases e), only_drewN' hg _⟩
  · have hk' : (n : Int) ≤ (k : Int) := by omega
    have H0 : SrcAt W g := ⟨w0, A, n, c, k, L, h1, h2, h3, h4, h5, h6, h7, h8⟩
    clear h1 h3
    go_enter Try.func20, Try.ntmps20
    go_wp2
    go_quiet (fail)
    go_wp2
    go_ret
    exact ⟨0, rfl, by omega, by omega, H0.grown (row := none) (only_drewN_refl _ _) (fun r e => by cases e), only_drewN_refl _ _⟩

set_option maxHeartbeats 400000 in
theorem n_any (g : Nat) (n : Int) (W : World) (h : SrcAt W g) (h1 : 1 ≤ n) (h2 : n ≤ 1000000000000) :
    Calls Try.prog 11 #[.pointer (some ⟨g, 0, none⟩), .int .i64 n] W fun e W' => ∃ r : Int, e = .returned (.int .i64 r) ∧ 0 ≤ r ∧ r < n ∧ SrcAt W' g ∧ W.grownBy W' (some g) := by
  have h1' : ¬ n < 1 := by omega
  go_enter Try.func11, Try.ntmps11
  go_wp2_with fail
  refine (raw_any g W h).mono ?_
  rintro e W2 ⟨r, rfl, hr1, hr2, hs, hg⟩
  have t1 := Int.tmod_lt_of_pos r (b := n) (by omega)
  have t2 : -n < r.tmod n := Int.lt_tmod_of_pos r (by omega)
  obtain ⟨T, hT⟩ : ∃ T, r.tmod n = T := ⟨_, rfl⟩
  rw [hT] at t1 t2
  have hz : n ≠ 0 := by omega
  by_cases hneg : T < 0
  · go_wp2_with fail
    go_ret
    exact ⟨_, rfl, by omega, by omega, hs, hg⟩
  · go_wp2_with fail
    go_ret
    exact ⟨_, rfl, by omega, by omega, hs, hg⟩

set_option maxHeartbeats 400000 in
theorem range_any (g : Nat) (lo hi : Int) (W : World) (h : SrcAt W g) (h1 : lo ≤ hi) (h2 : hi ≤ 100000000000) (h3 : -100000000000 ≤ lo) :
    Calls Try.prog 19 #[.pointer (some ⟨g, 0, none⟩), .int .i64 lo, .int .i64 hi] W fun e W' => ∃ r : Int, e = .returned (.int .i64 r) ∧ lo ≤ r ∧ r ≤ hi ∧ SrcAt W' g ∧ W.grownBy W' (some g) := by
  go_enter Try.func19, Try.ntmps19
  go_wp2_with fail
  refine (n_any g _ W h (by omega) (by omega)).mono ?_
  rintro e W2 ⟨r, rfl, hr1, hr2, hs, hg⟩
  go_wp2_with fail
  go_ret
  exact ⟨_, rfl, by omega, by omega, hs, hg⟩

end Go.Proofs.Ytjnkajdfdhockaa
