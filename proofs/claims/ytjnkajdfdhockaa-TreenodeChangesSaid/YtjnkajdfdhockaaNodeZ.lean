/-
  make.Pick, Words; law25.node.
-/
import Derived.Test.YtjnkajdfdhockaaNodeY
import Derived.Test.YtjnkajdfdhockaaSrc
namespace Go.Proofs.Ytjnkajdfdhockaa
set_option linter.unusedVariables false
open Go.RowKit

/-- Only block g has changed; what is new lies beyond. -/
theorem gb_trans {g : Nat} {A B C : World} (h : A.grownBy B (some g)) (k : B.grownBy C (some g)) : A.grownBy C (some g) :=
  ⟨k.os.trans h.os, k.tape.trans h.tape, k.output.trans h.output, Nat.le_trans h.size k.size, fun j hj hne => (k.block j (Nat.lt_of_lt_of_le hj h.size) hne).trans (h.block j hj hne)⟩
theorem gb_alloc {g : Nat} {A B : World} (h : A.grownBy B (some g)) (o : Obj) : A.grownBy (B.alloc o) (some g) := gb_trans h (World.grownBy_alloc B o _)
theorem gb_set {g : Nat} {A B : World} (h : A.grownBy B (some g)) {b i : Nat} (hb : A.heap.size ≤ b) (u : Value) : A.grownBy (B.setCell ⟨b, i, none⟩ u) (some g) :=
  ⟨h.os, h.tape, h.output, by simpa using h.size, fun j hj hne => (Below.heap_setCell _ _ _ j (by show j ≠ b; omega)).trans (h.block j hj hne)⟩
theorem gb_below {g : Nat} {A B C : World} (h : A.grownBy B (some g)) (k : Below B.heap.size B C) : A.grownBy C (some g) :=
  ⟨k.os.trans h.os, k.tape.trans h.tape, k.output.trans h.output, Nat.le_trans h.size k.size, fun j hj hne => (k.block j (Nat.lt_of_lt_of_le hj h.size)).trans (h.block j hj hne)⟩
theorem gb_refl (g : Nat) (A : World) : A.grownBy A (some g) := World.grownBy.refl A _
theorem gb_Below {g n0 : Nat} {w A B : World} (hb : Below n0 w A) (h : A.grownBy B (some g)) (hn : n0 ≤ A.heap.size) (hg : n0 ≤ g) : Below n0 w B := hb.grown h hn (fun k e => by injection e with e; omega)

theorem SrcAt.alloc {W : World} {g : Nat} (h : SrcAt W g) (o : Obj) : SrcAt (W.alloc o) g := h.below (B := W.heap.size) ((Below.refl _ W).alloc (Nat.le_refl _) o) h.lt
theorem SrcAt.set {W : World} {g b i : Nat} (h : SrcAt W g) (hb : g < b) (u : Value) : SrcAt (W.setCell ⟨b, i, none⟩ u) g := h.below (B := b) ((Below.refl _ W).setCell (p := ⟨b, i, none⟩) (Nat.le_refl _) u) hb
theorem SrcAt.keep {W W' : World} {g : Nat} (h : SrcAt W g) (hb : Below W.heap.size W W') : SrcAt W' g := h.below hb h.lt

set_option maxHeartbeats 400000 in
theorem pick_any (g b n : Nat) (zs : List Int) (W : World) (h : SrcAt W g) (hn : zs.length = n) (h1 : 1 ≤ n) (hlen : n ≤ 1000) (hb : Cs W b 3 (iv zs).toArray) (hne : b ≠ g) :
    Calls Try.prog 24 #[.pointer (some ⟨g, 0, none⟩), .slice (some ⟨b, 0, none⟩) n n] W fun e W' => ∃ r : Int, e = .returned (.int .i64 r) ∧ r ∈ zs ∧ SrcAt W' g ∧ W.grownBy W' (some g) := by
  have HN := Lib.hid hn
  clear hn
  go_enter Try.func24, Try.ntmps24
  go_wp2_with fail
  refine (n_any g (n : Int) W h (by omega) (by omega)).mono ?_
  rintro e W2 ⟨r, rfl, hr1, hr2, hs, hg⟩
  obtain ⟨j, rfl⟩ : ∃ j : Nat, r = (j : Int) := ⟨r.toNat, by omega⟩
  have hj : j < n := by omega
  have hc := (hb.grown hg (by simpa using hne)).cell j
  rw [List.getElem?_toArray, iv_at zs j (by rw [HN.out]; exact hj)] at hc
  have hmem : zs[j]?.getD 0 ∈ zs := by
    rw [List.getElem?_eq_getElem (by rw [HN.out]; exact hj)]
    exact List.getElem_mem _
  generalize zs[j]?.getD 0 = x at hc hmem
  go_wp2_with fail
  go_ret
  exact ⟨x, rfl, hmem, hs, hg⟩

set_option maxHeartbeats 400000 in
theorem words_any (n : Nat) (seed : Int) (W : World) (hn : n ≤ 1000) :
    Calls Try.prog 18 #[.int .i64 (n : Int), .int .u64 seed] W fun e W' => ∃ v l, e = .returned v ∧ W'.ownsRow W.heap.size 38 1 v n (uv l) ∧ l.length = n ∧ W64 l ∧ Below W.heap.size W W' := by
  obtain ⟨i0, hi0, hz0, hz1, hz2⟩ := info_parts u64_info
  go_enter Try.func18, Try.ntmps18
  go_wp2_with fail
  go_loopw [5, 6] (fun v i wr => ∃ (k : Nat) (l : List Nat), k ≤ n ∧ i = .int .i64 k ∧ wr.ownsRow W.heap.size 38 1 v k (uv l) ∧ l.length = k ∧ W64 l ∧ Below W.heap.size W wr) (fun _ i _ => n - (intOf i).toNat)
  case atStart => exact ⟨0, [], Nat.zero_le _, rfl, World.ownsRow_nil _ _ _ _, rfl, (fun x hx => absurd hx (by simp)), Below.refl _ _⟩
  case round =>
    obtain ⟨k, l, hk, rfl, hown, hl, hw, hb⟩ := hrel
    obtain ⟨A1, c1, rfl⟩ := own_form hown
    have HL := Lib.hid hl
    have HO := Lib.hid hown
    clear hl hown
    by_cases hlt : k < n
    · go_wp2_with (at_builtin; refine wpList_append_reads _ (by rfl) _ _ _ (by rfl) W.heap.size 38 i0 _ 1 8 Try.underlying30 hi0 hz0 hz1 hz2 (by rfl) (by omega) (.slice A1 k c1) k (uv l) (by rfl) (HO.out.alloc _) (some ⟨wr.heap.size, 0, none⟩) 1 1 _ (by rfl) (by rfl) (Reads.new _ _ _) (by simp [Value.oneCell']) (by simp only [maxLen]; omega) (by omega) (by have := hb.size; simp; omega) ?_; intro v1 w6 hown6 hg6 hat6; have hbb := app_below HO.out hg6 hb.size)
      obtain ⟨y, ey, hy⟩ := any_u64 (seed + IntKind.u64.wrap ((k : Int) * 11400714819323198485))
      rw [ey] at hown6
      have hl1 : (l ++ [y]).length = k + 1 := by rw [List.length_append, HL.out]; rfl
      have ho : w6.ownsRow W.heap.size 38 1 v1 (k + 1) (uv (l ++ [y])) := by rw [uv_append]; exact hown6
      have hw' : W64 (l ++ [y]) := by
        intro x hx
        rcases List.mem_append.1 hx with hx | hx
        · exact hw x hx
        · rw [List.mem_singleton.1 hx]; exact hy
      go_roundw
      case rel => exact ⟨k + 1, l ++ [y], by omega, by go_num, ho, hl1, hw', hb.trans hbb⟩
      case measure => simp [intOf]; omega
    · have hkn : k = n := by omega
      have ho : wr.ownsRow W.heap.size 38 1 (.slice A1 k c1) n (uv l) := by rw [← hkn]; exact HO.out
      have hl1 : l.length = n := by rw [HL.out, hkn]
      have HO1 := Lib.hid ho
      have HL1 := Lib.hid hl1
      clear ho hl1 hkn
      go_wp2_with fail
      go_ret
      exact ⟨_, l, rfl, HO1.out, HL1.out, hw, hb⟩

end Go.Proofs.Ytjnkajdfdhockaa
