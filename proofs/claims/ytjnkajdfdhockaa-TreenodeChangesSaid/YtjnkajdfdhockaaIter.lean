import Derived.RangeFuncNested
import Derived.RangeFuncBound
import Derived.RangeFuncCalls
import Derived.RangeFuncLeaves
import Derived.RangeFuncBox
import Derived.Shelf.Abstract
import Derived.Shelf.RegionOpen
import Derived.OwnWalkIn
import Derived.TacticsInMore
import Derived.LoopNIn
import Derived.LoopIn
import Derived.Test.YtjnkajdfdhockaaBase
namespace Go.Proofs.Ytjnkajdfdhockaa
set_option linter.unusedVariables false
open Go.RowKit

/-- What has come when k rounds are over. -/
def upto {α : Type} (f : Nat → α) (k : Nat) : List α := (List.range k).map f
theorem upto_succ {α : Type} (f : Nat → α) (k : Nat) : upto f (k + 1) = upto f k ++ [f k] := by simp [upto, List.range_succ]
theorem upto_length {α : Type} (f : Nat → α) (k : Nat) : (upto f k).length = k := by simp [upto]

/-- What a round must keep for an iterator whose box is block Bs: that block, and all below n₀. -/
structure KeepB (n₀ Bs : Nat) (W W' : World) : Prop where
  below : Below n₀ W W'
  box : W'.heap[Bs]? = W.heap[Bs]?
theorem KeepB.refl (n₀ Bs : Nat) (W : World) : KeepB n₀ Bs W W := ⟨Below.refl _ _, rfl⟩
theorem KeepB.trans {n₀ Bs : Nat} {A B C : World} (h : KeepB n₀ Bs A B) (k : KeepB n₀ Bs B C) : KeepB n₀ Bs A C := ⟨h.below.trans k.below, k.box.trans h.box⟩
theorem KeepB.cell {n₀ Bs : Nat} {A B : World} (h : KeepB n₀ Bs A B) (i : Nat) : B.cell? ⟨Bs, i, none⟩ = A.cell? ⟨Bs, i, none⟩ := World.cell?_of_block h.box
theorem KeepB.putObj {n₀ Bs : Nat} {W0 : World} (hn : n₀ ≤ W0.heap.size) (hB : Bs < W0.heap.size) : ∀ (W : World) (l : Nat) (o o' : Obj), W0.heap.size ≤ l → W.heap[l]? = some o → o.isCells = false → o.isWalk = false → KeepB n₀ Bs W (W.putObj l o') :=
  fun W l o o' hl h1 h2 h3 => ⟨belowK_b (w := W0) hn W l o o' hl h1 h2 h3, World.putObj_heap_other (by omega)⟩
theorem KeepB.setCell {n₀ Bs : Nat} {A W : World} (h : KeepB n₀ Bs A W) {b i : Nat} (hn : n₀ ≤ b) (hB : b ≠ Bs) (u : Value) : KeepB n₀ Bs A (W.setCell ⟨b, i, none⟩ u) :=
  ⟨h.below.setCell (p := ⟨b, i, none⟩) hn u, (Below.heap_setCell _ _ _ _ (fun e => hB e.symm)).trans h.box⟩
theorem KeepB.drew {n₀ Bs : Nat} {A W : World} (h : KeepB n₀ Bs A W) : KeepB n₀ Bs A W.drew := ⟨h.below.drew, h.box⟩
theorem KeepB.of_below {n₀ Bs B : Nat} {A W : World} (h : Below B A W) (h1 : n₀ ≤ B) (h2 : Bs < B) : KeepB n₀ Bs A W := ⟨h.mono h1, h.block Bs h2⟩

end Go.Proofs.Ytjnkajdfdhockaa
