/-
  An argument that is a slice of steps, as the walk reads it.
-/
import Derived.Test.YtpcjdmbnlhjlaaaTrkG
import Derived.Deep.Slices
import Derived.Deep.Fields
import Derived.ChangeSame
namespace Go.Proofs.Ytpcjdmbnlhjlaaa
set_option linter.unusedVariables false
open Go.RowKit Go.ChangeShapes Go.WideShapes Go.Deep

theorem step_cells : Try.prog.cellsOf 100 = 4 := by kernel_rfl
theorem int_cells : Try.prog.cellsOf 3 = 1 := by kernel_rfl
theorem u64_cells : Try.prog.cellsOf 32 = 1 := by kernel_rfl

theorem step_one {H : Type} {enc : TypeId × Value → H} {w : World} {base : Nat} {spare : Nat → Bool} {held : Bool} {n : Nat} {cs : List Value} {x : DataW H × List MemPlace}
    (h : DataW.trod enc Try.prog w base spare held n 100 cs = some x) : ∃ s : Stp, cs = s.cells ∧ StpOk [s] := by
  obtain ⟨xs, n', -, -, hlen, hxl, hg⟩ := DataW.trod_struct Try.underlying100 h
  have hxl : xs.length = 4 := hxl
  rw [step_cells] at hlen
  obtain ⟨c0, c1, c2, c3, rfl⟩ : ∃ c0 c1 c2 c3, cs = [c0, c1, c2, c3] := by
    rcases cs with _ | ⟨c0, _ | ⟨c1, _ | ⟨c2, _ | ⟨c3, _ | ⟨c4, r⟩⟩⟩⟩⟩ <;> simp at hlen
    exact ⟨c0, c1, c2, c3, rfl⟩
  obtain ⟨n0, e0, -, w0⟩ := DataW.trod_int (k := .i64) Try.underlying3 ((hg 0 _ rfl).trans (List.getElem?_eq_getElem (by omega)))
  obtain ⟨n1, e1, -, w1⟩ := DataW.trod_int (k := .i64) Try.underlying3 ((hg 1 _ rfl).trans (List.getElem?_eq_getElem (by omega)))
  obtain ⟨n2, e2, -, w2⟩ := DataW.trod_int (k := .u64) Try.underlying32 ((hg 2 _ rfl).trans (List.getElem?_eq_getElem (by omega)))
  obtain ⟨n3, e3, -, w3⟩ := DataW.trod_int (k := .u64) Try.underlying32 ((hg 3 _ rfl).trans (List.getElem?_eq_getElem (by omega)))
  simp [int_cells] at e0 e1
  simp [u64_cells] at e2 e3
  subst e0; subst e1; subst e2; subst e3
  have v2 := wf_u64 w2
  have v3 := wf_u64 w3
  have v1 := bounds_i64 w1
  refine ⟨⟨n0, n1, n2.toNat, n3.toNat⟩, ?_, ?_⟩
  · show _ = [Value.int .i64 n0, .int .i64 n1, .int .u64 (n2.toNat : Int), .int .u64 (n3.toNat : Int)]
    rw [show ((n2.toNat : Nat) : Int) = n2 by omega, show ((n3.toNat : Nat) : Int) = n3 by omega]
  · intro y hy
    rw [List.mem_singleton] at hy
    subst hy
    exact ⟨by dsimp only; omega, by dsimp only; omega, by dsimp only; omega⟩

theorem svs_snoc (l : List Stp) (s : Stp) : svs (l ++ [s]) = svs l ++ s.cells := by simp [svs]

theorem steps_row {H : Type} {enc : TypeId × Value → H} {w : World} {base : Nat} {spare : Nat → Bool} {held : Bool} {n : Nat} {cs : List Value} {x : DataW H × List MemPlace}
    (h : DataW.trod enc Try.prog w base spare held n 56 cs = some x) : ∃ (A : Option Addr) (len cap : Nat) (ls : List Stp), cs = [.slice A len cap] ∧ ls.length = len ∧ StpOk ls ∧ Reads w A (svs ls) := by
  rcases open_slice Try.underlying56 h with ⟨rfl, -⟩ | ⟨a, len, cap, m, n', D, Pl, rfl, -, hl, -, hmm, -, hi⟩
  · exact ⟨none, 0, 0, [], rfl, rfl, (fun x hx => by cases hx), Reads.nil⟩
  · have hlm : len ≤ m := by rw [hmm]; split <;> omega
    have key : ∀ k, k ≤ len → ∃ ls : List Stp, ls.length = k ∧ StpOk ls ∧ ∀ q v, (svs ls)[q]? = some v → w.cell? (a.add q) = some v := by
      intro k
      induction k with
      | zero => exact fun _ => ⟨[], rfl, (fun x hx => by cases hx), fun q v hq => by simp [svs] at hq⟩
      | succ k ih =>
        intro hk
        obtain ⟨ls, hls, hok, hc⟩ := ih (by omega)
        obtain ⟨cs', hcs, ht⟩ := hi k (by omega)
        obtain ⟨s, rfl, hs⟩ := step_one ht
        rw [step_cells] at hcs
        obtain ⟨-, -, hat⟩ := World.cells?_some hcs
        refine ⟨ls ++ [s], by simp [hls], fun y hy => ?_, fun q v hq => ?_⟩
        · rcases List.mem_append.1 hy with hy | hy
          · exact hok y hy
          · exact hs y hy
        · rw [svs_snoc] at hq
          by_cases hlt : q < (svs ls).length
          · rw [List.getElem?_append_left hlt] at hq
            exact hc q v hq
          · rw [List.getElem?_append_right (by omega)] at hq
            rw [svs_length, hls] at hq hlt
            obtain ⟨j, hj⟩ : ∃ j, q = k * 4 + j := ⟨q - k * 4, by omega⟩
            subst hj
            rw [show k * 4 + j - k * 4 = j by omega] at hq
            have hj4 : j < 4 := (List.getElem?_eq_some_iff.1 hq).1
            rw [← Go.Deep.add_add, hat j hj4, hq]
    obtain ⟨ls, hls, hok, hc⟩ := key len (Nat.le_refl _)
    refine ⟨some a, len, cap, ls, rfl, hls, hok, fun hz => ?_⟩
    obtain ⟨v0, hv0⟩ : ∃ v, (svs ls)[0]? = some v := ⟨_, List.getElem?_eq_getElem (by omega)⟩
    have h0 := hc 0 v0 hv0
    obtain ⟨b, off, rfl⟩ := addr_plain (show w.cell? (a.add 0) = _ from h0)
    exact ⟨b, off, rfl, World.block_lt_of_cell? _ _ h0, fun i v hi => by have := hc i v hi; rw [Addr.add_lit] at this; exact this⟩

end Go.Proofs.Ytpcjdmbnlhjlaaa
