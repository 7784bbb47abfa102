/-
  The checksum by a table (checksum): newTable.
-/
import Derived.Test.YtjnkajdfdhockaaSumA
import Derived.Deep.MidRow
namespace Go.Proofs.Ytjnkajdfdhockaa
set_option linter.unusedVariables false
open Go.RowKit

/-- The table's cells when k entries are made. -/
def tabTo (k : Nat) : List Value := (List.range 256).map fun i => Value.int .u32 (((if i < k then step8 i else 0) : Nat) : Int)
theorem tabTo_length (k : Nat) : (tabTo k).length = 256 := by simp [tabTo]
theorem tabTo_at (k i : Nat) (h : i < 256) : (tabTo k)[i]? = some (.int .u32 (((if i < k then step8 i else 0) : Nat) : Int)) := by simp [tabTo, h]
theorem tabTo_succ (k : Nat) (h : k < 256) : (tabTo k).set k (.int .u32 ((step8 k : Nat) : Int)) = tabTo (k + 1) := by
  refine List.ext_getElem? fun i => ?_
  by_cases hi : i < 256
  · rw [List.getElem?_set, tabTo_at _ _ hi, tabTo_at _ _ hi, tabTo_length]
    by_cases e : k = i
    · subst e; simp [h]
    · have : (i < k + 1) = (i < k) := by apply propext; omega
      simp [e, this]
  · rw [List.getElem?_eq_none (by rw [List.length_set, tabTo_length]; omega), List.getElem?_eq_none (by rw [tabTo_length]; omega)]
theorem tabTo_zero : Try.zeroCells92 = (tabTo 0).toArray := by kernel_rfl

theorem grownBy_setRow (W : World) (b : Nat) (cs : Array Value) : W.grownBy (W.setRow b cs) (some b) :=
  ⟨rfl, rfl, rfl, by simp [World.setRow], fun k _ hk => by
    show (W.heap.modify b _)[k]? = _
    rw [Array.getElem?_modify, if_neg (fun e => hk (by rw [e]))]⟩

set_option maxRecDepth 100000 in
set_option maxHeartbeats 1000000 in
theorem newTable_any (w : World) :
    Calls Try.prog 65 #[] w fun e w' => e = .returned (.agg (tabTo 256).toArray) ∧ Below w.heap.size w w' := by
  go_enter Try.func65, Try.ntmps65
  go_wp2
  have h0 : ((w.alloc (Obj.cells Try.zeroCells92 92)).alloc (Obj.cells Try.zeroCells92 92)).heap[w.heap.size]? = some (.cells (tabTo 0).toArray 92 (0, 0)) := by
    rw [tabTo_zero, heap_alloc_old _ _ (by simp)]
    exact heap_alloc_new w _
  have h1 : ((w.alloc (Obj.cells Try.zeroCells92 92)).alloc (Obj.cells Try.zeroCells92 92)).heap[w.heap.size + 1]? = some (.cells (tabTo 0).toArray 92 (0, 0)) := by
    rw [tabTo_zero]
    have := heap_alloc_new (w.alloc (Obj.cells (tabTo 0).toArray 92)) (Obj.cells (tabTo 0).toArray 92)
    rw [World.size_alloc] at this
    exact this
  have hb : Below w.heap.size w ((w.alloc (Obj.cells Try.zeroCells92 92)).alloc (Obj.cells Try.zeroCells92 92)) := ((Below.refl _ w).alloc (Nat.le_refl _) _).alloc (by simp) _
  generalize ((w.alloc (Obj.cells Try.zeroCells92 92)).alloc (Obj.cells Try.zeroCells92 92)) = W at h0 h1 hb ⊢
  go_loopw [4] (fun i wr => ∃ k : Nat, k ≤ 256 ∧ i = .int .i64 k ∧ wr.heap[w.heap.size]? = some (.cells (tabTo 0).toArray 92 (0, 0)) ∧ wr.heap[w.heap.size + 1]? = some (.cells (tabTo k).toArray 92 (0, 0)) ∧ Below w.heap.size w wr) (fun i _ => 256 - (intOf i).toNat)
  case atStart => exact ⟨0, Nat.zero_le _, rfl, h0, h1, hb⟩
  case round =>
    obtain ⟨k, hk, rfl, g0, g1, hB⟩ := hrel
    have G0 := Lib.hid g0
    have G1 := Lib.hid g1
    clear h0 h1 hb
    by_cases hlt : k < 256
    · have hl' : (k : Int) < 256 := by omega
      have hw32 : IntKind.u32.wrap (k : Int) = (k : Int) := by rw [IntKind.wrap_u32]; omega
      have hc := cell_of_row wr (w.heap.size + 1) k _ _ _ g1
      have hf := frozen_of_row wr (w.heap.size + 1) k _ _ g1
      clear g0 g1
      rw [show (tabTo k).toArray[k]? = (tabTo k)[k]? by simp, tabTo_at k k hlt] at hc
      go_wp2_with fail
      go_loop [3, 9] (fun r j => ∃ t : Nat, t ≤ 8 ∧ j = .int .i64 (t : Int) ∧ r = .int .u32 ((stepN t k : Nat) : Int)) (fun _ j => 8 - (intOf j).toNat)
      case atStart => exact ⟨0, Nat.zero_le _, rfl, rfl⟩
      case round =>
        obtain ⟨t, ht, rfl, rfl⟩ := hrel
        have hs := stepN_lt t k (by omega)
        by_cases h8 : t < 8
        · have h8' : (t : Int) < 8 := by omega
          have hS : stepN (t + 1) k = stepC (stepN t k) := rfl
          obtain ⟨x, ex⟩ : ∃ x, stepN t k = x := ⟨_, rfl⟩
          rw [ex] at hs hS ⊢
          have HS := Lib.hid hS
          clear ex hS
          have h0 := and_one32 x hs
          by_cases h : x % 2 = 1
          · have h1 : bits .and .u32 (x : Int) 1 = 1 := by rw [h0, h]; rfl
            have H := Lib.hid h
            clear h0 h
            go_wp2_with fail
            go_round
            case rel =>
              refine ⟨t + 1, by omega, by go_num, ?_⟩
              rw [HS.out, step_odd x H.out, ← u32_xor_nat _ _ (shr1_lt x hs) (by omega), Nat.shiftRight_eq_div_pow]
              rfl
            case measure => simp [intOf]; omega
          · have h1 : (bits .and .u32 (x : Int) 1 == 1) = false := by rw [h0]; simp; omega
            have h2 : ¬ bits .and .u32 (x : Int) 1 = 1 := by simpa using h1
            have H := Lib.hid h
            clear h0 h
            go_wp2_with fail
            go_round
            case rel =>
              refine ⟨t + 1, by omega, by go_num, ?_⟩
              rw [HS.out, step_even x H.out, Nat.shiftRight_eq_div_pow]
              rfl
            case measure => simp [intOf]; omega
        · obtain rfl : t = 8 := by omega
          go_wp2_with fail
          refine ⟨⟨k + 1, by omega, by go_num, (Below.heap_setCell _ _ _ _ (by show _ ≠ _ + 1; omega)).trans G0.out, ?_, hB.setCell (p := ⟨w.heap.size + 1, k, none⟩) (by show _ ≤ _ + 1; omega) _⟩, by simp [intOf]; omega⟩
          have := heap_setCell_same wr (w.heap.size + 1) k _ 92 (.int .u32 ((stepN 8 k : Nat) : Int)) G1.out
          rw [← tabTo_succ k hlt]
          rw [this]
          simp [step8]
    · obtain rfl : k = 256 := by omega
      have hi : (Try.prog.info? 92).map (·.size) = some (tabTo 256).length := by rw [tabTo_length]; kernel_rfl
      have hi2 : (Try.prog.info? 92).map (·.size) = some (tabTo 256).toArray.size := by rw [hi]; simp
      have hr1 : wr.rangeAt (w.heap.size + 1) 0 (tabTo 256) := by
        intro j v hv
        have := cell_of_row wr (w.heap.size + 1) (0 + j) _ _ _ g1
        rw [this, Nat.zero_add]
        simpa using hv
      have h1c : (tabTo 256).toArray.all (·.oneCell') = true := all_oneCell_toArray (by
        intro v hv
        obtain ⟨i, _, rfl⟩ := List.mem_map.1 hv
        rfl)
      have hst : (storeCells ⟨w.heap.size, 0, none⟩ (tabTo 256)).run Try.prog wr = .ok () (wr.setRow w.heap.size (tabTo 256).toArray) := by
        have := run_storeVar_row (P := Try.prog) wr w.heap.size 92 92 _ (tabTo 256).toArray g0 hi2 (by simp [tabTo]) h1c
        cases hq : Try.prog.info? 92 with
        | none => rw [hq] at hi2; simp at hi2
        | some i =>
          have hs : (tabTo 256).length = i.size := by rw [hq] at hi; simp at hi; omega
          simpa [storeVar, sizeOf, typeInfo, hq, Value.cells, hs] using this
      have hg2 := setRow_heap wr w.heap.size _ (tabTo 256).toArray 92 _ g0
      have hB2 : Below w.heap.size w (wr.setRow w.heap.size (tabTo 256).toArray) := hB.grown (row := some w.heap.size) (grownBy_setRow wr w.heap.size _) hB.size (by intro r e; cases e; exact Nat.le_refl _)
      have HI := Lib.hid hi
      have HI2 := Lib.hid hi2
      have HR := Lib.hid hr1
      have HG := Lib.hid hg2
      clear g0 g1 hi hi2 hr1 h1c hg2
      go_wp2_with fail
      refine wp_load_mid 92 _ rfl (w.heap.size + 1) 0 rfl (tabTo 256) _ HR.out Try.underlying92 rfl HI.out ?_
      go_wp2_with fail
      refine bodyPost_ret (results_cell_row rfl _ _ w.heap.size 92 _ (0, 0) _ rfl HG.out Try.underlying92 rfl HI2.out) rfl ?_
      exact ⟨rfl, hB2⟩

end Go.Proofs.Ytjnkajdfdhockaa
