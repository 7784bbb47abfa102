/-
  One disk behind Restart, in plain terms.
-/
import Derived.Test.YtpiffapnbjnjiaaDiskR
import Derived.Test.YtpiffapnbjnjiaaGe
namespace Go.Proofs.Ytpiffapnbjnjiaa
set_option linter.unusedVariables false
open Go.RowKit

/-- The durable words behind k of the unflushed writes. -/
def rsDur (dur : List Nat) (log : List (Nat × Nat × Nat)) (bs : List Bool) : Nat → List Nat
  | 0 => dur
  | k + 1 => if bs[k]?.getD false = true then (rsDur dur log bs k).set (log[k]?.getD (0, 0, 0)).2.1 (log[k]?.getD (0, 0, 0)).2.2 else rsDur dur log bs k
theorem rsDur_length (dur : List Nat) (log : List (Nat × Nat × Nat)) (bs : List Bool) (k : Nat) : (rsDur dur log bs k).length = dur.length := by
  induction k with
  | zero => rfl
  | succ k ih => rw [rsDur]; split; rw [List.length_set, ih]; exact ih
/-- A word behind it is as it was durable, or one that was written. -/
theorem rsDur_at (dur : List Nat) (log : List (Nat × Nat × Nat)) (bs : List Bool) (k i : Nat) (hk : k ≤ log.length) : (rsDur dur log bs k)[i]? = dur[i]? ∨ ∃ r ∈ log, r.2.1 = i ∧ (rsDur dur log bs k)[i]? = some r.2.2 := by
  induction k with
  | zero => exact .inl rfl
  | succ k ih =>
    rw [rsDur]
    split
    · have hr : log[k]?.getD (0, 0, 0) ∈ log := by rw [List.getElem?_eq_getElem (by omega), Option.getD_some]; exact List.getElem_mem _
      by_cases e : (log[k]?.getD (0, 0, 0)).2.1 = i
      · by_cases hl : i < dur.length
        · refine .inr ⟨_, hr, e, ?_⟩
          rw [e, List.getElem?_set_self (by rw [rsDur_length]; exact hl)]
        · refine .inl ?_
          rw [List.getElem?_eq_none (by rw [List.length_set, rsDur_length]; omega), List.getElem?_eq_none (by omega)]
      · rw [List.getElem?_set_ne e]
        exact ih (by omega)
    · exact ih (by omega)
theorem one_rsTo (now dur : List Nat) (log : List (Nat × Nat × Nat)) (fuse wr : Int) (down : Bool) (bs : List Bool) (k : Nat) (hk : k ≤ log.length) (h : ∀ r ∈ log, r.1 = 0) : (one now dur log fuse down wr).rsTo bs k = one now (rsDur dur log bs k) log fuse down wr := by
  induction k with
  | zero => rfl
  | succ k ih =>
    rw [DS.rsTo, rsDur, ih (by omega)]
    have hlg : (one now dur log fuse down wr).log = log := rfl
    rw [hlg]
    split
    · have hr : log[k]?.getD (0, 0, 0) ∈ log := by rw [List.getElem?_eq_getElem (by omega), Option.getD_some]; exact List.getElem_mem _
      rw [h _ hr]
      rfl
    · rfl
theorem one_restart (now dur : List Nat) (log : List (Nat × Nat × Nat)) (fuse wr : Int) (down : Bool) (bs : List Bool) (h : ∀ r ∈ log, r.1 = 0) :
    (one now dur log fuse down wr).restart bs = one (rsDur dur log bs log.length) (rsDur dur log bs log.length) [] 0 false wr := by
  unfold DS.restart
  have hlg : (one now dur log fuse down wr).log = log := rfl
  have hdl : (one now dur log fuse down wr).dr.length = 1 := rfl
  rw [hlg, hdl, one_rsTo _ _ _ _ _ _ _ _ (Nat.le_refl _) h]
  rfl

end Go.Proofs.Ytpiffapnbjnjiaa
