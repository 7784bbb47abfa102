/-
  cachemeta.Open, in plain terms.
-/
import Derived.Test.YtpiffapnbjnjiaaMetaU
namespace Go.Proofs.Ytpiffapnbjnjiaa
set_option linter.unusedVariables false
open Go.RowKit

/-- The word 0 has its tag and its checksum. -/
def hform (w : Nat) : Bool := decide (w / 137438953472 % 65536 = 17219 ∧ w / 2097152 % 65536 = sumW (clr w 21))
/-- .. and is no right one all the same. -/
def hbad (w len : Nat) : Bool := decide (w / 9007199254740992 ≠ 0 ∨ w % 2048 < 1 ∨ 1024 < w % 2048 ∨ w / 2048 % 128 < 1 ∨ 64 < w / 2048 % 128 ∨ w / 262144 % 4 = 3 ∨ len < w % 2048 + 1)
/-- Which blocks the first k slots have. -/
def seenB (ws : List Nat) : Nat → List Int
  | 0 => []
  | k + 1 => if (slotS (ws[1 + k]?.getD 0)).valid = true then seenB ws k ++ [(slotS (ws[1 + k]?.getD 0)).block] else seenB ws k
def okAt (ws : List Nat) (k : Nat) : Bool := slotOk (ws[1 + k]?.getD 0) && !((slotS (ws[1 + k]?.getD 0)).valid && decide ((slotS (ws[1 + k]?.getD 0)).block ∈ seenB ws k))
def allOk (ws : List Nat) : Nat → Bool
  | 0 => true
  | k + 1 => allOk ws k && okAt ws k
/-- The slots. -/
def slotsU (ws : List Nat) (k : Nat) : List Sl := upto (fun i => slotS (ws[1 + i]?.getD 0)) k
/-- What Open answers. -/
def openE (ws : List Nat) : Int := if hform (ws[0]?.getD 0) = false then 2 else if hbad (ws[0]?.getD 0) ws.length = true then 24 else if allOk ws ((ws[0]?.getD 0) % 2048) = false then 24 else 0

theorem allOk_mono (ws : List Nat) (k n : Nat) (h : k ≤ n) (ha : allOk ws n = true) : allOk ws k = true := by
  induction n with
  | zero => obtain rfl : k = 0 := by omega
            exact ha
  | succ n ih =>
    by_cases e : k = n + 1
    · rw [e]; exact ha
    · rw [allOk, Bool.and_eq_true] at ha
      exact ih (by omega) ha.1
theorem allOk_false (ws : List Nat) (k n : Nat) (h : k < n) (hk : okAt ws k = false) : allOk ws n = false := by
  cases ha : allOk ws n
  · rfl
  · have := allOk_mono ws (k + 1) n h ha
    rw [allOk, hk, Bool.and_false] at this
    cases this

/-- The cells of slots. -/
def scs (l : List Sl) : List Value := l.flatMap Sl.cells
theorem scs_snoc (l : List Sl) (s : Sl) : scs (l ++ [s]) = scs l ++ s.cells := by simp [scs]
theorem scs_length (l : List Sl) : (scs l).length = l.length * 4 := by
  induction l with
  | nil => rfl
  | cons a r ih => simp only [scs, List.flatMap_cons, List.length_append, List.length_cons] at ih ⊢; rw [ih]; simp [Sl.cells]; omega
theorem slotsU_length (ws : List Nat) (k : Nat) : (slotsU ws k).length = k := upto_length _ _
theorem slotsU_succ (ws : List Nat) (k : Nat) : slotsU ws (k + 1) = slotsU ws k ++ [slotS (ws[1 + k]?.getD 0)] := upto_succ _ _
theorem slotS_block (w : Nat) : 0 ≤ (slotS w).block ∧ (slotS w).block < 16777216 := by
  unfold slotS
  split
  · simp
  · have : w % 16777216 < 16777216 := Nat.mod_lt _ (by omega)
    constructor
    · show (0 : Int) ≤ ((w % 16777216 : Nat) : Int); omega
    · show ((w % 16777216 : Nat) : Int) < 16777216; omega

theorem seal_eq (w : Nat) (hw : w < 18446744073709551616) (h : hform w = true) :
    (w = sealG 0 [w % 2048, w / 2048 % 128, w / 262144 % 4, w / 1048576 % 2, w / 2097152 % 65536, w / 137438953472 % 65536]) ↔ w / 9007199254740992 = 0 := by
  unfold hform at h
  obtain ⟨ht, hs⟩ := of_decide_eq_true h
  have h1 : w % 2048 < 2048 := Nat.mod_lt _ (by omega)
  have h2 : w / 2048 % 128 < 128 := Nat.mod_lt _ (by omega)
  have h3 : w / 262144 % 4 < 4 := Nat.mod_lt _ (by omega)
  have h4 : w / 1048576 % 2 < 2 := Nat.mod_lt _ (by omega)
  rw [ht, seal_head, Nat.mod_eq_of_lt h1, Nat.mod_eq_of_lt h2, Nat.mod_eq_of_lt h3, Nat.mod_eq_of_lt h4]
  have hlt := hdW_lt _ _ _ _ h1 h2 h3 h4
  constructor
  · intro e
    rw [← e] at hlt
    exact Nat.div_eq_of_lt hlt
  · intro e
    have hB : clr w 21 = hdB (w % 2048) (w / 2048 % 128) (w / 262144 % 4) (w / 1048576 % 2) := by
      unfold clr hdB
      simp only [Nat.reducePow, Nat.reduceAdd]
      omega
    unfold hdW
    rw [← hB, ← hs, hB]
    unfold hdB
    omega

end Go.Proofs.Ytpiffapnbjnjiaa
