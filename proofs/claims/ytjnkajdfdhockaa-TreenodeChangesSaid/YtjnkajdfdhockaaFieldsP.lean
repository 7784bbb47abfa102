/-
  The fields of a word, in plain Lean.
-/
import Derived.Test.YtjnkajdfdhockaaBits
namespace Go.Proofs.Ytjnkajdfdhockaa
set_option linter.unusedVariables false

/-- Widths that divide a word, s bits of which are taken. -/
def okW : Int → List Int → Bool
  | _, [] => true
  | s, w :: r => decide (1 ≤ w ∧ w ≤ 64 ∧ s + w ≤ 64) && okW (s + w) r

theorem okW_at (s : Int) (ws : List Int) (k : Nat) (h : okW s ws = true) (hk : k < ws.length) :
    1 ≤ ws[k]?.getD 0 ∧ ws[k]?.getD 0 ≤ 64 ∧ s + (ws.take k).sum + ws[k]?.getD 0 ≤ 64 := by
  induction ws generalizing s k with
  | nil => simp at hk
  | cons w r ih =>
    simp only [okW, Bool.and_eq_true, decide_eq_true_eq] at h
    cases k with
    | zero => simp; omega
    | succ k =>
      have := ih (s + w) k h.2 (by simpa using hk)
      simp at this ⊢
      omega

theorem okW_drop (s : Int) (ws : List Int) (k : Nat) (hk : k < ws.length) (x : Int) (hx : ws[k]?.getD 0 = x) : okW s (ws.drop k) = (decide (1 ≤ x ∧ x ≤ 64 ∧ s + x ≤ 64) && okW (s + x) (ws.drop (k + 1))) := by
  rw [List.drop_eq_getElem_cons hk, okW]
  have : ws[k] = x := by rw [← hx, List.getElem?_eq_getElem hk]; rfl
  rw [this]

theorem sum_take_succ (ws : List Int) (k : Nat) (hk : k < ws.length) : (ws.take (k + 1)).sum = (ws.take k).sum + ws[k]?.getD 0 := by
  rw [List.take_succ_eq_append_getElem hk, List.sum_append, List.getElem?_eq_getElem hk]
  simp

/-- The lowest bit and the mask of each field. -/
def fldAt (ws : List Int) (k : Nat) : Nat := ((ws.take k).sum).toNat
def maskOf (x : Int) : Nat := 2 ^ x.toNat - 1

theorem sum_nonneg (s : Int) (ws : List Int) (h : okW s ws = true) (k : Nat) : 0 ≤ (ws.take k).sum := by
  induction k with
  | zero => simp
  | succ k ih =>
    rcases Nat.lt_or_ge k ws.length with hk | hk
    · rw [sum_take_succ ws k hk]
      have := okW_at s ws k h hk
      omega
    · rw [List.take_of_length_le (by omega)]
      rwa [List.take_of_length_le hk] at ih

end Go.Proofs.Ytjnkajdfdhockaa
