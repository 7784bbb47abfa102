/-
  The slot of a slot's word.
-/
import Derived.Test.YtpiffapnbjnjiaaMetaRC
namespace Go.Proofs.Ytpiffapnbjnjiaa
set_option linter.unusedVariables false
open Go.RowKit

theorem slW_fields (a d : Nat) (ha : a < 16777216) (hd : d < 2) : slW a d % 16777216 = a ∧ slW a d / 16777216 % 2 = 1 ∧ slW a d / 33554432 % 2 = d ∧ slW a d ≠ 0 := by
  have hs := sumW_lt (slB a d)
  unfold slW
  generalize sumW (slB a d) = q at *
  unfold slB
  refine ⟨?_, ?_, ?_, ?_⟩ <;> omega

/-- A slot that Put takes. -/
def Sl.Good (s : Sl) : Prop := 0 ≤ s.block ∧ s.block ≤ 16777215 ∧ s.stamp = 0 ∧ (s.valid = false → s.block = 0 ∧ s.dirty = false)

theorem slotS_word (s : Sl) (h : s.Good) : slotS s.word = s ∧ slotOk s.word = true := by
  obtain ⟨v, d, b, st⟩ := s
  obtain ⟨h1, h2, h3, h4⟩ := h
  change 0 ≤ b at h1
  change b ≤ 16777215 at h2
  change st = 0 at h3
  subst h3
  cases v
  · obtain ⟨hb, hd⟩ := h4 rfl
    change b = 0 at hb
    change d = false at hd
    subst hb
    subst hd
    exact ⟨rfl, rfl⟩
  · have hw : (Sl.mk true d b 0).word = slW (b % 16777216).toNat (b01 d) := by unfold Sl.word; rw [if_pos rfl]
    have hbm : (b % 16777216).toNat = b.toNat := by omega
    rw [hbm] at hw
    obtain ⟨f1, f2, f3, f4⟩ := slW_fields b.toNat (b01 d) (by omega) (b01_lt d)
    have hS : slotS (slW b.toNat (b01 d)) = ⟨true, d, b, 0⟩ := by
      unfold slotS
      rw [if_neg f4, f1, f2, f3]
      have e1 : ((b.toNat : Nat) : Int) = b := by omega
      have e2 : decide (b01 d = 1) = d := by cases d <;> rfl
      rw [e1, e2]
      rfl
    refine ⟨by rw [hw]; exact hS, ?_⟩
    rw [hw]
    unfold slotOk
    rw [hS, hw]
    exact decide_eq_true (.inr ⟨f2, rfl⟩)

/-- What Open finds in the words of slots with blocks of their own. -/
theorem allOk_words (ws : List Nat) (ss : List Sl) (hw : ∀ (i : Nat) (s : Sl), ss[i]? = some s → ws[1 + i]?.getD 0 = s.word) (hg : ∀ s ∈ ss, s.Good)
    (hd : ∀ (i j : Nat) (s t : Sl), i < j → ss[i]? = some s → ss[j]? = some t → s.valid = true → t.valid = true → s.block ≠ t.block) (k : Nat) (hk : k ≤ ss.length) :
    allOk ws k = true ∧ slotsU ws k = ss.take k ∧ ∀ x ∈ seenB ws k, ∃ (i : Nat) (s : Sl), i < k ∧ ss[i]? = some s ∧ s.valid = true ∧ s.block = x := by
  induction k with
  | zero => exact ⟨rfl, by simp [slotsU, upto], fun x hx => by simp [seenB] at hx⟩
  | succ k ih =>
    obtain ⟨h1, h2, h3⟩ := ih (by omega)
    have hkl : k < ss.length := by omega
    have hs : ss[k]? = some ss[k] := List.getElem?_eq_getElem hkl
    obtain ⟨e1, e2⟩ := slotS_word ss[k] (hg _ (List.getElem_mem _))
    have hwk := hw k _ hs
    refine ⟨?_, ?_, ?_⟩
    · rw [allOk, h1, okAt, hwk, e1, e2]
      cases hv : ss[k].valid
      · rfl
      · have hn : ¬ ss[k].block ∈ seenB ws k := by
          intro hm
          obtain ⟨i, s, hi, hsi, hsv, hsb⟩ := h3 _ hm
          exact hd i k s _ hi hsi hs hsv hv hsb
        rw [decide_eq_false hn]
        rfl
    · rw [slotsU_succ, h2, hwk, e1, List.take_succ_eq_append_getElem hkl]
    · intro x hx
      rw [seenB, hwk, e1] at hx
      cases hv : ss[k].valid
      · rw [hv, if_neg (by simp)] at hx
        obtain ⟨i, s, hi, q⟩ := h3 x hx
        exact ⟨i, s, by omega, q⟩
      · rw [hv, if_pos rfl] at hx
        rcases List.mem_append.1 hx with hx | hx
        · obtain ⟨i, s, hi, q⟩ := h3 x hx
          exact ⟨i, s, by omega, q⟩
        · exact ⟨k, _, by omega, hs, hv, (List.mem_singleton.1 hx).symm⟩

end Go.Proofs.Ytpiffapnbjnjiaa
