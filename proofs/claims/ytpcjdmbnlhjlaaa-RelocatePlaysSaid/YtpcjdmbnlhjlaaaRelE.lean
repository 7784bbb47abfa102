/-
  What the mover reads, over its steps, in plain terms.
-/
import Derived.Test.YtpcjdmbnlhjlaaaRelD
namespace Go.Proofs.Ytpcjdmbnlhjlaaa
set_option linter.unusedVariables false

/-- The words that are read (want), where the places have old and new. -/
structure EN (N ext done : Nat) (cp : Bool) (old new want : List Nat) : Prop where
  l0 : old.length = N
  l1 : new.length = N
  lw : want.length = N
  at_ : ∀ j, j < N → want[j]? = (if j / ext < done then new else old)[j]?
  cq : cp = true → ∀ j, j < N → j / ext = done → new[j]? = old[j]?

theorem EN.start (N ext : Nat) (old new : List Nat) (h0 : old.length = N) (h1 : new.length = N) : EN N ext 0 false old new old :=
  ⟨h0, h1, h0, fun j _ => by rw [if_neg (Nat.not_lt_zero _)], fun e => by cases e⟩
theorem EN.write {N ext done : Nat} {cp : Bool} {old new want : List Nat} (h : EN N ext done cp old new want) (a v : Nat) (ha : a < N) :
    EN N ext done cp (if a / ext < done then old else old.set a v) (if a / ext < done ∨ (cp = true ∧ a / ext = done) then new.set a v else new) (want.set a v) := by
  have hs : ∀ (l : List Nat) (j : Nat), j ≠ a → (l.set a v)[j]? = l[j]? := fun l j hj => List.getElem?_set_ne (fun e => hj e.symm)
  have hm : ∀ l : List Nat, l.length = N → (l.set a v)[a]? = some v := fun l hl => List.getElem?_set_self (by omega)
  refine ⟨?_, ?_, by rw [List.length_set]; exact h.lw, ?_, ?_⟩
  · split
    · exact h.l0
    · rw [List.length_set]; exact h.l0
  · split
    · rw [List.length_set]; exact h.l1
    · exact h.l1
  · intro j hj
    by_cases e : j = a
    · subst e
      rw [hm _ h.lw]
      by_cases hd : j / ext < done
      · rw [if_pos hd, if_pos (.inl hd), hm _ h.l1]
      · rw [if_neg hd, if_neg hd, hm _ h.l0]
    · rw [hs _ _ e, h.at_ j hj]
      by_cases hd : j / ext < done
      · rw [if_pos hd, if_pos hd]
        split
        · rw [hs _ _ e]
        · rfl
      · rw [if_neg hd, if_neg hd]
        split
        · rfl
        · rw [hs _ _ e]
  · intro hc j hj hje
    by_cases e : j = a
    · subst e
      rw [if_pos (.inr ⟨hc, hje⟩), if_neg (by omega), hm _ h.l1, hm _ h.l0]
    · have := h.cq hc j hj hje
      by_cases hd : a / ext < done
      · rw [if_pos (.inl hd), if_pos hd, hs _ _ e]
        exact this
      · rw [if_neg hd, hs _ _ e]
        split
        · rw [hs _ _ e]
          exact this
        · exact this
theorem EN.copy {N ext done : Nat} {old new want : List Nat} (h : EN N ext done false old new want) (he : 1 ≤ ext) : EN N ext done true old (cpL old new (done * ext) ext) want := by
  have hd : ∀ j, (done * ext ≤ j ∧ j < done * ext + ext) ↔ j / ext = done := by
    intro j
    have h1 : done ≤ j / ext ↔ done * ext ≤ j := Nat.le_div_iff_mul_le he
    have h2 : j / ext < done + 1 ↔ j < (done + 1) * ext := Nat.div_lt_iff_lt_mul he
    rw [Nat.add_mul, Nat.one_mul] at h2
    omega
  refine ⟨h.l0, by rw [cpL_length]; exact h.l1, h.lw, ?_, ?_⟩
  · intro j hj
    rw [h.at_ j hj]
    by_cases hl : j / ext < done
    · rw [if_pos hl, if_pos hl, cpL_at _ _ _ _ _ (by rw [h.l1]; exact hj), if_neg (by rw [hd]; omega)]
    · rw [if_neg hl, if_neg hl]
  · intro _ j hj hje
    rw [cpL_at _ _ _ _ _ (by rw [h.l1]; exact hj), if_pos ((hd j).2 hje), List.getElem?_eq_getElem (l := old) (i := j) (by rw [h.l0]; exact hj)]
    rfl
theorem EN.next {N ext done : Nat} {old new want : List Nat} (h : EN N ext done true old new want) : EN N ext (done + 1) false old new want := by
  refine ⟨h.l0, h.l1, h.lw, ?_, fun e => by cases e⟩
  intro j hj
  rw [h.at_ j hj]
  by_cases hd : j / ext < done
  · rw [if_pos hd, if_pos (by omega)]
  · rw [if_neg hd]
    by_cases he : j / ext = done
    · rw [if_pos (by omega), h.cq rfl j hj he]
    · rw [if_neg (by omega)]
theorem EN.done {n ext : Nat} {cp : Bool} {old new want : List Nat} (h : EN (n * ext) ext n cp old new want) : want = new := by
  apply List.ext_getElem?
  intro j
  by_cases hj : j < n * ext
  · rw [h.at_ j hj, if_pos (Nat.div_lt_of_lt_mul (by rw [Nat.mul_comm]; exact hj))]
  · rw [List.getElem?_eq_none (by rw [h.lw]; omega), List.getElem?_eq_none (by rw [h.l1]; omega)]

end Go.Proofs.Ytpcjdmbnlhjlaaa
