/-
  What is known of sectors (volumegroupmake.Track), in plain terms.
-/
import Derived.Test.YtpcjdmbnlhjlaaaGa
namespace Go.Proofs.Ytpcjdmbnlhjlaaa
set_option linter.unusedVariables false

/-- What is known of a sector. -/
structure Sec where
  sm : List Nat
  kn : Bool
  val : Nat
def Sec.wrote (x : Sec) (v : Nat) (d : Bool) : Sec := ⟨x.sm ++ [v], d, v⟩
def Sec.flushed (x : Sec) : Sec := if x.kn = true then ⟨[x.val], x.kn, x.val⟩ else x
def Sec.failed (x : Sec) : Sec := ⟨x.sm, false, x.val⟩
def Sec.read (x : Sec) (v : Nat) (st : Bool) : Sec := if x.kn = true then x else ⟨if st = true then [v] else x.sm, true, v⟩
def Sec.may (x : Sec) (v : Nat) : Prop := if x.kn = true then v = x.val else v ∈ x.sm
def Sec.start (v : Nat) : Sec := ⟨[v], true, v⟩

def tAt (t : List Sec) (a : Nat) : Sec := t[a]?.getD ⟨[], false, 0⟩
def tWrote (t : List Sec) (a v : Nat) (d : Bool) : List Sec := t.set a ((tAt t a).wrote v d)
def tRead (t : List Sec) (a v : Nat) (st : Bool) : List Sec := t.set a ((tAt t a).read v st)
def tFlushed (t : List Sec) : List Sec := t.map Sec.flushed
def tFailed (t : List Sec) : List Sec := t.map Sec.failed
def tMay (t : List Sec) (a v : Nat) : Prop := (tAt t a).may v

theorem tAt_eq {t : List Sec} {a : Nat} {x : Sec} (h : t[a]? = some x) : tAt t a = x := by
  unfold tAt
  rw [h]
  rfl
theorem set_cases {α : Type} {l : List α} {a j : Nat} {y x : α} (h : (l.set a y)[j]? = some x) : (j = a ∧ x = y) ∨ (j ≠ a ∧ l[j]? = some x) := by
  by_cases e : j = a
  · subst e
    have hl : j < l.length := by
      have := (List.getElem?_eq_some_iff.1 h).1
      simpa using this
    rw [List.getElem?_set_self hl] at h
    injection h with h
    exact .inl ⟨rfl, h.symm⟩
  · rw [List.getElem?_set_ne (fun e' => e e'.symm)] at h
    exact .inr ⟨e, h⟩
theorem map_cases {α β : Type} {l : List α} {f : α → β} {j : Nat} {y : β} (h : (l.map f)[j]? = some y) : ∃ x, l[j]? = some x ∧ y = f x := by
  rw [List.getElem?_map] at h
  rcases hx : l[j]? with _ | x
  · rw [hx] at h; cases h
  · rw [hx] at h
    injection h with h
    exact ⟨x, rfl, h.symm⟩

end Go.Proofs.Ytpcjdmbnlhjlaaa
