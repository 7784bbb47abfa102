/-
  A set of numbers in a map; the fields of a cache's words, read.
-/
import Derived.Test.YtpiffapnbjnjiaaGg
import Derived.Maps.OwnSet
namespace Go.Proofs.Ytpiffapnbjnjiaa
set_option linter.unusedVariables false
open Go.RowKit

/-- Block b is a map of at most n entries that holds the numbers of S. -/
def Seen (W : World) (b n : Nat) (S : List Int) : Prop :=
  ∃ D : DataW Unit, W.ownsMap Try.prog 3 (plainElem Try.prog 4) b n D ∧ ∀ x : Int, D.atKey (.int .i64 x) (.lit (.bool false)) = .lit (.bool (decide (x ∈ S)))

theorem Seen.made (W : World) : Seen (W.alloc (.map #[] 0)) W.heap.size 0 [] :=
  ⟨.map [], World.ownsMap_made W _ _ _, fun x => by simp [DataW.atKey]⟩
theorem Seen.keep {W W' : World} {b n : Nat} {S : List Int} (h : Seen W b n S) {row : Option Nat} (hg : W.grownBy W' row) (hne : some b ≠ row) : Seen W' b n S := by
  obtain ⟨D, h1, h2⟩ := h
  exact ⟨D, h1.kept hg hne, h2⟩
theorem Seen.fr {W W' : World} {b n : Nat} {S : List Int} {G : Nat → Prop} (h : Seen W b n S) (hf : Fr G W W') (hn : ¬ G b) : Seen W' b n S := by
  obtain ⟨D, ⟨es, clock, hb, r⟩, h2⟩ := h
  exact ⟨D, ⟨es, clock, (hf.block b (map_lt hb) hn).trans hb, r⟩, h2⟩
theorem Seen.mono {W : World} {b n n' : Nat} {S : List Int} (h : Seen W b n S) (hn : n ≤ n') : Seen W b n' S := by
  obtain ⟨D, h1, h2⟩ := h
  exact ⟨D, h1.mono hn, h2⟩
theorem Seen.lt {W : World} {b n : Nat} {S : List Int} (h : Seen W b n S) : b < W.heap.size := by
  obtain ⟨D, ⟨es, clock, hb, r⟩, h2⟩ := h
  exact map_lt hb
theorem elem_bool {P : Program} {e : TypeId} (he : P.underlying e = some .bool) {v : Value} {c : Bool} {ps : List MemPlace} (h : plainElem (H := Unit) P e v = some (.lit (.bool c), ps)) : v = .bool c := by
  unfold plainElem at h
  rw [he] at h
  cases v <;> simp at h
  rw [h.1]
theorem i64_wf (x : Int) (h : -9223372036854775808 ≤ x ∧ x ≤ 9223372036854775807) : (Lit.int .i64 x).wf = true := WalkArith.wf_i64 (by omega)
theorem Seen.look {W : World} {b n : Nat} {S : List Int} (h : Seen W b n S) (x : Int) (hx : -9223372036854775808 ≤ x ∧ x ≤ 9223372036854775807) :
    (Instr.lookup 90 (.map (some b)) (.int .i64 x) false).run Try.prog W = .ok (.bool (decide (x ∈ S))) W := by
  obtain ⟨D, h1, h2⟩ := h
  obtain ⟨v, ps, hrun, hv⟩ := h1.lookup (Maps.int_keyed Try.underlying3) Try.underlying90 (zero_bool W) (plainElem_bool Try.underlying4 false) (Maps.keyOf_int_mk Try.underlying3 (i64_wf x hx))
  rw [h2] at hv
  rw [elem_bool Try.underlying4 hv] at hrun
  exact hrun
theorem Seen.store {W : World} {b n : Nat} {S : List Int} (h : Seen W b n S) (hn : n < maxLen) (x : Int) (hx : -9223372036854775808 ≤ x ∧ x ≤ 9223372036854775807) :
    ∃ W', (Instr.mapUpdate 90 (.map (some b)) (.int .i64 x) (.bool true)).run Try.prog W = .ok () W' ∧ Seen W' b (n + 1) (S ++ [x]) ∧ W.grownBy W' (some b) := by
  obtain ⟨D, h1, h2⟩ := h
  have hk := Maps.keyOf_int_mk Try.underlying3 (i64_wf x hx)
  obtain ⟨W', hrun, h3, h4⟩ := h1.update (Maps.int_keyed Try.underlying3) Try.underlying90 hn hk (plainElem_bool Try.underlying4 true)
  refine ⟨W', hrun, ⟨_, h3, fun y => ?_⟩, h4⟩
  by_cases e : y = x
  · subst e
    rw [Maps.atKey_put_same h1.isMap ((Maps.int_keyed Try.underlying3).key hk)]
    simp
  · rw [Maps.atKey_put_other (by intro hc; injection hc with _ hc; exact e hc), h2]
    simp [e]

/-- The fields of the words. -/
theorem split_hd (x : Nat) : splitR wHead x = [x % 2048, x / 2048 % 128, x / 262144 % 4, x / 1048576 % 2, x / 2097152 % 65536, x / 137438953472 % 65536] := by
  have hf : upto (fldOf wHead) 6 = [⟨0, 2047, by omega, by omega⟩, ⟨11, 127, by omega, by omega⟩, ⟨18, 3, by omega, by omega⟩, ⟨20, 1, by omega, by omega⟩, ⟨21, 65535, by omega, by omega⟩, ⟨37, 65535, by omega, by omega⟩] := by rfl
  unfold splitR splitF
  rw [if_pos (by decide), show wHead.length = 6 from rfl, hf]
  simp only [List.map_cons, List.map_nil, Nat.shiftRight_eq_div_pow]
  have a1 := Nat.and_two_pow_sub_one_eq_mod (x / 2 ^ 0) 11
  have a2 := Nat.and_two_pow_sub_one_eq_mod (x / 2 ^ 11) 7
  have a3 := Nat.and_two_pow_sub_one_eq_mod (x / 2 ^ 18) 2
  have a4 := Nat.and_two_pow_sub_one_eq_mod (x / 2 ^ 20) 1
  have a5 := Nat.and_two_pow_sub_one_eq_mod (x / 2 ^ 21) 16
  have a6 := Nat.and_two_pow_sub_one_eq_mod (x / 2 ^ 37) 16
  simp only [Nat.reducePow, Nat.reduceSub, Nat.div_one] at *
  rw [a1, a2, a3, a4, a5, a6]
theorem split_sl (x : Nat) : splitR wSlot x = [x % 16777216, x / 16777216 % 2, x / 33554432 % 2, x / 67108864 % 4194304, x / 281474976710656 % 65536] := by
  have hf : upto (fldOf wSlot) 5 = [⟨0, 16777215, by omega, by omega⟩, ⟨24, 1, by omega, by omega⟩, ⟨25, 1, by omega, by omega⟩, ⟨26, 4194303, by omega, by omega⟩, ⟨48, 65535, by omega, by omega⟩] := by rfl
  unfold splitR splitF
  rw [if_pos (by decide), show wSlot.length = 5 from rfl, hf]
  simp only [List.map_cons, List.map_nil, Nat.shiftRight_eq_div_pow]
  have a1 := Nat.and_two_pow_sub_one_eq_mod (x / 2 ^ 0) 24
  have a2 := Nat.and_two_pow_sub_one_eq_mod (x / 2 ^ 24) 1
  have a3 := Nat.and_two_pow_sub_one_eq_mod (x / 2 ^ 25) 1
  have a4 := Nat.and_two_pow_sub_one_eq_mod (x / 2 ^ 26) 22
  have a5 := Nat.and_two_pow_sub_one_eq_mod (x / 2 ^ 48) 16
  simp only [Nat.reducePow, Nat.reduceSub, Nat.div_one] at *
  rw [a1, a2, a3, a4, a5]

/-- The slot of a word, and whether it is one's. -/
def slotS (w : Nat) : Sl := if w = 0 then ⟨false, false, 0, 0⟩ else ⟨decide (w / 16777216 % 2 = 1), decide (w / 33554432 % 2 = 1), ((w % 16777216 : Nat) : Int), 0⟩
def slotOk (w : Nat) : Bool := decide (w = 0 ∨ (w / 16777216 % 2 = 1 ∧ w = (slotS w).word))

end Go.Proofs.Ytpiffapnbjnjiaa
