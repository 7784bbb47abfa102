/-
  slices.Clone of slots, Slots; Put, where it writes.
-/
import Derived.Test.YtpiffapnbjnjiaaMetaW
namespace Go.Proofs.Ytpiffapnbjnjiaa
set_option linter.unusedVariables false
open Go.RowKit
attribute [local go_sem] Oper.semAt_some

theorem scs_one (l : List Sl) : ∀ v ∈ scs l, v.oneCell' = true := by
  intro v hv
  obtain ⟨s, _, h⟩ := List.mem_flatMap.1 hv
  simp only [Sl.cells, List.mem_cons, List.not_mem_nil, or_false] at h
  rcases h with rfl | rfl | rfl | rfl <;> rfl

/-- slices.Clone of slots. -/
theorem cloneS_any (A : Option Addr) (base c n : Nat) (l : List Sl) (w : World) (hn : l.length = n) (hA : w.ownsRow base 50 4 (.slice A n c) n (scs l)) (hl : n ≤ 1000000) :
    Calls Try.prog 51 #[.slice A n c] w fun e w' => ∃ v, e = .returned v ∧ w'.ownsRow w.heap.size 50 4 v n (scs l) ∧ Below w.heap.size w w' := by
  obtain ⟨i0, hi0, hz0, hz1, hz2⟩ := info_parts slot_info
  have hq := fun W => Lib.run_eql_slice_nil (P := Try.prog) W 39 50 A n c 0 0 Try.underlying39
  rcases A with _ | a
  · have h0 : n = 0 := by
      rcases Nat.eq_zero_or_pos n with h | h
      · exact h
      · obtain ⟨b, cap, h, _⟩ := hA.form h
        cases h
    subst h0
    have hl0 : l = [] := List.eq_nil_of_length_eq_zero hn
    subst hl0
    simp only [Option.isNone_none] at hq ⊢
    go_enter Try.func51, Try.ntmps51
    go_wp2
    go_ret
    exact ⟨_, rfl, World.ownsRow_nil _ _ _ _, Below.refl _ _⟩
  · have HN := Lib.hid hn
    have HR := Reads.of_own hA
    clear hn
    go_enter Try.func51, Try.ntmps51
    go_wp2_with (at_builtin; refine wpList_append_reads _ rfl _ _ _ rfl w.heap.size 50 i0 _ 4 24 Try.underlying39 hi0 hz0 hz1 hz2 rfl (by omega) (.slice (some ⟨w.heap.size, 0, none⟩) 0 0) 0 [] rfl (World.ownsRow_lit w #[] 0 (Nat.le_refl _) (by simp only [maxLen]; omega) rfl) (some a) n c (scs l) rfl (by rw [scs_length, HN.out]) (HR.keep ((Below.refl _ _).alloc (Nat.le_refl _) _)) (scs_one l) (by simp only [maxLen]; omega) (by omega) (by simp) ?_; intro v1 w1 hown1 hg1 hat1)
    go_ret
    refine ⟨v1, rfl, by simpa using hown1, ((Below.refl _ w).alloc (Nat.le_refl _) _).grown hg1 (by simp) ?_⟩
    intro k hk
    simp [Value.ownBlock] at hk
    omega

theorem slots_any (W : World) (base m c n : Nat) (A : Option Addr) (l : List Sl) (x y z t : Value) (hn : l.length = n) (hC : Cs W m 89 #[x, .slice A n c, y, z, t]) (hA : W.ownsRow base 50 4 (.slice A n c) n (scs l)) (hl : n ≤ 1000000) :
    Calls Try.prog 16 #[.pointer (some ⟨m, 0, none⟩)] W fun e w' => ∃ v, e = .returned v ∧ w'.ownsRow W.heap.size 50 4 v n (scs l) ∧ Below W.heap.size W w' := by
  have x1 : W.cell? ⟨m, 1, none⟩ = some (.slice A n c) := hC.cell 1
  go_enter Try.func16, Try.ntmps16
  go_wp2_with fail
  refine (cloneS_any A base c n l W hn hA hl).mono ?_
  rintro e w1 ⟨v, rfl, ho, hb⟩
  go_wp2_with fail
  go_ret
  exact ⟨v, rfl, ho, hb⟩

theorem scs_at (l : List Sl) (k : Nat) (s : Sl) (h : l[k]? = some s) : (scs l)[k * 4]? = some (.bool s.valid) ∧ (scs l)[k * 4 + 1]? = some (.bool s.dirty) ∧ (scs l)[k * 4 + 2]? = some (.int .i64 s.block) ∧ (scs l)[k * 4 + 3]? = some (.int .i64 s.stamp) := by
  induction l generalizing k with
  | nil => simp at h
  | cons y r ih =>
    rcases k with _ | k
    · simp at h; subst h; simp [scs, Sl.cells]
    · have := ih k (by simpa using h)
      have e : ∀ j, (scs (y :: r))[(k + 1) * 4 + j]? = (scs r)[k * 4 + j]? := by
        intro j
        rw [show (k + 1) * 4 + j = k * 4 + j + 1 + 1 + 1 + 1 by omega]
        simp [scs, Sl.cells]
      have e0 := e 0
      simp only [Nat.add_zero] at e0
      rw [e0, e 1, e 2, e 3]
      exact this

/-- The row of slots, one of them stored anew. -/
theorem scs_set (l : List Sl) (k : Nat) (s : Sl) (h : k < l.length) : scs (l.set k s) = ((((scs l).set (k * 4) (.bool s.valid)).set (k * 4 + 1) (.bool s.dirty)).set (k * 4 + 2) (.int .i64 s.block)).set (k * 4 + 3) (.int .i64 s.stamp) := by
  induction l generalizing k with
  | nil => simp at h
  | cons y r ih =>
    rcases k with _ | k
    · simp [scs, Sl.cells]
    · have := ih k (by simpa using h)
      rw [List.set_cons_succ]
      have e : scs (y :: r.set k s) = y.cells ++ scs (r.set k s) := by simp [scs]
      have e2 : scs (y :: r) = y.cells ++ scs r := by simp [scs]
      have hs : ∀ (q : List Value) (j : Nat) (v : Value), (y.cells ++ q).set ((k + 1) * 4 + j) v = y.cells ++ q.set (k * 4 + j) v := by
        intro q j v
        rw [List.set_append_right _ _ (by simp [Sl.cells]; omega)]
        congr 2
        simp [Sl.cells]; omega
      have hs0 := fun q v => hs q 0 v
      simp only [Nat.add_zero] at hs0
      rw [e, this, e2, hs0, hs, hs, hs]

end Go.Proofs.Ytpiffapnbjnjiaa
