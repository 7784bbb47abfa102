/-
  make.Words: the words themselves; law34.awake.
-/
import Derived.Test.YtpcjdmbnlhjlaaaRelK
import Derived.Deep.DeepCutAuto
namespace Go.Proofs.Ytpcjdmbnlhjlaaa
set_option linter.unusedVariables false
open Go.RowKit
attribute [local go_sem] Oper.semAt_some m_size m_read m_write m_flush

/-- The words that are made from a number. -/
def wV (seed : Int) (k : Nat) : Nat := (IntKind.u64.wrap (seed + IntKind.u64.wrap ((k : Int) * 11400714819323198485))).toNat
def wordsL (seed : Int) (n : Nat) : List Nat := (List.range n).map (wV seed)
theorem wordsL_length (seed : Int) (n : Nat) : (wordsL seed n).length = n := by simp [wordsL]
theorem wordsL_succ (seed : Int) (n : Nat) : wordsL seed (n + 1) = wordsL seed n ++ [wV seed n] := by simp [wordsL, List.range_succ]
theorem wV_eq (seed : Int) (k : Nat) : IntKind.u64.wrap (seed + IntKind.u64.wrap ((k : Int) * 11400714819323198485)) = (wV seed k : Int) ∧ wV seed k < 18446744073709551616 := by
  obtain ⟨y, ey, hy⟩ := any_u64 (seed + IntKind.u64.wrap ((k : Int) * 11400714819323198485))
  unfold wV
  generalize IntKind.u64.wrap ((k : Int) * 11400714819323198485) = z at *
  rw [ey]
  exact ⟨rfl, by simpa using hy⟩
theorem wordsL_w (seed : Int) (n : Nat) : W64 (wordsL seed n) := by
  intro x hx
  obtain ⟨k, _, rfl⟩ := List.mem_map.1 hx
  exact (wV_eq seed k).2
theorem words2_any (n : Nat) (seed : Int) (W : World) (hn : n ≤ 1000) :
    Calls Try.prog 11 #[.int .i64 (n : Int), .int .u64 seed] W fun e W' => ∃ v, e = .returned v ∧ W'.ownsRow W.heap.size 32 1 v n (uv (wordsL seed n)) ∧ Below W.heap.size W W' := by
  obtain ⟨i0, hi0, hz0, hz1, hz2⟩ := info_parts u64_info
  go_enter Try.func11, Try.ntmps11
  go_wp2_with fail
  go_loopw [5, 6] (fun v i wr => ∃ (k : Nat), k ≤ n ∧ i = .int .i64 k ∧ wr.ownsRow W.heap.size 32 1 v k (uv (wordsL seed k)) ∧ Below W.heap.size W wr) (fun _ i _ => n - (intOf i).toNat)
  case atStart => exact ⟨0, Nat.zero_le _, rfl, World.ownsRow_nil _ _ _ _, Below.refl _ _⟩
  case round =>
    obtain ⟨k, hk, rfl, hown, hb⟩ := hrel
    obtain ⟨A1, c1, rfl⟩ := own_form hown
    have HO := Lib.hid hown
    have hkl : (uv (wordsL seed k)).length = k := by rw [uv_length, wordsL_length]
    have HKL := Lib.hid hkl
    clear hown hkl
    by_cases hlt : k < n
    · go_wp2_with (at_builtin; refine wpList_append_reads _ (by rfl) _ _ _ (by rfl) W.heap.size 32 i0 _ 1 8 Try.underlying30 hi0 hz0 hz1 hz2 (by rfl) (by omega) (.slice A1 k c1) k (uv (wordsL seed k)) (by rfl) (HO.out.alloc _) (some ⟨wr.heap.size, 0, none⟩) 1 1 _ (by rfl) (by rfl) (Reads.new _ _ _) (by simp [Value.oneCell']) (by simp only [maxLen]; omega) (by omega) (by have := hb.size; simp; omega) ?_; intro v1 w6 hown6 hg6 hat6; have hbb := app_below HO.out hg6 hb.size)
      obtain ⟨ey, hy⟩ := wV_eq seed k
      rw [ey] at hown6
      have ho : w6.ownsRow W.heap.size 32 1 v1 (k + 1) (uv (wordsL seed (k + 1))) := by rw [wordsL_succ, uv_append]; exact hown6
      go_roundw
      case rel => exact ⟨k + 1, by omega, by go_num, ho, hb.trans hbb⟩
      case measure => simp [intOf]; omega
    · have hkn : k = n := by omega
      subst hkn
      go_wp2_with fail
      go_ret
      exact ⟨_, rfl, HO.out, hb⟩

section
variable {lo : Nat} {W : World} {Fm : Nat → Prop} {pb g s0 s1 m rb bO cO bN cN bL cL n : Nat} {S : DS} {ext done : Nat} {cp : Bool} {rdone : Nat} {rcp : Bool} {old new : List Nat}
theorem P34.rf (h : P34 lo W Fm pb g s0 s1 m rb bO cO bN cN bL cL n S ext done cp rdone rcp old new) (h0 : old.length = n) (h1 : new.length = n) : RF W rb bO cO bN cN n ext rdone rcp old new := ⟨h.ref, h.ownO, h.ownN, h.ne, h0, h1⟩
theorem P34.pne (h : P34 lo W Fm pb g s0 s1 m rb bO cO bN cN bL cL n S ext done cp rdone rcp old new) : pb ≠ rb ∧ bO ≠ pb ∧ bN ≠ pb ∧ bL ≠ rb ∧ bO ≠ bL ∧ bN ≠ bL ∧ bL ≠ pb := by
  refine ⟨?_, own_cs_ne h.ownO h.pair (by decide), own_cs_ne h.ownN h.pair (by decide), own_cs_ne h.spans h.ref (by decide), own2_ne h.ownO h.spans (by decide), own2_ne h.ownN h.spans (by decide), own_cs_ne h.spans h.pair (by decide)⟩
  intro e
  have h1 := h.pair
  have h2 := h.ref
  unfold Cs at h1 h2
  rw [e, h2] at h1
  injection h1 with h1
  injection h1 with _ h1
  exact absurd h1 (by decide)
theorem P34.fr (h : P34 lo W Fm pb g s0 s1 m rb bO cO bN cN bL cL n S ext done cp rdone rcp old new) {W' : World} {G : Nat → Prop} (hf : Fr G W W') (hG : ∀ j, lo < j → ¬ G j) : P34 lo W' Fm pb g s0 s1 m rb bO cO bN cN bL cL n S ext done cp rdone rcp old new := by
  obtain ⟨a, b, c, d, e, f, ne, ap, l, lf⟩ := h
  have own : ∀ {t : TypeId} {k c n : Nat} {x : Nat} {xs : List Value}, W.ownsRow 0 t k (.slice (some ⟨x, 0, none⟩) n c) n xs → lo < x → W'.ownsRow 0 t k (.slice (some ⟨x, 0, none⟩) n c) n xs := fun h hx => own_fr h hf (fun b hb => by simp [Value.ownBlock] at hb; rw [← hb]; exact hG _ hx)
  exact ⟨a.fr hf (fun j hj => hG j (lf j hj)), b.fr hf (hG _ l.1), own c l.2.2.2.2, d.fr hf (hG _ l.2.1), own e l.2.2.1, own f l.2.2.2.1, ne, ap, l, lf⟩
theorem P34.keep (h : P34 lo W Fm pb g s0 s1 m rb bO cO bN cN bL cL n S ext done cp rdone rcp old new) {W' : World} (hb : Below W.heap.size W W') : P34 lo W' Fm pb g s0 s1 m rb bO cO bN cN bL cL n S ext done cp rdone rcp old new := h.fr (G := fun _ => False) (Fr.of_below hb) (fun _ _ h => h)
/-- The mover has done something. -/
theorem P34.movd (h : P34 lo W Fm pb g s0 s1 m rb bO cO bN cN bL cL n S ext done cp rdone rcp old new) {W' : World} {Fm' : Nat → Prop} {S' : DS} {done' : Nat} {cp' : Bool} (hm : MovAt W' Fm' g s0 s1 m n S' ext done' cp') (ht : Turn Fm Fm' W W') (hlo : lo < W.heap.size) : P34 lo W' Fm' pb g s0 s1 m rb bO cO bN cN bL cL n S' ext done' cp' rdone rcp old new := by
  obtain ⟨a, b, c, d, e, f, ne, ⟨a1, a2, a3, a4, a5⟩, l, lf⟩ := h
  have own : ∀ {t : TypeId} {k c n : Nat} {x : Nat} {xs : List Value}, W.ownsRow 0 t k (.slice (some ⟨x, 0, none⟩) n c) n xs → ¬ Fm x → W'.ownsRow 0 t k (.slice (some ⟨x, 0, none⟩) n c) n xs := fun h hx => own_fr h ht.1 (fun b hb => by simp [Value.ownBlock] at hb; rw [← hb]; exact hx)
  refine ⟨hm, b.fr ht.1 a1, own c a5, d.fr ht.1 a2, own e a3, own f a4, ne, ⟨ht.out b.lt a1, ht.out d.lt a2, ht.out (own_lt e _ rfl) a3, ht.out (own_lt f _ rfl) a4, ht.out (own_lt c _ rfl) a5⟩, l, ?_⟩
  intro j hj
  rcases ht.2 j hj with h1 | h1
  · exact lf j h1
  · omega
/-- The reference has done something. -/
theorem P34.refd (h : P34 lo W Fm pb g s0 s1 m rb bO cO bN cN bL cL n S ext done cp rdone rcp old new) {W' : World} {rdone' : Nat} {rcp' : Bool} {old' new' : List Nat} (hr : RF W' rb bO cO bN cN n ext rdone' rcp' old' new') (hf : Fr (fun j => j = rb ∨ j = bO ∨ j = bN) W W') : P34 lo W' Fm pb g s0 s1 m rb bO cO bN cN bL cL n S ext done cp rdone' rcp' old' new' := by
  obtain ⟨q1, q2, q3, q4, q5, q6, q7⟩ := h.pne
  obtain ⟨a, b, c, d, e, f, ne, ⟨a1, a2, a3, a4, a5⟩, l, lf⟩ := h
  refine ⟨a.fr hf (fun j hj => ?_), b.fr hf ?_, own_fr c hf (fun b hb => by simp [Value.ownBlock] at hb; rw [← hb]; rintro (e | e | e); exact q4 e; exact q5 e.symm; exact q6 e.symm), hr.ref, hr.ownO, hr.ownN, ne, ⟨a1, a2, a3, a4, a5⟩, l, lf⟩
  · rintro (e | e | e)
    · exact a2 (e ▸ hj)
    · exact a3 (e ▸ hj)
    · exact a4 (e ▸ hj)
  · rintro (e | e | e)
    · exact q1 e
    · exact q2 e.symm
    · exact q3 e.symm
theorem P34.cells (h : P34 lo W Fm pb g s0 s1 m rb bO cO bN cN bL cL n S ext done cp rdone rcp old new) : W.cell? ⟨pb, 0, none⟩ = some (.pointer (some ⟨g, 0, none⟩)) ∧ W.cell? ⟨pb, 1, none⟩ = some (.slice (some ⟨bL, 0, none⟩) 2 cL) ∧ W.cell? ⟨pb, 2, none⟩ = some (.pointer (some ⟨m, 0, none⟩)) ∧ W.cell? ⟨pb, 3, none⟩ = some (.pointer (some ⟨rb, 0, none⟩)) ∧
    W.cell? ⟨bL, 0, none⟩ = some (.iface 114 (.pointer (some ⟨s0, 0, none⟩))) ∧ W.cell? ⟨bL, 1, none⟩ = some (.iface 114 (.pointer (some ⟨s1, 0, none⟩))) :=
  ⟨h.pair.cell 0, h.pair.cell 1, h.pair.cell 2, h.pair.cell 3, (h.spans.cellAt 0 (by omega)).trans rfl, (h.spans.cellAt 1 (by omega)).trans rfl⟩
end

end Go.Proofs.Ytpcjdmbnlhjlaaa
