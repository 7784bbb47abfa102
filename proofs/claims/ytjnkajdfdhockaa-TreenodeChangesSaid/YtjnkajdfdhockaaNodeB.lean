/-
  treenode.Seal, ref25.Seal.
-/
import Derived.Test.YtjnkajdfdhockaaNodeA
import Derived.Laws.CopyOwn
import Derived.Deep.RegionLaw
namespace Go.Proofs.Ytjnkajdfdhockaa
set_option linter.unusedVariables false
open Go.RowKit

/-- The words laid into a block of 16. -/
def padN (l : List Nat) : List Nat := l ++ List.replicate (16 - l.length) 0
/-- The header word with its checksum; the sealed words. -/
def sealW (x s : Nat) : Nat := clearS x ||| (s <<< 32)
def sealN (l : List Nat) : List Nat := (padN l).set 0 (sealW ((padN l)[0]?.getD 0) (sumN (padN l)))
theorem padN_length (l : List Nat) (h : l.length ≤ 16) : (padN l).length = 16 := by simp [padN]; omega

theorem replicate_uvB (n : Nat) : (madeCells #[Value.int IntKind.u64 0] n).toList = uv (List.replicate n 0) := by
  rw [toList_madeCells_one]; simp [uv]
theorem own_exact {w : World} {base g n : Nat} {e : TypeId} {xs : List Value} (h : w.ownsRow base e 1 (.slice (some ⟨g, 0, none⟩) n n) n xs) : w.heap[g]? = some (.cells xs.toArray e (0, 0)) := by
  rcases h.2 with ⟨h1, _⟩ | ⟨g', cap, cur, hv, hb, hh, _, _, hs, ht⟩
  · cases h1
  · injection hv with h1 h2 h3
    injection h1 with h1
    injection h1 with h1
    subst h1 h3
    rw [hh, ← ht, List.take_of_length_le (by rw [Array.length_toList, hs]; exact Nat.le_refl _)]
theorem own_of_heap {w : World} {base g n : Nat} {e : TypeId} {xs : List Value} (h : w.heap[g]? = some (.cells xs.toArray e (0, 0))) (hl : xs.length = n) (hb : base ≤ g) (hm : n ≤ maxLen) : w.ownsRow base e 1 (.slice (some ⟨g, 0, none⟩) n n) n xs :=
  ⟨by rw [hl, Nat.mul_one], .inr ⟨g, n, xs.toArray, rfl, hb, h, Nat.le_refl _, hm, by simp [hl], by rw [Nat.mul_one]; exact List.take_of_length_le (by simp [hl])⟩⟩
theorem splice_pad (l : List Nat) (h : l.length ≤ 16) : splice (uv (List.replicate 16 0)) 0 (uv l) = uv (padN l) := by
  unfold splice padN
  rw [uv_append, List.take_zero, List.nil_append, uv_length, Nat.zero_add]
  congr 1
  unfold uv
  rw [List.map_replicate, List.drop_replicate, List.map_replicate]

theorem copy_src {w : World} {A : Option Addr} {vs : List Value} {g : Nat} (h : Reads w A vs) : 0 < vs.length → (some ⟨g, 0, none⟩ : Option Addr) = some ⟨g, 0, none⟩ ∧ ∃ ad, A = some ad ∧ ∀ j v, vs[j]? = some v → w.cell? (ad.add j) = some v := by
  intro hp
  obtain ⟨b, off, rfl, _, hc⟩ := h (by intro e; rw [e] at hp; exact absurd hp (by simp))
  exact ⟨rfl, _, rfl, fun j v hv => by rw [Addr.add_mid]; exact hc j v hv⟩

theorem seal_bits (x s : Nat) (hx : x < 18446744073709551616) (hs : s < 65536) : bits BinOp.or IntKind.u64 ((clearS x : Nat) : Int) (IntKind.u64.wrap ((s : Int) * 4294967296)) = ((sealW x s : Nat) : Int) := by
  have hs32 : s <<< 32 < 18446744073709551616 := by rw [Nat.shiftLeft_eq]; omega
  have e : IntKind.u64.wrap ((s : Int) * 4294967296) = ((s <<< 32 : Nat) : Int) := by
    rw [IntKind.wrap_u64, Nat.shiftLeft_eq]; omega
  rw [e, u64_or_nat _ _ (clearS_lt x hx) hs32]
  rfl
theorem frozen_below {B b i : Nat} {w w' : World} (h : Below B w w') (hb : b < B) : w'.frozen? ⟨b, i, none⟩ = w.frozen? ⟨b, i, none⟩ := by
  unfold World.frozen?
  rw [h.block b hb]

set_option maxHeartbeats 1000000 in
theorem seal_any (A : Option Addr) (c n : Nat) (l : List Nat) (w : World) (hn : l.length = n) (hA : Reads w A (uv l)) (hl : W64 l) (hlen : n ≤ 16) :
    Calls Try.prog 28 #[.slice A n c] w fun e w' => ∃ g, e = .returned (.slice (some ⟨g, 0, none⟩) 16 16) ∧ w'.ownsRow w.heap.size 38 1 (.slice (some ⟨g, 0, none⟩) 16 16) 16 (uv (sealN l)) ∧ Below w.heap.size w w' := by
  obtain ⟨i0, hi0, hz0, hz1, hz2⟩ := info_parts u64_info
  go_enter Try.func28, Try.ntmps28
  go_wp2_with (at_make; refine wpList_make_full _ rfl _ _ _ rfl w.heap.size 38 i0 _ 1 Try.underlying30 hi0 hz0 hz1 .i64 .i64 _ _ 16 rfl rfl rfl rfl ?_ ?_ ?_ ?_)
  · rw [hz2]; omega
  · simp only [maxLen]; omega
  · exact Nat.le_refl _
  intro w1 hown hg
  have hb : Below w.heap.size w w1 := (Below.refl _ w).grown hg (Nat.le_refl _) (by intro k hk; cases hk)
  have hrow : w1.heap[w.heap.size]? = some (.cells (uv (List.replicate 16 0)).toArray 38 (0, 0)) := by
    rw [replicate_uvB] at hown
    exact own_exact hown
  have rA := hA.keep hb
  have HR := Lib.hid hrow
  have HA := Lib.hid rA
  have HN := Lib.hid hn
  clear hA rA hown hg hrow hn
  go_wp2_with ((with_reducible refine wpList_copy_splice (o := ⟨some 7, _, _, _, _, _⟩) rfl (.tmp 5) (.tmp 6) 30 30 rfl 38 Try.underlying30 (by rw [hi0, Option.map_some, hz1]) (some ⟨w.heap.size, 0, none⟩) A 16 16 n c rfl rfl w.heap.size 0 _ 38 HR.out (uv l) (by rw [uv_length, HN.out]; exact (Nat.min_eq_left hlen).symm) (copy_src HA.out) (by simp [uv]; rw [HN.out]; omega) (uv_one l) w.heap.size w hb (Nat.le_refl _) ?_); intro w2 hrow2 hb2)
  have hrow3 : w2.heap[w.heap.size]? = some (.cells (uv (padN l)).toArray 38 (0, 0)) := by
    rw [← splice_pad l (by rw [HN.out]; exact hlen)]
    exact hrow2.out
  have hpl := padN_length l (by rw [HN.out]; exact hlen)
  have hpw : W64 (padN l) := by
    intro x hx
    rcases List.mem_append.1 hx with h | h
    · exact hl x h
    · have := List.eq_of_mem_replicate h; omega
  have hown3 : w2.ownsRow w.heap.size 38 1 (.slice (some ⟨w.heap.size, 0, none⟩) 16 16) 16 (uv (padN l)) := own_of_heap hrow3 (by rw [uv_length]; exact hpl) (Nat.le_refl _) (by simp only [maxLen]; omega)
  have hx := hpw.at 0
  have HSN : Hid (sealN l = (padN l).set 0 (sealW ((padN l)[0]?.getD 0) (sumN (padN l)))) := rfl
  generalize padN l = P at hown3 hpl hpw hx HSN
  obtain ⟨x, ex⟩ : ∃ x, P[0]?.getD 0 = x := ⟨_, rfl⟩
  rw [ex] at hx HSN
  have hc := hown3.cellAt 0 (by omega)
  rw [uv_at _ _ (by omega), ex] at hc
  have hf := hown3.frozenAt 0
  have hcx := clearS_bits x hx
  have rP := Reads.of_own hown3
  have HO := Lib.hid hown3
  have HP := Lib.hid hpl
  have hlt : w.heap.size < w2.heap.size := (hown3.lt _ rfl).2
  clear hrow2 hrow3 ex HR HA hb hl HN hown3 hpl
  have hss := sumN_lt P
  obtain ⟨s, es⟩ : ∃ s, sumN P = s := ⟨_, rfl⟩
  have HSUM := Lib.hid (fun W hA => sum_any (some ⟨w.heap.size, 0, none⟩) 16 16 P W HP.out hA hpw (by omega) (by omega))
  rw [es] at HSUM hss HSN
  clear es
  go_region_with (first
    | (go_at_call 43; refine (HSUM.out w2.drew rP).mono ?_; rintro e w3 ⟨rfl, hb3⟩; have hc3 := (hb3.cell (p := ⟨w.heap.size, 0, none⟩) hlt).trans hc; have hf3 := (frozen_below hb3 hlt).trans hf))
  all_goals
    have hv := seal_bits x s hx hss
    rw [hv]
    have hown4 := World.ownsRow.kept HO.out (row := none) ⟨hb3.os, hb3.tape, hb3.output, hb3.size, fun k hk _ => hb3.block k hk⟩ (.inr (by simp [Value.ownBlock]))
    have h5 := (hown4.stored 0 (.int .u64 ((sealW x s : Nat) : Int))).1
    rw [uv_set, ← HSN.out] at h5
    have hb5 := (hb2.drew.trans (hb3.mono hb2.size)).setCell (p := ⟨w.heap.size, 0, none⟩) (Nat.le_refl _) (.int .u64 ((sealW x s : Nat) : Int))
    have H5 := Lib.hid h5
    clear hown4 h5
    go_wp2_with fail
    go_ret
    exact ⟨_, rfl, H5.out, hb5⟩

set_option maxHeartbeats 1000000 in
theorem refSeal_any (A : Option Addr) (c n : Nat) (l : List Nat) (w : World) (hn : l.length = n) (hA : Reads w A (uv l)) (hl : W64 l) (hlen : n ≤ 16) :
    Calls Try.prog 21 #[.slice A n c] w fun e w' => ∃ g, e = .returned (.slice (some ⟨g, 0, none⟩) 16 16) ∧ w'.ownsRow w.heap.size 38 1 (.slice (some ⟨g, 0, none⟩) 16 16) 16 (uv (sealN l)) ∧ Below w.heap.size w w' := by
  obtain ⟨i0, hi0, hz0, hz1, hz2⟩ := info_parts u64_info
  go_enter Try.func21, Try.ntmps21
  go_wp2_with (at_make; refine wpList_make_full _ rfl _ _ _ rfl w.heap.size 38 i0 _ 1 Try.underlying30 hi0 hz0 hz1 .i64 .i64 _ _ 16 rfl rfl rfl rfl ?_ ?_ ?_ ?_)
  · rw [hz2]; omega
  · simp only [maxLen]; omega
  · exact Nat.le_refl _
  intro w1 hown hg
  have hb : Below w.heap.size w w1 := (Below.refl _ w).grown hg (Nat.le_refl _) (by intro k hk; cases hk)
  have hrow : w1.heap[w.heap.size]? = some (.cells (uv (List.replicate 16 0)).toArray 38 (0, 0)) := by
    rw [replicate_uvB] at hown
    exact own_exact hown
  have rA := hA.keep hb
  have HR := Lib.hid hrow
  have HA := Lib.hid rA
  have HN := Lib.hid hn
  clear hA rA hown hg hrow hn
  go_wp2_with ((with_reducible refine wpList_copy_splice (o := ⟨some 7, _, _, _, _, _⟩) rfl (.tmp 5) (.tmp 6) 30 30 rfl 38 Try.underlying30 (by rw [hi0, Option.map_some, hz1]) (some ⟨w.heap.size, 0, none⟩) A 16 16 n c rfl rfl w.heap.size 0 _ 38 HR.out (uv l) (by rw [uv_length, HN.out]; exact (Nat.min_eq_left hlen).symm) (copy_src HA.out) (by simp [uv]; rw [HN.out]; omega) (uv_one l) w.heap.size w hb (Nat.le_refl _) ?_); intro w2 hrow2 hb2)
  have hrow3 : w2.heap[w.heap.size]? = some (.cells (uv (padN l)).toArray 38 (0, 0)) := by
    rw [← splice_pad l (by rw [HN.out]; exact hlen)]
    exact hrow2.out
  have hpl := padN_length l (by rw [HN.out]; exact hlen)
  have hpw : W64 (padN l) := by
    intro x hx
    rcases List.mem_append.1 hx with h | h
    · exact hl x h
    · have := List.eq_of_mem_replicate h; omega
  have hown3 : w2.ownsRow w.heap.size 38 1 (.slice (some ⟨w.heap.size, 0, none⟩) 16 16) 16 (uv (padN l)) := own_of_heap hrow3 (by rw [uv_length]; exact hpl) (Nat.le_refl _) (by simp only [maxLen]; omega)
  have hx := hpw.at 0
  have HSN : Hid (sealN l = (padN l).set 0 (sealW ((padN l)[0]?.getD 0) (sumN (padN l)))) := rfl
  generalize padN l = P at hown3 hpl hpw hx HSN
  obtain ⟨x, ex⟩ : ∃ x, P[0]?.getD 0 = x := ⟨_, rfl⟩
  rw [ex] at hx HSN
  have hc := hown3.cellAt 0 (by omega)
  rw [uv_at _ _ (by omega), ex] at hc
  have hf := hown3.frozenAt 0
  have hcx := clearS_bits x hx
  have rP := Reads.of_own hown3
  have HO := Lib.hid hown3
  have HP := Lib.hid hpl
  have hlt : w.heap.size < w2.heap.size := (hown3.lt _ rfl).2
  clear hrow2 hrow3 ex HR HA hb hl HN hown3 hpl
  have hss := sumN_lt P
  obtain ⟨s, es⟩ : ∃ s, sumN P = s := ⟨_, rfl⟩
  have HSUM := Lib.hid (fun W hA => refSum_any (some ⟨w.heap.size, 0, none⟩) 16 16 P W HP.out hA hpw (by omega) (by omega))
  rw [es] at HSUM hss HSN
  clear es
  go_region_with (first
    | (go_at_call 39; refine (HSUM.out w2.drew rP).mono ?_; rintro e w3 ⟨rfl, hb3⟩; have hc3 := (hb3.cell (p := ⟨w.heap.size, 0, none⟩) hlt).trans hc; have hf3 := (frozen_below hb3 hlt).trans hf))
  all_goals
    have hv := seal_bits x s hx hss
    rw [hv]
    have hown4 := World.ownsRow.kept HO.out (row := none) ⟨hb3.os, hb3.tape, hb3.output, hb3.size, fun k hk _ => hb3.block k hk⟩ (.inr (by simp [Value.ownBlock]))
    have h5 := (hown4.stored 0 (.int .u64 ((sealW x s : Nat) : Int))).1
    rw [uv_set, ← HSN.out] at h5
    have hb5 := (hb2.drew.trans (hb3.mono hb2.size)).setCell (p := ⟨w.heap.size, 0, none⟩) (Nat.le_refl _) (.int .u64 ((sealW x s : Nat) : Int))
    have H5 := Lib.hid h5
    clear hown4 h5
    go_wp2_with fail
    go_ret
    exact ⟨_, rfl, H5.out, hb5⟩

end Go.Proofs.Ytjnkajdfdhockaa
