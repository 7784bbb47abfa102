import Derived.Test.YtcafhnaododjfaaPackE
namespace Go.Proofs.Ytcafhnaododjfaa
set_option linter.unusedVariables false
open Go.RowKit

set_option maxHeartbeats 400000 in
theorem fields_size (A B : Option Addr) (c d : Nat) (n m : Nat) (w : World) (h : n ≠ m) :
    Calls Try.prog 14 #[.slice A n c, .slice B m d] w fun e w' => e = .returned (.tuple #[.int .u64 0, .int .i64 3]) ∧ Below w.heap.size w w' := by
  have H1 : ((n : Int) != (m : Int)) = true := by simp; omega
  go_enter Try.func14, Try.ntmps14
  go_wp2
  refine bodyPost_ret (v := .tuple #[.int .u64 0, .int .i64 3]) (by simp [results, Try.f14, go_sem]) rfl ⟨rfl, ?_⟩
  exact ((((Below.refl _ w).alloc (Nat.le_refl _) _).alloc (by simp) _).alloc (by simp; omega) _)

set_option maxHeartbeats 400000 in
theorem fields_range (A B : Option Addr) (c d : Nat) (ws : List Int) (w : World) (hA : Reads w A (iv ws)) (hlen : ws.length ≤ 1000000) (hok : okW 0 ws = false) :
    Calls Try.prog 14 #[.slice A ws.length c, .slice B ws.length d] w fun e w' => e = .returned (.tuple #[.int .u64 0, .int .i64 1]) ∧ Below w.heap.size w w' := by
  have Hd := Lib.hid (fun W hA => divided_any A c ws W hA hlen)
  rw [hok] at Hd
  clear hok
  go_enter Try.func14, Try.ntmps14
  go_wp2_with fail
  refine (Hd.out _ (hA.keep ((((Below.refl _ w).alloc (Nat.le_refl _) _).alloc (by simp) _).alloc (by simp; omega) _))).mono ?_
  rintro e w' ⟨rfl, rfl⟩
  go_wp2_with fail
  refine bodyPost_ret (v := .tuple #[.int .u64 0, .int .i64 1]) (by simp [results, Try.f14, go_sem]) rfl ⟨rfl, ?_⟩
  exact ((((Below.refl _ w).alloc (Nat.le_refl _) _).alloc (by simp) _).alloc (by simp; omega) _)

def fitsB : List Fld → List Nat → Bool
  | [], _ => true
  | f :: pre, vs => decide (vs[0]?.getD 0 ≤ f.mask) && fitsB pre vs.tail
theorem fitsB_iff (pre : List Fld) (vs : List Nat) : fitsF pre vs ↔ fitsB pre vs = true := by
  induction pre generalizing vs with
  | nil => exact ⟨fun _ => rfl, fun _ k hk => by simp at hk⟩
  | cons f pre ih =>
    simp only [fitsB, Bool.and_eq_true, decide_eq_true_eq, ← ih]
    constructor
    · intro h
      refine ⟨h 0 (by simp) f rfl, fun k hk g hg => ?_⟩
      have := h (k + 1) (by simpa using hk) g (by simpa using hg)
      simpa using this
    · rintro ⟨h0, h1⟩ k hk g hg
      cases k with
      | zero => simp at hg; subst hg; exact h0
      | succ k => have := h1 k (by simpa using hk) g (by simpa using hg); simpa using this

theorem awake_text (w : World) : Calls Try.prog 20 #[.string (ByteArray.mk #[65, 66])] w fun e w' => ∃ v, e = .returned (.tuple #[v, .int .i64 0]) ∧ w'.ownsRow w.heap.size 24 1 v 2 (uv [2, 16961]) ∧ Below w.heap.size w w' := by
  have h := text_yes (ByteArray.mk #[65, 66]) w (by decide)
  rw [show lenW (ByteArray.mk #[65, 66]).size = 2 from by decide, show textW (ByteArray.mk #[65, 66]).data.toList = [2, 16961] from by decide] at h
  exact h

theorem awake_fields (A B : Option Addr) (w : World) (hA : Reads w A (iv [20, 16])) (hB : Reads w B (uv [5, 3])) :
    Calls Try.prog 14 #[.slice A 2 2, .slice B 2 2] w fun e w' => e = .returned (.tuple #[.int .u64 3145733, .int .i64 0]) ∧ Below w.heap.size w w' := by
  refine (fields_ok A B 2 2 [20, 16] [5, 3] w hA hB rfl (by decide) (by decide) (by intro x hx; simp at hx; omega)).mono ?_
  rintro e w' ⟨hb, ⟨he, _⟩ | ⟨_, hn⟩⟩
  · refine ⟨?_, hb⟩
    rw [he, show wordF (upto (fldOf [20, 16]) ([20, 16] : List Int).length) [5, 3] = 3145733 from by decide]
    rfl
  · exact absurd ((fitsB_iff _ _).2 (by decide)) hn

set_option maxHeartbeats 400000 in
theorem awake_any (w : World) : Calls Try.prog 9 #[] w fun e w' => e = .returned (.bool true) ∧ Below w.heap.size w w' := by
  go_enter Try.func9, Try.ntmps9
  go_wp2_with fail
  refine (awake_text _).mono ?_
  rintro e w1 ⟨v, rfl, hown, hb1⟩
  obtain ⟨g, cap, rfl, hg, hlt⟩ := hown.form (by decide)
  have hc0 := hown.cellAt 0 (by decide)
  have hc1 := hown.cellAt 1 (by decide)
  change _ = some (Value.int .u64 2) at hc0
  change _ = some (Value.int .u64 16961) at hc1
  go_wp2_with fail
  refine (awake_fields _ _ _ ((Reads.new w1 #[.int .i64 20, .int .i64 16] 3).alloc _) (by have := Reads.new (w1.alloc (.cells #[.int .i64 20, .int .i64 16] 3)) #[.int .u64 5, .int .u64 3] 24; rw [World.size_alloc] at this; exact this)).mono ?_
  rintro e w2 ⟨rfl, hb2⟩
  have hc0' := (hb2.cell (p := ⟨g, 0, none⟩) (by simp; omega)).trans ((World.cell?_alloc_lt _ _ _ (by simp; omega)).trans ((World.cell?_alloc_lt _ _ _ (by simpa using hlt)).trans hc0))
  have hc1' := (hb2.cell (p := ⟨g, 1, none⟩) (by simp; omega)).trans ((World.cell?_alloc_lt _ _ _ (by simp; omega)).trans ((World.cell?_alloc_lt _ _ _ (by simpa using hlt)).trans hc1))
  go_wp2
  go_ret
  refine ⟨rfl, ?_⟩
  have hb3 : Below w.heap.size w1 w2 := (((Below.refl _ w1).alloc hb1.size _).alloc (by simp; have := hb1.size; omega) _).trans (hb2.mono (by simp; have := hb1.size; omega))
  exact hb1.trans hb3

end Go.Proofs.Ytcafhnaododjfaa
