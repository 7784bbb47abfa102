/-
  ref32: FromWord.
-/
import Derived.Test.YtpiffapnbjnjiaaMetaZ0
namespace Go.Proofs.Ytpiffapnbjnjiaa
set_option linter.unusedVariables false
open Go.RowKit
attribute [local go_sem] Oper.semAt_some

theorem slW_valid (a d : Nat) (ha : a < 16777216) (hd : d < 2) : slW a d / 16777216 % 2 = 1 := by
  have hs := sumW_lt (slB a d)
  unfold slW
  generalize sumW (slB a d) = q at *
  unfold slB
  omega
/-- A word that is the word of its slot, as a valid one. -/
theorem slotOk_eq (w : Nat) (h0 : w ≠ 0) : slotOk w = decide (w = (Sl.mk true (decide (w / 33554432 % 2 = 1)) ((w % 16777216 : Nat) : Int) 0).word) := by
  unfold slotOk
  rw [decide_eq_decide]
  constructor
  · rintro (h | ⟨hv, h⟩)
    · exact absurd h h0
    · have hS : slotS w = ⟨true, decide (w / 33554432 % 2 = 1), ((w % 16777216 : Nat) : Int), 0⟩ := by unfold slotS; rw [if_neg h0, decide_eq_true hv]
      rw [hS] at h
      exact h
  · intro h
    have hm : (((w % 16777216 : Nat) : Int) % 16777216).toNat = w % 16777216 := by omega
    have hv : w / 16777216 % 2 = 1 := by
      rw [h]
      unfold Sl.word
      rw [if_pos rfl]
      exact slW_valid _ _ (by omega) (b01_lt _)
    have hS : slotS w = ⟨true, decide (w / 33554432 % 2 = 1), ((w % 16777216 : Nat) : Int), 0⟩ := by unfold slotS; rw [if_neg h0, decide_eq_true hv]
    exact .inr ⟨hv, by rw [hS]; exact h⟩

set_option maxRecDepth 100000 in
set_option maxHeartbeats 2000000 in
theorem rfrom_any (w : Nat) (W : World) (hw : w < 18446744073709551616) :
    Calls Try.prog 50 #[.int .u64 (w : Int)] W fun e W' => ∃ s : Sl, e = .returned (.tuple #[s.v, .bool (slotOk w)]) ∧ (slotOk w = true → s = slotS w) ∧ Below W.heap.size W W' := by
  by_cases h0 : w = 0
  · subst h0
    go_enter Try.func50, Try.ntmps50
    go_wp2_with fail
    refine bodyPost_ret (res_slot_tmp rfl _ _ W.heap.size ⟨false, false, 0, 0⟩ rfl (Cs.new W _ _)) rfl ?_
    exact ⟨⟨false, false, 0, 0⟩, rfl, fun _ => rfl, (Below.refl _ W).alloc (Nat.le_refl _) _⟩
  · have hO := slotOk_eq w h0
    have HS : Hid (slotOk w = true → (Sl.mk true (decide (w / 33554432 % 2 = 1)) ((w % 16777216 : Nat) : Int) 0) = slotS w) := by
      intro h
      unfold slotOk at h
      have h := of_decide_eq_true h
      rcases h with h | ⟨hv, _⟩
      · exact absurd h h0
      · unfold slotS; rw [if_neg h0, decide_eq_true hv]
    have HO := Lib.hid hO
    clear hO
    have t0 : ((w : Int) == 0) = false := by simpa using h0
    have e1 : bits .and .u64 ((w : Int) / 33554432) 1 = ((w / 33554432 % 2 : Nat) : Int) := by
      have e := u64_and_nat (w / 33554432) 1 (by omega) (by omega)
      rw [Nat.and_one_is_mod] at e
      rw [← e]
      rfl
    have e2 : bits .and .u64 (w : Int) 16777215 = ((w % 16777216 : Nat) : Int) := by
      have e := u64_and_nat w 16777215 hw (by omega)
      have e3 := Nat.and_two_pow_sub_one_eq_mod w 24
      simp only [Nat.reducePow, Nat.reduceSub] at e3
      rw [e3] at e
      exact e
    have hq : w % 16777216 < 16777216 := Nat.mod_lt _ (by omega)
    have hd : w / 33554432 % 2 < 2 := Nat.mod_lt _ (by omega)
    generalize w % 16777216 = q at *
    generalize w / 33554432 % 2 = dd at *
    have n2 : IntKind.i64.wrap (q : Int) = q := IntWalk.i64_in _ (by omega)
    have hdd : ((dd : Int) == 1) = decide (dd = 1) := by rw [Bool.eq_iff_iff]; simp; omega
    go_enter Try.func50, Try.ntmps50
    go_upto_region 4 with (fail)
    rw [hdd] at *
    have CT := Cs.new (W.alloc (.cells #[.bool false, .bool false, .int .i64 0, .int .i64 0] 50)) 50 #[.bool true, .bool (decide (dd = 1)), .int .i64 (q : Int), .int .i64 0]
    have hb0 : Below W.heap.size W (W.alloc (.cells #[.bool false, .bool false, .int .i64 0, .int .i64 0] 50)) := (Below.refl _ W).alloc (Nat.le_refl _) _
    have HC3 := Lib.hid ((Cs.new W 50 #[.bool false, .bool false, .int .i64 0, .int .i64 0]).alloc (.cells #[.bool true, .bool (decide (dd = 1)), .int .i64 (q : Int), .int .i64 0] 50))
    have HBW := Lib.hid (hb0.alloc hb0.size (.cells #[.bool true, .bool (decide (dd = 1)), .int .i64 (q : Int), .int .i64 0] 50))
    have hsz0 : (W.alloc (.cells #[.bool false, .bool false, .int .i64 0, .int .i64 0] 50)).heap.size = W.heap.size + 1 := World.size_alloc _ _
    rw [hsz0] at CT
    generalize decide (dd = 1) = db at *
    generalize ((W.alloc (.cells #[.bool false, .bool false, .int .i64 0, .int .i64 0] 50)).alloc (.cells #[.bool true, .bool db, .int .i64 (q : Int), .int .i64 0] 50)) = W3 at *
    have k0 : W3.cell? ⟨W.heap.size + 1, 0, none⟩ = some (.bool true) := CT.cell 0
    have k1 : W3.cell? ⟨W.heap.size + 1, 1, none⟩ = some (.bool db) := CT.cell 1
    have k2 : W3.cell? ⟨W.heap.size + 1, 2, none⟩ = some (.int .i64 (q : Int)) := CT.cell 2
    have k3 : W3.cell? ⟨W.heap.size + 1, 3, none⟩ = some (.int .i64 0) := CT.cell 3
    have f0 := HC3.out.free 0
    have f1 := HC3.out.free 1
    have f2 := HC3.out.free 2
    have f3 := HC3.out.free 3
    have hng : W.heap.size + 1 ≠ W.heap.size := by omega
    have kk : W3.drew.cell? ⟨W.heap.size + 1, 0, none⟩ = some (.bool true) ∧ W3.drew.cell? ⟨W.heap.size + 1, 1, none⟩ = some (.bool db) ∧ W3.drew.cell? ⟨W.heap.size + 1, 2, none⟩ = some (.int .i64 (q : Int)) ∧ W3.drew.cell? ⟨W.heap.size + 1, 3, none⟩ = some (.int .i64 0) := ⟨k0, k1, k2, k3⟩
    have hl3 : W.heap.size + 1 < W3.drew.heap.size := CT.lt
    have hsz : W.heap.size ≤ W3.heap.size := Nat.le_trans (Nat.le_succ _) (Nat.le_of_lt CT.lt)
    go_region_held3 (fun w' => w'.cell? ⟨W.heap.size + 1, 0, none⟩ = some (.bool true) ∧ w'.cell? ⟨W.heap.size + 1, 1, none⟩ = some (.bool db) ∧ w'.cell? ⟨W.heap.size + 1, 2, none⟩ = some (.int .i64 (q : Int)) ∧ w'.cell? ⟨W.heap.size + 1, 3, none⟩ = some (.int .i64 0)) (first | with_reducible exact kk | with_reducible exact z | exact put4_keep z hng _ _ _ _)
      (first | (go_at_call 24; refine (rword_any ⟨true, db, (q : Int), 0⟩ W3.drew).mono ?_; rintro e w2 ⟨rfl, hb2⟩; have z : w2.cell? ⟨W.heap.size + 1, 0, none⟩ = some (.bool true) ∧ w2.cell? ⟨W.heap.size + 1, 1, none⟩ = some (.bool db) ∧ w2.cell? ⟨W.heap.size + 1, 2, none⟩ = some (.int .i64 (q : Int)) ∧ w2.cell? ⟨W.heap.size + 1, 3, none⟩ = some (.int .i64 0) := ⟨(hb2.cell hl3).trans k0, (hb2.cell hl3).trans k1, (hb2.cell hl3).trans k2, (hb2.cell hl3).trans k3⟩; have HC4 := Lib.hid (Cs.below (w := W3.drew) HC3.out hb2 HC3.out.lt); have p0 := HC4.out.free 0; have p1 := HC4.out.free 1; have p2 := HC4.out.free 2; have p3 := HC4.out.free 3; have x0 := HC4.out.cell 0; have x1 := HC4.out.cell 1; have x2 := HC4.out.cell 2; have x3 := HC4.out.cell 3))
    go_wp2_with fail
    refine bodyPost_ret (res_slot_tmp rfl _ _ W.heap.size ⟨true, db, (q : Int), 0⟩ rfl (Cs.put4 HC4.out _ _ _ _)) rfl ?_
    refine ⟨⟨true, db, (q : Int), 0⟩, ?_, HS.out, below_put4 (HBW.out.drew.trans (hb2.mono hsz)) (Nat.le_refl _) _ _ _ _⟩
    rw [HO.out]
    have hdec : decide (w = (Sl.mk true db (q : Int) 0).word) = ((w : Int) == ((Sl.mk true db (q : Int) 0).word : Int)) := by
      generalize (Sl.mk true db (q : Int) 0).word = z
      rw [Bool.eq_iff_iff]
      simp
      omega
    rw [hdec]
    rfl

end Go.Proofs.Ytpiffapnbjnjiaa
