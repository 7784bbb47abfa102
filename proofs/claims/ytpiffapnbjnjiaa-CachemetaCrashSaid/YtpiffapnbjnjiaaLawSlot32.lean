/-
  law32: slot.
-/
import Derived.Test.YtpiffapnbjnjiaaMetaZ0
namespace Go.Proofs.Ytpiffapnbjnjiaa
set_option linter.unusedVariables false
open Go.RowKit
attribute [local go_sem] Oper.semAt_some

set_option maxRecDepth 100000 in
theorem res_slot {fn : Func} {p : Tmp} (h : fn.results = #[.cell p 50]) (tmps : Array Value) (W : World) (g : Nat) (s : Sl) (hp : tmps.getD p undef = .pointer (some ⟨g, 0, none⟩)) (hg : Cs W g 50 s.cells.toArray) :
    (results fn tmps).run Try.prog W = .ok s.v W :=
  results_cell_row h tmps W g 50 _ (0, 0) _ hp hg Try.underlying50 rfl slot_info4

def SlotP (W : World) (g : Nat) (e : Ending) (W' : World) : Prop :=
  ∃ s : Sl, e = .returned s.v ∧ s.stamp = 0 ∧ -1 ≤ s.block ∧ s.block ≤ 16777216 ∧ SrcAt W' g ∧ W.grownBy W' (some g)

/-- What the walk holds: the source, the result's block, the slot's block. -/
def SW (W W' : World) (g a b : Nat) (x y z t : Value) : Prop := SrcAt W' g ∧ W.grownBy W' (some g) ∧ W.heap.size ≤ a ∧ W.heap.size ≤ b ∧ a ≠ b ∧ Cs W' a 50 Sl.nil.cells.toArray ∧ Cs W' b 50 #[x, y, z, t]
theorem SW.grown {W W' W'' : World} {g a b : Nat} {x y z t : Value} (h : SW W W' g a b x y z t) (hg0 : g < W.heap.size) (hs : SrcAt W'' g) (hg : W'.grownBy W'' (some g)) : SW W W'' g a b x y z t := by
  obtain ⟨h1, h2, h3, h4, h5, h6, h7⟩ := h
  exact ⟨hs, gb_trans h2 hg, h3, h4, h5, h6.grown hg (by simp; omega), h7.grown hg (by simp; omega)⟩

set_option maxRecDepth 100000 in
set_option maxHeartbeats 4000000 in
theorem lslot_any (W : World) (g : Nat) (h : SrcAt W g) :
    Calls Try.prog 20 #[.pointer (some ⟨g, 0, none⟩)] W (SlotP W g) := by
  have hgl := h.lt
  have hb0 : Below W.heap.size W (W.alloc (.cells #[.bool false, .bool false, .int .i64 0, .int .i64 0] 50)) := (Below.refl _ W).alloc (Nat.le_refl _) _
  have hC0 := Cs.new W 50 #[.bool false, .bool false, .int .i64 0, .int .i64 0]
  have HS0 := Lib.hid (h.alloc (.cells #[.bool false, .bool false, .int .i64 0, .int .i64 0] 50))
  have HG0 := Lib.hid (gb_below (gb_refl g W) hb0)
  clear h
  go_enter Try.func20, Try.ntmps20
  go_wp2_with fail
  generalize (W.alloc (.cells #[.bool false, .bool false, .int .i64 0, .int .i64 0] 50)) = W0 at *
  refine (n_any g 3 W0 HS0.out (by omega) (by omega)).mono ?_
  rintro e W1 ⟨r1, rfl, hr1, hr1', hs1, hg1⟩
  have HC1 := Lib.hid (hC0.grown hg1 (by simp; omega))
  have HG1 := Lib.hid (gb_trans HG0.out hg1)
  clear hC0 HS0 HG0 hg1 hb0
  go_wp2_with fail
  refine (n_any g 3 W1 hs1 (by omega) (by omega)).mono ?_
  rintro e W2 ⟨r2, rfl, hr2, hr2', hs2, hg2⟩
  have HC2 := Lib.hid (HC1.out.grown hg2 (by simp; omega))
  have HG2 := Lib.hid (gb_trans HG1.out hg2)
  clear HC1 HG1 hg2 hs1
  go_wp2_with fail
  refine (n_any g 20 W2 hs2 (by omega) (by omega)).mono ?_
  rintro e W3 ⟨r3, rfl, hr3, hr3', hs3, hg3⟩
  have HC3 := Lib.hid (HC2.out.grown hg3 (by simp; omega))
  have HG3 := Lib.hid (gb_trans HG2.out hg3)
  clear HC2 HG2 hg3 hs2
  go_wp2_with fail
  refine (n_any g 20 W3 hs3 (by omega) (by omega)).mono ?_
  rintro e W4 ⟨r4, rfl, hr4, hr4', hs4, hg4⟩
  have HC4 := Lib.hid (HC3.out.grown hg4 (by simp; omega))
  have HG4 := Lib.hid (gb_trans HG3.out hg4)
  clear HC3 HG3 hg4 hs3
  go_wp2_with fail
  have hsz4 : W.heap.size ≤ W4.heap.size := HG4.out.size
  have hb5 : Below W4.heap.size W4 (W4.alloc (.cells #[.int .i64 r3, .int .i64 r4, .int .i64 0, .int .i64 16777215, .int .i64 16777216, .int .i64 (-1)] 3)) := (Below.refl _ _).alloc (Nat.le_refl _) _
  have hP := pick_any g W4.heap.size 6 [r3, r4, 0, 16777215, 16777216, -1] _ (hs4.alloc (.cells #[.int .i64 r3, .int .i64 r4, .int .i64 0, .int .i64 16777215, .int .i64 16777216, .int .i64 (-1)] 3)) rfl (by omega) (by omega) (Cs.new W4 3 _) (by omega)
  have HC5 := Lib.hid (HC4.out.below hb5 HC4.out.lt)
  have HG5 := Lib.hid (gb_below HG4.out hb5)
  refine hP.mono ?_
  rintro e W6 ⟨p, rfl, hp, hs6, hg6⟩
  have HC6 := Lib.hid (HC5.out.grown hg6 (by simp; omega))
  have HG6 := Lib.hid (gb_trans HG5.out hg6)
  have hp2 : -1 ≤ p ∧ p ≤ 16777216 := by simp only [List.mem_cons, List.not_mem_nil, or_false] at hp; omega
  clear hP HC5 HG5 hg6 HC4 HG4 hb5 hp
  go_upto_region 2 with (fail)
  have hCb := Cs.new W6 50 #[.bool (decide (0 < r1)), .bool (r2 == 0), .int .i64 p, .int .i64 0]
  have hb7 : Below W6.heap.size W6 (W6.alloc (.cells #[.bool (decide (0 < r1)), .bool (r2 == 0), .int .i64 p, .int .i64 0] 50)) := (Below.refl _ _).alloc (Nat.le_refl _) _
  have hSW : SW W (W6.alloc (.cells #[.bool (decide (0 < r1)), .bool (r2 == 0), .int .i64 p, .int .i64 0] 50)) g W.heap.size W6.heap.size (.bool (decide (0 < r1))) (.bool (r2 == 0)) (.int .i64 p) (.int .i64 0) :=
    ⟨hs6.alloc _, gb_below HG6.out hb7, Nat.le_refl _, HG6.out.size, Nat.ne_of_lt HC6.out.lt, HC6.out.below hb7 HC6.out.lt, hCb⟩
  generalize (W6.alloc (.cells #[.bool (decide (0 < r1)), .bool (r2 == 0), .int .i64 p, .int .i64 0] 50)) = W7 at *
  generalize W6.heap.size = b at *
  generalize decide (0 < r1) = vb at *
  generalize (r2 == 0) = db at *
  obtain ⟨a, ha⟩ : ∃ a, W.heap.size = a := ⟨_, rfl⟩
  have HSW := Lib.hid hSW
  rw [ha] at HSW
  rw [ha]
  clear hSW hb7 hCb HC6 HG6 hs6 hs4 hsz4 ha
  go_cut [25] (fun s25 wx => ∃ q : Bool, s25 = .bool q ∧ SW W wx g a b (.bool vb) (.bool db) (.int .i64 p) (.int .i64 0))
  case first =>
    have c0 : W7.cell? ⟨b, 0, none⟩ = some (.bool vb) := HSW.out.2.2.2.2.2.2.cell 0
    cases vb
    · go_wp2_with fail
      refine (n_any g 4 W7 HSW.out.1 (by omega) (by omega)).mono ?_
      rintro e W8 ⟨r, rfl, hr, hr', hs8, hg8⟩
      have HS8 := Lib.hid (HSW.out.grown hgl hs8 hg8)
      go_wp2_with fail
      go_meet
      case rel => exact ⟨_, rfl, HS8.out⟩
    · go_wp2_with fail
      go_meet
      case rel => exact ⟨_, rfl, HSW.out⟩
  case rest =>
    obtain ⟨q, rfl, hS⟩ := hcut
    have HS := Lib.hid hS
    have HCa := Lib.hid hS.2.2.2.2.2.1
    have ca0 : wc.cell? ⟨a, 0, none⟩ = some (.bool false) := HCa.out.cell 0
    have ca1 : wc.cell? ⟨a, 1, none⟩ = some (.bool false) := HCa.out.cell 1
    have ca2 : wc.cell? ⟨a, 2, none⟩ = some (.int .i64 0) := HCa.out.cell 2
    have ca3 : wc.cell? ⟨a, 3, none⟩ = some (.int .i64 0) := HCa.out.cell 3
    have fa0 := HCa.out.free 0
    have fa1 := HCa.out.free 1
    have fa2 := HCa.out.free 2
    have fa3 := HCa.out.free 3
    clear hS HSW
    cases q
    rotate_left
    · go_wp2_with fail
      (try simp only [Exit.inBlock, Exit.then])
      refine bodyPost_ret (res_slot rfl _ _ a Sl.nil rfl (Cs.put4 HCa.out _ _ _ _)) rfl ?_
      have hne : g < a := by have := HS.out.2.2.1; omega
      have hag := HS.out.2.2.1
      exact ⟨Sl.nil, rfl, rfl, by decide, by decide, (((HS.out.1.set hne _).set hne _).set hne _).set hne _, gb_set (gb_set (gb_set (gb_set HS.out.2.1 hag _) hag _) hag _) hag _⟩
    · clear ca0 ca1 ca2 ca3 fa0 fa1 fa2 fa3 HCa
      go_wp2_with fail
      refine (n_any g 3 _ HS.out.1 (by omega) (by omega)).mono ?_
      rintro e W8 ⟨r, rfl, hr, hr', hs8, hg8⟩
      have HS8 := Lib.hid (HS.out.grown hgl hs8 hg8)
      clear hs8 hg8 HS
      go_upto_if 29 with (fail)
      go_cut [] (fun wx => ∃ p' : Int, -1 ≤ p' ∧ p' ≤ 16777216 ∧ SW W wx g a b (.bool vb) (.bool db) (.int .i64 p') (.int .i64 0))
      case first =>
        by_cases hr0 : 0 < r
        · go_wp2_with fail
          refine (n_any g 20 _ HS8.out.1 (by omega) (by omega)).mono ?_
          rintro e W9 ⟨r5, rfl, hr5, hr5', hs9, hg9⟩
          have HS9 := Lib.hid (HS8.out.grown hgl hs9 hg9)
          have hCb := HS9.out.2.2.2.2.2.2
          have cb2 := hCb.cell 2
          have fb2 := hCb.free 2
          have hbW := HS9.out.2.2.2.1
          have hSF : SW W (W9.setCell ⟨b, 2, none⟩ (.int .i64 r5)) g a b (.bool vb) (.bool db) (.int .i64 r5) (.int .i64 0) := by
            obtain ⟨h1, h2, h3, h4, h5, h6, h7⟩ := HS9.out
            exact ⟨h1.set (by omega) _, gb_set h2 h4 _, h3, h4, h5, h6.fr (fr_set W9 b 2 _) h5, heap_setCell_same W9 b 2 _ _ (.int .i64 r5) h7⟩
          have HSF := Lib.hid hSF
          clear hSF hCb
          go_wp2_with fail
          go_meet
          case rel => exact ⟨r5, by omega, by omega, HSF.out⟩
        · go_wp2_with fail
          go_meet
          case rel => exact ⟨p, hp2.1, hp2.2, HS8.out⟩
      case rest =>
        obtain ⟨p', hp1, hp3, hS⟩ := hcut
        have HS := Lib.hid hS
        have HCa := Lib.hid hS.2.2.2.2.2.1
        have HCb := Lib.hid hS.2.2.2.2.2.2
        have ca0 : wc.cell? ⟨a, 0, none⟩ = some (.bool false) := HCa.out.cell 0
        have ca1 : wc.cell? ⟨a, 1, none⟩ = some (.bool false) := HCa.out.cell 1
        have ca2 : wc.cell? ⟨a, 2, none⟩ = some (.int .i64 0) := HCa.out.cell 2
        have ca3 : wc.cell? ⟨a, 3, none⟩ = some (.int .i64 0) := HCa.out.cell 3
        have fa0 := HCa.out.free 0
        have fa1 := HCa.out.free 1
        have fa2 := HCa.out.free 2
        have fa3 := HCa.out.free 3
        have cb0 : wc.cell? ⟨b, 0, none⟩ = some (.bool vb) := HCb.out.cell 0
        have cb1 : wc.cell? ⟨b, 1, none⟩ = some (.bool db) := HCb.out.cell 1
        have cb2 : wc.cell? ⟨b, 2, none⟩ = some (.int .i64 p') := HCb.out.cell 2
        have cb3 : wc.cell? ⟨b, 3, none⟩ = some (.int .i64 0) := HCb.out.cell 3
        clear hS HS8
        go_wp2_with fail
        (try simp only [Exit.inBlock, Exit.then])
        refine bodyPost_ret (res_slot rfl _ _ a ⟨vb, db, p', 0⟩ rfl (Cs.put4 HCa.out _ _ _ _)) rfl ?_
        have hne : g < a := by have := HS.out.2.2.1; omega
        have hag := HS.out.2.2.1
        exact ⟨⟨vb, db, p', 0⟩, rfl, rfl, hp1, hp3, (((HS.out.1.set hne _).set hne _).set hne _).set hne _, gb_set (gb_set (gb_set (gb_set HS.out.2.1 hag _) hag _) hag _) hag _⟩

end Go.Proofs.Ytpiffapnbjnjiaa
