/-
  cachemeta.slot.
-/
import Derived.Test.YtpiffapnbjnjiaaMetaT
import Derived.BigRegion
namespace Go.Proofs.Ytpiffapnbjnjiaa
set_option linter.unusedVariables false
open Go.RowKit
attribute [local go_sem] Oper.semAt_some

theorem slot_info4 : (Try.prog.info? 50).map (·.size) = some 4 := by kernel_rfl
set_option maxRecDepth 100000 in
theorem run_load_slot (W : World) (g : Nat) (s : Sl) (h : Cs W g 50 s.cells.toArray) : (loadVar 50 ⟨g, 0, none⟩).run Try.prog W = .ok s.v W :=
  run_loadVar_row W g 50 50 _ (0, 0) _ h Try.underlying50 rfl slot_info4
theorem res_slot_tmp {fn : Func} {p u : Tmp} (h : fn.results = #[.cell p 50, .tmp u]) (tmps : Array Value) (W : World) (g : Nat) (s : Sl) (hp : tmps.getD p undef = .pointer (some ⟨g, 0, none⟩)) (hg : Cs W g 50 s.cells.toArray) :
    (results fn tmps).run Try.prog W = .ok (.tuple #[s.v, tmps.getD u undef]) W := by
  have hl := run_load_slot W g s hg
  have hp' : tmps[p]?.getD undef = .pointer (some ⟨g, 0, none⟩) := by simpa using hp
  simp [results, h, hp', asAddr, hl, Result.andThen]

theorem Cs.put4 {W : World} {g : Nat} {t : TypeId} {a b c d : Value} (h : Cs W g t #[a, b, c, d]) (a' b' c' d' : Value) : Cs ((((W.setCell ⟨g, 0, none⟩ a').setCell ⟨g, 1, none⟩ b').setCell ⟨g, 2, none⟩ c').setCell ⟨g, 3, none⟩ d') g t #[a', b', c', d'] :=
  heap_setCell_same _ g 3 _ _ d' (heap_setCell_same _ g 2 _ _ c' (heap_setCell_same _ g 1 _ _ b' (heap_setCell_same _ g 0 _ _ a' h)))
theorem below_put4 {n g : Nat} {W0 W : World} (h : Below n W0 W) (hg : n ≤ g) (a' b' c' d' : Value) : Below n W0 ((((W.setCell ⟨g, 0, none⟩ a').setCell ⟨g, 1, none⟩ b').setCell ⟨g, 2, none⟩ c').setCell ⟨g, 3, none⟩ d') :=
  (((h.setCell (p := ⟨g, 0, none⟩) hg _).setCell (p := ⟨g, 1, none⟩) hg _).setCell (p := ⟨g, 2, none⟩) hg _).setCell (p := ⟨g, 3, none⟩) hg _

theorem put4_keep {W : World} {g3 g : Nat} {x0 x1 x2 x3 : Option Value} (h : W.cell? ⟨g3, 0, none⟩ = x0 ∧ W.cell? ⟨g3, 1, none⟩ = x1 ∧ W.cell? ⟨g3, 2, none⟩ = x2 ∧ W.cell? ⟨g3, 3, none⟩ = x3) (hne : g3 ≠ g) (a' b' c' d' : Value) :
    ((((W.setCell ⟨g, 0, none⟩ a').setCell ⟨g, 1, none⟩ b').setCell ⟨g, 2, none⟩ c').setCell ⟨g, 3, none⟩ d').cell? ⟨g3, 0, none⟩ = x0 ∧ ((((W.setCell ⟨g, 0, none⟩ a').setCell ⟨g, 1, none⟩ b').setCell ⟨g, 2, none⟩ c').setCell ⟨g, 3, none⟩ d').cell? ⟨g3, 1, none⟩ = x1 ∧
    ((((W.setCell ⟨g, 0, none⟩ a').setCell ⟨g, 1, none⟩ b').setCell ⟨g, 2, none⟩ c').setCell ⟨g, 3, none⟩ d').cell? ⟨g3, 2, none⟩ = x2 ∧ ((((W.setCell ⟨g, 0, none⟩ a').setCell ⟨g, 1, none⟩ b').setCell ⟨g, 2, none⟩ c').setCell ⟨g, 3, none⟩ d').cell? ⟨g3, 3, none⟩ = x3 := by
  have hb : ((((W.setCell ⟨g, 0, none⟩ a').setCell ⟨g, 1, none⟩ b').setCell ⟨g, 2, none⟩ c').setCell ⟨g, 3, none⟩ d').heap[g3]? = W.heap[g3]? :=
    (Below.heap_setCell _ _ _ g3 hne).trans ((Below.heap_setCell _ _ _ g3 hne).trans ((Below.heap_setCell _ _ _ g3 hne).trans (Below.heap_setCell _ _ _ g3 hne)))
  revert hb
  generalize ((((W.setCell ⟨g, 0, none⟩ a').setCell ⟨g, 1, none⟩ b').setCell ⟨g, 2, none⟩ c').setCell ⟨g, 3, none⟩ d') = V
  intro hb
  exact ⟨(World.cell?_of_block hb).trans h.1, (World.cell?_of_block hb).trans h.2.1, (World.cell?_of_block hb).trans h.2.2.1, (World.cell?_of_block hb).trans h.2.2.2⟩

set_option maxRecDepth 100000 in
set_option maxHeartbeats 2000000 in
theorem slot_any (w : Nat) (W : World) (hw : w < 18446744073709551616) :
    Calls Try.prog 49 #[.int .u64 (w : Int)] W fun e W' => e = .returned (.tuple #[(slotS w).v, .bool (slotOk w)]) ∧ Below W.heap.size W W' := by
  by_cases h0 : w = 0
  · subst h0
    go_enter Try.func49, Try.ntmps49
    go_wp2_with fail
    refine bodyPost_ret (res_slot_tmp rfl _ _ W.heap.size ⟨false, false, 0, 0⟩ rfl (Cs.new W _ _)) rfl ?_
    exact ⟨rfl, (Below.refl _ W).alloc (Nat.le_refl _) _⟩
  · have hS : slotS w = ⟨decide (w / 16777216 % 2 = 1), decide (w / 33554432 % 2 = 1), ((w % 16777216 : Nat) : Int), 0⟩ := by unfold slotS; rw [if_neg h0]
    have hO : slotOk w = decide (w / 16777216 % 2 = 1 ∧ w = (slotS w).word) := by unfold slotOk; congr 1; simp [h0]
    have HS := Lib.hid hS
    have HO := Lib.hid hO
    have HSP := Lib.hid (split_sl w)
    clear hS hO
    have t0 : ((w : Int) == 0) = false := by simpa using h0
    go_enter Try.func49, Try.ntmps49
    go_wp2_with fail
    have C0 := Cs.new W 50 #[.bool false, .bool false, .int .i64 0, .int .i64 0]
    have hb0 : Below W.heap.size W (W.alloc (.cells #[.bool false, .bool false, .int .i64 0, .int .i64 0] 50)) := (Below.refl _ W).alloc (Nat.le_refl _) _
    refine (widths_any 1 (by omega) _).mono ?_
    rintro e W1 ⟨g, rfl, hr1, hb1⟩
    rw [show wOf 1 = wSlot from rfl] at hr1 ⊢
    rw [show wSlot.length = 5 from rfl]
    have HC1 := Lib.hid (C0.below hb1 C0.lt)
    have HB1 := Lib.hid (hb0.trans (hb1.mono hb0.size))
    have HR1 := Lib.hid hr1
    clear C0 hb0 hr1 hb1
    go_wp2_with fail
    refine (split_all w (some ⟨g, 0, none⟩) 5 5 wSlot W1 rfl HR1.out (by omega) hw).mono ?_
    rintro e W2 ⟨B, d, rfl, hr2, hb2⟩
    rw [HSP.out] at hr2 ⊢
    rw [show splitE wSlot = 0 from rfl]
    have HC2 := Lib.hid (HC1.out.below hb2 HC1.out.lt)
    have HB2 := Lib.hid (HB1.out.trans (hb2.mono HB1.out.size))
    obtain ⟨b, off, rfl, hbl, hc⟩ := hr2.u (by simp)
    have c0 := hc 0 (by simp)
    have c1 := hc 1 (by simp)
    have c2 := hc 2 (by simp)
    simp only [List.getElem?_cons_zero, List.getElem?_cons_succ, Option.getD_some, Nat.add_zero] at c0 c1 c2
    simp only [List.length_cons, List.length_nil, Nat.zero_add, Nat.reduceAdd]
    have hq : w % 16777216 < 16777216 := Nat.mod_lt _ (by omega)
    have e1 : (w / 16777216 % 2 = 0) ∨ (w / 16777216 % 2 = 1) := by omega
    have e2 : (w / 33554432 % 2 = 0) ∨ (w / 33554432 % 2 = 1) := by omega
    generalize w % 16777216 = q at *
    generalize w / 16777216 % 2 = v at *
    generalize w / 33554432 % 2 = dd at *
    clear HC1 HB1 HR1 HSP hr2 hb2 hc
    have f0 := HC2.out.free 0
    have hlt2 := HC2.out.lt
    have n2 : IntKind.i64.wrap (q : Int) = q := IntWalk.i64_in _ (by omega)
    go_wp2_with fail
    go_region
    have hv : ((v : Int) == 1) = decide (v = 1) := by rcases e1 with rfl | rfl <;> rfl
    have hd : ((dd : Int) == 1) = decide (dd = 1) := by rcases e2 with rfl | rfl <;> rfl
    rw [hv, hd]
    have CT := Cs.new W2 50 #[.bool (decide (v = 1)), .bool (decide (dd = 1)), .int .i64 (q : Int), .int .i64 0]
    have HBW := Lib.hid (HB2.out.alloc HB2.out.size (.cells #[.bool (decide (v = 1)), .bool (decide (dd = 1)), .int .i64 (q : Int), .int .i64 0] 50))
    have HC3 := Lib.hid (HC2.out.alloc (.cells #[.bool (decide (v = 1)), .bool (decide (dd = 1)), .int .i64 (q : Int), .int .i64 0] 50))
    have HV : Hid ((decide (v = 1) = true) ↔ v = 1) := by show _ ↔ _; simp
    generalize decide (v = 1) = vb at *
    generalize decide (dd = 1) = db at *
    clear e1 e2 hv hd c0 c1 c2 HC2 HB2
    generalize hW3 : (W2.alloc _) = W3 at *
    generalize hg3 : W2.heap.size = g3 at *
    have k0 : W3.cell? ⟨g3, 0, none⟩ = some (.bool vb) := CT.cell 0
    have k1 : W3.cell? ⟨g3, 1, none⟩ = some (.bool db) := CT.cell 1
    have k2 : W3.cell? ⟨g3, 2, none⟩ = some (.int .i64 (q : Int)) := CT.cell 2
    have k3 : W3.cell? ⟨g3, 3, none⟩ = some (.int .i64 0) := CT.cell 3
    have f0 := HC3.out.free 0
    have f1 := HC3.out.free 1
    have f2 := HC3.out.free 2
    have f3 := HC3.out.free 3
    have hgl : W.heap.size < W3.heap.size := HC3.out.lt
    have hng : g3 ≠ W.heap.size := Nat.ne_of_gt hlt2
    have y0 := HC3.out.cell 0
    have y1 := HC3.out.cell 1
    have y2 := HC3.out.cell 2
    have y3 := HC3.out.cell 3
    cases vb
    · go_wp2_with fail
      refine wp_region_mix 9 10 (by kernel_rfl) (by decide +kernel) (fun w' => w'.cell? ⟨g3, 0, none⟩ = some (.bool false) ∧ w'.cell? ⟨g3, 1, none⟩ = some (.bool db) ∧ w'.cell? ⟨g3, 2, none⟩ = some (.int .i64 (q : Int)) ∧ w'.cell? ⟨g3, 3, none⟩ = some (.int .i64 0)) ⟨k0, k1, k2, k3⟩ ?_
      simp only [List.take_succ_cons, List.take_zero, List.drop_succ_cons, List.drop_zero]
      iterate 4
        refine ⟨?_, Or.inl ⟨by rfl, fun W' hS' => ?_⟩, fun _ _ _ h => h, ?_⟩
        rotate_left
        · obtain ⟨hs1, hs2, hs3, hs4⟩ := hS'
          go_simp
          with_reducible rfl
        simp only [Act.put, List.setIfInBounds_toArray, List.set_cons_zero, List.set_cons_succ]
      iterate 4
        refine ⟨_, Or.inr ⟨by rfl, rfl⟩, fun _ _ _ h => h, ?_⟩
        simp only [Act.put, List.setIfInBounds_toArray, List.set_cons_zero, List.set_cons_succ]
      refine ⟨?_, Or.inl ⟨by rfl, fun W' hS' => ?_⟩, fun _ _ _ h => h, ?_⟩
      rotate_left
      · obtain ⟨hs1, hs2, hs3, hs4⟩ := hS'
        go_simp
        with_reducible rfl
      simp only [Act.put, List.setIfInBounds_toArray, List.set_cons_zero, List.set_cons_succ]
      show wpSeqT _ _ _ _ _ _ _ _ _
      refine wpSeqT_step (fun K hK => ?_)
      go_simp
      refine hK _ _ (fun _ => put4_keep ⟨k0, k1, k2, k3⟩ hng _ _ _ _) ?_
      clear hK K
      refine wpSeqT_list _ _ _ _ (by omega) ?_
      go_wp2_with fail
      refine bodyPost_ret (res_slot_tmp rfl _ _ W.heap.size ⟨false, db, (q : Int), 0⟩ rfl (Cs.put4 HC3.out _ _ _ _)) rfl ?_
      refine ⟨?_, (below_put4 HBW.out (Nat.le_refl _) (.bool false) (.bool db) (.int .i64 (q : Int)) (.int .i64 0)).drew.drew⟩
      rw [HO.out, HS.out]
      have hv1 : ¬ v = 1 := by simpa using HV.out
      rw [decide_eq_false (by intro h; exact hv1 h.1)]
      rfl
    · go_wp2_with fail
      have kk2 : W3.drew.drew.cell? ⟨g3, 0, none⟩ = some (.bool true) ∧ W3.drew.drew.cell? ⟨g3, 1, none⟩ = some (.bool db) ∧ W3.drew.drew.cell? ⟨g3, 2, none⟩ = some (.int .i64 (q : Int)) ∧ W3.drew.drew.cell? ⟨g3, 3, none⟩ = some (.int .i64 0) := ⟨k0, k1, k2, k3⟩
      have kk : W3.drew.cell? ⟨g3, 0, none⟩ = some (.bool true) ∧ W3.drew.cell? ⟨g3, 1, none⟩ = some (.bool db) ∧ W3.drew.cell? ⟨g3, 2, none⟩ = some (.int .i64 (q : Int)) ∧ W3.drew.cell? ⟨g3, 3, none⟩ = some (.int .i64 0) := ⟨k0, k1, k2, k3⟩
      go_region_held3 (fun w' => w'.cell? ⟨g3, 0, none⟩ = some (.bool true) ∧ w'.cell? ⟨g3, 1, none⟩ = some (.bool db) ∧ w'.cell? ⟨g3, 2, none⟩ = some (.int .i64 (q : Int)) ∧ w'.cell? ⟨g3, 3, none⟩ = some (.int .i64 0)) (first | with_reducible exact kk | with_reducible exact kk2 | with_reducible exact z | exact put4_keep z hng _ _ _ _)
        (first | (go_at_call 23; refine (mword_any ⟨true, db, (q : Int), 0⟩ _).mono ?_; rintro e w2 ⟨rfl, hb2⟩; have z : w2.cell? ⟨g3, 0, none⟩ = some (.bool true) ∧ w2.cell? ⟨g3, 1, none⟩ = some (.bool db) ∧ w2.cell? ⟨g3, 2, none⟩ = some (.int .i64 (q : Int)) ∧ w2.cell? ⟨g3, 3, none⟩ = some (.int .i64 0) := ⟨(hb2.cell CT.lt).trans k0, (hb2.cell CT.lt).trans k1, (hb2.cell CT.lt).trans k2, (hb2.cell CT.lt).trans k3⟩; have HC4 := Lib.hid (Cs.below (w := W3.drew.drew) HC3.out hb2 HC3.out.lt); have p0 := HC4.out.free 0; have p1 := HC4.out.free 1; have p2 := HC4.out.free 2; have p3 := HC4.out.free 3; have x0 := HC4.out.cell 0; have x1 := HC4.out.cell 1; have x2 := HC4.out.cell 2; have x3 := HC4.out.cell 3))
      go_wp2_with fail
      refine bodyPost_ret (res_slot_tmp rfl _ _ W.heap.size ⟨true, db, (q : Int), 0⟩ rfl (Cs.put4 HC4.out _ _ _ _)) rfl ?_
      have hsz : W.heap.size ≤ W3.heap.size := Nat.le_of_lt hgl
      refine ⟨?_, below_put4 (HBW.out.drew.drew.trans (hb2.mono hsz)) (Nat.le_refl _) _ _ _ _⟩
      rw [HO.out, HS.out]
      have hv1 : v = 1 := by simpa using HV.out
      have hdec : decide (v = 1 ∧ w = (Sl.mk true db (q : Int) 0).word) = ((w : Int) == ((Sl.mk true db (q : Int) 0).word : Int)) := by
        generalize (Sl.mk true db (q : Int) 0).word = z
        rw [Bool.eq_iff_iff]
        simp [hv1]
        omega
      rw [hdec]
      rfl
end Go.Proofs.Ytpiffapnbjnjiaa
