/-
  Merged texts (Db3): what the row proofs use of them.
-/
import Derived.Test.YtogchafnnkajfaaGreatDb2
import Derived.Laws.CopyOwn
import Derived.Laws.CopyRow
import Derived.BigRegion
import Derived.Deep.DeepCutAuto
import Derived.StillTailTactics
import Derived.Lib.AppendZeros
import Derived.BigQuiet
import Derived.Deep.RegionLaw
namespace Go.Proofs.YtogchafnnkajfaaGreat
set_option linter.unusedVariables false
open Go.RowKit
attribute [local go_sem] Oper.semAt_some
set_option maxRecDepth 100000 in
set_option maxHeartbeats 8000000 in
theorem least2_any (W : World) (A B : Option Addr) (n c m d : Nat) (clk : Int) (l : List Sl) (hl : l.length = n) (hn : n ≤ 1000000) (hA : Reads W A (scs l)) :
    Calls Tryz.prog 125 #[csV A n c clk B m d, .func (.func 151) #[] #[]] W fun e w' => e = .returned (.int .i64 (least (fun x => !x.dirty) l)) ∧ Below W.heap.size W w' := by
  have HL := Lib.hid hl
  have HA := Lib.hid hA
  clear hl hA
  unfold csV
  go_enter Tryz.func125, Tryz.ntmps125
  go_wp2_with fail
  have hP := Cs.new W 58 #[.slice A n c, .int .i64 clk, .slice B m d]
  have hb1 : Below W.heap.size W (W.alloc (.cells #[.slice A n c, .int .i64 clk, .slice B m d] 58)) := (Below.refl _ W).alloc (Nat.le_refl _) _
  have hs1 : (W.alloc (.cells #[.slice A n c, .int .i64 clk, .slice B m d] 58)).heap.size = W.heap.size + 1 := by simp
  generalize W.alloc (.cells #[.slice A n c, .int .i64 clk, .slice B m d] 58) = W1 at *
  have HP := Lib.hid hP
  have HB1 := Lib.hid hb1
  have HS1 := Lib.hid hs1
  clear hP hb1 hs1
  go_loopw [5, 11] (fun y z wr => ∃ i : Nat, y = .int .i64 (leastTo (fun x => !x.dirty) l i) ∧ z = .int .i64 i ∧ i ≤ n ∧ Below (W.heap.size + 1) W1 wr) (fun _ z _ => n - (intOf z).toNat)
  case atStart => exact ⟨0, rfl, rfl, Nat.zero_le _, (Below.refl _ W1).mono (Nat.le_of_eq HS1.out.symm)⟩
  case round =>
    obtain ⟨i, rfl, rfl, hi, hbw⟩ := hrel
    have HBW := Lib.hid hbw
    have HB0 := Lib.hid (HB1.out.trans (hbw.mono (Nat.le_succ _)))
    have hPw := Cs.below HP.out hbw (by omega)
    have p0 := hPw.cell 0
    clear hbw hPw
    by_cases hlt : i < n
    · obtain ⟨x, hx⟩ := sl_put (l := l) (i := i) (by rw [HL.out]; exact hlt)
      have u1 : (i : Int) < (n : Int) := by omega
      obtain ⟨b0, o, rfl, hbl, hcs⟩ := scs_read (HA.out.keep HB0.out) (by rw [HL.out]; omega)
      obtain ⟨c0, c1, c2, c3⟩ := hcs i x hx
      have HX := Lib.hid hx
      have HCS := Lib.hid hcs
      have HR := Lib.hid (leastTo_range (fun x => !x.dirty) l i (by rw [HL.out]; exact hi))
      have HU := Lib.hid (leastTo_succ (fun x => !x.dirty) l i x hx)
      clear hcs hx
      have e1 : IntKind.i64.wrap ((i : Int) + 1) = ((i + 1 : Nat) : Int) := by rw [IntWalk.i64_in _ (by omega)]; rfl
      go_upto_region 5 with (fail)
      have hC := Cs.new wr 31 #[.bool x.valid, .bool x.dirty, .int .i64 x.block, .int .i64 x.stamp]
      have hbV : Below wr.heap.size wr (wr.alloc (.cells #[.bool x.valid, .bool x.dirty, .int .i64 x.block, .int .i64 x.stamp] 31)) := (Below.refl _ wr).alloc (Nat.le_refl _) _
      have hszV : (wr.alloc (.cells #[.bool x.valid, .bool x.dirty, .int .i64 x.block, .int .i64 x.stamp] 31)).heap.size = wr.heap.size + 1 := by simp
      have hw1 : W1.heap.size ≤ wr.heap.size := HBW.out.size
      have hsW := HS1.out
      have q0 := (hbV.cell (p := ⟨W.heap.size, 0, none⟩) (by show W.heap.size < _; omega)).trans p0
      have HCV : Hid (∀ (k : Nat) (y : Sl), l[k]? = some y → (wr.alloc (.cells #[.bool x.valid, .bool x.dirty, .int .i64 x.block, .int .i64 x.stamp] 31)).cell? ⟨b0, o + k * 4 + 3, none⟩ = some (.int .i64 y.stamp)) := fun k y hy => (hbV.cell (p := ⟨b0, o + k * 4 + 3, none⟩) hbl).trans (HCS.out k y hy).2.2.2
      have HB2 : Hid (Below (W.heap.size + 1) W1 (wr.alloc (.cells #[.bool x.valid, .bool x.dirty, .int .i64 x.block, .int .i64 x.stamp] 31))) := HBW.out.trans (hbV.mono (by omega))
      have hpl : W.heap.size < (wr.alloc (.cells #[.bool x.valid, .bool x.dirty, .int .i64 x.block, .int .i64 x.stamp] 31)).heap.size := by omega
      have hbl2 : b0 < (wr.alloc (.cells #[.bool x.valid, .bool x.dirty, .int .i64 x.block, .int .i64 x.stamp] 31)).heap.size := by omega
      have hsl : wr.heap.size < (wr.alloc (.cells #[.bool x.valid, .bool x.dirty, .int .i64 x.block, .int .i64 x.stamp] 31)).heap.size := by omega
      clear c0 c1 c2 c3 p0 hbV HCS HBW HB0 hszV
      generalize wr.alloc (.cells #[.bool x.valid, .bool x.dirty, .int .i64 x.block, .int .i64 x.stamp] 31) = V at *
      obtain ⟨K, hK⟩ : ∃ K, leastTo (fun x => !x.dirty) l i = K := ⟨_, rfl⟩
      rw [hK] at HR HU ⊢
      clear hK
      obtain ⟨xv, xd, xb, xs⟩ := x
      dsimp only at hC HU
      have k0 : V.cell? ⟨wr.heap.size, 0, none⟩ = some (.bool xv) := hC.cell 0
      have k1 : V.cell? ⟨wr.heap.size, 1, none⟩ = some (.bool xd) := hC.cell 1
      have k2 : V.cell? ⟨wr.heap.size, 2, none⟩ = some (.int .i64 xb) := hC.cell 2
      have k3 : V.cell? ⟨wr.heap.size, 3, none⟩ = some (.int .i64 xs) := hC.cell 3
      clear hC
      rcases hp : (!xd) with _ | _
      · have HU2 : Hid (leastTo (fun x => !x.dirty) l (i + 1) = K) := by show _ = _; rw [HU.out, if_neg (by intro h; have h1 := h.1; simp only [hp] at h1; cases h1)]
        clear HU
        refine wp_region_cls (by kernel_rfl) (by kernel_rfl) (fun w' => Below V.heap.size V w') (Below.refl _ V).drew ?_
        iterate 2 (refine ⟨?_, Or.inl ⟨by rfl, Or.inl fun W' hS' => ?_⟩, ?_⟩; rotate_left; (focus (have z0 := (hS'.cell (p := ⟨wr.heap.size, 0, none⟩) hsl).trans k0; have z1 := (hS'.cell (p := ⟨wr.heap.size, 1, none⟩) hsl).trans k1; have z2 := (hS'.cell (p := ⟨wr.heap.size, 2, none⟩) hsl).trans k2; have z3 := (hS'.cell (p := ⟨wr.heap.size, 3, none⟩) hsl).trans k3; have z4 := (hS'.cell (p := ⟨W.heap.size, 0, none⟩) hpl).trans q0; go_simp; with_reducible rfl)); simp only [Act.put, List.setIfInBounds_toArray, List.set_cons_zero, List.set_cons_succ])
        refine ⟨.bool false, Or.inl ⟨by rfl, Or.inr ⟨151, #[.agg #[.bool xv, .bool xd, .int .i64 xb, .int .i64 xs]], fun W' hS' => ⟨by go_simp, (victim2_any W' ⟨xv, xd, xb, xs⟩).mono fun e w2 h => ⟨by rw [h.1]; dsimp only; rw [hp], hS'.trans (h.2.mono hS'.size)⟩⟩⟩⟩, ?_⟩
        simp only [Act.put, List.setIfInBounds_toArray, List.set_cons_zero, List.set_cons_succ]
        iterate 15 (first | (refine ⟨_, Or.inr ⟨by rfl, rfl⟩, ?_⟩; simp only [Act.put, List.setIfInBounds_toArray, List.set_cons_zero, List.set_cons_succ]) | (refine ⟨?_, Or.inl ⟨by rfl, Or.inl fun W' hS' => ?_⟩, ?_⟩; rotate_left; (focus (have z0 := (hS'.cell (p := ⟨wr.heap.size, 0, none⟩) hsl).trans k0; have z1 := (hS'.cell (p := ⟨wr.heap.size, 1, none⟩) hsl).trans k1; have z2 := (hS'.cell (p := ⟨wr.heap.size, 2, none⟩) hsl).trans k2; have z3 := (hS'.cell (p := ⟨wr.heap.size, 3, none⟩) hsl).trans k3; have z4 := (hS'.cell (p := ⟨W.heap.size, 0, none⟩) hpl).trans q0; go_simp; with_reducible rfl)); simp only [Act.put, List.setIfInBounds_toArray, List.set_cons_zero, List.set_cons_succ]))
        intro w1 hb1
        have HB3 := Lib.hid (HB2.out.trans (hb1.mono (by omega)))
        clear k0 k1 k2 k3 hp hb1 HB2 HR q0 HCV
        go_wp2_with fail
        go_roundw
        case rel => exact ⟨i + 1, by rw [HU2.out], by go_num, by omega, HB3.out⟩
        case measure => simp [intOf]; omega
      · by_cases hK0 : K < 0
        · have HU2 : Hid (leastTo (fun x => !x.dirty) l (i + 1) = (i : Int)) := by show _ = _; rw [HU.out, if_pos ⟨hp, .inl hK0⟩]
          clear HU
          refine wp_region_cls (by kernel_rfl) (by kernel_rfl) (fun w' => Below V.heap.size V w') (Below.refl _ V).drew ?_
          iterate 2 (refine ⟨?_, Or.inl ⟨by rfl, Or.inl fun W' hS' => ?_⟩, ?_⟩; rotate_left; (focus (have z0 := (hS'.cell (p := ⟨wr.heap.size, 0, none⟩) hsl).trans k0; have z1 := (hS'.cell (p := ⟨wr.heap.size, 1, none⟩) hsl).trans k1; have z2 := (hS'.cell (p := ⟨wr.heap.size, 2, none⟩) hsl).trans k2; have z3 := (hS'.cell (p := ⟨wr.heap.size, 3, none⟩) hsl).trans k3; have z4 := (hS'.cell (p := ⟨W.heap.size, 0, none⟩) hpl).trans q0; go_simp; with_reducible rfl)); simp only [Act.put, List.setIfInBounds_toArray, List.set_cons_zero, List.set_cons_succ])
          refine ⟨.bool true, Or.inl ⟨by rfl, Or.inr ⟨151, #[.agg #[.bool xv, .bool xd, .int .i64 xb, .int .i64 xs]], fun W' hS' => ⟨by go_simp, (victim2_any W' ⟨xv, xd, xb, xs⟩).mono fun e w2 h => ⟨by rw [h.1]; dsimp only; rw [hp], hS'.trans (h.2.mono hS'.size)⟩⟩⟩⟩, ?_⟩
          simp only [Act.put, List.setIfInBounds_toArray, List.set_cons_zero, List.set_cons_succ]
          iterate 15 (first | (refine ⟨_, Or.inr ⟨by rfl, rfl⟩, ?_⟩; simp only [Act.put, List.setIfInBounds_toArray, List.set_cons_zero, List.set_cons_succ]) | (refine ⟨?_, Or.inl ⟨by rfl, Or.inl fun W' hS' => ?_⟩, ?_⟩; rotate_left; (focus (have z0 := (hS'.cell (p := ⟨wr.heap.size, 0, none⟩) hsl).trans k0; have z1 := (hS'.cell (p := ⟨wr.heap.size, 1, none⟩) hsl).trans k1; have z2 := (hS'.cell (p := ⟨wr.heap.size, 2, none⟩) hsl).trans k2; have z3 := (hS'.cell (p := ⟨wr.heap.size, 3, none⟩) hsl).trans k3; have z4 := (hS'.cell (p := ⟨W.heap.size, 0, none⟩) hpl).trans q0; go_simp; with_reducible rfl)); simp only [Act.put, List.setIfInBounds_toArray, List.set_cons_zero, List.set_cons_succ]))
          intro w1 hb1
          have HB3 := Lib.hid (HB2.out.trans (hb1.mono (by omega)))
          clear k0 k1 k2 k3 hp hb1 HB2 HR q0 HCV
          go_wp2_with fail
          go_roundw
          case rel => exact ⟨i + 1, by rw [HU2.out], by go_num, by omega, HB3.out⟩
          case measure => simp [intOf]; omega
        · obtain ⟨k, rfl⟩ : ∃ k : Nat, K = (k : Int) := ⟨K.toNat, by omega⟩
          have hki : k < i := by have := HR.out; omega
          have hkn : (k : Int) < (n : Int) := by omega
          obtain ⟨y, hy⟩ := sl_put (l := l) (i := k) (by rw [HL.out]; omega)
          have q5 := HCV.out k y hy
          rw [Int.toNat_natCast, hy, Option.getD_some] at HU
          clear hy
          by_cases hst : xs < y.stamp
          · have HU2 : Hid (leastTo (fun x => !x.dirty) l (i + 1) = (i : Int)) := by show _ = _; rw [HU.out, if_pos ⟨hp, .inr hst⟩]
            clear HU
            refine wp_region_cls (by kernel_rfl) (by kernel_rfl) (fun w' => Below V.heap.size V w') (Below.refl _ V).drew ?_
            iterate 2 (refine ⟨?_, Or.inl ⟨by rfl, Or.inl fun W' hS' => ?_⟩, ?_⟩; rotate_left; (focus (have z0 := (hS'.cell (p := ⟨wr.heap.size, 0, none⟩) hsl).trans k0; have z1 := (hS'.cell (p := ⟨wr.heap.size, 1, none⟩) hsl).trans k1; have z2 := (hS'.cell (p := ⟨wr.heap.size, 2, none⟩) hsl).trans k2; have z3 := (hS'.cell (p := ⟨wr.heap.size, 3, none⟩) hsl).trans k3; have z4 := (hS'.cell (p := ⟨W.heap.size, 0, none⟩) hpl).trans q0; have z5 := (hS'.cell (p := ⟨b0, o + k * 4 + 3, none⟩) hbl2).trans q5; go_simp; with_reducible rfl)); simp only [Act.put, List.setIfInBounds_toArray, List.set_cons_zero, List.set_cons_succ])
            refine ⟨.bool true, Or.inl ⟨by rfl, Or.inr ⟨151, #[.agg #[.bool xv, .bool xd, .int .i64 xb, .int .i64 xs]], fun W' hS' => ⟨by go_simp, (victim2_any W' ⟨xv, xd, xb, xs⟩).mono fun e w2 h => ⟨by rw [h.1]; dsimp only; rw [hp], hS'.trans (h.2.mono hS'.size)⟩⟩⟩⟩, ?_⟩
            simp only [Act.put, List.setIfInBounds_toArray, List.set_cons_zero, List.set_cons_succ]
            iterate 15 (first | (refine ⟨_, Or.inr ⟨by rfl, rfl⟩, ?_⟩; simp only [Act.put, List.setIfInBounds_toArray, List.set_cons_zero, List.set_cons_succ]) | (refine ⟨?_, Or.inl ⟨by rfl, Or.inl fun W' hS' => ?_⟩, ?_⟩; rotate_left; (focus (have z0 := (hS'.cell (p := ⟨wr.heap.size, 0, none⟩) hsl).trans k0; have z1 := (hS'.cell (p := ⟨wr.heap.size, 1, none⟩) hsl).trans k1; have z2 := (hS'.cell (p := ⟨wr.heap.size, 2, none⟩) hsl).trans k2; have z3 := (hS'.cell (p := ⟨wr.heap.size, 3, none⟩) hsl).trans k3; have z4 := (hS'.cell (p := ⟨W.heap.size, 0, none⟩) hpl).trans q0; have z5 := (hS'.cell (p := ⟨b0, o + k * 4 + 3, none⟩) hbl2).trans q5; go_simp; with_reducible rfl)); simp only [Act.put, List.setIfInBounds_toArray, List.set_cons_zero, List.set_cons_succ]))
            intro w1 hb1
            have HB3 := Lib.hid (HB2.out.trans (hb1.mono (by omega)))
            clear k0 k1 k2 k3 hp hb1 HB2 HR q0 HCV
            go_wp2_with fail
            go_roundw
            case rel => exact ⟨i + 1, by rw [HU2.out], by go_num, by omega, HB3.out⟩
            case measure => simp [intOf]; omega
          · have HU2 : Hid (leastTo (fun x => !x.dirty) l (i + 1) = (k : Int)) := by show _ = _; rw [HU.out, if_neg (by intro h; rcases h.2 with h | h; exact hK0 h; exact hst h)]
            clear HU
            refine wp_region_cls (by kernel_rfl) (by kernel_rfl) (fun w' => Below V.heap.size V w') (Below.refl _ V).drew ?_
            iterate 2 (refine ⟨?_, Or.inl ⟨by rfl, Or.inl fun W' hS' => ?_⟩, ?_⟩; rotate_left; (focus (have z0 := (hS'.cell (p := ⟨wr.heap.size, 0, none⟩) hsl).trans k0; have z1 := (hS'.cell (p := ⟨wr.heap.size, 1, none⟩) hsl).trans k1; have z2 := (hS'.cell (p := ⟨wr.heap.size, 2, none⟩) hsl).trans k2; have z3 := (hS'.cell (p := ⟨wr.heap.size, 3, none⟩) hsl).trans k3; have z4 := (hS'.cell (p := ⟨W.heap.size, 0, none⟩) hpl).trans q0; have z5 := (hS'.cell (p := ⟨b0, o + k * 4 + 3, none⟩) hbl2).trans q5; go_simp; with_reducible rfl)); simp only [Act.put, List.setIfInBounds_toArray, List.set_cons_zero, List.set_cons_succ])
            refine ⟨.bool true, Or.inl ⟨by rfl, Or.inr ⟨151, #[.agg #[.bool xv, .bool xd, .int .i64 xb, .int .i64 xs]], fun W' hS' => ⟨by go_simp, (victim2_any W' ⟨xv, xd, xb, xs⟩).mono fun e w2 h => ⟨by rw [h.1]; dsimp only; rw [hp], hS'.trans (h.2.mono hS'.size)⟩⟩⟩⟩, ?_⟩
            simp only [Act.put, List.setIfInBounds_toArray, List.set_cons_zero, List.set_cons_succ]
            iterate 15 (first | (refine ⟨_, Or.inr ⟨by rfl, rfl⟩, ?_⟩; simp only [Act.put, List.setIfInBounds_toArray, List.set_cons_zero, List.set_cons_succ]) | (refine ⟨?_, Or.inl ⟨by rfl, Or.inl fun W' hS' => ?_⟩, ?_⟩; rotate_left; (focus (have z0 := (hS'.cell (p := ⟨wr.heap.size, 0, none⟩) hsl).trans k0; have z1 := (hS'.cell (p := ⟨wr.heap.size, 1, none⟩) hsl).trans k1; have z2 := (hS'.cell (p := ⟨wr.heap.size, 2, none⟩) hsl).trans k2; have z3 := (hS'.cell (p := ⟨wr.heap.size, 3, none⟩) hsl).trans k3; have z4 := (hS'.cell (p := ⟨W.heap.size, 0, none⟩) hpl).trans q0; have z5 := (hS'.cell (p := ⟨b0, o + k * 4 + 3, none⟩) hbl2).trans q5; go_simp; with_reducible rfl)); simp only [Act.put, List.setIfInBounds_toArray, List.set_cons_zero, List.set_cons_succ]))
            intro w1 hb1
            have HB3 := Lib.hid (HB2.out.trans (hb1.mono (by omega)))
            clear k0 k1 k2 k3 hp hb1 HB2 HR q0 HCV
            go_wp2_with fail
            go_roundw
            case rel => exact ⟨i + 1, by rw [HU2.out], by go_num, by omega, HB3.out⟩
            case measure => simp [intOf]; omega
    · have hin : i = n := by omega
      subst hin
      go_wp2_with fail
      go_ret
      exact ⟨by unfold least; rw [HL.out]; rfl, HB0.out⟩
set_option maxRecDepth 100000 in
set_option maxHeartbeats 8000000 in
theorem least3_any (W : World) (A B : Option Addr) (n c m d : Nat) (clk : Int) (l : List Sl) (hl : l.length = n) (hn : n ≤ 1000000) (hA : Reads W A (scs l)) :
    Calls Tryz.prog 125 #[csV A n c clk B m d, .func (.func 152) #[] #[]] W fun e w' => e = .returned (.int .i64 (least (fun _ => true) l)) ∧ Below W.heap.size W w' := by
  have HL := Lib.hid hl
  have HA := Lib.hid hA
  clear hl hA
  unfold csV
  go_enter Tryz.func125, Tryz.ntmps125
  go_wp2_with fail
  have hP := Cs.new W 58 #[.slice A n c, .int .i64 clk, .slice B m d]
  have hb1 : Below W.heap.size W (W.alloc (.cells #[.slice A n c, .int .i64 clk, .slice B m d] 58)) := (Below.refl _ W).alloc (Nat.le_refl _) _
  have hs1 : (W.alloc (.cells #[.slice A n c, .int .i64 clk, .slice B m d] 58)).heap.size = W.heap.size + 1 := by simp
  generalize W.alloc (.cells #[.slice A n c, .int .i64 clk, .slice B m d] 58) = W1 at *
  have HP := Lib.hid hP
  have HB1 := Lib.hid hb1
  have HS1 := Lib.hid hs1
  clear hP hb1 hs1
  go_loopw [5, 11] (fun y z wr => ∃ i : Nat, y = .int .i64 (leastTo (fun _ => true) l i) ∧ z = .int .i64 i ∧ i ≤ n ∧ Below (W.heap.size + 1) W1 wr) (fun _ z _ => n - (intOf z).toNat)
  case atStart => exact ⟨0, rfl, rfl, Nat.zero_le _, (Below.refl _ W1).mono (Nat.le_of_eq HS1.out.symm)⟩
  case round =>
    obtain ⟨i, rfl, rfl, hi, hbw⟩ := hrel
    have HBW := Lib.hid hbw
    have HB0 := Lib.hid (HB1.out.trans (hbw.mono (Nat.le_succ _)))
    have hPw := Cs.below HP.out hbw (by omega)
    have p0 := hPw.cell 0
    clear hbw hPw
    by_cases hlt : i < n
    · obtain ⟨x, hx⟩ := sl_put (l := l) (i := i) (by rw [HL.out]; exact hlt)
      have u1 : (i : Int) < (n : Int) := by omega
      obtain ⟨b0, o, rfl, hbl, hcs⟩ := scs_read (HA.out.keep HB0.out) (by rw [HL.out]; omega)
      obtain ⟨c0, c1, c2, c3⟩ := hcs i x hx
      have HX := Lib.hid hx
      have HCS := Lib.hid hcs
      have HR := Lib.hid (leastTo_range (fun _ => true) l i (by rw [HL.out]; exact hi))
      have HU := Lib.hid (leastTo_succ (fun _ => true) l i x hx)
      clear hcs hx
      have e1 : IntKind.i64.wrap ((i : Int) + 1) = ((i + 1 : Nat) : Int) := by rw [IntWalk.i64_in _ (by omega)]; rfl
      go_upto_region 5 with (fail)
      have hC := Cs.new wr 31 #[.bool x.valid, .bool x.dirty, .int .i64 x.block, .int .i64 x.stamp]
      have hbV : Below wr.heap.size wr (wr.alloc (.cells #[.bool x.valid, .bool x.dirty, .int .i64 x.block, .int .i64 x.stamp] 31)) := (Below.refl _ wr).alloc (Nat.le_refl _) _
      have hszV : (wr.alloc (.cells #[.bool x.valid, .bool x.dirty, .int .i64 x.block, .int .i64 x.stamp] 31)).heap.size = wr.heap.size + 1 := by simp
      have hw1 : W1.heap.size ≤ wr.heap.size := HBW.out.size
      have hsW := HS1.out
      have q0 := (hbV.cell (p := ⟨W.heap.size, 0, none⟩) (by show W.heap.size < _; omega)).trans p0
      have HCV : Hid (∀ (k : Nat) (y : Sl), l[k]? = some y → (wr.alloc (.cells #[.bool x.valid, .bool x.dirty, .int .i64 x.block, .int .i64 x.stamp] 31)).cell? ⟨b0, o + k * 4 + 3, none⟩ = some (.int .i64 y.stamp)) := fun k y hy => (hbV.cell (p := ⟨b0, o + k * 4 + 3, none⟩) hbl).trans (HCS.out k y hy).2.2.2
      have HB2 : Hid (Below (W.heap.size + 1) W1 (wr.alloc (.cells #[.bool x.valid, .bool x.dirty, .int .i64 x.block, .int .i64 x.stamp] 31))) := HBW.out.trans (hbV.mono (by omega))
      have hpl : W.heap.size < (wr.alloc (.cells #[.bool x.valid, .bool x.dirty, .int .i64 x.block, .int .i64 x.stamp] 31)).heap.size := by omega
      have hbl2 : b0 < (wr.alloc (.cells #[.bool x.valid, .bool x.dirty, .int .i64 x.block, .int .i64 x.stamp] 31)).heap.size := by omega
      have hsl : wr.heap.size < (wr.alloc (.cells #[.bool x.valid, .bool x.dirty, .int .i64 x.block, .int .i64 x.stamp] 31)).heap.size := by omega
      clear c0 c1 c2 c3 p0 hbV HCS HBW HB0 hszV
      generalize wr.alloc (.cells #[.bool x.valid, .bool x.dirty, .int .i64 x.block, .int .i64 x.stamp] 31) = V at *
      obtain ⟨K, hK⟩ : ∃ K, leastTo (fun _ => true) l i = K := ⟨_, rfl⟩
      rw [hK] at HR HU ⊢
      clear hK
      obtain ⟨xv, xd, xb, xs⟩ := x
      dsimp only at hC HU
      have k0 : V.cell? ⟨wr.heap.size, 0, none⟩ = some (.bool xv) := hC.cell 0
      have k1 : V.cell? ⟨wr.heap.size, 1, none⟩ = some (.bool xd) := hC.cell 1
      have k2 : V.cell? ⟨wr.heap.size, 2, none⟩ = some (.int .i64 xb) := hC.cell 2
      have k3 : V.cell? ⟨wr.heap.size, 3, none⟩ = some (.int .i64 xs) := hC.cell 3
      clear hC
      · by_cases hK0 : K < 0
        · have HU2 : Hid (leastTo (fun _ => true) l (i + 1) = (i : Int)) := by show _ = _; rw [HU.out, if_pos ⟨rfl, .inl hK0⟩]
          clear HU
          refine wp_region_cls (by kernel_rfl) (by kernel_rfl) (fun w' => Below V.heap.size V w') (Below.refl _ V).drew ?_
          iterate 2 (refine ⟨?_, Or.inl ⟨by rfl, Or.inl fun W' hS' => ?_⟩, ?_⟩; rotate_left; (focus (have z0 := (hS'.cell (p := ⟨wr.heap.size, 0, none⟩) hsl).trans k0; have z1 := (hS'.cell (p := ⟨wr.heap.size, 1, none⟩) hsl).trans k1; have z2 := (hS'.cell (p := ⟨wr.heap.size, 2, none⟩) hsl).trans k2; have z3 := (hS'.cell (p := ⟨wr.heap.size, 3, none⟩) hsl).trans k3; have z4 := (hS'.cell (p := ⟨W.heap.size, 0, none⟩) hpl).trans q0; go_simp; with_reducible rfl)); simp only [Act.put, List.setIfInBounds_toArray, List.set_cons_zero, List.set_cons_succ])
          refine ⟨.bool true, Or.inl ⟨by rfl, Or.inr ⟨152, #[.agg #[.bool xv, .bool xd, .int .i64 xb, .int .i64 xs]], fun W' hS' => ⟨by go_simp, (victim3_any W' ⟨xv, xd, xb, xs⟩).mono fun e w2 h => ⟨by rw [h.1], hS'.trans (h.2.mono hS'.size)⟩⟩⟩⟩, ?_⟩
          simp only [Act.put, List.setIfInBounds_toArray, List.set_cons_zero, List.set_cons_succ]
          iterate 15 (first | (refine ⟨_, Or.inr ⟨by rfl, rfl⟩, ?_⟩; simp only [Act.put, List.setIfInBounds_toArray, List.set_cons_zero, List.set_cons_succ]) | (refine ⟨?_, Or.inl ⟨by rfl, Or.inl fun W' hS' => ?_⟩, ?_⟩; rotate_left; (focus (have z0 := (hS'.cell (p := ⟨wr.heap.size, 0, none⟩) hsl).trans k0; have z1 := (hS'.cell (p := ⟨wr.heap.size, 1, none⟩) hsl).trans k1; have z2 := (hS'.cell (p := ⟨wr.heap.size, 2, none⟩) hsl).trans k2; have z3 := (hS'.cell (p := ⟨wr.heap.size, 3, none⟩) hsl).trans k3; have z4 := (hS'.cell (p := ⟨W.heap.size, 0, none⟩) hpl).trans q0; go_simp; with_reducible rfl)); simp only [Act.put, List.setIfInBounds_toArray, List.set_cons_zero, List.set_cons_succ]))
          intro w1 hb1
          have HB3 := Lib.hid (HB2.out.trans (hb1.mono (by omega)))
          clear k0 k1 k2 k3 hb1 HB2 HR q0 HCV
          go_wp2_with fail
          go_roundw
          case rel => exact ⟨i + 1, by rw [HU2.out], by go_num, by omega, HB3.out⟩
          case measure => simp [intOf]; omega
        · obtain ⟨k, rfl⟩ : ∃ k : Nat, K = (k : Int) := ⟨K.toNat, by omega⟩
          have hki : k < i := by have := HR.out; omega
          have hkn : (k : Int) < (n : Int) := by omega
          obtain ⟨y, hy⟩ := sl_put (l := l) (i := k) (by rw [HL.out]; omega)
          have q5 := HCV.out k y hy
          rw [Int.toNat_natCast, hy, Option.getD_some] at HU
          clear hy
          by_cases hst : xs < y.stamp
          · have HU2 : Hid (leastTo (fun _ => true) l (i + 1) = (i : Int)) := by show _ = _; rw [HU.out, if_pos ⟨rfl, .inr hst⟩]
            clear HU
            refine wp_region_cls (by kernel_rfl) (by kernel_rfl) (fun w' => Below V.heap.size V w') (Below.refl _ V).drew ?_
            iterate 2 (refine ⟨?_, Or.inl ⟨by rfl, Or.inl fun W' hS' => ?_⟩, ?_⟩; rotate_left; (focus (have z0 := (hS'.cell (p := ⟨wr.heap.size, 0, none⟩) hsl).trans k0; have z1 := (hS'.cell (p := ⟨wr.heap.size, 1, none⟩) hsl).trans k1; have z2 := (hS'.cell (p := ⟨wr.heap.size, 2, none⟩) hsl).trans k2; have z3 := (hS'.cell (p := ⟨wr.heap.size, 3, none⟩) hsl).trans k3; have z4 := (hS'.cell (p := ⟨W.heap.size, 0, none⟩) hpl).trans q0; have z5 := (hS'.cell (p := ⟨b0, o + k * 4 + 3, none⟩) hbl2).trans q5; go_simp; with_reducible rfl)); simp only [Act.put, List.setIfInBounds_toArray, List.set_cons_zero, List.set_cons_succ])
            refine ⟨.bool true, Or.inl ⟨by rfl, Or.inr ⟨152, #[.agg #[.bool xv, .bool xd, .int .i64 xb, .int .i64 xs]], fun W' hS' => ⟨by go_simp, (victim3_any W' ⟨xv, xd, xb, xs⟩).mono fun e w2 h => ⟨by rw [h.1], hS'.trans (h.2.mono hS'.size)⟩⟩⟩⟩, ?_⟩
            simp only [Act.put, List.setIfInBounds_toArray, List.set_cons_zero, List.set_cons_succ]
            iterate 15 (first | (refine ⟨_, Or.inr ⟨by rfl, rfl⟩, ?_⟩; simp only [Act.put, List.setIfInBounds_toArray, List.set_cons_zero, List.set_cons_succ]) | (refine ⟨?_, Or.inl ⟨by rfl, Or.inl fun W' hS' => ?_⟩, ?_⟩; rotate_left; (focus (have z0 := (hS'.cell (p := ⟨wr.heap.size, 0, none⟩) hsl).trans k0; have z1 := (hS'.cell (p := ⟨wr.heap.size, 1, none⟩) hsl).trans k1; have z2 := (hS'.cell (p := ⟨wr.heap.size, 2, none⟩) hsl).trans k2; have z3 := (hS'.cell (p := ⟨wr.heap.size, 3, none⟩) hsl).trans k3; have z4 := (hS'.cell (p := ⟨W.heap.size, 0, none⟩) hpl).trans q0; have z5 := (hS'.cell (p := ⟨b0, o + k * 4 + 3, none⟩) hbl2).trans q5; go_simp; with_reducible rfl)); simp only [Act.put, List.setIfInBounds_toArray, List.set_cons_zero, List.set_cons_succ]))
            intro w1 hb1
            have HB3 := Lib.hid (HB2.out.trans (hb1.mono (by omega)))
            clear k0 k1 k2 k3 hb1 HB2 HR q0 HCV
            go_wp2_with fail
            go_roundw
            case rel => exact ⟨i + 1, by rw [HU2.out], by go_num, by omega, HB3.out⟩
            case measure => simp [intOf]; omega
          · have HU2 : Hid (leastTo (fun _ => true) l (i + 1) = (k : Int)) := by show _ = _; rw [HU.out, if_neg (by intro h; rcases h.2 with h | h; exact hK0 h; exact hst h)]
            clear HU
            refine wp_region_cls (by kernel_rfl) (by kernel_rfl) (fun w' => Below V.heap.size V w') (Below.refl _ V).drew ?_
            iterate 2 (refine ⟨?_, Or.inl ⟨by rfl, Or.inl fun W' hS' => ?_⟩, ?_⟩; rotate_left; (focus (have z0 := (hS'.cell (p := ⟨wr.heap.size, 0, none⟩) hsl).trans k0; have z1 := (hS'.cell (p := ⟨wr.heap.size, 1, none⟩) hsl).trans k1; have z2 := (hS'.cell (p := ⟨wr.heap.size, 2, none⟩) hsl).trans k2; have z3 := (hS'.cell (p := ⟨wr.heap.size, 3, none⟩) hsl).trans k3; have z4 := (hS'.cell (p := ⟨W.heap.size, 0, none⟩) hpl).trans q0; have z5 := (hS'.cell (p := ⟨b0, o + k * 4 + 3, none⟩) hbl2).trans q5; go_simp; with_reducible rfl)); simp only [Act.put, List.setIfInBounds_toArray, List.set_cons_zero, List.set_cons_succ])
            refine ⟨.bool true, Or.inl ⟨by rfl, Or.inr ⟨152, #[.agg #[.bool xv, .bool xd, .int .i64 xb, .int .i64 xs]], fun W' hS' => ⟨by go_simp, (victim3_any W' ⟨xv, xd, xb, xs⟩).mono fun e w2 h => ⟨by rw [h.1], hS'.trans (h.2.mono hS'.size)⟩⟩⟩⟩, ?_⟩
            simp only [Act.put, List.setIfInBounds_toArray, List.set_cons_zero, List.set_cons_succ]
            iterate 15 (first | (refine ⟨_, Or.inr ⟨by rfl, rfl⟩, ?_⟩; simp only [Act.put, List.setIfInBounds_toArray, List.set_cons_zero, List.set_cons_succ]) | (refine ⟨?_, Or.inl ⟨by rfl, Or.inl fun W' hS' => ?_⟩, ?_⟩; rotate_left; (focus (have z0 := (hS'.cell (p := ⟨wr.heap.size, 0, none⟩) hsl).trans k0; have z1 := (hS'.cell (p := ⟨wr.heap.size, 1, none⟩) hsl).trans k1; have z2 := (hS'.cell (p := ⟨wr.heap.size, 2, none⟩) hsl).trans k2; have z3 := (hS'.cell (p := ⟨wr.heap.size, 3, none⟩) hsl).trans k3; have z4 := (hS'.cell (p := ⟨W.heap.size, 0, none⟩) hpl).trans q0; have z5 := (hS'.cell (p := ⟨b0, o + k * 4 + 3, none⟩) hbl2).trans q5; go_simp; with_reducible rfl)); simp only [Act.put, List.setIfInBounds_toArray, List.set_cons_zero, List.set_cons_succ]))
            intro w1 hb1
            have HB3 := Lib.hid (HB2.out.trans (hb1.mono (by omega)))
            clear k0 k1 k2 k3 hb1 HB2 HR q0 HCV
            go_wp2_with fail
            go_roundw
            case rel => exact ⟨i + 1, by rw [HU2.out], by go_num, by omega, HB3.out⟩
            case measure => simp [intOf]; omega
    · have hin : i = n := by omega
      subst hin
      go_wp2_with fail
      go_ret
      exact ⟨by unfold least; rw [HL.out]; rfl, HB0.out⟩
set_option maxRecDepth 100000 in
set_option maxHeartbeats 8000000 in
theorem leasto_any (W : World) (A B : Option Addr) (n c m d : Nat) (clk : Int) (l : List Sl) (hl : l.length = n) (hn : n ≤ 1000000) (hA : Reads W A (scs l)) :
    Calls Tryz.prog 125 #[csV A n c clk B m d, .func (.func 126) #[] #[]] W fun e w' => e = .returned (.int .i64 (least (fun x => x.dirty) l)) ∧ Below W.heap.size W w' := by
  have HL := Lib.hid hl
  have HA := Lib.hid hA
  clear hl hA
  unfold csV
  go_enter Tryz.func125, Tryz.ntmps125
  go_wp2_with fail
  have hP := Cs.new W 58 #[.slice A n c, .int .i64 clk, .slice B m d]
  have hb1 : Below W.heap.size W (W.alloc (.cells #[.slice A n c, .int .i64 clk, .slice B m d] 58)) := (Below.refl _ W).alloc (Nat.le_refl _) _
  have hs1 : (W.alloc (.cells #[.slice A n c, .int .i64 clk, .slice B m d] 58)).heap.size = W.heap.size + 1 := by simp
  generalize W.alloc (.cells #[.slice A n c, .int .i64 clk, .slice B m d] 58) = W1 at *
  have HP := Lib.hid hP
  have HB1 := Lib.hid hb1
  have HS1 := Lib.hid hs1
  clear hP hb1 hs1
  go_loopw [5, 11] (fun y z wr => ∃ i : Nat, y = .int .i64 (leastTo (fun x => x.dirty) l i) ∧ z = .int .i64 i ∧ i ≤ n ∧ Below (W.heap.size + 1) W1 wr) (fun _ z _ => n - (intOf z).toNat)
  case atStart => exact ⟨0, rfl, rfl, Nat.zero_le _, (Below.refl _ W1).mono (Nat.le_of_eq HS1.out.symm)⟩
  case round =>
    obtain ⟨i, rfl, rfl, hi, hbw⟩ := hrel
    have HBW := Lib.hid hbw
    have HB0 := Lib.hid (HB1.out.trans (hbw.mono (Nat.le_succ _)))
    have hPw := Cs.below HP.out hbw (by omega)
    have p0 := hPw.cell 0
    clear hbw hPw
    by_cases hlt : i < n
    · obtain ⟨x, hx⟩ := sl_put (l := l) (i := i) (by rw [HL.out]; exact hlt)
      have u1 : (i : Int) < (n : Int) := by omega
      obtain ⟨b0, o, rfl, hbl, hcs⟩ := scs_read (HA.out.keep HB0.out) (by rw [HL.out]; omega)
      obtain ⟨c0, c1, c2, c3⟩ := hcs i x hx
      have HX := Lib.hid hx
      have HCS := Lib.hid hcs
      have HR := Lib.hid (leastTo_range (fun x => x.dirty) l i (by rw [HL.out]; exact hi))
      have HU := Lib.hid (leastTo_succ (fun x => x.dirty) l i x hx)
      clear hcs hx
      have e1 : IntKind.i64.wrap ((i : Int) + 1) = ((i + 1 : Nat) : Int) := by rw [IntWalk.i64_in _ (by omega)]; rfl
      go_upto_region 5 with (fail)
      have hC := Cs.new wr 31 #[.bool x.valid, .bool x.dirty, .int .i64 x.block, .int .i64 x.stamp]
      have hbV : Below wr.heap.size wr (wr.alloc (.cells #[.bool x.valid, .bool x.dirty, .int .i64 x.block, .int .i64 x.stamp] 31)) := (Below.refl _ wr).alloc (Nat.le_refl _) _
      have hszV : (wr.alloc (.cells #[.bool x.valid, .bool x.dirty, .int .i64 x.block, .int .i64 x.stamp] 31)).heap.size = wr.heap.size + 1 := by simp
      have hw1 : W1.heap.size ≤ wr.heap.size := HBW.out.size
      have hsW := HS1.out
      have q0 := (hbV.cell (p := ⟨W.heap.size, 0, none⟩) (by show W.heap.size < _; omega)).trans p0
      have HCV : Hid (∀ (k : Nat) (y : Sl), l[k]? = some y → (wr.alloc (.cells #[.bool x.valid, .bool x.dirty, .int .i64 x.block, .int .i64 x.stamp] 31)).cell? ⟨b0, o + k * 4 + 3, none⟩ = some (.int .i64 y.stamp)) := fun k y hy => (hbV.cell (p := ⟨b0, o + k * 4 + 3, none⟩) hbl).trans (HCS.out k y hy).2.2.2
      have HB2 : Hid (Below (W.heap.size + 1) W1 (wr.alloc (.cells #[.bool x.valid, .bool x.dirty, .int .i64 x.block, .int .i64 x.stamp] 31))) := HBW.out.trans (hbV.mono (by omega))
      have hpl : W.heap.size < (wr.alloc (.cells #[.bool x.valid, .bool x.dirty, .int .i64 x.block, .int .i64 x.stamp] 31)).heap.size := by omega
      have hbl2 : b0 < (wr.alloc (.cells #[.bool x.valid, .bool x.dirty, .int .i64 x.block, .int .i64 x.stamp] 31)).heap.size := by omega
      have hsl : wr.heap.size < (wr.alloc (.cells #[.bool x.valid, .bool x.dirty, .int .i64 x.block, .int .i64 x.stamp] 31)).heap.size := by omega
      clear c0 c1 c2 c3 p0 hbV HCS HBW HB0 hszV
      generalize wr.alloc (.cells #[.bool x.valid, .bool x.dirty, .int .i64 x.block, .int .i64 x.stamp] 31) = V at *
      obtain ⟨K, hK⟩ : ∃ K, leastTo (fun x => x.dirty) l i = K := ⟨_, rfl⟩
      rw [hK] at HR HU ⊢
      clear hK
      obtain ⟨xv, xd, xb, xs⟩ := x
      dsimp only at hC HU
      have k0 : V.cell? ⟨wr.heap.size, 0, none⟩ = some (.bool xv) := hC.cell 0
      have k1 : V.cell? ⟨wr.heap.size, 1, none⟩ = some (.bool xd) := hC.cell 1
      have k2 : V.cell? ⟨wr.heap.size, 2, none⟩ = some (.int .i64 xb) := hC.cell 2
      have k3 : V.cell? ⟨wr.heap.size, 3, none⟩ = some (.int .i64 xs) := hC.cell 3
      clear hC
      rcases hp : xd with _ | _
      · have HU2 : Hid (leastTo (fun x => x.dirty) l (i + 1) = K) := by show _ = _; rw [HU.out, if_neg (by intro h; have h1 := h.1; simp only [hp] at h1; cases h1)]
        clear HU
        refine wp_region_cls (by kernel_rfl) (by kernel_rfl) (fun w' => Below V.heap.size V w') (Below.refl _ V).drew ?_
        iterate 2 (refine ⟨?_, Or.inl ⟨by rfl, Or.inl fun W' hS' => ?_⟩, ?_⟩; rotate_left; (focus (have z0 := (hS'.cell (p := ⟨wr.heap.size, 0, none⟩) hsl).trans k0; have z1 := (hS'.cell (p := ⟨wr.heap.size, 1, none⟩) hsl).trans k1; have z2 := (hS'.cell (p := ⟨wr.heap.size, 2, none⟩) hsl).trans k2; have z3 := (hS'.cell (p := ⟨wr.heap.size, 3, none⟩) hsl).trans k3; have z4 := (hS'.cell (p := ⟨W.heap.size, 0, none⟩) hpl).trans q0; go_simp; with_reducible rfl)); simp only [Act.put, List.setIfInBounds_toArray, List.set_cons_zero, List.set_cons_succ])
        refine ⟨.bool false, Or.inl ⟨by rfl, Or.inr ⟨126, #[.agg #[.bool xv, .bool xd, .int .i64 xb, .int .i64 xs]], fun W' hS' => ⟨by go_simp, (oldest1_any W' ⟨xv, xd, xb, xs⟩).mono fun e w2 h => ⟨by rw [h.1]; dsimp only; rw [hp], hS'.trans (h.2.mono hS'.size)⟩⟩⟩⟩, ?_⟩
        simp only [Act.put, List.setIfInBounds_toArray, List.set_cons_zero, List.set_cons_succ]
        iterate 15 (first | (refine ⟨_, Or.inr ⟨by rfl, rfl⟩, ?_⟩; simp only [Act.put, List.setIfInBounds_toArray, List.set_cons_zero, List.set_cons_succ]) | (refine ⟨?_, Or.inl ⟨by rfl, Or.inl fun W' hS' => ?_⟩, ?_⟩; rotate_left; (focus (have z0 := (hS'.cell (p := ⟨wr.heap.size, 0, none⟩) hsl).trans k0; have z1 := (hS'.cell (p := ⟨wr.heap.size, 1, none⟩) hsl).trans k1; have z2 := (hS'.cell (p := ⟨wr.heap.size, 2, none⟩) hsl).trans k2; have z3 := (hS'.cell (p := ⟨wr.heap.size, 3, none⟩) hsl).trans k3; have z4 := (hS'.cell (p := ⟨W.heap.size, 0, none⟩) hpl).trans q0; go_simp; with_reducible rfl)); simp only [Act.put, List.setIfInBounds_toArray, List.set_cons_zero, List.set_cons_succ]))
        intro w1 hb1
        have HB3 := Lib.hid (HB2.out.trans (hb1.mono (by omega)))
        clear k0 k1 k2 k3 hp hb1 HB2 HR q0 HCV
        go_wp2_with fail
        go_roundw
        case rel => exact ⟨i + 1, by rw [HU2.out], by go_num, by omega, HB3.out⟩
        case measure => simp [intOf]; omega
      · by_cases hK0 : K < 0
        · have HU2 : Hid (leastTo (fun x => x.dirty) l (i + 1) = (i : Int)) := by show _ = _; rw [HU.out, if_pos ⟨hp, .inl hK0⟩]
          clear HU
          refine wp_region_cls (by kernel_rfl) (by kernel_rfl) (fun w' => Below V.heap.size V w') (Below.refl _ V).drew ?_
          iterate 2 (refine ⟨?_, Or.inl ⟨by rfl, Or.inl fun W' hS' => ?_⟩, ?_⟩; rotate_left; (focus (have z0 := (hS'.cell (p := ⟨wr.heap.size, 0, none⟩) hsl).trans k0; have z1 := (hS'.cell (p := ⟨wr.heap.size, 1, none⟩) hsl).trans k1; have z2 := (hS'.cell (p := ⟨wr.heap.size, 2, none⟩) hsl).trans k2; have z3 := (hS'.cell (p := ⟨wr.heap.size, 3, none⟩) hsl).trans k3; have z4 := (hS'.cell (p := ⟨W.heap.size, 0, none⟩) hpl).trans q0; go_simp; with_reducible rfl)); simp only [Act.put, List.setIfInBounds_toArray, List.set_cons_zero, List.set_cons_succ])
          refine ⟨.bool true, Or.inl ⟨by rfl, Or.inr ⟨126, #[.agg #[.bool xv, .bool xd, .int .i64 xb, .int .i64 xs]], fun W' hS' => ⟨by go_simp, (oldest1_any W' ⟨xv, xd, xb, xs⟩).mono fun e w2 h => ⟨by rw [h.1]; dsimp only; rw [hp], hS'.trans (h.2.mono hS'.size)⟩⟩⟩⟩, ?_⟩
          simp only [Act.put, List.setIfInBounds_toArray, List.set_cons_zero, List.set_cons_succ]
          iterate 15 (first | (refine ⟨_, Or.inr ⟨by rfl, rfl⟩, ?_⟩; simp only [Act.put, List.setIfInBounds_toArray, List.set_cons_zero, List.set_cons_succ]) | (refine ⟨?_, Or.inl ⟨by rfl, Or.inl fun W' hS' => ?_⟩, ?_⟩; rotate_left; (focus (have z0 := (hS'.cell (p := ⟨wr.heap.size, 0, none⟩) hsl).trans k0; have z1 := (hS'.cell (p := ⟨wr.heap.size, 1, none⟩) hsl).trans k1; have z2 := (hS'.cell (p := ⟨wr.heap.size, 2, none⟩) hsl).trans k2; have z3 := (hS'.cell (p := ⟨wr.heap.size, 3, none⟩) hsl).trans k3; have z4 := (hS'.cell (p := ⟨W.heap.size, 0, none⟩) hpl).trans q0; go_simp; with_reducible rfl)); simp only [Act.put, List.setIfInBounds_toArray, List.set_cons_zero, List.set_cons_succ]))
          intro w1 hb1
          have HB3 := Lib.hid (HB2.out.trans (hb1.mono (by omega)))
          clear k0 k1 k2 k3 hp hb1 HB2 HR q0 HCV
          go_wp2_with fail
          go_roundw
          case rel => exact ⟨i + 1, by rw [HU2.out], by go_num, by omega, HB3.out⟩
          case measure => simp [intOf]; omega
        · obtain ⟨k, rfl⟩ : ∃ k : Nat, K = (k : Int) := ⟨K.toNat, by omega⟩
          have hki : k < i := by have := HR.out; omega
          have hkn : (k : Int) < (n : Int) := by omega
          obtain ⟨y, hy⟩ := sl_put (l := l) (i := k) (by rw [HL.out]; omega)
          have q5 := HCV.out k y hy
          rw [Int.toNat_natCast, hy, Option.getD_some] at HU
          clear hy
          by_cases hst : xs < y.stamp
          · have HU2 : Hid (leastTo (fun x => x.dirty) l (i + 1) = (i : Int)) := by show _ = _; rw [HU.out, if_pos ⟨hp, .inr hst⟩]
            clear HU
            refine wp_region_cls (by kernel_rfl) (by kernel_rfl) (fun w' => Below V.heap.size V w') (Below.refl _ V).drew ?_
            iterate 2 (refine ⟨?_, Or.inl ⟨by rfl, Or.inl fun W' hS' => ?_⟩, ?_⟩; rotate_left; (focus (have z0 := (hS'.cell (p := ⟨wr.heap.size, 0, none⟩) hsl).trans k0; have z1 := (hS'.cell (p := ⟨wr.heap.size, 1, none⟩) hsl).trans k1; have z2 := (hS'.cell (p := ⟨wr.heap.size, 2, none⟩) hsl).trans k2; have z3 := (hS'.cell (p := ⟨wr.heap.size, 3, none⟩) hsl).trans k3; have z4 := (hS'.cell (p := ⟨W.heap.size, 0, none⟩) hpl).trans q0; have z5 := (hS'.cell (p := ⟨b0, o + k * 4 + 3, none⟩) hbl2).trans q5; go_simp; with_reducible rfl)); simp only [Act.put, List.setIfInBounds_toArray, List.set_cons_zero, List.set_cons_succ])
            refine ⟨.bool true, Or.inl ⟨by rfl, Or.inr ⟨126, #[.agg #[.bool xv, .bool xd, .int .i64 xb, .int .i64 xs]], fun W' hS' => ⟨by go_simp, (oldest1_any W' ⟨xv, xd, xb, xs⟩).mono fun e w2 h => ⟨by rw [h.1]; dsimp only; rw [hp], hS'.trans (h.2.mono hS'.size)⟩⟩⟩⟩, ?_⟩
            simp only [Act.put, List.setIfInBounds_toArray, List.set_cons_zero, List.set_cons_succ]
            iterate 15 (first | (refine ⟨_, Or.inr ⟨by rfl, rfl⟩, ?_⟩; simp only [Act.put, List.setIfInBounds_toArray, List.set_cons_zero, List.set_cons_succ]) | (refine ⟨?_, Or.inl ⟨by rfl, Or.inl fun W' hS' => ?_⟩, ?_⟩; rotate_left; (focus (have z0 := (hS'.cell (p := ⟨wr.heap.size, 0, none⟩) hsl).trans k0; have z1 := (hS'.cell (p := ⟨wr.heap.size, 1, none⟩) hsl).trans k1; have z2 := (hS'.cell (p := ⟨wr.heap.size, 2, none⟩) hsl).trans k2; have z3 := (hS'.cell (p := ⟨wr.heap.size, 3, none⟩) hsl).trans k3; have z4 := (hS'.cell (p := ⟨W.heap.size, 0, none⟩) hpl).trans q0; have z5 := (hS'.cell (p := ⟨b0, o + k * 4 + 3, none⟩) hbl2).trans q5; go_simp; with_reducible rfl)); simp only [Act.put, List.setIfInBounds_toArray, List.set_cons_zero, List.set_cons_succ]))
            intro w1 hb1
            have HB3 := Lib.hid (HB2.out.trans (hb1.mono (by omega)))
            clear k0 k1 k2 k3 hp hb1 HB2 HR q0 HCV
            go_wp2_with fail
            go_roundw
            case rel => exact ⟨i + 1, by rw [HU2.out], by go_num, by omega, HB3.out⟩
            case measure => simp [intOf]; omega
          · have HU2 : Hid (leastTo (fun x => x.dirty) l (i + 1) = (k : Int)) := by show _ = _; rw [HU.out, if_neg (by intro h; rcases h.2 with h | h; exact hK0 h; exact hst h)]
            clear HU
            refine wp_region_cls (by kernel_rfl) (by kernel_rfl) (fun w' => Below V.heap.size V w') (Below.refl _ V).drew ?_
            iterate 2 (refine ⟨?_, Or.inl ⟨by rfl, Or.inl fun W' hS' => ?_⟩, ?_⟩; rotate_left; (focus (have z0 := (hS'.cell (p := ⟨wr.heap.size, 0, none⟩) hsl).trans k0; have z1 := (hS'.cell (p := ⟨wr.heap.size, 1, none⟩) hsl).trans k1; have z2 := (hS'.cell (p := ⟨wr.heap.size, 2, none⟩) hsl).trans k2; have z3 := (hS'.cell (p := ⟨wr.heap.size, 3, none⟩) hsl).trans k3; have z4 := (hS'.cell (p := ⟨W.heap.size, 0, none⟩) hpl).trans q0; have z5 := (hS'.cell (p := ⟨b0, o + k * 4 + 3, none⟩) hbl2).trans q5; go_simp; with_reducible rfl)); simp only [Act.put, List.setIfInBounds_toArray, List.set_cons_zero, List.set_cons_succ])
            refine ⟨.bool true, Or.inl ⟨by rfl, Or.inr ⟨126, #[.agg #[.bool xv, .bool xd, .int .i64 xb, .int .i64 xs]], fun W' hS' => ⟨by go_simp, (oldest1_any W' ⟨xv, xd, xb, xs⟩).mono fun e w2 h => ⟨by rw [h.1]; dsimp only; rw [hp], hS'.trans (h.2.mono hS'.size)⟩⟩⟩⟩, ?_⟩
            simp only [Act.put, List.setIfInBounds_toArray, List.set_cons_zero, List.set_cons_succ]
            iterate 15 (first | (refine ⟨_, Or.inr ⟨by rfl, rfl⟩, ?_⟩; simp only [Act.put, List.setIfInBounds_toArray, List.set_cons_zero, List.set_cons_succ]) | (refine ⟨?_, Or.inl ⟨by rfl, Or.inl fun W' hS' => ?_⟩, ?_⟩; rotate_left; (focus (have z0 := (hS'.cell (p := ⟨wr.heap.size, 0, none⟩) hsl).trans k0; have z1 := (hS'.cell (p := ⟨wr.heap.size, 1, none⟩) hsl).trans k1; have z2 := (hS'.cell (p := ⟨wr.heap.size, 2, none⟩) hsl).trans k2; have z3 := (hS'.cell (p := ⟨wr.heap.size, 3, none⟩) hsl).trans k3; have z4 := (hS'.cell (p := ⟨W.heap.size, 0, none⟩) hpl).trans q0; have z5 := (hS'.cell (p := ⟨b0, o + k * 4 + 3, none⟩) hbl2).trans q5; go_simp; with_reducible rfl)); simp only [Act.put, List.setIfInBounds_toArray, List.set_cons_zero, List.set_cons_succ]))
            intro w1 hb1
            have HB3 := Lib.hid (HB2.out.trans (hb1.mono (by omega)))
            clear k0 k1 k2 k3 hp hb1 HB2 HR q0 HCV
            go_wp2_with fail
            go_roundw
            case rel => exact ⟨i + 1, by rw [HU2.out], by go_num, by omega, HB3.out⟩
            case measure => simp [intOf]; omega
    · have hin : i = n := by omega
      subst hin
      go_wp2_with fail
      go_ret
      exact ⟨by unfold least; rw [HL.out]; rfl, HB0.out⟩
end Go.Proofs.YtogchafnnkajfaaGreat
namespace Go.Proofs.YtogchafnnkajfaaGreat
set_option linter.unusedVariables false
open Go.RowKit Go.Shelf
variable {P : Program}
theorem run_copyS (w : World) (dT sT ty elem : TypeId) (size : Nat) (g o dLen dCap : Nat) (a : Addr) (sLen sCap : Nat) (cur : List Value) (t : TypeId) (cs : List Value)
    (hu : P.underlying dT = some (.slice elem)) (hs : (P.info? elem).map (·.size) = some size)
    (hg : Cs w g t cur.toArray) (hn : cs.length = Nat.min sLen dLen * size)
    (hsrc : ∀ j v, cs[j]? = some v → w.cell? (a.add j) = some v) (hfit : o + cs.length ≤ cur.length) (h1 : ∀ v ∈ cs, v.oneCell' = true) :
    (Builtin.copy_ #[dT, sT] ty #[.slice (some ⟨g, o, none⟩) dLen dCap, .slice (some a) sLen sCap]).run P w =
      .ok (goInt (Nat.min sLen dLen)) (w.setRow g (splice cur o cs).toArray) := by
  have hl := run_loadCells_list (P := P) w a cs hsrc
  have hst := run_storeCells_at P g o t cs 0 cur.toArray w hg (by simpa using hfit) h1
  cases hq : P.info? elem with
  | none => simp [hq] at hs
  | some i =>
    have hi : i.size = size := by simpa [hq] using hs
    rw [hn] at hl
    simp [Builtin.copy_, run_underlying hu, Builtin.lenOf, Builtin.firstCells, sizeOf, typeInfo, hq, hi, hl, hst, splice]
theorem wpList_copyS {w : World} {ops : Array Oper} {rest : List Oper} {o : Oper} {a : Act} {Q : Exit → Act → World → Prop} (hgd : o.guard = none) (d s : Operand) (dT sT : TypeId)
    (ho : o.op = .call { callee := .builtin .copy, args := #[d, s], argTypes := #[dT, sT] }) (elem : TypeId) (size : Nat) (hu : P.underlying dT = some (.slice elem)) (hsz : (P.info? elem).map (·.size) = some size)
    (g off dLen dCap : Nat) (ad : Addr) (sLen sCap : Nat) (hd : a.eval d = .slice (some ⟨g, off, none⟩) dLen dCap) (hs : a.eval s = .slice (some ad) sLen sCap)
    (cur : List Value) (t : TypeId) (hg : Cs w g t cur.toArray) (cs : List Value) (hn : cs.length = Nat.min sLen dLen * size)
    (hsrc : ∀ j v, cs[j]? = some v → w.cell? (ad.add j) = some v) (hfit : off + cs.length ≤ cur.length) (h1 : ∀ v ∈ cs, v.oneCell' = true)
    (B : Nat) (w0 : World) (hb : Below B w0 w) (hBg : B ≤ g)
    (h : ∀ w', Cs w' g t (splice cur off cs).toArray → Below B w0 w' → (∀ k, k ≠ g → w'.heap[k]? = w.heap[k]?) → wpList P ops Q rest (a.put o.dst (goInt (Nat.min sLen dLen))) w') : wpList P ops Q (o :: rest) a w := by
  refine wpList_plain hgd fun K hK => ?_
  have hrun := run_copyS (P := P) w dT sT o.type elem size g off dLen dCap ad sLen sCap cur t cs hu hsz hg hn hsrc hfit h1
  unfold Oper.wp
  simp only [execOp, ho, resolve, invoke, builtin, Sem.run_bind, Sem.run_pure, Result.andThen_ok, List.map_toArray, List.map_cons, List.map_nil, hd, hs, hrun]
  exact hK _ _ (h _ (setRow_heap w g _ _ t _ hg) (below_setRow hb hBg _) (fun k hk => setRow_other w g k _ hk))
end Go.Proofs.YtogchafnnkajfaaGreat
namespace Go.Proofs.YtogchafnnkajfaaGreat
set_option linter.unusedVariables false
open Go.RowKit Go.Shelf
attribute [local go_sem] Oper.semAt_some
theorem slot_info' : (Tryz.prog.info? 31).map (fun i => (i.zero, i.size, i.bytes)) = some (some (.agg #[.bool false, .bool false, .int .i64 0, .int .i64 0]), 4, 24) := by kernel_rfl
theorem madeCells_i64 (n : Nat) : (madeCells #[.int .i64 0] n) = (iv (List.replicate n 0)).toArray := by
  have h : ∀ k, (madeCells #[Value.int .i64 0] k).toList = List.replicate k (.int .i64 0) := by
    intro k
    simp [madeCells]
    apply List.ext_getElem
    · simp
    · intro i h1 h2
      simp [Nat.mod_one]
  apply Array.ext'
  rw [h n]
  simp [iv]
theorem run_make_i64 (n : Nat) (hn : n ≤ 1000000) (w : World) : (Instr.makeSlice 22 (.int .i64 (n : Int)) (.int .i64 (n : Int))).run Tryz.prog w = .ok (.slice (some ⟨w.heap.size, 0, none⟩) n n) (w.alloc (.cells (iv (List.replicate n 0)).toArray 3)) := by
  obtain ⟨i0, hi0, hz0, hz1, hz2⟩ := info_parts int_info
  have := run_make (P := Tryz.prog) w 22 3 i0 _ Tryz.underlying22 hi0 hz0 .i64 .i64 (n : Int) (n : Int) (by omega) (Int.le_refl _) (by rw [hz2]; omega) (by omega)
  rw [this]
  simp only [Int.toNat_natCast, hz1]
  rw [show (Value.int IntKind.i64 0).cells = #[Value.int .i64 0] from rfl, Nat.mul_one, madeCells_i64]
theorem three (W : World) (o1 o2 o3 : Obj) : ((((W.alloc o1).alloc o2).alloc o3).drew).heap[W.heap.size]? = some o1 ∧ ((((W.alloc o1).alloc o2).alloc o3).drew).heap[W.heap.size + 1]? = some o2 ∧ ((((W.alloc o1).alloc o2).alloc o3).drew).heap[W.heap.size + 1 + 1]? = some o3 ∧ Below W.heap.size W ((((W.alloc o1).alloc o2).alloc o3).drew) := by
  have a1 := heap_alloc_new W o1
  have a2 := heap_alloc_new (W.alloc o1) o2
  have a3 := heap_alloc_new ((W.alloc o1).alloc o2) o3
  rw [World.size_alloc] at a2
  rw [World.size_alloc, World.size_alloc] at a3
  have b1 : Below (W.heap.size + 1) (W.alloc o1) ((W.alloc o1).alloc o2) := (Below.refl _ _).alloc (by simp) _
  have b2 : Below (W.heap.size + 1 + 1) ((W.alloc o1).alloc o2) (((W.alloc o1).alloc o2).alloc o3) := (Below.refl _ _).alloc (by simp) _
  refine ⟨?_, ?_, a3, ((((Below.refl _ W).alloc (Nat.le_refl _) _).alloc (by simp) _).alloc (by simp; omega) _).drew⟩
  · exact (b2.block _ (by omega)).trans ((b1.block _ (by omega)).trans a1)
  · exact (b2.block _ (by omega)).trans a2
theorem state_info3 : (Tryz.prog.info? 58).map (·.size) = some 3 := by kernel_rfl
set_option maxRecDepth 100000 in
theorem run_load_state (W : World) (g : Nat) (x y z : Value) (h : Cs W g 58 #[x, y, z]) : (loadVar 58 ⟨g, 0, none⟩).run Tryz.prog W = .ok (.agg #[x, y, z]) W :=
  run_loadVar_row W g 58 58 _ (0, 0) _ h Tryz.underlying58 rfl state_info3
theorem wpList_copyN {P : Program} {w : World} {ops : Array Oper} {rest : List Oper} {o : Oper} {a : Act} {Q : Exit → Act → World → Prop} (hgd : o.guard = none) (d s : Operand) (dT sT : TypeId)
    (ho : o.op = .call { callee := .builtin .copy, args := #[d, s], argTypes := #[dT, sT] }) (elem : TypeId) (hu : P.underlying dT = some (.slice elem)) (hsz : (P.info? elem).map (·.size) = some 1)
    (g dLen dCap : Nat) (sp : Option Addr) (sLen sCap : Nat) (hd : a.eval d = .slice (some ⟨g, 0, none⟩) dLen dCap) (hs : a.eval s = .slice sp sLen sCap)
    (cur : List Value) (t : TypeId) (hg : Cs w g t cur.toArray) (cs : List Value) (hn : cs.length = Nat.min sLen dLen)
    (hpos : 0 < cs.length → ∃ ad, sp = some ad ∧ ∀ j v, cs[j]? = some v → w.cell? (ad.add j) = some v) (hfit : 0 + cs.length ≤ cur.length) (h1 : ∀ v ∈ cs, v.oneCell' = true)
    (B : Nat) (w0 : World) (hb : Below B w0 w) (hBg : B ≤ g)
    (h : ∀ w', Cs w' g t (splice cur 0 cs).toArray → Below B w0 w' → (∀ k, k ≠ g → w'.heap[k]? = w.heap[k]?) → wpList P ops Q rest (a.put o.dst (goInt (Nat.min sLen dLen))) w') : wpList P ops Q (o :: rest) a w := by
  by_cases h0 : cs.length = 0
  · obtain rfl : cs = [] := List.eq_nil_of_length_eq_zero h0
    refine wpList_copy_nothing hgd d s dT sT ho elem hu hsz _ sp dLen dCap sLen sCap hd hs (by simpa using hn.symm) ?_
    have := h w (show _ = _ by simpa [splice, Cs] using hg) hb (fun _ _ => rfl)
    rwa [show Nat.min sLen dLen = 0 by simpa using hn.symm] at this
  · obtain ⟨ad, rfl, hsrc⟩ := hpos (by omega)
    exact wpList_copyS hgd d s dT sT ho elem 1 hu hsz g 0 dLen dCap ad sLen sCap hd hs cur t hg cs (by rw [hn, Nat.mul_one]) hsrc hfit h1 B w0 hb hBg h
theorem res_state {fn : Func} {p : Tmp} (h : fn.results = #[.cell p 58]) (tmps : Array Value) (W : World) (g : Nat) (x y z : Value) (hp : tmps.getD p undef = .pointer (some ⟨g, 0, none⟩)) (hl : (loadVar 58 ⟨g, 0, none⟩).run Tryz.prog W = .ok (.agg #[x, y, z]) W) :
    (results fn tmps).run Tryz.prog W = .ok (.agg #[x, y, z]) W := by
  have hp' : tmps[p]?.getD undef = .pointer (some ⟨g, 0, none⟩) := by simpa using hp
  simp [results, h, hp', asAddr, hl]
theorem Cs.put3 {W : World} {g : Nat} {t : TypeId} {a b c : Value} (h : Cs W g t #[a, b, c]) (a' b' c' : Value) : Cs (((W.setCell ⟨g, 0, none⟩ a').setCell ⟨g, 1, none⟩ b').setCell ⟨g, 2, none⟩ c') g t #[a', b', c'] :=
  heap_setCell_same _ g 2 _ _ c' (heap_setCell_same _ g 1 _ _ b' (heap_setCell_same _ g 0 _ _ a' h))
set_option maxRecDepth 100000 in
set_option maxHeartbeats 8000000 in
theorem own_any (W : World) (A B : Option Addr) (n c m d : Nat) (clk : Int) (l : List Sl) (ms : List Int) (hl : l.length = n) (hm : ms.length = m) (hn1 : 1 ≤ n) (hn : n ≤ 100000) (hm2 : m ≤ 100000) (hA : Reads W A (scs l)) (hB : Reads W B (iv ms)) :
    Calls Tryz.prog 134 #[csV A n c clk B m d] W fun e w' => ∃ a b, e = .returned (csV (some ⟨a, 0, none⟩) n n clk (some ⟨b, 0, none⟩) m m) ∧ Cs w' a 31 (scs l).toArray ∧ Cs w' b 3 (iv ms).toArray ∧ a ≠ b ∧ W.heap.size ≤ a ∧ W.heap.size ≤ b ∧ Below W.heap.size W w' := by
  have HL := Lib.hid hl
  have HSZ := Lib.hid slot_info4
  have HSZ1 : Hid ((Tryz.prog.info? 3).map (·.size) = some 1) := by show _ = _; kernel_rfl
  have HM := Lib.hid hm
  have HA := Lib.hid hA
  have HB := Lib.hid hB
  have hk1 := run_make_slots n (by omega)
  have hk2 := run_make_i64 m (by omega)
  clear hl hm hA hB
  unfold csV
  go_enter Tryz.func134, Tryz.ntmps134
  go_wp2_with fail
  have hP := (Cs.new W 58 #[.slice A n c, .int .i64 clk, .slice B m d]).alloc (.cells #[.slice none 0 0, .int .i64 0, .slice none 0 0] 58)
  have hR := Cs.new (W.alloc (.cells #[.slice A n c, .int .i64 clk, .slice B m d] 58)) 58 #[.slice none 0 0, .int .i64 0, .slice none 0 0]
  have hb1 : Below W.heap.size W ((W.alloc (.cells #[.slice A n c, .int .i64 clk, .slice B m d] 58)).alloc (.cells #[.slice none 0 0, .int .i64 0, .slice none 0 0] 58)) := ((Below.refl _ W).alloc (Nat.le_refl _) _).alloc (by simp) _
  have hs1 : ((W.alloc (.cells #[.slice A n c, .int .i64 clk, .slice B m d] 58)).alloc (.cells #[.slice none 0 0, .int .i64 0, .slice none 0 0] 58)).heap.size = W.heap.size + 1 + 1 := by simp
  rw [World.size_alloc] at hR
  have HP := Lib.hid hP
  have HR := Lib.hid hR
  have HB1 := Lib.hid hb1
  have HS1 := Lib.hid hs1
  clear hP hR hb1 hs1
  go_cut [3] (fun s3 wx => ∃ t a b : Nat, s3 = .pointer (some ⟨t, 0, none⟩) ∧ Cs wx t 58 #[.slice (some ⟨a, 0, none⟩) n n, .int .i64 clk, .slice (some ⟨b, 0, none⟩) m m] ∧ Cs wx a 31 (madeCells #[.bool false, .bool false, .int .i64 0, .int .i64 0] (n * 4)) ∧ Cs wx b 3 (iv (List.replicate m 0)).toArray ∧ (t ≠ a ∧ t ≠ b ∧ a ≠ b) ∧ (W.heap.size + 1 + 1 ≤ t ∧ W.heap.size + 1 + 1 ≤ a ∧ W.heap.size + 1 + 1 ≤ b) ∧ Below (W.heap.size + 1 + 1) ((W.alloc (.cells #[.slice A n c, .int .i64 clk, .slice B m d] 58)).alloc (.cells #[.slice none 0 0, .int .i64 0, .slice none 0 0] 58)) wx)
  case first =>
    go_region
    all_goals
      go_wp2_with fail
      go_meet
      case rel =>
        obtain ⟨h1, h2, h3, hb⟩ := three ((W.alloc (.cells #[.slice A n c, .int .i64 clk, .slice B m d] 58)).alloc (.cells #[.slice none 0 0, .int .i64 0, .slice none 0 0] 58)) _ _ _
        rw [HS1.out] at h1 h2 h3 hb
        refine ⟨_, ?_, ?_, rfl, ?_, ?_, ?_, ?_, ?_, hb⟩
        rotate_left 2
        (first | exact h1 | exact h2 | exact h3)
        (first | exact h1 | exact h2 | exact h3)
        (first | exact h1 | exact h2 | exact h3)
        omega
        omega
  case rest =>
    obtain ⟨t, a, b, rfl, ht, ha, hb, hne, hge, hbw⟩ := hcut
    generalize ((W.alloc (.cells #[.slice A n c, .int .i64 clk, .slice B m d] 58)).alloc (.cells #[.slice none 0 0, .int .i64 0, .slice none 0 0] 58)) = W2 at *
    have hPw := Cs.below HP.out hbw (by omega)
    have hRw := Cs.below HR.out hbw (by omega)
    have hBw := HB1.out.trans (hbw.mono (by omega))
    have q0 := hPw.cell 0
    have q2 := hPw.cell 2
    have t0 := ht.cell 0
    have t1 := ht.cell 1
    have t2 := ht.cell 2
    have hscs : (scs l).length = Nat.min n n * 4 := by rw [scs_length, HL.out, show Nat.min n n = n from Nat.min_self n]
    have HSC := Lib.hid hscs
    obtain ⟨mk, hmk⟩ : ∃ mk : List Value, mk = (madeCells #[.bool false, .bool false, .int .i64 0, .int .i64 0] (n * 4)).toList := ⟨_, rfl⟩
    have hmkl : mk.length = n * 4 := by rw [hmk]; simp [size_madeCells]
    have ha2 : Cs wc a 31 mk.toArray := by rw [hmk, Array.toArray_toList]; exact ha
    have HA2 := Lib.hid ha2
    have HMK := Lib.hid hmkl
    clear hmk hmkl ha ha2
    have hAr := HA.out.keep hBw
    obtain ⟨b0, o, rfl, hbl, hcs⟩ := hAr (by rw [scs_length, HL.out]; omega)
    have HCS := Lib.hid hcs
    have HBW := Lib.hid hbw
    have HB0 := Lib.hid hBw
    have HT := Lib.hid ht
    have HRW := Lib.hid hRw
    have HPW := Lib.hid hPw
    have HHB := Lib.hid hb
    clear hcs hbw hBw ht hRw hPw hb hscs hAr
    go_upto_region 3 with ((with_reducible refine wpList_copyS (o := ⟨some 19, _, _, _, _, _⟩) rfl (.tmp 16) (.tmp 18) 56 56 rfl 31 4 Tryz.underlying56 HSZ.out a 0 n n ⟨b0, o, none⟩ n c rfl rfl mk 31 HA2.out (scs l) HSC.out (fun j u hj => by rw [Addr.add_lit]; exact HCS.out j u hj) (by rw [HMK.out, scs_length, HL.out]; omega) (scs_one l) W.heap.size W HB0.out (by omega) ?_); intro W3 hC3 hB3 hk3)
    have hsp : splice mk 0 (scs l) = scs l := by
      unfold splice
      rw [List.take_zero, List.nil_append, List.drop_eq_nil_of_le (by rw [HMK.out, scs_length, HL.out]; omega), List.append_nil]
    rw [hsp] at hC3
    have hT3 : Cs W3 t 58 _ := (hk3 t hne.1).trans HT.out
    have hb3 : Cs W3 b 3 _ := (hk3 b (fun e => hne.2.2 e.symm)).trans HHB.out
    have hP3 : Cs W3 W.heap.size 58 _ := (hk3 _ (by omega)).trans HPW.out
    have hR3 : Cs W3 (W.heap.size + 1) 58 _ := (hk3 _ (by omega)).trans HRW.out
    have q2 : W3.cell? ⟨W.heap.size, 2, none⟩ = some (.slice B m d) := hP3.cell 2
    have t23 : W3.cell? ⟨t, 2, none⟩ = some (.slice (some ⟨b, 0, none⟩) m m) := hT3.cell 2
    have HA3 := Lib.hid hC3
    have HT3 := Lib.hid hT3
    have Hb3 := Lib.hid hb3
    have HR3 := Lib.hid hR3
    have HB3 := Lib.hid hB3
    have hBr := HB.out.keep hB3
    have HBR := Lib.hid hBr
    have HBP : Hid (0 < (iv ms).length → ∃ ad, B = some ad ∧ ∀ (j : Nat) (v : Value), (iv ms)[j]? = some v → W3.cell? (ad.add j) = some v) := fun hp => by
      obtain ⟨b1, o1, rfl, -, hh⟩ := hBr (by omega)
      exact ⟨_, rfl, fun j u hj => by rw [Addr.add_lit]; exact hh j u hj⟩
    clear hsp hC3 hT3 hb3 hP3 hR3 hB3 hBr hk3 HA2 HCS HHB HRW HPW HB0 HBW HT
    go_upto_region 4 with ((with_reducible refine wpList_copyN (o := ⟨some 24, _, _, _, _, _⟩) rfl (.tmp 21) (.tmp 23) 22 22 rfl 3 Tryz.underlying22 HSZ1.out b m m B m d rfl rfl (iv (List.replicate m 0)) 3 Hb3.out (iv ms) (by rw [iv_length, HM.out, show Nat.min m m = m from Nat.min_self m]) HBP.out (by rw [iv_length, iv_length, HM.out, List.length_replicate]; omega) (iv_one ms) W.heap.size W HB3.out (by omega) ?_); intro W4 hC4 hB4 hk4)
    have hsp : splice (iv (List.replicate m 0)) 0 (iv ms) = iv ms := by
      unfold splice
      rw [List.take_zero, List.nil_append, List.drop_eq_nil_of_le (by rw [iv_length, iv_length, HM.out, List.length_replicate]; omega), List.append_nil]
    rw [hsp] at hC4
    have hT4 : Cs W4 t 58 _ := (hk4 t hne.2.1).trans HT3.out
    have ha4 : Cs W4 a 31 _ := (hk4 a hne.2.2).trans HA3.out
    have hR4 : Cs W4 (W.heap.size + 1) 58 _ := (hk4 _ (by omega)).trans HR3.out
    have t0 : W4.cell? ⟨t, 0, none⟩ = some (.slice (some ⟨a, 0, none⟩) n n) := hT4.cell 0
    have t1 : W4.cell? ⟨t, 1, none⟩ = some (.int .i64 clk) := hT4.cell 1
    have t2 : W4.cell? ⟨t, 2, none⟩ = some (.slice (some ⟨b, 0, none⟩) m m) := hT4.cell 2
    have e0 : W4.cell? ⟨W.heap.size + 1, 0, none⟩ = some (.slice none 0 0) := hR4.cell 0
    have e1 : W4.cell? ⟨W.heap.size + 1, 1, none⟩ = some (.int .i64 0) := hR4.cell 1
    have e2 : W4.cell? ⟨W.heap.size + 1, 2, none⟩ = some (.slice none 0 0) := hR4.cell 2
    have r0 := hR4.free 0
    have r1 := hR4.free 1
    have r2 := hR4.free 2
    have HC4 := Lib.hid hC4
    have HA4 := Lib.hid ha4
    have HR4 := Lib.hid hR4
    have HB4 := Lib.hid hB4
    clear hsp hC4 hT4 ha4 hR4 hB4 hk4 HA3 HT3 Hb3 HR3 HB3 HBR HBP q2 t23
    go_wp2_with fail
    (try simp only [Exit.inBlock, Exit.then])
    refine bodyPost_ret (res_state rfl _ _ (W.heap.size + 1) _ _ _ rfl (run_load_state _ _ _ _ _ (Cs.put3 HR4.out _ _ _))) rfl ?_
    have hb5 := ((HB4.out.setCell (p := ⟨W.heap.size + 1, 0, none⟩) (by simp) (.slice (some ⟨a, 0, none⟩) n n)).setCell (p := ⟨W.heap.size + 1, 1, none⟩) (by simp) (.int .i64 clk)).setCell (p := ⟨W.heap.size + 1, 2, none⟩) (by simp) (.slice (some ⟨b, 0, none⟩) m m)
    refine ⟨a, b, rfl, ?_, ?_, hne.2.2, by omega, by omega, hb5⟩
    · exact (Below.heap_setCell _ _ _ a (by show a ≠ W.heap.size + 1; omega)).trans ((Below.heap_setCell _ _ _ a (by show a ≠ W.heap.size + 1; omega)).trans ((Below.heap_setCell _ _ _ a (by show a ≠ W.heap.size + 1; omega)).trans HA4.out))
    · exact (Below.heap_setCell _ _ _ b (by show b ≠ W.heap.size + 1; omega)).trans ((Below.heap_setCell _ _ _ b (by show b ≠ W.heap.size + 1; omega)).trans ((Below.heap_setCell _ _ _ b (by show b ≠ W.heap.size + 1; omega)).trans HC4.out))
end Go.Proofs.YtogchafnnkajfaaGreat
namespace Go.Proofs.YtogchafnnkajfaaGreat
set_option linter.unusedVariables false
open Go.RowKit Go.Shelf
attribute [local go_sem] Oper.semAt_some
set_option maxRecDepth 100000 in
set_option maxHeartbeats 1000000 in
theorem cfind_any (W : World) (A B : Option Addr) (n c m d : Nat) (clk : Int) (l : List Sl) (b : Int) (hn : l.length = n) (hn2 : n ≤ 1000000) (hA : Reads W A (scs l)) :
    Calls Tryz.prog 132 #[csV A n c clk B m d, .int .i64 b] W fun e w' => e = .returned (.int .i64 (idxOf (fun x => x.valid && x.block == b) l)) ∧ Below W.heap.size W w' := by
  have HA := Lib.hid hA
  have HN := Lib.hid hn
  clear hA hn
  unfold csV
  go_enter Tryz.func132, Tryz.ntmps132
  have hP := Cs.new W 58 #[.slice A n c, .int .i64 clk, .slice B m d]
  have hb1 : Below W.heap.size W (W.alloc (.cells #[.slice A n c, .int .i64 clk, .slice B m d] 58)) := (Below.refl _ W).alloc (Nat.le_refl _) _
  have hb2 := hb1.alloc (by simp) (.cells #[.int .i64 b] 3)
  have hq : ((W.alloc (.cells #[.slice A n c, .int .i64 clk, .slice B m d] 58)).alloc (.cells #[.int .i64 b] 3)).cell? ⟨W.heap.size + 1, 0, none⟩ = some (.int .i64 b) := by
    have := (Cs.new (W.alloc (.cells #[.slice A n c, .int .i64 clk, .slice B m d] 58)) 3 #[.int .i64 b]).cell 0
    rwa [World.size_alloc] at this
  have HC := Lib.hid (idx_find _ A n c l HN.out hn2 (HA.out.keep hb2) (W.heap.size + 1) b hq (by simp))
  have HB2 := Lib.hid hb2
  clear hP hb1 hb2 hq
  go_wp2_with fail
  refine HC.out.mono ?_
  rintro e w1 ⟨rfl, hb3⟩
  have HB3 := Lib.hid (HB2.out.trans (hb3.mono HB2.out.size))
  clear hb3 HC HB2
  go_wp2_with fail
  go_ret
  exact ⟨rfl, HB3.out⟩
set_option maxRecDepth 100000 in
set_option maxHeartbeats 1000000 in
theorem cFind_any (W : World) (A B : Option Addr) (n c m d : Nat) (s : CS) (h : s.Ok) (b : Int) (hn : s.sl.length = n) (hm : s.ms.length = m) (hA : Reads W A (scs s.sl)) (hB : Reads W B (iv s.ms)) :
    Calls Tryz.prog 95 #[csV A n c s.clk B m d, .int .i64 b] W fun e w' => e = .returned (.int .i64 (s.find b)) ∧ Below W.heap.size W w' := by
  obtain ⟨l, clk, ms⟩ := s
  dsimp only at hn hm hA hB ⊢
  have hl : 1 ≤ l.length ∧ l.length ≤ 1024 := h.len
  have hb1 : Below W.heap.size W (W.alloc (.cells #[.slice A n c, .int .i64 clk, .slice B m d] 58)) := (Below.refl _ W).alloc (Nat.le_refl _) _
  have hP := Cs.new W 58 #[.slice A n c, .int .i64 clk, .slice B m d]
  have HV := Lib.hid (cvalid_any (W.alloc (.cells #[.slice A n c, .int .i64 clk, .slice B m d] 58)) A B n c m d ⟨l, clk, ms⟩ h hn hm (hA.keep hb1) (hB.keep hb1))
  have HF : Hid (∀ w, Below W.heap.size W w → Calls Tryz.prog 132 #[csV A n c clk B m d, .int .i64 b] w fun e w' => e = .returned (.int .i64 (idxOf (fun x => x.valid && x.block == b) l)) ∧ Below w.heap.size w w') := fun w hw => cfind_any w A B n c m d clk l b hn (by omega) (hA.keep hw)
  have HB1 := Lib.hid hb1
  have HP := Lib.hid hP
  have hs1 : (W.alloc (.cells #[.slice A n c, .int .i64 clk, .slice B m d] 58)).heap.size = W.heap.size + 1 := by simp
  have HS1 := Lib.hid hs1
  unfold csV at *
  clear h hn hm hA hB hb1 hl hs1
  go_enter Tryz.func95, Tryz.ntmps95
  go_upto_region 1 with (fail)
  generalize W.alloc (.cells #[.slice A n c, .int .i64 clk, .slice B m d] 58) = W1 at *
  have p0 : W1.cell? ⟨W.heap.size, 0, none⟩ = some (.slice A n c) := hP.cell 0
  have p1 : W1.cell? ⟨W.heap.size, 1, none⟩ = some (.int .i64 clk) := hP.cell 1
  have p2 : W1.cell? ⟨W.heap.size, 2, none⟩ = some (.slice B m d) := hP.cell 2
  clear hP
  go_upto_region 3 with (go_at_call 124; refine HV.out.mono ?_; rintro e w2 ⟨rfl, hb2⟩; have p0 : w2.cell? ⟨W.heap.size, 0, none⟩ = some (.slice A n c) := (HP.out.below hb2 (by rw [HS1.out]; omega)).cell 0; have p1 : w2.cell? ⟨W.heap.size, 1, none⟩ = some (.int .i64 clk) := (HP.out.below hb2 (by rw [HS1.out]; omega)).cell 1; have p2 : w2.cell? ⟨W.heap.size, 2, none⟩ = some (.slice B m d) := (HP.out.below hb2 (by rw [HS1.out]; omega)).cell 2; clear HV)
  have HB2 := Lib.hid (HB1.out.trans (hb2.mono (by rw [HS1.out]; omega)))
  have HC := Lib.hid (HF.out w2 HB2.out)
  clear hb2 HF
  go_wp2_with fail
  refine HC.out.mono ?_
  rintro e w3 ⟨rfl, hb3⟩
  have HB3 := Lib.hid (HB2.out.trans (hb3.mono HB2.out.size))
  clear hb3 HC HB2
  go_wp2_with fail
  go_ret
  exact ⟨rfl, HB3.out⟩
set_option maxRecDepth 100000 in
set_option maxHeartbeats 1000000 in
theorem cslot_any (W : World) (A B : Option Addr) (n c m d : Nat) (s : CS) (h : s.Ok) (k : Nat) (hk : k < n) (hn : s.sl.length = n) (hm : s.ms.length = m) (hA : Reads W A (scs s.sl)) (hB : Reads W B (iv s.ms)) :
    Calls Tryz.prog 133 #[csV A n c s.clk B m d, .int .i64 (k : Int)] W fun e w' => e = .returned (.int .i64 0) ∧ Below W.heap.size W w' := by
  obtain ⟨l, clk, ms⟩ := s
  dsimp only at hn hm hA hB ⊢
  have hb1 : Below W.heap.size W (W.alloc (.cells #[.slice A n c, .int .i64 clk, .slice B m d] 58)) := (Below.refl _ W).alloc (Nat.le_refl _) _
  have hP := Cs.new W 58 #[.slice A n c, .int .i64 clk, .slice B m d]
  have HV := Lib.hid (cvalid_any (W.alloc (.cells #[.slice A n c, .int .i64 clk, .slice B m d] 58)) A B n c m d ⟨l, clk, ms⟩ h hn hm (hA.keep hb1) (hB.keep hb1))
  have HB1 := Lib.hid hb1
  have HP := Lib.hid hP
  have hs1 : (W.alloc (.cells #[.slice A n c, .int .i64 clk, .slice B m d] 58)).heap.size = W.heap.size + 1 := by simp
  have HS1 := Lib.hid hs1
  have HK := Lib.hid hk
  unfold csV at *
  clear h hn hm hA hB hb1 hs1
  have u1 : ¬ (k : Int) < 0 := by omega
  have u2 : ¬ (n : Int) ≤ (k : Int) := by omega
  have v1 : decide ((k : Int) < 0) = false := decide_eq_false u1
  have v2 : decide ((n : Int) ≤ (k : Int)) = false := by simpa using u2
  go_enter Tryz.func133, Tryz.ntmps133
  go_upto_region 1 with (fail)
  generalize W.alloc (.cells #[.slice A n c, .int .i64 clk, .slice B m d] 58) = W1 at *
  have p0 : W1.cell? ⟨W.heap.size, 0, none⟩ = some (.slice A n c) := hP.cell 0
  have p1 : W1.cell? ⟨W.heap.size, 1, none⟩ = some (.int .i64 clk) := hP.cell 1
  have p2 : W1.cell? ⟨W.heap.size, 2, none⟩ = some (.slice B m d) := hP.cell 2
  clear hP
  go_upto_region 3 with (go_at_call 124; refine HV.out.mono ?_; rintro e w2 ⟨rfl, hb2⟩; have p0 : w2.cell? ⟨W.heap.size, 0, none⟩ = some (.slice A n c) := (HP.out.below hb2 (by rw [HS1.out]; omega)).cell 0; clear HV)
  have HB2 := Lib.hid (HB1.out.trans (hb2.mono (by rw [HS1.out]; omega)))
  clear hb2
  go_wp2_with fail
  go_ret
  exact ⟨rfl, HB2.out⟩
end Go.Proofs.YtogchafnnkajfaaGreat
namespace Go.Proofs.YtogchafnnkajfaaGreat
set_option linter.unusedVariables false
open Go.RowKit Go.Shelf
attribute [local go_sem] Oper.semAt_some
theorem Cs.three {W : World} {g : Nat} {t : TypeId} {x y z : Value} (h : Cs W g t #[x, y, z]) : W.cell? ⟨g, 0, none⟩ = some x ∧ W.cell? ⟨g, 1, none⟩ = some y ∧ W.cell? ⟨g, 2, none⟩ = some z := ⟨h.cell 0, h.cell 1, h.cell 2⟩
theorem Cs.three' {W W' : World} {k g : Nat} {t : TypeId} {x y z : Value} (h : Cs W g t #[x, y, z]) (hb : Below k W W') (hg : g < k) : W'.cell? ⟨g, 0, none⟩ = some x ∧ W'.cell? ⟨g, 1, none⟩ = some y ∧ W'.cell? ⟨g, 2, none⟩ = some z := (h.below hb hg).three
set_option maxRecDepth 100000 in
set_option maxHeartbeats 1000000 in
theorem coldest_any (W : World) (A B : Option Addr) (n c m d : Nat) (s : CS) (h : s.Ok) (hn : s.sl.length = n) (hm : s.ms.length = m) (hA : Reads W A (scs s.sl)) (hB : Reads W B (iv s.ms)) :
    Calls Tryz.prog 85 #[csV A n c s.clk B m d] W fun e w' => e = .returned (.int .i64 s.oldest) ∧ Below W.heap.size W w' := by
  obtain ⟨l, clk, ms⟩ := s
  dsimp only at hn hm hA hB ⊢
  have hl : 1 ≤ l.length ∧ l.length ≤ 1024 := h.len
  have hb1 : Below W.heap.size W (W.alloc (.cells #[.slice A n c, .int .i64 clk, .slice B m d] 58)) := (Below.refl _ W).alloc (Nat.le_refl _) _
  have hP := Cs.new W 58 #[.slice A n c, .int .i64 clk, .slice B m d]
  have HV := Lib.hid (cvalid_any (W.alloc (.cells #[.slice A n c, .int .i64 clk, .slice B m d] 58)) A B n c m d ⟨l, clk, ms⟩ h hn hm (hA.keep hb1) (hB.keep hb1))
  have HB1 := Lib.hid hb1
  have HP := Lib.hid hP
  have HS1 : Hid ((W.alloc (.cells #[.slice A n c, .int .i64 clk, .slice B m d] 58)).heap.size = W.heap.size + 1) := by show _ = _; simp
  have HF : Hid (∀ w, Below W.heap.size W w → _) := fun w hw => leasto_any w A B n c m d clk l hn (by omega) (hA.keep hw)
  unfold csV at *
  clear h hn hm hA hB hb1 hl
  go_enter Tryz.func85, Tryz.ntmps85
  go_upto_region 1 with (fail)
  generalize W.alloc (.cells #[.slice A n c, .int .i64 clk, .slice B m d] 58) = W1 at *
  obtain ⟨p0, p1, p2⟩ := hP.three
  clear hP
  go_upto_region 3 with (go_at_call 124; refine HV.out.mono ?_; rintro e w2 ⟨rfl, hb2⟩; obtain ⟨p0, p1, p2⟩ := HP.out.three' hb2 (by rw [HS1.out]; omega); clear HV)
  have HB2 := Lib.hid (HB1.out.trans (hb2.mono (by rw [HS1.out]; omega)))
  clear hb2
  go_wp2_with (go_at_call 125; refine (HF.out w2 HB2.out).mono ?_; rintro e w3 ⟨rfl, hb3⟩)
  go_ret
  exact ⟨rfl, HB2.out.trans (hb3.mono HB2.out.size)⟩
set_option maxRecDepth 100000 in
set_option maxHeartbeats 2000000 in
theorem cvictim_any (W : World) (A B : Option Addr) (n c m d : Nat) (s : CS) (h : s.Ok) (hn : s.sl.length = n) (hm : s.ms.length = m) (hA : Reads W A (scs s.sl)) (hB : Reads W B (iv s.ms)) :
    Calls Tryz.prog 137 #[csV A n c s.clk B m d] W fun e w' => e = .returned (.tuple #[.int .i64 s.victim, .int .i64 0]) ∧ Below W.heap.size W w' := by
  obtain ⟨l, clk, ms⟩ := s
  dsimp only at hn hm hA hB ⊢
  have hl : 1 ≤ l.length ∧ l.length ≤ 1024 := h.len
  have hb1 : Below W.heap.size W (W.alloc (.cells #[.slice A n c, .int .i64 clk, .slice B m d] 58)) := (Below.refl _ W).alloc (Nat.le_refl _) _
  have hP := Cs.new W 58 #[.slice A n c, .int .i64 clk, .slice B m d]
  have HV := Lib.hid (cvalid_any (W.alloc (.cells #[.slice A n c, .int .i64 clk, .slice B m d] 58)) A B n c m d ⟨l, clk, ms⟩ h hn hm (hA.keep hb1) (hB.keep hb1))
  have HB1 := Lib.hid hb1
  have HP := Lib.hid hP
  have HS1 : Hid ((W.alloc (.cells #[.slice A n c, .int .i64 clk, .slice B m d] 58)).heap.size = W.heap.size + 1) := by show _ = _; simp
  have HF1 : Hid (∀ w, Below W.heap.size W w → _) := fun w hw => idx_free w A n c l hn (by omega) (hA.keep hw)
  have HF2 : Hid (∀ w, Below W.heap.size W w → _) := fun w hw => least2_any w A B n c m d clk l hn (by omega) (hA.keep hw)
  have HF3 : Hid (∀ w, Below W.heap.size W w → _) := fun w hw => least3_any w A B n c m d clk l hn (by omega) (hA.keep hw)
  have hv : CS.victim ⟨l, clk, ms⟩ = if 0 ≤ idxOf (fun x => !x.valid) l then idxOf (fun x => !x.valid) l else if 0 ≤ least (fun x => !x.dirty) l then least (fun x => !x.dirty) l else least (fun _ => true) l := rfl
  generalize CS.victim ⟨l, clk, ms⟩ = vic at *
  generalize idxOf (fun x => !x.valid) l = i1 at *
  generalize least (fun x => !x.dirty) l = i2 at *
  generalize least (fun _ => true) l = i3 at *
  have HVI := Lib.hid hv
  unfold csV at *
  clear h hn hm hA hB hb1 hl hv
  go_enter Tryz.func137, Tryz.ntmps137
  go_upto_region 1 with (fail)
  generalize W.alloc (.cells #[.slice A n c, .int .i64 clk, .slice B m d] 58) = W1 at *
  obtain ⟨p0, p1, p2⟩ := hP.three
  clear hP
  go_upto_region 3 with (go_at_call 124; refine HV.out.mono ?_; rintro e w2 ⟨rfl, hb2⟩; obtain ⟨p0, p1, p2⟩ := HP.out.three' hb2 (by rw [HS1.out]; omega); clear HV)
  have HP2 := Lib.hid (HP.out.below hb2 (by rw [HS1.out]; omega))
  have HB2 := Lib.hid (HB1.out.trans (hb2.mono (by rw [HS1.out]; omega)))
  have HG2 : Hid (W.heap.size + 1 ≤ w2.heap.size) := by have := hb2.size; rw [HS1.out] at this; exact this
  clear hb2 HP HB1
  go_upto_region 4 with (go_at_call 148; refine (HF1.out w2 HB2.out).mono ?_; rintro e w3 ⟨rfl, hb3⟩; obtain ⟨p0, p1, p2⟩ := HP2.out.three' hb3 HG2.out; clear HF1)
  have HP3 := Lib.hid (HP2.out.below hb3 HG2.out)
  have HB3 := Lib.hid (HB2.out.trans (hb3.mono HB2.out.size))
  have HG3 : Hid (W.heap.size + 1 ≤ w3.heap.size) := Nat.le_trans HG2.out hb3.size
  clear hb3 HP2 HB2
  by_cases q1 : i1 < 0
  · by_cases q2 : i2 < 0
    · go_upto_region 6 with (go_at_call 125; refine (HF2.out w3 HB3.out).mono ?_; rintro e w4 ⟨rfl, hb4⟩; obtain ⟨p0, p1, p2⟩ := HP3.out.three' hb4 HG3.out; clear HF2)
      have HB4 := Lib.hid (HB3.out.trans (hb4.mono HB3.out.size))
      clear hb4 HP3
      go_wp2_with (go_at_call 125; refine (HF3.out w4 HB4.out).mono ?_; rintro e w5 ⟨rfl, hb5⟩)
      go_ret2
      exact ⟨by rw [HVI.out, if_neg (by omega), if_neg (by omega)] <;> rfl, HB4.out.trans (hb5.mono HB4.out.size)⟩
    · go_wp2_with (go_at_call 125; refine (HF2.out w3 HB3.out).mono ?_; rintro e w4 ⟨rfl, hb4⟩)
      go_ret2
      exact ⟨by rw [HVI.out, if_neg (by omega), if_pos (by omega)] <;> rfl, HB3.out.trans (hb4.mono HB3.out.size)⟩
  · go_wp2_with fail
    go_ret2
    exact ⟨by rw [HVI.out, if_pos (by omega)] <;> rfl, HB3.out⟩
end Go.Proofs.YtogchafnnkajfaaGreat
namespace Go.Proofs.YtogchafnnkajfaaGreat
set_option linter.unusedVariables false
open Go.RowKit Go.Shelf
attribute [local go_sem] Oper.semAt_some
def CsOut (k : Nat) (W : World) (x : CS) (v : Value) : Prop := ∃ a n m B d, v = csV (some ⟨a, 0, none⟩) n n x.clk B m d ∧ x.sl.length = n ∧ x.ms.length = m ∧ Cs W a 31 (scs x.sl).toArray ∧ Reads W B (iv x.ms) ∧ k ≤ a ∧ (∀ p, B = some p → k ≤ p.block ∧ p.block ≠ a)
theorem res_state_tmp {fn : Func} {p u : Tmp} (h : fn.results = #[.cell p 58, .tmp u]) (tmps : Array Value) (W : World) (g : Nat) (x y z : Value) (hp : tmps.getD p undef = .pointer (some ⟨g, 0, none⟩)) (hg : Cs W g 58 #[x, y, z]) :
    (results fn tmps).run Tryz.prog W = .ok (.tuple #[.agg #[x, y, z], tmps.getD u undef]) W := by
  have hl := run_load_state W g x y z hg
  have hp' : tmps[p]?.getD undef = .pointer (some ⟨g, 0, none⟩) := by simpa using hp
  simp [results, h, hp', asAddr, hl, Result.andThen]
theorem below_put3 {n g : Nat} {W0 W : World} (h : Below n W0 W) (hg : n ≤ g) (a' b' c' : Value) : Below n W0 (((W.setCell ⟨g, 0, none⟩ a').setCell ⟨g, 1, none⟩ b').setCell ⟨g, 2, none⟩ c') :=
  ((h.setCell (p := ⟨g, 0, none⟩) hg _).setCell (p := ⟨g, 1, none⟩) hg _).setCell (p := ⟨g, 2, none⟩) hg _
theorem heap_put3 (W : World) {g k : Nat} (h : k ≠ g) (a' b' c' : Value) : (((W.setCell ⟨g, 0, none⟩ a').setCell ⟨g, 1, none⟩ b').setCell ⟨g, 2, none⟩ c').heap[k]? = W.heap[k]? :=
  (Below.heap_setCell _ _ _ k h).trans ((Below.heap_setCell _ _ _ k h).trans (Below.heap_setCell _ _ _ k h))
theorem scs_stamp (l : List Sl) (k : Nat) (x : Sl) (t : Int) (hx : l[k]? = some x) : scs (l.set k { x with stamp := t }) = (scs l).set (k * 4 + 3) (.int .i64 t) := by
  have hk := (List.getElem?_eq_some_iff.1 hx).1
  obtain ⟨t0, t1, t2, t3⟩ := scs_at l k x hx
  rw [scs_set l k _ hk]
  have e0 : (scs l).set (k * 4) (.bool x.valid) = scs l := by
    obtain ⟨h, e⟩ := List.getElem?_eq_some_iff.1 t0
    rw [← e]; exact List.set_getElem_self h
  have e1 : (scs l).set (k * 4 + 1) (.bool x.dirty) = scs l := by
    obtain ⟨h, e⟩ := List.getElem?_eq_some_iff.1 t1
    rw [← e]; exact List.set_getElem_self h
  have e2 : (scs l).set (k * 4 + 2) (.int .i64 x.block) = scs l := by
    obtain ⟨h, e⟩ := List.getElem?_eq_some_iff.1 t2
    rw [← e]; exact List.set_getElem_self h
  dsimp only
  rw [e0, e1, e2]
theorem Cs.put {W : World} {g i : Nat} {t : TypeId} {l : List Value} (h : Cs W g t l.toArray) (u : Value) : Cs (W.setCell ⟨g, i, none⟩ u) g t (l.set i u).toArray := by
  have := heap_setCell_same W g i _ _ u h
  rwa [List.setIfInBounds_toArray] at this
theorem Cs.off {W : World} {g b i : Nat} {t : TypeId} {cs : Array Value} (h : Cs W g t cs) (hn : g ≠ b) (u : Value) : Cs (W.setCell ⟨b, i, none⟩ u) g t cs := (Below.heap_setCell _ _ _ g hn).trans h
theorem Cs.reads {W : World} {b : Nat} {l : List Value} {t : TypeId} (h : Cs W b t l.toArray) : Reads W (some ⟨b, 0, none⟩) l := fun _ => ⟨b, 0, rfl, h.lt, fun j u hj => by
  have := h.cell (0 + j)
  rw [List.getElem?_toArray, Nat.zero_add, hj] at this
  rw [Nat.zero_add]
  exact this⟩
set_option maxRecDepth 100000 in
set_option maxHeartbeats 2000000 in
theorem ctouch_any (W : World) (A B : Option Addr) (n c m d : Nat) (s : CS) (h : s.Ok) (hn : s.sl.length = n) (hm : s.ms.length = m) (hA : Reads W A (scs s.sl)) (hB : Reads W B (iv s.ms)) (k : Nat) (x : Sl) (hx : s.sl[k]? = some x) (hv : x.valid = true) (hc : s.clk < 1099511627776) :
    Calls Tryz.prog 96 #[csV A n c s.clk B m d, .int .i64 (k : Int)] W fun e w' => ∃ v, e = .returned (.tuple #[v, .int .i64 0]) ∧ CsOut W.heap.size w' (s.touch k) v ∧ Below W.heap.size W w' := by
  obtain ⟨l, clk, ms⟩ := s
  dsimp only at hn hm hA hB hx hc ⊢
  have hl : 1 ≤ l.length ∧ l.length ≤ 1024 := h.len
  have hcl : 0 ≤ clk := h.clk.1
  have hml : ms.length ≤ 8 := h.msl
  have hb1 : Below W.heap.size W ((W.alloc (.cells #[.slice A n c, .int .i64 clk, .slice B m d] 58)).alloc (.cells #[.slice none 0 0, .int .i64 0, .slice none 0 0] 58)) := ((Below.refl _ W).alloc (Nat.le_refl _) _).alloc (by simp) _
  have hP := (Cs.new W 58 #[.slice A n c, .int .i64 clk, .slice B m d]).alloc (.cells #[.slice none 0 0, .int .i64 0, .slice none 0 0] 58)
  have hR := Cs.new (W.alloc (.cells #[.slice A n c, .int .i64 clk, .slice B m d] 58)) 58 #[.slice none 0 0, .int .i64 0, .slice none 0 0]
  rw [World.size_alloc] at hR
  have HS1 : Hid (((W.alloc (.cells #[.slice A n c, .int .i64 clk, .slice B m d] 58)).alloc (.cells #[.slice none 0 0, .int .i64 0, .slice none 0 0] 58)).heap.size = W.heap.size + 1 + 1) := by show _ = _; simp
  have hkn : k < n := by rw [← hn]; exact (List.getElem?_eq_some_iff.1 hx).1
  have HC : Hid (∀ w, Below W.heap.size W w → _) := fun w hw => cslot_any w A B n c m d ⟨l, clk, ms⟩ h k hkn hn hm (hA.keep hw) (hB.keep hw)
  have HO : Hid (∀ w, Below W.heap.size W w → _) := fun w hw => own_any w A B n c m d clk l ms hn hm (by omega) (by omega) (by omega) (hA.keep hw) (hB.keep hw)
  have HAR : Hid (∀ w, Below W.heap.size W w → _) := fun w hw => scs_read (hA.keep hw) (by omega)
  have HX := Lib.hid hx
  have HN := Lib.hid hn
  have HM := Lib.hid hm
  have HB1 := Lib.hid hb1
  have HP := Lib.hid hP
  have HR := Lib.hid hR
  have HHL := Lib.hid hl
  unfold csV at *
  clear h hn hm hA hB hb1 hl hx hR hml
  have q1 : (clk == 1099511627776) = false := by simp; omega
  have q2 : IntKind.i64.wrap (clk + 1) = clk + 1 := IntWalk.i64_in _ (by omega)
  have q3 : (k : Int) < (n : Int) := by omega
  obtain ⟨xv, xd, xb, xs⟩ := x
  dsimp only at hv
  subst hv
  go_enter Tryz.func96, Tryz.ntmps96
  go_upto_region 1 with (fail)
  generalize ((W.alloc (.cells #[.slice A n c, .int .i64 clk, .slice B m d] 58)).alloc (.cells #[.slice none 0 0, .int .i64 0, .slice none 0 0] 58)) = W1 at *
  obtain ⟨p0, p1, p2⟩ := hP.three
  clear hP
  go_upto_region 4 with (go_at_call 133; refine (HC.out W1 HB1.out).mono ?_; rintro e w2 ⟨rfl, hb2⟩; obtain ⟨p0, p1, p2⟩ := HP.out.three' hb2 (by rw [HS1.out]; omega); clear HC)
  have HP2 := Lib.hid (HP.out.below hb2 (by rw [HS1.out]; omega))
  have HR2 := Lib.hid (HR.out.below hb2 (by rw [HS1.out]; omega))
  have HB2 := Lib.hid (HB1.out.trans (hb2.mono (by rw [HS1.out]; omega)))
  have HG2 : Hid (W.heap.size + 1 + 1 ≤ w2.heap.size) := by have := hb2.size; rw [HS1.out] at this; exact this
  clear hb2 HP HB1 HR HS1
  obtain ⟨bA, oA, rfl, -, hcs⟩ := HAR.out w2 HB2.out
  have c0 := (hcs k _ HX.out).1
  dsimp only at c0
  clear hcs HAR
  go_upto_region 8 with (fail)
  clear c0
  go_upto_region 9 with (go_at_call 134; refine (HO.out w2 HB2.out).mono ?_; rintro e w3 ⟨a, b, rfl, hSa, hMb, hab, hga, hgb, hb3⟩; obtain ⟨p0, p1, p2⟩ := HP2.out.three' hb3 (by have := HG2.out; omega))
  have HP3 := Lib.hid (HP2.out.below hb3 (by have := HG2.out; omega))
  have HR3 := Lib.hid (HR2.out.below hb3 (by have := HG2.out; omega))
  have HB3 := Lib.hid (HB2.out.trans (hb3.mono HB2.out.size))
  have hg3 : W.heap.size + 1 + 1 ≤ w3.heap.size := Nat.le_trans HG2.out hb3.size
  have ha3 : a < w3.heap.size := hSa.lt
  have hb3l : b < w3.heap.size := hMb.lt
  have ha0 : w2.heap.size ≤ a := hga
  have hb0 : w2.heap.size ≤ b := hgb
  have hT := Cs.new w3 58 #[.slice (some ⟨a, 0, none⟩) n n, .int .i64 clk, .slice (some ⟨b, 0, none⟩) m m]
  have hb4 : Below w3.heap.size w3 (w3.alloc (.cells #[.slice (some ⟨a, 0, none⟩) n n, .int .i64 clk, .slice (some ⟨b, 0, none⟩) m m] 58)) := (Below.refl _ w3).alloc (Nat.le_refl _) _
  have hS4 := hSa.below hb4 ha3
  have hM4 := hMb.below hb4 hb3l
  have hR4 := HR3.out.below hb4 (by omega)
  have hB4 := HB3.out.trans (hb4.mono (by have := HB3.out.size; omega))
  have hsz2 : W.heap.size + 1 + 1 ≤ w2.heap.size := HG2.out
  generalize w3.heap.size = g3 at *
  generalize (w3.alloc (.cells #[.slice (some ⟨a, 0, none⟩) n n, .int .i64 clk, .slice (some ⟨b, 0, none⟩) m m] 58)) = W4 at *
  have HS4 := Lib.hid hS4
  have HM4 := Lib.hid hM4
  have HR4 := Lib.hid hR4
  have HB4 := Lib.hid hB4
  have HT4 := Lib.hid hT
  clear hSa hMb hga hgb hb3 HP2 HR2 HB2 HG2 HP3 HR3 HB3 hS4 hM4 hR4 hB4 hb4 HO p0 p1 p2
  obtain ⟨t0, t1, t2⟩ := hT.three
  have f1 := hT.free 1
  clear hT
  go_upto_region 10 with (fail)
  have hT5 : Cs (W4.setCell ⟨g3, 1, none⟩ (.int .i64 (clk + 1))) g3 58 #[.slice (some ⟨a, 0, none⟩) n n, .int .i64 (clk + 1), .slice (some ⟨b, 0, none⟩) m m] := Cs.put (l := [_, _, _]) HT4.out _
  have HS5 := Lib.hid (HS4.out.off (b := g3) (i := 1) (by omega) (.int .i64 (clk + 1)))
  have HM5 := Lib.hid (HM4.out.off (b := g3) (i := 1) (by omega) (.int .i64 (clk + 1)))
  have HR5 := Lib.hid (HR4.out.off (b := g3) (i := 1) (by omega) (.int .i64 (clk + 1)))
  have HB5 := Lib.hid (HB4.out.setCell (p := ⟨g3, 1, none⟩) (by show W.heap.size ≤ g3; omega) (.int .i64 (clk + 1)))
  clear HS4 HM4 HR4 HB4 HT4 t0 t1 t2 f1
  generalize (W4.setCell ⟨g3, 1, none⟩ (.int .i64 (clk + 1))) = W5 at *
  have HT5 := Lib.hid hT5
  obtain ⟨t0, t1, t2⟩ := hT5.three
  have f3 := HS5.out.free (k * 4 + 3)
  have s3 : W5.cell? ⟨a, k * 4 + 3, none⟩ = some (.int .i64 xs) := by
    have := HS5.out.cell (k * 4 + 3)
    rw [List.getElem?_toArray, (scs_at l k _ HX.out).2.2.2] at this
    exact this
  clear hT5
  go_upto_region 11 with (fail)
  have HST := Lib.hid (scs_stamp l k _ (clk + 1) HX.out)
  have hT6 := HT5.out.off (b := a) (i := k * 4 + 3) (by omega) (.int .i64 (clk + 1))
  have HS6 := Lib.hid (HS5.out.put (i := k * 4 + 3) (.int .i64 (clk + 1)))
  have HM6 := Lib.hid (HM5.out.off (b := a) (i := k * 4 + 3) (fun e => hab e.symm) (.int .i64 (clk + 1)))
  have hR6 := HR5.out.off (b := a) (i := k * 4 + 3) (by omega) (.int .i64 (clk + 1))
  have HB6 := Lib.hid (HB5.out.setCell (p := ⟨a, k * 4 + 3, none⟩) (by show W.heap.size ≤ a; omega) (.int .i64 (clk + 1)))
  clear HS5 HM5 HR5 HB5 HT5 t0 t1 t2 f3 s3
  generalize (W5.setCell ⟨a, k * 4 + 3, none⟩ (.int .i64 (clk + 1))) = W6 at *
  obtain ⟨t0, t1, t2⟩ := hT6.three
  obtain ⟨r0, r1, r2⟩ := hR6.three
  have f0 := hR6.free 0
  have f1 := hR6.free 1
  have f2 := hR6.free 2
  have HR6 := Lib.hid hR6
  clear hT6 hR6
  go_wp2_with fail
  (try simp only [Exit.inBlock, Exit.then])
  refine bodyPost_ret (res_state_tmp rfl _ _ (W.heap.size + 1) _ _ _ rfl (Cs.put3 HR6.out _ _ _)) rfl ?_
  refine ⟨_, rfl, ⟨a, n, m, some ⟨b, 0, none⟩, m, rfl, ?_, HM.out, ?_, Cs.reads (t := 3) ((heap_put3 _ (by omega) _ _ _).trans HM6.out), by omega, fun p hp => ?_⟩, below_put3 HB6.out (by omega) _ _ _⟩
  · show (List.set _ _ _).length = n
    rw [List.length_set]; exact HN.out
  · have : CS.touch ⟨l, clk, ms⟩ k = ⟨l.set k ⟨true, xd, xb, clk + 1⟩, clk + 1, ms⟩ := by unfold CS.touch; rw [CS.at_eq HX.out]
    have hfin : Cs W6 a 31 (scs (CS.touch ⟨l, clk, ms⟩ k).sl).toArray := by
      rw [this]
      show Cs _ _ _ (scs (l.set k ⟨true, xd, xb, clk + 1⟩)).toArray
      rw [HST.out]
      exact HS6.out
    exact (heap_put3 _ (by omega) _ _ _).trans hfin
  · injection hp with hp
    subst hp
    exact ⟨by show W.heap.size ≤ b; omega, fun e => hab e.symm⟩
end Go.Proofs.YtogchafnnkajfaaGreat
namespace Go.Proofs.YtogchafnnkajfaaGreat
set_option linter.unusedVariables false
open Go.RowKit
variable {P : Program}
theorem run_appendS (w : World) (t ty e : TypeId) (i : TypeInfo) (size : Nat) (ht : P.underlying t = some (.slice e)) (hi : P.info? e = some i) (hs : i.size = size) (hp : 0 < size)
    (g n cap : Nat) (a : Addr) (m c : Nat) (cur : List Value) (cs : List Value)
    (hg : Cs w g e cur.toArray) (hn : cs.length = m * size) (hsrc : ∀ j v, cs[j]? = some v → w.cell? (a.add j) = some v) (hroom : n + m ≤ cap) (hfit : n * size + cs.length ≤ cur.length) (h1 : ∀ v ∈ cs, v.oneCell' = true) :
    (Builtin.append_ #[t, t] ty #[.slice (some ⟨g, 0, none⟩) n cap, .slice (some a) m c]).run P w = .ok (.slice (some ⟨g, 0, none⟩) (n + m) cap) (w.setRow g (splice cur (n * size) cs).toArray) := by
  have hl := run_loadCells_list (P := P) w a cs hsrc
  have hst := run_storeCells_at P g (n * size) e cs 0 cur.toArray w hg (by simpa using hfit) h1
  rw [hn] at hl
  simp [Builtin.append_, run_underlying ht, sizeOf, typeInfo, hi, hs, Builtin.lenOf, Builtin.firstCells, hroom, hl, hst, splice, Addr.add_lit]
theorem run_clearS (w : World) (t ty e : TypeId) (z : Value) (ht : P.underlying t = some (.slice e)) (hv : ∀ w, (zeroValue e).run P w = .ok z w)
    (g o n c : Nat) (cur : List Value) (hg : Cs w g e cur.toArray) (h0 : 0 < n) (hfit : o + (Builtin.zeroCells z.cells n).toList.length ≤ cur.length) (h1 : ∀ v ∈ (Builtin.zeroCells z.cells n).toList, v.oneCell' = true) :
    (Builtin.clear_ #[t] ty #[.slice (some ⟨g, o, none⟩) n c]).run P w = .ok (.tuple #[]) (w.setRow g (splice cur o (Builtin.zeroCells z.cells n).toList).toArray) := by
  have hst := run_storeCells_at P g o e (Builtin.zeroCells z.cells n).toList 0 cur.toArray w hg (by simpa using hfit) h1
  cases n with
  | zero => omega
  | succ n => simp [Builtin.clear_, run_underlying ht, hv, hst, splice]
theorem wpList_clear_run (w : World) {ops : Array Oper} {rest : List Oper} {o : Oper} {a : Act} {Q : Exit → Act → World → Prop} (hgd : o.guard = none) (s : Operand) (t : TypeId)
    (ho : o.op = .call { callee := .builtin .clear, args := #[s], argTypes := #[t] }) (vs : Value) (hs : a.eval s = vs)
    (v' : Value) (w' : World) (hr : (Builtin.clear_ #[t] o.type #[vs]).run P w = .ok v' w') (h : wpList P ops Q rest (a.put o.dst v') w') : wpList P ops Q (o :: rest) a w := by
  refine wpList_plain hgd fun K hK => ?_
  unfold Oper.wp
  simp only [execOp, ho, resolve, invoke, builtin, Sem.run_bind, Sem.run_pure, Result.andThen_ok, List.map_toArray, List.map_cons, List.map_nil, hs, hr]
  exact hK _ _ h
end Go.Proofs.YtogchafnnkajfaaGreat
namespace Go.Proofs.YtogchafnnkajfaaGreat
set_option linter.unusedVariables false
open Go.RowKit Go.Shelf
attribute [local go_sem] Oper.semAt_some
theorem get_not {l : List Int} {b : Int} {i : Nat} {x : Int} (h : ∀ (j : Nat), j < i → ¬ l[j]? = some b) (hx : l[i]? = some x) (hne : ¬ x = b) : ∀ (j : Nat), j < i + 1 → ¬ l[j]? = some b := by
  intro j hj
  by_cases e : j = i
  · subst e; rw [hx]; intro e; injection e with e; exact hne e
  · exact h j (by omega)
set_option maxRecDepth 100000 in
set_option maxHeartbeats 2000000 in
theorem index_any (W : World) (B : Option Addr) (m d : Nat) (ms : List Int) (b : Int) (hm : ms.length = m) (hm2 : m ≤ 1000000) (hB : Reads W B (iv ms)) :
    Calls Tryz.prog 135 #[.slice B m d, .int .i64 b] W fun e w' => (∃ r, e = .returned (.int .i64 r) ∧ ((r = -1 ∧ ∀ (j : Nat), j < m → ¬ ms[j]? = some b) ∨ ∃ i : Nat, r = (i : Int) ∧ ms[i]? = some b)) ∧ Below W.heap.size W w' := by
  have HM := Lib.hid hm
  have HB := Lib.hid hB
  clear hm hB
  go_enter Tryz.func135, Tryz.ntmps135
  go_wp2_with fail
  go_loopw [8] (fun z wr => ∃ i : Nat, z = .int .i64 i ∧ i ≤ m ∧ (∀ (j : Nat), j < i → ¬ ms[j]? = some b) ∧ Below W.heap.size W wr) (fun z _ => m - (intOf z).toNat)
  case atStart => exact ⟨0, rfl, Nat.zero_le _, (fun j hj => by omega), Below.refl _ _⟩
  case round =>
    obtain ⟨i, rfl, hi, hno, hbw⟩ := hrel
    have HNO := Lib.hid hno
    have HBW := Lib.hid hbw
    clear hno
    by_cases hlt : i < m
    · obtain ⟨x, hx⟩ : ∃ x, ms[i]? = some x := ⟨_, List.getElem?_eq_getElem (by rw [HM.out]; exact hlt)⟩
      have u1 : (i : Int) < (m : Int) := by omega
      obtain ⟨b0, o, rfl, hbl, hcs⟩ := (HB.out.keep hbw).i (by rw [HM.out]; omega)
      have c0 := hcs i (by rw [HM.out]; exact hlt)
      rw [hx, Option.getD_some] at c0
      have HX := Lib.hid hx
      clear hcs hx hbw
      have e1 : IntKind.i64.wrap ((i : Int) + 1) = ((i + 1 : Nat) : Int) := by rw [IntWalk.i64_in _ (by omega)]; rfl
      by_cases hp : x = b
      · subst hp
        go_wp2_with fail
        go_ret
        exact ⟨⟨_, rfl, .inr ⟨i, rfl, HX.out⟩⟩, HBW.out⟩
      · have hp2 : (b == x) = false := by simp; exact fun e => hp e.symm
        have HNO2 := Lib.hid (get_not HNO.out HX.out hp)
        clear hp
        go_wp2_with fail
        go_roundw
        case rel => exact ⟨i + 1, by go_num, by omega, HNO2.out, HBW.out⟩
        case measure => simp [intOf]; omega
    · have hin : i = m := by omega
      subst hin
      clear hbw
      go_wp2_with fail
      go_ret
      exact ⟨⟨_, rfl, .inl ⟨rfl, HNO.out⟩⟩, HBW.out⟩
set_option maxHeartbeats 1000000 in
theorem place1_any (W : World) (x : Int) (bb : Nat) (b : Int) (hb : W.cell? ⟨bb, 0, none⟩ = some (.int .i64 b)) :
    Calls Tryz.prog 154 #[.int .i64 x, .pointer (some ⟨bb, 0, none⟩)] W fun e w' => e = .returned (.bool (x == b)) ∧ Below W.heap.size W w' := by
  go_enter Tryz.func154, Tryz.ntmps154
  go_wp2_with fail
  go_ret
  exact ⟨rfl, Below.refl _ _⟩
set_option maxRecDepth 100000 in
set_option maxHeartbeats 2000000 in
theorem idxf_no (W : World) (B : Option Addr) (m d : Nat) (ms : List Int) (b : Int) (hm : ms.length = m) (hm2 : m ≤ 1000000) (hB : Reads W B (iv ms)) (bb : Nat) (hb : W.cell? ⟨bb, 0, none⟩ = some (.int .i64 b)) (hbb : bb < W.heap.size) (hno : ¬ b ∈ ms) :
    Calls Tryz.prog 160 #[.slice B m d, .func (.func 154) #[] #[.pointer (some ⟨bb, 0, none⟩)]] W fun e w' => e = .returned (.int .i64 (-1)) ∧ Below W.heap.size W w' := by
  have HM := Lib.hid hm
  have HB := Lib.hid hB
  have HBB := Lib.hid hb
  have HNO : Hid (∀ (i : Nat) (x : Int), ms[i]? = some x → (x == b) = false) := fun i x hx => by
    have : ¬ x = b := fun e => hno (e ▸ List.mem_of_getElem? hx)
    simpa using this
  clear hm hB hb hno
  go_enter Tryz.func160, Tryz.ntmps160
  go_wp2_with fail
  go_loopw [8] (fun z wr => ∃ i : Nat, z = .int .i64 i ∧ i ≤ m ∧ Below W.heap.size W wr) (fun z _ => m - (intOf z).toNat)
  case atStart => exact ⟨0, rfl, Nat.zero_le _, Below.refl _ _⟩
  case round =>
    obtain ⟨i, rfl, hi, hbw⟩ := hrel
    have HBW := Lib.hid hbw
    by_cases hlt : i < m
    · obtain ⟨x, hx⟩ : ∃ x, ms[i]? = some x := ⟨_, List.getElem?_eq_getElem (by rw [HM.out]; exact hlt)⟩
      have u1 : (i : Int) < (m : Int) := by omega
      obtain ⟨b0, o, rfl, hbl, hcs⟩ := (HB.out.keep hbw).i (by rw [HM.out]; omega)
      have c0 := hcs i (by rw [HM.out]; exact hlt)
      rw [hx, Option.getD_some] at c0
      have HX := Lib.hid (HNO.out i x hx)
      have HC := Lib.hid (place1_any wr x bb b ((hbw.cell (p := ⟨bb, 0, none⟩) hbb).trans HBB.out))
      clear hcs hx hbw
      have e1 : IntKind.i64.wrap ((i : Int) + 1) = ((i + 1 : Nat) : Int) := by rw [IntWalk.i64_in _ (by omega)]; rfl
      go_wp2_with fail
      refine HC.out.mono ?_
      rintro e w1 ⟨rfl, hb1⟩
      have HB1 := Lib.hid (HBW.out.trans (hb1.mono HBW.out.size))
      rw [HX.out]
      clear hb1 HBW HC c0
      go_wp2_with fail
      go_roundw
      case rel => exact ⟨i + 1, by go_num, by omega, HB1.out⟩
      case measure => simp [intOf]; omega
    · have hin : i = m := by omega
      subst hin
      clear hbw
      go_wp2_with fail
      go_ret
      exact ⟨rfl, HBW.out⟩
set_option maxRecDepth 100000 in
set_option maxHeartbeats 2000000 in
theorem delf_no (W : World) (B : Option Addr) (m d : Nat) (ms : List Int) (b : Int) (hm : ms.length = m) (hm2 : m ≤ 1000000) (hB : Reads W B (iv ms)) (bb : Nat) (hb : W.cell? ⟨bb, 0, none⟩ = some (.int .i64 b)) (hbb : bb < W.heap.size) (hno : ¬ b ∈ ms) :
    Calls Tryz.prog 153 #[.slice B m d, .func (.func 154) #[] #[.pointer (some ⟨bb, 0, none⟩)]] W fun e w' => e = .returned (.slice B m d) ∧ Below W.heap.size W w' := by
  have HI := Lib.hid (idxf_no W B m d ms b hm hm2 hB bb hb hbb hno)
  clear hm hB hb hno
  go_enter Tryz.func153, Tryz.ntmps153
  go_wp2_with (go_at_call 160; refine HI.out.mono ?_; rintro e w1 ⟨rfl, hb1⟩)
  go_ret
  exact ⟨rfl, hb1⟩
end Go.Proofs.YtogchafnnkajfaaGreat
namespace Go.Proofs.YtogchafnnkajfaaGreat
set_option linter.unusedVariables false
open Go.RowKit Go.Shelf
attribute [local go_sem] Oper.semAt_some
theorem spl_length {α : Type} (L : List α) (o : Nat) (X : List α) (h : o + X.length ≤ L.length) : (splice L o X).length = L.length := by
  simp [splice]; omega
theorem spl_at {α : Type} (A B X : List α) (o : Nat) (h : A.length = o) : splice (A ++ B) o X = A ++ (X ++ B.drop X.length) := by
  unfold splice
  rw [List.take_left' h, List.drop_append, List.drop_eq_nil_of_le (by omega)]
  simp [h]
theorem Cs.reads_pre {W : World} {b : Nat} {L l : List Value} {t : TypeId} (h : Cs W b t L.toArray) (k : Nat) (hl : L.take k = l) : Reads W (some ⟨b, 0, none⟩) l := by
  subst hl
  intro _
  refine ⟨b, 0, rfl, h.lt, fun j u hj => ?_⟩
  rw [List.getElem?_take] at hj
  split at hj
  · have := h.cell (0 + j)
    rw [List.getElem?_toArray, Nat.zero_add, hj] at this
    rw [Nat.zero_add]
    exact this
  · cases hj
theorem Fr.row {g : Nat} {W W' : World} {cs : Array Value} (h : Fr (· = g) W W') : Fr (· = g) W (W'.setRow g cs) :=
  h.trans ⟨rfl, rfl, rfl, by simp [World.setRow], fun j hj hn => setRow_other W' g j cs hn⟩
theorem own_make {w : World} {base n g cap : Nat} {e : TypeId} {size : Nat} {xs cur : List Value} (hc : Cs w g e cur.toArray) (hb : base ≤ g) (h1 : n ≤ cap) (h2 : cap ≤ maxLen) (hs : cur.length = cap * size) (ht : cur.take (n * size) = xs) (hx : xs.length = n * size) :
    w.ownsRow base e size (.slice (some ⟨g, 0, none⟩) n cap) n xs :=
  ⟨hx, .inr ⟨g, cap, cur.toArray, rfl, hb, hc, h1, h2, by simpa using hs, by simpa using ht⟩⟩
theorem deli_row (ms : List Int) (i m : Nat) (Z : List Value) (hl : ms.length = m) (hi : i < m) :
    (splice (splice (iv ms) i (iv (ms.drop (i + 1)))) (m - 1) Z).take (m - 1) = iv (ms.take i ++ ms.drop (i + 1)) := by
  have e0 : iv ms = iv (ms.take i) ++ iv (ms.drop i) := by rw [← iv_append, List.take_append_drop]
  have h1 : (iv (ms.take i)).length = i := by rw [iv_length, List.length_take]; omega
  rw [e0, spl_at _ _ _ _ h1, ← List.append_assoc, ← iv_append]
  have h2 : (iv (ms.take i ++ ms.drop (i + 1))).length = m - 1 := by rw [iv_length]; simp; omega
  rw [spl_at _ _ _ _ h2, List.take_left' h2]
set_option maxRecDepth 100000 in
set_option maxHeartbeats 2000000 in
theorem deli_any (W : World) (g m i : Nat) (ms : List Int) (hl : ms.length = m) (hi : i < m) (hm : m ≤ 100000) (hC : Cs W g 3 (iv ms).toArray) :
    Calls Tryz.prog 136 #[.slice (some ⟨g, 0, none⟩) m m, .int .i64 (i : Int), .int .i64 ((i : Int) + 1)] W fun e w' => e = .returned (.slice (some ⟨g, 0, none⟩) (m - 1) m) ∧ Reads w' (some ⟨g, 0, none⟩) (iv (ms.take i ++ ms.drop (i + 1))) ∧ Fr (· = g) W w' := by
  obtain ⟨i0, hi0, hz0, hz1, hz2⟩ := info_parts int_info
  have hzv : ∀ w, (zeroValue 3).run Tryz.prog w = .ok (.int .i64 0) w := fun w => by simp [zeroValue, typeInfo, hi0, hz0]
  have hZ : (Builtin.zeroCells (Value.int .i64 0).cells 1).toList = [.int .i64 0] := by kernel_rfl
  have hdl : (iv (ms.drop (i + 1))).length = m - (i + 1) := by rw [iv_length, List.length_drop, hl]
  have hcl : (iv ms).length = m := by rw [iv_length, hl]
  have hsl : (splice (iv ms) i (iv (ms.drop (i + 1)))).length = m := by rw [spl_length _ _ _ (by rw [hcl, hdl]; omega), hcl]
  have hap : ∀ (W : World), Cs W g 3 (iv ms).toArray → ∀ (a : Addr) ty, (0 < m - (i + 1) → a = ⟨g, i + 1, none⟩) → (Builtin.append_ #[22, 22] ty #[.slice (some ⟨g, 0, none⟩) i m, .slice (some a) (m - (i + 1)) (m - (i + 1))]).run Tryz.prog W = .ok (.slice (some ⟨g, 0, none⟩) (m - 1) m) (W.setRow g (splice (iv ms) i (iv (ms.drop (i + 1)))).toArray) := by
    intro W hW a ty ha
    have h := run_appendS (P := Tryz.prog) W 22 ty 3 i0 1 Tryz.underlying22 hi0 hz1 (by omega) g i m a (m - (i + 1)) (m - (i + 1)) (iv ms) (iv (ms.drop (i + 1))) hW (by rw [hdl]; omega) (fun j u hj => by
      have hlt := (List.getElem?_eq_some_iff.1 hj).1
      rw [hdl] at hlt
      rw [ha (by omega), Addr.add_lit]
      have h := hW.cell (i + 1 + j)
      rw [List.getElem?_toArray, show (iv ms)[i + 1 + j]? = (iv (ms.drop (i + 1)))[j]? by simp [iv], hj] at h
      exact h) (by omega) (by rw [hdl, hcl]; omega) (iv_one _)
    rw [show i + (m - (i + 1)) = m - 1 by omega, Nat.mul_one] at h
    exact h
  have hcr : ∀ (W : World), Cs W g 3 (splice (iv ms) i (iv (ms.drop (i + 1)))).toArray → ∀ ty, (Builtin.clear_ #[22] ty #[.slice (some ⟨g, m - 1, none⟩) 1 (m - (m - 1))]).run Tryz.prog W = .ok (.tuple #[]) (W.setRow g (splice (splice (iv ms) i (iv (ms.drop (i + 1)))) (m - 1) [.int .i64 0]).toArray) := by
    intro W hW ty
    have h := run_clearS (P := Tryz.prog) W 22 ty 3 _ Tryz.underlying22 hzv g (m - 1) 1 (m - (m - 1)) _ hW (by omega) (by rw [hZ, hsl]; simp; omega) (by rw [hZ]; simp [Value.oneCell'])
    rw [hZ] at h
    exact h
  have hDEL := Lib.hid (deli_row ms i m [.int .i64 0] hl hi)
  have HL := Lib.hid hl
  have HG := Lib.hid hC
  have HSL := Lib.hid hsl
  have HAP := Lib.hid hap
  have HCR := Lib.hid hcr
  have z1 : ((i : Int) == (i : Int) + 1) = false := by simp; omega
  have z2 : (i : Int) + 1 ≤ (m : Int) := by omega
  have z3 : ¬ m = i := by omega
  have z8 : (i : Int) ≤ (m : Int) := by omega
  have z12 : i ≤ m := by omega
  clear hl hdl hsl hap hcr hC hcl hZ hzv hi0 hz0 hz1 hz2
  go_enter Tryz.func136, Tryz.ntmps136
  by_cases hc : m = i + 1
  · subst hc
    have e0 : i + 1 - (i + 1) = 0 := by omega
    have e1 : i + 1 - 1 = i := by omega
    rw [e0, e1] at HAP
    rw [e1] at HCR hDEL ⊢
    clear e0 e1
    have y1 : (i : Int) ≤ (i : Int) + 1 := by omega
    have y2 : i ≤ i + 1 := by omega
    go_wp2_with fail
    have t3 : ((i : Int) + 1).toNat = i + 1 := by omega
    have t5 : (0 : Int) ≤ (i : Int) + 1 := by omega
    have t7 : i + 1 ≤ i + 1 := by omega
    go_still_tail 6, (by kernel_rfl)
    change wpList _ _ _ _ _ W.drew
    refine Lib.wpList_append_run _ rfl (.tmp 22) (.tmp 25) _ _ rfl (.slice (some ⟨g, 0, none⟩) i (i + 1)) (.slice (some ⟨g, 0, none⟩) 0 0) (by simp [Act.eval]) (by simp [Act.eval]) _ _ (HAP.out W.drew HG.out _ _ (fun h => absurd h (by omega))) ?_
    have hB1 : Fr (· = g) W (W.drew.setRow g (splice (iv ms) i (iv (ms.drop (i + 1)))).toArray) := Fr.row (Fr.refl _ W).drew
    have hC1 := setRow_heap W.drew g _ (splice (iv ms) i (iv (ms.drop (i + 1)))).toArray 3 _ HG.out
    have HC1 := Lib.hid (show Cs (W.drew.setRow g (splice (iv ms) i (iv (ms.drop (i + 1)))).toArray) g _ _ from hC1)
    clear hC1
    generalize (W.drew.setRow g _) = W1 at hB1 HC1 ⊢
    have t8 : (i : Int) ≤ (i : Int) + 1 := by omega
    have t9 : i + 1 - i = 1 := by omega
    have t10 : ¬ (i + 1) = i := by omega
    clear t3
    go_wp2_with (refine wpList_clear_run _ rfl (.tmp 31) _ rfl (.slice (some ⟨g, (i), none⟩) 1 ((i + 1) - (i))) (by simp [Act.eval, t9] <;> omega) _ _ (HCR.out W1 HC1.out _) ?_)
    go_ret
    refine ⟨rfl, Cs.reads_pre (t := 3) (setRow_heap _ _ _ _ _ _ HC1.out) i hDEL.out, hB1.row⟩
  · have z6 : ¬ m = i + 1 := hc
    go_wp2_with fail
    have t3 : ((i : Int) + 1).toNat = i + 1 := by omega
    have t5 : (0 : Int) ≤ (i : Int) + 1 := by omega
    have t7 : i + 1 ≤ m := by omega
    go_still_tail 6, (by kernel_rfl)
    change wpList _ _ _ _ _ W.drew
    refine Lib.wpList_append_run _ rfl (.tmp 22) (.tmp 25) _ _ rfl (.slice (some ⟨g, 0, none⟩) i m) (.slice (some ⟨g, i + 1, none⟩) (m - (i + 1)) (m - (i + 1))) (by simp [Act.eval]) (by simp [Act.eval]) _ _ (HAP.out W.drew HG.out _ _ (fun h => rfl)) ?_
    have hB1 : Fr (· = g) W (W.drew.setRow g (splice (iv ms) i (iv (ms.drop (i + 1)))).toArray) := Fr.row (Fr.refl _ W).drew
    have hC1 := setRow_heap W.drew g _ (splice (iv ms) i (iv (ms.drop (i + 1)))).toArray 3 _ HG.out
    have HC1 := Lib.hid (show Cs (W.drew.setRow g (splice (iv ms) i (iv (ms.drop (i + 1)))).toArray) g _ _ from hC1)
    clear hC1
    generalize (W.drew.setRow g _) = W1 at hB1 HC1 ⊢
    have t8 : ((m - 1 : Nat) : Int) ≤ (m : Int) := by omega
    have t9 : m - (m - 1) = 1 := by omega
    have t10 : ¬ m = m - 1 := by omega
    clear t3
    go_wp2_with (refine wpList_clear_run _ rfl (.tmp 31) _ rfl (.slice (some ⟨g, m - 1, none⟩) 1 (m - (m - 1))) (by simp [Act.eval] <;> omega) _ _ (HCR.out W1 HC1.out _) ?_)
    go_ret
    refine ⟨rfl, Cs.reads_pre (t := 3) (setRow_heap _ _ _ _ _ _ HC1.out) (m - 1) hDEL.out, hB1.row⟩
end Go.Proofs.YtogchafnnkajfaaGreat
namespace Go.Proofs.YtogchafnnkajfaaGreat
set_option linter.unusedVariables false
open Go.RowKit Go.Shelf
attribute [local go_sem] Oper.semAt_some
theorem filter_ne (l : List Int) (i : Nat) (b : Int) (h : l.Nodup) (hi : l[i]? = some b) : l.filter (· ≠ b) = l.take i ++ l.drop (i + 1) := by
  have hlt := (List.getElem?_eq_some_iff.1 hi).1
  have e : l = l.take i ++ b :: l.drop (i + 1) := by rw [← (List.getElem?_eq_some_iff.1 hi).2, List.getElem_cons_drop, List.take_append_drop]
  have hn := h
  rw [e, List.nodup_append] at hn
  have h1 : ∀ x ∈ l.take i, x ≠ b := fun x hx => hn.2.2 x hx b (by simp)
  have h2 : ∀ x ∈ l.drop (i + 1), x ≠ b := fun x hx e => (List.nodup_cons.1 hn.2.1).1 (e ▸ hx)
  conv => lhs; rw [e]
  rw [List.filter_append, List.filter_cons, if_neg (by simp), List.filter_eq_self.2 (fun x hx => by simpa using h1 x hx), List.filter_eq_self.2 (fun x hx => by simpa using h2 x hx)]
theorem filter_no (l : List Int) (b : Int) (h : ¬ b ∈ l) : l.filter (· ≠ b) = l := List.filter_eq_self.2 (fun x hx => by
  have : x ≠ b := fun e => h (e ▸ hx)
  simpa using this)
theorem res_state_two {fn : Func} {p u q : Tmp} (h : fn.results = #[.cell p 58, .tmp u, .tmp q]) (tmps : Array Value) (W : World) (g : Nat) (x y z : Value) (hp : tmps.getD p undef = .pointer (some ⟨g, 0, none⟩)) (hg : Cs W g 58 #[x, y, z]) :
    (results fn tmps).run Tryz.prog W = .ok (.tuple #[.agg #[x, y, z], tmps.getD u undef, tmps.getD q undef]) W := by
  have hl := run_load_state W g x y z hg
  have hp' : tmps[p]?.getD undef = .pointer (some ⟨g, 0, none⟩) := by simpa using hp
  simp [results, h, hp', asAddr, hl, Result.andThen]
theorem own_reads {W : World} {base n c : Nat} {A : Option Addr} {xs : List Value} {e : TypeId} (h : W.ownsRow base e 1 (.slice A n c) n xs) : Reads W A xs := by
  intro h0
  rcases h.2 with ⟨he, hn⟩ | ⟨g, cap, cur, hv, hb, hg, h1, h2, hs, ht⟩
  · exact absurd (by rw [h.1, hn, Nat.zero_mul]) h0
  · injection hv with hA
    subst hA
    subst ht
    refine ⟨g, 0, rfl, (Array.getElem?_eq_some_iff.1 hg).1, fun j u hj => ?_⟩
    rw [List.getElem?_take] at hj
    split at hj
    · have := Cs.cell (show Cs W g e cur from hg) (0 + j)
      rw [Nat.zero_add, ← Array.getElem?_toList, hj] at this
      rw [Nat.zero_add]
      exact this
    · cases hj
theorem Reads.blk {w w' : World} {B : Option Addr} {l : List Value} (h : Reads w B l) (hb : ∀ p, B = some p → w'.heap[p.block]? = w.heap[p.block]?) (hs : w.heap.size ≤ w'.heap.size) : Reads w' B l := by
  intro h0
  obtain ⟨b, o, e, hlt, hc⟩ := h h0
  subst e
  have hb' := hb _ rfl
  exact ⟨b, o, rfl, Nat.lt_of_lt_of_le hlt hs, fun j u hj => (World.cell?_of_block (a := ⟨b, o + j, none⟩) hb').trans (hc j u hj)⟩
theorem Reads.drop1 {w : World} {g : Nat} {l v : List Value} (h : Reads w (some ⟨g, 0, none⟩) l) (hv : v = l.drop 1) : Reads w (some ⟨g, 1, none⟩) v := by
  subst hv
  intro h0
  obtain ⟨b, o, e, hlt, hc⟩ := h (fun e => h0 (by rw [List.length_drop, e]))
  injection e with e
  injection e with e1 e2
  subst e1
  subst e2
  refine ⟨_, _, rfl, hlt, fun j u hj => ?_⟩
  rw [List.getElem?_drop] at hj
  have := hc _ u hj
  rwa [show 0 + (1 + j) = 1 + j by omega] at this
theorem CsOut.fin {k r : Nat} {W : World} {x : CS} {a n m d : Nat} {B : Option Addr} (u v z : Value) (hn : x.sl.length = n) (hm : x.ms.length = m) (hS : Cs W a 31 (scs x.sl).toArray) (hB : Reads W B (iv x.ms)) (hka : k ≤ a)
    (hp : ∀ p, B = some p → k ≤ p.block ∧ p.block ≠ a) (hra : a ≠ r) (hrB : ∀ p, B = some p → p.block ≠ r) : CsOut k (((W.setCell ⟨r, 0, none⟩ u).setCell ⟨r, 1, none⟩ v).setCell ⟨r, 2, none⟩ z) x (.agg #[.slice (some ⟨a, 0, none⟩) n n, .int .i64 x.clk, .slice B m d]) :=
  ⟨a, n, m, B, d, rfl, hn, hm, (heap_put3 _ hra _ _ _).trans hS, hB.blk (fun p e => heap_put3 _ (hrB p e) _ _ _) (by simp), hka, hp⟩
set_option maxRecDepth 100000 in
set_option maxHeartbeats 4000000 in
theorem cmiss_any (W : World) (A B : Option Addr) (n c m d : Nat) (s : CS) (h : s.Ok) (hn : s.sl.length = n) (hm : s.ms.length = m) (hA : Reads W A (scs s.sl)) (hB : Reads W B (iv s.ms)) (b : Int) (hb : 0 ≤ b ∧ b ≤ 16777215) (hf : s.find b = -1) :
    Calls Tryz.prog 97 #[csV A n c s.clk B m d, .int .i64 b] W fun e w' => ∃ v, e = .returned (.tuple #[v, .bool (s.miss b).2, .int .i64 0]) ∧ CsOut W.heap.size w' (s.miss b).1 v ∧ Below W.heap.size W w' := by
  obtain ⟨l, clk, ms⟩ := s
  dsimp only at hn hm hA hB ⊢
  have hnd : ms.Nodup := h.mn
  have hl : 1 ≤ l.length ∧ l.length ≤ 1024 := h.len
  have hcl : 0 ≤ clk := h.clk.1
  have hml : ms.length ≤ 8 := h.msl
  have hb1 : Below W.heap.size W ((W.alloc (.cells #[.slice A n c, .int .i64 clk, .slice B m d] 58)).alloc (.cells #[.slice none 0 0, .int .i64 0, .slice none 0 0] 58)) := ((Below.refl _ W).alloc (Nat.le_refl _) _).alloc (by simp) _
  have hP := (Cs.new W 58 #[.slice A n c, .int .i64 clk, .slice B m d]).alloc (.cells #[.slice none 0 0, .int .i64 0, .slice none 0 0] 58)
  have hR := Cs.new (W.alloc (.cells #[.slice A n c, .int .i64 clk, .slice B m d] 58)) 58 #[.slice none 0 0, .int .i64 0, .slice none 0 0]
  rw [World.size_alloc] at hR
  have HS1 : Hid (((W.alloc (.cells #[.slice A n c, .int .i64 clk, .slice B m d] 58)).alloc (.cells #[.slice none 0 0, .int .i64 0, .slice none 0 0] 58)).heap.size = W.heap.size + 1 + 1) := by show _ = _; simp
  have HC : Hid (∀ w, Below W.heap.size W w → _) := fun w hw => cvalid_any w A B n c m d ⟨l, clk, ms⟩ h hn hm (hA.keep hw) (hB.keep hw)
  have hf2 : idxOf (fun x => x.valid && x.block == b) l = -1 := hf
  have HF : Hid (∀ w, Below W.heap.size W w → Calls Tryz.prog 132 #[csV A n c clk B m d, .int .i64 b] w fun e w' => e = .returned (.int .i64 (-1)) ∧ Below w.heap.size w w') := fun w hw => by
    have := cfind_any w A B n c m d clk l b hn (by omega) (hA.keep hw)
    rwa [hf2] at this
  have HO : Hid (∀ w, Below W.heap.size W w → _) := fun w hw => own_any w A B n c m d clk l ms hn hm (by omega) (by omega) (by omega) (hA.keep hw) (hB.keep hw)
  have HN := Lib.hid hn
  have HM := Lib.hid hm
  have HND := Lib.hid hnd
  have HML := Lib.hid hml
  have HB1 := Lib.hid hb1
  have HP := Lib.hid hP
  have HR := Lib.hid hR
  have HHL := Lib.hid hl
  unfold csV at *
  have q1 : ¬ b < 0 := by omega
  have q2 : ¬ 16777215 < b := by omega
  have d1 : decide (b < 0) = false := decide_eq_false q1
  have d2 : decide (16777215 < b) = false := decide_eq_false q2
  clear h hn hm hA hB hb1 hl hR hml hnd hf hf2
  go_enter Tryz.func97, Tryz.ntmps97
  go_upto_region 1 with (fail)
  generalize ((W.alloc (.cells #[.slice A n c, .int .i64 clk, .slice B m d] 58)).alloc (.cells #[.slice none 0 0, .int .i64 0, .slice none 0 0] 58)) = W1 at *
  obtain ⟨p0, p1, p2⟩ := hP.three
  clear hP
  go_upto_region 3 with (go_at_call 124; refine (HC.out W1 HB1.out).mono ?_; rintro e w2 ⟨rfl, hb2⟩; obtain ⟨p0, p1, p2⟩ := HP.out.three' hb2 (by rw [HS1.out]; omega); clear HC)
  have HP2 := Lib.hid (HP.out.below hb2 (by rw [HS1.out]; omega))
  have HR2 := Lib.hid (HR.out.below hb2 (by rw [HS1.out]; omega))
  have HB2 := Lib.hid (HB1.out.trans (hb2.mono (by rw [HS1.out]; omega)))
  have HG2 : Hid (W.heap.size + 1 + 1 ≤ w2.heap.size) := by have := hb2.size; rw [HS1.out] at this; exact this
  clear hb2 HP HB1 HR HS1
  go_upto_region 7 with (go_at_call 132; refine (HF.out w2 HB2.out).mono ?_; rintro e w22 ⟨rfl, hb2⟩; obtain ⟨p0, p1, p2⟩ := HP2.out.three' hb2 (by have := HG2.out; omega); clear HF)
  have hq : W.heap.size + 1 + 1 ≤ w2.heap.size := HG2.out
  have HP22 := Lib.hid (HP2.out.below hb2 (by omega))
  have HR22 := Lib.hid (HR2.out.below hb2 (by omega))
  have HB22 := Lib.hid (HB2.out.trans (hb2.mono HB2.out.size))
  have HG22 : Hid (W.heap.size + 1 + 1 ≤ w22.heap.size) := Nat.le_trans HG2.out hb2.size
  clear hb2 HP2 HB2 HR2 HG2 hq
  rename World => w2
  go_upto_region 8 with (go_at_call 134; refine (HO.out w2 HB22.out).mono ?_; rintro e w3 ⟨a, bb, rfl, hSa, hMb, hab, hga, hgb, hb3⟩; obtain ⟨p0, p1, p2⟩ := HP22.out.three' hb3 (by have := HG22.out; omega))
  have HP3 := Lib.hid (HP22.out.below hb3 (by have := HG22.out; omega))
  have HR3 := Lib.hid (HR22.out.below hb3 (by have := HG22.out; omega))
  have HB3 := Lib.hid (HB22.out.trans (hb3.mono HB22.out.size))
  have hg3 : W.heap.size + 1 + 1 ≤ w3.heap.size := Nat.le_trans HG22.out hb3.size
  have ha3 : a < w3.heap.size := hSa.lt
  have hb3l : bb < w3.heap.size := hMb.lt
  have ha0 : w2.heap.size ≤ a := hga
  have hb0 : w2.heap.size ≤ bb := hgb
  have hT := Cs.new w3 58 #[.slice (some ⟨a, 0, none⟩) n n, .int .i64 clk, .slice (some ⟨bb, 0, none⟩) m m]
  have hb4 : Below w3.heap.size w3 (w3.alloc (.cells #[.slice (some ⟨a, 0, none⟩) n n, .int .i64 clk, .slice (some ⟨bb, 0, none⟩) m m] 58)) := (Below.refl _ w3).alloc (Nat.le_refl _) _
  have hS4 := hSa.below hb4 ha3
  have hM4 := hMb.below hb4 hb3l
  have hR4 := HR3.out.below hb4 (by omega)
  have hB4 := HB3.out.trans (hb4.mono (by have := HB3.out.size; omega))
  have hsz2 : W.heap.size + 1 + 1 ≤ w2.heap.size := HG22.out
  generalize w3.heap.size = g3 at *
  generalize (w3.alloc (.cells #[.slice (some ⟨a, 0, none⟩) n n, .int .i64 clk, .slice (some ⟨bb, 0, none⟩) m m] 58)) = W4 at *
  have HS4 := Lib.hid hS4
  have HM4 := Lib.hid hM4
  have HR4 := Lib.hid hR4
  have HB4 := Lib.hid hB4
  have HT4 := Lib.hid hT
  clear hSa hMb hga hgb hb3 HP22 HR22 HB22 HG22 HP3 HR3 HB3 hS4 hM4 hR4 hB4 hb4 HO p0 p1 p2
  obtain ⟨t0, t1, t2⟩ := hT.three
  have f1 := hT.free 1
  clear hT
  go_upto_region 10 with (fail)
  have hm8 : m ≤ 8 := by have := HML.out; have := HM.out; omega
  have HIX := Lib.hid (index_any W4 (some ⟨bb, 0, none⟩) m m ms b HM.out (by omega) (Cs.reads HM4.out))
  go_upto_region 9 with (go_at_call 135; refine HIX.out.mono ?_; rintro e w5 ⟨⟨r, rfl, hr⟩, hb5⟩)
  have hT5 := HT4.out.below hb5 HT4.out.lt
  have HS5 := Lib.hid (HS4.out.below hb5 HS4.out.lt)
  have HM5 := Lib.hid (HM4.out.below hb5 HM4.out.lt)
  have hR5 := HR4.out.below hb5 HR4.out.lt
  have HB5 := Lib.hid (HB4.out.trans (hb5.mono HB4.out.size))
  have HRR := Lib.hid hr
  have hf2 := hT5.free 2
  clear hb5 hr HIX HT4 HS4 HM4 HR4 HB4 t0 t1 t2 f1
  obtain ⟨t0, t1, t2⟩ := hT5.three
  have HT5 := Lib.hid hT5
  have HR5 := Lib.hid hR5
  clear hT5 hR5
  by_cases hr0 : r = -1
  · subst hr0
    have hnm : ¬ b ∈ ms := by
      intro hmem
      obtain ⟨j, hj⟩ := List.mem_iff_getElem?.1 hmem
      rcases HRR.out with ⟨-, h⟩ | ⟨i, hi, -⟩
      · exact h j (by rw [← HM.out]; exact (List.getElem?_eq_some_iff.1 hj).1) hj
      · omega
    have hms : CS.miss ⟨l, clk, ms⟩ b = (⟨l, clk, if 8 < ms.length + 1 then (ms ++ [b]).drop 1 else ms ++ [b]⟩, false) := by unfold CS.miss; exact if_neg hnm
    have HMS := Lib.hid hms
    clear hms hnm HRR
    go_upto_region 12 with (fail)
    obtain ⟨ii, hii, hy0, hy1, hy2⟩ := info_parts int_info
    have hown : w5.ownsRow W.heap.size 3 1 (.slice (some ⟨bb, 0, none⟩) m m) m (iv ms) := own_make HM5.out (by omega) (Nat.le_refl _) (by unfold maxLen; omega) (by rw [iv_length, HM.out, Nat.mul_one]) (by rw [List.take_of_length_le (by rw [iv_length, HM.out]; omega)]) (by rw [iv_length, HM.out, Nat.mul_one])
    have HOW := Lib.hid hown
    clear hown
    go_upto_region 13 with (at_builtin; refine wpList_append_reads _ (by rfl) (.tmp 45) (.tmp 47) _ (by rfl) W.heap.size 3 ii _ 1 8 Tryz.underlying22 hii hy0 hy1 hy2 (by rfl) (by omega) (.slice (some ⟨bb, 0, none⟩) m m) m (iv ms) (by rfl) (HOW.out.alloc _) (some ⟨w5.heap.size, 0, none⟩) 1 1 [.int .i64 b] (by rfl) (by rfl) (Reads.new _ _ _) (by simp [Value.oneCell']) (by simp only [maxLen]; omega) (by omega) (by simp; exact Nat.le_succ_of_le HB5.out.size) ?_; intro v8 w8 hown8 hg8 hat8; obtain ⟨A8, c8, hv8⟩ := own_form hown8; subst hv8; have hT8 := (HT5.out.alloc (.cells #[.int .i64 b] 3)).grown hg8 (by simp [Value.ownBlock]; omega); have fA := hT8.free 2; obtain ⟨t0, t1, t2⟩ := hT8.three)
    have HT8 := Lib.hid hT8
    have HS8 := Lib.hid ((HS5.out.alloc (.cells #[.int .i64 b] 3)).grown hg8 (by simp [Value.ownBlock]; omega))
    have HR8 := Lib.hid ((HR5.out.alloc (.cells #[.int .i64 b] 3)).grown hg8 (by simp [Value.ownBlock]; omega))
    have hba : Below W.heap.size W (w5.alloc (.cells #[.int .i64 b] 3)) := HB5.out.alloc HB5.out.size _
    have HB8 := Lib.hid (hba.grown hg8 hba.size (fun j e => by simp [Value.ownBlock] at e; omega))
    have HO8 := Lib.hid hown8
    have hA8 : ∀ p, A8 = some p → w2.heap.size ≤ p.block ∧ p.block ≠ a := by
      intro p hp
      subst hp
      rcases hat8 with h | h <;> simp [Value.ownBlock] at h
      · exact ⟨by omega, fun e => hab (by omega)⟩
      · have := HS5.out.lt
        have := HT5.out.lt
        exact ⟨by omega, fun e => by omega⟩
    obtain ⟨g8, cap8, hA, -, hbR⟩ := hown8.form (by omega)
    injection hA with hA2 _ hcap
    subst hA2
    subst hcap
    obtain ⟨hA1, hA2⟩ := hA8 _ rfl
    change w2.heap.size ≤ g8 at hA1
    change g8 ≠ a at hA2
    have hgr : g8 < w8.heap.size := own_lt hown8 g8 rfl
    have hrd := own_reads hown8
    have hg83 : g8 ≠ g3 := by
      rcases hat8 with h | h <;> simp [Value.ownBlock] at h
      · omega
      · have := HT5.out.lt
        omega
    have HRD := Lib.hid hrd
    have hc8 : m + 1 ≤ c8 := own_cap hown8
    clear hown8 hg8 hat8 hA8 HO8 HOW hT8 hba HT5 HS5 HM5 HR5 HB5 hii hy0 hy1 hy2
    have hR9 := HR8.out.off (b := g3) (i := 2) (by omega) (.slice (some ⟨g8, 0, none⟩) (m + 1) c8)
    have hT9 : Cs (w8.setCell ⟨g3, 2, none⟩ (.slice (some ⟨g8, 0, none⟩) (m + 1) c8)) g3 58 #[.slice (some ⟨a, 0, none⟩) n n, .int .i64 clk, .slice (some ⟨g8, 0, none⟩) (m + 1) c8] := Cs.put (l := [_, _, _]) HT8.out _
    have HS9 := Lib.hid (HS8.out.off (b := g3) (i := 2) (by omega) (.slice (some ⟨g8, 0, none⟩) (m + 1) c8))
    have HB9 := Lib.hid (HB8.out.setCell (p := ⟨g3, 2, none⟩) (by show W.heap.size ≤ g3; omega) (.slice (some ⟨g8, 0, none⟩) (m + 1) c8))
    have HRD9 := Lib.hid (HRD.out.blk (w' := w8.setCell ⟨g3, 2, none⟩ (.slice (some ⟨g8, 0, none⟩) (m + 1) c8)) (fun p e => by injection e with e; subst e; exact Below.heap_setCell _ _ _ g8 hg83) (by simp))
    clear HR8 HT8 HS8 HB8 HRD fA t0 t1 t2
    generalize (w8.setCell ⟨g3, 2, none⟩ (.slice (some ⟨g8, 0, none⟩) (m + 1) c8)) = W9 at *
    obtain ⟨t0, t1, t2⟩ := hT9.three
    have fA := hT9.free 2
    obtain ⟨r0, r1, r2⟩ := hR9.three
    have f0 := hR9.free 0
    have f1 := hR9.free 1
    have f2 := hR9.free 2
    have HR9 := Lib.hid hR9
    have HT9 := Lib.hid hT9
    clear hT9 hR9
    by_cases hm9 : m = 8
    · subst hm9
      have HM9 : Hid (CS.miss ⟨l, clk, ms⟩ b = (⟨l, clk, (ms ++ [b]).drop 1⟩, false)) := by show _ = _; rw [HMS.out, if_pos (by have := HM.out; omega)]
      clear HMS
      have v1 : (8 : Int) < ((8 + 1 : Nat) : Int) := by omega
      have v2 : ¬ c8 = 1 := by omega
      go_upto_region 15 with (fail)
      have hRx := HR9.out.off (b := g3) (i := 2) (by omega) (.slice (some ⟨g8, 1, none⟩) 8 (c8 - 1))
      have hTx : Cs (W9.setCell ⟨g3, 2, none⟩ (.slice (some ⟨g8, 1, none⟩) 8 (c8 - 1))) g3 58 #[.slice (some ⟨a, 0, none⟩) n n, .int .i64 clk, .slice (some ⟨g8, 1, none⟩) 8 (c8 - 1)] := Cs.put (l := [_, _, _]) HT9.out _
      have HSx := Lib.hid (HS9.out.off (b := g3) (i := 2) (by omega) (.slice (some ⟨g8, 1, none⟩) 8 (c8 - 1)))
      have HBx := Lib.hid (HB9.out.setCell (p := ⟨g3, 2, none⟩) (by show W.heap.size ≤ g3; omega) (.slice (some ⟨g8, 1, none⟩) 8 (c8 - 1)))
      have HRDx := Lib.hid ((HRD9.out.drop1 (v := (iv (ms ++ [b])).drop 1) (by rw [iv_append]; rfl)).blk (w' := W9.setCell ⟨g3, 2, none⟩ (.slice (some ⟨g8, 1, none⟩) 8 (c8 - 1))) (fun p e => by injection e with e; subst e; exact Below.heap_setCell _ _ _ g8 hg83) (by simp))
      clear HR9 HT9 HS9 HB9 HRD9 fA t0 t1 t2 r0 r1 r2 f0 f1 f2
      generalize (W9.setCell ⟨g3, 2, none⟩ (.slice (some ⟨g8, 1, none⟩) 8 (c8 - 1))) = Wx at *
      obtain ⟨t0, t1, t2⟩ := hTx.three
      obtain ⟨r0, r1, r2⟩ := hRx.three
      have f0 := hRx.free 0
      have f1 := hRx.free 1
      have f2 := hRx.free 2
      have HRx := Lib.hid hRx
      clear hTx hRx
      go_wp2_with fail
      (try simp only [Exit.inBlock, Exit.then])
      refine bodyPost_ret (res_state_two rfl _ _ (W.heap.size + 1) _ _ _ rfl (Cs.put3 HRx.out _ _ _)) rfl ?_
      rw [HM9.out]
      refine ⟨_, rfl, CsOut.fin (m := 8) (x := ⟨l, clk, (ms ++ [b]).drop 1⟩) _ _ _ HN.out (by show ((ms ++ [b]).drop 1).length = 8; rw [List.length_drop, List.length_append, HM.out]; rfl) HSx.out (by show Reads _ _ (iv ((ms ++ [b]).drop 1)); rw [show iv ((ms ++ [b]).drop 1) = (iv (ms ++ [b])).drop 1 by simp [iv]]; exact HRDx.out) (by omega) (fun p hp => ?_) (by omega) (fun p hp => ?_), below_put3 HBx.out (by omega) _ _ _⟩
      · injection hp with hp
        subst hp
        exact ⟨by show W.heap.size ≤ g8; omega, hA2⟩
      · injection hp with hp
        subst hp
        exact fun e => by have : g8 = W.heap.size + 1 := e; omega
    · have HM9 : Hid (CS.miss ⟨l, clk, ms⟩ b = (⟨l, clk, ms ++ [b]⟩, false)) := by show _ = _; rw [HMS.out, if_neg (by have := HM.out; omega)]
      have v1 : ¬ (8 : Int) < ((m + 1 : Nat) : Int) := by omega
      clear HMS
      go_wp2_with fail
      (try simp only [Exit.inBlock, Exit.then])
      refine bodyPost_ret (res_state_two rfl _ _ (W.heap.size + 1) _ _ _ rfl (Cs.put3 HR9.out _ _ _)) rfl ?_
      rw [HM9.out]
      refine ⟨_, rfl, CsOut.fin (x := ⟨l, clk, ms ++ [b]⟩) _ _ _ HN.out (by show (ms ++ [b]).length = m + 1; rw [List.length_append, HM.out]; rfl) HS9.out (by show Reads _ _ (iv (ms ++ [b])); rw [iv_append]; exact HRD9.out) (by omega) (fun p hp => ?_) (by omega) (fun p hp => ?_), below_put3 HB9.out (by omega) _ _ _⟩
      · injection hp with hp
        subst hp
        exact ⟨by show W.heap.size ≤ g8; omega, hA2⟩
      · injection hp with hp
        subst hp
        exact fun e => by have : g8 = W.heap.size + 1 := e; omega
  · obtain ⟨i, rfl, hi⟩ : ∃ i : Nat, r = (i : Int) ∧ ms[i]? = some b := by
      rcases HRR.out with ⟨h, -⟩ | h
      · exact absurd h hr0
      · exact h
    have him : i < m := by rw [← HM.out]; exact (List.getElem?_eq_some_iff.1 hi).1
    have hms : CS.miss ⟨l, clk, ms⟩ b = (⟨l, clk, ms.take i ++ ms.drop (i + 1)⟩, true) := by unfold CS.miss; rw [if_pos (show b ∈ ms from List.mem_of_getElem? hi)]; rw [← filter_ne ms i b HND.out hi]
    have hlen : (ms.take i ++ ms.drop (i + 1)).length = m - 1 := by simp; rw [HM.out]; omega
    have HMS := Lib.hid hms
    have HLN := Lib.hid hlen
    have HDL := Lib.hid (deli_any w5 bb m i ms HM.out him (by omega) HM5.out)
    have e1 : IntKind.i64.wrap ((i : Int) + 1) = (i : Int) + 1 := IntWalk.i64_in _ (by omega)
    clear hms hi hr0 HRR hlen
    go_upto_region 11 with (go_at_call 136; refine HDL.out.mono ?_; rintro e w6 ⟨rfl, hrd, hfr⟩; have fA := (HT5.out.fr hfr (by omega)).free 2; obtain ⟨p0, p1, p2⟩ := (HT5.out.fr hfr (by omega)).three)
    have hR6 := (HR5.out.fr hfr (by omega)).off (b := g3) (i := 2) (by omega) (.slice (some ⟨bb, 0, none⟩) (m - 1) m)
    have hT6 : Cs (w6.setCell ⟨g3, 2, none⟩ (.slice (some ⟨bb, 0, none⟩) (m - 1) m)) g3 58 #[.slice (some ⟨a, 0, none⟩) n n, .int .i64 clk, .slice (some ⟨bb, 0, none⟩) (m - 1) m] := Cs.put (l := [_, _, _]) (HT5.out.fr hfr (by omega)) _
    have HS6 := Lib.hid ((HS5.out.fr hfr (fun e => hab e)).off (b := g3) (i := 2) (by omega) (.slice (some ⟨bb, 0, none⟩) (m - 1) m))
    have hb6 := hfr.below (n₀ := W.heap.size) HB5.out.size (fun j e => by omega)
    have HB6 := Lib.hid ((HB5.out.trans hb6).setCell (p := ⟨g3, 2, none⟩) (by show W.heap.size ≤ g3; omega) (.slice (some ⟨bb, 0, none⟩) (m - 1) m))
    have HRD6 := Lib.hid (hrd.blk (w' := w6.setCell ⟨g3, 2, none⟩ (.slice (some ⟨bb, 0, none⟩) (m - 1) m)) (fun p e => by injection e with e; subst e; exact Below.heap_setCell _ _ _ bb (by show bb ≠ g3; omega)) (by simp))
    clear HR5 HT5 HS5 HB5 HM5 hrd hfr hb6 fA p0 p1 p2 t0 t1 t2 HDL
    generalize (w6.setCell ⟨g3, 2, none⟩ (.slice (some ⟨bb, 0, none⟩) (m - 1) m)) = W6 at *
    obtain ⟨t0, t1, t2⟩ := hT6.three
    obtain ⟨r0, r1, r2⟩ := hR6.three
    have f0 := hR6.free 0
    have f1 := hR6.free 1
    have f2 := hR6.free 2
    have HR6 := Lib.hid hR6
    clear hT6 hR6
    go_wp2_with fail
    (try simp only [Exit.inBlock, Exit.then])
    refine bodyPost_ret (res_state_two rfl _ _ (W.heap.size + 1) _ _ _ rfl (Cs.put3 HR6.out _ _ _)) rfl ?_
    rw [HMS.out]
    refine ⟨_, rfl, CsOut.fin (x := ⟨l, clk, ms.take i ++ ms.drop (i + 1)⟩) _ _ _ HN.out HLN.out HS6.out HRD6.out (by omega) (fun p hp => ?_) (by omega) (fun p hp => ?_), below_put3 HB6.out (by omega) _ _ _⟩
    · injection hp with hp
      subst hp
      exact ⟨by show W.heap.size ≤ bb; omega, fun e => hab (by have : bb = a := e; omega)⟩
    · injection hp with hp
      subst hp
      exact fun e => by have : bb = W.heap.size + 1 := e; omega
end Go.Proofs.YtogchafnnkajfaaGreat
namespace Go.Proofs.YtogchafnnkajfaaGreat
set_option linter.unusedVariables false
open Go.RowKit Go.Shelf
attribute [local go_sem] Oper.semAt_some
set_option maxRecDepth 100000 in
set_option maxHeartbeats 4000000 in
theorem cplace_any (W : World) (A B : Option Addr) (n c m d : Nat) (s : CS) (h : s.Ok) (hn : s.sl.length = n) (hm : s.ms.length = m) (hA : Reads W A (scs s.sl)) (hB : Reads W B (iv s.ms)) (k : Nat) (x : Sl) (hx : s.sl[k]? = some x) (hv : x.valid = false) (b : Int) (hb : 0 ≤ b ∧ b ≤ 16777215) (hf : s.find b = -1) (hnm : ¬ b ∈ s.ms) (hc : s.clk < 1099511627776) :
    Calls Tryz.prog 139 #[csV A n c s.clk B m d, .int .i64 (k : Int), .int .i64 b] W fun e w' => ∃ v, e = .returned (.tuple #[v, .int .i64 0]) ∧ CsOut W.heap.size w' (s.place k b) v ∧ Below W.heap.size W w' := by
  obtain ⟨l, clk, ms⟩ := s
  dsimp only at hn hm hA hB hx hc hnm ⊢
  have hl : 1 ≤ l.length ∧ l.length ≤ 1024 := h.len
  have hcl : 0 ≤ clk := h.clk.1
  have hml : ms.length ≤ 8 := h.msl
  have hkn : k < n := by rw [← hn]; exact (List.getElem?_eq_some_iff.1 hx).1
  have hb1 : Below W.heap.size W (((W.alloc (.cells #[.slice A n c, .int .i64 clk, .slice B m d] 58)).alloc (.cells #[.int .i64 b] 3)).alloc (.cells #[.slice none 0 0, .int .i64 0, .slice none 0 0] 58)) := (((Below.refl _ W).alloc (Nat.le_refl _) _).alloc (by simp) _).alloc (by simp; omega) _
  have hP := ((Cs.new W 58 #[.slice A n c, .int .i64 clk, .slice B m d]).alloc (.cells #[.int .i64 b] 3)).alloc (.cells #[.slice none 0 0, .int .i64 0, .slice none 0 0] 58)
  have hQ := (Cs.new (W.alloc (.cells #[.slice A n c, .int .i64 clk, .slice B m d] 58)) 3 #[.int .i64 b]).alloc (.cells #[.slice none 0 0, .int .i64 0, .slice none 0 0] 58)
  have hR := Cs.new ((W.alloc (.cells #[.slice A n c, .int .i64 clk, .slice B m d] 58)).alloc (.cells #[.int .i64 b] 3)) 58 #[.slice none 0 0, .int .i64 0, .slice none 0 0]
  rw [World.size_alloc] at hQ
  rw [World.size_alloc, World.size_alloc] at hR
  have HS1 : Hid ((((W.alloc (.cells #[.slice A n c, .int .i64 clk, .slice B m d] 58)).alloc (.cells #[.int .i64 b] 3)).alloc (.cells #[.slice none 0 0, .int .i64 0, .slice none 0 0] 58)).heap.size = W.heap.size + 1 + 1 + 1) := by show _ = _; simp
  have HC : Hid (∀ w, Below W.heap.size W w → _) := fun w hw => cslot_any w A B n c m d ⟨l, clk, ms⟩ h k hkn hn hm (hA.keep hw) (hB.keep hw)
  have HAR : Hid (∀ w, Below W.heap.size W w → _) := fun w hw => scs_read (hA.keep hw) (by omega)
  have hf2 : idxOf (fun x => x.valid && x.block == b) l = -1 := hf
  have HF : Hid (∀ w, Below W.heap.size W w → Calls Tryz.prog 132 #[csV A n c clk B m d, .int .i64 b] w fun e w' => e = .returned (.int .i64 (-1)) ∧ Below w.heap.size w w') := fun w hw => by
    have := cfind_any w A B n c m d clk l b hn (by omega) (hA.keep hw)
    rwa [hf2] at this
  have HO : Hid (∀ w, Below W.heap.size W w → _) := fun w hw => own_any w A B n c m d clk l ms hn hm (by omega) (by omega) (by omega) (hA.keep hw) (hB.keep hw)
  have HX := Lib.hid hx
  have HN := Lib.hid hn
  have HM := Lib.hid hm
  have HML := Lib.hid hml
  have HNM := Lib.hid hnm
  have HB1 := Lib.hid hb1
  have HP := Lib.hid hP
  have HQ := Lib.hid hQ
  have HR := Lib.hid hR
  have HHL := Lib.hid hl
  unfold csV at *
  have q1 : ¬ b < 0 := by omega
  have q2 : ¬ 16777215 < b := by omega
  have q3 : (k : Int) < (n : Int) := by omega
  have d1 : decide (b < 0) = false := decide_eq_false q1
  have d2 : decide (16777215 < b) = false := decide_eq_false q2
  have q4 : (clk == 1099511627776) = false := by simp; omega
  have q5 : IntKind.i64.wrap (clk + 1) = clk + 1 := IntWalk.i64_in _ (by omega)
  have k1 := hQ.cell 0
  clear h hn hm hA hB hb1 hl hR hml hf hf2 hx hnm hQ
  obtain ⟨xv, xd, xb, xs⟩ := x
  dsimp only at hv
  subst hv
  go_enter Tryz.func139, Tryz.ntmps139
  go_upto_region 1 with (fail)
  generalize (((W.alloc (.cells #[.slice A n c, .int .i64 clk, .slice B m d] 58)).alloc (.cells #[.int .i64 b] 3)).alloc (.cells #[.slice none 0 0, .int .i64 0, .slice none 0 0] 58)) = W1 at *
  obtain ⟨p0, p1, p2⟩ := hP.three
  clear hP
  go_upto_region 2 with (go_at_call 133; refine (HC.out W1 HB1.out).mono ?_; rintro e w2 ⟨rfl, hb2⟩)
  clear p0 p1 p2 k1 HC
  have HP2 := Lib.hid (HP.out.below hb2 (by rw [HS1.out]; omega))
  have HQ2 := Lib.hid (HQ.out.below hb2 (by rw [HS1.out]; omega))
  have HR2 := Lib.hid (HR.out.below hb2 (by rw [HS1.out]; omega))
  have HB2 := Lib.hid (HB1.out.trans (hb2.mono (by rw [HS1.out]; omega)))
  have hg2 : W.heap.size + 1 + 1 + 1 ≤ w2.heap.size := by have := hb2.size; rw [HS1.out] at this; exact this
  clear hb2 HP HQ HB1 HR HS1
  have k1 := HQ2.out.cell 0
  obtain ⟨p0, p1, p2⟩ := HP2.out.three
  obtain ⟨bA, oA, rfl, -, hcs⟩ := HAR.out w2 HB2.out
  have c0 := (hcs k _ HX.out).1
  dsimp only at c0
  clear hcs
  go_upto_region 8 with (go_at_call 132; refine (HF.out w2 HB2.out).mono ?_; rintro e w22 ⟨rfl, hb2⟩)
  have HP22 := Lib.hid (HP2.out.below hb2 HP2.out.lt)
  have HQ22 := Lib.hid (HQ2.out.below hb2 HQ2.out.lt)
  have HR22 := Lib.hid (HR2.out.below hb2 HR2.out.lt)
  have HB22 := Lib.hid (HB2.out.trans (hb2.mono HB2.out.size))
  have hg22 : W.heap.size + 1 + 1 + 1 ≤ w22.heap.size := Nat.le_trans hg2 hb2.size
  clear hb2 HP2 HQ2 HR2 HB2 hg2 k1 p0 p1 p2 c0 HF HAR
  obtain ⟨p0, p1, p2⟩ := HP22.out.three
  go_upto_region 11 with (go_at_call 134; refine (HO.out w22 HB22.out).mono ?_; rintro e w3 ⟨a, bb, rfl, hSa, hMb, hab, hga, hgb, hb3⟩)
  have HR3 := Lib.hid (HR22.out.below hb3 HR22.out.lt)
  have HQ3 := Lib.hid (HQ22.out.below hb3 HQ22.out.lt)
  have HB3 := Lib.hid (HB22.out.trans (hb3.mono HB22.out.size))
  have hg3 : W.heap.size + 1 + 1 + 1 ≤ w3.heap.size := Nat.le_trans hg22 hb3.size
  have ha3 : a < w3.heap.size := hSa.lt
  have hb3l : bb < w3.heap.size := hMb.lt
  have ha0 : w22.heap.size ≤ a := hga
  have hb0 : w22.heap.size ≤ bb := hgb
  have hT := Cs.new w3 58 #[.slice (some ⟨a, 0, none⟩) n n, .int .i64 clk, .slice (some ⟨bb, 0, none⟩) m m]
  have hb4 : Below w3.heap.size w3 (w3.alloc (.cells #[.slice (some ⟨a, 0, none⟩) n n, .int .i64 clk, .slice (some ⟨bb, 0, none⟩) m m] 58)) := (Below.refl _ w3).alloc (Nat.le_refl _) _
  have hS4 := hSa.below hb4 ha3
  have hM4 := hMb.below hb4 hb3l
  have hR4 := HR3.out.below hb4 (by omega)
  have hQ4 := HQ3.out.below hb4 (by omega)
  have hB4 := HB3.out.trans (hb4.mono (by have := HB3.out.size; omega))
  generalize w3.heap.size = g3 at *
  generalize (w3.alloc (.cells #[.slice (some ⟨a, 0, none⟩) n n, .int .i64 clk, .slice (some ⟨bb, 0, none⟩) m m] 58)) = W4 at *
  have HS4 := Lib.hid hS4
  have HM4 := Lib.hid hM4
  have HR4 := Lib.hid hR4
  have HQ4 := Lib.hid hQ4
  have HB4 := Lib.hid hB4
  have HT4 := Lib.hid hT
  clear hSa hMb hga hgb hb3 HP22 HR22 HQ22 HB22 HR3 HQ3 HB3 hS4 hM4 hR4 hQ4 hB4 hb4 HO p0 p1 p2
  obtain ⟨t0, t1, t2⟩ := hT.three
  have f1 := hT.free 1
  clear hT
  go_upto_region 12 with (fail)
  have hT5 : Cs (W4.setCell ⟨g3, 1, none⟩ (.int .i64 (clk + 1))) g3 58 #[.slice (some ⟨a, 0, none⟩) n n, .int .i64 (clk + 1), .slice (some ⟨bb, 0, none⟩) m m] := Cs.put (l := [_, _, _]) HT4.out _
  have HS5 := Lib.hid (HS4.out.off (b := g3) (i := 1) (by omega) (.int .i64 (clk + 1)))
  have HM5 := Lib.hid (HM4.out.off (b := g3) (i := 1) (by omega) (.int .i64 (clk + 1)))
  have HR5 := Lib.hid (HR4.out.off (b := g3) (i := 1) (by omega) (.int .i64 (clk + 1)))
  have HQ5 := Lib.hid (HQ4.out.off (b := g3) (i := 1) (by omega) (.int .i64 (clk + 1)))
  have HB5 := Lib.hid (HB4.out.setCell (p := ⟨g3, 1, none⟩) (by show W.heap.size ≤ g3; omega) (.int .i64 (clk + 1)))
  clear HS4 HM4 HR4 HQ4 HB4 HT4 t0 t1 t2 f1
  generalize (W4.setCell ⟨g3, 1, none⟩ (.int .i64 (clk + 1))) = W5 at *
  have HT5 := Lib.hid hT5
  obtain ⟨t0, t1, t2⟩ := hT5.three
  have k1 := HQ5.out.cell 0
  obtain ⟨y0, y1, y2, y3⟩ := scs_at l k _ HX.out
  have s0 : W5.cell? ⟨a, k * 4, none⟩ = some (.bool false) := by
    have := HS5.out.cell (k * 4)
    rw [List.getElem?_toArray, y0] at this
    exact this
  have s1 : W5.cell? ⟨a, k * 4 + 1, none⟩ = some (.bool xd) := by
    have := HS5.out.cell (k * 4 + 1)
    rw [List.getElem?_toArray, y1] at this
    exact this
  have s2 : W5.cell? ⟨a, k * 4 + 2, none⟩ = some (.int .i64 xb) := by
    have := HS5.out.cell (k * 4 + 2)
    rw [List.getElem?_toArray, y2] at this
    exact this
  have s3 : W5.cell? ⟨a, k * 4 + 3, none⟩ = some (.int .i64 xs) := by
    have := HS5.out.cell (k * 4 + 3)
    rw [List.getElem?_toArray, y3] at this
    exact this
  have f0 := HS5.out.free (k * 4)
  have f1 := HS5.out.free (k * 4 + 1)
  have f2 := HS5.out.free (k * 4 + 2)
  have f3 := HS5.out.free (k * 4 + 3)
  clear hT5 y0 y1 y2 y3
  go_upto_region 13 with (fail)
  have hsc := scs_set l k ⟨true, false, b, clk + 1⟩ (by rw [HN.out]; exact hkn)
  dsimp only at hsc
  have hS6 := (((HS5.out.put (i := k * 4) (.bool true)).put (i := k * 4 + 1) (.bool false)).put (i := k * 4 + 2) (.int .i64 b)).put (i := k * 4 + 3) (.int .i64 (clk + 1))
  rw [← hsc] at hS6
  have hoff : ∀ j, j ≠ a → ((((W5.setCell ⟨a, k * 4, none⟩ (.bool true)).setCell ⟨a, k * 4 + 1, none⟩ (.bool false)).setCell ⟨a, k * 4 + 2, none⟩ (.int .i64 b)).setCell ⟨a, k * 4 + 3, none⟩ (.int .i64 (clk + 1))).heap[j]? = W5.heap[j]? := fun j hj => (Below.heap_setCell _ _ _ j hj).trans ((Below.heap_setCell _ _ _ j hj).trans ((Below.heap_setCell _ _ _ j hj).trans (Below.heap_setCell _ _ _ j hj)))
  have hT6 : Cs ((((W5.setCell ⟨a, k * 4, none⟩ (.bool true)).setCell ⟨a, k * 4 + 1, none⟩ (.bool false)).setCell ⟨a, k * 4 + 2, none⟩ (.int .i64 b)).setCell ⟨a, k * 4 + 3, none⟩ (.int .i64 (clk + 1))) g3 _ _ := (hoff g3 (by omega)).trans HT5.out
  have hM6 : Cs ((((W5.setCell ⟨a, k * 4, none⟩ (.bool true)).setCell ⟨a, k * 4 + 1, none⟩ (.bool false)).setCell ⟨a, k * 4 + 2, none⟩ (.int .i64 b)).setCell ⟨a, k * 4 + 3, none⟩ (.int .i64 (clk + 1))) bb _ _ := (hoff bb (fun e => hab e.symm)).trans HM5.out
  have hR6 : Cs ((((W5.setCell ⟨a, k * 4, none⟩ (.bool true)).setCell ⟨a, k * 4 + 1, none⟩ (.bool false)).setCell ⟨a, k * 4 + 2, none⟩ (.int .i64 b)).setCell ⟨a, k * 4 + 3, none⟩ (.int .i64 (clk + 1))) (W.heap.size + 1 + 1) _ _ := (hoff _ (by omega)).trans HR5.out
  have hQ6 : Cs ((((W5.setCell ⟨a, k * 4, none⟩ (.bool true)).setCell ⟨a, k * 4 + 1, none⟩ (.bool false)).setCell ⟨a, k * 4 + 2, none⟩ (.int .i64 b)).setCell ⟨a, k * 4 + 3, none⟩ (.int .i64 (clk + 1))) (W.heap.size + 1) _ _ := (hoff _ (by omega)).trans HQ5.out
  have hB6 := (((HB5.out.setCell (p := ⟨a, k * 4, none⟩) (by show W.heap.size ≤ a; omega) (.bool true)).setCell (p := ⟨a, k * 4 + 1, none⟩) (by show W.heap.size ≤ a; omega) (.bool false)).setCell (p := ⟨a, k * 4 + 2, none⟩) (by show W.heap.size ≤ a; omega) (.int .i64 b)).setCell (p := ⟨a, k * 4 + 3, none⟩) (by show W.heap.size ≤ a; omega) (.int .i64 (clk + 1))
  clear HS5 HM5 HR5 HQ5 HB5 HT5 t0 t1 t2 k1 s0 s1 s2 s3 f0 f1 f2 f3 hoff hsc
  generalize ((((W5.setCell ⟨a, k * 4, none⟩ (.bool true)).setCell ⟨a, k * 4 + 1, none⟩ (.bool false)).setCell ⟨a, k * 4 + 2, none⟩ (.int .i64 b)).setCell ⟨a, k * 4 + 3, none⟩ (.int .i64 (clk + 1))) = W6 at *
  have HS6 := Lib.hid hS6
  have HM6 := Lib.hid hM6
  have HR6 := Lib.hid hR6
  have HQ6 := Lib.hid hQ6
  have HB6 := Lib.hid hB6
  have HT6 := Lib.hid hT6
  obtain ⟨t0, t1, t2⟩ := hT6.three
  have HD := Lib.hid (delf_no W6 (some ⟨bb, 0, none⟩) m m ms b HM.out (by have := HML.out; have := HM.out; omega) (Cs.reads HM6.out) (W.heap.size + 1) (HQ6.out.cell 0) HQ6.out.lt HNM.out)
  clear hS6 hM6 hR6 hQ6 hB6 hT6
  go_upto_region 14 with (go_at_call 153; refine HD.out.mono ?_; rintro e w7 ⟨rfl, hb7⟩; obtain ⟨t0, t1, t2⟩ := (HT6.out.below hb7 HT6.out.lt).three; have f2 := (HT6.out.below hb7 HT6.out.lt).free 2)
  have hT8 : Cs (w7.setCell ⟨g3, 2, none⟩ (.slice (some ⟨bb, 0, none⟩) m m)) g3 58 #[.slice (some ⟨a, 0, none⟩) n n, .int .i64 (clk + 1), .slice (some ⟨bb, 0, none⟩) m m] := Cs.put (l := [_, _, _]) (HT6.out.below hb7 HT6.out.lt) _
  have HS8 := Lib.hid ((HS6.out.below hb7 HS6.out.lt).off (b := g3) (i := 2) (by omega) (.slice (some ⟨bb, 0, none⟩) m m))
  have HM8 := Lib.hid ((HM6.out.below hb7 HM6.out.lt).off (b := g3) (i := 2) (by omega) (.slice (some ⟨bb, 0, none⟩) m m))
  have hR8 := (HR6.out.below hb7 HR6.out.lt).off (b := g3) (i := 2) (by omega) (.slice (some ⟨bb, 0, none⟩) m m)
  have HB8 := Lib.hid ((HB6.out.trans (hb7.mono HB6.out.size)).setCell (p := ⟨g3, 2, none⟩) (by show W.heap.size ≤ g3; omega) (.slice (some ⟨bb, 0, none⟩) m m))
  clear HS6 HM6 HR6 HQ6 HB6 HT6 HD hb7 t0 t1 t2 f2
  generalize (w7.setCell ⟨g3, 2, none⟩ (.slice (some ⟨bb, 0, none⟩) m m)) = W8 at *
  obtain ⟨t0, t1, t2⟩ := hT8.three
  obtain ⟨r0, r1, r2⟩ := hR8.three
  have f0 := hR8.free 0
  have f1 := hR8.free 1
  have f2 := hR8.free 2
  have HR8 := Lib.hid hR8
  clear hT8 hR8
  go_wp2_with fail
  (try simp only [Exit.inBlock, Exit.then])
  refine bodyPost_ret (res_state_tmp rfl _ _ (W.heap.size + 1 + 1) _ _ _ rfl (Cs.put3 HR8.out _ _ _)) rfl ?_
  have hpl : CS.place ⟨l, clk, ms⟩ k b = ⟨l.set k ⟨true, false, b, clk + 1⟩, clk + 1, ms⟩ := by unfold CS.place; dsimp only; rw [filter_no ms b HNM.out]
  rw [hpl]
  refine ⟨_, rfl, CsOut.fin (x := ⟨l.set k ⟨true, false, b, clk + 1⟩, clk + 1, ms⟩) _ _ _ (by show (List.set _ _ _).length = n; rw [List.length_set]; exact HN.out) HM.out HS8.out (Cs.reads HM8.out) (by omega) (fun p hp => ?_) (by omega) (fun p hp => ?_), below_put3 HB8.out (by omega) _ _ _⟩
  · injection hp with hp
    subst hp
    exact ⟨by show W.heap.size ≤ bb; omega, fun e => hab (by have : bb = a := e; omega)⟩
  · injection hp with hp
    subst hp
    exact fun e => by have : bb = W.heap.size + 1 + 1 := e; omega
end Go.Proofs.YtogchafnnkajfaaGreat
namespace Go.Proofs.YtogchafnnkajfaaGreat
set_option linter.unusedVariables false
open Go.RowKit Go.Shelf
attribute [local go_sem] Oper.semAt_some
set_option maxRecDepth 100000 in
set_option maxHeartbeats 2000000 in
theorem rhas_any (W : World) (B : Option Addr) (m d : Nat) (ms : List Int) (b : Int) (hm : ms.length = m) (hm2 : m ≤ 1000000) (hB : Reads W B (iv ms)) :
    Calls Tryz.prog 116 #[.slice B m d, .int .i64 b] W fun e w' => e = .returned (.bool (decide (b ∈ ms))) ∧ Below W.heap.size W w' := by
  have HM := Lib.hid hm
  have HB := Lib.hid hB
  clear hm hB
  go_enter Tryz.func116, Tryz.ntmps116
  go_wp2_with fail
  go_loopw [5] (fun z wr => ∃ i : Nat, z = .int .i64 i ∧ i ≤ m ∧ (∀ (j : Nat), j < i → ¬ ms[j]? = some b) ∧ Below W.heap.size W wr) (fun z _ => m - (intOf z).toNat)
  case atStart => exact ⟨0, rfl, Nat.zero_le _, (fun j hj => by omega), Below.refl _ _⟩
  case round =>
    obtain ⟨i, rfl, hi, hno, hbw⟩ := hrel
    have HNO := Lib.hid hno
    have HBW := Lib.hid hbw
    clear hno
    by_cases hlt : i < m
    · obtain ⟨x, hx⟩ : ∃ x, ms[i]? = some x := ⟨_, List.getElem?_eq_getElem (by rw [HM.out]; exact hlt)⟩
      have u1 : (i : Int) < (m : Int) := by omega
      obtain ⟨b0, o, rfl, hbl, hcs⟩ := (HB.out.keep hbw).i (by rw [HM.out]; omega)
      have c0 := hcs i (by rw [HM.out]; exact hlt)
      rw [hx, Option.getD_some] at c0
      have HX := Lib.hid hx
      clear hcs hx hbw
      have e1 : IntKind.i64.wrap ((i : Int) + 1) = ((i + 1 : Nat) : Int) := by rw [IntWalk.i64_in _ (by omega)]; rfl
      by_cases hp : x = b
      · subst hp
        have HMEM : Hid (decide (x ∈ ms) = true) := by
          show _ = _
          simpa using List.mem_of_getElem? HX.out
        go_wp2_with fail
        go_ret
        exact ⟨by rw [HMEM.out]; rfl, HBW.out⟩
      · have hp2 : (x == b) = false := by simpa using hp
        have HNO2 := Lib.hid (get_not HNO.out HX.out hp)
        clear hp
        go_wp2_with fail
        go_roundw
        case rel => exact ⟨i + 1, by go_num, by omega, HNO2.out, HBW.out⟩
        case measure => simp [intOf]; omega
    · have hin : i = m := by omega
      subst hin
      clear hbw
      have HMEM : Hid (decide (b ∈ ms) = false) := by
        show _ = _
        refine decide_eq_false fun hmem => ?_
        obtain ⟨j, hj⟩ := List.mem_iff_getElem?.1 hmem
        exact HNO.out j (by rw [← HM.out]; exact (List.getElem?_eq_some_iff.1 hj).1) hj
      go_wp2_with fail
      go_ret
      exact ⟨by rw [HMEM.out]; rfl, HBW.out⟩
set_option maxHeartbeats 1000000 in
theorem rblock_any (W : World) (b : Int) (hb : 0 ≤ b ∧ b ≤ 16777215) :
    Calls Tryz.prog 115 #[.int .i64 b] W fun e w' => e = .returned (.bool true) ∧ w' = W := by
  obtain ⟨h1, h2⟩ := hb
  have d1 : decide (0 ≤ b) = true := decide_eq_true h1
  have d2 : decide (b ≤ 16777215) = true := decide_eq_true h2
  go_enter Tryz.func115, Tryz.ntmps115
  go_wp2_with fail
  go_ret
  exact ⟨rfl, rfl⟩
set_option maxRecDepth 100000 in
set_option maxHeartbeats 8000000 in
theorem rvalid_any (W : World) (A B : Option Addr) (n c m d : Nat) (s : CS) (h : s.Ok) (hn : s.sl.length = n) (hm : s.ms.length = m) (hA : Reads W A (scs s.sl)) (hB : Reads W B (iv s.ms)) :
    Calls Tryz.prog 63 #[csV A n c s.clk B m d] W fun e w' => e = .returned (.int .i64 0) ∧ Below W.heap.size W w' := by
  obtain ⟨l, clk, ms⟩ := s
  dsimp only at hn hm hA hB ⊢
  have hl : 1 ≤ l.length ∧ l.length ≤ 1024 := h.len
  have hc : 0 ≤ clk ∧ clk ≤ 1099511627776 := h.clk
  have hml : ms.length ≤ 8 := h.msl
  have HO := Lib.hid h
  have HN := Lib.hid hn
  have HM := Lib.hid hm
  have HA := Lib.hid hA
  have HB := Lib.hid hB
  rw [hn] at hl
  rw [hm] at hml
  obtain ⟨ii, hii, hy0, hy1, hy2⟩ := info_parts int_info
  clear h hn hm hA hB
  have d1 : decide ((n : Int) < 1) = false := decide_eq_false (by omega)
  have d2 : decide ((1024 : Int) < (n : Int)) = false := decide_eq_false (by omega)
  have d3 : decide (clk < 0) = false := decide_eq_false (by omega)
  have d4 : decide ((1099511627776 : Int) < clk) = false := decide_eq_false (by omega)
  have d5 : decide ((8 : Int) < (m : Int)) = false := decide_eq_false (by omega)
  unfold csV
  go_enter Tryz.func63, Tryz.ntmps63
  have hP := Cs.new W 58 #[.slice A n c, .int .i64 clk, .slice B m d]
  have hb1 : Below W.heap.size W (W.alloc (.cells #[.slice A n c, .int .i64 clk, .slice B m d] 58)) := (Below.refl _ W).alloc (Nat.le_refl _) _
  have HS1 : Hid ((W.alloc (.cells #[.slice A n c, .int .i64 clk, .slice B m d] 58)).heap.size = W.heap.size + 1) := by show _ = _; simp
  go_upto_region 1 with (fail)
  generalize W.alloc (.cells #[.slice A n c, .int .i64 clk, .slice B m d] 58) = W1 at *
  obtain ⟨p0, p1, p2⟩ := hP.three
  have HP := Lib.hid hP
  have HB1 := Lib.hid hb1
  clear hP hb1
  go_wp2_with fail
  clear p0 p1 p2 d1 d2 d3 d4 d5
  go_loopw [3, 4] (fun v z wr => ∃ i : Nat, z = .int .i64 i ∧ i ≤ n ∧ wr.ownsRow (W.heap.size + 1) 3 1 v (vbl l i).length (iv (vbl l i)) ∧ Below (W.heap.size + 1) W1 wr) (fun _ z _ => n - (intOf z).toNat)
  case atStart => exact ⟨0, rfl, Nat.zero_le _, by rw [vbl_zero]; exact World.ownsRow_nil _ _ _ _, Below.refl _ W1⟩
  case round =>
    obtain ⟨i, rfl, hi, hown, hbw⟩ := hrel
    obtain ⟨A3, c3, rfl⟩ := own_form hown
    have hvl : (vbl l i).length ≤ i := by unfold vbl; rw [List.length_map]; exact Nat.le_trans (List.length_filter_le _ _) (List.length_take_le _ _)
    obtain ⟨q, hq⟩ : ∃ q, (vbl l i).length = q := ⟨_, rfl⟩
    rw [hq] at hvl hown
    have HQ := Lib.hid hq
    rw [hq]
    have hBW : Below W.heap.size W wr := HB1.out.trans (hbw.mono (by omega))
    have HOW := Lib.hid hown
    have HBW := Lib.hid hbw
    have HB0 := Lib.hid hBW
    obtain ⟨p0, p1, p2⟩ := HP.out.three' hbw (by omega)
    have hg1 : W.heap.size + 1 ≤ wr.heap.size := by have := hbw.size; rw [HS1.out] at this; exact this
    clear hown hbw hBW hq
    by_cases hlt : i < n
    · obtain ⟨x, hx⟩ : ∃ x, l[i]? = some x := ⟨_, List.getElem?_eq_getElem (by rw [HN.out]; exact hlt)⟩
      have u1 : (i : Int) < (n : Int) := by omega
      obtain ⟨b, o, rfl, hbl, hcs⟩ := scs_read (HA.out.keep HB0.out) (by rw [HN.out]; omega)
      obtain ⟨c0, c1, c2, c3'⟩ := hcs i x hx
      have HX := Lib.hid hx
      clear hcs hx
      go_upto_region 8 with (fail)
      have hC := Cs.new wr 31 #[.bool x.valid, .bool x.dirty, .int .i64 x.block, .int .i64 x.stamp]
      have hbV : Below wr.heap.size wr (wr.alloc (.cells #[.bool x.valid, .bool x.dirty, .int .i64 x.block, .int .i64 x.stamp] 31)) := (Below.refl _ wr).alloc (Nat.le_refl _) _
      have hP2 := HP.out.below (HBW.out.trans (hbV.mono hg1)) (by omega)
      have hO2 := HOW.out.alloc (.cells #[.bool x.valid, .bool x.dirty, .int .i64 x.block, .int .i64 x.stamp] 31)
      have hB2 := HBW.out.trans (hbV.mono hg1)
      clear p0 p1 p2 c0 c1 c2 c3' hbV HB0 HBW HOW
      generalize wr.alloc (.cells #[.bool x.valid, .bool x.dirty, .int .i64 x.block, .int .i64 x.stamp] 31) = V at *
      obtain ⟨p0, p1, p2⟩ := hP2.three
      have HP2 := Lib.hid hP2
      have HO2 := Lib.hid hO2
      have HB2 := Lib.hid hB2
      clear hP2 hO2 hB2
      have e1 : IntKind.i64.wrap ((i : Int) + 1) = ((i + 1 : Nat) : Int) := by rw [IntWalk.i64_in _ (by omega)]; rfl
      have HOX := Lib.hid (HO.out.blk x (List.mem_of_getElem? HX.out))
      have HNX := Lib.hid (HO.out.nl x (List.mem_of_getElem? HX.out))
      have HUX := Lib.hid (HO.out.new i x HX.out)
      have HSU := Lib.hid (vbl_succ l i x HX.out)
      obtain ⟨xv, xd, xb, xs⟩ := x
      dsimp only at hC
      have k0 : V.cell? ⟨wr.heap.size, 0, none⟩ = some (.bool xv) := hC.cell 0
      have k1 : V.cell? ⟨wr.heap.size, 1, none⟩ = some (.bool xd) := hC.cell 1
      have k2 : V.cell? ⟨wr.heap.size, 2, none⟩ = some (.int .i64 xb) := hC.cell 2
      have k3 : V.cell? ⟨wr.heap.size, 3, none⟩ = some (.int .i64 xs) := hC.cell 3
      have HC := Lib.hid hC
      clear hC
      generalize wr.heap.size = t at *
      cases xv
      · have hnx := HNX.out rfl
        injection hnx with _ a1 a2 a3
        subst a1; subst a2; subst a3
        have hne := slot_neq_nil V
        go_wp2_with fail
        go_roundw
        case rel => exact ⟨i + 1, by go_num, by omega, by rw [HSU.out, if_neg (by simp), HQ.out]; exact HO2.out, HB2.out⟩
        case measure => simp [intOf]; omega
      · obtain ⟨⟨b1, b2⟩, b3, b4⟩ := HOX.out rfl
        dsimp only at b1 b2 b3 b4
        have w3 : decide (xs < 0) = false := decide_eq_false (by omega)
        have w4 : decide (clk < xs) = false := decide_eq_false (by omega)
        have hmem : decide (xb ∈ vbl l i) = false := decide_eq_false (HUX.out rfl)
        have HH := rhas_any V A3 q c3 (vbl l i) xb HQ.out (by omega) (own_reads HO2.out)
        rw [hmem] at HH
        have HHB := Lib.hid (rblock_any V xb ⟨b1, b2⟩)
        have HHH := Lib.hid HH
        clear hmem HH b1 b2 b3 b4
        go_upto_region 11 with (first
          | (go_at_call 115; refine HHB.out.mono ?_; rintro e w2 ⟨rfl, rfl⟩)
          | (go_at_call 116; refine HHH.out.mono ?_; rintro e w2 ⟨rfl, hb2⟩; have k0 := (HC.out.below hb2 HC.out.lt).cell 0; have k2 := (HC.out.below hb2 HC.out.lt).cell 2))
        have HO3 := Lib.hid (own_keepB HO2.out hb2)
        have HB3 := Lib.hid (HB2.out.trans (hb2.mono (Nat.le_trans hg1 (Nat.le_of_lt HC.out.lt))))
        have hg3 : W.heap.size + 1 ≤ w2.heap.size := Nat.le_trans (Nat.le_trans hg1 (Nat.le_of_lt HC.out.lt)) hb2.size
        clear hb2 HP2 HO2 HB2 HHB HHH
        go_wp2_with (at_builtin; refine wpList_append_reads _ (by rfl) (.tmp 83) (.tmp 86) _ (by rfl) (W.heap.size + 1) 3 ii _ 1 8 Tryz.underlying22 hii hy0 hy1 hy2 (by rfl) (by omega) (.slice A3 q c3) q (iv (vbl l i)) (by rfl) (HO3.out.alloc _) (some ⟨w2.heap.size, 0, none⟩) 1 1 [.int .i64 xb] (by rfl) (by rfl) (Reads.new _ _ _) (by simp [Value.oneCell']) (by simp only [maxLen]; omega) (by omega) (by simp; omega) ?_; intro v8 w8 hown8 hg8 hat8)
        have hba : Below (W.heap.size + 1) W1 (w2.alloc (.cells #[.int .i64 xb] 3)) := HB3.out.alloc (Nat.le_trans (Nat.le_refl _) (by omega)) _
        go_roundw
        case rel => exact ⟨i + 1, by go_num, by omega, by rw [HSU.out, if_pos (by first | exact trivial | rfl), iv_append, List.length_append, HQ.out]; exact hown8, hba.grown hg8 (by simp; omega) (fun j e => (HO3.out.lt j e).1)⟩
        case measure => simp [intOf]; omega
    · have hin : i = n := by omega
      subst hin
      have hcl3 : q ≤ 1024 := by omega
      clear hvl
      go_wp2_with fail
      go_loopw [3, 6] (fun v z wx => ∃ j : Nat, z = .int .i64 j ∧ j ≤ m ∧ wx.ownsRow (W.heap.size + 1) 3 1 v (vbl l i ++ ms.take j).length (iv (vbl l i ++ ms.take j)) ∧ Below (W.heap.size + 1) W1 wx) (fun _ z _ => m - (intOf z).toNat)
      case atStart => exact ⟨0, rfl, Nat.zero_le _, by rw [List.take_zero, List.append_nil, HQ.out]; exact HOW.out, HBW.out⟩
      case round =>
        clear HOW HBW HB0 p0 p1 p2 hg1
        rename World => wx
        obtain ⟨j, rfl, hj, hown, hbw⟩ := hrel
        obtain ⟨A4, c4, rfl⟩ := own_form hown
        have hvl : (vbl l i ++ ms.take j).length ≤ q + j := by rw [List.length_append, HQ.out, List.length_take]; omega
        obtain ⟨q2, hq⟩ : ∃ q2, (vbl l i ++ ms.take j).length = q2 := ⟨_, rfl⟩
        rw [hq] at hvl hown
        have HQ2 := Lib.hid hq
        rw [hq]
        have hBW : Below W.heap.size W wx := HB1.out.trans (hbw.mono (by omega))
        have HOW := Lib.hid hown
        have HBW := Lib.hid hbw
        have HB0 := Lib.hid hBW
        obtain ⟨p0, p1, p2⟩ := HP.out.three' hbw (by omega)
        have hg1 : W.heap.size + 1 ≤ wx.heap.size := by have := hbw.size; rw [HS1.out] at this; exact this
        clear hown hbw hBW hq
        by_cases hlt : j < m
        · obtain ⟨x, hx⟩ : ∃ x, ms[j]? = some x := ⟨_, List.getElem?_eq_getElem (by rw [HM.out]; exact hlt)⟩
          have u1 : (j : Int) < (m : Int) := by omega
          obtain ⟨b, o, rfl, hbl, hcs⟩ := (HB.out.keep HB0.out).i (by rw [HM.out]; omega)
          have c0 := hcs j (by rw [HM.out]; exact hlt)
          rw [hx, Option.getD_some] at c0
          have HX := Lib.hid hx
          have hnm := HO.out.newm j x hx
          have hbx := HO.out.mb x (List.mem_of_getElem? hx)
          have e1 : IntKind.i64.wrap ((j : Int) + 1) = ((j + 1 : Nat) : Int) := by rw [IntWalk.i64_in _ (by omega)]; rfl
          have hmem : decide (x ∈ vbl l i ++ ms.take j) = false := decide_eq_false (by rw [← HN.out]; exact hnm)
          have HH := rhas_any wx A4 q2 c4 (vbl l i ++ ms.take j) x HQ2.out (by omega) (own_reads HOW.out)
          rw [hmem] at HH
          have HHB := Lib.hid (rblock_any wx x hbx)
          have HHH := Lib.hid HH
          have HCB : Hid (∀ w', Below wx.heap.size wx w' → w'.cell? ⟨b, o + j, none⟩ = some (.int .i64 x)) := fun w' hw => (hw.cell (p := ⟨b, o + j, none⟩) hbl).trans c0
          clear hmem HH hcs hx hnm hbx
          go_upto_region 17 with (first
            | (go_at_call 115; refine HHB.out.mono ?_; rintro e w2 ⟨rfl, rfl⟩)
            | (go_at_call 116; refine HHH.out.mono ?_; rintro e w2 ⟨rfl, hb2⟩))
          have c0 := HCB.out w2 hb2
          obtain ⟨p0, p1, p2⟩ := (HP.out.below HBW.out (by omega)).three' hb2 (by omega)
          have HO3 := Lib.hid (own_keepB HOW.out hb2)
          have HB3 := Lib.hid (HBW.out.trans (hb2.mono hg1))
          have hg3 : W.heap.size + 1 ≤ w2.heap.size := Nat.le_trans hg1 hb2.size
          clear hb2 HOW HBW HB0 HHB HHH HCB
          go_wp2_with (at_builtin; refine wpList_append_reads _ (by rfl) (.tmp 111) (.tmp 117) _ (by rfl) (W.heap.size + 1) 3 ii _ 1 8 Tryz.underlying22 hii hy0 hy1 hy2 (by rfl) (by omega) (.slice A4 q2 c4) q2 (iv (vbl l i ++ ms.take j)) (by rfl) (HO3.out.alloc _) (some ⟨w2.heap.size, 0, none⟩) 1 1 [.int .i64 x] (by rfl) (by rfl) (Reads.new _ _ _) (by simp [Value.oneCell']) (by simp only [maxLen]; omega) (by omega) (by simp; omega) ?_; intro v8 w8 hown8 hg8 hat8)
          have hba : Below (W.heap.size + 1) W1 (w2.alloc (.cells #[.int .i64 x] 3)) := HB3.out.alloc (Nat.le_trans (Nat.le_refl _) (by omega)) _
          go_roundw
          case rel => exact ⟨j + 1, by go_num, by omega, by rw [List.take_add_one, HX.out, ← List.append_assoc, iv_append, List.length_append, HQ2.out]; exact hown8, hba.grown hg8 (by simp; omega) (fun j e => (HO3.out.lt j e).1)⟩
          case measure => simp [intOf]; omega
        · have hjm : j = m := by omega
          subst hjm
          go_wp2_with fail
          go_ret
          exact ⟨rfl, HB0.out⟩
end Go.Proofs.YtogchafnnkajfaaGreat
namespace Go.Proofs.YtogchafnnkajfaaGreat
set_option linter.unusedVariables false
open Go.RowKit Go.Shelf
attribute [local go_sem] Oper.semAt_some
set_option maxRecDepth 100000 in
set_option maxHeartbeats 4000000 in
theorem rfind_any (W : World) (A B : Option Addr) (n c m d : Nat) (s : CS) (h : s.Ok) (b : Int) (hn : s.sl.length = n) (hm : s.ms.length = m) (hA : Reads W A (scs s.sl)) (hB : Reads W B (iv s.ms)) :
    Calls Tryz.prog 32 #[csV A n c s.clk B m d, .int .i64 b] W fun e w' => e = .returned (.int .i64 (s.find b)) ∧ Below W.heap.size W w' := by
  obtain ⟨l, clk, ms⟩ := s
  dsimp only at hn hm hA hB ⊢
  have hl : 1 ≤ l.length ∧ l.length ≤ 1024 := h.len
  have HV : Hid (∀ w, Below W.heap.size W w → _) := fun w hw => rvalid_any w A B n c m d ⟨l, clk, ms⟩ h hn hm (hA.keep hw) (hB.keep hw)
  have HA := Lib.hid hA
  have HN := Lib.hid hn
  have hP := Cs.new W 58 #[.slice A n c, .int .i64 clk, .slice B m d]
  have hb1 : Below W.heap.size W (W.alloc (.cells #[.slice A n c, .int .i64 clk, .slice B m d] 58)) := (Below.refl _ W).alloc (Nat.le_refl _) _
  have HS1 : Hid ((W.alloc (.cells #[.slice A n c, .int .i64 clk, .slice B m d] 58)).heap.size = W.heap.size + 1) := by show _ = _; simp
  rw [hn] at hl
  unfold csV at *
  clear h hn hm hA hB
  go_enter Tryz.func32, Tryz.ntmps32
  go_upto_region 1 with (fail)
  generalize W.alloc (.cells #[.slice A n c, .int .i64 clk, .slice B m d] 58) = W1 at *
  have HP := Lib.hid hP
  have HB1 := Lib.hid hb1
  clear hP hb1
  go_wp2_with fail
  go_loopw [5] (fun z wr => ∃ i : Nat, z = .int .i64 i ∧ i ≤ n ∧ (∀ (j : Nat) (y : Sl), j < i → l[j]? = some y → (fun x => x.valid && x.block == b) y = false) ∧ Below (W.heap.size + 1) W1 wr) (fun z _ => n - (intOf z).toNat)
  case atStart => exact ⟨0, rfl, Nat.zero_le _, (fun j y hj => by omega), Below.refl _ W1⟩
  case round =>
    obtain ⟨i, rfl, hi, hno, hbw⟩ := hrel
    have hg1 : W.heap.size + 1 ≤ wr.heap.size := by have := hbw.size; rw [HS1.out] at this; exact this
    have HNO := Lib.hid hno
    have HBW := Lib.hid hbw
    have HB0 := Lib.hid (HB1.out.trans (hbw.mono (Nat.le_succ _)))
    obtain ⟨p0, p1, p2⟩ := HP.out.three' hbw (by omega)
    clear hno hbw
    by_cases hlt : i < n
    · obtain ⟨x, hx⟩ := sl_put (l := l) (i := i) (by rw [HN.out]; exact hlt)
      have u1 : (i : Int) < (n : Int) := by omega
      have HX := Lib.hid hx
      have e1 : IntKind.i64.wrap ((i : Int) + 1) = ((i + 1 : Nat) : Int) := by rw [IntWalk.i64_in _ (by omega)]; rfl
      clear hx
      go_upto_region 4 with (go_at_call 63; refine (HV.out wr HB0.out).mono ?_; rintro e w2 ⟨rfl, hb2⟩)
      obtain ⟨p0, p1, p2⟩ := (HP.out.below HBW.out (by omega)).three' hb2 (by omega)
      have HB2 := Lib.hid (HBW.out.trans (hb2.mono hg1))
      have HB02 := Lib.hid (HB0.out.trans (hb2.mono HB0.out.size))
      clear hb2 HBW HB0
      obtain ⟨b0, o, rfl, hbl, hcs⟩ := scs_read (HA.out.keep HB02.out) (by rw [HN.out]; omega)
      obtain ⟨c0, c1, c2, c3⟩ := hcs i x HX.out
      clear hcs
      rcases hp : (fun x => x.valid && x.block == b) x with _ | _
      · have HNO2 : Hid (∀ (j : Nat) (y : Sl), j < i + 1 → l[j]? = some y → (fun x => x.valid && x.block == b) y = false) := by
          intro j y hj hy
          by_cases e : j = i
          · subst e
            rw [HX.out] at hy
            injection hy with hy
            rw [← hy]
            exact hp
          · exact HNO.out j y (by omega) hy
        obtain ⟨xv, xd, xb, xs⟩ := x
        dsimp only at hp c0 c1 c2 c3
        cases xv
        · clear hp
          go_wp2_with fail
          go_roundw
          case rel => exact ⟨i + 1, by go_num, by omega, HNO2.out, HB2.out⟩
          case measure => simp [intOf]; omega
        · have hp2 : (xb == b) = false := by simpa using hp
          clear hp
          go_wp2_with fail
          go_roundw
          case rel => exact ⟨i + 1, by go_num, by omega, HNO2.out, HB2.out⟩
          case measure => simp [intOf]; omega
      · have HE : Hid (CS.find ⟨l, clk, ms⟩ b = (i : Int)) := idxOf_at _ l i x HX.out hp HNO.out
        obtain ⟨xv, xd, xb, xs⟩ := x
        dsimp only at hp c0 c1 c2 c3
        rw [Bool.and_eq_true] at hp
        obtain ⟨hp1, hp2⟩ := hp
        subst hp1
        go_wp2_with fail
        go_ret
        exact ⟨by rw [HE.out]; rfl, HB02.out⟩
    · have hin : i = n := by omega
      subst hin
      have HE : Hid (CS.find ⟨l, clk, ms⟩ b = -1) := idxOf_no _ l (fun j y hy => HNO.out j y (by rw [← HN.out]; exact (List.getElem?_eq_some_iff.1 hy).1) hy)
      go_wp2_with fail
      go_ret
      exact ⟨by rw [HE.out]; rfl, HB0.out⟩
set_option maxRecDepth 100000 in
set_option maxHeartbeats 4000000 in
theorem rwithout_any (W : World) (B : Option Addr) (m d : Nat) (ms : List Int) (b : Int) (hm : ms.length = m) (hm2 : m ≤ 100000) (hB : Reads W B (iv ms)) :
    Calls Tryz.prog 131 #[.slice B m d, .int .i64 b] W fun e w' => (∃ v, e = .returned v ∧ w'.ownsRow W.heap.size 3 1 v (ms.filter (· ≠ b)).length (iv (ms.filter (· ≠ b)))) ∧ Below W.heap.size W w' := by
  have HM := Lib.hid hm
  have HB := Lib.hid hB
  obtain ⟨ii, hii, hy0, hy1, hy2⟩ := info_parts int_info
  clear hm hB
  go_enter Tryz.func131, Tryz.ntmps131
  go_wp2_with fail
  go_loopw [5, 6] (fun v z wr => ∃ i : Nat, z = .int .i64 i ∧ i ≤ m ∧ wr.ownsRow W.heap.size 3 1 v ((ms.take i).filter (· ≠ b)).length (iv ((ms.take i).filter (· ≠ b))) ∧ Below W.heap.size W wr) (fun _ z _ => m - (intOf z).toNat)
  case atStart => exact ⟨0, rfl, Nat.zero_le _, World.ownsRow_nil _ _ _ _, Below.refl _ _⟩
  case round =>
    obtain ⟨i, rfl, hi, hown, hbw⟩ := hrel
    obtain ⟨A3, c3, rfl⟩ := own_form hown
    have hvl : ((ms.take i).filter (· ≠ b)).length ≤ i := Nat.le_trans (List.length_filter_le _ _) (List.length_take_le _ _)
    obtain ⟨L, hL⟩ : ∃ L, (ms.take i).filter (· ≠ b) = L := ⟨_, rfl⟩
    rw [hL] at hvl hown ⊢
    have HL := Lib.hid hL
    have HOW := Lib.hid hown
    have HBW := Lib.hid hbw
    clear hown hL
    by_cases hlt : i < m
    · obtain ⟨x, hx⟩ : ∃ x, ms[i]? = some x := ⟨_, List.getElem?_eq_getElem (by rw [HM.out]; exact hlt)⟩
      have u1 : (i : Int) < (m : Int) := by omega
      obtain ⟨b0, o, rfl, hbl, hcs⟩ := (HB.out.keep hbw).i (by rw [HM.out]; omega)
      have c0 := hcs i (by rw [HM.out]; exact hlt)
      rw [hx, Option.getD_some] at c0
      have HX := Lib.hid hx
      clear hcs hx hbw
      have e1 : IntKind.i64.wrap ((i : Int) + 1) = ((i + 1 : Nat) : Int) := by rw [IntWalk.i64_in _ (by omega)]; rfl
      by_cases hp : x = b
      · subst hp
        have HN : Hid ((ms.take (i + 1)).filter (· ≠ x) = L) := by
          show _ = _
          rw [List.take_add_one, HX.out, List.filter_append, HL.out]
          simp
        go_wp2_with fail
        go_roundw
        case rel => exact ⟨i + 1, by go_num, by omega, by rw [HN.out]; exact HOW.out, HBW.out⟩
        case measure => simp [intOf]; omega
      · have hp2 : (x != b) = true := by simpa using hp
        have HN : Hid ((ms.take (i + 1)).filter (· ≠ b) = L ++ [x]) := by
          show _ = _
          rw [List.take_add_one, HX.out, List.filter_append, HL.out]
          simp [hp]
        clear hp
        obtain ⟨q, hq⟩ : ∃ q, L.length = q := ⟨_, rfl⟩
        have HQ := Lib.hid hq
        rw [hq] at HOW hvl ⊢
        clear hq
        go_wp2_with (at_builtin; refine wpList_append_reads _ (by rfl) (.tmp 19) (.tmp 24) _ (by rfl) W.heap.size 3 ii _ 1 8 Tryz.underlying22 hii hy0 hy1 hy2 (by rfl) (by omega) (.slice A3 q c3) q (iv L) (by rfl) (HOW.out.alloc _) (some ⟨wr.heap.size, 0, none⟩) 1 1 [.int .i64 x] (by rfl) (by rfl) (Reads.new _ _ _) (by simp [Value.oneCell']) (by simp only [maxLen]; omega) (by omega) (by simp; exact Nat.le_succ_of_le HBW.out.size) ?_; intro v8 w8 hown8 hg8 hat8)
        have hba : Below W.heap.size W (wr.alloc (.cells #[.int .i64 x] 3)) := HBW.out.alloc HBW.out.size _
        go_roundw
        case rel => exact ⟨i + 1, by go_num, by omega, by rw [HN.out, iv_append, List.length_append, HQ.out]; exact hown8, hba.grown hg8 (by simp; exact Nat.le_succ_of_le HBW.out.size) (fun j e => (HOW.out.lt j e).1)⟩
        case measure => simp [intOf]; omega
    · have hin : i = m := by omega
      subst hin
      have HN : Hid (ms.filter (· ≠ b) = L) := by
        show _ = _
        rw [← HL.out, List.take_of_length_le (by rw [HM.out]; exact Nat.le_refl _)]
      clear hbw
      go_wp2_with fail
      go_ret
      exact ⟨⟨_, rfl, by rw [HN.out]; exact HOW.out⟩, HBW.out⟩
end Go.Proofs.YtogchafnnkajfaaGreat
namespace Go.Proofs.YtogchafnnkajfaaGreat
set_option linter.unusedVariables false
open Go.RowKit Go.Shelf
attribute [local go_sem] Oper.semAt_some
set_option maxRecDepth 100000 in
set_option maxHeartbeats 4000000 in
theorem rleast_any (W : World) (A B : Option Addr) (n c m d : Nat) (clk : Int) (l : List Sl) (dt : Bool) (hl : l.length = n) (hn : n ≤ 1000000) (hA : Reads W A (scs l)) :
    Calls Tryz.prog 129 #[csV A n c clk B m d, .bool dt] W fun e w' => e = .returned (.int .i64 (least (fun x => x.valid && x.dirty == dt) l)) ∧ Below W.heap.size W w' := by
  have HL := Lib.hid hl
  have HA := Lib.hid hA
  clear hl hA
  have hP := Cs.new W 58 #[.slice A n c, .int .i64 clk, .slice B m d]
  have hb1 : Below W.heap.size W (W.alloc (.cells #[.slice A n c, .int .i64 clk, .slice B m d] 58)) := (Below.refl _ W).alloc (Nat.le_refl _) _
  have HS1 : Hid ((W.alloc (.cells #[.slice A n c, .int .i64 clk, .slice B m d] 58)).heap.size = W.heap.size + 1) := by show _ = _; simp
  unfold csV
  go_enter Tryz.func129, Tryz.ntmps129
  go_upto_region 1 with (fail)
  generalize W.alloc (.cells #[.slice A n c, .int .i64 clk, .slice B m d] 58) = W1 at *
  have HP := Lib.hid hP
  have HB1 := Lib.hid hb1
  clear hP hb1
  go_wp2_with fail
  go_loopw [5, 6] (fun y z wr => ∃ i : Nat, y = .int .i64 (leastTo (fun x => x.valid && x.dirty == dt) l i) ∧ z = .int .i64 i ∧ i ≤ n ∧ Below (W.heap.size + 1) W1 wr) (fun _ z _ => n - (intOf z).toNat)
  case atStart => exact ⟨0, rfl, rfl, Nat.zero_le _, Below.refl _ W1⟩
  case round =>
    obtain ⟨i, rfl, rfl, hi, hbw⟩ := hrel
    have HBW := Lib.hid hbw
    have HB0 := Lib.hid (HB1.out.trans (hbw.mono (Nat.le_succ _)))
    obtain ⟨p0, p1, p2⟩ := HP.out.three' hbw (by omega)
    clear hbw
    by_cases hlt : i < n
    · obtain ⟨x, hx⟩ := sl_put (l := l) (i := i) (by rw [HL.out]; exact hlt)
      have u1 : (i : Int) < (n : Int) := by omega
      obtain ⟨b0, o, rfl, hbl, hcs⟩ := scs_read (HA.out.keep HB0.out) (by rw [HL.out]; omega)
      obtain ⟨c0, c1, c2, c3⟩ := hcs i x hx
      have HR := Lib.hid (leastTo_range (fun x => x.valid && x.dirty == dt) l i (by rw [HL.out]; exact hi))
      have HU := Lib.hid (leastTo_succ (fun x => x.valid && x.dirty == dt) l i x hx)
      have HCS : Hid (∀ (k : Nat) (y : Sl), l[k]? = some y → wr.cell? ⟨b0, o + k * 4 + 3, none⟩ = some (.int .i64 y.stamp)) := fun k y hy => (hcs k y hy).2.2.2
      clear hcs hx
      have e1 : IntKind.i64.wrap ((i : Int) + 1) = ((i + 1 : Nat) : Int) := by rw [IntWalk.i64_in _ (by omega)]; rfl
      obtain ⟨K, hK⟩ : ∃ K, leastTo (fun x => x.valid && x.dirty == dt) l i = K := ⟨_, rfl⟩
      rw [hK] at HR HU ⊢
      clear hK
      obtain ⟨xv, xd, xb, xs⟩ := x
      dsimp only at c0 c1 c2 c3 HU
      have hKi : K < (i : Int) := by have := HR.out; omega
      cases xv
      · have HU2 : Hid (leastTo (fun x => x.valid && x.dirty == dt) l (i + 1) = K) := by show _ = _; rw [HU.out, if_neg (by intro h; have h1 := h.1; simp at h1)]
        clear HU
        go_upto_region 5 with (fail)
        go_quiet (fail)
        go_wp2_with fail
        go_roundw
        case rel => exact ⟨i + 1, by rw [HU2.out], by go_num, by omega, below_drewN HBW.out _⟩
        case measure => simp [intOf]; omega
      · rcases hp : (xd == dt) with _ | _
        · have HU2 : Hid (leastTo (fun x => x.valid && x.dirty == dt) l (i + 1) = K) := by show _ = _; rw [HU.out, if_neg (by intro h; have h1 := h.1; simp only [Bool.true_and, hp] at h1; cases h1)]
          clear HU
          go_upto_region 5 with (fail)
          go_quiet (fail)
          go_wp2_with fail
          go_roundw
          case rel => exact ⟨i + 1, by rw [HU2.out], by go_num, by omega, below_drewN HBW.out _⟩
          case measure => simp [intOf]; omega
        · by_cases hK0 : K < 0
          · have HU2 : Hid (leastTo (fun x => x.valid && x.dirty == dt) l (i + 1) = (i : Int)) := by show _ = _; rw [HU.out, if_pos ⟨by simp only [Bool.true_and]; exact hp, .inl hK0⟩]
            have hd : decide (K < 0) = true := decide_eq_true hK0
            clear HU
            go_upto_region 5 with (fail)
            go_quiet (fail)
            go_wp2_with fail
            go_roundw
            case rel => exact ⟨i + 1, by rw [HU2.out], by go_num, by omega, below_drewN HBW.out _⟩
            case measure => simp [intOf]; omega
          · obtain ⟨k, rfl⟩ : ∃ k : Nat, K = (k : Int) := ⟨K.toNat, by omega⟩
            have hki : k < i := by have := HR.out; omega
            have hkn : (k : Int) < (n : Int) := by omega
            obtain ⟨y, hy⟩ := sl_put (l := l) (i := k) (by rw [HL.out]; omega)
            have q5 := HCS.out k y hy
            rw [Int.toNat_natCast, hy, Option.getD_some] at HU
            have hd : decide ((k : Int) < 0) = false := decide_eq_false hK0
            clear hy
            obtain ⟨yv, yd, yb, ys⟩ := y
            dsimp only at q5 HU
            by_cases hst : xs < ys
            · have HU2 : Hid (leastTo (fun x => x.valid && x.dirty == dt) l (i + 1) = (i : Int)) := by show _ = _; rw [HU.out, if_pos ⟨by simp only [Bool.true_and]; exact hp, .inr hst⟩]
              have hd2 : decide (xs < ys) = true := decide_eq_true hst
              clear HU
              go_upto_region 5 with (fail)
              go_quiet (fail)
              go_wp2_with fail
              go_roundw
              case rel => exact ⟨i + 1, by rw [HU2.out], by go_num, by omega, below_drewN HBW.out _⟩
              case measure => simp [intOf]; omega
            · have HU2 : Hid (leastTo (fun x => x.valid && x.dirty == dt) l (i + 1) = (k : Int)) := by show _ = _; rw [HU.out, if_neg (by intro h; rcases h.2 with h | h; exact hK0 h; exact hst h)]
              have hd2 : decide (xs < ys) = false := decide_eq_false hst
              clear HU
              go_upto_region 5 with (fail)
              go_quiet (fail)
              go_wp2_with fail
              go_roundw
              case rel => exact ⟨i + 1, by rw [HU2.out], by go_num, by omega, below_drewN HBW.out _⟩
              case measure => simp [intOf]; omega
    · have hin : i = n := by omega
      subst hin
      go_wp2_with fail
      go_ret
      exact ⟨by unfold least; rw [HL.out]; rfl, HB0.out⟩
theorem least_congr (p q : Sl → Bool) (l : List Sl) (h : ∀ x ∈ l, p x = q x) : least p l = least q l := leastTo_congr p q l l.length h
theorem CS.Ok.oldest {s : CS} (h : s.Ok) : least (fun x => x.valid && x.dirty == true) s.sl = s.oldest := by
  refine least_congr _ _ _ fun x hx => ?_
  rcases hv : x.valid with _ | _
  · rw [h.nl x hx hv]; rfl
  · simp
theorem victim_full {l : List Sl} (hv : ∀ (j : Nat) (y : Sl), l[j]? = some y → y.valid = true) : least (fun x => x.valid && x.dirty == false) l = least (fun x => !x.dirty) l ∧ (least (fun x => !x.dirty) l < 0 → least (fun x => x.valid && x.dirty == true) l = least (fun _ => true) l) := by
  have hv2 : ∀ x ∈ l, x.valid = true := fun x hx => by
    obtain ⟨j, hj⟩ := List.mem_iff_getElem?.1 hx
    exact hv j x hj
  refine ⟨least_congr _ _ _ fun x hx => by simp [hv2 x hx], fun hn => least_congr _ _ _ fun x hx => ?_⟩
  have hm : least (fun x => !x.dirty) l = -1 := by
    rcases leastTo_range (fun x => !x.dirty) l l.length (Nat.le_refl _) with h | h
    · exact h
    · exact absurd h.1 (by show ¬ 0 ≤ least (fun x => !x.dirty) l; omega)
  obtain ⟨j, hj⟩ := List.mem_iff_getElem?.1 hx
  have := leastTo_no (fun x => !x.dirty) l l.length (Nat.le_refl _) hm j x (List.getElem?_eq_some_iff.1 hj).1 hj
  simp only [Bool.not_eq_false'] at this
  simp [hv2 x hx, this]
set_option maxRecDepth 100000 in
set_option maxHeartbeats 2000000 in
theorem roldest_any (W : World) (A B : Option Addr) (n c m d : Nat) (s : CS) (h : s.Ok) (hn : s.sl.length = n) (hm : s.ms.length = m) (hA : Reads W A (scs s.sl)) (hB : Reads W B (iv s.ms)) :
    Calls Tryz.prog 89 #[csV A n c s.clk B m d] W fun e w' => e = .returned (.int .i64 s.oldest) ∧ Below W.heap.size W w' := by
  have ho := h.oldest
  generalize s.oldest = old at *
  obtain ⟨l, clk, ms⟩ := s
  dsimp only at hn hm hA hB ho ⊢
  have hl : 1 ≤ l.length ∧ l.length ≤ 1024 := h.len
  have hb1 : Below W.heap.size W (W.alloc (.cells #[.slice A n c, .int .i64 clk, .slice B m d] 58)) := (Below.refl _ W).alloc (Nat.le_refl _) _
  have hP := Cs.new W 58 #[.slice A n c, .int .i64 clk, .slice B m d]
  have HV := Lib.hid (rvalid_any (W.alloc (.cells #[.slice A n c, .int .i64 clk, .slice B m d] 58)) A B n c m d ⟨l, clk, ms⟩ h hn hm (hA.keep hb1) (hB.keep hb1))
  have HB1 := Lib.hid hb1
  have HP := Lib.hid hP
  have HS1 : Hid ((W.alloc (.cells #[.slice A n c, .int .i64 clk, .slice B m d] 58)).heap.size = W.heap.size + 1) := by show _ = _; simp
  have HF : Hid (∀ w, Below W.heap.size W w → _) := fun w hw => rleast_any w A B n c m d clk l true hn (by omega) (hA.keep hw)
  rw [ho] at HF
  unfold csV at *
  clear h hn hm hA hB hb1 hl ho
  go_enter Tryz.func89, Tryz.ntmps89
  go_upto_region 1 with (fail)
  generalize W.alloc (.cells #[.slice A n c, .int .i64 clk, .slice B m d] 58) = W1 at *
  obtain ⟨p0, p1, p2⟩ := hP.three
  clear hP
  go_upto_region 3 with (go_at_call 63; refine HV.out.mono ?_; rintro e w2 ⟨rfl, hb2⟩; obtain ⟨p0, p1, p2⟩ := HP.out.three' hb2 (by rw [HS1.out]; omega); clear HV)
  have HB2 := Lib.hid (HB1.out.trans (hb2.mono (by rw [HS1.out]; omega)))
  clear hb2
  go_wp2_with (go_at_call 129; refine (HF.out w2 HB2.out).mono ?_; rintro e w3 ⟨rfl, hb3⟩)
  go_ret
  exact ⟨rfl, HB2.out.trans (hb3.mono HB2.out.size)⟩
set_option maxRecDepth 100000 in
set_option maxHeartbeats 4000000 in
theorem rvictim_any (W : World) (A B : Option Addr) (n c m d : Nat) (s : CS) (h : s.Ok) (hn : s.sl.length = n) (hm : s.ms.length = m) (hA : Reads W A (scs s.sl)) (hB : Reads W B (iv s.ms)) :
    Calls Tryz.prog 93 #[csV A n c s.clk B m d] W fun e w' => e = .returned (.tuple #[.int .i64 s.victim, .int .i64 0]) ∧ Below W.heap.size W w' := by
  obtain ⟨l, clk, ms⟩ := s
  dsimp only at hn hm hA hB ⊢
  have hl : 1 ≤ l.length ∧ l.length ≤ 1024 := h.len
  have hb1 : Below W.heap.size W (W.alloc (.cells #[.slice A n c, .int .i64 clk, .slice B m d] 58)) := (Below.refl _ W).alloc (Nat.le_refl _) _
  have hP := Cs.new W 58 #[.slice A n c, .int .i64 clk, .slice B m d]
  have HV := Lib.hid (rvalid_any (W.alloc (.cells #[.slice A n c, .int .i64 clk, .slice B m d] 58)) A B n c m d ⟨l, clk, ms⟩ h hn hm (hA.keep hb1) (hB.keep hb1))
  have HB1 := Lib.hid hb1
  have HP := Lib.hid hP
  have HS1 : Hid ((W.alloc (.cells #[.slice A n c, .int .i64 clk, .slice B m d] 58)).heap.size = W.heap.size + 1) := by show _ = _; simp
  have HF1 : Hid (∀ w, Below W.heap.size W w → _) := fun w hw => rleast_any w A B n c m d clk l false hn (by omega) (hA.keep hw)
  have HF2 : Hid (∀ w, Below W.heap.size W w → _) := fun w hw => rleast_any w A B n c m d clk l true hn (by omega) (hA.keep hw)
  have hv : CS.victim ⟨l, clk, ms⟩ = if 0 ≤ idxOf (fun x => !x.valid) l then idxOf (fun x => !x.valid) l else if 0 ≤ least (fun x => !x.dirty) l then least (fun x => !x.dirty) l else least (fun _ => true) l := rfl
  generalize CS.victim ⟨l, clk, ms⟩ = vic at *
  have HVI := Lib.hid hv
  have HA := Lib.hid hA
  have HN := Lib.hid hn
  rw [hn] at hl
  unfold csV at *
  clear h hn hm hA hB hb1 hv
  go_enter Tryz.func93, Tryz.ntmps93
  go_upto_region 1 with (fail)
  generalize W.alloc (.cells #[.slice A n c, .int .i64 clk, .slice B m d] 58) = W1 at *
  obtain ⟨p0, p1, p2⟩ := hP.three
  clear hP
  go_upto_region 3 with (go_at_call 63; refine HV.out.mono ?_; rintro e w2 ⟨rfl, hb2⟩; obtain ⟨p0, p1, p2⟩ := HP.out.three' hb2 (by rw [HS1.out]; omega); clear HV)
  have HP2 := Lib.hid (HP.out.below hb2 (by rw [HS1.out]; omega))
  have HB2 := Lib.hid (HB1.out.trans (hb2.mono (by rw [HS1.out]; omega)))
  have HG2 : Hid (W.heap.size + 1 ≤ w2.heap.size) := by have := hb2.size; rw [HS1.out] at this; exact this
  obtain ⟨b0, o, rfl, hbl, hcs⟩ := scs_read (HA.out.keep HB2.out) (by rw [HN.out]; omega)
  have HCS := Lib.hid hcs
  clear hb2 HP HB1 hcs
  go_wp2_with fail
  go_loopw [4] (fun z wr => wr = w2 ∧ ∃ i : Nat, z = .int .i64 i ∧ i ≤ n ∧ (∀ (j : Nat) (y : Sl), j < i → l[j]? = some y → (fun x => !x.valid) y = false)) (fun z _ => n - (intOf z).toNat)
  case atStart => exact ⟨rfl, 0, rfl, Nat.zero_le _, (fun j y hj => by omega)⟩
  case round =>
    obtain ⟨rfl, i, rfl, hi, hno⟩ := hrel
    have HNO := Lib.hid hno
    clear hno
    by_cases hlt : i < n
    · obtain ⟨x, hx⟩ := sl_put (l := l) (i := i) (by rw [HN.out]; exact hlt)
      have u1 : (i : Int) < (n : Int) := by omega
      have HX := Lib.hid hx
      have e1 : IntKind.i64.wrap ((i : Int) + 1) = ((i + 1 : Nat) : Int) := by rw [IntWalk.i64_in _ (by omega)]; rfl
      obtain ⟨c0, -, -, -⟩ := HCS.out i x hx
      clear hx
      rcases hp : (fun x => !x.valid) x with _ | _
      · have HNO2 : Hid (∀ (j : Nat) (y : Sl), j < i + 1 → l[j]? = some y → (fun x => !x.valid) y = false) := by
          intro j y hj hy
          by_cases e : j = i
          · subst e
            rw [HX.out] at hy
            injection hy with hy
            rw [← hy]
            exact hp
          · exact HNO.out j y (by omega) hy
        obtain ⟨xv, xd, xb, xs⟩ := x
        dsimp only at hp c0
        obtain rfl : xv = true := by simpa using hp
        clear hp
        go_wp2_with fail
        go_roundw
        case rel => exact ⟨by first | trivial | rfl, i + 1, by go_num, by omega, HNO2.out⟩
        case measure => simp [intOf]; omega
      · have HE := Lib.hid (idxOf_at _ l i x HX.out hp HNO.out)
        obtain ⟨xv, xd, xb, xs⟩ := x
        dsimp only at hp c0
        obtain rfl : xv = false := by simpa using hp
        clear hp
        go_wp2_with fail
        go_ret2
        exact ⟨by rw [HVI.out, HE.out, if_pos (by omega)] <;> rfl, HB2.out⟩
    · have hin : i = n := by omega
      subst hin
      have HE := Lib.hid (idxOf_no _ l (fun j y hy => HNO.out j y (by rw [← HN.out]; exact (List.getElem?_eq_some_iff.1 hy).1) hy))
      have hfull := victim_full (l := l) (fun j y hy => by
        have := HNO.out j y (by rw [← HN.out]; exact (List.getElem?_eq_some_iff.1 hy).1) hy
        simpa using this)
      have HG := Lib.hid hfull.2
      rw [hfull.1] at HF1
      clear hfull
      generalize least (fun x => !x.dirty) l = i2 at *
      generalize least (fun x => x.valid && x.dirty == true) l = i4 at *
      generalize least (fun _ => true) l = i3 at *
      go_upto_region 9 with (go_at_call 129; refine (HF1.out _ HB2.out).mono ?_; rintro e w3 ⟨rfl, hb3⟩; obtain ⟨p0, p1, p2⟩ := HP2.out.three' hb3 HG2.out; clear HF1)
      have HB3 := Lib.hid (HB2.out.trans (hb3.mono HB2.out.size))
      clear hb3
      by_cases q2 : 0 ≤ i2
      · go_wp2_with fail
        go_ret2
        exact ⟨by rw [HVI.out, HE.out, if_neg (by omega), if_pos q2] <;> rfl, HB3.out⟩
      · have hi4 := HG.out (by omega)
        have HI4 := Lib.hid hi4
        clear hi4
        go_wp2_with (go_at_call 129; refine (HF2.out w3 HB3.out).mono ?_; rintro e w4 ⟨rfl, hb4⟩)
        go_ret2
        exact ⟨by rw [HVI.out, HE.out, if_neg (by omega), if_neg (by omega), ← HI4.out] <;> rfl, HB3.out.trans (hb4.mono HB3.out.size)⟩
end Go.Proofs.YtogchafnnkajfaaGreat
namespace Go.Proofs.YtogchafnnkajfaaGreat
set_option linter.unusedVariables false
open Go.RowKit Go.Shelf
attribute [local go_sem] Oper.semAt_some
def RsOut (k : Nat) (W : World) (x : CS) (v : Value) : Prop := ∃ A n c m B d, v = csV A n c x.clk B m d ∧ x.sl.length = n ∧ x.ms.length = m ∧ W.ownsRow k 31 4 (.slice A n c) n (scs x.sl) ∧ W.ownsRow k 3 1 (.slice B m d) m (iv x.ms)
theorem Cs.facts {W W' : World} {k g : Nat} {t : TypeId} {x y z : Value} (h : Cs W g t #[x, y, z]) (hb : Below k W W') (hg : g < k) : (W'.cell? ⟨g, 0, none⟩ = some x ∧ W'.cell? ⟨g, 1, none⟩ = some y ∧ W'.cell? ⟨g, 2, none⟩ = some z) ∧ W'.frozen? ⟨g, 0, none⟩ = false ∧ W'.frozen? ⟨g, 1, none⟩ = false ∧ W'.frozen? ⟨g, 2, none⟩ = false :=
  ⟨h.three' hb hg, (h.below hb hg).free 0, (h.below hb hg).free 1, (h.below hb hg).free 2⟩
theorem fr_put3 (W : World) (r : Nat) (u v z : Value) : Fr (· = r) W (((W.setCell ⟨r, 0, none⟩ u).setCell ⟨r, 1, none⟩ v).setCell ⟨r, 2, none⟩ z) :=
  (((Fr.refl (fun j => j = r) W).set (.inl rfl) u).set (.inl rfl) v).set (.inl rfl) z
theorem own_put3 {W : World} {k r n size : Nat} {e : TypeId} {v : Value} {xs : List Value} (h : W.ownsRow k e size v n xs) (hr : r < k) (a b c : Value) : (((W.setCell ⟨r, 0, none⟩ a).setCell ⟨r, 1, none⟩ b).setCell ⟨r, 2, none⟩ c).ownsRow k e size v n xs :=
  own_fr h (fr_put3 W r a b c) (fun g hg e => by have := (h.lt g hg).1; omega)
set_option maxRecDepth 100000 in
set_option maxHeartbeats 8000000 in
theorem rcopied_any (W : World) (A B : Option Addr) (n c m d : Nat) (clk : Int) (l : List Sl) (ms : List Int) (hl : l.length = n) (hm : ms.length = m) (hn : n ≤ 100000) (hm2 : m ≤ 100000) (hA : Reads W A (scs l)) (hB : Reads W B (iv ms)) :
    Calls Tryz.prog 128 #[csV A n c clk B m d] W fun e w' => (∃ v, e = .returned v ∧ RsOut W.heap.size w' ⟨l, clk, ms⟩ v) ∧ Below W.heap.size W w' := by
  have HL := Lib.hid hl
  have HM := Lib.hid hm
  have HA := Lib.hid hA
  have HB := Lib.hid hB
  clear hl hm hA hB
  obtain ⟨ii, hii, hy0, hy1, hy2⟩ := info_parts int_info
  obtain ⟨is, his, hz0, hz1, hz2⟩ := info_parts slot_info'
  unfold csV
  have hb1 : Below W.heap.size W ((W.alloc (.cells #[.slice A n c, .int .i64 clk, .slice B m d] 58)).alloc (.cells #[.slice none 0 0, .int .i64 0, .slice none 0 0] 58)) := ((Below.refl _ W).alloc (Nat.le_refl _) _).alloc (by simp) _
  have hP := (Cs.new W 58 #[.slice A n c, .int .i64 clk, .slice B m d]).alloc (.cells #[.slice none 0 0, .int .i64 0, .slice none 0 0] 58)
  have hR := Cs.new (W.alloc (.cells #[.slice A n c, .int .i64 clk, .slice B m d] 58)) 58 #[.slice none 0 0, .int .i64 0, .slice none 0 0]
  rw [World.size_alloc] at hR
  have HS1 : Hid (((W.alloc (.cells #[.slice A n c, .int .i64 clk, .slice B m d] 58)).alloc (.cells #[.slice none 0 0, .int .i64 0, .slice none 0 0] 58)).heap.size = W.heap.size + 1 + 1) := by show _ = _; simp
  go_enter Tryz.func128, Tryz.ntmps128
  go_upto_region 1 with (fail)
  generalize ((W.alloc (.cells #[.slice A n c, .int .i64 clk, .slice B m d] 58)).alloc (.cells #[.slice none 0 0, .int .i64 0, .slice none 0 0] 58)) = W2 at *
  have HP := Lib.hid hP
  have HR := Lib.hid hR
  have HB1 := Lib.hid hb1
  clear hP hR hb1
  have hbx : Below (W.heap.size + 1 + 1) W2 W2.drew := (Below.refl _ W2).drew
  obtain ⟨⟨p0, p1, p2⟩, -⟩ := HP.out.facts hbx (by omega)
  obtain ⟨⟨r0, r1, r2⟩, f0, f1, f2⟩ := HR.out.facts hbx (by omega)
  have hsz : W.heap.size + 1 + 1 ≤ W2.drew.heap.size := Nat.le_of_eq HS1.out.symm
  have hAr := HA.out.keep (HB1.out.drew)
  have hBr := HB.out.keep (HB1.out.drew)
  go_region_law (first
    | (refine step_append_reads _ (by rfl) (.const (.slice none 0 0)) (.tmp 4) _ (by rfl) (W.heap.size + 1 + 1) 31 is _ 4 24 Tryz.underlying56 his hz0 hz1 hz2 (by rfl) (by omega) (.slice none 0 0) 0 [] (by rfl) (World.ownsRow_nil _ _ _ _) A n c (scs l) (by rfl) (by rw [scs_length, HL.out]) hAr (scs_one l) (by simp only [maxLen]; omega) (by omega) hsz ?_; intro v5 w5 hown5 hg5 hat5; obtain ⟨A5, c5, hv5⟩ := own_form hown5; subst hv5; have hbk := (Below.refl _ _).grown hg5 (Nat.le_refl _) (fun j e => by simp [Value.ownBlock] at e); have hbx := hbx.grown hg5 hsz (fun j e => by simp [Value.ownBlock] at e); obtain ⟨⟨p0, p1, p2⟩, -⟩ := HP.out.facts hbx (by omega); obtain ⟨⟨r0, r1, r2⟩, f0, f1, f2⟩ := HR.out.facts hbx (by omega); have hsz := Nat.le_trans hsz hg5.size; have hAr := hAr.keep hbk; have hBr := hBr.keep hbk; (try replace hownm := own_keepB hownm hbk); clear hbk)
    | (refine step_append_reads _ (by rfl) (.const (.slice none 0 0)) (.tmp 9) _ (by rfl) (W.heap.size + 1 + 1) 3 ii _ 1 8 Tryz.underlying22 hii hy0 hy1 hy2 (by rfl) (by omega) (.slice none 0 0) 0 [] (by rfl) (World.ownsRow_nil _ _ _ _) B m d (iv ms) (by rfl) (by rw [iv_length, HM.out, Nat.mul_one]) hBr (iv_one ms) (by simp only [maxLen]; omega) (by omega) hsz ?_; intro vm wm hownm hgm hatm; obtain ⟨Am, cm, hvm⟩ := own_form hownm; subst hvm; have hbk := (Below.refl _ _).grown hgm (Nat.le_refl _) (fun j e => by simp [Value.ownBlock] at e); have hbx := hbx.grown hgm hsz (fun j e => by simp [Value.ownBlock] at e); obtain ⟨⟨p0, p1, p2⟩, -⟩ := HP.out.facts hbx (by omega); obtain ⟨⟨r0, r1, r2⟩, f0, f1, f2⟩ := HR.out.facts hbx (by omega); have hsz := Nat.le_trans hsz hgm.size; have hAr := hAr.keep hbk; have hBr := hBr.keep hbk; (try replace hown5 := own_keepB hown5 hbk); clear hbk))
  all_goals
    go_wp2_with fail
    (try simp only [Exit.inBlock, Exit.then])
    refine bodyPost_ret (res_state rfl _ _ (W.heap.size + 1) _ _ _ rfl (run_load_state _ _ _ _ _ (Cs.put3 (HR.out.below hbx (by omega)) _ _ _))) rfl ?_
  all_goals
    refine ⟨⟨_, rfl, A5, n, c5, m, Am, cm, rfl, HL.out, HM.out, ?_, ?_⟩, below_put3 (HB1.out.trans (hbx.mono (by omega))) (by omega) _ _ _⟩
    · exact own_lower (own_put3 (by rw [Nat.zero_add, List.nil_append] at hown5; exact hown5) (by omega) _ _ _) (by omega)
    · exact own_lower (own_put3 (by rw [Nat.zero_add, List.nil_append] at hownm; exact hownm) (by omega) _ _ _) (by omega)
end Go.Proofs.YtogchafnnkajfaaGreat
namespace Go.Proofs.YtogchafnnkajfaaGreat
set_option linter.unusedVariables false
open Go.RowKit Go.Shelf
attribute [local go_sem] Oper.semAt_some
theorem own_ne2 {W : World} {base base' : Nat} {e e' : TypeId} {s s' n n' : Nat} {v v' : Value} {xs xs' : List Value} (h : W.ownsRow base e s v n xs) (h' : W.ownsRow base' e' s' v' n' xs') (hne : e ≠ e') : v.ownBlock = none ∨ v.ownBlock ≠ v'.ownBlock := by
  rcases h.2 with ⟨rfl, _⟩ | ⟨g, cap, cur, rfl, _, hb, _⟩
  · exact .inl rfl
  · refine .inr fun ee => ?_
    rcases h'.2 with ⟨rfl, _⟩ | ⟨g', cap', cur', rfl, _, hb', _⟩
    · simp [Value.ownBlock] at ee
    · obtain rfl : g = g' := by simpa [Value.ownBlock] using ee
      rw [hb] at hb'
      simp at hb'
      exact hne hb'.2
theorem RsOut.parts {k : Nat} {W : World} {l : List Sl} {clk : Int} {ms : List Int} {v : Value} {n m : Nat} (h : RsOut k W ⟨l, clk, ms⟩ v) (hn : l.length = n) (hm : ms.length = m) (h1 : 1 ≤ l.length) :
    ∃ a c B d, v = .agg #[.slice (some ⟨a, 0, none⟩) n c, .int .i64 clk, .slice B m d] ∧ W.ownsRow k 31 4 (.slice (some ⟨a, 0, none⟩) n c) n (scs l) ∧ W.ownsRow k 3 1 (.slice B m d) m (iv ms) ∧ k ≤ a ∧ a < W.heap.size ∧ (∀ p, (Value.slice B m d).ownBlock = some p → p ≠ a) := by
  obtain ⟨A, n', c, m', B, d, rfl, hn', hm', hS, hM⟩ := h
  obtain rfl : n' = n := hn'.symm.trans hn
  obtain rfl : m' = m := hm'.symm.trans hm
  obtain ⟨a, cap, hA, -, hka⟩ := hS.form (by omega)
  injection hA with hA _ hcap
  subst hA
  subst hcap
  refine ⟨a, c, B, d, rfl, hS, hM, (hS.lt a rfl).1, own_lt hS a rfl, fun p hp e => ?_⟩
  rcases own_ne2 hM hS (by decide) with h | h
  · rw [h] at hp; cases hp
  · exact h (by rw [hp, e]; rfl)
theorem RsOut.fin {k k' r : Nat} {W : World} {x : CS} {A : Option Addr} {n c m d : Nat} {B : Option Addr} (u v z : Value) (hn : x.sl.length = n) (hm : x.ms.length = m) (hS : W.ownsRow k' 31 4 (.slice A n c) n (scs x.sl)) (hM : W.ownsRow k' 3 1 (.slice B m d) m (iv x.ms)) (hk : k ≤ k') (hr : r < k') :
    RsOut k (((W.setCell ⟨r, 0, none⟩ u).setCell ⟨r, 1, none⟩ v).setCell ⟨r, 2, none⟩ z) x (.agg #[.slice A n c, .int .i64 x.clk, .slice B m d]) :=
  ⟨A, n, c, m, B, d, rfl, hn, hm, own_lower (own_put3 hS hr _ _ _) hk, own_lower (own_put3 hM hr _ _ _) hk⟩
theorem own_off {W : World} {k n size b i : Nat} {e : TypeId} {v : Value} {xs : List Value} (h : W.ownsRow k e size v n xs) (hb : ∀ g, v.ownBlock = some g → g ≠ b) (u : Value) : (W.setCell ⟨b, i, none⟩ u).ownsRow k e size v n xs := own_fr h (fr_set W b i u) (fun g hg e => hb g hg e)
theorem scs_dirty (l : List Sl) (k : Nat) (x : Sl) (t : Bool) (hx : l[k]? = some x) : scs (l.set k { x with dirty := t }) = (scs l).set (k * 4 + 1) (.bool t) := by
  have hk := (List.getElem?_eq_some_iff.1 hx).1
  obtain ⟨t0, t1, t2, t3⟩ := scs_at l k x hx
  rw [scs_set l k _ hk]
  have e0 : (scs l).set (k * 4) (.bool x.valid) = scs l := by
    obtain ⟨h, e⟩ := List.getElem?_eq_some_iff.1 t0
    rw [← e]; exact List.set_getElem_self h
  dsimp only
  rw [e0]
  have e2 : ((scs l).set (k * 4 + 1) (.bool t)).set (k * 4 + 2) (.int .i64 x.block) = (scs l).set (k * 4 + 1) (.bool t) := by
    have h2 : ((scs l).set (k * 4 + 1) (.bool t))[k * 4 + 2]? = some (.int .i64 x.block) := by rw [List.getElem?_set_ne (by omega)]; exact t2
    obtain ⟨h, e⟩ := List.getElem?_eq_some_iff.1 h2
    rw [← e]; exact List.set_getElem_self h
  rw [e2]
  have h3 : ((scs l).set (k * 4 + 1) (.bool t))[k * 4 + 3]? = some (.int .i64 x.stamp) := by rw [List.getElem?_set_ne (by omega)]; exact t3
  obtain ⟨h, e⟩ := List.getElem?_eq_some_iff.1 h3
  rw [← e]; exact List.set_getElem_self h
set_option maxRecDepth 100000 in
set_option maxHeartbeats 4000000 in
theorem rtouch_any (W : World) (A B : Option Addr) (n c m d : Nat) (s : CS) (h : s.Ok) (hn : s.sl.length = n) (hm : s.ms.length = m) (hA : Reads W A (scs s.sl)) (hB : Reads W B (iv s.ms)) (k : Nat) (x : Sl) (hx : s.sl[k]? = some x) (hv : x.valid = true) (hc : s.clk < 1099511627776) :
    Calls Tryz.prog 91 #[csV A n c s.clk B m d, .int .i64 (k : Int)] W fun e w' => (∃ v, e = .returned (.tuple #[v, .int .i64 0]) ∧ RsOut W.heap.size w' (s.touch k) v) ∧ Below W.heap.size W w' := by
  obtain ⟨l, clk, ms⟩ := s
  dsimp only at hn hm hA hB hx hc ⊢
  have hl : 1 ≤ l.length ∧ l.length ≤ 1024 := h.len
  have hcl : 0 ≤ clk := h.clk.1
  have hml : ms.length ≤ 8 := h.msl
  have hkn : k < n := by rw [← hn]; exact (List.getElem?_eq_some_iff.1 hx).1
  have hb1 : Below W.heap.size W ((W.alloc (.cells #[.slice A n c, .int .i64 clk, .slice B m d] 58)).alloc (.cells #[.slice none 0 0, .int .i64 0, .slice none 0 0] 58)) := ((Below.refl _ W).alloc (Nat.le_refl _) _).alloc (by simp) _
  have hP := (Cs.new W 58 #[.slice A n c, .int .i64 clk, .slice B m d]).alloc (.cells #[.slice none 0 0, .int .i64 0, .slice none 0 0] 58)
  have hR := Cs.new (W.alloc (.cells #[.slice A n c, .int .i64 clk, .slice B m d] 58)) 58 #[.slice none 0 0, .int .i64 0, .slice none 0 0]
  rw [World.size_alloc] at hR
  have HS1 : Hid (((W.alloc (.cells #[.slice A n c, .int .i64 clk, .slice B m d] 58)).alloc (.cells #[.slice none 0 0, .int .i64 0, .slice none 0 0] 58)).heap.size = W.heap.size + 1 + 1) := by show _ = _; simp
  have HC : Hid (∀ w, Below W.heap.size W w → _) := fun w hw => rvalid_any w A B n c m d ⟨l, clk, ms⟩ h hn hm (hA.keep hw) (hB.keep hw)
  have HO : Hid (∀ w, Below W.heap.size W w → _) := fun w hw => rcopied_any w A B n c m d clk l ms hn hm (by omega) (by omega) (hA.keep hw) (hB.keep hw)
  have HAR : Hid (∀ w, Below W.heap.size W w → _) := fun w hw => scs_read (hA.keep hw) (by omega)
  have HN := Lib.hid hn
  have HM := Lib.hid hm
  have HML := Lib.hid hml
  have HB1 := Lib.hid hb1
  have HP := Lib.hid hP
  have HR := Lib.hid hR
  have HHL := Lib.hid hl
  unfold csV at *
  clear h hn hm hA hB hb1 hl hR hml
  have HX := Lib.hid hx
  have u1 : ¬ (k : Int) < 0 := by omega
  have u2 : ¬ (n : Int) ≤ (k : Int) := by omega
  have q3 : (k : Int) < (n : Int) := by omega
  have v1 : decide ((k : Int) < 0) = false := decide_eq_false u1
  have v2 : decide ((n : Int) ≤ (k : Int)) = false := decide_eq_false u2
  have q1 : (clk == 1099511627776) = false := by simp; omega
  have q2 : IntKind.i64.wrap (clk + 1) = clk + 1 := IntWalk.i64_in _ (by omega)
  clear hx
  obtain ⟨xv, xd, xb, xs⟩ := x
  dsimp only at hv
  subst hv
  go_enter Tryz.func91, Tryz.ntmps91
  go_upto_region 1 with (fail)
  generalize ((W.alloc (.cells #[.slice A n c, .int .i64 clk, .slice B m d] 58)).alloc (.cells #[.slice none 0 0, .int .i64 0, .slice none 0 0] 58)) = W1 at *
  obtain ⟨p0, p1, p2⟩ := hP.three
  clear hP
  go_upto_region 3 with (go_at_call 63; refine (HC.out W1 HB1.out).mono ?_; rintro e w2 ⟨rfl, hb2⟩)
  clear p0 p1 p2
  have HP2 := Lib.hid (HP.out.below hb2 (by rw [HS1.out]; omega))
  have HR2 := Lib.hid (HR.out.below hb2 (by rw [HS1.out]; omega))
  have HB2 := Lib.hid (HB1.out.trans (hb2.mono (by rw [HS1.out]; omega)))
  have hg2 : W.heap.size + 1 + 1 ≤ w2.heap.size := by have := hb2.size; rw [HS1.out] at this; exact this
  clear hb2 HP HB1 HR HS1 HC
  obtain ⟨p0, p1, p2⟩ := HP2.out.three
  obtain ⟨bA, oA, rfl, -, hcs⟩ := HAR.out w2 HB2.out
  obtain ⟨c0, c1, -, -⟩ := hcs k _ HX.out
  dsimp only at c0 c1
  clear hcs HAR
  go_upto_region 10 with (go_at_call 128; refine (HO.out w2 HB2.out).mono ?_; rintro e w3 ⟨⟨v, rfl, hrs⟩, hb3⟩; obtain ⟨a, c', B', d', rfl, hsl, hmi, hka, hal, hBp⟩ := hrs.parts HN.out HM.out (by have := HHL.out; omega); clear hrs)
  have HP3 := Lib.hid (HP2.out.below hb3 HP2.out.lt)
  have HR3 := Lib.hid (HR2.out.below hb3 HR2.out.lt)
  have HB3 := Lib.hid (HB2.out.trans (hb3.mono HB2.out.size))
  have hg3 : W.heap.size + 1 + 1 ≤ w3.heap.size := Nat.le_trans hg2 hb3.size
  have hT := Cs.new w3 58 #[.slice (some ⟨a, 0, none⟩) n c', .int .i64 clk, .slice B' m d']
  have hb4 : Below w3.heap.size w3 (w3.alloc (.cells #[.slice (some ⟨a, 0, none⟩) n c', .int .i64 clk, .slice B' m d'] 58)) := (Below.refl _ w3).alloc (Nat.le_refl _) _
  have HS4 := Lib.hid (hsl.alloc (.cells #[.slice (some ⟨a, 0, none⟩) n c', .int .i64 clk, .slice B' m d'] 58))
  have HM4 := Lib.hid (hmi.alloc (.cells #[.slice (some ⟨a, 0, none⟩) n c', .int .i64 clk, .slice B' m d'] 58))
  have HP4 := Lib.hid (HP3.out.below hb4 HP3.out.lt)
  have HR4 := Lib.hid (HR3.out.below hb4 HR3.out.lt)
  have HB4 := Lib.hid (HB3.out.trans (hb4.mono (by have := HB3.out.size; omega)))
  have HBG : Hid (∀ g, (Value.slice B' m d').ownBlock = some g → g < w3.heap.size) := fun g hg => own_lt hmi g hg
  generalize w3.heap.size = g3 at *
  generalize (w3.alloc (.cells #[.slice (some ⟨a, 0, none⟩) n c', .int .i64 clk, .slice B' m d'] 58)) = W4 at *
  have HBP := Lib.hid hBp
  have HT4 := Lib.hid hT
  clear hsl hmi hb3 HP2 HR2 HB2 HP3 HR3 HB3 hb4 HO p0 p1 p2 hT hBp
  clear c0 c1
  obtain ⟨t0, t1, t2⟩ := HT4.out.three
  have f1 := HT4.out.free 1
  go_upto_region 11 with (fail)
  have HT5 : Hid (Cs (W4.setCell ⟨g3, 1, none⟩ (.int .i64 (clk + 1))) g3 58 #[.slice (some ⟨a, 0, none⟩) n c', .int .i64 (clk + 1), .slice B' m d']) := Cs.put (l := [_, _, _]) HT4.out _
  have HS5 := Lib.hid (own_off (b := g3) (i := 1) HS4.out (fun g hg => by simp [Value.ownBlock] at hg; omega) (.int .i64 (clk + 1)))
  have HM5 := Lib.hid (own_off (b := g3) (i := 1) HM4.out (fun g hg => by have := HBG.out g hg; omega) (.int .i64 (clk + 1)))
  have HR5 := Lib.hid (HR4.out.off (b := g3) (i := 1) (by omega) (.int .i64 (clk + 1)))
  have HB5 := Lib.hid (HB4.out.setCell (p := ⟨g3, 1, none⟩) (by show W.heap.size ≤ g3; omega) (.int .i64 (clk + 1)))
  clear HS4 HM4 HR4 HB4 HT4 HP4 t0 t1 t2 f1
  generalize (W4.setCell ⟨g3, 1, none⟩ (.int .i64 (clk + 1))) = W5 at *
  obtain ⟨t0, t1, t2⟩ := HT5.out.three
  have s3 := (HS5.out.cellAt (k * 4 + 3) (by omega)).trans (scs_at l k _ HX.out).2.2.2
  have f3 := HS5.out.frozenAt (k * 4 + 3)
  go_upto_region 12 with (fail)
  have HST := Lib.hid (scs_stamp l k _ (clk + 1) HX.out)
  have HT6 := Lib.hid (HT5.out.off (b := a) (i := k * 4 + 3) (by omega) (.int .i64 (clk + 1)))
  have hS6 := (HS5.out.stored (k * 4 + 3) (.int .i64 (clk + 1))).1
  have HM6 := Lib.hid (own_off (b := a) (i := k * 4 + 3) HM5.out (fun g hg => HBP.out g hg) (.int .i64 (clk + 1)))
  have HR6 := Lib.hid (HR5.out.off (b := a) (i := k * 4 + 3) (by omega) (.int .i64 (clk + 1)))
  have HB6 := Lib.hid (HB5.out.setCell (p := ⟨a, k * 4 + 3, none⟩) (by show W.heap.size ≤ a; omega) (.int .i64 (clk + 1)))
  rw [← HST.out] at hS6
  have HS6 := Lib.hid hS6
  clear hS6 HS5 HM5 HR5 HB5 HT5 t0 t1 t2 f3 s3
  generalize (W5.setCell ⟨a, k * 4 + 3, none⟩ (.int .i64 (clk + 1))) = W6 at *
  obtain ⟨t0, t1, t2⟩ := HT6.out.three
  obtain ⟨r0, r1, r2⟩ := HR6.out.three
  have f0 := HR6.out.free 0
  have f1 := HR6.out.free 1
  have f2 := HR6.out.free 2
  go_wp2_with fail
  (try simp only [Exit.inBlock, Exit.then])
  refine bodyPost_ret (res_state_tmp rfl _ _ (W.heap.size + 1) _ _ _ rfl (Cs.put3 HR6.out _ _ _)) rfl ?_
  have ht : CS.touch ⟨l, clk, ms⟩ k = ⟨l.set k ⟨true, xd, xb, clk + 1⟩, clk + 1, ms⟩ := by unfold CS.touch; rw [CS.at_eq HX.out]
  rw [ht]
  exact ⟨⟨_, rfl, RsOut.fin (x := ⟨l.set k ⟨true, xd, xb, clk + 1⟩, clk + 1, ms⟩) _ _ _ (by show (List.set _ _ _).length = n; rw [List.length_set]; exact HN.out) HM.out HS6.out HM6.out (by omega) (by omega)⟩, below_put3 HB6.out (by omega) _ _ _⟩
end Go.Proofs.YtogchafnnkajfaaGreat
namespace Go.Proofs.YtogchafnnkajfaaGreat
set_option linter.unusedVariables false
open Go.RowKit Go.Shelf
attribute [local go_sem] Oper.semAt_some
set_option maxRecDepth 100000 in
set_option maxHeartbeats 4000000 in
theorem rclear_any (W : World) (A B : Option Addr) (n c m d : Nat) (s : CS) (h : s.Ok) (hn : s.sl.length = n) (hm : s.ms.length = m) (hA : Reads W A (scs s.sl)) (hB : Reads W B (iv s.ms)) (k : Nat) (x : Sl) (hx : s.sl[k]? = some x) (hv : x.dirty = false) :
    Calls Tryz.prog 130 #[csV A n c s.clk B m d, .int .i64 (k : Int)] W fun e w' => (∃ v, e = .returned (.tuple #[v, .int .i64 0]) ∧ RsOut W.heap.size w' (s.clear k) v) ∧ Below W.heap.size W w' := by
  obtain ⟨l, clk, ms⟩ := s
  dsimp only at hn hm hA hB hx ⊢
  have hl : 1 ≤ l.length ∧ l.length ≤ 1024 := h.len
  have hcl : 0 ≤ clk := h.clk.1
  have hml : ms.length ≤ 8 := h.msl
  have hkn : k < n := by rw [← hn]; exact (List.getElem?_eq_some_iff.1 hx).1
  have hb1 : Below W.heap.size W ((W.alloc (.cells #[.slice A n c, .int .i64 clk, .slice B m d] 58)).alloc (.cells #[.slice none 0 0, .int .i64 0, .slice none 0 0] 58)) := ((Below.refl _ W).alloc (Nat.le_refl _) _).alloc (by simp) _
  have hP := (Cs.new W 58 #[.slice A n c, .int .i64 clk, .slice B m d]).alloc (.cells #[.slice none 0 0, .int .i64 0, .slice none 0 0] 58)
  have hR := Cs.new (W.alloc (.cells #[.slice A n c, .int .i64 clk, .slice B m d] 58)) 58 #[.slice none 0 0, .int .i64 0, .slice none 0 0]
  rw [World.size_alloc] at hR
  have HS1 : Hid (((W.alloc (.cells #[.slice A n c, .int .i64 clk, .slice B m d] 58)).alloc (.cells #[.slice none 0 0, .int .i64 0, .slice none 0 0] 58)).heap.size = W.heap.size + 1 + 1) := by show _ = _; simp
  have HC : Hid (∀ w, Below W.heap.size W w → _) := fun w hw => rvalid_any w A B n c m d ⟨l, clk, ms⟩ h hn hm (hA.keep hw) (hB.keep hw)
  have HO : Hid (∀ w, Below W.heap.size W w → _) := fun w hw => rcopied_any w A B n c m d clk l ms hn hm (by omega) (by omega) (hA.keep hw) (hB.keep hw)
  have HAR : Hid (∀ w, Below W.heap.size W w → _) := fun w hw => scs_read (hA.keep hw) (by omega)
  have HN := Lib.hid hn
  have HM := Lib.hid hm
  have HML := Lib.hid hml
  have HB1 := Lib.hid hb1
  have HP := Lib.hid hP
  have HR := Lib.hid hR
  have HHL := Lib.hid hl
  unfold csV at *
  clear h hn hm hA hB hb1 hl hR hml
  have HX := Lib.hid hx
  have u1 : ¬ (k : Int) < 0 := by omega
  have u2 : ¬ (n : Int) ≤ (k : Int) := by omega
  have q3 : (k : Int) < (n : Int) := by omega
  have v1 : decide ((k : Int) < 0) = false := decide_eq_false u1
  have v2 : decide ((n : Int) ≤ (k : Int)) = false := decide_eq_false u2
  clear hx
  obtain ⟨xv, xd, xb, xs⟩ := x
  dsimp only at hv
  subst hv
  go_enter Tryz.func130, Tryz.ntmps130
  go_upto_region 1 with (fail)
  generalize ((W.alloc (.cells #[.slice A n c, .int .i64 clk, .slice B m d] 58)).alloc (.cells #[.slice none 0 0, .int .i64 0, .slice none 0 0] 58)) = W1 at *
  obtain ⟨p0, p1, p2⟩ := hP.three
  clear hP
  go_upto_region 3 with (go_at_call 63; refine (HC.out W1 HB1.out).mono ?_; rintro e w2 ⟨rfl, hb2⟩)
  clear p0 p1 p2
  have HP2 := Lib.hid (HP.out.below hb2 (by rw [HS1.out]; omega))
  have HR2 := Lib.hid (HR.out.below hb2 (by rw [HS1.out]; omega))
  have HB2 := Lib.hid (HB1.out.trans (hb2.mono (by rw [HS1.out]; omega)))
  have hg2 : W.heap.size + 1 + 1 ≤ w2.heap.size := by have := hb2.size; rw [HS1.out] at this; exact this
  clear hb2 HP HB1 HR HS1 HC
  obtain ⟨p0, p1, p2⟩ := HP2.out.three
  obtain ⟨bA, oA, rfl, -, hcs⟩ := HAR.out w2 HB2.out
  obtain ⟨c0, c1, -, -⟩ := hcs k _ HX.out
  dsimp only at c0 c1
  clear hcs HAR
  go_upto_region 8 with (go_at_call 128; refine (HO.out w2 HB2.out).mono ?_; rintro e w3 ⟨⟨v, rfl, hrs⟩, hb3⟩; obtain ⟨a, c', B', d', rfl, hsl, hmi, hka, hal, hBp⟩ := hrs.parts HN.out HM.out (by have := HHL.out; omega); clear hrs)
  have HP3 := Lib.hid (HP2.out.below hb3 HP2.out.lt)
  have HR3 := Lib.hid (HR2.out.below hb3 HR2.out.lt)
  have HB3 := Lib.hid (HB2.out.trans (hb3.mono HB2.out.size))
  have hg3 : W.heap.size + 1 + 1 ≤ w3.heap.size := Nat.le_trans hg2 hb3.size
  have hT := Cs.new w3 58 #[.slice (some ⟨a, 0, none⟩) n c', .int .i64 clk, .slice B' m d']
  have hb4 : Below w3.heap.size w3 (w3.alloc (.cells #[.slice (some ⟨a, 0, none⟩) n c', .int .i64 clk, .slice B' m d'] 58)) := (Below.refl _ w3).alloc (Nat.le_refl _) _
  have HS4 := Lib.hid (hsl.alloc (.cells #[.slice (some ⟨a, 0, none⟩) n c', .int .i64 clk, .slice B' m d'] 58))
  have HM4 := Lib.hid (hmi.alloc (.cells #[.slice (some ⟨a, 0, none⟩) n c', .int .i64 clk, .slice B' m d'] 58))
  have HP4 := Lib.hid (HP3.out.below hb4 HP3.out.lt)
  have HR4 := Lib.hid (HR3.out.below hb4 HR3.out.lt)
  have HB4 := Lib.hid (HB3.out.trans (hb4.mono (by have := HB3.out.size; omega)))
  have HBG : Hid (∀ g, (Value.slice B' m d').ownBlock = some g → g < w3.heap.size) := fun g hg => own_lt hmi g hg
  generalize w3.heap.size = g3 at *
  generalize (w3.alloc (.cells #[.slice (some ⟨a, 0, none⟩) n c', .int .i64 clk, .slice B' m d'] 58)) = W4 at *
  have HBP := Lib.hid hBp
  have HT4 := Lib.hid hT
  clear hsl hmi hb3 HP2 HR2 HB2 HP3 HR3 HB3 hb4 HO p0 p1 p2 hT hBp
  clear c0 c1
  obtain ⟨t0, t1, t2⟩ := HT4.out.three
  obtain ⟨y0, y1, y2, y3⟩ := scs_at l k _ HX.out
  have s0 := (HS4.out.cellAt (k * 4) (by omega)).trans y0
  have s1 := (HS4.out.cellAt (k * 4 + 1) (by omega)).trans y1
  have s2 := (HS4.out.cellAt (k * 4 + 2) (by omega)).trans y2
  have s3 := (HS4.out.cellAt (k * 4 + 3) (by omega)).trans y3
  have f0 := HS4.out.frozenAt (k * 4)
  have f1 := HS4.out.frozenAt (k * 4 + 1)
  have f2 := HS4.out.frozenAt (k * 4 + 2)
  have f3 := HS4.out.frozenAt (k * 4 + 3)
  clear y0 y1 y2 y3
  go_upto_region 9 with (fail)
  have hsc := scs_set l k nilS (by rw [HN.out]; exact hkn)
  dsimp only [nilS] at hsc
  have hS6 := ((((HS4.out.stored (k * 4) (.bool false)).1.stored (k * 4 + 1) (.bool false)).1.stored (k * 4 + 2) (.int .i64 0)).1.stored (k * 4 + 3) (.int .i64 0)).1
  rw [← hsc] at hS6
  have hfr : Fr (fun j => j = a) W4 ((((W4.setCell ⟨a, k * 4, none⟩ (.bool false)).setCell ⟨a, k * 4 + 1, none⟩ (.bool false)).setCell ⟨a, k * 4 + 2, none⟩ (.int .i64 0)).setCell ⟨a, k * 4 + 3, none⟩ (.int .i64 0)) := ((((Fr.refl (fun j => j = a) W4).set (.inl rfl) _).set (.inl rfl) _).set (.inl rfl) _).set (.inl rfl) _
  have HT6 := Lib.hid (HT4.out.fr hfr (by omega))
  have HM6 := Lib.hid (own_fr HM4.out hfr (fun g hg => HBP.out g hg))
  have HR6 := Lib.hid (HR4.out.fr hfr (by omega))
  have HB6 := Lib.hid ((((HB4.out.setCell (p := ⟨a, k * 4, none⟩) (by show W.heap.size ≤ a; omega) (.bool false)).setCell (p := ⟨a, k * 4 + 1, none⟩) (by show W.heap.size ≤ a; omega) (.bool false)).setCell (p := ⟨a, k * 4 + 2, none⟩) (by show W.heap.size ≤ a; omega) (.int .i64 0)).setCell (p := ⟨a, k * 4 + 3, none⟩) (by show W.heap.size ≤ a; omega) (.int .i64 0))
  have HS6 := Lib.hid hS6
  clear HS4 HM4 HR4 HB4 HT4 hfr hsc hS6 s0 s1 s2 s3 f0 f1 f2 f3 t0 t1 t2
  generalize ((((W4.setCell ⟨a, k * 4, none⟩ (.bool false)).setCell ⟨a, k * 4 + 1, none⟩ (.bool false)).setCell ⟨a, k * 4 + 2, none⟩ (.int .i64 0)).setCell ⟨a, k * 4 + 3, none⟩ (.int .i64 0)) = W6 at *
  obtain ⟨t0, t1, t2⟩ := HT6.out.three
  obtain ⟨r0, r1, r2⟩ := HR6.out.three
  have f0 := HR6.out.free 0
  have f1 := HR6.out.free 1
  have f2 := HR6.out.free 2
  go_wp2_with fail
  (try simp only [Exit.inBlock, Exit.then])
  refine bodyPost_ret (res_state_tmp rfl _ _ (W.heap.size + 1) _ _ _ rfl (Cs.put3 HR6.out _ _ _)) rfl ?_
  exact ⟨⟨_, rfl, RsOut.fin (x := ⟨l.set k nilS, clk, ms⟩) _ _ _ (by show (List.set _ _ _).length = n; rw [List.length_set]; exact HN.out) HM.out HS6.out HM6.out (by omega) (by omega)⟩, below_put3 HB6.out (by omega) _ _ _⟩
set_option maxRecDepth 100000 in
set_option maxHeartbeats 4000000 in
theorem rsetd_any (W : World) (A B : Option Addr) (n c m d : Nat) (s : CS) (h : s.Ok) (hn : s.sl.length = n) (hm : s.ms.length = m) (hA : Reads W A (scs s.sl)) (hB : Reads W B (iv s.ms)) (k : Nat) (x : Sl) (hx : s.sl[k]? = some x) (hv : x.valid = true) (dt : Bool) :
    Calls Tryz.prog 88 #[csV A n c s.clk B m d, .int .i64 (k : Int), .bool dt] W fun e w' => (∃ v, e = .returned (.tuple #[v, .int .i64 0]) ∧ RsOut W.heap.size w' (s.setD k dt) v) ∧ Below W.heap.size W w' := by
  obtain ⟨l, clk, ms⟩ := s
  dsimp only at hn hm hA hB hx ⊢
  have hl : 1 ≤ l.length ∧ l.length ≤ 1024 := h.len
  have hcl : 0 ≤ clk := h.clk.1
  have hml : ms.length ≤ 8 := h.msl
  have hkn : k < n := by rw [← hn]; exact (List.getElem?_eq_some_iff.1 hx).1
  have hb1 : Below W.heap.size W ((W.alloc (.cells #[.slice A n c, .int .i64 clk, .slice B m d] 58)).alloc (.cells #[.slice none 0 0, .int .i64 0, .slice none 0 0] 58)) := ((Below.refl _ W).alloc (Nat.le_refl _) _).alloc (by simp) _
  have hP := (Cs.new W 58 #[.slice A n c, .int .i64 clk, .slice B m d]).alloc (.cells #[.slice none 0 0, .int .i64 0, .slice none 0 0] 58)
  have hR := Cs.new (W.alloc (.cells #[.slice A n c, .int .i64 clk, .slice B m d] 58)) 58 #[.slice none 0 0, .int .i64 0, .slice none 0 0]
  rw [World.size_alloc] at hR
  have HS1 : Hid (((W.alloc (.cells #[.slice A n c, .int .i64 clk, .slice B m d] 58)).alloc (.cells #[.slice none 0 0, .int .i64 0, .slice none 0 0] 58)).heap.size = W.heap.size + 1 + 1) := by show _ = _; simp
  have HC : Hid (∀ w, Below W.heap.size W w → _) := fun w hw => rvalid_any w A B n c m d ⟨l, clk, ms⟩ h hn hm (hA.keep hw) (hB.keep hw)
  have HO : Hid (∀ w, Below W.heap.size W w → _) := fun w hw => rcopied_any w A B n c m d clk l ms hn hm (by omega) (by omega) (hA.keep hw) (hB.keep hw)
  have HAR : Hid (∀ w, Below W.heap.size W w → _) := fun w hw => scs_read (hA.keep hw) (by omega)
  have HN := Lib.hid hn
  have HM := Lib.hid hm
  have HML := Lib.hid hml
  have HB1 := Lib.hid hb1
  have HP := Lib.hid hP
  have HR := Lib.hid hR
  have HHL := Lib.hid hl
  unfold csV at *
  clear h hn hm hA hB hb1 hl hR hml
  have HX := Lib.hid hx
  have u1 : ¬ (k : Int) < 0 := by omega
  have u2 : ¬ (n : Int) ≤ (k : Int) := by omega
  have q3 : (k : Int) < (n : Int) := by omega
  have v1 : decide ((k : Int) < 0) = false := decide_eq_false u1
  have v2 : decide ((n : Int) ≤ (k : Int)) = false := decide_eq_false u2
  clear hx
  obtain ⟨xv, xd, xb, xs⟩ := x
  dsimp only at hv
  subst hv
  go_enter Tryz.func88, Tryz.ntmps88
  go_upto_region 1 with (fail)
  generalize ((W.alloc (.cells #[.slice A n c, .int .i64 clk, .slice B m d] 58)).alloc (.cells #[.slice none 0 0, .int .i64 0, .slice none 0 0] 58)) = W1 at *
  obtain ⟨p0, p1, p2⟩ := hP.three
  clear hP
  go_upto_region 3 with (go_at_call 63; refine (HC.out W1 HB1.out).mono ?_; rintro e w2 ⟨rfl, hb2⟩)
  clear p0 p1 p2
  have HP2 := Lib.hid (HP.out.below hb2 (by rw [HS1.out]; omega))
  have HR2 := Lib.hid (HR.out.below hb2 (by rw [HS1.out]; omega))
  have HB2 := Lib.hid (HB1.out.trans (hb2.mono (by rw [HS1.out]; omega)))
  have hg2 : W.heap.size + 1 + 1 ≤ w2.heap.size := by have := hb2.size; rw [HS1.out] at this; exact this
  clear hb2 HP HB1 HR HS1 HC
  obtain ⟨p0, p1, p2⟩ := HP2.out.three
  obtain ⟨bA, oA, rfl, -, hcs⟩ := HAR.out w2 HB2.out
  obtain ⟨c0, c1, -, -⟩ := hcs k _ HX.out
  dsimp only at c0 c1
  clear hcs HAR
  go_upto_region 8 with (go_at_call 128; refine (HO.out w2 HB2.out).mono ?_; rintro e w3 ⟨⟨v, rfl, hrs⟩, hb3⟩; obtain ⟨a, c', B', d', rfl, hsl, hmi, hka, hal, hBp⟩ := hrs.parts HN.out HM.out (by have := HHL.out; omega); clear hrs)
  have HP3 := Lib.hid (HP2.out.below hb3 HP2.out.lt)
  have HR3 := Lib.hid (HR2.out.below hb3 HR2.out.lt)
  have HB3 := Lib.hid (HB2.out.trans (hb3.mono HB2.out.size))
  have hg3 : W.heap.size + 1 + 1 ≤ w3.heap.size := Nat.le_trans hg2 hb3.size
  have hT := Cs.new w3 58 #[.slice (some ⟨a, 0, none⟩) n c', .int .i64 clk, .slice B' m d']
  have hb4 : Below w3.heap.size w3 (w3.alloc (.cells #[.slice (some ⟨a, 0, none⟩) n c', .int .i64 clk, .slice B' m d'] 58)) := (Below.refl _ w3).alloc (Nat.le_refl _) _
  have HS4 := Lib.hid (hsl.alloc (.cells #[.slice (some ⟨a, 0, none⟩) n c', .int .i64 clk, .slice B' m d'] 58))
  have HM4 := Lib.hid (hmi.alloc (.cells #[.slice (some ⟨a, 0, none⟩) n c', .int .i64 clk, .slice B' m d'] 58))
  have HP4 := Lib.hid (HP3.out.below hb4 HP3.out.lt)
  have HR4 := Lib.hid (HR3.out.below hb4 HR3.out.lt)
  have HB4 := Lib.hid (HB3.out.trans (hb4.mono (by have := HB3.out.size; omega)))
  have HBG : Hid (∀ g, (Value.slice B' m d').ownBlock = some g → g < w3.heap.size) := fun g hg => own_lt hmi g hg
  generalize w3.heap.size = g3 at *
  generalize (w3.alloc (.cells #[.slice (some ⟨a, 0, none⟩) n c', .int .i64 clk, .slice B' m d'] 58)) = W4 at *
  have HBP := Lib.hid hBp
  have HT4 := Lib.hid hT
  clear hsl hmi hb3 HP2 HR2 HB2 HP3 HR3 HB3 hb4 HO p0 p1 p2 hT hBp
  clear c0 c1
  obtain ⟨t0, t1, t2⟩ := HT4.out.three
  have s1 := (HS4.out.cellAt (k * 4 + 1) (by omega)).trans (scs_at l k _ HX.out).2.1
  have f1 := HS4.out.frozenAt (k * 4 + 1)
  go_upto_region 9 with (fail)
  have HST := Lib.hid (scs_dirty l k _ dt HX.out)
  have HT6 := Lib.hid (HT4.out.off (b := a) (i := k * 4 + 1) (by omega) (.bool dt))
  have hS6 := (HS4.out.stored (k * 4 + 1) (.bool dt)).1
  have HM6 := Lib.hid (own_off (b := a) (i := k * 4 + 1) HM4.out (fun g hg => HBP.out g hg) (.bool dt))
  have HR6 := Lib.hid (HR4.out.off (b := a) (i := k * 4 + 1) (by omega) (.bool dt))
  have HB6 := Lib.hid (HB4.out.setCell (p := ⟨a, k * 4 + 1, none⟩) (by show W.heap.size ≤ a; omega) (.bool dt))
  rw [← HST.out] at hS6
  have HS6 := Lib.hid hS6
  clear hS6 HS4 HM4 HR4 HB4 HT4 t0 t1 t2 f1 s1
  generalize (W4.setCell ⟨a, k * 4 + 1, none⟩ (.bool dt)) = W6 at *
  obtain ⟨t0, t1, t2⟩ := HT6.out.three
  obtain ⟨r0, r1, r2⟩ := HR6.out.three
  have f0 := HR6.out.free 0
  have f1 := HR6.out.free 1
  have f2 := HR6.out.free 2
  go_wp2_with fail
  (try simp only [Exit.inBlock, Exit.then])
  refine bodyPost_ret (res_state_tmp rfl _ _ (W.heap.size + 1) _ _ _ rfl (Cs.put3 HR6.out _ _ _)) rfl ?_
  have ht : CS.setD ⟨l, clk, ms⟩ k dt = ⟨l.set k ⟨true, dt, xb, xs⟩, clk, ms⟩ := by unfold CS.setD; rw [CS.at_eq HX.out]
  rw [ht]
  exact ⟨⟨_, rfl, RsOut.fin (x := ⟨l.set k ⟨true, dt, xb, xs⟩, clk, ms⟩) _ _ _ (by show (List.set _ _ _).length = n; rw [List.length_set]; exact HN.out) HM.out HS6.out HM6.out (by omega) (by omega)⟩, below_put3 HB6.out (by omega) _ _ _⟩
set_option maxRecDepth 100000 in
set_option maxHeartbeats 4000000 in
theorem rplace_any (W : World) (A B : Option Addr) (n c m d : Nat) (s : CS) (h : s.Ok) (hn : s.sl.length = n) (hm : s.ms.length = m) (hA : Reads W A (scs s.sl)) (hB : Reads W B (iv s.ms)) (k : Nat) (x : Sl) (hx : s.sl[k]? = some x) (hv : x.valid = false) (b : Int) (hb : 0 ≤ b ∧ b ≤ 16777215) (hf : s.find b = -1) (hc : s.clk < 1099511627776) :
    Calls Tryz.prog 94 #[csV A n c s.clk B m d, .int .i64 (k : Int), .int .i64 b] W fun e w' => (∃ v, e = .returned (.tuple #[v, .int .i64 0]) ∧ RsOut W.heap.size w' (s.place k b) v) ∧ Below W.heap.size W w' := by
  obtain ⟨l, clk, ms⟩ := s
  dsimp only at hn hm hA hB hx hc ⊢
  have hl : 1 ≤ l.length ∧ l.length ≤ 1024 := h.len
  have hcl : 0 ≤ clk := h.clk.1
  have hml : ms.length ≤ 8 := h.msl
  have hkn : k < n := by rw [← hn]; exact (List.getElem?_eq_some_iff.1 hx).1
  have HF : Hid (∀ w, Below W.heap.size W w → Calls Tryz.prog 32 #[csV A n c clk B m d, .int .i64 b] w fun e w' => e = .returned (.int .i64 (-1)) ∧ Below w.heap.size w w') := fun w hw => by
    have := rfind_any w A B n c m d ⟨l, clk, ms⟩ h b hn hm (hA.keep hw) (hB.keep hw)
    rwa [hf] at this
  obtain ⟨m5, hm5⟩ : ∃ m5, (ms.filter (· ≠ b)).length = m5 := ⟨_, rfl⟩
  have HW : Hid (∀ w, Below W.heap.size W w → Calls Tryz.prog 131 #[.slice B m d, .int .i64 b] w fun e w' => (∃ v, e = .returned v ∧ w'.ownsRow w.heap.size 3 1 v m5 (iv (ms.filter (· ≠ b)))) ∧ Below w.heap.size w w') := fun w hw => by
    have := rwithout_any w B m d ms b hm (by omega) (hB.keep hw)
    rwa [hm5] at this
  have HLN := Lib.hid hm5
  clear hm5
  have hb1 : Below W.heap.size W ((W.alloc (.cells #[.slice A n c, .int .i64 clk, .slice B m d] 58)).alloc (.cells #[.slice none 0 0, .int .i64 0, .slice none 0 0] 58)) := ((Below.refl _ W).alloc (Nat.le_refl _) _).alloc (by simp) _
  have hP := (Cs.new W 58 #[.slice A n c, .int .i64 clk, .slice B m d]).alloc (.cells #[.slice none 0 0, .int .i64 0, .slice none 0 0] 58)
  have hR := Cs.new (W.alloc (.cells #[.slice A n c, .int .i64 clk, .slice B m d] 58)) 58 #[.slice none 0 0, .int .i64 0, .slice none 0 0]
  rw [World.size_alloc] at hR
  have HS1 : Hid (((W.alloc (.cells #[.slice A n c, .int .i64 clk, .slice B m d] 58)).alloc (.cells #[.slice none 0 0, .int .i64 0, .slice none 0 0] 58)).heap.size = W.heap.size + 1 + 1) := by show _ = _; simp
  have HC : Hid (∀ w, Below W.heap.size W w → _) := fun w hw => rvalid_any w A B n c m d ⟨l, clk, ms⟩ h hn hm (hA.keep hw) (hB.keep hw)
  have HO : Hid (∀ w, Below W.heap.size W w → _) := fun w hw => rcopied_any w A B n c m d clk l ms hn hm (by omega) (by omega) (hA.keep hw) (hB.keep hw)
  have HAR : Hid (∀ w, Below W.heap.size W w → _) := fun w hw => scs_read (hA.keep hw) (by omega)
  have HN := Lib.hid hn
  have HM := Lib.hid hm
  have HML := Lib.hid hml
  have HB1 := Lib.hid hb1
  have HP := Lib.hid hP
  have HR := Lib.hid hR
  have HHL := Lib.hid hl
  unfold csV at *
  clear h hn hm hA hB hb1 hl hR hml
  have HX := Lib.hid hx
  have u1 : ¬ (k : Int) < 0 := by omega
  have u2 : ¬ (n : Int) ≤ (k : Int) := by omega
  have q3 : (k : Int) < (n : Int) := by omega
  have v1 : decide ((k : Int) < 0) = false := decide_eq_false u1
  have v2 : decide ((n : Int) ≤ (k : Int)) = false := decide_eq_false u2
  have HBL : Hid (∀ w, _) := fun w => rblock_any w b hb
  have q1 : (clk == 1099511627776) = false := by simp; omega
  have q2 : IntKind.i64.wrap (clk + 1) = clk + 1 := IntWalk.i64_in _ (by omega)
  clear hx hf
  obtain ⟨xv, xd, xb, xs⟩ := x
  dsimp only at hv
  subst hv
  go_enter Tryz.func94, Tryz.ntmps94
  go_upto_region 1 with (fail)
  generalize ((W.alloc (.cells #[.slice A n c, .int .i64 clk, .slice B m d] 58)).alloc (.cells #[.slice none 0 0, .int .i64 0, .slice none 0 0] 58)) = W1 at *
  obtain ⟨p0, p1, p2⟩ := hP.three
  clear hP
  go_upto_region 3 with (go_at_call 63; refine (HC.out W1 HB1.out).mono ?_; rintro e w2 ⟨rfl, hb2⟩)
  clear p0 p1 p2
  have HP2 := Lib.hid (HP.out.below hb2 (by rw [HS1.out]; omega))
  have HR2 := Lib.hid (HR.out.below hb2 (by rw [HS1.out]; omega))
  have HB2 := Lib.hid (HB1.out.trans (hb2.mono (by rw [HS1.out]; omega)))
  have hg2 : W.heap.size + 1 + 1 ≤ w2.heap.size := by have := hb2.size; rw [HS1.out] at this; exact this
  clear hb2 HP HB1 HR HS1 HC
  obtain ⟨p0, p1, p2⟩ := HP2.out.three
  obtain ⟨bA, oA, rfl, -, hcs⟩ := HAR.out w2 HB2.out
  obtain ⟨c0, c1, -, -⟩ := hcs k _ HX.out
  dsimp only at c0 c1
  clear hcs HAR
  go_upto_region 7 with (first
    | (go_at_call 115; refine (HBL.out w2).mono ?_; rintro e wq ⟨rfl, hwq⟩; rw [hwq]; clear hwq)
    | (go_at_call 32; refine (HF.out _ HB2.out).mono ?_; rintro e w22 ⟨rfl, hb2⟩))
  clear c0 c1 p0 p1 p2
  have hg2 := Nat.le_trans hg2 hb2.size
  have HP22 := Lib.hid (HP2.out.below hb2 HP2.out.lt)
  have HR22 := Lib.hid (HR2.out.below hb2 HR2.out.lt)
  have HB22 := Lib.hid (HB2.out.trans (hb2.mono HB2.out.size))
  clear hb2 HP2 HR2 HB2 HF HBL
  obtain ⟨p0, p1, p2⟩ := HP22.out.three
  go_upto_region 10 with (go_at_call 128; refine (HO.out w22 HB22.out).mono ?_; rintro e w3 ⟨⟨v, rfl, hrs⟩, hb3⟩; obtain ⟨a, c', B', d', rfl, hsl, hmi, hka, hal, hBp⟩ := hrs.parts HN.out HM.out (by have := HHL.out; omega); clear hrs)
  have HP3 := Lib.hid (HP22.out.below hb3 HP22.out.lt)
  have HR3 := Lib.hid (HR22.out.below hb3 HR22.out.lt)
  have HB3 := Lib.hid (HB22.out.trans (hb3.mono HB22.out.size))
  have hg3 : W.heap.size + 1 + 1 ≤ w3.heap.size := Nat.le_trans hg2 hb3.size
  have hT := Cs.new w3 58 #[.slice (some ⟨a, 0, none⟩) n c', .int .i64 clk, .slice B' m d']
  have hb4 : Below w3.heap.size w3 (w3.alloc (.cells #[.slice (some ⟨a, 0, none⟩) n c', .int .i64 clk, .slice B' m d'] 58)) := (Below.refl _ w3).alloc (Nat.le_refl _) _
  have HS4 := Lib.hid (hsl.alloc (.cells #[.slice (some ⟨a, 0, none⟩) n c', .int .i64 clk, .slice B' m d'] 58))
  have HM4 := Lib.hid (hmi.alloc (.cells #[.slice (some ⟨a, 0, none⟩) n c', .int .i64 clk, .slice B' m d'] 58))
  have HP4 := Lib.hid (HP3.out.below hb4 HP3.out.lt)
  have HR4 := Lib.hid (HR3.out.below hb4 HR3.out.lt)
  have HB4 := Lib.hid (HB3.out.trans (hb4.mono (by have := HB3.out.size; omega)))
  have HBG : Hid (∀ g, (Value.slice B' m d').ownBlock = some g → g < w3.heap.size) := fun g hg => own_lt hmi g hg
  generalize w3.heap.size = g3 at *
  generalize (w3.alloc (.cells #[.slice (some ⟨a, 0, none⟩) n c', .int .i64 clk, .slice B' m d'] 58)) = W4 at *
  have HBP := Lib.hid hBp
  have HT4 := Lib.hid hT
  clear hsl hmi hb3 HP22 HR22 HB22 HP3 HR3 HB3 hb4 HO p0 p1 p2 hT hBp
  obtain ⟨p0, p1, p2⟩ := HP4.out.three
  go_upto_region 11 with (go_at_call 131; refine (HW.out W4 HB4.out).mono ?_; rintro e w5 ⟨⟨v, rfl, hmi2⟩, hb5⟩; obtain ⟨B5, d5, hv5⟩ := own_form hmi2; subst hv5; have f2 := (HT4.out.below hb5 HT4.out.lt).free 2; obtain ⟨t0, t1, t2⟩ := (HT4.out.below hb5 HT4.out.lt).three)
  have hM5 := own_off (b := g3) (i := 2) hmi2 (fun g hg => by have := (hmi2.lt g hg).1; have := HT4.out.lt; omega) (.slice B5 m5 d5)
  have HT5 : Hid (Cs (w5.setCell ⟨g3, 2, none⟩ (.slice B5 m5 d5)) g3 58 #[.slice (some ⟨a, 0, none⟩) n c', .int .i64 clk, .slice B5 m5 d5]) := Cs.put (l := [_, _, _]) (HT4.out.below hb5 HT4.out.lt) _
  have HS5 := Lib.hid (own_off (b := g3) (i := 2) (own_keepB HS4.out hb5) (fun g hg => by simp [Value.ownBlock] at hg; omega) (.slice B5 m5 d5))
  have HR5 := Lib.hid ((HR4.out.below hb5 HR4.out.lt).off (b := g3) (i := 2) (by omega) (.slice B5 m5 d5))
  have HB5 := Lib.hid ((HB4.out.trans (hb5.mono HB4.out.size)).setCell (p := ⟨g3, 2, none⟩) (by show W.heap.size ≤ g3; omega) (.slice B5 m5 d5))
  have HBP5 : Hid (∀ p, (Value.slice B5 m5 d5).ownBlock = some p → p ≠ a ∧ p ≠ g3) := fun p hp => by
    have := (hmi2.lt p hp).1
    have := HT4.out.lt
    exact ⟨by omega, by omega⟩
  have HM5 := Lib.hid (own_lower hM5 (show w22.heap.size ≤ W4.heap.size by have := HT4.out.lt; omega))
  clear hM5 hmi2 hb5 HS4 HM4 HR4 HB4 HT4 HP4 t0 t1 t2 f2 p0 p1 p2 HBP HBG HW
  generalize (w5.setCell ⟨g3, 2, none⟩ (.slice B5 m5 d5)) = W5 at *
  obtain ⟨t0, t1, t2⟩ := HT5.out.three
  have f1 := HT5.out.free 1
  go_upto_region 12 with (fail)
  have HT6 : Hid (Cs (W5.setCell ⟨g3, 1, none⟩ (.int .i64 (clk + 1))) g3 58 #[.slice (some ⟨a, 0, none⟩) n c', .int .i64 (clk + 1), .slice B5 m5 d5]) := Cs.put (l := [_, _, _]) HT5.out _
  have HS6 := Lib.hid (own_off (b := g3) (i := 1) HS5.out (fun g hg => by simp [Value.ownBlock] at hg; omega) (.int .i64 (clk + 1)))
  have HM6 := Lib.hid (own_off (b := g3) (i := 1) HM5.out (fun g hg => (HBP5.out g hg).2) (.int .i64 (clk + 1)))
  have HR6 := Lib.hid (HR5.out.off (b := g3) (i := 1) (by omega) (.int .i64 (clk + 1)))
  have HB6 := Lib.hid (HB5.out.setCell (p := ⟨g3, 1, none⟩) (by show W.heap.size ≤ g3; omega) (.int .i64 (clk + 1)))
  clear HS5 HM5 HR5 HB5 HT5 t0 t1 t2 f1
  generalize (W5.setCell ⟨g3, 1, none⟩ (.int .i64 (clk + 1))) = W6 at *
  have HBP : Hid (∀ p, (Value.slice B5 m5 d5).ownBlock = some p → p ≠ a) := fun p hp => (HBP5.out p hp).1
  obtain ⟨t0, t1, t2⟩ := HT6.out.three
  obtain ⟨y0, y1, y2, y3⟩ := scs_at l k _ HX.out
  have s0 := (HS6.out.cellAt (k * 4) (by omega)).trans y0
  have s1 := (HS6.out.cellAt (k * 4 + 1) (by omega)).trans y1
  have s2 := (HS6.out.cellAt (k * 4 + 2) (by omega)).trans y2
  have s3 := (HS6.out.cellAt (k * 4 + 3) (by omega)).trans y3
  have f0 := HS6.out.frozenAt (k * 4)
  have f1 := HS6.out.frozenAt (k * 4 + 1)
  have f2 := HS6.out.frozenAt (k * 4 + 2)
  have f3 := HS6.out.frozenAt (k * 4 + 3)
  clear y0 y1 y2 y3
  go_upto_region 13 with (fail)
  have hsc := scs_set l k ⟨true, false, b, clk + 1⟩ (by rw [HN.out]; exact hkn)
  dsimp only [nilS] at hsc
  have hS6 := ((((HS6.out.stored (k * 4) (.bool true)).1.stored (k * 4 + 1) (.bool false)).1.stored (k * 4 + 2) (.int .i64 b)).1.stored (k * 4 + 3) (.int .i64 (clk + 1))).1
  rw [← hsc] at hS6
  have hfr : Fr (fun j => j = a) W6 ((((W6.setCell ⟨a, k * 4, none⟩ (.bool true)).setCell ⟨a, k * 4 + 1, none⟩ (.bool false)).setCell ⟨a, k * 4 + 2, none⟩ (.int .i64 b)).setCell ⟨a, k * 4 + 3, none⟩ (.int .i64 (clk + 1))) := ((((Fr.refl (fun j => j = a) W6).set (.inl rfl) _).set (.inl rfl) _).set (.inl rfl) _).set (.inl rfl) _
  have HT7 := Lib.hid (HT6.out.fr hfr (by omega))
  have HM7 := Lib.hid (own_fr HM6.out hfr (fun g hg => HBP.out g hg))
  have HR7 := Lib.hid (HR6.out.fr hfr (by omega))
  have HB7 := Lib.hid ((((HB6.out.setCell (p := ⟨a, k * 4, none⟩) (by show W.heap.size ≤ a; omega) (.bool true)).setCell (p := ⟨a, k * 4 + 1, none⟩) (by show W.heap.size ≤ a; omega) (.bool false)).setCell (p := ⟨a, k * 4 + 2, none⟩) (by show W.heap.size ≤ a; omega) (.int .i64 b)).setCell (p := ⟨a, k * 4 + 3, none⟩) (by show W.heap.size ≤ a; omega) (.int .i64 (clk + 1)))
  have HS7 := Lib.hid hS6
  clear HS6 HM6 HR6 HB6 HT6 hfr hsc hS6 s0 s1 s2 s3 f0 f1 f2 f3 t0 t1 t2
  generalize ((((W6.setCell ⟨a, k * 4, none⟩ (.bool true)).setCell ⟨a, k * 4 + 1, none⟩ (.bool false)).setCell ⟨a, k * 4 + 2, none⟩ (.int .i64 b)).setCell ⟨a, k * 4 + 3, none⟩ (.int .i64 (clk + 1))) = W7 at *
  obtain ⟨t0, t1, t2⟩ := HT7.out.three
  obtain ⟨r0, r1, r2⟩ := HR7.out.three
  have f0 := HR7.out.free 0
  have f1 := HR7.out.free 1
  have f2 := HR7.out.free 2
  go_wp2_with fail
  (try simp only [Exit.inBlock, Exit.then])
  refine bodyPost_ret (res_state_tmp rfl _ _ (W.heap.size + 1) _ _ _ rfl (Cs.put3 HR7.out _ _ _)) rfl ?_
  exact ⟨⟨_, rfl, RsOut.fin (x := ⟨l.set k ⟨true, false, b, clk + 1⟩, clk + 1, ms.filter (· ≠ b)⟩) _ _ _ (by show (List.set _ _ _).length = n; rw [List.length_set]; exact HN.out) HLN.out HS7.out HM7.out (by omega) (by omega)⟩, below_put3 HB7.out (by omega) _ _ _⟩
end Go.Proofs.YtogchafnnkajfaaGreat
