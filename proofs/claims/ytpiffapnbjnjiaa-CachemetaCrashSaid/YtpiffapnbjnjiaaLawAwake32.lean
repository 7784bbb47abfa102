/-
  law32: awake.
-/
import Derived.Test.YtpiffapnbjnjiaaMetaZ0
import Derived.Laws.StructEq
namespace Go.Proofs.Ytpiffapnbjnjiaa
set_option linter.unusedVariables false
open Go.RowKit
attribute [local go_sem] Oper.semAt_some

theorem s_held : Try.prog.stoodInHeld 50 = false := by kernel_rfl
theorem s_guard : Try.prog.eqGuardType Try.prog.depth 50 = false := by kernel_rfl
theorem slW_pos (a d : Nat) : slW a d ≠ 0 := by
  unfold slW
  generalize sumW (slB a d) = q
  unfold slB
  omega
theorem word9 : (Sl.mk true true 9 0).word ≠ 0 := by
  unfold Sl.word
  rw [if_pos rfl]
  exact slW_pos _ _

set_option maxRecDepth 100000 in
set_option maxHeartbeats 4000000 in
theorem awake_any (W : World) :
    Calls Try.prog 14 #[] W fun e W' => e = .returned (.bool true) ∧ Below W.heap.size W W' := by
  have hmk : (Instr.makeSlice 25 (.int .i64 3) (.int .i64 3)).run Try.prog W = .ok (.slice (some ⟨W.heap.size, 0, none⟩) 3 3) (W.alloc (.cells (uv [0, 0, 0]).toArray 28)) := run_make_u64 3 (by omega) W
  go_enter Try.func14, Try.ntmps14
  go_wp2_with fail
  have hb0 : Below W.heap.size W (W.alloc (.cells (uv [0, 0, 0]).toArray 28)) := (Below.refl _ W).alloc (Nat.le_refl _) _
  have hR : Reads (W.alloc (.cells (uv [0, 0, 0]).toArray 28)) (some ⟨W.heap.size, 0, none⟩) (uv [0, 0, 0]) := Reads.new W _ _
  refine (device_any _ (some ⟨W.heap.size, 0, none⟩) 3 3 [0, 0, 0] hR rfl (by omega) (by omega) (by intro x hx; simp at hx; omega)).mono ?_
  rintro e W1 ⟨F, g, sp, rfl, hdev, hb1⟩
  have HB1 := Lib.hid (hb0.trans (hb1.mono hb0.size))
  rw [one_full] at hdev
  have HDV := Lib.hid hdev
  have hsz1 : W.heap.size ≤ (W.alloc (.cells (uv [0, 0, 0]).toArray 28)).heap.size := hb0.size
  have HG := Lib.hid (fun j hj => Nat.le_trans hsz1 (hdev.2.2.2.1 j hj))
  have HGS := Lib.hid (Nat.le_trans hsz1 hdev.2.2.2.2)
  clear hb0 hb1 hR hdev hmk
  unfold spanV
  go_wp2_with fail
  refine (format_ok W1 F g sp 3 2 4 [0, 0, 0] [0, 0, 0] [] 0 HDV.out.1 HDV.out.2.1 HDV.out.2.2.1 (Syn.refl _) rfl (by omega) (by omega) (by omega) (by omega) (by simp) (by omega)).mono ?_
  rintro e W2 ⟨rfl, F2, hd2, ht2⟩
  obtain ⟨o1, o2, o3, o4⟩ := open_fmt [0, 0, 0] 2 4 (by omega) (by simp) (by omega)
  obtain ⟨f1, f2, f3, f4, f5, f6⟩ := hdI_fields 2 4 0 false (by omega) (by omega) (by omega)
  have hs2 : SpanAt W2 sp g 0 3 := Cs.fr HDV.out.2.1 ht2.1 HDV.out.2.2.1
  have hsp2 := ht2.out (Cs.lt HDV.out.2.1) HDV.out.2.2.1
  have hW64 : W64 (fmtW [0, 0, 0] 2 4) := (hd2.1.drv _ (List.mem_singleton.2 rfl)).1
  generalize fmtW [0, 0, 0] 2 4 = now at *
  generalize hdI 2 4 0 false = hd at *
  have HT2 := Lib.hid ht2
  have HB2 := Lib.hid (HB1.out.trans (ht2.1.below HB1.out.size HG.out))
  clear ht2
  go_wp2_with fail
  refine (open_any W2 F2 g sp 3 now now [] _ hd2 hs2 hsp2 (Syn.refl _) o4 (by omega) (by omega) hW64 (by simp)).mono ?_
  rintro e W3 hO
  obtain ⟨m, Fc, rfl, hC, ht3, hlt3⟩ := hO.ok o1 hs2 hsp2
  rw [o2, f2, f3, f4, f5, o3] at hC
  have hW3 : Below W.heap.size W W3 := by
    refine HB2.out.trans (ht3.1.below HB2.out.size (fun j hj => hj.elim (fun hj => ?_) (fun hj => ?_)))
    · exact (HT2.out.2 j hj).elim (HG.out j) (fun h => Nat.le_trans HB1.out.size h)
    · rw [hj]; exact HGS.out
  have hFc3 : ∀ j, Fc j → W.heap.size ≤ j := by
    intro j hj
    rcases ht3.2 j hj with (hj | hj) | hj
    · exact (HT2.out.2 j hj).elim (HG.out j) (fun h => Nat.le_trans HB1.out.size h)
    · rw [hj]; exact HGS.out
    · exact Nat.le_trans HB2.out.size hj
  have HB3 := Lib.hid hW3
  have HF3 := Lib.hid hFc3
  have HL3 := Lib.hid hlt3
  have HC3 := Lib.hid hC
  clear hO ht3 hW3 hFc3 hlt3 hC hs2 hd2 HT2 HB2 HB1 HG HGS HDV f1 f2 f3 f4 f5 f6
  have ob : decide (b01 false = 1) = false := by decide
  rw [ob] at HC3
  obtain ⟨wr, hwr⟩ : ∃ wr : Int, (0 + 1 + ((2 : Nat) : Int) + 1) = wr := ⟨_, rfl⟩
  have hwr2 : wr = 4 := by rw [← hwr]; rfl
  rw [hwr] at HC3
  have hnl : now.length = 3 := o4
  clear ob hwr o1 o2 o3 o4
  go_upto_region 8 with (fail)
  have hb4 : Below W3.heap.size W3 (W3.alloc (.cells #[.bool true, .bool true, .int .i64 9, .int .i64 0] 50)) := (Below.refl _ _).alloc (Nat.le_refl _) _
  have hCs := Cs.new W3 50 #[.bool true, .bool true, .int .i64 9, .int .i64 0]
  have HC4 := Lib.hid ((HC3.out.keep hb4).keep (Below.refl _ _).drew)
  have HB4 := Lib.hid ((HB3.out.trans (hb4.mono HB3.out.size)).drew)
  have hs0F : ¬ Fc W3.heap.size := fun h => Nat.lt_irrefl _ (HL3.out _ h)
  generalize (W3.alloc (.cells #[.bool true, .bool true, .int .i64 9, .int .i64 0] 50)) = W4 at *
  have hWs : W.heap.size ≤ W3.heap.size := HB3.out.size
  generalize W3.heap.size = s0 at *
  have k0 : W4.cell? ⟨s0, 0, none⟩ = some (.bool true) := hCs.cell 0
  have k1 : W4.cell? ⟨s0, 1, none⟩ = some (.bool true) := hCs.cell 1
  have k2 : W4.cell? ⟨s0, 2, none⟩ = some (.int .i64 9) := hCs.cell 2
  have k3 : W4.cell? ⟨s0, 3, none⟩ = some (.int .i64 0) := hCs.cell 3
  have kk : W4.drew.cell? ⟨s0, 0, none⟩ = some (.bool true) ∧ W4.drew.cell? ⟨s0, 1, none⟩ = some (.bool true) ∧ W4.drew.cell? ⟨s0, 2, none⟩ = some (.int .i64 9) ∧ W4.drew.cell? ⟨s0, 3, none⟩ = some (.int .i64 0) := ⟨k0, k1, k2, k3⟩
  have hs4 : s0 < W4.drew.heap.size := hCs.lt
  clear HC3 HB3 HL3 hb4 hCs
  have hbeg := cbegin_any W4.drew Fc g sp m 3 _ 4 0 wr 2 _ now now [] HC4.out (.inr rfl) (Syn.refl _) hnl (by omega) (by omega) (by simp) (by simp) (by omega)
  have hl1 : (now.set 0 (hdI (List.replicate 2 Sl.nil).length 4 2 true)).length = 3 := by rw [List.length_set]; exact hnl
  generalize now.set 0 (hdI (List.replicate 2 Sl.nil).length 4 2 true) = now1 at *
  have HBEG := Lib.hid hbeg
  have hE1 := one_swE now1 now1 [] 0 (wr + 1) (1 + ((1 : Nat) : Int)) (by rw [hl1]; omega)
  have hS1 := one_swrite now1 now1 [] 0 (wr + 1) (1 + ((1 : Nat) : Int)) (Sl.mk true true 9 0).word (by rw [hl1]; omega) (by omega)
  rw [hl1] at hE1 hS1
  rw [if_neg (by omega)] at hE1 hS1
  rw [show (1 + ((1 : Nat) : Int)).toNat = 2 from rfl, List.nil_append] at hS1
  have hy2 := (Syn.refl now1).set 2 (Sl.mk true true 9 0).word
  rw [List.nil_append] at hy2
  have hF2 := one_flush_syn hy2 0 (wr + 1 + 1)
  have hl2 : (now1.set 2 (Sl.mk true true 9 0).word).length = 3 := by rw [List.length_set]; exact hl1
  have HW9 := Lib.hid word9
  have HE1 := Lib.hid hE1
  have HS1 := Lib.hid hS1
  have HF2 := Lib.hid hF2
  clear hbeg hE1 hS1 hF2
  go_region_held3 (fun w' => w'.cell? ⟨s0, 0, none⟩ = some (.bool true) ∧ w'.cell? ⟨s0, 1, none⟩ = some (.bool true) ∧ w'.cell? ⟨s0, 2, none⟩ = some (.int .i64 9) ∧ w'.cell? ⟨s0, 3, none⟩ = some (.int .i64 0))
    (first | with_reducible exact kk | with_reducible exact z3 | with_reducible exact z2 | with_reducible exact z1)
    (first
      | (go_at_call 32; refine HBEG.out.mono ?_; rintro e w5 ⟨rfl, Fc1, hC5, ht5⟩; have hs5 : s0 < w5.heap.size := Nat.lt_of_lt_of_le hs4 ht5.1.size; have hF5 : ¬ Fc1 s0 := ht5.out hs4 hs0F; have z1 : w5.cell? ⟨s0, 0, none⟩ = some (.bool true) ∧ w5.cell? ⟨s0, 1, none⟩ = some (.bool true) ∧ w5.cell? ⟨s0, 2, none⟩ = some (.int .i64 9) ∧ w5.cell? ⟨s0, 3, none⟩ = some (.int .i64 0) := ⟨(ht5.1.cell hs4 hs0F).trans k0, (ht5.1.cell hs4 hs0F).trans k1, (ht5.1.cell hs4 hs0F).trans k2, (ht5.1.cell hs4 hs0F).trans k3⟩)
      | (go_at_call 34; refine (mput_ok w5 Fc1 g sp m 3 _ _ 4 2 true 1 ⟨true, true, 9, 0⟩ hC5 (by simp) (by simp) ⟨by decide, by decide⟩ (by intro h; cases h) (by omega) (by show ([] : List (Nat × Nat × Nat)).length < _; simp) (by show wr + 1 ≤ _; omega)).mono ?_; rintro e w6 ⟨rfl, Fc2, hC6, ht6⟩; rw [HE1.out]; rw [HE1.out, HS1.out, if_pos rfl] at hC6; have hs6 : s0 < w6.heap.size := Nat.lt_of_lt_of_le hs5 ht6.1.size; have hF6 : ¬ Fc2 s0 := ht6.out hs5 hF5; have z2 : w6.cell? ⟨s0, 0, none⟩ = some (.bool true) ∧ w6.cell? ⟨s0, 1, none⟩ = some (.bool true) ∧ w6.cell? ⟨s0, 2, none⟩ = some (.int .i64 9) ∧ w6.cell? ⟨s0, 3, none⟩ = some (.int .i64 0) := ⟨(ht6.1.cell hs5 hF5).trans z1.1, (ht6.1.cell hs5 hF5).trans z1.2.1, (ht6.1.cell hs5 hF5).trans z1.2.2.1, (ht6.1.cell hs5 hF5).trans z1.2.2.2⟩)
      | (go_at_call 35; refine (cflush_any w6 Fc2 g sp m 3 _ _ 4 2 true hC6 (by show [(0, 2, (Sl.mk true true 9 0).word)].length ≤ _; simp)).mono ?_; rintro e w7 ⟨rfl, Fc3, hC7, ht7⟩; rw [one_chkF]; rw [HF2.out] at hC7; have hs7 : s0 < w7.heap.size := Nat.lt_of_lt_of_le hs6 ht7.1.size; have hF7 : ¬ Fc3 s0 := ht7.out hs6 hF6; have z3 : w7.cell? ⟨s0, 0, none⟩ = some (.bool true) ∧ w7.cell? ⟨s0, 1, none⟩ = some (.bool true) ∧ w7.cell? ⟨s0, 2, none⟩ = some (.int .i64 9) ∧ w7.cell? ⟨s0, 3, none⟩ = some (.int .i64 0) := ⟨(ht7.1.cell hs6 hF6).trans z2.1, (ht7.1.cell hs6 hF6).trans z2.2.1, (ht7.1.cell hs6 hF6).trans z2.2.2.1, (ht7.1.cell hs6 hF6).trans z2.2.2.2⟩))
  have HT7 := Lib.hid ((ht5.trans ht6).trans ht7)
  have HB7 := Lib.hid (HB4.out.trans (HT7.out.1.below HB4.out.size HF3.out))
  have HC7 := Lib.hid hC7.tight
  have HF7 : Hid (∀ j, (Fc3 j ∧ j < w7.heap.size) → W.heap.size ≤ j) := fun j hj => HT7.out.ge HB4.out.size HF3.out j hj.1
  have HFs : Hid (¬ (Fc3 s0 ∧ s0 < w7.heap.size)) := fun h => hF7 h.1
  have hmw := mword_any ⟨true, true, 9, 0⟩
  clear kk k0 k1 k2 k3 z1 z2 ht5 ht6 ht7 hC5 hC6 hC7 hF5 hF6 hF7 hs5 hs6 HC4 HT7 HB4 HF3 HBEG HE1 HS1 HF2 hy2
  have HW9n : Hid (((((Sl.mk true true 9 0).word : Nat) : Int) != 0) = true) := by show _ = _; have := HW9.out; simp; omega
  generalize (Sl.mk true true 9 0).word = wd at *
  obtain ⟨ss, hss⟩ : ∃ ss, (List.replicate 2 Sl.nil).set 1 (Sl.mk true true 9 0) = ss := ⟨_, rfl⟩
  change Hid (CacheAt w7 _ g sp m 3 _ ((List.replicate 2 Sl.nil).set 1 (Sl.mk true true 9 0)) 4 2 true) at HC7
  rw [hss] at HC7
  have hsl : ss.length = 2 := by rw [← hss]; rfl
  have q0 : (scs ss)[4]? = some (.bool true) := by rw [← hss]; rfl
  have q1 : (scs ss)[5]? = some (.bool true) := by rw [← hss]; rfl
  have q2 : (scs ss)[6]? = some (.int .i64 9) := by rw [← hss]; rfl
  have q3 : (scs ss)[7]? = some (.int .i64 0) := by rw [← hss]; rfl
  clear hss HW9
  go_wp2_with fail
  refine (cslots_any w7 _ g sp m 3 _ ss 4 2 true HC7.out (by omega)).mono ?_
  rintro e w8 ⟨v, rfl, hown, hb8⟩
  rw [hsl] at hown
  obtain ⟨bv, cv, rfl, hbv, hbvl⟩ := hown.form (by omega)
  have p0 := (hown.cellAt 4 (by omega)).trans q0
  have p1 := (hown.cellAt 5 (by omega)).trans q1
  have p2 := (hown.cellAt 6 (by omega)).trans q2
  have p3 := (hown.cellAt 7 (by omega)).trans q3
  replace z3 : w8.cell? ⟨s0, 0, none⟩ = some (.bool true) ∧ w8.cell? ⟨s0, 1, none⟩ = some (.bool true) ∧ w8.cell? ⟨s0, 2, none⟩ = some (.int .i64 9) ∧ w8.cell? ⟨s0, 3, none⟩ = some (.int .i64 0) := ⟨(hb8.cell (p := ⟨s0, 0, none⟩) hs7).trans z3.1, (hb8.cell (p := ⟨s0, 1, none⟩) hs7).trans z3.2.1, (hb8.cell (p := ⟨s0, 2, none⟩) hs7).trans z3.2.2.1, (hb8.cell (p := ⟨s0, 3, none⟩) hs7).trans z3.2.2.2⟩
  have HC8 := Lib.hid (HC7.out.keep hb8)
  have HB8 := Lib.hid (HB7.out.trans (hb8.mono HB7.out.size))
  have hs8 : s0 < w8.heap.size := Nat.lt_of_lt_of_le hs7 hb8.size
  have hbF : ¬ (Fc3 bv ∧ bv < w7.heap.size) := fun h => by omega
  obtain ⟨y8, hCm8⟩ := HC8.out.cells
  clear hown q0 q1 q2 q3 hb8 HC7 HB7
  go_wp2_with fail
  refine (clean_any w8 m _ _ 4 2 true hCm8).mono ?_
  rintro e w' ⟨rfl, rfl⟩
  clear hCm8
  go_wp2_with fail
  refine (cend_any w8 _ g sp m 3 ss 4 2 _ true _ _ _ HC8.out (Syn.refl _) hl2 (by omega) (by omega) (by omega) (by simp) (by omega)).mono ?_
  rintro e w9 ⟨rfl, Fc9, hC9, ht9⟩
  have HB9 := Lib.hid (HB8.out.trans (ht9.1.below HB8.out.size HF7.out))
  obtain ⟨y9, hCm9⟩ := hC9.cells
  have HCM := Lib.hid hCm9
  have a0 := (ht9.1.cell (b := bv) (i := 4) hbvl hbF).trans p0
  have a1 := (ht9.1.cell (b := bv) (i := 5) hbvl hbF).trans p1
  have a2 := (ht9.1.cell (b := bv) (i := 6) hbvl hbF).trans p2
  have a3 := (ht9.1.cell (b := bv) (i := 7) hbvl hbF).trans p3
  have b0 := (ht9.1.cell (b := s0) (i := 0) hs8 HFs.out).trans z3.1
  have b1 := (ht9.1.cell (b := s0) (i := 1) hs8 HFs.out).trans z3.2.1
  have b2 := (ht9.1.cell (b := s0) (i := 2) hs8 HFs.out).trans z3.2.2.1
  have b3 := (ht9.1.cell (b := s0) (i := 3) hs8 HFs.out).trans z3.2.2.2
  have kk : w9.drew.cell? ⟨bv, 4, none⟩ = some (.bool true) ∧ w9.drew.cell? ⟨bv, 5, none⟩ = some (.bool true) ∧ w9.drew.cell? ⟨bv, 6, none⟩ = some (.int .i64 9) ∧ w9.drew.cell? ⟨bv, 7, none⟩ = some (.int .i64 0) ∧ w9.drew.cell? ⟨s0, 0, none⟩ = some (.bool true) ∧ w9.drew.cell? ⟨s0, 1, none⟩ = some (.bool true) ∧ w9.drew.cell? ⟨s0, 2, none⟩ = some (.int .i64 9) ∧ w9.drew.cell? ⟨s0, 3, none⟩ = some (.int .i64 0) := ⟨a0, a1, a2, a3, b0, b1, b2, b3⟩
  have hbv9 : bv < w9.drew.heap.size := Nat.lt_of_lt_of_le hbvl ht9.1.size
  have hs9 : s0 < w9.drew.heap.size := Nat.lt_of_lt_of_le hs8 ht9.1.size
  clear p0 p1 p2 p3 z3 hC9 hCm9 ht9 HB8 HC8
  have g1 := s_held
  have g2 := s_guard
  go_wp2_with fail
  go_region_held3 (fun w' => w'.cell? ⟨bv, 4, none⟩ = some (.bool true) ∧ w'.cell? ⟨bv, 5, none⟩ = some (.bool true) ∧ w'.cell? ⟨bv, 6, none⟩ = some (.int .i64 9) ∧ w'.cell? ⟨bv, 7, none⟩ = some (.int .i64 0) ∧ w'.cell? ⟨s0, 0, none⟩ = some (.bool true) ∧ w'.cell? ⟨s0, 1, none⟩ = some (.bool true) ∧ w'.cell? ⟨s0, 2, none⟩ = some (.int .i64 9) ∧ w'.cell? ⟨s0, 3, none⟩ = some (.int .i64 0))
    (first | with_reducible exact kk | with_reducible exact z5)
    (first
      | (go_at_call 19; refine (clean_any w9.drew m _ _ 4 2 false HCM.out).mono ?_; rintro e w' ⟨rfl, rfl⟩)
      | (go_at_call 18; refine (mode_any w9.drew m _ _ 4 2 false HCM.out).mono ?_; rintro e w' ⟨rfl, rfl⟩)
      | (go_at_call 17; refine (chunk_any w9.drew m _ _ 4 2 false HCM.out).mono ?_; rintro e w' ⟨rfl, rfl⟩)
      | (go_at_call 21; refine (msize_any 2 w9.drew).mono ?_; rintro e w' ⟨rfl, rfl⟩; rw [show mSize 2 = 3 from by decide])
      | (go_at_call 23; refine (hmw w9.drew).mono ?_; rintro e wA ⟨rfl, hbA⟩; have z5 : wA.cell? ⟨bv, 4, none⟩ = some (.bool true) ∧ wA.cell? ⟨bv, 5, none⟩ = some (.bool true) ∧ wA.cell? ⟨bv, 6, none⟩ = some (.int .i64 9) ∧ wA.cell? ⟨bv, 7, none⟩ = some (.int .i64 0) ∧ wA.cell? ⟨s0, 0, none⟩ = some (.bool true) ∧ wA.cell? ⟨s0, 1, none⟩ = some (.bool true) ∧ wA.cell? ⟨s0, 2, none⟩ = some (.int .i64 9) ∧ wA.cell? ⟨s0, 3, none⟩ = some (.int .i64 0) := ⟨(hbA.cell hbv9).trans a0, (hbA.cell hbv9).trans a1, (hbA.cell hbv9).trans a2, (hbA.cell hbv9).trans a3, (hbA.cell hs9).trans b0, (hbA.cell hs9).trans b1, (hbA.cell hs9).trans b2, (hbA.cell hs9).trans b3⟩))
  go_wp2_with fail
  go_ret
  exact ⟨by rw [HW9n.out]; rfl, (HB9.out.drew).trans (hbA.mono HB9.out.size)⟩

end Go.Proofs.Ytpiffapnbjnjiaa
