/-
  The law CachemetaPuts.
-/
import Derived.Test.YtpiffapnbjnjiaaLawPutsA32
import Derived.Deep.CutBlock
namespace Go.Proofs.Ytpiffapnbjnjiaa
set_option linter.unusedVariables false
open Go.RowKit
attribute [local go_sem] Oper.semAt_some

/-- The head word of what Open takes. -/
theorem open_hd (l : List Nat) (w : Nat) (hw0 : l[0]?.getD 0 = w) (hw : w < 18446744073709551616) (h : openE l = 0) :
    w = hdI (w % 2048) ((w / 2048 % 128 : Nat) : Int) ((w / 262144 % 4 : Nat) : Int) (decide (w / 1048576 % 2 = 1)) ∧ 1 ≤ w % 2048 ∧ w % 2048 ≤ 1024 ∧ w % 2048 + 1 ≤ l.length := by
  unfold openE at h
  rw [hw0] at h
  split at h
  · cases h
  · rename_i hf
    have hf2 : hform w = true := by simpa using hf
    split at h
    · cases h
    · rename_i hb
      have hb2 : hbad w l.length = false := by simpa using hb
      unfold hbad at hb2
      have hb3 := of_decide_eq_false hb2
      have hz : w / 9007199254740992 = 0 := by omega
      have e := (seal_eq w hw hf2).2 hz
      have ht : w / 137438953472 % 65536 = 17219 := by
        unfold hform at hf2
        exact (of_decide_eq_true hf2).1
      rw [ht, seal_head] at e
      refine ⟨?_, by omega, by omega, by omega⟩
      refine e.trans ?_
      have h1 : w % 2048 % 2048 = w % 2048 := Nat.mod_mod _ _
      have h2 : w / 2048 % 128 % 128 = w / 2048 % 128 := Nat.mod_mod _ _
      have h3 : w / 262144 % 4 % 4 = w / 262144 % 4 := Nat.mod_mod _ _
      have h4 : w / 1048576 % 2 % 2 = w / 1048576 % 2 := Nat.mod_mod _ _
      have h5 : w / 1048576 % 2 < 2 := Nat.mod_lt _ (by omega)
      rw [h2, h3, h4]
      unfold hdI
      generalize w / 1048576 % 2 = x at *
      generalize w / 262144 % 4 = y at *
      generalize w / 2048 % 128 = z at *
      generalize w % 2048 = k at *
      have e1 : (((z : Nat) : Int) % 128).toNat = z := by omega
      have e2 : (((y : Nat) : Int) % 4).toNat = y := by omega
      have e3 : b01 (decide (x = 1)) = x := by
        have : x = 0 ∨ x = 1 := by omega
        rcases this with rfl | rfl <;> rfl
      rw [e1, e2, e3]

set_option maxRecDepth 100000 in
set_option maxHeartbeats 4000000 in
theorem puts_any (A : Option Addr) (c n : Nat) (ls : List Int) (W : World) (hn : ls.length = n) (hA : Reads W A (iv ls)) (hw : I64 ls) (hc : n ≤ c) :
    Calls Try.prog 5 #[.slice A n c] W fun e W' => e = .returned (.bool true) ∧ Below W.heap.size W W' := by
  go_enter Try.func5, Try.ntmps5
  go_wp2_with fail
  refine (new_any A n c ls W hn hA hw hc).mono ?_
  rintro e W1 ⟨rfl, hs1, hb1, hsz1⟩
  go_wp2_with fail
  refine (made_any W1 W.heap.size hs1).mono ?_
  rintro e W2 ⟨v, l, rfl, hown, hl2, hl9, hlw, hs2, hg2⟩
  obtain ⟨b, cb, rfl, hbb, hbl⟩ := hown.form (by omega)
  obtain ⟨N, hN⟩ : ∃ N, l.length = N := ⟨_, rfl⟩
  rw [hN] at hown hl2 hl9
  rw [hN]
  rw [hsz1] at hown
  have HH := Lib.hid (show OH W W2 b cb N l from ⟨hs2, gb_Below hb1 hg2 hb1.size (Nat.le_refl _), hown, hN, hlw⟩)
  clear hs1 hb1 hsz1 hown hs2 hg2 hlw hN hbb hbl
  go_wp2_with fail
  refine (ropen_any W2 (some ⟨b, 0, none⟩) cb N l (Reads.of_own HH.out.2.2.1) HH.out.2.2.2.1 (by omega) (by omega) HH.out.2.2.2.2).mono ?_
  rintro e W3 ⟨hb3, hR⟩
  have HH3 := Lib.hid (HH.out.grown (HH.out.1.keep hb3) (gb_below (gb_refl _ _) hb3))
  by_cases hE : openE l = 0
  rotate_left
  · rcases hR with ⟨_, rfl⟩ | ⟨hbad, _⟩
    rotate_left
    · exact absurd hbad hE
    as_aux_lemma =>
      have hEn : (openE l != 0) = true := by simpa using hE
      have hEq : (openE l != openE l) = false := by simp
      clear hb3 HH
      go_upto_region 4 with (fail)
      have hba : Below W3.heap.size W3 (W3.alloc (.cells #[.slice none 0 0, .int .i64 0, .int .i64 0, .bool false] 41)) := (Below.refl _ _).alloc (Nat.le_refl _) _
      have HH4 := Lib.hid (HH3.out.grown (HH3.out.1.keep hba) (gb_below (gb_refl _ _) hba))
      clear HH3 hba
      generalize (W3.alloc (.cells #[.slice none 0 0, .int .i64 0, .int .i64 0, .bool false] 41)) = w4 at *
      go_wp2_with fail
      refine (device_any w4 (some ⟨b, 0, none⟩) N cb l (Reads.of_own HH4.out.2.2.1) HH4.out.2.2.2.1 (by omega) (by omega) HH4.out.2.2.2.2).mono ?_
      rintro e w5 ⟨F, g, sp, rfl, hdev, hb5⟩
      rw [one_full, HH4.out.2.2.2.1] at hdev
      have HDV := Lib.hid hdev
      clear hdev
      unfold spanV
      go_wp2_with fail
      refine (open_any w5 F g sp N l l [] 0 HDV.out.1 HDV.out.2.1 HDV.out.2.2.1 (Syn.refl _) HH4.out.2.2.2.1 (by omega) (by omega) HH4.out.2.2.2.2 (by simp)).mono ?_
      rintro e w6 ⟨F', hd, ht, hcase⟩
      rcases hcase with ⟨_, rfl⟩ | ⟨hbad, _⟩
      rotate_left
      · exact absurd hbad hE
      have hFs : ∀ j, F j → w4.heap.size ≤ j := HDV.out.2.2.2.1
      have hb6 : Below w4.heap.size w4 w6 := hb5.trans (ht.1.below hb5.size hFs)
      have HB6 := Lib.hid (HH4.out.2.1.trans (hb6.mono HH4.out.2.1.size))
      clear hd ht hb5 hb6 HDV hFs HH4
      generalize openE l = E at *
      go_wp2_with fail
      refine (awake_any _).mono ?_
      rintro e w7 ⟨rfl, hb7⟩
      go_wp2_with fail
      go_ret
      exact ⟨rfl, HB6.out.trans (hb7.mono HB6.out.size)⟩
  · rcases hR with ⟨hbad, _⟩ | ⟨_, v3, rfl, hown3⟩
    · exact absurd hE hbad
    have HN := Lib.hid HH.out.2.2.2.1
    have hw0 : l[0]?.getD 0 < 18446744073709551616 := HH.out.2.2.2.2.at 0
    have hhd := open_hd l _ rfl hw0 hE
    have hlen := slotsU_length l ((l[0]?.getD 0) % 2048)
    rw [HN.out] at hhd
    have hWl := HH.out.1.lt
    have hcl : decide ((l[0]?.getD 0) / 1048576 % 2 = 0) = !(decide ((l[0]?.getD 0) / 1048576 % 2 = 1)) := by
      have : (l[0]?.getD 0) / 1048576 % 2 < 2 := Nat.mod_lt _ (by omega)
      rw [Bool.eq_iff_iff]
      simp <;> omega
    have HE0 := Lib.hid hE
    clear hE
    rw [hcl]
    obtain ⟨A3, c3, hv3⟩ := own_form hown3
    subst hv3
    generalize hwq : l[0]?.getD 0 = w0 at *
    have HWQ := Lib.hid hwq
    generalize hss : slotsU l (w0 % 2048) = ss0 at *
    have HSS := Lib.hid hss
    generalize hK : w0 % 2048 = K at *
    generalize hBc : ((w0 / 2048 % 128 : Nat) : Int) = Bc at *
    generalize hM : ((w0 / 262144 % 4 : Nat) : Int) = M at *
    generalize hop : decide (w0 / 1048576 % 2 = 1) = op0 at *
    have HK := Lib.hid hK
    have HBc := Lib.hid hBc
    have HM := Lib.hid hM
    have Hop := Lib.hid hop
    have HLN := Lib.hid hlen
    have HW0 := Lib.hid hhd.1
    have hK1 := hhd.2.1
    have hK2 := hhd.2.2.1
    have hK3 := hhd.2.2.2
    clear hwq hss hK hBc hM hop hlen hhd hcl hw0
    go_upto_region 4 with (fail)
    have hba : Below W3.heap.size W3 (W3.alloc (.cells #[.slice A3 K c3, .int .i64 Bc, .int .i64 M, .bool (!op0)] 41)) := (Below.refl _ _).alloc (Nat.le_refl _) _
    have hCs := Cs.new W3 41 #[.slice A3 K c3, .int .i64 Bc, .int .i64 M, .bool (!op0)]
    have HH4 := Lib.hid (HH3.out.grown (HH3.out.1.keep hba) (gb_below (gb_refl _ _) hba))
    have HR4 := Lib.hid (own_lower (own_keepB hown3 hba) (show W.heap.size + 1 ≤ W2.heap.size by omega))
    have hs4 : W.heap.size < W3.heap.size := HH3.out.1.lt
    clear HH3 HH hba hown3 hb3 hWl
    generalize (W3.alloc (.cells #[.slice A3 K c3, .int .i64 Bc, .int .i64 M, .bool (!op0)] 41)) = w4 at *
    generalize W3.heap.size = s4 at *
    go_wp2_with fail
    refine (device_any w4 (some ⟨b, 0, none⟩) N cb l (Reads.of_own HH4.out.2.2.1) HH4.out.2.2.2.1 (by omega) (by omega) HH4.out.2.2.2.2).mono ?_
    rintro e w5 ⟨F, g, sp, rfl, hdev, hb5⟩
    rw [one_full, HH4.out.2.2.2.1] at hdev
    have HDV := Lib.hid hdev
    clear hdev
    unfold spanV
    go_wp2_with fail
    refine (open_any w5 F g sp N l l [] 0 HDV.out.1 HDV.out.2.1 HDV.out.2.2.1 (Syn.refl _) HH4.out.2.2.2.1 (by omega) (by omega) HH4.out.2.2.2.2 (by simp)).mono ?_
    rintro e w6 hO
    obtain ⟨m, Fc, rfl, hC, ht3, hlt3⟩ := hO.ok HE0.out HDV.out.2.1 HDV.out.2.2.1
    rw [HWQ.out, HK.out, HSS.out, HBc.out, HM.out, Hop.out] at hC
    have hFs : ∀ j, F j → w4.heap.size ≤ j := HDV.out.2.2.2.1
    have hsps : w4.heap.size ≤ sp := HDV.out.2.2.2.2
    have hb6 : Below w4.heap.size w4 w6 := hb5.trans (ht3.1.below hb5.size (fun j hj => hj.elim (hFs j) (fun e => e ▸ hsps)))
    have hFc : ∀ j, Fc j → w4.heap.size ≤ j := by
      intro j hj
      rcases ht3.2 j hj with (h | h) | h
      · exact hFs j h
      · rw [h]; exact hsps
      · exact Nat.le_trans hb5.size h
    have h4s := HH4.out.2.1.size
    have h4l := HH4.out.1.lt
    have HP : Hid (PS W w6 b cb N g sp m s4 K c3 A3 Bc Fc l l l [] 0 ss0 ss0 M op0 M (!op0)) :=
      ⟨HH4.out.grown (HH4.out.1.keep hb6) (gb_below (gb_refl _ _) hb6), hC, hCs.below hb6 hCs.lt, own_keepB HR4.out hb6, fun h => by have := hFc _ h; have := own_lt HH4.out.2.2.1 b rfl; omega, fun h => by have := hFc _ h; have := hCs.lt; omega,
        fun b' hb' h => by have := hFc _ h; have := own_lt HR4.out b' hb'; omega, fun j hj => by have := hFc j hj; omega, hs4⟩
    have hss0 : ss0.length = K := HLN.out
    clear hO hC ht3 hlt3 hFs hsps hb6 hFc h4s h4l HH4 HR4 hCs HDV hb5 hs4 HE0 HSS
    have HD0 : Hid (l[0]?.getD 0 = hdI K Bc M op0) := HWQ.out.trans HW0.out
    have HSL := Lib.hid hss0
    clear HLN HK HBc HM Hop HW0 HWQ hss0
    go_wp2_with fail
    refine (n_any W.heap.size 10 w6 HP.out.oh.1 (by omega) (by omega)).mono ?_
    rintro e w7 ⟨r0, rfl, hr0, hr0', hs7, hg7⟩
    have HP7 := Lib.hid (HP.out.grown hs7 hg7)
    clear HP hs7 hg7
    go_wp2_with fail
    go_loopw [12] (fun i wr => ∃ (k : Nat) (Fc : Nat → Prop) (l dur : List Nat) (log : List (Nat × Nat × Nat)) (wn : Int) (ss : List Sl) (mode : Int) (op : Bool), i = .int .i64 k ∧ k ≤ 10 ∧ PS W wr b cb N g sp m s4 K c3 A3 Bc Fc l l dur log wn ss ss mode op mode (!op) ∧ Syn l dur log ∧ l[0]?.getD 0 = hdI K Bc mode op ∧ ss.length = K ∧ log.length + k ≤ 10 ∧ wn + k ≤ 10) (fun i _ => (intOf i).toNat)
    case atStart => exact ⟨r0.toNat, Fc, l, l, [], 0, ss0, M, op0, by rw [show ((r0.toNat : Nat) : Int) = r0 by omega], by omega, HP7.out, Syn.refl _, HD0.out, HSL.out, by simp; omega, by omega⟩
    case round =>
      rename World => wx
      clear HP7 HD0 HSL
      obtain ⟨k, Fc, l, dur, log, wn, ss, mode, op, rfl, hk, hP, hy, hd, hsl, hlg, hwn⟩ := hrel
      have HX := Lib.hid hP
      have HY := Lib.hid hy
      have HD := Lib.hid hd
      have HL := Lib.hid hsl
      clear hP hy hd hsl
      by_cases hk0 : 0 < k
      rotate_left
      · go_wp2_with fail
        as_aux_lemma =>
          refine (cflush_any wx Fc g sp m N _ ss Bc mode op HX.out.ca (by show log.length ≤ _; omega)).mono ?_
          rintro e w1 ⟨rfl, Fc1, hc1, ht1⟩
          rw [one_flush_syn HY.out] at hc1
          rw [one_chkF]
          have HX1 := Lib.hid (HX.out.turn hc1 ht1)
          obtain ⟨FF, AA, cc, hci⟩ := hc1
          have HDK := Lib.hid hci.dsk
          have HB1 := Lib.hid HX1.out.oh.2.1
          clear hci ht1 HX HX1
          go_wp2_with (first | (go_at_call 30; refine (unfl_any w1 FF g _ HDK.out).mono ?_; rintro e w' ⟨rfl, rfl⟩) | (go_at_call 14; refine (awake_any w1).mono ?_; rintro e w2 ⟨rfl, hb2⟩))
          go_ret
          exact ⟨rfl, HB1.out.trans (hb2.mono HB1.out.size)⟩
      · have t1 : (0 : Int) < (k : Int) := by omega
        go_wp2_with fail
        refine (n_any W.heap.size 5 wx HX.out.oh.1 (by omega) (by omega)).mono ?_
        rintro e w1 ⟨r, rfl, hr, hr', hs1, hg1⟩
        have HX1 := Lib.hid (HX.out.grown hs1 hg1)
        clear HX hs1 hg1
        go_upto_block 2 with (fail)
        go_cut [] (fun wy => ∃ (Fc : Nat → Prop) (l now dur : List Nat) (log : List (Nat × Nat × Nat)) (wn : Int) (ss : List Sl) (mode : Int) (op : Bool), PS W wy b cb N g sp m s4 K c3 A3 Bc Fc l now dur log wn ss ss mode op mode (!op) ∧ Syn now dur log ∧ now = l.set 0 (hdI K Bc mode op) ∧ ss.length = K ∧ log.length + k ≤ 11 ∧ wn + k ≤ 11)
        case first =>
          have hNl := HX1.out.oh.2.2.2.1
          have cs := HX1.out.meta_
          have k0 : w1.cell? ⟨s4, 0, none⟩ = some (.slice A3 K c3) := cs.cell 0
          have k2 : w1.cell? ⟨s4, 2, none⟩ = some (.int .i64 mode) := cs.cell 2
          have k3 : w1.cell? ⟨s4, 3, none⟩ = some (.bool (!op)) := cs.cell 3
          clear cs
          by_cases q0 : r = 0
          · have t2 : (r == 0) = true := by simpa using q0
            clear q0
            go_wp2_with fail
            as_aux_lemma =>
              refine (range_any W.heap.size 0 3 w1 HX1.out.oh.1 (by omega) (by omega) (by omega)).mono ?_
              rintro e w2 ⟨md, rfl, hm1, hm2, hs2, hg2⟩
              have HX2 := Lib.hid (HX1.out.grown hs2 hg2)
              have cs := HX2.out.meta_
              have k2 : w2.cell? ⟨s4, 2, none⟩ = some (.int .i64 mode) := cs.cell 2
              have k3 : w2.cell? ⟨s4, 3, none⟩ = some (.bool (!op)) := cs.cell 3
              have f2 := cs.free 2
              have f3 := cs.free 3
              clear cs hs2 hg2 HX1 k0
              by_cases qm : md = 1 ∨ md = 2
              · have HM := Lib.hid qm
                have HX3 := Lib.hid ((HX2.out.setMode md).setClean false)
                have tq : ((md != 1) && (md != 2)) = false := by rcases qm with rfl | rfl <;> rfl
                rcases qm with rfl | rfl
                all_goals
                  clear tq
                  go_wp2_with fail
                  refine (cbegin_any _ Fc g sp m N ss Bc mode wn _ op l dur log HX3.out.ca (by first | exact .inl rfl | exact .inr rfl) HY.out hNl (by omega) (by omega) (by rw [HL.out]; exact hK2) (by omega) (by omega)).mono ?_
                  rintro e w5 ⟨rfl, Fc5, hc5, ht5⟩
                  rw [HL.out] at hc5
                  have HX5 := Lib.hid (HX3.out.turn hc5 ht5)
                  clear hc5 ht5 k2 k3 f2 f3 HX2 HX3
                  obtain ⟨FF, AA, cc, hci⟩ := HX5.out.ca
                  have HDK := Lib.hid hci.dsk
                  clear hci
                  go_wp2_with (go_at_call 30; refine (unfl_any w5 FF g _ HDK.out).mono ?_; rintro e w' ⟨rfl, rfl⟩)
                  go_meet
                  case rel => exact ⟨Fc5, l, _, _, [], wn + 1, ss, _, true, HX5.out, Syn.refl _, rfl, HL.out, by simp; omega, by omega⟩
              · have tm1 : (md != 1) = true := by simp; omega
                have tm2 : (md != 2) = true := by simp; omega
                go_wp2_with fail
                refine (begin_no w2 m md (by omega) (by omega)).mono ?_
                rintro e w' ⟨rfl, rfl⟩
                go_wp2_with fail
                go_meet
                case rel => exact ⟨Fc, l, l, dur, log, wn, ss, mode, op, HX2.out, HY.out, set0_id l _ HD.out, HL.out, by omega, by omega⟩
          · have t2 : (r == 0) = false := by simpa using q0
            clear q0
            by_cases q1 : r = 1
            · have t3 : (r == 1) = true := by simpa using q1
              clear q1
              as_aux_lemma =>
                have HCA := Lib.hid HX1.out.ca
                go_wp2_with fail
                refine (cend_any w1 Fc g sp m N ss Bc mode wn op l dur log HCA.out HY.out hNl (by omega) (by omega) (by rw [HL.out]; exact hK2) (by omega) (by omega)).mono ?_
                rintro e w2 ⟨rfl, Fc2, hc2, ht2⟩
                rw [HL.out] at hc2
                have HX2 := Lib.hid (HX1.out.turn hc2 ht2)
                clear hc2 ht2 HCA k0 k2 k3 HX1
                obtain ⟨FF, AA, cc, hci⟩ := HX2.out.ca
                have HDK := Lib.hid hci.dsk
                clear hci
                have cs := HX2.out.meta_
                have k3 : w2.cell? ⟨s4, 3, none⟩ = some (.bool (!op)) := cs.cell 3
                have f3 := cs.free 3
                clear cs
                have HX3 := Lib.hid (HX2.out.setClean true)
                go_wp2_with (go_at_call 30; refine (unfl_any w2 FF g _ HDK.out).mono ?_; rintro e w' ⟨rfl, rfl⟩)
                go_meet
                case rel => exact ⟨Fc2, l, _, _, [], wn + 1, ss, mode, false, HX3.out, Syn.refl _, rfl, HL.out, by simp; omega, by omega⟩
            · have t3 : (r == 1) = false := by simpa using q1
              clear q1 k2 k3
              have eK : IntKind.i64.wrap ((K : Int) + 2) = (K : Int) + 2 := IntWalk.i64_in _ (by omega)
              go_wp2_with fail
              refine (n_any W.heap.size ((K : Int) + 2) w1 HX1.out.oh.1 (by omega) (by omega)).mono ?_
              rintro e w2 ⟨kk, rfl, hk1, hk2, hs2, hg2⟩
              have HX2 := Lib.hid (HX1.out.grown hs2 hg2)
              clear hs2 hg2 HX1 k0
              obtain ⟨q, rfl⟩ : ∃ q, kk = q + 1 := ⟨kk - 1, by omega⟩
              have ek : IntKind.i64.wrap (q + 1 - 1) = q := by rw [IntWalk.i64_in _ (by omega)]; omega
              have ek2 : IntKind.i64.wrap q = q := IntWalk.i64_in _ (by omega)
              go_wp2_with fail
              refine (lslot_any w2 W.heap.size HX2.out.oh.1).mono ?_
              rintro e w3 ⟨y, rfl, hst, hbl, hbl2, hs3, hg3⟩
              have HX3 := Lib.hid (HX2.out.grown hs3 hg3).tight
              obtain ⟨v, d, bk, st⟩ := y
              obtain rfl : st = 0 := hst
              change -1 ≤ bk at hbl
              change bk ≤ 16777216 at hbl2
              clear hs3 hg3 HX2
              unfold Sl.v
              go_upto_block 3 with (fail)
              have hCy := Cs.new w3 50 #[.bool v, .bool d, .int .i64 bk, .int .i64 0]
              have hb4 : Below w3.heap.size w3 (w3.alloc (.cells #[.bool v, .bool d, .int .i64 bk, .int .i64 0] 50)) := (Below.refl _ _).alloc (Nat.le_refl _) _
              have HX4 := Lib.hid (HX3.out.keep hb4)
              have hb3 := own_lt HX3.out.oh.2.2.1 b rfl
              have hs43 := HX3.out.meta_.lt
              have hr3 := own_lt HX3.out.row
              have HR3 := Lib.hid hr3
              have HCy := Lib.hid hCy
              clear hr3 hCy hb4 HX3
              generalize (w3.alloc (.cells #[.bool v, .bool d, .int .i64 bk, .int .i64 0] 50)) = w4 at *
              generalize w3.heap.size = sy at *
              have y0 : w4.cell? ⟨sy, 0, none⟩ = some (.bool v) := HCy.out.cell 0
              have y1 : w4.cell? ⟨sy, 1, none⟩ = some (.bool d) := HCy.out.cell 1
              have y2 : w4.cell? ⟨sy, 2, none⟩ = some (.int .i64 bk) := HCy.out.cell 2
              have y3 : w4.cell? ⟨sy, 3, none⟩ = some (.int .i64 0) := HCy.out.cell 3
              have k0 : w4.cell? ⟨s4, 0, none⟩ = some (.slice A3 K c3) := HX4.out.meta_.cell 0
              go_cut [17] (fun s17 wy => s17 = .int .i64 (mputE K q ⟨v, d, bk, 0⟩) ∧ wy = w4)
              case first =>
                as_aux_lemma =>
                  by_cases q1 : q < 0
                  · have HE : Hid (mputE K q ⟨v, d, bk, 0⟩ = 1) := by show _ = _; unfold mputE; rw [if_pos (.inl q1)]
                    go_wp2_with fail
                    go_meet
                    case rel => exact ⟨by rw [HE.out], rfl⟩
                  · by_cases q2 : (K : Int) ≤ q
                    · have HE : Hid (mputE K q ⟨v, d, bk, 0⟩ = 1) := by show _ = _; unfold mputE; rw [if_pos (.inr (.inl q2))]
                      go_wp2_with fail
                      go_meet
                      case rel => exact ⟨by rw [HE.out], rfl⟩
                    · by_cases q3 : bk < 0
                      · have HE : Hid (mputE K q ⟨v, d, bk, 0⟩ = 1) := by show _ = _; unfold mputE; rw [if_pos (.inr (.inr (.inl q3)))]
                        go_wp2_with fail
                        go_meet
                        case rel => exact ⟨by rw [HE.out], rfl⟩
                      · by_cases q4 : 16777215 < bk
                        · have HE : Hid (mputE K q ⟨v, d, bk, 0⟩ = 1) := by show _ = _; unfold mputE; rw [if_pos (.inr (.inr (.inr q4)))]
                          go_wp2_with fail
                          go_meet
                          case rel => exact ⟨by rw [HE.out], rfl⟩
                        · have hnE : ¬ (q < 0 ∨ (K : Int) ≤ q ∨ bk < 0 ∨ 16777215 < bk) := by omega
                          have HNE := Lib.hid hnE
                          clear hnE
                          have z1 := sl_held
                          have z2 := sl_guard
                          cases v
                          · cases d
                            · by_cases q5 : bk = 0
                              · subst q5
                                have HE : Hid (mputE K q ⟨false, false, 0, 0⟩ = 0) := by show _ = _; unfold mputE; rw [if_neg HNE.out]; rfl
                                go_wp2_with fail
                                go_meet
                                case rel => exact ⟨by rw [HE.out], rfl⟩
                              · have q6 : (bk == 0) = false := by simpa using q5
                                have HE : Hid (mputE K q ⟨false, false, bk, 0⟩ = 2) := by show _ = _; unfold mputE; rw [if_neg HNE.out, if_pos ⟨rfl, .inl q5⟩]
                                clear q5
                                go_wp2_with fail
                                go_meet
                                case rel => exact ⟨by rw [HE.out], rfl⟩
                            · have HE : Hid (mputE K q ⟨false, true, bk, 0⟩ = 2) := by show _ = _; unfold mputE; rw [if_neg HNE.out, if_pos ⟨rfl, .inr rfl⟩]
                              go_wp2_with fail
                              go_meet
                              case rel => exact ⟨by rw [HE.out], rfl⟩
                          · have HE : Hid (mputE K q ⟨true, d, bk, 0⟩ = 0) := by show _ = _; unfold mputE; rw [if_neg HNE.out]; rfl
                            go_wp2_with fail
                            go_meet
                            case rel => exact ⟨by rw [HE.out], rfl⟩
              case rest =>
                obtain ⟨rfl, rfl⟩ := hcut
                as_aux_lemma =>
                  have HNQ : Hid (mputE K q ⟨v, d, bk, 0⟩ = 0 → 0 ≤ q ∧ q < K) := by
                    intro h
                    unfold mputE at h
                    split at h
                    · cases h
                    · omega
                  have HPA := Lib.hid (mput_all wc _ g sp m N l dur log wn ss Bc mode op q ⟨v, d, bk, 0⟩ HX4.out.ca (by rw [HL.out]; exact hK2) (by rw [HL.out]; exact hK3) rfl HX4.out.oh.2.2.2.1 (by omega) (by omega) (by omega))
                  unfold PutAll at HPA
                  rw [HL.out] at HPA
                  unfold Sl.v at HPA
                  generalize mputE K q ⟨v, d, bk, 0⟩ = E at *
                  go_wp2_with fail
                  refine HPA.out.mono ?_
                  rintro e w5 ⟨rfl, Fc5, ht5, hno, hok⟩
                  have hEE : (E != E) = false := by simp
                  by_cases hE0 : E = 0
                  · subst hE0
                    obtain ⟨hq1, hq2⟩ := HNQ.out rfl
                    obtain ⟨qn, rfl⟩ : ∃ qn : Nat, q = (qn : Int) := ⟨q.toNat, by omega⟩
                    have hz : ((qn : Nat) : Int).toNat = qn := Int.toNat_natCast qn
                    rw [hz] at hok
                    have HX5 := Lib.hid (HX4.out.turn (hok rfl) ht5)
                    have HC5 := Lib.hid (HCy.out.fr ht5.1 (fun e => by have := e.2; omega))
                    have hwl := word_lt ⟨v, d, bk, 0⟩
                    generalize hwd : (Sl.mk v d bk 0).word = wd at *
                    have HWD := Lib.hid hwd
                    clear hok hno ht5 HPA HNQ y0 y1 y2 y3 k0 HX4 HCy hz hwd
                    have k0 : w5.cell? ⟨s4, 0, none⟩ = some (.slice A3 K c3) := HX5.out.meta_.cell 0
                    have y0 : w5.cell? ⟨sy, 0, none⟩ = some (.bool v) := HC5.out.cell 0
                    have y1 : w5.cell? ⟨sy, 1, none⟩ = some (.bool d) := HC5.out.cell 1
                    have y2 : w5.cell? ⟨sy, 2, none⟩ = some (.int .i64 bk) := HC5.out.cell 2
                    have y3 : w5.cell? ⟨sy, 3, none⟩ = some (.int .i64 0) := HC5.out.cell 3
                    obtain ⟨bR, sl, hA3, n1, n2, n3, n4, hsl, c0, c1, c2, c3', hfz, hset⟩ := HX5.out.at_ HL.out qn (by omega)
                    have hRs := HR3.out
                    subst hA3
                    have hRsy : bR < sy := hRs bR rfl
                    have z0 := hfz (qn * 4)
                    have z1 := hfz (qn * 4 + 1)
                    have z2 := hfz (qn * 4 + 2)
                    have z3 := hfz (qn * 4 + 3)
                    have HX6 := Lib.hid (hset ⟨v, d, bk, 0⟩)
                    have q1 : (qn : Int) < (K : Int) := by omega
                    clear hset hfz hsl hRs
                    go_upto_region 26 with (fail)
                    have hF6 : Fr (fun j => j = bR) w5 ((((w5.setCell ⟨bR, qn * 4, none⟩ (.bool v)).setCell ⟨bR, qn * 4 + 1, none⟩ (.bool d)).setCell ⟨bR, qn * 4 + 2, none⟩ (.int .i64 bk)).setCell ⟨bR, qn * 4 + 3, none⟩ (.int .i64 0)) :=
                      ((((Fr.refl (fun j => j = bR) w5).set (b := bR) (.inl rfl) _).set (b := bR) (.inl rfl) _).set (b := bR) (.inl rfl) _).set (b := bR) (.inl rfl) _
                    have HC6 := Lib.hid (HC5.out.fr hF6 (fun e => by omega))
                    clear y0 y1 y2 y3 k0 c0 c1 c2 c3' z0 z1 z2 z3 hF6 HC5 HX5
                    generalize ((((w5.setCell ⟨bR, qn * 4, none⟩ (.bool v)).setCell ⟨bR, qn * 4 + 1, none⟩ (.bool d)).setCell ⟨bR, qn * 4 + 2, none⟩ (.int .i64 bk)).setCell ⟨bR, qn * 4 + 3, none⟩ (.int .i64 0)) = w6 at *
                    have y0 : w6.cell? ⟨sy, 0, none⟩ = some (.bool v) := HC6.out.cell 0
                    have y1 : w6.cell? ⟨sy, 1, none⟩ = some (.bool d) := HC6.out.cell 1
                    have y2 : w6.cell? ⟨sy, 2, none⟩ = some (.int .i64 bk) := HC6.out.cell 2
                    have y3 : w6.cell? ⟨sy, 3, none⟩ = some (.int .i64 0) := HC6.out.cell 3
                    have e1 : IntKind.i64.wrap (1 + (qn : Int)) = ((1 + qn : Nat) : Int) := by rw [IntWalk.i64_in _ (by omega)]; omega
                    have HWO := Lib.hid (rword_any ⟨v, d, bk, 0⟩ w6)
                    unfold Sl.v at HWO
                    rw [HWD.out] at HWO
                    go_wp2_with fail
                    refine HWO.out.mono ?_
                    rintro e w7 ⟨rfl, hb7⟩
                    have HX7 := Lib.hid (HX6.out.keep hb7)
                    obtain ⟨a1, a2, -⟩ := HX7.out.oh.at_ (1 + qn) (by omega)
                    have HX8 := Lib.hid (HX7.out.setWord (1 + qn) wd (by omega) hwl)
                    have q3 : ((1 + qn : Nat) : Int) < (N : Int) := by omega
                    have q4 : 1 + qn < N := by omega
                    clear hb7 HWO HX6 HX7 y0 y1 y2 y3 HC6
                    go_wp2_with fail
                    go_meet
                    case rel => exact ⟨Fc5, _, _, dur, _, wn + 1, _, mode, op, HX8.out, HY.out.set _ _, set0_id _ _ (set_at0 l qn wd _ HD.out), by rw [List.length_set]; exact HL.out, by simp; omega, by omega⟩
                  · have hE1 : (E == 0) = false := by simpa using hE0
                    have HX5 := Lib.hid (HX4.out.turn (hno hE0) ht5)
                    clear hno hok ht5 hE0 HX4 y0 y1 y2 y3 k0 HPA HNQ
                    go_wp2_with fail
                    go_meet
                    case rel => exact ⟨Fc5, l, l, dur, log, wn, ss, mode, op, HX5.out, HY.out, set0_id l _ HD.out, HL.out, by omega, by omega⟩
        case rest =>
          as_aux_lemma =>
            obtain ⟨Fc, l, now, dur, log, wn, ss, mode, op, hP, hy, hnow, hsl, hlg, hwn⟩ := hcut
            clear HX1 HY HD HL
            have HZ := Lib.hid hP
            have HY := Lib.hid hy
            have HNW := Lib.hid hnow
            have HL := Lib.hid hsl
            obtain ⟨FF, AA, cc, hci⟩ := HZ.out.ca
            have HDK := Lib.hid hci.dsk
            have hnl : now.length = N := by rw [hnow, List.length_set]; exact hP.oh.2.2.2.1
            have HNL := Lib.hid hnl
            clear hP hy hnow hsl hci hnl
            go_wp2_with fail
            refine (image_any wc FF g 0 _ HDK.out (by show 0 < 1; omega)).mono ?_
            rintro e w1 ⟨v, rfl, ho, hb1⟩
            change w1.ownsRow wc.heap.size 28 1 v now.length (uv now) at ho
            rw [HNL.out] at ho
            obtain ⟨bw, cw, rfl, -, hbw⟩ := ho.form (by omega)
            have hbw2 := own_base ho bw rfl
            have HZ1 := Lib.hid (HZ.out.keep hb1)
            have hbl := own_lt HZ.out.oh.2.2.1 b rfl
            have hs4l := HZ.out.meta_.lt
            have HO1 := Lib.hid ho
            have x0 : w1.cell? ⟨bw, 0, none⟩ = some (.int .u64 ((now[0]?.getD 0 : Nat) : Int)) := (ho.cellAt 0 (by omega)).trans (uv_at now 0 (by rw [HNL.out]; omega))
            have hn0 : now[0]?.getD 0 = hdI K Bc mode op := by
              rw [HNW.out, List.getElem?_set_self (by rw [HZ.out.oh.2.2.2.1]; omega), Option.getD_some]
            rw [hn0] at x0
            have hhl := hdI_lt K Bc mode op
            have HN0 := Lib.hid hn0
            have HW := Lib.hid (HZ1.out.setWord 0 (hdI K Bc mode op) (by omega) hhl)
            rw [← HNW.out] at HW
            obtain ⟨a1, a2, -⟩ := HZ1.out.oh.at_ 0 (by omega)
            have hOw := own_fr ho (fr_set w1 b 0 (.int .u64 ((hdI K Bc mode op : Nat) : Int))) (fun b' hb' e => by simp [Value.ownBlock] at hb'; omega)
            have HOW := Lib.hid hOw
            have q1 : (0 : Int) < (N : Int) := by omega
            have q2 : 0 < N := by omega
            clear ho hb1 hn0 hOw HZ HZ1
            generalize hdw : hdI K Bc mode op = hd at *
            have HDW := Lib.hid hdw
            clear hdw
            go_upto_region 41 with (fail)
            have hbw1 : bw < (w1.setCell ⟨b, 0, none⟩ (.int .u64 (hd : Int))).heap.size := own_lt HOW.out bw rfl
            generalize (w1.setCell ⟨b, 0, none⟩ (.int .u64 (hd : Int))) = w2 at *
            have hs4 : s4 < w2.drew.heap.size := HW.out.meta_.lt
            have hbw : bw < w2.drew.heap.size := hbw1
            clear x0 a1 a2 hbl hs4l hbw2 hbw1
            have y4 : w2.cell? ⟨bw, 0, none⟩ = some (.int .u64 (hd : Int)) := (HOW.out.cellAt 0 (by omega)).trans ((uv_at now 0 (by rw [HNL.out]; omega)).trans (by rw [HN0.out]))
            have kk : w2.drew.cell? ⟨s4, 0, none⟩ = some (.slice A3 K c3) ∧ w2.drew.cell? ⟨s4, 1, none⟩ = some (.int .i64 Bc) ∧ w2.drew.cell? ⟨s4, 2, none⟩ = some (.int .i64 mode) ∧ w2.drew.cell? ⟨s4, 3, none⟩ = some (.bool (!op)) ∧ w2.drew.cell? ⟨bw, 0, none⟩ = some (.int .u64 (hd : Int)) := ⟨HW.out.meta_.cell 0, HW.out.meta_.cell 1, HW.out.meta_.cell 2, HW.out.meta_.cell 3, y4⟩
            have HPD := Lib.hid HW.out.drew
            have hR1 : Reads w2.drew (some ⟨bw, 0, none⟩) (uv now) := (Reads.of_own HOW.out).keep (Below.refl _ _).drew
            have hR2 : Reads w2.drew (some ⟨b, 0, none⟩) (uv now) := Reads.of_own HPD.out.oh.2.2.1
            have HR1 := Lib.hid hR1
            have HR2 := Lib.hid hR2
            have hS : decide (now = now) = true := by simp
            have hh : ((hd : Int) != (hd : Int)) = false := by simp
            have ho2 : ((!op) != (!op)) = false := by simp
            have hm2 : (mode != mode) = false := by simp
            clear y4 hR1 hR2 HOW
            go_region_held3 (fun w' => w'.cell? ⟨s4, 0, none⟩ = some (.slice A3 K c3) ∧ w'.cell? ⟨s4, 1, none⟩ = some (.int .i64 Bc) ∧ w'.cell? ⟨s4, 2, none⟩ = some (.int .i64 mode) ∧ w'.cell? ⟨s4, 3, none⟩ = some (.bool (!op)) ∧ w'.cell? ⟨bw, 0, none⟩ = some (.int .u64 (hd : Int)))
              (first | with_reducible exact kk | with_reducible exact z4 | with_reducible exact z3 | with_reducible exact z2 | with_reducible exact z1)
              (first
                | (go_at_call 29; refine (same_any' _ _ cw cb N N now now w2.drew HNL.out HNL.out HR1.out HR2.out (by omega) (by omega)).mono ?_; rintro e w3 ⟨rfl, q6, hq6⟩; have hb3 : Below w2.drew.heap.size w2.drew w3 := (by rw [hq6]; exact below_drewN (Below.refl _ _) q6); clear hq6; have z1 : w3.cell? ⟨s4, 0, none⟩ = some (.slice A3 K c3) ∧ w3.cell? ⟨s4, 1, none⟩ = some (.int .i64 Bc) ∧ w3.cell? ⟨s4, 2, none⟩ = some (.int .i64 mode) ∧ w3.cell? ⟨s4, 3, none⟩ = some (.bool (!op)) ∧ w3.cell? ⟨bw, 0, none⟩ = some (.int .u64 (hd : Int)) := ⟨(hb3.cell hs4).trans kk.1, (hb3.cell hs4).trans kk.2.1, (hb3.cell hs4).trans kk.2.2.1, (hb3.cell hs4).trans kk.2.2.2.1, (hb3.cell hbw).trans kk.2.2.2.2⟩; have HP3 := Lib.hid (HPD.out.keep hb3))
                | (go_at_call 10; refine (rhead_any K Bc mode op w3).mono ?_; rintro e w4 ⟨rfl, hb4⟩; rw [HDW.out]; have hb34 := hb3.trans (hb4.mono hb3.size); have z2 : w4.cell? ⟨s4, 0, none⟩ = some (.slice A3 K c3) ∧ w4.cell? ⟨s4, 1, none⟩ = some (.int .i64 Bc) ∧ w4.cell? ⟨s4, 2, none⟩ = some (.int .i64 mode) ∧ w4.cell? ⟨s4, 3, none⟩ = some (.bool (!op)) ∧ w4.cell? ⟨bw, 0, none⟩ = some (.int .u64 (hd : Int)) := ⟨(hb34.cell hs4).trans kk.1, (hb34.cell hs4).trans kk.2.1, (hb34.cell hs4).trans kk.2.2.1, (hb34.cell hs4).trans kk.2.2.2.1, (hb34.cell hbw).trans kk.2.2.2.2⟩; have HP4 := Lib.hid (HP3.out.keep hb4))
                | (go_at_call 16; refine (cslots_any w4 Fc g sp m N _ ss Bc mode op HP4.out.ca (by rw [HL.out]; omega)).mono ?_; rintro e w5 ⟨v5, rfl, hown5, hb5⟩; obtain ⟨A5, c5, hv5⟩ := own_form hown5; subst hv5; rw [HL.out] at hown5 ⊢; have HP5 := Lib.hid (HP4.out.keep hb5); have hb35 := hb34.trans (hb5.mono hb34.size); have z3 : w5.cell? ⟨s4, 0, none⟩ = some (.slice A3 K c3) ∧ w5.cell? ⟨s4, 1, none⟩ = some (.int .i64 Bc) ∧ w5.cell? ⟨s4, 2, none⟩ = some (.int .i64 mode) ∧ w5.cell? ⟨s4, 3, none⟩ = some (.bool (!op)) ∧ w5.cell? ⟨bw, 0, none⟩ = some (.int .u64 (hd : Int)) := ⟨(hb35.cell hs4).trans kk.1, (hb35.cell hs4).trans kk.2.1, (hb35.cell hs4).trans kk.2.2.1, (hb35.cell hs4).trans kk.2.2.2.1, (hb35.cell hbw).trans kk.2.2.2.2⟩)
                | (go_at_call 15; refine (sameS_any A5 A3 c5 c3 K ss w5 HL.out (Reads.of_own hown5) (Reads.of_own HP5.out.row) (by omega)).mono ?_; rintro e w6 ⟨rfl, q7, hq7⟩; have hb6 : Below w5.heap.size w5 w6 := (by rw [hq7]; exact below_drewN (Below.refl _ _) q7); clear hq7; have hb36 := hb35.trans (hb6.mono hb35.size); have z4 : w6.cell? ⟨s4, 0, none⟩ = some (.slice A3 K c3) ∧ w6.cell? ⟨s4, 1, none⟩ = some (.int .i64 Bc) ∧ w6.cell? ⟨s4, 2, none⟩ = some (.int .i64 mode) ∧ w6.cell? ⟨s4, 3, none⟩ = some (.bool (!op)) ∧ w6.cell? ⟨bw, 0, none⟩ = some (.int .u64 (hd : Int)) := ⟨(hb36.cell hs4).trans kk.1, (hb36.cell hs4).trans kk.2.1, (hb36.cell hs4).trans kk.2.2.1, (hb36.cell hs4).trans kk.2.2.2.1, (hb36.cell hbw).trans kk.2.2.2.2⟩; have HP6 := Lib.hid (HP5.out.keep hb6); obtain ⟨y6, hCm⟩ := HP6.out.ca.cells)
                | (go_at_call 19; refine (clean_any w6 m _ _ Bc mode op hCm).mono ?_; rintro e w' ⟨rfl, rfl⟩)
                | (go_at_call 18; refine (mode_any w6 m _ _ Bc mode op hCm).mono ?_; rintro e w' ⟨rfl, rfl⟩))
            have e5 : IntKind.i64.wrap ((k : Int) - 1) = ((k - 1 : Nat) : Int) := by rw [IntWalk.i64_in _ (by omega)]; omega
            clear kk z1 z2 z3 z4 hb3 hb34 hb35 hb36 hb6 hb5 hb4 hown5 hCm HP3 HP4 HP5 HPD HR1 HR2 HW hS hh ho2 hm2
            go_wp2_with fail
            go_roundw
            case rel => exact ⟨k - 1, Fc, now, dur, log, wn, ss, mode, op, rfl, by omega, HP6.out, HY.out, HN0.out.trans HDW.out.symm, HL.out, by omega, by omega⟩
            case measure => simp [intOf]; omega

end Go.Proofs.Ytpiffapnbjnjiaa
