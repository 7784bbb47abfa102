/-
  The law CachemetaOpens.
-/
import Derived.Test.YtpiffapnbjnjiaaLawAwake32
import Derived.Test.YtpiffapnbjnjiaaLawMade32
import Derived.Test.YtpiffapnbjnjiaaMetaRB
import Derived.Test.YtpiffapnbjnjiaaMetaRC
namespace Go.Proofs.Ytpiffapnbjnjiaa
set_option linter.unusedVariables false
open Go.RowKit
attribute [local go_sem] Oper.semAt_some

/-- What the law holds: the source, the words. -/
def OH (W W' : World) (b c n : Nat) (l : List Nat) : Prop := SrcAt W' W.heap.size ∧ Below W.heap.size W W' ∧ W'.ownsRow (W.heap.size + 1) 28 1 (.slice (some ⟨b, 0, none⟩) n c) n (uv l) ∧ l.length = n ∧ W64 l
theorem OH.grown {W W' W'' : World} {b c n : Nat} {l : List Nat} (h : OH W W' b c n l) (hs : SrcAt W'' W.heap.size) (hg : W'.grownBy W'' (some W.heap.size)) : OH W W'' b c n l :=
  ⟨hs, gb_Below h.2.1 hg h.2.1.size (Nat.le_refl _), own_keep h.2.2.1 hg (by omega), h.2.2.2.1, h.2.2.2.2⟩
theorem OH.drew {W W' : World} {b c n : Nat} {l : List Nat} (h : OH W W' b c n l) : OH W W'.drew b c n l := h.grown (h.1.keep (Below.refl _ _).drew) (gb_below (gb_refl _ _) (Below.refl _ _).drew)
theorem OH.at_ {W W' : World} {b c n : Nat} {l : List Nat} (h : OH W W' b c n l) (j : Nat) (hj : j < n) : W'.cell? ⟨b, j, none⟩ = some (.int .u64 ((l[j]?.getD 0 : Nat) : Int)) ∧ W'.frozen? ⟨b, j, none⟩ = false ∧
    (∀ v : Nat, v < 18446744073709551616 → OH W (W'.setCell ⟨b, j, none⟩ (.int .u64 (v : Int))) b c n (l.set j v)) := by
  obtain ⟨h1, h2, h3, h4, h5⟩ := h
  have hb : W.heap.size + 1 ≤ b := own_base h3 b rfl
  refine ⟨(h3.cellAt j (by omega)).trans (uv_at l j (by omega)), h3.frozenAt j, fun v hv => ⟨h1.set (by omega) _, h2.setCell (p := ⟨b, j, none⟩) (by show W.heap.size ≤ b; omega) _, ?_, by rw [List.length_set]; exact h4, h5.set _ _ hv⟩⟩
  have := (h3.stored j (.int .u64 (v : Int))).1
  rwa [uv_set] at this

theorem openE_small (ws : List Nat) (h : openE ws = 0) : (ws[0]?.getD 0) % 2048 ≤ 1024 := by
  unfold openE at h
  split at h
  · cases h
  · split at h
    · cases h
    · rename_i hb
      have hb2 : hbad (ws[0]?.getD 0) ws.length = false := by simpa using hb
      unfold hbad at hb2
      have := of_decide_eq_false hb2
      omega
theorem xor_any (a : Nat) (p : Int) (ha : a < 18446744073709551616) : ∃ y : Nat, bits BinOp.xor IntKind.u64 (a : Int) (IntKind.u64.wrap p) = (y : Int) ∧ y < 18446744073709551616 := by
  obtain ⟨x, ex, hx⟩ := any_u64 p
  rw [ex]
  exact ⟨_, u64_xor_nat a x ha hx, Nat.xor_lt_two_pow (n := 64) ha hx⟩

set_option maxRecDepth 100000 in
set_option maxHeartbeats 4000000 in
theorem opens_any (A : Option Addr) (c n : Nat) (ls : List Int) (W : World) (hn : ls.length = n) (hA : Reads W A (iv ls)) (hw : I64 ls) (hc : n ≤ c) :
    Calls Try.prog 3 #[.slice A n c] W fun e W' => e = .returned (.bool true) ∧ Below W.heap.size W W' := by
  go_enter Try.func3, Try.ntmps3
  go_wp2_with fail
  refine (new_any A n c ls W hn hA hw hc).mono ?_
  rintro e W1 ⟨rfl, hs1, hb1, hsz1⟩
  go_wp2_with fail
  refine (made_any W1 W.heap.size hs1).mono ?_
  rintro e W2 ⟨v, l, rfl, hown, hl2, hl9, hlw, hs2, hg2⟩
  obtain ⟨b, cb, rfl, hbb, hbl⟩ := hown.form (by omega)
  obtain ⟨N, hN⟩ : ∃ N, l.length = N := ⟨_, rfl⟩
  rw [hN] at hown hl2 hl9
  rw [hN]
  rw [hsz1] at hown
  have HH := Lib.hid (show OH W W2 b cb N l from ⟨hs2, gb_Below hb1 hg2 hb1.size (Nat.le_refl _), hown, hN, hlw⟩)
  clear hs1 hb1 hsz1 hown hs2 hg2 hlw hN hbb hbl
  go_wp2_with fail
  refine (n_any W.heap.size 3 W2 HH.out.1 (by omega) (by omega)).mono ?_
  rintro e W3 ⟨r0, rfl, hr0, hr0', hs3, hg3⟩
  have HH3 := Lib.hid (HH.out.grown hs3 hg3)
  clear HH hs3 hg3
  go_wp2_with fail
  go_loopw [5] (fun i wr => ∃ (k : Nat) (l' : List Nat), i = .int .i64 k ∧ k ≤ 3 ∧ OH W wr b cb N l') (fun i _ => (intOf i).toNat)
  case atStart => exact ⟨r0.toNat, l, by rw [show ((r0.toNat : Nat) : Int) = r0 by omega], by omega, HH3.out⟩
  case round =>
    rename World => wx
    obtain ⟨k, l', rfl, hk, hH⟩ := hrel
    have HX := Lib.hid hH
    clear hH HH3
    by_cases hk0 : 0 < k
    · have t1 : (0 : Int) < (k : Int) := by omega
      go_wp2_with fail
      go_region_with ((first
        | (go_at_call 9; refine (n_any W.heap.size 64 w1 HX1.out.1 (by omega) (by omega)).mono ?_; rintro e w2 ⟨i2, rfl, hi3, hi4, hs2, hg2⟩; have HX2 := Lib.hid (HX1.out.grown hs2 hg2); obtain ⟨a4, a5, a6⟩ := HX2.out.at_ j (by omega); obtain ⟨q, rfl⟩ : ∃ q : Nat, i2 = (q : Int) := ⟨i2.toNat, by omega⟩)
        | (go_at_call 9; refine (n_any W.heap.size (N : Int) wx.drew HX.out.drew.1 (by omega) (by omega)).mono ?_; rintro e w1 ⟨i1, rfl, hi1, hi2, hs1, hg1⟩; obtain ⟨j, rfl⟩ : ∃ j : Nat, i1 = (j : Int) := ⟨i1.toNat, by omega⟩; have HX1 := Lib.hid (HX.out.drew.grown hs1 hg1); obtain ⟨a1, a2, a3⟩ := HX1.out.at_ j (by omega))))
      all_goals
        obtain ⟨y, ey, hy⟩ := xor_any (l'[j]?.getD 0) (2 ^ q) (HX2.out.2.2.2.2.at j)
        rw [ey]
        have HX3 := Lib.hid (a6 y hy)
        have e5 : IntKind.i64.wrap ((k : Int) - 1) = ((k - 1 : Nat) : Int) := by rw [IntWalk.i64_in _ (by omega)]; omega
        clear a1 a2 a3 a4 a5 a6 hs1 hg1 hs2 hg2 HX1 HX2 ey
        go_wp2_with fail
        go_roundw
        case rel => exact ⟨k - 1, _, rfl, by omega, HX3.out⟩
        case measure => simp [intOf]; omega
    · go_wp2_with fail
      refine (n_any W.heap.size 3 wx HX.out.1 (by omega) (by omega)).mono ?_
      rintro e w1 ⟨r1, rfl, hr1, hr1', hs1, hg1⟩
      have HX1 := Lib.hid (HX.out.grown hs1 hg1)
      clear HX hs1 hg1
      go_upto_if 37 with (fail)
      go_cut [] (fun wy => ∃ l2 : List Nat, OH W wy b cb N l2)
      case first =>
        by_cases hr : r1 = 0
        · have t2 : (r1 == 0) = true := by simpa using hr
          clear hr
          go_wp2_with fail
          refine (n_any W.heap.size 9 w1 HX1.out.1 (by omega) (by omega)).mono ?_
          rintro e w2 ⟨p1, rfl, hp1, hp1', hs2, hg2⟩
          have HX2 := Lib.hid (HX1.out.grown hs2 hg2)
          clear hs2 hg2 HX1
          go_wp2_with fail
          refine (n_any W.heap.size 9 w2 HX2.out.1 (by omega) (by omega)).mono ?_
          rintro e w3 ⟨p2, rfl, hp2, hp2', hs3, hg3⟩
          have HX3 := Lib.hid (HX2.out.grown hs3 hg3)
          clear hs3 hg3 HX2
          go_wp2_with fail
          refine (n_any W.heap.size 4 w3 HX3.out.1 (by omega) (by omega)).mono ?_
          rintro e w4 ⟨p3, rfl, hp3, hp3', hs4, hg4⟩
          have HX4 := Lib.hid (HX3.out.grown hs4 hg4)
          clear hs4 hg4 HX3
          go_wp2_with fail
          refine (n_any W.heap.size 2 w4 HX4.out.1 (by omega) (by omega)).mono ?_
          rintro e w5 ⟨p4, rfl, hp4, hp4', hs5, hg5⟩
          have HX5 := Lib.hid (HX4.out.grown hs5 hg5)
          clear hs5 hg5 HX4
          obtain ⟨m1, rfl⟩ : ∃ m1 : Nat, p1 = (m1 : Int) := ⟨p1.toNat, by omega⟩
          go_wp2_with fail
          refine (rhead_any m1 p2 p3 (p4 == 0) w5).mono ?_
          rintro e w6 ⟨rfl, hb6⟩
          have HX6 := Lib.hid (HX5.out.grown (HX5.out.1.keep hb6) (gb_below (gb_refl _ _) hb6))
          have hhl := hdI_lt m1 p2 p3 (p4 == 0)
          generalize hdI m1 p2 p3 (p4 == 0) = hd at *
          obtain ⟨a1, a2, a3⟩ := HX6.out.at_ 0 (by omega)
          have HX7 := Lib.hid (a3 hd hhl)
          have t3 : (0 : Int) < (N : Int) := by omega
          clear a3 HX5 hb6
          go_wp2_with fail
          go_meet
          case rel => exact ⟨_, HX7.out⟩
        · have t2 : (r1 == 0) = false := by simpa using hr
          clear hr
          go_wp2_with fail
          go_meet
          case rel => exact ⟨_, HX1.out⟩
      case rest =>
        obtain ⟨l2, hH⟩ := hcut
        have HY := Lib.hid hH
        clear hH HX1
        go_upto_region 9 with (fail)
        go_cut [57] (fun s57 wy => ∃ q : Bool, s57 = .bool q ∧ (q = true → 2 < N) ∧ OH W wy b cb N l2)
        case first =>
          go_wp2_with fail
          refine (n_any W.heap.size 5 wc HY.out.1 (by omega) (by omega)).mono ?_
          rintro e w1 ⟨r2, rfl, hr2, hr2', hs1, hg1⟩
          have HY1 := Lib.hid (HY.out.grown hs1 hg1)
          clear HY hs1 hg1
          by_cases hr : r2 = 0
          · have t2 : (r2 == 0) = true := by simpa using hr
            clear hr
            by_cases hN2 : 2 < N
            · have t3 : (2 : Int) < (N : Int) := by omega
              go_wp2_with fail
              go_meet
              case rel => exact ⟨_, rfl, fun _ => hN2, HY1.out⟩
            · have t3 : ¬ (2 : Int) < (N : Int) := by omega
              go_wp2_with fail
              go_meet
              case rel => exact ⟨_, rfl, (fun h => by have := of_decide_eq_true h; omega), HY1.out⟩
          · have t2 : (r2 == 0) = false := by simpa using hr
            clear hr
            go_wp2_with fail
            go_meet
            case rel => exact ⟨_, rfl, (fun h => by cases h), HY1.out⟩
        case rest =>
          obtain ⟨q, rfl, hqN, hH⟩ := hcut
          have HY1 := Lib.hid hH
          clear hH HY
          go_upto_if 57 with (fail)
          go_cut [] (fun wy => ∃ l3 : List Nat, OH W wy b cb N l3)
          case first =>
            cases q
            · go_wp2_with fail
              go_meet
              case rel => exact ⟨_, HY1.out⟩
            · have hN2 := hqN rfl
              obtain ⟨a1, -, -⟩ := HY1.out.at_ 1 (by omega)
              obtain ⟨a4, a5, a6⟩ := HY1.out.at_ 2 (by omega)
              have HY2 := Lib.hid (a6 (l2[1]?.getD 0) (HY1.out.2.2.2.2.at 1))
              have t3 : (1 : Int) < (N : Int) := by omega
              have t4 : (2 : Int) < (N : Int) := by omega
              clear a6
              go_wp2_with fail
              go_meet
              case rel => exact ⟨_, HY2.out⟩
          case rest =>
            obtain ⟨l3, hH⟩ := hcut
            have HZ := Lib.hid hH
            clear hH HY1 hqN
            have hWc := HZ.out.2.1.size
            go_wp2_with fail
            refine (device_any wc (some ⟨b, 0, none⟩) N cb l3 (Reads.of_own HZ.out.2.2.1) HZ.out.2.2.2.1 (by omega) (by omega) HZ.out.2.2.2.2).mono ?_
            rintro e w1 ⟨F, g, sp, rfl, hdev, hb1⟩
            rw [one_full, HZ.out.2.2.2.1] at hdev
            have HDV := Lib.hid hdev
            have HZ1 := Lib.hid (HZ.out.grown (HZ.out.1.keep hb1) (gb_below (gb_refl _ _) hb1))
            clear hdev
            unfold spanV
            go_wp2_with fail
            refine (open_any w1 F g sp N l3 l3 [] 0 HDV.out.1 HDV.out.2.1 HDV.out.2.2.1 (Syn.refl _) HZ.out.2.2.2.1 (by omega) (by omega) HZ.out.2.2.2.2 (by simp)).mono ?_
            rintro e w2 hO
            have hFs : ∀ j, F j → wc.heap.size ≤ j := HDV.out.2.2.2.1
            by_cases hE : openE l3 = 0
            · obtain ⟨m, Fc, rfl, hC, ht3, hlt3⟩ := hO.ok hE HDV.out.2.1 HDV.out.2.2.1
              have hb2 : Below wc.heap.size wc w2 := hb1.trans (ht3.1.below hb1.size (fun j hj => hj.elim (hFs j) (fun e => e ▸ HDV.out.2.2.2.2)))
              have HZ2 := Lib.hid (HZ.out.grown (HZ.out.1.keep hb2) (gb_below (gb_refl _ _) hb2))
              have HCA := Lib.hid hC
              clear hO hC ht3 hlt3 hb1 hb2 HZ HZ1 HDV hFs
              go_wp2_with fail
              refine (ropen_any w2 (some ⟨b, 0, none⟩) cb N l3 (Reads.of_own HZ2.out.2.2.1) HZ2.out.2.2.2.1 (by omega) (by omega) HZ2.out.2.2.2.2).mono ?_
              rintro e w3 ⟨hb3, hR⟩
              rcases hR with ⟨hbad, _⟩ | ⟨_, v3, rfl, hown3⟩
              · exact absurd hE hbad
              have hK := openE_small l3 hE
              have hlen := slotsU_length l3 ((l3[0]?.getD 0) % 2048)
              have hcl : ((!(decide ((l3[0]?.getD 0) / 1048576 % 2 = 1))) == decide ((l3[0]?.getD 0) / 1048576 % 2 = 0)) = true := by
                have : (l3[0]?.getD 0) / 1048576 % 2 < 2 := Nat.mod_lt _ (by omega)
                rw [beq_iff_eq, Bool.eq_iff_iff]
                simp <;> omega
              have HE0 := Lib.hid hE
              clear hE
              obtain ⟨A3, c3, hv3⟩ := own_form hown3
              subst hv3
              have HCB := Lib.hid (HCA.out.keep hb3)
              have HB3 := Lib.hid (HZ2.out.2.1.trans (hb3.mono HZ2.out.2.1.size))
              clear HCA hb3 HZ2
              generalize slotsU l3 ((l3[0]?.getD 0) % 2048) = ss at *
              generalize (l3[0]?.getD 0) % 2048 = K at *
              generalize (((l3[0]?.getD 0) / 2048 % 128 : Nat) : Int) = Bc at *
              generalize (((l3[0]?.getD 0) / 262144 % 4 : Nat) : Int) = M at *
              generalize decide ((l3[0]?.getD 0) / 1048576 % 2 = 1) = op at *
              generalize decide ((l3[0]?.getD 0) / 1048576 % 2 = 0) = cl at *
              have hb1 : (Bc == Bc) = true := by simp
              have hb2 : (M == M) = true := by simp
              go_upto_region 20 with (fail)
              have hba : Below w3.heap.size w3 (w3.alloc (.cells #[.slice A3 K c3, .int .i64 Bc, .int .i64 M, .bool cl] 41)) := (Below.refl _ _).alloc (Nat.le_refl _) _
              have hCs := Cs.new w3 41 #[.slice A3 K c3, .int .i64 Bc, .int .i64 M, .bool cl]
              have HC4 := Lib.hid ((HCB.out.keep hba).keep (Below.refl _ _).drew)
              have HR4 := Lib.hid ((Reads.of_own hown3).keep hba)
              have HB4 := Lib.hid ((HB3.out.trans (hba.mono HB3.out.size)).drew)
              clear HCB hown3 HB3 hba
              generalize (w3.alloc (.cells #[.slice A3 K c3, .int .i64 Bc, .int .i64 M, .bool cl] 41)) = w4 at *
              generalize w3.heap.size = s4 at *
              have k0 : w4.cell? ⟨s4, 0, none⟩ = some (.slice A3 K c3) := hCs.cell 0
              have k1 : w4.cell? ⟨s4, 1, none⟩ = some (.int .i64 Bc) := hCs.cell 1
              have k2 : w4.cell? ⟨s4, 2, none⟩ = some (.int .i64 M) := hCs.cell 2
              have k3 : w4.cell? ⟨s4, 3, none⟩ = some (.bool cl) := hCs.cell 3
              have hs4 : s4 < w4.drew.heap.size := hCs.lt
              have kk : w4.drew.cell? ⟨s4, 0, none⟩ = some (.slice A3 K c3) ∧ w4.drew.cell? ⟨s4, 1, none⟩ = some (.int .i64 Bc) ∧ w4.drew.cell? ⟨s4, 2, none⟩ = some (.int .i64 M) ∧ w4.drew.cell? ⟨s4, 3, none⟩ = some (.bool cl) := ⟨k0, k1, k2, k3⟩
              have HRd : Hid (Reads w4.drew A3 (scs ss)) := HR4.out.keep (Below.refl _ _).drew
              clear hCs
              go_region_held3 (fun w' => w'.cell? ⟨s4, 0, none⟩ = some (.slice A3 K c3) ∧ w'.cell? ⟨s4, 1, none⟩ = some (.int .i64 Bc) ∧ w'.cell? ⟨s4, 2, none⟩ = some (.int .i64 M) ∧ w'.cell? ⟨s4, 3, none⟩ = some (.bool cl))
                (first | with_reducible exact kk | with_reducible exact z3 | with_reducible exact z2 | with_reducible exact z1)
                (first
                  | (go_at_call 16; refine (cslots_any w4.drew Fc g sp m N _ ss Bc M op HC4.out (by omega)).mono ?_; rintro e w5 ⟨v5, rfl, hown5, hb5⟩; obtain ⟨A5, c5, hv5⟩ := own_form hown5; subst hv5; rw [hlen] at hown5 ⊢; have HC5 := Lib.hid (HC4.out.keep hb5); have hR3 := HRd.out.keep hb5; have hR5 := Reads.of_own hown5; have z1 : w5.cell? ⟨s4, 0, none⟩ = some (.slice A3 K c3) ∧ w5.cell? ⟨s4, 1, none⟩ = some (.int .i64 Bc) ∧ w5.cell? ⟨s4, 2, none⟩ = some (.int .i64 M) ∧ w5.cell? ⟨s4, 3, none⟩ = some (.bool cl) := ⟨(hb5.cell hs4).trans k0, (hb5.cell hs4).trans k1, (hb5.cell hs4).trans k2, (hb5.cell hs4).trans k3⟩; have hs5 : s4 < w5.heap.size := Nat.lt_of_lt_of_le hs4 hb5.size)
                  | (go_at_call 15; refine (sameS_any A5 A3 c5 c3 K ss w5 hlen hR5 hR3 (by omega)).mono ?_; rintro e w' ⟨rfl, q6, rfl⟩; have z2 : (w5.drewN q6).cell? ⟨s4, 0, none⟩ = some (.slice A3 K c3) ∧ (w5.drewN q6).cell? ⟨s4, 1, none⟩ = some (.int .i64 Bc) ∧ (w5.drewN q6).cell? ⟨s4, 2, none⟩ = some (.int .i64 M) ∧ (w5.drewN q6).cell? ⟨s4, 3, none⟩ = some (.bool cl) := z1; obtain ⟨y6, hCm⟩ := HC5.out.cells)
                  | (go_at_call 17; refine (chunk_any (w5.drewN q6) m _ _ Bc M op hCm).mono ?_; rintro e w' ⟨rfl, rfl⟩)
                  | (go_at_call 18; refine (mode_any (w5.drewN q6) m _ _ Bc M op hCm).mono ?_; rintro e w' ⟨rfl, rfl⟩)
                  | (go_at_call 19; refine (clean_any (w5.drewN q6) m _ _ Bc M op hCm).mono ?_; rintro e w' ⟨rfl, rfl⟩)
                  | (go_at_call 14; refine (awake_any (w5.drewN q6)).mono ?_; rintro e w7 ⟨rfl, hb7⟩; have z3 : w7.cell? ⟨s4, 0, none⟩ = some (.slice A3 K c3) ∧ w7.cell? ⟨s4, 1, none⟩ = some (.int .i64 Bc) ∧ w7.cell? ⟨s4, 2, none⟩ = some (.int .i64 M) ∧ w7.cell? ⟨s4, 3, none⟩ = some (.bool cl) := ⟨(hb7.cell hs5).trans z1.1, (hb7.cell hs5).trans z1.2.1, (hb7.cell hs5).trans z1.2.2.1, (hb7.cell hs5).trans z1.2.2.2⟩))
              go_wp2_with fail
              go_ret
              have hB5 := HB4.out.trans (hb5.mono HB4.out.size)
              exact ⟨rfl, (below_drewN hB5 q6).trans (hb7.mono hB5.size)⟩
            · obtain ⟨F', hd, ht, hcase⟩ := hO
              rcases hcase with ⟨_, rfl⟩ | ⟨hbad, _⟩
              rotate_left
              · exact absurd hbad hE
              have hb2 : Below wc.heap.size wc w2 := hb1.trans (ht.1.below hb1.size hFs)
              have HZ2 := Lib.hid (HZ.out.grown (HZ.out.1.keep hb2) (gb_below (gb_refl _ _) hb2))
              have hEn : (openE l3 != 0) = true := by simpa using hE
              have hEq : (openE l3 != openE l3) = false := by simp
              clear hd ht hb1 hb2 HZ HZ1 HDV hFs
              go_wp2_with fail
              refine (ropen_any w2 (some ⟨b, 0, none⟩) cb N l3 (Reads.of_own HZ2.out.2.2.1) HZ2.out.2.2.2.1 (by omega) (by omega) HZ2.out.2.2.2.2).mono ?_
              rintro e w3 ⟨hb3, hR⟩
              rcases hR with ⟨_, rfl⟩ | ⟨hbad, _⟩
              rotate_left
              · exact absurd hbad hE
              have HB3 := Lib.hid (HZ2.out.2.1.trans (hb3.mono HZ2.out.2.1.size))
              clear hb3 HZ2
              generalize openE l3 = E at *
              go_wp2_with fail
              refine (awake_any _).mono ?_
              rintro e w4 ⟨rfl, hb4⟩
              go_wp2_with fail
              go_ret
              have hba := HB3.out.alloc HB3.out.size (.cells #[.slice none 0 0, .int .i64 0, .int .i64 0, .bool false] 41)
              exact ⟨rfl, hba.trans (hb4.mono hba.size)⟩

end Go.Proofs.Ytpiffapnbjnjiaa
