/-
  The law CachemetaFormats.
-/
import Derived.Test.YtpiffapnbjnjiaaLawAwake32
import Derived.Test.YtpiffapnbjnjiaaLawSlot32
namespace Go.Proofs.Ytpiffapnbjnjiaa
set_option linter.unusedVariables false
open Go.RowKit
attribute [local go_sem] Oper.semAt_some

set_option maxHeartbeats 400000 in
theorem words_big (n : Nat) (seed : Int) (W : World) (hn : n ≤ 100000) :
    Calls Try.prog 25 #[.int .i64 (n : Int), .int .u64 seed] W fun e W' => ∃ v l, e = .returned v ∧ W'.ownsRow W.heap.size 28 1 v n (uv l) ∧ l.length = n ∧ W64 l ∧ Below W.heap.size W W' := by
  obtain ⟨i0, hi0, hz0, hz1, hz2⟩ := info_parts u64_info
  go_enter Try.func25, Try.ntmps25
  go_wp2_with fail
  go_loopw [5, 6] (fun v i wr => ∃ (k : Nat) (l : List Nat), k ≤ n ∧ i = .int .i64 k ∧ wr.ownsRow W.heap.size 28 1 v k (uv l) ∧ l.length = k ∧ W64 l ∧ Below W.heap.size W wr) (fun _ i _ => n - (intOf i).toNat)
  case atStart => exact ⟨0, [], Nat.zero_le _, rfl, World.ownsRow_nil _ _ _ _, rfl, (fun x hx => absurd hx (by simp)), Below.refl _ _⟩
  case round =>
    obtain ⟨k, l, hk, rfl, hown, hl, hw, hb⟩ := hrel
    obtain ⟨A1, c1, rfl⟩ := own_form hown
    have HL := Lib.hid hl
    have HO := Lib.hid hown
    clear hl hown
    by_cases hlt : k < n
    · go_wp2_with (at_builtin; refine wpList_append_reads _ (by rfl) _ _ _ (by rfl) W.heap.size 28 i0 _ 1 8 Try.underlying25 hi0 hz0 hz1 hz2 (by rfl) (by omega) (.slice A1 k c1) k (uv l) (by rfl) (HO.out.alloc _) (some ⟨wr.heap.size, 0, none⟩) 1 1 _ (by rfl) (by rfl) (Reads.new _ _ _) (by simp [Value.oneCell']) (by simp only [maxLen]; omega) (by omega) (by have := hb.size; simp; omega) ?_; intro v1 w6 hown6 hg6 hat6; have hbb := app_below HO.out hg6 hb.size)
      obtain ⟨y, ey, hy⟩ := any_u64 (seed + IntKind.u64.wrap ((k : Int) * 11400714819323198485))
      rw [ey] at hown6
      have hl1 : (l ++ [y]).length = k + 1 := by rw [List.length_append, HL.out]; rfl
      have ho : w6.ownsRow W.heap.size 28 1 v1 (k + 1) (uv (l ++ [y])) := by rw [uv_append]; exact hown6
      have hw' : W64 (l ++ [y]) := by
        intro x hx
        rcases List.mem_append.1 hx with hx | hx
        · exact hw x hx
        · rw [List.mem_singleton.1 hx]; exact hy
      go_roundw
      case rel => exact ⟨k + 1, l ++ [y], by omega, by go_num, ho, hl1, hw', hb.trans hbb⟩
      case measure => simp [intOf]; omega
    · have hkn : k = n := by omega
      have ho : wr.ownsRow W.heap.size 28 1 (.slice A1 k c1) n (uv l) := by rw [← hkn]; exact HO.out
      have hl1 : l.length = n := by rw [HL.out, hkn]
      have HO1 := Lib.hid ho
      have HL1 := Lib.hid hl1
      clear ho hl1 hkn
      go_wp2_with fail
      go_ret
      exact ⟨_, l, rfl, HO1.out, HL1.out, hw, hb⟩

set_option maxRecDepth 100000 in
set_option maxHeartbeats 2000000 in
theorem rformat_fr (W : World) (base b n c k : Nat) (chunk : Int) (l : List Nat) (hO : W.ownsRow base 28 1 (.slice (some ⟨b, 0, none⟩) n c) n (uv l)) (hn : l.length = n) (hk : 1 ≤ k ∧ k ≤ 1024) (hkn : k + 1 ≤ n) (hn2 : n ≤ 65536) (hc : 1 ≤ chunk ∧ chunk ≤ 64) :
    Calls Try.prog 27 #[.slice (some ⟨b, 0, none⟩) n c, .int .i64 (k : Int), .int .i64 chunk] W fun e w' => e = .returned (.int .i64 0) ∧ w'.ownsRow base 28 1 (.slice (some ⟨b, 0, none⟩) n c) n (uv (setZ (l.set 0 (hdI k chunk 0 false)) k)) ∧ Fr (fun j => j = b) W w' := by
  have hm : mSize (k : Int) = (k : Int) + 1 := by unfold mSize; rw [if_neg (by omega)]
  have t0 : ¬ (k : Int) < 1 := by omega
  have t1 : ¬ 1024 < (k : Int) := by omega
  have t2 : ¬ chunk < 1 := by omega
  have t3 : ¬ 64 < chunk := by omega
  have t4 : ¬ (n : Int) < (k : Int) + 1 := by omega
  have HN := Lib.hid hn
  have HO := Lib.hid hO
  clear hn hO
  go_enter Try.func27, Try.ntmps27
  go_wp2_with fail
  refine (rsize_any (k : Int) W).mono ?_
  rintro e w' ⟨rfl, rfl⟩
  rw [hm]
  go_wp2_with fail
  refine (rhead_any k chunk 0 false W).mono ?_
  rintro e w1 ⟨rfl, hb1⟩
  have hO1 := own_keepB HO.out hb1
  generalize hhv : hdI k chunk 0 false = hv at *
  have HHV := Lib.hid hhv
  clear hhv
  have f0 := hO1.frozenAt 0
  have c0 := hO1.cellAt 0 (by omega)
  rw [uv_at _ _ (by rw [HN.out]; omega)] at c0
  have hst := (hO1.stored 0 (.int .u64 (hv : Int))).1
  rw [uv_set] at hst
  have HST := Lib.hid hst
  have hbs : Fr (fun j => j = b) W (w1.setCell ⟨b, 0, none⟩ (.int .u64 (hv : Int))) := Fr.set (G := fun j => j = b) (Fr.of_below hb1) (.inl rfl) _
  generalize (l[0]?.getD 0) = x0 at c0
  clear hst hO1 HO
  go_wp2_with fail
  generalize (w1.setCell _ _) = V at HST hbs ⊢
  clear c0 f0 hb1
  have HL0 : Hid ((l.set 0 hv).length = n) := by show _ = _; rw [List.length_set, HN.out]
  generalize hl0 : l.set 0 hv = l0 at *
  have HLL := Lib.hid hl0
  clear hl0
  go_loopw [7] (fun x wr => ∃ j : Nat, j ≤ k ∧ x = .int .i64 j ∧ wr.ownsRow base 28 1 (.slice (some ⟨b, 0, none⟩) n c) n (uv (setZ l0 j)) ∧ Fr (fun j => j = b) W wr) (fun x _ => k - (intOf x).toNat)
  case atStart => exact ⟨0, by omega, rfl, HST.out, hbs⟩
  case round =>
    obtain ⟨j, hj, rfl, hown, hbr⟩ := hrel
    by_cases hlt : j < k
    · have f1 := hown.frozenAt (1 + j)
      have c1 := hown.cellAt (1 + j) (by omega)
      rw [uv_at _ _ (by rw [setZ_length, HL0.out]; omega)] at c1
      have hst := (hown.stored (1 + j) (.int .u64 (0 : Int))).1
      rw [show (Value.int IntKind.u64 0) = .int .u64 ((0 : Nat) : Int) from rfl, uv_set] at hst
      have HST2 : Hid ((wr.setCell ⟨b, 1 + j, none⟩ (.int .u64 0)).ownsRow base 28 1 (.slice (some ⟨b, 0, none⟩) n c) n (uv (setZ l0 (j + 1)))) := hst
      have hb3 := hbr.set (b := b) (i := 1 + j) (.inl rfl) (.int .u64 (0 : Int))
      have e2 : IntKind.i64.wrap (1 + (j : Int)) = ((1 + j : Nat) : Int) := by rw [IntWalk.i64_in _ (by omega)]; omega
      have e3 : ((1 + j : Nat) : Int) < (n : Int) := by omega
      generalize ((setZ l0 j)[1 + j]?.getD 0) = x1 at c1
      clear hst hown
      go_wp2_with fail
      go_roundw
      case rel => exact ⟨j + 1, by omega, by go_num, HST2.out, hb3⟩
      case measure => simp [intOf]; omega
    · have hjk : j = k := by omega
      subst hjk
      have HO2 := Lib.hid hown
      clear hown
      go_wp2_with fail
      go_ret
      exact ⟨rfl, by rw [HHV.out, HLL.out]; exact HO2.out, hbr⟩


set_option maxRecDepth 100000 in
set_option maxHeartbeats 4000000 in
theorem formats_any (A : Option Addr) (c n : Nat) (ls : List Int) (slots chunk size : Int) (W : World) (hn : ls.length = n) (hA : Reads W A (iv ls)) (hw : I64 ls) (hc : n ≤ c) (hsz : -9223372036854775808 ≤ size ∧ size ≤ 9223372036854775807) :
    Calls Try.prog 4 #[.int .i64 slots, .int .i64 chunk, .int .i64 size, .slice A n c] W fun e W' => e = .returned (.bool true) ∧ Below W.heap.size W W' := by
  go_enter Try.func4, Try.ntmps4
  go_wp2_with fail
  refine (new_any A n c ls W hn hA hw hc).mono ?_
  rintro e W1 ⟨rfl, hs1, hb1, hsz1⟩
  go_wp2_with fail
  refine (lslot_any W1 W.heap.size hs1).mono ?_
  rintro e W2 ⟨s, rfl, hst, hbl, hbl2, hs2, hg2⟩
  have hB2 : Below W.heap.size W W2 := gb_Below hb1 hg2 hb1.size (Nat.le_refl _)
  have HB2 := Lib.hid hB2
  clear hB2 hs2 hg2 hb1 hs1
  have hmw := mword_any s
  have hrw := rword_any s
  obtain ⟨v, d, b, st⟩ := s
  obtain rfl : st = 0 := hst
  generalize (Sl.mk v d b 0).word = wd at *
  unfold Sl.v at *
  go_upto_region 2 with (fail)
  have hb3 : Below W2.heap.size W2 (W2.alloc (.cells #[.bool v, .bool d, .int .i64 b, .int .i64 0] 50)) := (Below.refl _ _).alloc (Nat.le_refl _) _
  have hCs := Cs.new W2 50 #[.bool v, .bool d, .int .i64 b, .int .i64 0]
  have HB3 := Lib.hid (HB2.out.trans (hb3.mono HB2.out.size))
  have hs0 : W2.heap.size < (W2.alloc (.cells #[.bool v, .bool d, .int .i64 b, .int .i64 0] 50)).heap.size := hCs.lt
  generalize (W2.alloc (.cells #[.bool v, .bool d, .int .i64 b, .int .i64 0] 50)) = W3 at *
  generalize W2.heap.size = s0 at *
  have k0 : W3.cell? ⟨s0, 0, none⟩ = some (.bool v) := hCs.cell 0
  have k1 : W3.cell? ⟨s0, 1, none⟩ = some (.bool d) := hCs.cell 1
  have k2 : W3.cell? ⟨s0, 2, none⟩ = some (.int .i64 b) := hCs.cell 2
  have k3 : W3.cell? ⟨s0, 3, none⟩ = some (.int .i64 0) := hCs.cell 3
  go_cut [42] (fun s42 wx => s42 = .bool false ∧ Below W.heap.size W wx)
  case first =>
    by_cases q1 : 0 ≤ b
    · by_cases q2 : b ≤ 16777215
      · have kk : W3.drew.cell? ⟨s0, 0, none⟩ = some (.bool v) ∧ W3.drew.cell? ⟨s0, 1, none⟩ = some (.bool d) ∧ W3.drew.cell? ⟨s0, 2, none⟩ = some (.int .i64 b) ∧ W3.drew.cell? ⟨s0, 3, none⟩ = some (.int .i64 0) := ⟨k0, k1, k2, k3⟩
        have hs0d : s0 < W3.drew.heap.size := hs0
        go_region_held3 (fun w' => w'.cell? ⟨s0, 0, none⟩ = some (.bool v) ∧ w'.cell? ⟨s0, 1, none⟩ = some (.bool d) ∧ w'.cell? ⟨s0, 2, none⟩ = some (.int .i64 b) ∧ w'.cell? ⟨s0, 3, none⟩ = some (.int .i64 0))
          (first | with_reducible exact kk | with_reducible exact z2 | with_reducible exact z1)
          (first
            | (go_at_call 21; refine (msize_any slots W3.drew).mono ?_; rintro e w' ⟨rfl, rfl⟩)
            | (go_at_call 22; refine (rsize_any slots W3.drew).mono ?_; rintro e w' ⟨rfl, rfl⟩)
            | (go_at_call 23; refine (hmw W3.drew).mono ?_; rintro e w4 ⟨rfl, hb4⟩; have hs4 : s0 < w4.heap.size := Nat.lt_of_lt_of_le hs0d hb4.size; have z1 : w4.cell? ⟨s0, 0, none⟩ = some (.bool v) ∧ w4.cell? ⟨s0, 1, none⟩ = some (.bool d) ∧ w4.cell? ⟨s0, 2, none⟩ = some (.int .i64 b) ∧ w4.cell? ⟨s0, 3, none⟩ = some (.int .i64 0) := ⟨(hb4.cell hs0d).trans k0, (hb4.cell hs0d).trans k1, (hb4.cell hs0d).trans k2, (hb4.cell hs0d).trans k3⟩)
            | (go_at_call 24; refine (hrw w4).mono ?_; rintro e w5 ⟨rfl, hb5⟩; have z2 : w5.cell? ⟨s0, 0, none⟩ = some (.bool v) ∧ w5.cell? ⟨s0, 1, none⟩ = some (.bool d) ∧ w5.cell? ⟨s0, 2, none⟩ = some (.int .i64 b) ∧ w5.cell? ⟨s0, 3, none⟩ = some (.int .i64 0) := ⟨(hb5.cell hs4).trans z1.1, (hb5.cell hs4).trans z1.2.1, (hb5.cell hs4).trans z1.2.2.1, (hb5.cell hs4).trans z1.2.2.2⟩))
        go_wp2_with fail
        go_meet
        case rel => exact ⟨by simp, HB3.out.drew.trans ((hb4.mono HB3.out.size).trans (hb5.mono (Nat.le_trans HB3.out.size hb4.size)))⟩
      · go_quiet ((first | (go_at_call 21; exact Calls.quiet_of_same ((msize_any _ _).mono fun _ _ h => ⟨h.1, h.2.symm⟩)) | (go_at_call 22; exact Calls.quiet_of_same ((rsize_any _ _).mono fun _ _ h => ⟨h.1, h.2.symm⟩))))
        go_wp2_with fail
        go_meet
        case rel => exact ⟨by simp, below_drewN HB3.out _⟩
    · go_quiet ((first | (go_at_call 21; exact Calls.quiet_of_same ((msize_any _ _).mono fun _ _ h => ⟨h.1, h.2.symm⟩)) | (go_at_call 22; exact Calls.quiet_of_same ((rsize_any _ _).mono fun _ _ h => ⟨h.1, h.2.symm⟩))))
      go_wp2_with fail
      go_meet
      case rel => exact ⟨by simp, below_drewN HB3.out _⟩
  case rest =>
    obtain ⟨rfl, hbx⟩ := hcut
    have HBX := Lib.hid hbx
    clear hbx HB3 HB2 hmw hrw k0 k1 k2 k3 hCs hb3 hs0
    have t1 := Int.tmod_lt_of_pos size (b := (1100 : Int)) (by omega)
    have t2 : -(1100 : Int) < size.tmod 1100 := Int.lt_tmod_of_pos size (by omega)
    generalize hT : size.tmod (1100 : Int) = T at *
    have e1 : IntKind.i64.wrap (T + 1100) = T + 1100 := IntWalk.i64_in _ (by omega)
    obtain ⟨N, hN⟩ : ∃ N : Nat, (T + 1100).tmod 1100 = (N : Int) := ⟨((T + 1100).tmod 1100).toNat, by have := Int.tmod_nonneg 1100 (a := T + 1100) (by omega); omega⟩
    have hNl : (N : Int) < 1100 := by rw [← hN]; exact Int.tmod_lt_of_pos _ (by omega)
    obtain ⟨M, hM⟩ : ∃ M : Nat, M = 1 + N := ⟨_, rfl⟩
    have e2 : IntKind.i64.wrap (1 + (N : Int)) = (M : Int) := by rw [IntWalk.i64_in _ (by omega)]; omega
    have hM1 : 1 ≤ M ∧ M ≤ 1100 := by omega
    clear hM
    go_wp2_with fail
    refine (words_big M 9 wc (by omega)).mono ?_
    rintro e W4 ⟨v4, l, rfl, hown, hl, hlw, hb4⟩
    obtain ⟨br, cr, rfl, hbr, hbrl⟩ := hown.form (by omega)
    have HO := Lib.hid hown
    have HB4 := Lib.hid (HBX.out.trans (hb4.mono HBX.out.size))
    have HBX2 := HBX.out.size
    clear hown hb4 e1 e2 hT
    go_wp2_with fail
    refine (device_any W4 (some ⟨br, 0, none⟩) M cr l (Reads.of_own HO.out) hl (by omega) (by omega) hlw).mono ?_
    rintro e W5 ⟨F, g, sp, rfl, hdev, hb5⟩
    rw [one_full] at hdev
    rw [hl] at hdev
    have HDV := Lib.hid hdev
    have HO5 := Lib.hid (own_keepB HO.out hb5)
    have HB5 := Lib.hid (HB4.out.trans (hb5.mono HB4.out.size))
    have hW4 : W.heap.size ≤ W4.heap.size := HB4.out.size
    have hW45 : W4.heap.size ≤ W5.heap.size := hb5.size
    clear hdev hb5 HO HB4 HBX
    unfold spanV
    by_cases hE : fmtE slots chunk M = 0
    · have hq : ¬ (mSize slots = 0 ∨ chunk < 1 ∨ 64 < chunk) := by
        intro h
        unfold fmtE at hE
        rw [if_pos h] at hE
        omega
      have hq2 : ¬ (M : Int) < mSize slots := by
        intro h
        unfold fmtE at hE
        rw [if_neg hq, if_pos h] at hE
        omega
      have hs1 : 1 ≤ slots ∧ slots ≤ 1024 := by
        by_cases hh : slots < 1 ∨ 1024 < slots
        · exact absurd (Or.inl (by unfold mSize; rw [if_pos hh])) hq
        · omega
      obtain ⟨k, rfl⟩ : ∃ k : Nat, slots = (k : Int) := ⟨slots.toNat, by omega⟩
      have hms : mSize (k : Int) = (k : Int) + 1 := by unfold mSize; rw [if_neg (by omega)]
      rw [hms] at hq2
      have hkM : k + 1 ≤ M := by omega
      have hch : 1 ≤ chunk ∧ chunk ≤ 64 := by omega
      go_wp2_with fail
      refine (format_ok W5 F g sp M k chunk l l [] 0 HDV.out.1 HDV.out.2.1 HDV.out.2.2.1 (Syn.refl _) hl (by omega) (by omega) hkM hch (by simp) (by omega)).mono ?_
      rintro e W5' ⟨rfl, F', hd5, ht5⟩
      have HO5' := Lib.hid (own_fr HO5.out ht5.1 (fun b' hb' => by
        have : br = b' := by simpa [Value.ownBlock] using hb'
        rw [← this]
        exact fun hf => by have := HDV.out.2.2.2.1 br hf; omega))
      have hF' : ¬ F' br := ht5.out (Nat.lt_of_lt_of_le hbrl hW45) (fun hf => by have := HDV.out.2.2.2.1 br hf; omega)
      have hB5' : Below W.heap.size W W5' := HB5.out.trans (ht5.1.below HB5.out.size (fun j hj => Nat.le_trans hW4 (HDV.out.2.2.2.1 j hj)))
      go_wp2_with fail
      refine (rformat_fr W5' wc.heap.size br M cr k chunk l HO5'.out hl (by omega) hkM (by omega) hch).mono ?_
      rintro e W5x ⟨rfl, ho5x, hfx⟩
      rw [← fmtW_eq] at ho5x
      have HOX := Lib.hid ho5x
      have hdx := hd5.fr hfx (fun j hj e => hF' (e ▸ hj))
      have hBX : Below W.heap.size W W5x := hB5'.trans (hfx.below hB5'.size (fun j hj => by have hj' : j = br := hj; omega))
      have HBY := Lib.hid hBX
      have hlf := fmtW_len l k chunk
      rw [hl] at hlf
      generalize fmtW l k chunk = lf at *
      clear ho5x hfx hd5 ht5 hF' hB5' HO5' HO5 HB5
      go_wp2_with fail
      refine (image_any W5x F' g 0 _ hdx (by show 0 < 1; omega)).mono ?_
      rintro e W6 ⟨v6, rfl, ho6, hb6⟩
      change W6.ownsRow W5x.heap.size 28 1 v6 lf.length (uv lf) at ho6
      rw [hlf] at ho6
      obtain ⟨A6, c6, hv6⟩ := own_form ho6
      subst hv6
      have R6 := Lib.hid (Reads.of_own ho6)
      have RW := Lib.hid (Reads.of_own (own_keepB HOX.out hb6))
      have HB6 := Lib.hid (HBY.out.trans (hb6.mono HBY.out.size))
      have HD6 := Lib.hid (hdx.keep hb6)
      clear ho6 hb6
      go_wp2_with fail
      refine (same_any' A6 (some ⟨br, 0, none⟩) c6 cr M M lf lf W6 hlf hlf R6.out RW.out (by omega) (by omega)).mono ?_
      rintro e W7 ⟨rfl, q7, rfl⟩
      rw [decide_eq_true (rfl : lf = lf)]
      go_wp2_with fail
      refine (unfl_any (W6.drewN q7) _ g _ (HD6.out.drewN q7)).mono ?_
      rintro e w' ⟨rfl, rfl⟩
      go_wp2_with fail
      refine (awake_any (W6.drewN q7)).mono ?_
      rintro e W8 ⟨rfl, hb8⟩
      go_wp2_with fail
      go_ret
      exact ⟨rfl, (below_drewN HB6.out q7).trans (hb8.mono HB6.out.size)⟩
    · go_wp2_with fail
      refine (format_no W5 g sp 0 M slots chunk HDV.out.2.1 hE).mono ?_
      rintro e w' ⟨rfl, rfl⟩
      go_wp2_with fail
      refine (rformat_no W5 (some ⟨br, 0, none⟩) M cr slots chunk hE).mono ?_
      rintro e w' ⟨rfl, rfl⟩
      go_wp2_with fail
      refine (image_any W5 F g 0 _ HDV.out.1 (by show 0 < 1; omega)).mono ?_
      rintro e W6 ⟨v6, rfl, ho6, hb6⟩
      change W6.ownsRow W5.heap.size 28 1 v6 l.length (uv l) at ho6
      rw [hl] at ho6
      obtain ⟨A6, c6, hv6⟩ := own_form ho6
      subst hv6
      have R6 := Lib.hid (Reads.of_own ho6)
      have RW := Lib.hid (Reads.of_own (own_keepB HO5.out hb6))
      have HB6 := Lib.hid (HB5.out.trans (hb6.mono HB5.out.size))
      have HD6 := Lib.hid (HDV.out.1.keep hb6)
      clear ho6 hb6
      go_wp2_with fail
      refine (same_any' A6 (some ⟨br, 0, none⟩) c6 cr M M l l W6 hl hl R6.out RW.out (by omega) (by omega)).mono ?_
      rintro e W7 ⟨rfl, q7, rfl⟩
      rw [decide_eq_true (rfl : l = l)]
      go_wp2_with fail
      refine (unfl_any (W6.drewN q7) _ g _ (HD6.out.drewN q7)).mono ?_
      rintro e w' ⟨rfl, rfl⟩
      go_wp2_with fail
      refine (awake_any (W6.drewN q7)).mono ?_
      rintro e W8 ⟨rfl, hb8⟩
      go_wp2_with fail
      go_ret
      exact ⟨rfl, (below_drewN HB6.out q7).trans (hb8.mono HB6.out.size)⟩

end Go.Proofs.Ytpiffapnbjnjiaa
