/-
  cachemeta.Open.
-/
import Derived.Test.YtpiffapnbjnjiaaMetaV
namespace Go.Proofs.Ytpiffapnbjnjiaa
set_option linter.unusedVariables false
open Go.RowKit
attribute [local go_sem] Oper.semAt_some

/-- Where a cache's words are kept in memory. -/
def MetaAt (W : World) (base m sp : Nat) (ss : List Sl) (chunk mode : Int) (op : Bool) : Prop :=
  ∃ A c, Cs W m 89 #[spanV sp, .slice A ss.length c, .int .i64 chunk, .int .i64 mode, .bool op] ∧ W.ownsRow base 50 4 (.slice A ss.length c) ss.length (scs ss)

def OpenP (W : World) (F : Nat → Prop) (g sp : Nat) (now : List Nat) (wr : Int) (e : Ending) (W' : World) : Prop :=
  ∃ F', DskAt W' F' g (one now now [] 0 false wr) ∧ Turn F F' W W' ∧
    ((openE now ≠ 0 ∧ e = .returned (.tuple #[.pointer none, .int .i64 (openE now)])) ∨
     (openE now = 0 ∧ ∃ m base, e = .returned (.tuple #[.pointer (some ⟨m, 0, none⟩), .int .i64 0]) ∧ W.heap.size ≤ m ∧ m < base ∧ (∀ j, F' j → j < m) ∧
      MetaAt W' base m sp (slotsU now ((now[0]?.getD 0) % 2048)) (((now[0]?.getD 0) / 2048 % 128 : Nat) : Int) (((now[0]?.getD 0) / 262144 % 4 : Nat) : Int) (decide ((now[0]?.getD 0) / 1048576 % 2 = 1))))

set_option maxRecDepth 100000 in
set_option maxHeartbeats 8000000 in
theorem open_any (W : World) (F : Nat → Prop) (g sp n : Nat) (now dur : List Nat) (log : List (Nat × Nat × Nat)) (wr : Int) (h : DskAt W F g (one now dur log 0 false wr)) (hs : SpanAt W sp g 0 n) (hsp : ¬ F sp)
    (hy : Syn now dur log) (hn : now.length = n) (h1 : 1 ≤ n) (hn2 : n ≤ 65536) (hw : W64 now) (hlog : log.length < 1000000) :
    Calls Try.prog 12 #[spanV sp] W (OpenP W F g sp now wr) := by
  have HN := Lib.hid hn
  have HW64 := Lib.hid hw
  obtain ⟨is, his, hz0, hz1, hz2⟩ := info_parts slot_info
  unfold spanV
  have HFL := Lib.hid (one_flush_syn hy 0 wr)
  have HCF := Lib.hid (one_chkF now dur log 0 wr)
  go_enter Try.func12, Try.ntmps12
  go_wp2_with fail
  rw [m_flush]
  go_wp2_with fail
  refine (sflush_any W F g sp 0 n _ h hs hsp (by show log.length ≤ _; omega)).mono ?_
  rintro e w1 ⟨rfl, F1, hd1, ht1⟩
  rw [show ((0 : Nat) : Int) = 0 from rfl] at *
  rw [HFL.out] at hd1
  rw [HCF.out]
  have HD1 := Lib.hid hd1
  have HS1 : Hid (SpanAt w1 sp g 0 n) := Cs.fr hs ht1.1 hsp
  have hsp1 := ht1.out (Cs.lt hs) hsp
  have HT1 := Lib.hid ht1
  clear hd1 ht1 HFL HCF h hs hy hn hw
  go_wp2_with fail
  rw [m_read]
  go_wp2_with fail
  refine (sread_any w1 F1 g sp 0 n _ 0 HD1.out HS1.out hn2).mono ?_
  rintro e w2 ⟨rfl, hb2⟩
  have hsE := one_sE now now [] 0 wr 0 (by rw [HN.out]; omega)
  have hsR := one_sread now now [] 0 wr 0 (by rw [HN.out]; omega)
  rw [HN.out] at hsE hsR
  rw [hsE, hsR, show (0 : Int).toNat = 0 from rfl]
  have hB0 := hb2
  have HE : Hid (openE now = if hform (now[0]?.getD 0) = false then 2 else if hbad (now[0]?.getD 0) n = true then 24 else if allOk now ((now[0]?.getD 0) % 2048) = false then 24 else 0) := by show _ = _; rw [← HN.out]; rfl
  have hw0 : now[0]?.getD 0 < 18446744073709551616 := HW64.out.at 0
  clear hsE hsR
  generalize hwq : now[0]?.getD 0 = w at *
  have HWQ := Lib.hid hwq
  clear hwq
  go_wp2_with fail
  refine (widths_any 0 (by omega) _).mono ?_
  rintro e w3 ⟨gw, rfl, hr3, hb3⟩
  rw [show wOf 0 = wHead from rfl] at hr3 ⊢
  rw [show wHead.length = 6 from rfl]
  have HR3 := Lib.hid hr3
  have HB3 := Lib.hid (hB0.trans (hb3.mono hB0.size))
  clear hr3 hb3 hb2 hB0
  go_wp2_with fail
  refine (split_all w (some ⟨gw, 0, none⟩) 6 6 wHead w3 rfl HR3.out (by omega) hw0).mono ?_
  rintro e w4 ⟨B, d, rfl, hr4, hb4⟩
  rw [split_hd] at hr4 ⊢
  rw [show splitE wHead = 0 from rfl]
  have HB4 := Lib.hid (HB3.out.trans (hb4.mono HB3.out.size))
  have hgr := HR3.out.keep hb4
  have g0 := reads_cell _ _ _ hgr 0 (by decide)
  have g1 := reads_cell _ _ _ hgr 1 (by decide)
  have g2 := reads_cell _ _ _ hgr 2 (by decide)
  have g3 := reads_cell _ _ _ hgr 3 (by decide)
  have g4 := reads_cell _ _ _ hgr 4 (by decide)
  simp only [wHead, List.getElem?_cons_zero, List.getElem?_cons_succ, Option.getD_some] at g0 g1 g2 g3 g4
  obtain ⟨b, off, rfl, hbl, hc⟩ := hr4.u (by simp)
  have c0 := hc 0 (by simp)
  have c1 := hc 1 (by simp)
  have c2 := hc 2 (by simp)
  have c3 := hc 3 (by simp)
  have c4 := hc 4 (by simp)
  have c5 := hc 5 (by simp)
  simp only [List.getElem?_cons_zero, List.getElem?_cons_succ, Option.getD_some, Nat.add_zero] at c0 c1 c2 c3 c4 c5
  simp only [List.length_cons, List.length_nil, Nat.zero_add, Nat.reduceAdd]
  have HR4 := Lib.hid hr4
  clear hgr hr4 hb4 hc HR3 HB3
  have hcb := clr21_bits w hw0
  go_wp2_with fail
  refine wp_loop_rounds 5 ?_
  iterate 5
    rw [rounds_succ]
    go_wp2_with fail
  have HE2 : Hid (hform w = decide (w / 137438953472 % 65536 = 17219 ∧ w / 2097152 % 65536 = sumW (clr w 21))) := rfl
  have hcl : clr w 21 < 18446744073709551616 := Nat.lt_of_le_of_lt (clr_le w 21) hw0
  have hS := Lib.hid (fun hh => seal_eq w hw0 hh)
  have htg : w / 137438953472 % 65536 < 65536 := Nat.mod_lt _ (by omega)
  have hsgl : w / 2097152 % 65536 < 65536 := Nat.mod_lt _ (by omega)
  generalize w / 137438953472 % 65536 = tg at *
  generalize w / 2097152 % 65536 = sg at *
  go_cut [83] (fun s83 wx => s83 = .bool (!hform w) ∧ Below w1.heap.size w1 wx ∧ Below w4.heap.size w4 wx)
  case first =>
    generalize clr w 21 = cl at *
    by_cases q1 : tg = 17219
    · subst q1
      have t1 : (((17219 : Nat) : Int) != 17219) = false := by decide
      have HRA := Lib.hid (Reads.new w4.drew #[.int .u64 (cl : Int)] 28)
      have hbA : Below w4.heap.size w4 (w4.alloc (.cells #[.int .u64 (cl : Int)] 28)).drew := ((Below.refl _ w4).alloc (Nat.le_refl _) _).drew
      have y4 := (hbA.cell (p := ⟨b, off + 4, none⟩) hbl).trans c4
      have y5 := (hbA.cell (p := ⟨b, off + 5, none⟩) hbl).trans c5
      have hext := extendC_lt 0 [cl]
      have HSW : Hid (sumW cl = shortC (extendC 0 [cl])) := rfl
      have hsl := sumW_lt cl
      go_region_held3 (fun w' => w'.cell? ⟨b, off + 4, none⟩ = some (.int .u64 (sg : Int)) ∧ w'.cell? ⟨b, off + 5, none⟩ = some (.int .u64 ((17219 : Nat) : Int))) (first | exact z | exact ⟨y4, y5⟩ | exact ⟨c4, c5⟩)
        (first
          | (go_at_call 47; refine (words_sum (some ⟨w4.heap.size, 0, none⟩) 1 1 [cl] _ rfl HRA.out (by intro y hy; simp at hy; omega) (by omega)).mono ?_; rintro e w5 ⟨rfl, hb5⟩; have z : w5.cell? ⟨b, off + 4, none⟩ = some (.int .u64 (sg : Int)) ∧ w5.cell? ⟨b, off + 5, none⟩ = some (.int .u64 ((17219 : Nat) : Int)) := ⟨(hb5.cell (p := ⟨b, off + 4, none⟩) (Nat.lt_of_lt_of_le hbl hbA.size)).trans y4, (hb5.cell (p := ⟨b, off + 5, none⟩) (Nat.lt_of_lt_of_le hbl hbA.size)).trans y5⟩)
          | (go_at_call 46; refine (short_any (extendC 0 [cl]) _ hext).mono ?_; rintro e w6 ⟨rfl, rfl⟩; rw [← HSW.out]))
      have hb6 := hbA.trans (hb5.mono hbA.size)
      have hb16 := HB4.out.trans (hb6.mono HB4.out.size)
      have e3 : IntKind.u64.wrap (sumW cl : Int) = (sumW cl : Int) := by rw [wrap_nat, Nat.mod_eq_of_lt (by omega)]
      by_cases q2 : sg = sumW cl
      · have t2 : ((sg : Int) != (sumW cl : Int)) = false := by rw [q2]; simp
        go_wp2_with fail
        go_meet
        case rel => exact ⟨by rw [HE2.out, e3, t2]; simp [q2], hb16, hb6⟩
      · have t2 : ((sg : Int) != (sumW cl : Int)) = true := by simp; omega
        go_wp2_with fail
        go_meet
        case rel => exact ⟨by rw [HE2.out, e3, t2]; simp [q2], hb16, hb6⟩
    · have t1 : ((tg : Int) != 17219) = true := by simp; omega
      refine wp_region_mix 15 15 (by kernel_rfl) (by decide +kernel) (fun w' => w'.cell? ⟨b, off + 5, none⟩ = some (.int .u64 (tg : Int))) c5 ?_
      simp only [List.take_succ_cons, List.take_zero, List.drop_succ_cons, List.drop_zero]
      iterate 5
        refine ⟨?_, Or.inl ⟨by rfl, fun W' hS' => ?_⟩, fun _ _ _ h => h, ?_⟩
        rotate_left
        · go_simp
          with_reducible rfl
        simp only [Act.put, List.setIfInBounds_toArray, List.set_cons_zero, List.set_cons_succ]
      iterate 10
        refine ⟨_, Or.inr ⟨by rfl, rfl⟩, fun _ _ _ h => h, ?_⟩
        simp only [Act.put, List.setIfInBounds_toArray, List.set_cons_zero, List.set_cons_succ]
      show wpSeqT _ _ _ _ _ _ _ _ _
      refine wpSeqT_list _ _ _ _ (by omega) ?_
      go_wp2_with fail
      go_meet
      case rel => exact ⟨by rw [HE2.out]; simp [q1], HB4.out.drew, (Below.refl _ w4).drew⟩
  case rest =>
    obtain ⟨rfl, hx1, hx4⟩ := hcut
    have HBX := Lib.hid hx1
    have HRX := Lib.hid (HR4.out.keep hx4)
    replace c0 := (hx4.cell (p := ⟨b, off, none⟩) hbl).trans c0
    replace c1 := (hx4.cell (p := ⟨b, off + 1, none⟩) hbl).trans c1
    replace c2 := (hx4.cell (p := ⟨b, off + 2, none⟩) hbl).trans c2
    replace c3 := (hx4.cell (p := ⟨b, off + 3, none⟩) hbl).trans c3
    replace hbl := Nat.lt_of_lt_of_le hbl hx4.size
    clear c4 c5 g0 g1 g2 g3 g4 hx1 hx4 HR4 HB4 HE2 hcb hcl
    by_cases hf : hform w = true
    rotate_left
    · have hf2 : hform w = false := by simpa using hf
      rw [hf2]
      go_wp2_with fail
      go_ret2
      exact ⟨F1, HD1.out.keep HBX.out, HT1.out.trans (Turn.of_below HBX.out), .inl ⟨by rw [HE.out, if_pos hf2]; decide, by rw [HE.out, if_pos hf2]; rfl⟩⟩
    · rw [hf]
      have HSE := Lib.hid (hS.out hf)
      have HE3 : Hid (openE now = if hbad w n = true then 24 else if allOk now (w % 2048) = false then 24 else 0) := by show _ = _; rw [HE.out, if_neg (by simp [hf])]
      have HBD : Hid (hbad w n = decide (w / 9007199254740992 ≠ 0 ∨ w % 2048 < 1 ∨ 1024 < w % 2048 ∨ w / 2048 % 128 < 1 ∨ 64 < w / 2048 % 128 ∨ w / 262144 % 4 = 3 ∨ n < w % 2048 + 1)) := rfl
      have ha : w % 2048 < 2048 := Nat.mod_lt _ (by omega)
      have hb : w / 2048 % 128 < 128 := Nat.mod_lt _ (by omega)
      have hcc : w / 262144 % 4 < 4 := Nat.mod_lt _ (by omega)
      have hdd : w / 1048576 % 2 < 2 := Nat.mod_lt _ (by omega)
      clear HE hS hf
      generalize hsw : sealG 0 [w % 2048, w / 2048 % 128, w / 262144 % 4, w / 1048576 % 2, sg, tg] = sw at *
      have HSW := Lib.hid hsw
      have hwv : W64 [w % 2048, w / 2048 % 128, w / 262144 % 4, w / 1048576 % 2, sg, tg] := by
        intro x hx
        simp only [List.mem_cons, List.not_mem_nil, or_false] at hx
        omega
      have HW6 := Lib.hid hwv
      clear hwv hsw
      generalize hqA : w % 2048 = A at *
      generalize hqB : w / 2048 % 128 = Bc at *
      generalize hqM : w / 262144 % 4 = M at *
      generalize hqO : w / 1048576 % 2 = O at *
      generalize hqz : w / 9007199254740992 = z53 at *
      have HQ := Lib.hid (And.intro hqA (And.intro hqB (And.intro hqM hqO)))
      clear hqA hqB hqM hqO hqz
      have n0 : IntKind.i64.wrap (A : Int) = A := IntWalk.i64_in _ (by omega)
      have n1 : IntKind.i64.wrap (Bc : Int) = Bc := IntWalk.i64_in _ (by omega)
      have n2 : IntKind.i64.wrap (M : Int) = M := IntWalk.i64_in _ (by omega)
      go_upto_region 19 with (fail)
      go_cut [121] (fun s121 wx => s121 = .bool (hbad w n) ∧ Below w1.heap.size w1 wx ∧ Below wc.heap.size wc wx)
      case first =>
        by_cases q1 : z53 = 0
        rotate_left
        · have t1 : ((w : Int) != (sw : Int)) = true := by
            have : ¬ w = sw := fun e => q1 (HSE.out.1 e)
            simp; omega
          go_wp2_with (first | (go_at_call 48; refine (sealed_any 0 (by omega) (some ⟨b, off, none⟩) d 6 [A, Bc, M, O, sg, tg] _ HRX.out rfl rfl HW6.out).mono ?_; rintro e w5 ⟨rfl, hb5⟩; rw [HSW.out]))
          go_meet
          case rel => exact ⟨by rw [HBD.out, decide_eq_true (.inl q1)], HBX.out.trans (hb5.mono HBX.out.size), hb5⟩
        · have t1 : ((w : Int) != (sw : Int)) = false := by
            have : w = sw := HSE.out.2 q1
            simp; omega
          by_cases q2 : A < 1 ∨ 1024 < A
          · have HMS : Hid (mSize (A : Int) = 0) := by show _ = _; unfold mSize; rw [if_pos (by omega)]
            go_wp2_with (first | (go_at_call 48; refine (sealed_any 0 (by omega) (some ⟨b, off, none⟩) d 6 [A, Bc, M, O, sg, tg] _ HRX.out rfl rfl HW6.out).mono ?_; rintro e w5 ⟨rfl, hb5⟩; rw [HSW.out]; have c1 := (hb5.cell (p := ⟨b, off + 1, none⟩) hbl).trans c1; have c2 := (hb5.cell (p := ⟨b, off + 2, none⟩) hbl).trans c2) | (go_at_call 21; refine (msize_any (A : Int) _).mono ?_; rintro e w6 ⟨rfl, rfl⟩; rw [HMS.out]))
            go_meet
            case rel => exact ⟨by rw [HBD.out, decide_eq_true (by omega)], HBX.out.trans (hb5.mono HBX.out.size), hb5⟩
          · have HMS : Hid (mSize (A : Int) = (A : Int) + 1) := by show _ = _; unfold mSize; rw [if_neg (by omega)]
            have t2 : ((A : Int) + 1 == 0) = false := by simp; omega
            by_cases q3 : Bc < 1
            · have t3 : (Bc : Int) < 1 := by omega
              go_wp2_with (first | (go_at_call 48; refine (sealed_any 0 (by omega) (some ⟨b, off, none⟩) d 6 [A, Bc, M, O, sg, tg] _ HRX.out rfl rfl HW6.out).mono ?_; rintro e w5 ⟨rfl, hb5⟩; rw [HSW.out]; have c1 := (hb5.cell (p := ⟨b, off + 1, none⟩) hbl).trans c1; have c2 := (hb5.cell (p := ⟨b, off + 2, none⟩) hbl).trans c2) | (go_at_call 21; refine (msize_any (A : Int) _).mono ?_; rintro e w6 ⟨rfl, rfl⟩; rw [HMS.out]))
              go_meet
              case rel => exact ⟨by rw [HBD.out, decide_eq_true (by omega)], HBX.out.trans (hb5.mono HBX.out.size), hb5⟩
            · have t3 : ¬ (Bc : Int) < 1 := by omega
              by_cases q4 : 64 < Bc
              · have t4 : (64 : Int) < (Bc : Int) := by omega
                go_wp2_with (first | (go_at_call 48; refine (sealed_any 0 (by omega) (some ⟨b, off, none⟩) d 6 [A, Bc, M, O, sg, tg] _ HRX.out rfl rfl HW6.out).mono ?_; rintro e w5 ⟨rfl, hb5⟩; rw [HSW.out]; have c1 := (hb5.cell (p := ⟨b, off + 1, none⟩) hbl).trans c1; have c2 := (hb5.cell (p := ⟨b, off + 2, none⟩) hbl).trans c2) | (go_at_call 21; refine (msize_any (A : Int) _).mono ?_; rintro e w6 ⟨rfl, rfl⟩; rw [HMS.out]))
                go_meet
                case rel => exact ⟨by rw [HBD.out, decide_eq_true (by omega)], HBX.out.trans (hb5.mono HBX.out.size), hb5⟩
              · have t4 : ¬ (64 : Int) < (Bc : Int) := by omega
                by_cases q5 : M = 3
                · have t5 : ((M : Int) == 3) = true := by simp; omega
                  go_wp2_with (first | (go_at_call 48; refine (sealed_any 0 (by omega) (some ⟨b, off, none⟩) d 6 [A, Bc, M, O, sg, tg] _ HRX.out rfl rfl HW6.out).mono ?_; rintro e w5 ⟨rfl, hb5⟩; rw [HSW.out]; have c1 := (hb5.cell (p := ⟨b, off + 1, none⟩) hbl).trans c1; have c2 := (hb5.cell (p := ⟨b, off + 2, none⟩) hbl).trans c2) | (go_at_call 21; refine (msize_any (A : Int) _).mono ?_; rintro e w6 ⟨rfl, rfl⟩; rw [HMS.out]))
                  go_meet
                  case rel => exact ⟨by rw [HBD.out, decide_eq_true (by omega)], HBX.out.trans (hb5.mono HBX.out.size), hb5⟩
                · have t5 : ((M : Int) == 3) = false := by simp; omega
                  by_cases q6 : n < A + 1
                  · have t6 : (n : Int) < (A : Int) + 1 := by omega
                    go_wp2_with (first | (go_at_call 48; refine (sealed_any 0 (by omega) (some ⟨b, off, none⟩) d 6 [A, Bc, M, O, sg, tg] _ HRX.out rfl rfl HW6.out).mono ?_; rintro e w5 ⟨rfl, hb5⟩; rw [HSW.out]; have c1 := (hb5.cell (p := ⟨b, off + 1, none⟩) hbl).trans c1; have c2 := (hb5.cell (p := ⟨b, off + 2, none⟩) hbl).trans c2) | (go_at_call 21; refine (msize_any (A : Int) _).mono ?_; rintro e w6 ⟨rfl, rfl⟩; rw [HMS.out]))
                    rw [m_size]
                    go_wp2_with fail
                    refine (ssize_any w5 sp g 0 n (Cs.below (Cs.below HS1.out HBX.out (Cs.lt HS1.out)) hb5 (Cs.below HS1.out HBX.out (Cs.lt HS1.out)).lt)).mono ?_
                    rintro e w7 ⟨rfl, rfl⟩
                    go_wp2_with (go_at_call 21; refine (msize_any (A : Int) _).mono ?_; rintro e w6 ⟨rfl, rfl⟩; rw [HMS.out])
                    go_meet
                    case rel => exact ⟨by rw [HBD.out, decide_eq_true (by omega)], HBX.out.trans (hb5.mono HBX.out.size), hb5⟩
                  · have t6 : ¬ (n : Int) < (A : Int) + 1 := by omega
                    go_wp2_with (first | (go_at_call 48; refine (sealed_any 0 (by omega) (some ⟨b, off, none⟩) d 6 [A, Bc, M, O, sg, tg] _ HRX.out rfl rfl HW6.out).mono ?_; rintro e w5 ⟨rfl, hb5⟩; rw [HSW.out]; have c1 := (hb5.cell (p := ⟨b, off + 1, none⟩) hbl).trans c1; have c2 := (hb5.cell (p := ⟨b, off + 2, none⟩) hbl).trans c2) | (go_at_call 21; refine (msize_any (A : Int) _).mono ?_; rintro e w6 ⟨rfl, rfl⟩; rw [HMS.out]))
                    rw [m_size]
                    go_wp2_with fail
                    refine (ssize_any w5 sp g 0 n (Cs.below (Cs.below HS1.out HBX.out (Cs.lt HS1.out)) hb5 (Cs.below HS1.out HBX.out (Cs.lt HS1.out)).lt)).mono ?_
                    rintro e w7 ⟨rfl, rfl⟩
                    go_wp2_with (go_at_call 21; refine (msize_any (A : Int) _).mono ?_; rintro e w6 ⟨rfl, rfl⟩; rw [HMS.out])
                    go_meet
                    case rel => exact ⟨by rw [HBD.out]; congr 1; rw [Bool.eq_iff_iff]; simp; omega, HBX.out.trans (hb5.mono HBX.out.size), hb5⟩
      case rest =>
        obtain ⟨rfl, hx1, hx2⟩ := hcut
        have HBY := Lib.hid hx1
        replace c1 := (hx2.cell (p := ⟨b, off + 1, none⟩) hbl).trans c1
        replace c2 := (hx2.cell (p := ⟨b, off + 2, none⟩) hbl).trans c2
        replace c3 := (hx2.cell (p := ⟨b, off + 3, none⟩) hbl).trans c3
        replace hbl := Nat.lt_of_lt_of_le hbl hx2.size
        clear c0 hx1 hx2 HRX HBX HSW HSE HW6
        by_cases hbd : hbad w n = true
        · rw [hbd]
          go_wp2_with fail
          go_ret2
          exact ⟨F1, HD1.out.keep HBY.out, HT1.out.trans (Turn.of_below HBY.out), .inl ⟨by rw [HE3.out, if_pos hbd]; decide, by rw [HE3.out, if_pos hbd]; rfl⟩⟩
        · have hbd2 : hbad w n = false := by simpa using hbd
          rw [hbd2]
          have hq := HBD.out
          rw [hbd2] at hq
          have hq2 := of_decide_eq_false hq.symm
          have qA : 1 ≤ A ∧ A ≤ 1024 ∧ A + 1 ≤ n := by omega
          have HE4 : Hid (openE now = if allOk now A = false then 24 else 0) := by show _ = _; rw [HE3.out, if_neg hbd]
          clear hq hq2 hbd hbd2 HE3 HBD
          have hOb : ((O : Int) == 1) = decide (O = 1) := by
            rw [Bool.eq_iff_iff]; simp; omega
          have hmm := @run_makeMap Try.prog
          go_upto_region 21 with (fail)
          go_region
          have hC0 := Cs.new wc 89 #[.iface 126 (.pointer (some ⟨sp, 0, none⟩)), .slice none 0 0, .int .i64 (Bc : Int), .int .i64 (M : Int), .bool (decide (O = 1))]
          have hb0 : Below wc.heap.size wc (wc.alloc (.cells #[.iface 126 (.pointer (some ⟨sp, 0, none⟩)), .slice none 0 0, .int .i64 (Bc : Int), .int .i64 (M : Int), .bool (decide (O = 1))] 89)) := (Below.refl _ wc).alloc (Nat.le_refl _) _
          have hszm : (wc.alloc (.cells #[.iface 126 (.pointer (some ⟨sp, 0, none⟩)), .slice none 0 0, .int .i64 (Bc : Int), .int .i64 (M : Int), .bool (decide (O = 1))] 89)).heap.size = wc.heap.size + 1 := World.size_alloc _ _
          have hb10 := HBY.out.trans (hb0.mono HBY.out.size)
          have hw1m : w1.heap.size ≤ wc.heap.size := HBY.out.size
          generalize hgm : wc.heap.size = m at *
          generalize (wc.alloc (.cells #[.iface 126 (.pointer (some ⟨sp, 0, none⟩)), .slice none 0 0, .int .i64 (Bc : Int), .int .i64 (M : Int), .bool (decide (O = 1))] 89)) = V at *
          clear hb0 c1 c2 c3 hbl HBY hOb n0 n1 n2 hgm ha hb hcc hdd
          go_wp2_with fail
          have hC1 := Cs.alloc hC0 (.map #[] 0)
          have hSE := Seen.made V
          have hb11 := hb10.alloc hb10.size (.map #[] 0)
          have hszV : (V.alloc (.map #[] 0)).heap.size = m + 2 := by rw [World.size_alloc, hszm]
          rw [hszm] at *
          have hb12 := hb11.drew
          have hC2 : Cs (V.alloc (.map #[] 0)).drew m 89 #[.iface 126 (.pointer (some ⟨sp, 0, none⟩)), .slice none 0 0, .int .i64 (Bc : Int), .int .i64 (M : Int), .bool (decide (O = 1))] := hC1
          have hSE2 : Seen (V.alloc (.map #[] 0)).drew (m + 1) 0 [] := hSE
          have hszW : m + 2 ≤ (V.alloc (.map #[] 0)).drew.heap.size := Nat.le_of_eq hszV.symm
          clear hC1 hSE hb11 hC0 hb10 hszV
          go_loopw [139] (fun i wx => ∃ (k : Nat) (v : Value), k ≤ A ∧ i = .int .i64 k ∧ Cs wx m 89 #[.iface 126 (.pointer (some ⟨sp, 0, none⟩)), v, .int .i64 (Bc : Int), .int .i64 (M : Int), .bool (decide (O = 1))] ∧ wx.ownsRow (m + 2) 50 4 v k (scs (slotsU now k)) ∧ Seen wx (m + 1) k (seenB now k) ∧ allOk now k = true ∧ Below w1.heap.size w1 wx ∧ m + 2 ≤ wx.heap.size) (fun i _ => A - (intOf i).toNat)
          case atStart => exact ⟨0, _, Nat.zero_le _, rfl, hC2, World.ownsRow_nil _ _ _ _, hSE2, rfl, hb12, hszW⟩
          case round =>
            obtain ⟨k, v, hk, rfl, hC, hown, hse, hok, hb, hsz⟩ := hrel
            rename World => wx
            obtain ⟨A3, cA3, rfl⟩ := own_form hown
            have HCk := Lib.hid hC
            have HOk := Lib.hid hown
            have HSk := Lib.hid hse
            have HBk := Lib.hid hb
            clear hC hown hse hb hC2 hSE2 hb12 hszW
            by_cases hlt : k < A
            · have hsE := one_sE now now [] 0 wr (1 + (k : Int)) (by rw [HN.out]; omega)
              have hsR := one_sread now now [] 0 wr (1 + (k : Int)) (by rw [HN.out]; omega)
              rw [HN.out] at hsE hsR
              rw [show (1 + (k : Int)).toNat = 1 + k by omega] at hsR
              have HsE := Lib.hid hsE
              have HsR := Lib.hid hsR
              clear hsE hsR
              have e1 : IntKind.i64.wrap (1 + (k : Int)) = 1 + k := IntWalk.i64_in _ (by omega)
              go_wp2_with fail
              rw [m_read]
              go_wp2_with fail
              refine (sread_any wx F1 g sp 0 n _ (1 + (k : Int)) (HD1.out.keep HBk.out) (Cs.below HS1.out HBk.out (Cs.lt HS1.out)) hn2).mono ?_
              rintro e w5 ⟨rfl, hb5⟩
              rw [HsE.out, HsR.out]
              have hxl := HW64.out.at (1 + k)
              have HOKA : Hid (okAt now k = (slotOk (now[1 + k]?.getD 0) && !((slotS (now[1 + k]?.getD 0)).valid && decide ((slotS (now[1 + k]?.getD 0)).block ∈ seenB now k)))) := rfl
              have HSBS : Hid (seenB now (k + 1) = if (slotS (now[1 + k]?.getD 0)).valid = true then seenB now k ++ [(slotS (now[1 + k]?.getD 0)).block] else seenB now k) := rfl
              have HSUS := Lib.hid (slotsU_succ now k)
              have HBL := Lib.hid (slotS_block (now[1 + k]?.getD 0))
              generalize now[1 + k]?.getD 0 = x at *
              go_wp2_with fail
              refine (slot_any x w5 hxl).mono ?_
              rintro e w6 ⟨rfl, hb6⟩
              have hb56 := hb5.trans (hb6.mono hb5.size)
              have HC6 := Lib.hid (HCk.out.below hb56 HCk.out.lt)
              have HO6 := Lib.hid (own_keepB HOk.out hb56)
              have HS6 := Lib.hid (HSk.out.fr (G := fun _ => False) (Fr.of_below hb56) id)
              have HB6 := Lib.hid (HBk.out.trans (hb56.mono HBk.out.size))
              have hsz6 : m + 2 ≤ w6.heap.size := Nat.le_trans hsz hb56.size
              clear HCk HOk HSk HBk hb5 hb6 hb56 HsE HsR
              generalize slotS x = sl at *
              generalize slotOk x = sok at *
              obtain ⟨sv, sd, sb, sst⟩ := sl
              unfold Sl.v
              have hbl2 : 0 ≤ sb ∧ sb < 16777216 := HBL.out
              go_upto_region 30 with (fail)
              have hCs := Cs.new w6 50 #[.bool sv, .bool sd, .int .i64 sb, .int .i64 sst]
              have hb7 : Below w6.heap.size w6 (w6.alloc (.cells #[.bool sv, .bool sd, .int .i64 sb, .int .i64 sst] 50)) := (Below.refl _ _).alloc (Nat.le_refl _) _
              have hS7 := HS6.out.fr (G := fun _ => False) (Fr.of_below hb7) id
              have HC7 := Lib.hid (HC6.out.below hb7 HC6.out.lt)
              have HO7 := Lib.hid (own_keepB HO6.out hb7)
              have HB7 := Lib.hid (HB6.out.trans (hb7.mono HB6.out.size))
              have hsz7 : m + 2 ≤ (w6.alloc (.cells #[.bool sv, .bool sd, .int .i64 sb, .int .i64 sst] 50)).heap.size := Nat.le_trans hsz6 hb7.size
              have hob : ∀ b, (Value.slice A3 k cA3).ownBlock = some b → m + 2 ≤ b ∧ b < w6.heap.size := fun b hb => ⟨own_base HO6.out b hb, own_lt HO6.out b hb⟩
              have HOB := Lib.hid hob
              clear hob
              generalize (w6.alloc (.cells #[.bool sv, .bool sd, .int .i64 sb, .int .i64 sst] 50)) = w7 at *
              generalize w6.heap.size = s0 at *
              have k0 : w7.cell? ⟨s0, 0, none⟩ = some (.bool sv) := hCs.cell 0
              have k1 : w7.cell? ⟨s0, 1, none⟩ = some (.bool sd) := hCs.cell 1
              have k2 : w7.cell? ⟨s0, 2, none⟩ = some (.int .i64 sb) := hCs.cell 2
              have k3 : w7.cell? ⟨s0, 3, none⟩ = some (.int .i64 sst) := hCs.cell 3
              have HSN7 := Lib.hid hS7
              have hlk := hS7.look sb (by omega)
              have HOK2 : Hid (okAt now k = (sok && !(sv && decide (sb ∈ seenB now k)))) := by show _ = _; rw [HOKA.out]
              have hs7 : s0 < w7.heap.size := hCs.lt
              clear hCs hb7 hS7 HO6 HC6 HB6 HS6 HOKA
              go_cut [168] (fun s168 wx => s168 = .bool (!okAt now k) ∧ wx = w7)
              case first =>
                generalize decide (sb ∈ seenB now k) = mem at *
                cases sok
                · go_wp2_with fail
                  go_meet
                  case rel => exact ⟨by rw [HOK2.out]; rfl, rfl⟩
                · cases sv
                  · go_wp2_with fail
                    go_meet
                    case rel => exact ⟨by rw [HOK2.out]; rfl, rfl⟩
                  · go_wp2_with fail
                    go_meet
                    case rel => exact ⟨by rw [HOK2.out]; simp, rfl⟩
              case rest =>
                obtain ⟨rfl, rfl⟩ := hcut
                clear hlk
                by_cases hok2 : okAt now k = true
                rotate_left
                · have hok3 : okAt now k = false := by simpa using hok2
                  rw [hok3]
                  have hE24 : openE now = 24 := by rw [HE4.out, if_pos (allOk_false now k A hlt hok3)]
                  go_wp2_with fail
                  go_ret2
                  exact ⟨F1, HD1.out.keep HB7.out, HT1.out.trans (Turn.of_below HB7.out), .inl ⟨by rw [hE24]; decide, by rw [hE24]; rfl⟩⟩
                · rw [hok2]
                  have hokn : allOk now (k + 1) = true := by rw [allOk, hok, hok2]; rfl
                  have HOKN := Lib.hid hokn
                  clear hokn HOK2 hok2
                  go_upto_if 170 with (fail)
                  go_cut [] (fun wx => Seen wx (m + 1) (k + 1) (seenB now (k + 1)) ∧ wc.grownBy wx (some (m + 1)))
                  case first =>
                    cases sv
                    · go_wp2_with fail
                      go_meet
                      case rel => exact ⟨by rw [HSBS.out]; exact HSN7.out.mono (Nat.le_succ _), World.grownBy.refl _ _⟩
                    · obtain ⟨W', hrun, hs', hg'⟩ := HSN7.out.store (by simp only [maxLen]; omega) sb (by omega)
                      go_wp2_with fail
                      go_meet
                      case rel => exact ⟨by rw [HSBS.out]; exact hs', hg'⟩
                  case rest =>
                    rename_i w7 _
                    obtain ⟨hsn, hgn⟩ := hcut
                    have HSNN := Lib.hid hsn
                    have HC9 := Lib.hid (HC7.out.grown hgn (by simp))
                    have HO9 := Lib.hid (own_keep HO7.out hgn (by omega))
                    have HB9 := Lib.hid (gb_Below HB7.out hgn HB7.out.size (by omega))
                    have hsz9 : m + 2 ≤ wc.heap.size := Nat.le_trans hsz7 hgn.size
                    have hs0 : s0 ≠ m + 1 := by omega
                    have l0 := (hgn.cell (a := ⟨s0, 0, none⟩) k0 (by simpa using hs0))
                    have l1 := (hgn.cell (a := ⟨s0, 1, none⟩) k1 (by simpa using hs0))
                    have l2 := (hgn.cell (a := ⟨s0, 2, none⟩) k2 (by simpa using hs0))
                    have l3 := (hgn.cell (a := ⟨s0, 3, none⟩) k3 (by simpa using hs0))
                    have hsw : s0 < wc.heap.size := Nat.lt_of_lt_of_le hs7 hgn.size
                    have hmw : m < wc.heap.size := by omega
                    have y1 : wc.cell? ⟨m, 1, none⟩ = some (.slice A3 k cA3) := HC9.out.cell 1
                    clear k0 k1 k2 k3 hsn hgn HC7 HO7 HB7 HSN7 HSBS
                    go_wp2_with fail
                    refine wp_region_mix 6 10 (by kernel_rfl) (by decide +kernel) (fun w' => w'.cell? ⟨m, 1, none⟩ = some (.slice A3 k cA3) ∧ w'.cell? ⟨s0, 0, none⟩ = some (.bool sv) ∧ w'.cell? ⟨s0, 1, none⟩ = some (.bool sd) ∧ w'.cell? ⟨s0, 2, none⟩ = some (.int .i64 sb) ∧ w'.cell? ⟨s0, 3, none⟩ = some (.int .i64 sst)) ⟨y1, l0, l1, l2, l3⟩ ?_
                    simp only [List.take_succ_cons, List.take_zero, List.drop_succ_cons, List.drop_zero]
                    iterate 6
                      refine ⟨?_, Or.inl ⟨by rfl, fun W' hS' => ?_⟩, fun _ _ _ h => h, ?_⟩
                      rotate_left
                      · obtain ⟨hs1, hs2, hs3, hs4, hs5⟩ := hS'
                        go_simp
                        with_reducible rfl
                      simp only [Act.put, List.setIfInBounds_toArray, List.set_cons_zero, List.set_cons_succ]
                    show wpSeqT _ _ _ _ _ _ _ _ _
                    refine wpSeqT_step (fun K hK => ?_)
                    go_simp
                    have hbw : Below wc.heap.size wc (wc.alloc (.cells #[.bool sv, .bool sd, .int .i64 sb, .int .i64 sst] 50)) := (Below.refl _ _).alloc (Nat.le_refl _) _
                    have q1 := (hbw.cell (p := ⟨m, 1, none⟩) hmw).trans y1
                    have r0 := (hbw.cell (p := ⟨s0, 0, none⟩) hsw).trans l0
                    have r1 := (hbw.cell (p := ⟨s0, 1, none⟩) hsw).trans l1
                    have r2 := (hbw.cell (p := ⟨s0, 2, none⟩) hsw).trans l2
                    have r3 := (hbw.cell (p := ⟨s0, 3, none⟩) hsw).trans l3
                    refine hK _ _ (fun _ => ⟨q1, r0, r1, r2, r3⟩) ?_
                    clear hK K
                    refine wpSeqT_step (fun K hK => ?_)
                    refine step_append_reads _ (by rfl) (.tmp 178) (.tmp 180) _ (by rfl) (m + 2) 50 is _ 4 24 Try.underlying39 his hz0 hz1 hz2 rfl (by omega) (.slice A3 k cA3) k (scs (slotsU now k)) (by rfl) (World.ownsRow.drew (World.ownsRow.alloc HO9.out _)) (some ⟨wc.heap.size, 0, none⟩) 1 1 [.bool sv, .bool sd, .int .i64 sb, .int .i64 sst] (by rfl) (by rfl) (Reads.new _ _ _) (by simp [Value.oneCell']) (by simp only [maxLen]; omega) (by omega) (by simp; omega) ?_
                    intro v5 w9 hown9 hg9 hat9
                    obtain ⟨A9, c9, hv9⟩ := own_form hown9
                    subst hv9
                    have hmo : some m ≠ (Value.slice A3 k cA3).ownBlock := fun e => by have := HOB.out m e.symm; omega
                    have hso : some s0 ≠ (Value.slice A3 k cA3).ownBlock := fun e => by have := HOB.out s0 e.symm; omega
                    have hmo1 : some (m + 1) ≠ (Value.slice A3 k cA3).ownBlock := fun e => by have := HOB.out (m + 1) e.symm; omega
                    have t1 := hg9.cell (a := ⟨m, 1, none⟩) q1 hmo
                    have t2 := hg9.cell (a := ⟨s0, 0, none⟩) r0 hso
                    have t3 := hg9.cell (a := ⟨s0, 1, none⟩) r1 hso
                    have t4 := hg9.cell (a := ⟨s0, 2, none⟩) r2 hso
                    have t5 := hg9.cell (a := ⟨s0, 3, none⟩) r3 hso
                    refine hK _ _ (fun _ => ⟨t1, t2, t3, t4, t5⟩) ?_
                    clear hK K q1 r0 r1 r2 r3
                    simp only [Act.put, List.setIfInBounds_toArray, List.set_cons_zero, List.set_cons_succ]
                    iterate 2
                      refine wpSeqT_step (fun K hK => ?_)
                      go_simp
                      refine hK _ _ (fun _ => ⟨t1, t2, t3, t4, t5⟩) ?_
                      clear hK K
                    refine wpSeqT_list _ _ _ _ (by omega) ?_
                    have hrow : w9.ownsRow (m + 2) 50 4 (.slice A9 (k + 1) c9) (k + 1) (scs (slotsU now (k + 1))) := by
                      have e : scs (slotsU now (k + 1)) = scs (slotsU now k) ++ [.bool sv, .bool sd, .int .i64 sb, .int .i64 sst] := by rw [HSUS.out, scs_snoc]; rfl
                      rw [e]
                      exact hown9
                    have hbw2 := hbw.drew
                    have hCm := (HC9.out.below hbw2 hmw).grown hg9 hmo
                    have HSn := Lib.hid ((HSNN.out.fr (G := fun _ => False) (Fr.of_below hbw2) id).keep hg9 hmo1)
                    have f1 := hCm.free 1
                    have hlo : w1.heap.size ≤ wc.heap.size := HB9.out.size
                    have hB10 : Below w1.heap.size w1 w9 := (HB9.out.trans (hbw2.mono hlo)).grown hg9 (Nat.le_trans hlo hbw2.size) (fun j e => by have := HOB.out j e; omega)
                    have hset : Cs (w9.setCell ⟨m, 1, none⟩ (.slice A9 (k + 1) c9)) m 89 #[.iface 126 (.pointer (some ⟨sp, 0, none⟩)), .slice A9 (k + 1) c9, .int .i64 (Bc : Int), .int .i64 (M : Int), .bool (decide (O = 1))] := heap_setCell_same w9 m 1 _ _ (.slice A9 (k + 1) c9) hCm
                    have HCF := Lib.hid hset
                    have HOF := Lib.hid (own_fr hrow (fr_set w9 m 1 (.slice A9 (k + 1) c9)) (fun b hb e => by have := own_base hrow b hb; omega))
                    have HSF := Lib.hid (HSn.out.fr (fr_set w9 m 1 (.slice A9 (k + 1) c9)) (fun e => absurd e (by omega)))
                    have HBF := Lib.hid (hB10.setCell (p := ⟨m, 1, none⟩) hw1m (.slice A9 (k + 1) c9))
                    have hszF : m + 2 ≤ (w9.setCell ⟨m, 1, none⟩ (.slice A9 (k + 1) c9)).heap.size := by
                      rw [World.size_setCell]
                      exact Nat.le_trans hsz9 (Nat.le_trans hbw2.size hg9.size)
                    clear hown9 hg9 hat9 hrow hCm hset HSn hB10 t2 t3 t4 t5 l0 l1 l2 l3 y1
                    go_wp2_with fail
                    go_roundw
                    case rel => exact ⟨k + 1, _, by omega, by go_num, HCF.out, HOF.out, HSF.out, HOKN.out, HBF.out, hszF⟩
                    case measure => simp [intOf]; omega
            · have hkn : k = A := by omega
              subst hkn
              go_wp2_with fail
              go_ret2
              have hT : Turn F (fun j => F1 j ∧ j < w1.heap.size) W w1 := ⟨HT1.out.1, fun j hj => HT1.out.2 j hj.1⟩
              refine ⟨_, HD1.out.tight.keep HBk.out, hT.trans (Turn.of_below HBk.out), .inr ⟨?_, m, m + 2, rfl, Nat.le_trans HT1.out.1.size hw1m, by omega, fun j hj => Nat.lt_of_lt_of_le hj.2 hw1m, ?_⟩⟩
              · rw [HE4.out, if_neg (by simp [hok])]
              · have e := HWQ.out
                obtain ⟨e1, e2, e3, e4⟩ := HQ.out
                rw [e, e1, e2, e3, e4]
                exact ⟨A3, cA3, by rw [slotsU_length]; exact HCk.out, by rw [slotsU_length]; exact HOk.out⟩

end Go.Proofs.Ytpiffapnbjnjiaa
