/-
  cachemeta.Format.
  cachemeta.Format, where it does not refuse.
  ref32: sum, Size.
  ref32: Head, Word.
  ref32: Word.
  ref32: Format.
-/
import Derived.Test.YtpiffapnbjnjiaaGe
namespace Go.Proofs.Ytpiffapnbjnjiaa
set_option linter.unusedVariables false
open Go.RowKit
attribute [local go_sem] Oper.semAt_some

/-- Why Format refuses. -/
def fmtE (slots chunk : Int) (n : Nat) : Int := if mSize slots = 0 ∨ chunk < 1 ∨ 64 < chunk then 1 else if (n : Int) < mSize slots then 3 else 0
theorem slot_info : (Try.prog.info? 50).map (fun i => (i.zero, i.size, i.bytes)) = some (some (.agg #[.bool false, .bool false, .int .i64 0, .int .i64 0]), 4, 24) := by kernel_rfl
theorem run_make_slots (n : Nat) (hn : n ≤ 1000000) (w : World) : (Instr.makeSlice 39 (.int .i64 (n : Int)) (.int .i64 (n : Int))).run Try.prog w = .ok (.slice (some ⟨w.heap.size, 0, none⟩) n n) (w.alloc (.cells (madeCells #[.bool false, .bool false, .int .i64 0, .int .i64 0] (n * 4)) 50)) := by
  obtain ⟨i0, hi0, hz0, hz1, hz2⟩ := info_parts slot_info
  have := run_make (P := Try.prog) w 39 50 i0 _ Try.underlying39 hi0 hz0 .i64 .i64 (n : Int) (n : Int) (by omega) (Int.le_refl _) (by rw [hz2]; omega) (by omega)
  rw [this]
  simp only [Int.toNat_natCast, hz1]
  rfl

set_option maxRecDepth 100000 in
set_option maxHeartbeats 2000000 in
theorem format_no (W : World) (g sp i n : Nat) (slots chunk : Int) (hs : SpanAt W sp g i n) (hE : fmtE slots chunk n ≠ 0) :
    Calls Try.prog 26 #[spanV sp, .int .i64 slots, .int .i64 chunk] W fun e w' => e = .returned (.int .i64 (fmtE slots chunk n)) ∧ W = w' := by
  have HS := Lib.hid hs
  clear hs
  unfold spanV
  by_cases hz : mSize slots = 0
  · have HZ : Hid (fmtE slots chunk n = 1) := by show _ = _; unfold fmtE; rw [if_pos (.inl hz)]
    clear hE
    go_enter Try.func26, Try.ntmps26
    go_wp2_with fail
    refine (msize_any slots W).mono ?_
    rintro e w' ⟨rfl, rfl⟩
    rw [hz]
    go_wp2_with fail
    go_ret
    exact ⟨by rw [HZ.out]; rfl, rfl⟩
  · by_cases h1 : chunk < 1
    · have HZ : Hid (fmtE slots chunk n = 1) := by show _ = _; unfold fmtE; rw [if_pos (.inr (.inl h1))]
      have hz' : (mSize slots == 0) = false := by simpa using hz
      clear hE
      go_enter Try.func26, Try.ntmps26
      go_wp2_with fail
      refine (msize_any slots W).mono ?_
      rintro e w' ⟨rfl, rfl⟩
      go_wp2_with fail
      go_ret
      exact ⟨by rw [HZ.out]; rfl, rfl⟩
    · by_cases h2 : 64 < chunk
      · have HZ : Hid (fmtE slots chunk n = 1) := by show _ = _; unfold fmtE; rw [if_pos (.inr (.inr h2))]
        have hz' : (mSize slots == 0) = false := by simpa using hz
        clear hE
        go_enter Try.func26, Try.ntmps26
        go_wp2_with fail
        refine (msize_any slots W).mono ?_
        rintro e w' ⟨rfl, rfl⟩
        go_wp2_with fail
        go_ret
        exact ⟨by rw [HZ.out]; rfl, rfl⟩
      · have h3 : (n : Int) < mSize slots := by
          unfold fmtE at hE
          rw [if_neg (by omega)] at hE
          split at hE
          · assumption
          · exact absurd rfl hE
        have HZ : Hid (fmtE slots chunk n = 3) := by show _ = _; unfold fmtE; rw [if_neg (by omega), if_pos h3]
        have hz' : (mSize slots == 0) = false := by simpa using hz
        clear hE
        go_enter Try.func26, Try.ntmps26
        go_wp2_with fail
        refine (msize_any slots W).mono ?_
        rintro e w' ⟨rfl, rfl⟩
        go_wp2_with fail
        rw [m_size]
        go_wp2_with fail
        refine (ssize_any _ sp g i n HS.out).mono ?_
        rintro e w' ⟨rfl, rfl⟩
        go_wp2_with fail
        refine (msize_any slots _).mono ?_
        rintro e w' ⟨rfl, rfl⟩
        go_wp2_with fail
        go_ret
        exact ⟨by rw [HZ.out]; rfl, rfl⟩

end Go.Proofs.Ytpiffapnbjnjiaa

namespace Go.Proofs.Ytpiffapnbjnjiaa
set_option linter.unusedVariables false
open Go.RowKit
attribute [local go_sem] Oper.semAt_some

theorem Turn.tg {F F' : Nat → Prop} {W W' : World} (h : Turn (fun j => F j ∧ j < W.heap.size) F' W W') : Turn F F' W W' :=
  ⟨h.1.mono (fun j _ hj => hj.1), fun j hj => (h.2 j hj).elim (fun a => .inl a.1) .inr⟩

/-- The words behind Format. -/
def fmtW (now : List Nat) (k : Nat) (chunk : Int) : List Nat := (setFrom (now.set 0 0) 1 (List.replicate k 0) k).set 0 (hdI k chunk 0 false)
theorem fmtW_length (now : List Nat) (k : Nat) (chunk : Int) : (fmtW now k chunk).length = now.length := by rw [fmtW, List.length_set, setFrom_length, List.length_set]
def FormatP (W : World) (F : Nat → Prop) (g k : Nat) (chunk : Int) (now : List Nat) (wr : Int) (e : Ending) (W' : World) : Prop :=
  e = .returned (.int .i64 0) ∧ ∃ F', DskAt W' F' g (one (fmtW now k chunk) (fmtW now k chunk) [] 0 false (wr + 1 + k + 1)) ∧ Turn F F' W W'
theorem hdI_lt (n : Nat) (chunk mode : Int) (op : Bool) : hdI n chunk mode op < 18446744073709551616 := by
  have := hdW_lt (n % 2048) (chunk % 128).toNat (mode % 4).toNat (b01 op) (Nat.mod_lt _ (by omega)) (by omega) (by omega) (b01_lt op)
  unfold hdI
  omega

set_option maxRecDepth 100000 in
set_option maxHeartbeats 4000000 in
theorem format_ok (W : World) (F : Nat → Prop) (g sp n k : Nat) (chunk : Int) (now dur : List Nat) (log : List (Nat × Nat × Nat)) (wr : Int) (h : DskAt W F g (one now dur log 0 false wr)) (hs : SpanAt W sp g 0 n) (hsp : ¬ F sp) (hy : Syn now dur log) (hn : now.length = n) (hn2 : n ≤ 65536)
    (hk : 1 ≤ k ∧ k ≤ 1024) (hkn : k + 1 ≤ n) (hc : 1 ≤ chunk ∧ chunk ≤ 64) (hlog : log.length ≤ 1000) (hwr : wr ≤ 10000) :
    Calls Try.prog 26 #[spanV sp, .int .i64 (k : Int), .int .i64 chunk] W (FormatP W F g k chunk now wr) := by
  have hz : mSize (k : Int) = (k : Int) + 1 := by unfold mSize; rw [if_neg (by omega)]
  have t1 : (((k : Int) + 1) == 0) = false := by simp; omega
  have t2 : ¬ chunk < 1 := by omega
  have t3 : ¬ 64 < chunk := by omega
  have t4 : ¬ (n : Int) < (k : Int) + 1 := by omega
  have hmk := run_make_slots k (by omega) W
  have HDt := Lib.hid h.tight
  have HS := Lib.hid hs
  have HSP := Lib.hid hsp
  have HF1 := Lib.hid (one_first hy wr 0 n hn (by omega))
  have hspl := Cs.lt hs
  have HFW : Hid (fmtW now k chunk = (setFrom (now.set 0 0) 1 (List.replicate k 0) k).set 0 (hdI k chunk 0 false)) := rfl
  clear h hs hy
  generalize hcells : madeCells #[Value.bool false, .bool false, .int .i64 0, .int .i64 0] (k * 4) = cells at hmk
  clear hcells
  unfold spanV
  go_enter Try.func26, Try.ntmps26
  go_wp2_with fail
  refine (msize_any (k : Int) W).mono ?_
  rintro e w' ⟨rfl, rfl⟩
  rw [hz]
  go_wp2_with fail
  rw [m_size]
  go_wp2_with fail
  refine (ssize_any _ sp g 0 n HS.out).mono ?_
  rintro e w' ⟨rfl, rfl⟩
  go_wp2_with fail
  refine (msize_any (k : Int) _).mono ?_
  rintro e w' ⟨rfl, rfl⟩
  rw [hz]
  go_wp2_with fail
  have hbV : Below W.heap.size W ((W.alloc (.cells cells 50)).alloc (.cells #[.iface 126 (.pointer (some ⟨sp, 0, none⟩)), .slice (some ⟨W.heap.size, 0, none⟩) k k, .int .i64 chunk, .int .i64 0, .bool false] 89)) := ((Below.refl _ W).alloc (Nat.le_refl _) _).alloc (by simp) _
  have hC := Cs.new (W.alloc (.cells cells 50)) 89 #[.iface 126 (.pointer (some ⟨sp, 0, none⟩)), .slice (some ⟨W.heap.size, 0, none⟩) k k, .int .i64 chunk, .int .i64 0, .bool false]
  rw [World.size_alloc] at hC
  generalize ((W.alloc _).alloc _) = V at hbV hC ⊢
  have hHD := HDt.out.keep hbV
  have hHS : SpanAt V sp g 0 n := Cs.below HS.out hbV hspl
  have hspF : ¬ (F sp ∧ sp < W.heap.size) := fun hh => HSP.out hh.1
  have hmF : ¬ (F (W.heap.size + 1) ∧ W.heap.size + 1 < W.heap.size) := fun hh => by omega
  have HC := Lib.hid hC
  have hTV : Hid (Turn (fun j => F j ∧ j < W.heap.size) (fun j => F j ∧ j < W.heap.size) W V) := Turn.of_below hbV
  generalize W.heap.size + 1 = m at *
  generalize W.heap.size = h0 at HC hC ⊢
  have hml := hC.lt
  have hspV : sp < V.heap.size := Cs.lt hHS
  clear hC hbV hmk
  have HF0 : Hid (∃ F0 : Nat → Prop, True) := ⟨F, trivial⟩
  clear HF0
  refine (first_any V _ g sp 0 n m 0 _ _ _ _ _ hHD hHS hspF HC.out hmF hn2 (by omega) (by show log.length < _; omega) (by show wr ≤ _; omega)).mono ?_
  rintro e w1 ⟨rfl, F1, hd1, ht1⟩
  rw [HF1.out.1] at hd1
  rw [HF1.out.2]
  have HC1 := Lib.hid (HC.out.fr ht1.1 hmF)
  have HS1 : Hid (SpanAt w1 sp g 0 n) := Cs.fr hHS ht1.1 hspF
  have HSP1 := Lib.hid (ht1.out hspV hspF)
  have HM1 := Lib.hid (ht1.out hml hmF)
  have HD1 := Lib.hid hd1.tight
  have HT1 := Lib.hid (hTV.out.trans ht1)
  clear hHD hHS hspF hmF HC hTV hd1 ht1 HF1 HS HDt HSP hml hspV
  have hmk := run_make_u64 k (by omega) w1
  go_wp2_with fail
  have hlr : (List.replicate k 0).length = k := List.length_replicate
  have hb2 : Below w1.heap.size w1 (w1.alloc (.cells (uv (List.replicate k 0)).toArray 28)) := (Below.refl _ w1).alloc (Nat.le_refl _) _
  have hCb := Cs.new w1 28 (uv (List.replicate k 0)).toArray
  have hbF : ¬ (F1 w1.heap.size ∧ w1.heap.size < w1.heap.size) := fun hh => by omega
  have HD2 := Lib.hid (HD1.out.keep hb2)
  have HS2 : Hid (SpanAt _ sp g 0 n) := Cs.below HS1.out hb2 (Cs.lt HS1.out)
  have HC2 := Lib.hid (HC1.out.below hb2 HC1.out.lt)
  have hsp2 : ¬ (F1 sp ∧ sp < w1.heap.size) := fun hh => HSP1.out hh.1
  have hm2 : ¬ (F1 m ∧ m < w1.heap.size) := fun hh => HM1.out hh.1
  have HT2 : Hid (Turn (fun j => F1 j ∧ j < w1.heap.size) (fun j => F1 j ∧ j < w1.heap.size) w1 _) := Turn.of_below hb2
  have hsy := Syn.refl (now.set 0 0)
  have hn' : (now.set 0 0).length = n := by rw [List.length_set, hn]
  have hok : ∀ j, j < k → ((one (now.set 0 0) (now.set 0 0) [] 0 false (wr + 1)).wrs 0 n 1 (List.replicate k 0) j).swE 0 n (1 + j) = 0 := fun j hj => one_wrs_ok hsy (wr + 1) 1 n (List.replicate k 0) j hn' (by omega)
  obtain ⟨lg, hst, hsyn⟩ := one_wrs hsy (wr + 1) 1 n (List.replicate k 0) k hn' (by omega)
  rw [show ((1 : Nat) : Int) = 1 from rfl] at hst
  have hlg := (wrs_le (one (now.set 0 0) (now.set 0 0) [] 0 false (wr + 1)) 0 n 1 (List.replicate k 0) k).1
  rw [hst] at hlg
  replace hlg : lg.length ≤ 0 + k := hlg
  have hll : (setFrom (now.set 0 0) 1 (List.replicate k 0) k).length = n := by rw [setFrom_length, hn']
  have hw0 : W64 (List.replicate k 0) := by intro x hx; rw [List.mem_replicate] at hx; omega
  generalize w1.alloc _ = w2 at *
  refine (wall_any w2 _ g sp 0 n w1.heap.size k k 1 (List.replicate k 0) _ HD2.out HS2.out hsp2 hCb hbF hlr (by omega) hn2 hw0 (by omega) hk.1 (by show ([] : List (Nat × Nat × Nat)).length ≤ _; simp) (by show wr + 1 ≤ _; omega) hok).mono ?_
  rintro e w3 ⟨rfl, F3, hd3, ht3⟩
  rw [hst] at hd3
  have HD3 := Lib.hid hd3
  have HS3 : Hid (SpanAt w3 sp g 0 n) := Cs.fr HS2.out ht3.1 hsp2
  have hsp3 := ht3.out (Cs.lt HS2.out) hsp2
  have HC3 := Lib.hid (HC2.out.fr ht3.1 hm2)
  have hm3 := ht3.out HC2.out.lt hm2
  have HT3 := Lib.hid (HT1.out.trans (HT2.out.trans ht3).tg)
  generalize setFrom (now.set 0 0) 1 (List.replicate k 0) k = now3 at *
  clear hlr hb2 hCb hbF HD2 HS2 HC2 hsp2 hm2 HT2 hsy hn' hok hst hw0 hd3 ht3 HD1 HS1 HC1 HSP1 HM1 HT1 hmk
  go_wp2_with fail
  rw [m_flush]
  go_wp2_with fail
  refine (sflush_any w3 F3 g sp 0 n _ HD3.out HS3.out hsp3 (by show lg.length ≤ _; omega)).mono ?_
  rintro e w4 ⟨rfl, F4, hd4, ht4⟩
  rw [show ((0 : Nat) : Int) = 0 from rfl, one_flush_syn hsyn] at hd4
  rw [show ((0 : Nat) : Int) = 0 from rfl, one_chkF]
  have HD4 := Lib.hid hd4
  have HS4 : Hid (SpanAt w4 sp g 0 n) := Cs.fr HS3.out ht4.1 hsp3
  have hsp4 := ht4.out (Cs.lt HS3.out) hsp3
  have HC4 := Lib.hid (HC3.out.fr ht4.1 hm3)
  have hm4 := ht4.out HC3.out.lt hm3
  have HT4 := Lib.hid (HT3.out.trans ht4)
  clear HD3 HS3 hsp3 HC3 hm3 HT3 hd4 ht4 hsyn hlg
  go_wp2_with fail
  refine (mhead_any w4 m k k (some ⟨h0, 0, none⟩) _ chunk 0 false HC4.out (by omega)).mono ?_
  rintro e w5 ⟨rfl, hb5⟩
  have HD5 := Lib.hid (HD4.out.keep hb5)
  have HS5 : Hid (SpanAt w5 sp g 0 n) := Cs.below HS4.out hb5 (Cs.lt HS4.out)
  have HC5 := Lib.hid (HC4.out.below hb5 HC4.out.lt)
  have HT5 := Lib.hid (HT4.out.trans (Turn.of_below hb5))
  have hvl := hdI_lt k chunk 0 false
  have HL := Lib.hid (one_first (Syn.refl now3) (wr + 1 + k) (hdI k chunk 0 false) n hll (by omega))
  generalize hdI k chunk 0 false = hv at *
  clear HD4 HS4 HC4 HT4 hb5
  go_wp2_with fail
  refine (first_any w5 _ g sp 0 n m hv _ _ _ _ _ HD5.out HS5.out hsp4 HC5.out hm4 hn2 hvl (by show ([] : List (Nat × Nat × Nat)).length < _; simp) (by show wr + 1 + k ≤ _; omega)).mono ?_
  rintro e w6 ⟨rfl, F6, hd6, ht6⟩
  rw [HL.out.1] at hd6
  rw [HL.out.2]
  go_wp2_with fail
  go_ret
  exact ⟨rfl, F6, by rw [HFW.out]; exact hd6, (HT5.out.trans ht6).tg⟩

end Go.Proofs.Ytpiffapnbjnjiaa

namespace Go.Proofs.Ytpiffapnbjnjiaa
set_option linter.unusedVariables false
open Go.RowKit

/-- A word without the 16 bits from at_ on. -/
def clr (x at_ : Nat) : Nat := x % 2 ^ at_ + x / 2 ^ (at_ + 16) * 2 ^ (at_ + 16)
theorem and_clr (x at_ m : Nat) (hx : x < 18446744073709551616) (ha : at_ ≤ 48) (hm : m = (2 ^ at_ - 1) ||| ((2 ^ (48 - at_) - 1) <<< (at_ + 16))) : x &&& m = clr x at_ := by
  have hlt : x % 2 ^ at_ < 2 ^ (at_ + 16) := Nat.lt_of_lt_of_le (Nat.mod_lt _ (Nat.pow_pos (by omega))) (Nat.pow_le_pow_right (by omega) (by omega))
  unfold clr
  rw [← or_fits _ _ _ hlt, ← Nat.shiftRight_eq_div_pow, ← Nat.shiftLeft_eq]
  apply Nat.eq_of_testBit_eq
  intro j
  rw [hm, Nat.testBit_and, Nat.testBit_or, Nat.testBit_or, Nat.testBit_two_pow_sub_one, Nat.testBit_shiftLeft, Nat.testBit_two_pow_sub_one, Nat.testBit_mod_two_pow, Nat.testBit_shiftLeft, Nat.testBit_shiftRight]
  by_cases h1 : j < at_
  · simp [h1, show ¬ at_ + 16 ≤ j by omega]
  · by_cases h2 : at_ + 16 ≤ j
    · by_cases h3 : j < 64
      · simp [h1, h2, show j - (at_ + 16) < 48 - at_ by omega, show at_ + 16 + (j - (at_ + 16)) = j by omega]
      · have : x.testBit j = false := Nat.testBit_lt_two_pow (Nat.lt_of_lt_of_le hx (by rw [show 18446744073709551616 = 2 ^ 64 from rfl]; exact Nat.pow_le_pow_right (by omega) (by omega)))
        simp [this, h1, h2, show at_ + 16 + (j - (at_ + 16)) = j by omega]
    · simp [h1, h2]
theorem clr_le (x at_ : Nat) : clr x at_ ≤ x := by
  unfold clr
  have e1 := Nat.mod_add_div x (2 ^ at_)
  have e2 := Nat.div_mul_le_self (x / 2 ^ at_) (2 ^ 16)
  rw [Nat.div_div_eq_div_mul, ← Nat.pow_add] at e2
  have e3 : x / 2 ^ (at_ + 16) * 2 ^ (at_ + 16) = 2 ^ at_ * (x / 2 ^ (at_ + 16) * 2 ^ 16) := by rw [Nat.pow_add]; ac_rfl
  have e4 := Nat.mul_le_mul_left (2 ^ at_) e2
  omega
/-- A word with its checksum, from at_ on. -/
def rsum (x at_ : Nat) : Nat := clr x at_ ||| (sumW (clr x at_) * 2 ^ at_)

theorem rsize_any (n : Int) (W : World) :
    Calls Try.prog 22 #[.int .i64 n] W fun e w' => e = .returned (.int .i64 (mSize n)) ∧ W = w' := by
  by_cases h1 : n < 1
  · have HE : Hid (mSize n = 0) := by show _ = _; unfold mSize; rw [if_pos (.inl h1)]
    go_enter Try.func22, Try.ntmps22
    go_wp2_with fail
    go_ret
    exact ⟨by rw [HE.out]; rfl, rfl⟩
  · by_cases h2 : 1024 < n
    · have HE : Hid (mSize n = 0) := by show _ = _; unfold mSize; rw [if_pos (.inr h2)]
      go_enter Try.func22, Try.ntmps22
      go_wp2_with fail
      go_ret
      exact ⟨by rw [HE.out]; rfl, rfl⟩
    · have HE : Hid (mSize n = n + 1) := by show _ = _; unfold mSize; rw [if_neg (by omega)]
      have e2 : IntKind.i64.wrap (n + 1) = n + 1 := IntWalk.i64_in _ (by omega)
      go_enter Try.func22, Try.ntmps22
      go_wp2_with fail
      go_ret
      exact ⟨by rw [HE.out]; rfl, rfl⟩

theorem clr21_bits (x : Nat) (h : x < 18446744073709551616) : bits .andNot .u64 (x : Int) 137436856320 = ((clr x 21 : Nat) : Int) := by
  have e := u64_andNot_nat x 137436856320 h (by omega)
  rw [and_clr x 21 _ h (by omega) (by rfl)] at e
  exact e
theorem rsum21_or (c s : Nat) (hc : c < 18446744073709551616) (hs : s < 65536) : bits .or .u64 (c : Int) ((s : Int) * 2097152) = ((c ||| (s * 2 ^ 21) : Nat) : Int) := by
  have e := u64_or_nat c (s * 2097152) hc (by omega)
  rw [show ((s * 2097152 : Nat) : Int) = (s : Int) * 2097152 by omega] at e
  exact e

set_option maxRecDepth 100000 in
set_option maxHeartbeats 1000000 in
theorem rsum21_any (x : Nat) (W : World) (hx : x < 18446744073709551616) :
    Calls Try.prog 41 #[.int .u64 (x : Int), .int .i64 21] W fun e w' => e = .returned (.int .u64 ((rsum x 21 : Nat) : Int)) ∧ Below W.heap.size W w' := by
  have hcb := clr21_bits x hx
  have hcl : clr x 21 < 18446744073709551616 := Nat.lt_of_le_of_lt (clr_le x 21) hx
  have HR : Hid (rsum x 21 = clr x 21 ||| (sumW (clr x 21) * 2 ^ 21)) := rfl
  generalize clr x 21 = c at *
  have hR := Reads.new W #[.int .u64 (c : Int)] 28
  have hb : Below W.heap.size W (W.alloc (.cells #[.int .u64 (c : Int)] 28)) := (Below.refl _ W).alloc (Nat.le_refl _) _
  have HU := Lib.hid (show Reads (W.alloc (.cells #[.int .u64 (c : Int)] 28)) (some ⟨W.heap.size, 0, none⟩) (uv [c]) from hR)
  clear hR
  go_enter Try.func41, Try.ntmps41
  go_wp2_with fail
  refine (refWords_sum (some ⟨W.heap.size, 0, none⟩) 1 1 [c] _ rfl HU.out (by intro y hy; simp at hy; omega) (by omega)).mono ?_
  rintro e w1 ⟨rfl, rfl⟩
  have hext := extendC_lt 0 [c]
  have HS : Hid (sumW c = shortC (extendC 0 [c])) := rfl
  generalize extendC 0 [c] = ex at *
  go_wp2_with fail
  refine (refShort_any ex _ hext).mono ?_
  rintro e w2 ⟨rfl, rfl⟩
  rw [← HS.out]
  have hs := sumW_lt c
  have ho := rsum21_or c (sumW c) hcl hs
  have e3 : IntKind.u64.wrap ((sumW c : Int) * 2097152) = (sumW c : Int) * 2097152 := by
    rw [show (sumW c : Int) * 2097152 = ((sumW c * 2097152 : Nat) : Int) by omega, wrap_nat, Nat.mod_eq_of_lt (by omega)]
  generalize sumW c = s at *
  go_wp2_with fail
  go_ret
  refine ⟨ret_int ?_, hb⟩
  rw [HR.out]

theorem clr48_bits (x : Nat) (h : x < 18446744073709551616) : bits .andNot .u64 (x : Int) 18446462598732840960 = ((clr x 48 : Nat) : Int) := by
  have e := u64_andNot_nat x 18446462598732840960 h (by omega)
  rw [and_clr x 48 _ h (by omega) (by rfl)] at e
  exact e
theorem rsum48_or (c s : Nat) (hc : c < 18446744073709551616) (hs : s < 65536) : bits .or .u64 (c : Int) ((s : Int) * 281474976710656) = ((c ||| (s * 2 ^ 48) : Nat) : Int) := by
  have e := u64_or_nat c (s * 281474976710656) hc (by omega)
  rw [show ((s * 281474976710656 : Nat) : Int) = (s : Int) * 281474976710656 by omega] at e
  exact e

set_option maxRecDepth 100000 in
set_option maxHeartbeats 1000000 in
theorem rsum48_any (x : Nat) (W : World) (hx : x < 18446744073709551616) :
    Calls Try.prog 41 #[.int .u64 (x : Int), .int .i64 48] W fun e w' => e = .returned (.int .u64 ((rsum x 48 : Nat) : Int)) ∧ Below W.heap.size W w' := by
  have hcb := clr48_bits x hx
  have hcl : clr x 48 < 18446744073709551616 := Nat.lt_of_le_of_lt (clr_le x 48) hx
  have HR : Hid (rsum x 48 = clr x 48 ||| (sumW (clr x 48) * 2 ^ 48)) := rfl
  generalize clr x 48 = c at *
  have hR := Reads.new W #[.int .u64 (c : Int)] 28
  have hb : Below W.heap.size W (W.alloc (.cells #[.int .u64 (c : Int)] 28)) := (Below.refl _ W).alloc (Nat.le_refl _) _
  have HU := Lib.hid (show Reads (W.alloc (.cells #[.int .u64 (c : Int)] 28)) (some ⟨W.heap.size, 0, none⟩) (uv [c]) from hR)
  clear hR
  go_enter Try.func41, Try.ntmps41
  go_wp2_with fail
  refine (refWords_sum (some ⟨W.heap.size, 0, none⟩) 1 1 [c] _ rfl HU.out (by intro y hy; simp at hy; omega) (by omega)).mono ?_
  rintro e w1 ⟨rfl, rfl⟩
  have hext := extendC_lt 0 [c]
  have HS : Hid (sumW c = shortC (extendC 0 [c])) := rfl
  generalize extendC 0 [c] = ex at *
  go_wp2_with fail
  refine (refShort_any ex _ hext).mono ?_
  rintro e w2 ⟨rfl, rfl⟩
  rw [← HS.out]
  have hs := sumW_lt c
  have ho := rsum48_or c (sumW c) hcl hs
  have e3 : IntKind.u64.wrap ((sumW c : Int) * 281474976710656) = (sumW c : Int) * 281474976710656 := by
    rw [show (sumW c : Int) * 281474976710656 = ((sumW c * 281474976710656 : Nat) : Int) by omega, wrap_nat, Nat.mod_eq_of_lt (by omega)]
  generalize sumW c = s at *
  go_wp2_with fail
  go_ret
  refine ⟨ret_int ?_, hb⟩
  rw [HR.out]

end Go.Proofs.Ytpiffapnbjnjiaa

namespace Go.Proofs.Ytpiffapnbjnjiaa
set_option linter.unusedVariables false
open Go.RowKit

theorem hd_base (K L C : Nat) (hK : K < 2048) (hL : L < 128) (hC : C < 4) :
    bits BinOp.or IntKind.u64 (bits BinOp.or IntKind.u64 (bits BinOp.or IntKind.u64 (K : Int) ((L : Int) * 2048)) ((C : Int) * 262144)) 2366561339834368 = ((hdB K L C 0 : Nat) : Int) := by
  have e1 : (L : Int) * 2048 = ((L * 2 ^ 11 : Nat) : Int) := by omega
  have e2 : (C : Int) * 262144 = ((C * 2 ^ 18 : Nat) : Int) := by omega
  have e4 : (2366561339834368 : Int) = ((17219 * 2 ^ 37 : Nat) : Int) := by rfl
  rw [e1, e2, e4, u64_or_nat _ _ (by omega) (by omega), or_fits _ _ _ (by omega), u64_or_nat _ _ (by omega) (by omega), or_fits _ _ _ (by omega), u64_or_nat _ _ (by omega) (by omega), or_fits _ _ _ (by omega)]
  unfold hdB
  congr 1
/-- A part between a low one and a high one. -/
theorem or_mid (a b c n k : Nat) (ha : a < 2 ^ n) (hb : b * 2 ^ n + a < 2 ^ k) : (a + c * 2 ^ k) ||| (b * 2 ^ n) = a + b * 2 ^ n + c * 2 ^ k := by
  rw [← or_fits a c k (by omega), Nat.or_assoc, Nat.or_comm (c * 2 ^ k), ← Nat.or_assoc, or_fits a b n ha, or_fits _ c k (by omega)]
theorem hd_open (K L C : Nat) (hK : K < 2048) (hL : L < 128) (hC : C < 4) :
    bits BinOp.or IntKind.u64 ((hdB K L C 0 : Nat) : Int) 1048576 = ((hdB K L C 1 : Nat) : Int) := by
  have h0 : hdB K L C 0 = (K + L * 2048 + C * 262144) + 17219 * 2 ^ 37 := by unfold hdB; omega
  have h1 : hdB K L C 1 = (K + L * 2048 + C * 262144) + 1 * 2 ^ 20 + 17219 * 2 ^ 37 := by unfold hdB; omega
  rw [show (1048576 : Int) = ((1 * 2 ^ 20 : Nat) : Int) from rfl, u64_or_nat _ _ (by omega) (by omega), h0, or_mid _ 1 17219 20 37 (by omega) (by omega), h1]
theorem rsum_hd (K L C d : Nat) (hK : K < 2048) (hL : L < 128) (hC : C < 4) (hd : d < 2) : rsum (hdB K L C d) 21 = hdW K L C d := by
  have h0 : hdB K L C d = (K + L * 2048 + C * 262144 + d * 1048576) + 17219 * 2 ^ 37 := by unfold hdB; omega
  have hc : clr (hdB K L C d) 21 = hdB K L C d := by
    unfold clr
    rw [h0]
    omega
  have hs := sumW_lt (hdB K L C d)
  unfold rsum hdW
  rw [hc]
  generalize sumW (hdB K L C d) = s at *
  rw [h0, or_mid _ s 17219 21 37 (by omega) (by omega)]
  omega

theorem sl_base (K : Nat) (hK : K < 16777216) : bits BinOp.or IntKind.u64 (K : Int) 16777216 = ((slB K 0 : Nat) : Int) := by
  rw [show (16777216 : Int) = ((1 * 2 ^ 24 : Nat) : Int) from rfl, u64_or_nat _ _ (by omega) (by omega), or_fits _ _ _ (by omega)]
  unfold slB
  congr 1
theorem sl_dirty (K : Nat) (hK : K < 16777216) : bits BinOp.or IntKind.u64 ((slB K 0 : Nat) : Int) 33554432 = ((slB K 1 : Nat) : Int) := by
  have h0 : slB K 0 < 2 ^ 25 := by unfold slB; omega
  rw [show (33554432 : Int) = ((1 * 2 ^ 25 : Nat) : Int) from rfl, u64_or_nat _ _ (by omega) (by omega), or_fits _ _ _ h0]
  unfold slB
  congr 1
theorem rsum_sl (K d : Nat) (hK : K < 16777216) (hd : d < 2) : rsum (slB K d) 48 = slW K d := by
  have h0 : slB K d < 2 ^ 26 := by unfold slB; omega
  have hc : clr (slB K d) 48 = slB K d := by
    unfold clr
    rw [Nat.mod_eq_of_lt (by omega), Nat.div_eq_of_lt (by omega)]
    omega
  have hs := sumW_lt (slB K d)
  unfold rsum slW
  rw [hc]
  generalize sumW (slB K d) = s at *
  rw [or_fits _ s 48 (by omega)]

set_option maxRecDepth 100000 in
set_option maxHeartbeats 1000000 in
theorem rhead_any (n : Nat) (chunk mode : Int) (op : Bool) (W : World) :
    Calls Try.prog 10 #[.int .i64 (n : Int), .int .i64 chunk, .int .i64 mode, .bool op] W fun e w' => e = .returned (.int .u64 ((hdI n chunk mode op : Nat) : Int)) ∧ Below W.heap.size W w' := by
  have h1 := low_bits (n : Int) 11 (by omega)
  have h2 := low_bits chunk 7 (by omega)
  have h3 := low_bits mode 2 (by omega)
  rw [show ((2 ^ 11 - 1 : Nat) : Int) = 2047 from rfl] at h1
  rw [show ((2 ^ 7 - 1 : Nat) : Int) = 127 from rfl, show ((2 ^ 7 : Nat) : Int) = 128 from rfl] at h2
  rw [show ((2 ^ 2 - 1 : Nat) : Int) = 3 from rfl, show ((2 ^ 2 : Nat) : Int) = 4 from rfl] at h3
  rw [show (((n : Int) % ((2 ^ 11 : Nat) : Int)).toNat : Int) = ((n % 2048 : Nat) : Int) by omega] at h1
  have b1 : n % 2048 < 2048 := Nat.mod_lt _ (by omega)
  have b2 : (chunk % 128).toNat < 128 := by omega
  have b3 : (mode % 4).toNat < 4 := by omega
  have HH : Hid (hdI n chunk mode op = hdW (n % 2048) (chunk % 128).toNat (mode % 4).toNat (b01 op)) := rfl
  generalize n % 2048 = K at *
  generalize (chunk % 128).toNat = L at *
  generalize (mode % 4).toNat = C at *
  have HB := Lib.hid (hd_base K L C b1 b2 b3)
  have HO := Lib.hid (hd_open K L C b1 b2 b3)
  have HR := Lib.hid (fun d hd => rsum_hd K L C d b1 b2 b3 hd)
  have hbl : ∀ d, d < 2 → hdB K L C d < 18446744073709551616 := fun d hd => by unfold hdB; omega
  have HBL := Lib.hid hbl
  clear hbl
  cases op
  · go_enter Try.func10, Try.ntmps10
    go_wp2_with fail
    rw [HB.out]
    refine (rsum21_any _ W (HBL.out 0 (by omega))).mono ?_
    rintro e w1 ⟨rfl, hb⟩
    rw [HR.out 0 (by omega)]
    go_wp2_with fail
    go_ret
    exact ⟨by rw [HH.out]; rfl, hb⟩
  · go_enter Try.func10, Try.ntmps10
    go_wp2_with fail
    rw [HB.out, HO.out]
    refine (rsum21_any _ W (HBL.out 1 (by omega))).mono ?_
    rintro e w1 ⟨rfl, hb⟩
    rw [HR.out 1 (by omega)]
    go_wp2_with fail
    go_ret
    exact ⟨by rw [HH.out]; rfl, hb⟩

end Go.Proofs.Ytpiffapnbjnjiaa

namespace Go.Proofs.Ytpiffapnbjnjiaa
set_option linter.unusedVariables false
open Go.RowKit

set_option maxRecDepth 100000 in
set_option maxHeartbeats 1000000 in
theorem rword_any (s : Sl) (W : World) :
    Calls Try.prog 24 #[s.v] W fun e w' => e = .returned (.int .u64 (s.word : Int)) ∧ Below W.heap.size W w' := by
  obtain ⟨v, d, b, st⟩ := s
  unfold Sl.v
  have hb0 : Below W.heap.size W (W.alloc (.cells #[.bool v, .bool d, .int .i64 b, .int .i64 st] 50)) := (Below.refl _ W).alloc (Nat.le_refl _) _
  cases v
  · have HE : Hid ((Sl.mk false d b st).word = 0) := rfl
    go_enter Try.func24, Try.ntmps24
    go_wp2_with fail
    go_ret
    exact ⟨by rw [HE.out]; rfl, hb0⟩
  · have h1 := low_bits b 24 (by omega)
    rw [show ((2 ^ 24 - 1 : Nat) : Int) = 16777215 from rfl, show ((2 ^ 24 : Nat) : Int) = 16777216 from rfl] at h1
    have b1 : (b % 16777216).toNat < 16777216 := by omega
    have HE : Hid ((Sl.mk true d b st).word = slW (b % 16777216).toNat (b01 d)) := rfl
    generalize (b % 16777216).toNat = K at *
    have HB := Lib.hid (sl_base K b1)
    have HO := Lib.hid (sl_dirty K b1)
    have HR := Lib.hid (fun d hd => rsum_sl K d b1 hd)
    have hbl : ∀ d, d < 2 → slB K d < 18446744073709551616 := fun d hd => by unfold slB; omega
    have HBL := Lib.hid hbl
    clear hbl
    cases d
    · go_enter Try.func24, Try.ntmps24
      go_wp2_with fail
      rw [HB.out]
      refine (rsum48_any _ _ (HBL.out 0 (by omega))).mono ?_
      rintro e w1 ⟨rfl, hb⟩
      rw [HR.out 0 (by omega)]
      go_wp2_with fail
      go_ret
      exact ⟨by rw [HE.out]; rfl, hb0.trans (hb.mono hb0.size)⟩
    · go_enter Try.func24, Try.ntmps24
      go_wp2_with fail
      rw [HB.out, HO.out]
      refine (rsum48_any _ _ (HBL.out 1 (by omega))).mono ?_
      rintro e w1 ⟨rfl, hb⟩
      rw [HR.out 1 (by omega)]
      go_wp2_with fail
      go_ret
      exact ⟨by rw [HE.out]; rfl, hb0.trans (hb.mono hb0.size)⟩

end Go.Proofs.Ytpiffapnbjnjiaa

namespace Go.Proofs.Ytpiffapnbjnjiaa
set_option linter.unusedVariables false
open Go.RowKit

/-- The first word, and k zeros. -/
def setZ (l : List Nat) : Nat → List Nat
  | 0 => l
  | k + 1 => (setZ l k).set (1 + k) 0
theorem setZ_length (l : List Nat) (k : Nat) : (setZ l k).length = l.length := by
  induction k with
  | zero => rfl
  | succ k ih => rw [setZ, List.length_set, ih]
theorem setZ_set (l : List Nat) (k v : Nat) : (setZ l k).set 0 v = setZ (l.set 0 v) k := by
  induction k with
  | zero => rfl
  | succ k ih => rw [setZ, setZ, List.set_comm _ _ (by omega), ih]
theorem setFrom_zeros (l : List Nat) (m k : Nat) (h : k ≤ m) : setFrom l 1 (List.replicate m 0) k = setZ l k := by
  induction k with
  | zero => rfl
  | succ k ih =>
    have e : ((List.replicate m 0)[k]?.getD 0) = 0 := by
      rw [List.getElem?_replicate]
      split <;> rfl
    rw [setFrom, setZ, ih (by omega), e]
theorem fmtW_eq (l : List Nat) (k : Nat) (chunk : Int) : fmtW l k chunk = setZ (l.set 0 (hdI k chunk 0 false)) k := by
  rw [fmtW, setFrom_zeros _ _ _ (Nat.le_refl _), setZ_set, List.set_set]

set_option maxRecDepth 100000 in
set_option maxHeartbeats 2000000 in
theorem rformat_no (W : World) (A : Option Addr) (n c : Nat) (slots chunk : Int) (hE : fmtE slots chunk n ≠ 0) :
    Calls Try.prog 27 #[.slice A n c, .int .i64 slots, .int .i64 chunk] W fun e w' => e = .returned (.int .i64 (fmtE slots chunk n)) ∧ W = w' := by
  by_cases hz : slots < 1
  · have HZ : Hid (fmtE slots chunk n = 1) := by show _ = _; unfold fmtE; rw [if_pos (.inl (by unfold mSize; rw [if_pos (.inl hz)]))]
    clear hE
    go_enter Try.func27, Try.ntmps27
    go_wp2_with fail
    go_ret
    exact ⟨by rw [HZ.out]; rfl, rfl⟩
  · by_cases hy : 1024 < slots
    · have HZ : Hid (fmtE slots chunk n = 1) := by show _ = _; unfold fmtE; rw [if_pos (.inl (by unfold mSize; rw [if_pos (.inr hy)]))]
      clear hE
      go_enter Try.func27, Try.ntmps27
      go_wp2_with fail
      go_ret
      exact ⟨by rw [HZ.out]; rfl, rfl⟩
    · by_cases h1 : chunk < 1
      · have HZ : Hid (fmtE slots chunk n = 1) := by show _ = _; unfold fmtE; rw [if_pos (.inr (.inl h1))]
        clear hE
        go_enter Try.func27, Try.ntmps27
        go_wp2_with fail
        go_ret
        exact ⟨by rw [HZ.out]; rfl, rfl⟩
      · by_cases h2 : 64 < chunk
        · have HZ : Hid (fmtE slots chunk n = 1) := by show _ = _; unfold fmtE; rw [if_pos (.inr (.inr h2))]
          clear hE
          go_enter Try.func27, Try.ntmps27
          go_wp2_with fail
          go_ret
          exact ⟨by rw [HZ.out]; rfl, rfl⟩
        · have hm : mSize slots = slots + 1 := by unfold mSize; rw [if_neg (by omega)]
          have h3 : (n : Int) < mSize slots := by
            unfold fmtE at hE
            rw [if_neg (by omega)] at hE
            split at hE
            · assumption
            · exact absurd rfl hE
          have HZ : Hid (fmtE slots chunk n = 3) := by show _ = _; unfold fmtE; rw [if_neg (by omega), if_pos h3]
          clear hE
          go_enter Try.func27, Try.ntmps27
          go_wp2_with fail
          refine (rsize_any slots W).mono ?_
          rintro e w' ⟨rfl, rfl⟩
          go_wp2_with fail
          go_ret
          exact ⟨by rw [HZ.out]; rfl, rfl⟩

set_option maxRecDepth 100000 in
set_option maxHeartbeats 2000000 in
theorem rformat_ok (W : World) (n0 base b n c k : Nat) (chunk : Int) (l : List Nat) (hO : W.ownsRow base 28 1 (.slice (some ⟨b, 0, none⟩) n c) n (uv l)) (hn : l.length = n) (hnb : n0 ≤ b) (hk : 1 ≤ k ∧ k ≤ 1024) (hkn : k + 1 ≤ n) (hn2 : n ≤ 65536) (hc : 1 ≤ chunk ∧ chunk ≤ 64) (hw0 : n0 ≤ W.heap.size) :
    Calls Try.prog 27 #[.slice (some ⟨b, 0, none⟩) n c, .int .i64 (k : Int), .int .i64 chunk] W fun e w' => e = .returned (.int .i64 0) ∧ w'.ownsRow base 28 1 (.slice (some ⟨b, 0, none⟩) n c) n (uv (setZ (l.set 0 (hdI k chunk 0 false)) k)) ∧ Below n0 W w' := by
  have hm : mSize (k : Int) = (k : Int) + 1 := by unfold mSize; rw [if_neg (by omega)]
  have t0 : ¬ (k : Int) < 1 := by omega
  have t1 : ¬ 1024 < (k : Int) := by omega
  have t2 : ¬ chunk < 1 := by omega
  have t3 : ¬ 64 < chunk := by omega
  have t4 : ¬ (n : Int) < (k : Int) + 1 := by omega
  have HN := Lib.hid hn
  have HO := Lib.hid hO
  clear hn hO
  go_enter Try.func27, Try.ntmps27
  go_wp2_with fail
  refine (rsize_any (k : Int) W).mono ?_
  rintro e w' ⟨rfl, rfl⟩
  rw [hm]
  go_wp2_with fail
  refine (rhead_any k chunk 0 false W).mono ?_
  rintro e w1 ⟨rfl, hb1⟩
  have hO1 := own_keepB HO.out hb1
  generalize hhv : hdI k chunk 0 false = hv at *
  have HHV := Lib.hid hhv
  clear hhv
  have f0 := hO1.frozenAt 0
  have c0 := hO1.cellAt 0 (by omega)
  rw [uv_at _ _ (by rw [HN.out]; omega)] at c0
  have hst := (hO1.stored 0 (.int .u64 (hv : Int))).1
  rw [uv_set] at hst
  have HST := Lib.hid hst
  have hbs := (hb1.mono hw0).setCell (p := ⟨b, 0, none⟩) hnb (.int .u64 (hv : Int))
  generalize (l[0]?.getD 0) = x0 at c0
  clear hst hO1 HO
  go_wp2_with fail
  generalize (w1.setCell _ _) = V at HST hbs ⊢
  clear c0 f0 hb1
  have HL0 : Hid ((l.set 0 hv).length = n) := by show _ = _; rw [List.length_set, HN.out]
  generalize hl0 : l.set 0 hv = l0 at *
  have HLL := Lib.hid hl0
  clear hl0
  go_loopw [7] (fun x wr => ∃ j : Nat, j ≤ k ∧ x = .int .i64 j ∧ wr.ownsRow base 28 1 (.slice (some ⟨b, 0, none⟩) n c) n (uv (setZ l0 j)) ∧ Below n0 W wr) (fun x _ => k - (intOf x).toNat)
  case atStart => exact ⟨0, by omega, rfl, HST.out, hbs⟩
  case round =>
    obtain ⟨j, hj, rfl, hown, hbr⟩ := hrel
    by_cases hlt : j < k
    · have f1 := hown.frozenAt (1 + j)
      have c1 := hown.cellAt (1 + j) (by omega)
      rw [uv_at _ _ (by rw [setZ_length, HL0.out]; omega)] at c1
      have hst := (hown.stored (1 + j) (.int .u64 (0 : Int))).1
      rw [show (Value.int IntKind.u64 0) = .int .u64 ((0 : Nat) : Int) from rfl, uv_set] at hst
      have HST2 : Hid ((wr.setCell ⟨b, 1 + j, none⟩ (.int .u64 0)).ownsRow base 28 1 (.slice (some ⟨b, 0, none⟩) n c) n (uv (setZ l0 (j + 1)))) := hst
      have hb3 := hbr.setCell (p := ⟨b, 1 + j, none⟩) hnb (.int .u64 (0 : Int))
      have e2 : IntKind.i64.wrap (1 + (j : Int)) = ((1 + j : Nat) : Int) := by rw [IntWalk.i64_in _ (by omega)]; omega
      have e3 : ((1 + j : Nat) : Int) < (n : Int) := by omega
      generalize ((setZ l0 j)[1 + j]?.getD 0) = x1 at c1
      clear hst hown
      go_wp2_with fail
      go_roundw
      case rel => exact ⟨j + 1, by omega, by go_num, HST2.out, hb3⟩
      case measure => simp [intOf]; omega
    · have hjk : j = k := by omega
      subst hjk
      have HO2 := Lib.hid hown
      clear hown
      go_wp2_with fail
      go_ret
      exact ⟨rfl, by rw [HHV.out, HLL.out]; exact HO2.out, hbr⟩

end Go.Proofs.Ytpiffapnbjnjiaa
