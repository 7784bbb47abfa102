/-
  treenode.Header, ref25.Header.
-/
import Derived.Test.YtjnkajdfdhockaaNodeB
namespace Go.Proofs.Ytjnkajdfdhockaa
set_option linter.unusedVariables false
open Go.RowKit

/-- A header: its fields, cut to their widths. -/
def hdN (k l c b : Int) : Nat := (k % 16).toNat + (l % 16).toNat * 16 + (c % 16).toNat * 256 + (b % 1048576).toNat * 4096 + 5572078638964146176

theorem low_bits (x : Int) (n : Nat) (hn : n ≤ 64) : bits BinOp.and IntKind.u64 (IntKind.u64.wrap x) ((2 ^ n - 1 : Nat) : Int) = ((x % ((2 ^ n : Nat) : Int)).toNat : Int) := by
  obtain ⟨y, e, hy⟩ := any_u64 x
  have h2 : 2 ^ n ≤ 18446744073709551616 := by
    have := Nat.pow_le_pow_right (n := 2) (by omega) hn
    simpa using this
  have h0 : 0 < 2 ^ n := Nat.pow_pos (by omega)
  rw [e, u64_and_nat _ _ hy (by omega), Nat.and_two_pow_sub_one_eq_mod]
  congr 1
  have h : IntKind.u64.wrap x = x % 18446744073709551616 := by simp [IntKind.wrap, IntKind.signed, IntKind.bits]
  rw [h] at e
  obtain ⟨q, hq⟩ : 2 ^ n ∣ 18446744073709551616 := by
    have := Nat.pow_dvd_pow 2 hn
    simpa using this
  have hm : (x % ((2 ^ n : Nat) : Int)) = ((y % 2 ^ n : Nat) : Int) := by
    rw [Int.natCast_emod, ← e]
    have : (18446744073709551616 : Int) = ((2 ^ n : Nat) : Int) * (q : Int) := by rw [← Int.natCast_mul, ← hq]; rfl
    exact (Int.emod_emod_of_dvd x ⟨(q : Int), this⟩).symm
  rw [hm]; rfl

theorem or_fits (a b n : Nat) (h : a < 2 ^ n) : a ||| (b * 2 ^ n) = a + b * 2 ^ n := by
  rw [Nat.or_comm, ← Nat.shiftLeft_eq, ← Nat.shiftLeft_add_eq_or_of_lt h, Nat.add_comm]

theorem shl_u (a n : Nat) (h : a * 2 ^ n < 18446744073709551616) : IntKind.u64.wrap ((a : Int) * ((2 ^ n : Nat) : Int)) = ((a * 2 ^ n : Nat) : Int) := by
  rw [← Int.natCast_mul, wrap_nat, Nat.mod_eq_of_lt h]

theorem hd_or (K L C B : Nat) (hK : K < 16) (hL : L < 16) (hC : C < 16) (hB : B < 1048576) :
    bits BinOp.or IntKind.u64 (bits BinOp.or IntKind.u64 (bits BinOp.or IntKind.u64 (bits BinOp.or IntKind.u64 (K : Int) ((L : Int) * 16)) ((C : Int) * 256)) ((B : Int) * 4096)) 5572078638964146176 = ((K + L * 16 + C * 256 + B * 4096 + 5572078638964146176 : Nat) : Int) := by
  have e1 : (L : Int) * 16 = ((L * 2 ^ 4 : Nat) : Int) := by omega
  have e2 : (C : Int) * 256 = ((C * 2 ^ 8 : Nat) : Int) := by omega
  have e3 : (B : Int) * 4096 = ((B * 2 ^ 12 : Nat) : Int) := by omega
  have e4 : (5572078638964146176 : Int) = ((19796 * 2 ^ 48 : Nat) : Int) := by rfl
  rw [e1, e2, e3, e4, u64_or_nat _ _ (by omega) (by omega), or_fits _ _ _ (by omega), u64_or_nat _ _ (by omega) (by omega), or_fits _ _ _ (by omega), u64_or_nat _ _ (by omega) (by omega), or_fits _ _ _ (by omega), u64_or_nat _ _ (by omega) (by omega), or_fits _ _ _ (by omega)]

theorem mod_nat (x : Int) (n : Nat) (h : 0 < n) : (x % (n : Int)).toNat < n := by
  have := Int.emod_lt_of_pos x (b := (n : Int)) (by omega)
  omega

set_option maxHeartbeats 400000 in
theorem refHeader_any (k l c b : Int) (w : World) :
    Calls Try.prog 30 #[.int .i64 k, .int .i64 l, .int .i64 c, .int .i64 b] w fun e w' => e = .returned (.int .u64 ((hdN k l c b : Nat) : Int)) ∧ w = w' := by
  have h1 := low_bits k 4 (by omega)
  have h2 := low_bits l 4 (by omega)
  have h3 := low_bits c 4 (by omega)
  have h4 := low_bits b 20 (by omega)
  rw [show ((2 ^ 4 - 1 : Nat) : Int) = 15 from rfl, show ((2 ^ 4 : Nat) : Int) = 16 from rfl] at h1 h2 h3
  rw [show ((2 ^ 20 - 1 : Nat) : Int) = 1048575 from rfl, show ((2 ^ 20 : Nat) : Int) = 1048576 from rfl] at h4
  have b1 := mod_nat k 16 (by omega)
  have b2 := mod_nat l 16 (by omega)
  have b3 := mod_nat c 16 (by omega)
  have b4 := mod_nat b 1048576 (by omega)
  have HH : Hid (hdN k l c b = (k % 16).toNat + (l % 16).toNat * 16 + (c % 16).toNat * 256 + (b % 1048576).toNat * 4096 + 5572078638964146176) := rfl
  simp only [Int.cast_ofNat_Int] at b1 b2 b3 b4
  generalize (k % 16).toNat = K at *
  generalize (l % 16).toNat = L at *
  generalize (c % 16).toNat = C at *
  generalize (b % 1048576).toNat = B at *
  go_enter Try.func30, Try.ntmps30
  go_wp2
  go_ret
  refine ⟨ret_int ?_, rfl⟩
  rw [HH.out]
  exact hd_or K L C B b1 b2 b3 b4

/-- The fields, cut to their widths, k of them. -/
def mkT (vs : List Nat) : Nat → List Nat
  | 0 => vs
  | k + 1 => (mkT vs k).set k ((vs[k]?.getD 0) &&& (2 ^ (headW[k]?.getD 0).toNat - 1))
theorem mkT_length (vs : List Nat) (k : Nat) : (mkT vs k).length = vs.length := by
  induction k with
  | zero => rfl
  | succ k ih => simp [mkT, ih]
theorem mkT_at (vs : List Nat) (k j : Nat) (h : k ≤ j) : (mkT vs k)[j]?.getD 0 = vs[j]?.getD 0 := by
  induction k with
  | zero => rfl
  | succ k ih => rw [mkT, List.getElem?_set_ne (by omega)]; exact ih (by omega)
theorem mkT_w (vs : List Nat) (h : W64 vs) (k : Nat) : W64 (mkT vs k) := by
  induction k with
  | zero => exact h
  | succ k ih => exact ih.set k _ (and_lt _ (h.at k))
theorem headW_at (k : Nat) (h : k < 6) : 4 ≤ headW[k]?.getD 0 ∧ headW[k]?.getD 0 ≤ 20 := by
  match k, h with
  | 0, _ | 1, _ | 2, _ | 3, _ | 4, _ | 5, _ => decide

theorem mk_bits (x n : Nat) (hx : x < 18446744073709551616) (hn : n < 64) : bits BinOp.and IntKind.u64 (x : Int) (IntKind.u64.wrap (IntKind.u64.wrap (2 ^ n) - 1)) = ((x &&& (2 ^ n - 1) : Nat) : Int) := by
  have := two_pow_lt n hn
  rw [ones_wrap n hn, u64_and_nat _ _ hx (by omega)]

theorem low_nat (x : Int) (y n : Nat) (hn : n ≤ 64) (e : IntKind.u64.wrap x = (y : Int)) (hy : y < 18446744073709551616) : y &&& (2 ^ n - 1) = (x % ((2 ^ n : Nat) : Int)).toNat := by
  have h := low_bits x n hn
  have h2 : 2 ^ n ≤ 18446744073709551616 := by
    have := Nat.pow_le_pow_right (n := 2) (by omega) hn
    simpa using this
  have h0 : 0 < 2 ^ n := Nat.pow_pos (by omega)
  rw [e, u64_and_nat _ _ hy (by omega)] at h
  exact Int.ofNat.inj h

/-- What Fields makes of fields that fit. -/
theorem word_head (K L C B S : Nat) (hK : K < 16) (hL : L < 16) (hC : C < 16) (hB : B < 1048576) (hS : S < 65536) :
    wordR headW [K, L, C, B, S, 19796] = K + L * 16 + C * 256 + B * 4096 + S * 4294967296 + 5572078638964146176 := by
  have hf : upto (fldOf headW) 6 = [⟨0, 15, by omega, by omega⟩, ⟨4, 15, by omega, by omega⟩, ⟨8, 15, by omega, by omega⟩, ⟨12, 1048575, by omega, by omega⟩, ⟨32, 65535, by omega, by omega⟩, ⟨48, 65535, by omega, by omega⟩] := by rfl
  have hl : headW.length = 6 := rfl
  have hfit : fitsB (upto (fldOf headW) 6) [K, L, C, B, S, 19796] = true := by
    rw [hf]
    simp [fitsB]
    omega
  unfold wordR
  rw [hl, if_pos ⟨rfl, by decide, hfit⟩, hf]
  simp only [wordF, List.getElem?_cons_zero, Option.getD_some, List.tail_cons, Nat.shiftLeft_eq, Nat.or_zero]
  rw [Nat.mod_eq_of_lt (by omega), Nat.mod_eq_of_lt (by omega), Nat.mod_eq_of_lt (by omega), Nat.mod_eq_of_lt (by omega), Nat.mod_eq_of_lt (by omega), Nat.mod_eq_of_lt (by omega)]
  rw [← Nat.or_assoc, ← Nat.or_assoc, ← Nat.or_assoc, ← Nat.or_assoc]
  rw [show K * 2 ^ 0 = K by omega, or_fits K L 4 (by omega), or_fits (K + L * 2 ^ 4) C 8 (by omega), or_fits (K + L * 2 ^ 4 + C * 2 ^ 8) B 12 (by omega), or_fits (K + L * 2 ^ 4 + C * 2 ^ 8 + B * 2 ^ 12) S 32 (by omega), or_fits (K + L * 2 ^ 4 + C * 2 ^ 8 + B * 2 ^ 12 + S * 2 ^ 32) 19796 48 (by omega)]

theorem mk_head (k l c b : Int) (k1 l1 c1 b1 : Nat) (e1 : IntKind.u64.wrap k = (k1 : Int)) (e2 : IntKind.u64.wrap l = (l1 : Int)) (e3 : IntKind.u64.wrap c = (c1 : Int)) (e4 : IntKind.u64.wrap b = (b1 : Int))
    (h1 : k1 < 18446744073709551616) (h2 : l1 < 18446744073709551616) (h3 : c1 < 18446744073709551616) (h4 : b1 < 18446744073709551616) : wordR headW (mkT [k1, l1, c1, b1, 0, 19796] 6) = hdN k l c b := by
  have hm : mkT [k1, l1, c1, b1, 0, 19796] 6 = [k1 &&& (2 ^ 4 - 1), l1 &&& (2 ^ 4 - 1), c1 &&& (2 ^ 4 - 1), b1 &&& (2 ^ 20 - 1), 0, 19796] := by simp [mkT, headW]
  rw [hm, low_nat k k1 4 (by omega) e1 h1, low_nat l l1 4 (by omega) e2 h2, low_nat c c1 4 (by omega) e3 h3, low_nat b b1 20 (by omega) e4 h4]
  rw [word_head _ _ _ _ _ (mod_nat k 16 (by omega)) (mod_nat l 16 (by omega)) (mod_nat c 16 (by omega)) (mod_nat b 1048576 (by omega)) (by omega)]
  unfold hdN
  show _ = _
  omega

theorem reads_six (w : World) (g : Nat) (hr : Reads w (some ⟨g, 0, none⟩) (iv headW)) (k : Nat) (hk : k < 6) : w.cell? ⟨g, k, none⟩ = some (.int .i64 (headW[k]?.getD 0)) := by
  obtain ⟨b, off, e, _, hc⟩ := hr.i (by decide)
  simp only [Option.some.injEq, Addr.mk.injEq] at e
  obtain ⟨rfl, rfl, _⟩ := e
  have := hc k hk
  rwa [Nat.zero_add] at this

set_option maxRecDepth 100000 in
set_option maxHeartbeats 1000000 in
theorem header_any (k l c b : Int) (w : World) :
    Calls Try.prog 29 #[.int .i64 k, .int .i64 l, .int .i64 c, .int .i64 b] w fun e w' => e = .returned (.int .u64 ((hdN k l c b : Nat) : Int)) ∧ Below w.heap.size w w' := by
  obtain ⟨k1, e1, hk1⟩ := any_u64 k
  obtain ⟨l1, e2, hl1⟩ := any_u64 l
  obtain ⟨c1, e3, hc1⟩ := any_u64 c
  obtain ⟨b1, e4, hb1⟩ := any_u64 b
  have HV := Lib.hid (mk_head k l c b k1 l1 c1 b1 e1 e2 e3 e4 hk1 hl1 hc1 hb1)
  have hw : W64 [k1, l1, c1, b1, 0, 19796] := by
    intro x hx
    simp only [List.mem_cons, List.not_mem_nil, or_false] at hx
    omega
  go_enter Try.func29, Try.ntmps29
  go_wp2_with fail
  refine (widths_any w).mono ?_
  rintro e w1 ⟨rfl, hr, hb⟩
  have HR := Lib.hid hr
  clear hr
  go_wp2_with fail
  have hown : (w1.alloc (.cells #[.int .u64 (k1 : Int), .int .u64 (l1 : Int), .int .u64 (c1 : Int), .int .u64 (b1 : Int), .int .u64 0, .int .u64 19796] 38)).ownsRow w1.heap.size 38 1 (.slice (some ⟨w1.heap.size, 0, none⟩) 6 6) 6 (uv [k1, l1, c1, b1, 0, 19796]) :=
    World.ownsRow_lit w1 _ 6 (Nat.le_refl _) (by simp only [maxLen]; omega) rfl
  have hbw : Below w1.heap.size w1 (w1.alloc (.cells #[.int .u64 (k1 : Int), .int .u64 (l1 : Int), .int .u64 (c1 : Int), .int .u64 (b1 : Int), .int .u64 0, .int .u64 19796] 38)) := (Below.refl _ _).alloc (Nat.le_refl _) _
  generalize (w1.alloc _) = w2 at hown hbw ⊢
  generalize hvs : [k1, l1, c1, b1, 0, 19796] = vs at hown hw HV
  have hvl : Hid (vs.length = 6) := by show _ = _; rw [← hvs]; rfl
  have HO := Lib.hid hown
  clear e1 e2 e3 e4 hvs hown
  go_loopw [27] (fun i wr => ∃ j : Nat, j ≤ 6 ∧ i = .int .i64 j ∧ wr.ownsRow w1.heap.size 38 1 (.slice (some ⟨w1.heap.size, 0, none⟩) 6 6) 6 (uv (mkT vs j)) ∧ Below w1.heap.size w1 wr) (fun i _ => 6 - (intOf i).toNat)
  case atStart => exact ⟨0, by omega, rfl, HO.out, hbw⟩
  case round =>
    obtain ⟨j, hj, rfl, hown, hbr⟩ := hrel
    by_cases hlt : j < 6
    · have hh := headW_at j hlt
      have hr := (HR.out.keep hbr)
      have hc1 := reads_six _ _ hr j hlt
      have hc2 := hown.cellAt j (by omega)
      have hf := hown.frozenAt j
      rw [uv_at _ _ (by rw [mkT_length, hvl.out]; omega), mkT_at _ _ _ (Nat.le_refl _)] at hc2
      have hx := hw.at j
      have hst := (hown.stored j (.int .u64 (((vs[j]?.getD 0) &&& (2 ^ (headW[j]?.getD 0).toNat - 1) : Nat) : Int))).1
      rw [uv_set] at hst
      have HST : Hid ((wr.setCell ⟨w1.heap.size, j, none⟩ (.int .u64 (((vs[j]?.getD 0) &&& (2 ^ (headW[j]?.getD 0).toNat - 1) : Nat) : Int))).ownsRow w1.heap.size 38 1 (.slice (some ⟨w1.heap.size, 0, none⟩) 6 6) 6 (uv (mkT vs (j + 1)))) := hst
      have hbs := hbr.setCell (p := ⟨w1.heap.size, j, none⟩) (Nat.le_refl _) (.int .u64 (((vs[j]?.getD 0) &&& (2 ^ (headW[j]?.getD 0).toNat - 1) : Nat) : Int))
      have hmb := mk_bits (vs[j]?.getD 0) (headW[j]?.getD 0).toNat hx (by omega)
      generalize (vs[j]?.getD 0) = x at *
      generalize (headW[j]?.getD 0) = n at *
      clear hst hr hown
      generalize (x &&& (2 ^ n.toNat - 1)) = y at HST hbs hmb
      go_wp2_with fail
      go_still_tail 9, (by kernel_rfl)
      go_wp2_with fail
      go_roundw
      case rel => exact ⟨j + 1, by omega, by go_num, World.ownsRow.drew HST.out, hbs.drew⟩
      case measure => simp [intOf]; omega
    · have hr := Reads.of_own hown
      have hl : mkT vs 6 = mkT vs j := by rw [show j = 6 by omega]
      have hlen : (mkT vs 6).length = 6 := by rw [mkT_length, hvl.out]
      rw [← hl] at hr
      have HR2 := Lib.hid hr
      have HL := Lib.hid hlen
      clear hl hlen hr hown
      go_wp2_with fail
      refine (fields_all _ _ _ _ 6 6 headW (mkT vs 6) _ (by rfl) HL.out (HR.out.keep hbr) HR2.out (by omega) (mkT_w vs hw 6)).mono ?_
      rintro e w3 ⟨rfl, hb3⟩
      go_wp2_with fail
      go_ret
      exact ⟨ret_int (by rw [HV.out]), (hb.trans (hbr.mono hb.size)).trans (hb3.mono (Nat.le_trans hb.size hbr.size))⟩

end Go.Proofs.Ytjnkajdfdhockaa
