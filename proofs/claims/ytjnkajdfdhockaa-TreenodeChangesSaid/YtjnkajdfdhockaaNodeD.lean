/-
  treenode.Sealed, ref25.Sealed.
-/
import Derived.Test.YtjnkajdfdhockaaNodeC
namespace Go.Proofs.Ytjnkajdfdhockaa
set_option linter.unusedVariables false
open Go.RowKit

/-- What Sealed answers. -/
def sealedN (l : List Nat) (kind block : Int) : Int :=
  if l.length ≠ 16 then 3 else
  if (l[0]?.getD 0) / 281474976710656 ≠ 19796 ∨ (((l[0]?.getD 0) % 16 : Nat) : Int) ≠ kind then 2 else
  if (l[0]?.getD 0) / 4294967296 % 65536 ≠ sumN l then 11 else
  if (((l[0]?.getD 0) / 4096 % 1048576 : Nat) : Int) ≠ block then 24 else 0

theorem and_mask (x n : Nat) : x &&& (2 ^ n - 1) = x % 2 ^ n := Nat.and_two_pow_sub_one_eq_mod x n

/-- The fields of a header's word. -/
def fieldsN (x : Nat) : List Nat := [x % 16, x / 16 % 16, x / 256 % 16, x / 4096 % 1048576, x / 4294967296 % 65536, x / 281474976710656]
theorem split_head (x : Nat) (hx : x < 18446744073709551616) : splitR headW x = fieldsN x := by
  have hf : upto (fldOf headW) 6 = [⟨0, 15, by omega, by omega⟩, ⟨4, 15, by omega, by omega⟩, ⟨8, 15, by omega, by omega⟩, ⟨12, 1048575, by omega, by omega⟩, ⟨32, 65535, by omega, by omega⟩, ⟨48, 65535, by omega, by omega⟩] := by rfl
  unfold splitR
  rw [if_pos (by decide), show headW.length = 6 from rfl, hf]
  have m4 := and_mask x 4
  have m4' := and_mask (x / 16) 4
  have m4'' := and_mask (x / 256) 4
  have m20 := and_mask (x / 4096) 20
  have m16 := and_mask (x / 4294967296) 16
  have m16' := and_mask (x / 281474976710656) 16
  simp only [Nat.reducePow, Nat.reduceSub] at m4 m4' m4'' m20 m16 m16'
  simp only [splitF, List.map_cons, List.map_nil, fieldsN, Nat.shiftRight_eq_div_pow, Nat.reducePow, Nat.div_one, m4, m4', m4'', m20, m16, m16']
  rw [show x / 281474976710656 % 65536 = x / 281474976710656 by omega]

theorem splitE_head : splitE headW = 0 := by decide

set_option maxHeartbeats 1000000 in
theorem split_widths (x : Nat) (w : World) (A : Option Addr) (hA : Reads w A (iv headW)) (hx : x < 18446744073709551616) :
    Calls Try.prog 41 #[.int .u64 x, .slice A 6 6] w fun e w' => ∃ g d, e = .returned (.tuple #[.slice (some ⟨g, 0, none⟩) 6 d, .int .i64 0]) ∧ w.heap.size ≤ g ∧ g < w'.heap.size ∧ (∀ i, i < 6 → w'.cell? ⟨g, i, none⟩ = some (.int .u64 (((fieldsN x)[i]?.getD 0 : Nat) : Int))) ∧ Below w.heap.size w w' := by
  have h := split_ok x A 6 headW w hA (by decide) (by decide) hx
  have hs := split_head x hx
  unfold splitR at hs
  rw [if_pos (by decide)] at hs
  rw [hs] at h
  refine h.mono ?_
  rintro e w' ⟨v, rfl, hown, hb⟩
  obtain ⟨g, cap, rfl, hg, hlt⟩ := hown.form (by decide)
  refine ⟨g, cap, rfl, hg, hlt, fun i hi => ?_, hb⟩
  have hc := hown.cellAt i hi
  rwa [uv_at _ _ (by simpa [fieldsN] using hi)] at hc

set_option maxRecDepth 100000 in
set_option maxHeartbeats 1000000 in
theorem sealed_any (A : Option Addr) (c n : Nat) (l : List Nat) (kind block : Int) (w : World) (hn : l.length = n) (hA : Reads w A (uv l)) (hl : W64 l) (hlen : n ≤ 1000000) :
    Calls Try.prog 26 #[.slice A n c, .int .i64 kind, .int .i64 block] w fun e w' => e = .returned (.int .i64 (sealedN l kind block)) ∧ Below w.heap.size w w' := by
  by_cases h16 : n = 16
  · subst h16
    have hx := hl.at 0
    obtain ⟨b, off, rfl, hb, hc⟩ := hA.u (by omega)
    have hc0 := hc 0 (by omega)
    rw [Nat.add_zero] at hc0
    have HS := Lib.hid (fun W hA => sum_any (some ⟨b, off, none⟩) c 16 l W hn hA hl (by omega) (by omega))
    have HN : Hid (sealedN l kind block = if (l[0]?.getD 0) / 281474976710656 ≠ 19796 ∨ (((l[0]?.getD 0) % 16 : Nat) : Int) ≠ kind then 2 else
      if (l[0]?.getD 0) / 4294967296 % 65536 ≠ sumN l then 11 else
      if (((l[0]?.getD 0) / 4096 % 1048576 : Nat) : Int) ≠ block then 24 else 0) := by
      show _ = _
      unfold sealedN
      rw [if_neg (by omega)]
    have HA := Lib.hid hA
    clear hc hn hA
    generalize (l[0]?.getD 0) = x at *
    generalize sumN l = s at *
    go_enter Try.func26, Try.ntmps26
    go_wp2_with fail
    go_region_held3 (fun w' => w'.cell? ⟨b, off, none⟩ = some (.int .u64 (x : Int))) (first | exact hc0 | exact hcA | exact hcB)
      (first
        | (go_at_call 42; refine (widths_any _).mono ?_; rintro e w1 ⟨rfl, hr1, hb1⟩; have hcA := (hb1.cell (p := ⟨b, off, none⟩) hb).trans hc0)
        | (go_at_call 41; refine (split_widths x _ _ hr1 hx).mono ?_; rintro e w2 ⟨g, d, rfl, hg1, hg2, hg3, hb2⟩; have hcB := (hb2.cell (p := ⟨b, off, none⟩) (Nat.lt_of_lt_of_le hb hb1.size)).trans hcA))
    have f0 : w2.cell? ⟨g, 0, none⟩ = some (.int .u64 ((x % 16 : Nat) : Int)) := hg3 0 (by omega)
    have f3 : w2.cell? ⟨g, 3, none⟩ = some (.int .u64 ((x / 4096 % 1048576 : Nat) : Int)) := hg3 3 (by omega)
    have f4 : w2.cell? ⟨g, 4, none⟩ = some (.int .u64 ((x / 4294967296 % 65536 : Nat) : Int)) := hg3 4 (by omega)
    have f5 : w2.cell? ⟨g, 5, none⟩ = some (.int .u64 ((x / 281474976710656 : Nat) : Int)) := hg3 5 (by omega)
    have q0 : x % 16 < 16 := by omega
    have q3 : x / 4096 % 1048576 < 1048576 := by omega
    have q4 : x / 4294967296 % 65536 < 65536 := by omega
    have hbw : Below w.heap.size w w2 := ((Below.refl w.heap.size w).drew.trans hb1).trans (hb2.mono hb1.size)
    have HA2 := Lib.hid (HA.out.keep hbw)
    generalize x % 16 = y0 at *
    generalize x / 4096 % 1048576 = y3 at *
    generalize x / 4294967296 % 65536 = y4 at *
    generalize x / 281474976710656 = y5 at *
    clear hg3 hcA hcB hc0 hr1 hb1 hb2 HA
    by_cases e5 : y5 = 19796
    · have d5 : ((y5 : Int) != 19796) = false := by simp; omega
      by_cases ek : (y0 : Int) = kind
      · have dk : ((y0 : Int) != kind) = false := by simpa using ek
        have HN2 : Hid (sealedN l kind block = if y4 ≠ s then 11 else if (y3 : Int) ≠ block then 24 else 0) := by
          show _ = _
          rw [HN.out, if_neg (by omega)]
        clear HN e5 ek
        go_wp2_with fail
        go_region_held3 (fun w' => w'.cell? ⟨g, 4, none⟩ = some (.int .u64 (y4 : Int))) (first | exact f4 | exact f4a)
          (first
            | (go_at_call 43; refine (HS.out _ (HA2.out.drewN 1)).mono ?_; rintro e w3 ⟨rfl, hb3⟩; have f4a := (hb3.cell (p := ⟨g, 4, none⟩) hg2).trans f4))
        have f3a := (hb3.cell (p := ⟨g, 3, none⟩) hg2).trans f3
        have hbw3 := (hbw.drew).trans (hb3.mono hbw.size)
        by_cases es : y4 = s
        · have ds : ((y4 : Int) != (s : Int)) = false := by simp; omega
          by_cases eb : (y3 : Int) = block
          · have db : ((y3 : Int) != block) = false := by simpa using eb
            have HN3 : Hid (sealedN l kind block = 0) := by
              show _ = _
              rw [HN2.out, if_neg (by omega), if_neg (by omega)]
            clear HN2 es eb f0 f3 f4 f5
            go_wp2_with fail
            go_ret
            exact ⟨ret_int HN3.out.symm, hbw3⟩
          · have db : ((y3 : Int) != block) = true := by simpa using eb
            have HN3 : Hid (sealedN l kind block = 24) := by
              show _ = _
              rw [HN2.out, if_neg (by omega), if_pos (by omega)]
            clear HN2 es eb f0 f3 f4 f5
            go_wp2_with fail
            go_ret
            exact ⟨ret_int HN3.out.symm, hbw3⟩
        · have ds : ((y4 : Int) != (s : Int)) = true := by simp; omega
          have HN3 : Hid (sealedN l kind block = 11) := by
            show _ = _
            rw [HN2.out, if_pos (by omega)]
          clear HN2 es f0 f3 f4 f5
          go_wp2_with fail
          go_ret
          exact ⟨ret_int HN3.out.symm, hbw3⟩
      · have dk : ((y0 : Int) != kind) = true := by simpa using ek
        have HN2 : Hid (sealedN l kind block = 2) := by
          show _ = _
          rw [HN.out, if_pos (by omega)]
        clear HN e5 ek
        go_wp2_with fail
        go_ret
        exact ⟨ret_int HN2.out.symm, hbw⟩
    · have d5 : ((y5 : Int) != 19796) = true := by simp; omega
      have HN2 : Hid (sealedN l kind block = 2) := by
        show _ = _
        rw [HN.out, if_pos (by omega)]
      clear HN e5
      go_wp2_with fail
      go_ret
      exact ⟨ret_int HN2.out.symm, hbw⟩
  · have h : ((n : Int) != 16) = true := by simp; omega
    have HN : Hid (sealedN l kind block = 3) := by show _ = _; unfold sealedN; rw [if_pos (by omega)]
    clear hn
    go_enter Try.func26, Try.ntmps26
    go_wp2_with fail
    go_ret
    exact ⟨ret_int HN.out.symm, Below.refl _ _⟩

theorem and_low (x n : Nat) (hn : n ≤ 64) (hx : x < 18446744073709551616) : bits BinOp.and IntKind.u64 (x : Int) ((2 ^ n - 1 : Nat) : Int) = ((x % 2 ^ n : Nat) : Int) := by
  have h2 : 2 ^ n ≤ 18446744073709551616 := by
    have := Nat.pow_le_pow_right (n := 2) (by omega) hn
    simpa using this
  have h0 : 0 < 2 ^ n := Nat.pow_pos (by omega)
  rw [u64_and_nat _ _ hx (by omega), Nat.and_two_pow_sub_one_eq_mod]

set_option maxRecDepth 100000 in
set_option maxHeartbeats 1000000 in
theorem refSealed_any (A : Option Addr) (c n : Nat) (l : List Nat) (kind block : Int) (w : World) (hn : l.length = n) (hA : Reads w A (uv l)) (hl : W64 l) (hlen : n ≤ 1000000) :
    Calls Try.prog 27 #[.slice A n c, .int .i64 kind, .int .i64 block] w fun e w' => e = .returned (.int .i64 (sealedN l kind block)) ∧ Below w.heap.size w w' := by
  by_cases h16 : n = 16
  · subst h16
    have hx := hl.at 0
    obtain ⟨b, off, rfl, hb, hc⟩ := hA.u (by omega)
    have hc0 := hc 0 (by omega)
    rw [Nat.add_zero] at hc0
    have HS := Lib.hid (fun W hA => refSum_any (some ⟨b, off, none⟩) c 16 l W hn hA hl (by omega) (by omega))
    have HN : Hid (sealedN l kind block = if (l[0]?.getD 0) / 281474976710656 ≠ 19796 ∨ (((l[0]?.getD 0) % 16 : Nat) : Int) ≠ kind then 2 else
      if (l[0]?.getD 0) / 4294967296 % 65536 ≠ sumN l then 11 else
      if (((l[0]?.getD 0) / 4096 % 1048576 : Nat) : Int) ≠ block then 24 else 0) := by
      show _ = _
      unfold sealedN
      rw [if_neg (by omega)]
    have HA := Lib.hid hA
    clear hc hn hA
    generalize (l[0]?.getD 0) = x at *
    generalize sumN l = s at *
    have b0 : bits BinOp.and IntKind.u64 (x : Int) 15 = ((x % 16 : Nat) : Int) := and_low x 4 (by omega) hx
    have b3 : bits BinOp.and IntKind.u64 ((x : Int) / 4096) 1048575 = ((x / 4096 % 1048576 : Nat) : Int) := and_low (x / 4096) 20 (by omega) (by omega)
    have b4 : bits BinOp.and IntKind.u64 ((x : Int) / 4294967296) 65535 = ((x / 4294967296 % 65536 : Nat) : Int) := and_low (x / 4294967296) 16 (by omega) (by omega)
    have b5 : (x : Int) / 281474976710656 = ((x / 281474976710656 : Nat) : Int) := rfl
    have q0 : x % 16 < 16 := by omega
    have q3 : x / 4096 % 1048576 < 1048576 := by omega
    have q4 : x / 4294967296 % 65536 < 65536 := by omega
    generalize x % 16 = y0 at *
    generalize x / 4096 % 1048576 = y3 at *
    generalize x / 4294967296 % 65536 = y4 at *
    generalize x / 281474976710656 = y5 at *
    go_enter Try.func27, Try.ntmps27
    by_cases e5 : y5 = 19796
    · have d5 : ((y5 : Int) != 19796) = false := by simp; omega
      by_cases ek : (y0 : Int) = kind
      · have dk : ((y0 : Int) != kind) = false := by simpa using ek
        have HN2 : Hid (sealedN l kind block = if y4 ≠ s then 11 else if (y3 : Int) ≠ block then 24 else 0) := by
          show _ = _
          rw [HN.out, if_neg (by omega)]
        clear HN e5 ek
        go_wp2_with fail
        go_region_held3 (fun w' => w'.cell? ⟨b, off, none⟩ = some (.int .u64 (x : Int))) (first | exact hc0 | exact hcA)
          (first
            | (go_at_call 39; refine (HS.out _ (HA.out.drewN 1)).mono ?_; rintro e w3 ⟨rfl, hb3⟩; have hcA := (hb3.cell (p := ⟨b, off, none⟩) hb).trans hc0))
        have hbw3 := (Below.refl w.heap.size w).drew.trans hb3
        by_cases es : y4 = s
        · have ds : ((y4 : Int) != (s : Int)) = false := by simp; omega
          by_cases eb : (y3 : Int) = block
          · have db : ((y3 : Int) != block) = false := by simpa using eb
            have HN3 : Hid (sealedN l kind block = 0) := by
              show _ = _
              rw [HN2.out, if_neg (by omega), if_neg (by omega)]
            clear HN2 es eb hc0
            go_wp2_with fail
            go_ret
            exact ⟨ret_int HN3.out.symm, hbw3⟩
          · have db : ((y3 : Int) != block) = true := by simpa using eb
            have HN3 : Hid (sealedN l kind block = 24) := by
              show _ = _
              rw [HN2.out, if_neg (by omega), if_pos (by omega)]
            clear HN2 es eb hc0
            go_wp2_with fail
            go_ret
            exact ⟨ret_int HN3.out.symm, hbw3⟩
        · have ds : ((y4 : Int) != (s : Int)) = true := by simp; omega
          have HN3 : Hid (sealedN l kind block = 11) := by
            show _ = _
            rw [HN2.out, if_pos (by omega)]
          clear HN2 es hc0
          go_wp2_with fail
          go_ret
          exact ⟨ret_int HN3.out.symm, hbw3⟩
      · have dk : ((y0 : Int) != kind) = true := by simpa using ek
        have HN2 : Hid (sealedN l kind block = 2) := by
          show _ = _
          rw [HN.out, if_pos (by omega)]
        clear HN e5 ek
        go_wp2_with fail
        go_ret
        exact ⟨ret_int HN2.out.symm, Below.refl _ _⟩
    · have d5 : ((y5 : Int) != 19796) = true := by simp; omega
      have HN2 : Hid (sealedN l kind block = 2) := by
        show _ = _
        rw [HN.out, if_pos (by omega)]
      clear HN e5
      go_wp2_with fail
      go_ret
      exact ⟨ret_int HN2.out.symm, Below.refl _ _⟩
  · have h : ((n : Int) != 16) = true := by simp; omega
    have HN : Hid (sealedN l kind block = 3) := by show _ = _; unfold sealedN; rw [if_pos (by omega)]
    clear hn
    go_enter Try.func27, Try.ntmps27
    go_wp2_with fail
    go_ret
    exact ⟨ret_int HN.out.symm, Below.refl _ _⟩

end Go.Proofs.Ytjnkajdfdhockaa
