/-
  The law TreenodeSeals.
-/
import Derived.Test.YtjnkajdfdhockaaNodeY
namespace Go.Proofs.Ytjnkajdfdhockaa
set_option linter.unusedVariables false
open Go.RowKit

set_option maxRecDepth 100000 in
set_option maxHeartbeats 1000000 in
theorem seals_any (A : Option Addr) (c n : Nat) (l : List Nat) (kind level count block : Int) (w : World) (hn : l.length = n) (hA : Reads w A (uv l)) (hl : W64 l) (hc : n ≤ c) :
    Calls Try.prog 5 #[.slice A n c, .int .i64 kind, .int .i64 level, .int .i64 count, .int .i64 block] w fun e w' => e = .returned (.bool true) ∧ Below w.heap.size w w' := by
  have HL := Lib.hid hn
  clear hn
  by_cases h20 : 20 < n
  · have z1 : (20 : Int) < (n : Int) := by omega
    have z2 : (20 : Int) ≤ (c : Int) := by omega
    have z3 : 20 ≤ c := by omega
    go_enter Try.func5, Try.ntmps5
    go_wp2_with fail
    refine (awake_any _).mono ?_
    rintro e w8 ⟨rfl, b8⟩
    go_wp2_with fail
    go_ret
    exact ⟨rfl, b8⟩
  · have z1 : ¬ (20 : Int) < (n : Int) := by omega
    by_cases h16 : 16 < n
    · have z2 : (16 : Int) < (n : Int) := by omega
      go_enter Try.func5, Try.ntmps5
      go_wp2_with fail
      refine (awake_any _).mono ?_
      rintro e w8 ⟨rfl, b8⟩
      go_wp2_with fail
      go_ret
      exact ⟨rfl, b8⟩
    · have z2 : ¬ (16 : Int) < (n : Int) := by omega
      have hsl : Hid ((sealN l).length = 16) := sealN_length l (by rw [HL.out]; omega)
      go_enter Try.func5, Try.ntmps5
      go_wp2_with fail
      refine (seal_any A c n l w HL.out hA hl (by omega)).mono ?_
      rintro e w1 ⟨g1, rfl, ho1, hb1⟩
      have r1 := Lib.hid (Reads.of_own ho1)
      clear ho1
      go_wp2_with fail
      refine (refSeal_any A c n l w1 HL.out (hA.keep hb1) hl (by omega)).mono ?_
      rintro e w2 ⟨g2, rfl, ho2, hb2⟩
      have r2 := Lib.hid (Reads.of_own ho2)
      have hbw2 := hb1.trans (hb2.mono hb1.size)
      clear ho2
      go_wp2_with fail
      refine (same_any' (some ⟨g1, 0, none⟩) (some ⟨g2, 0, none⟩) 16 16 16 16 (sealN l) (sealN l) w2 hsl.out hsl.out (r1.out.keep hb2) r2.out (by omega) (by omega)).mono ?_
      rintro e w3 ⟨rfl, n3, rfl⟩
      rw [decide_eq_true (rfl : sealN l = sealN l)]
      have hbw3 := below_drewN hbw2 n3
      generalize (w2.drewN n3) = w3 at hbw3 ⊢
      go_wp2_with fail
      refine (header_any kind level count block w3).mono ?_
      rintro e w4 ⟨rfl, hb4⟩
      have hbw4 := hbw3.trans (hb4.mono hbw3.size)
      go_wp2_with fail
      refine (refHeader_any kind level count block w4).mono ?_
      rintro e w5 ⟨rfl, rfl⟩
      have q : (((hdN kind level count block : Nat) : Int) == ((hdN kind level count block : Nat) : Int)) = true := by simp
      go_wp2_with fail
      refine (awake_any w4).mono ?_
      rintro e w6 ⟨rfl, hb6⟩
      go_wp2_with fail
      go_ret
      exact ⟨rfl, hbw4.trans (hb6.mono hbw4.size)⟩

end Go.Proofs.Ytjnkajdfdhockaa
