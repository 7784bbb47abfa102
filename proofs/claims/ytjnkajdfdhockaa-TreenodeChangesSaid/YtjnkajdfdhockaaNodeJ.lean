/-
  Decode at any words; ref25.SameEntries, Same.
-/
import Derived.Test.YtjnkajdfdhockaaNodeI
import Derived.Laws.StructEq
namespace Go.Proofs.Ytjnkajdfdhockaa
set_option linter.unusedVariables false
open Go.RowKit

def decLv (l : List Nat) (block : Int) : Int := if decE l block = 0 then lvN l else 0
def decSq (l : List Nat) (block : Int) : Int := if decE l block = 0 then sqN l else 0
def decL (l : List Nat) (block : Int) : List (Int × Nat) := if decE l block = 0 then upto (entAt l) (cntN l) else []

theorem dec_post {l : List Nat} {block : Int} {w : World} {e : Ending} {w' : World} (h : DecP l block w e w') :
    ∃ v, e = .returned (.tuple #[.agg #[.int .i64 (decLv l block), .int .i64 (decSq l block), v], .int .i64 (decE l block)]) ∧ w'.ownsRow w.heap.size 52 2 v (decL l block).length (ev (decL l block)) ∧ Below w.heap.size w w' := by
  unfold decLv decSq decL
  rcases h with ⟨rfl, hE, hb⟩ | ⟨v, rfl, hE, hown, hb⟩
  · rw [hE, if_neg (by decide), if_neg (by decide), if_neg (by decide)]
    exact ⟨_, rfl, World.ownsRow_nil _ _ _ _, hb⟩
  · rw [hE, if_pos rfl, if_pos rfl, if_pos rfl, upto_length]
    exact ⟨_, rfl, hown, hb⟩

theorem decode_all (A : Option Addr) (c n : Nat) (l : List Nat) (block : Int) (w : World) (hn : l.length = n) (hA : Reads w A (uv l)) (hl : W64 l) (hlen : n ≤ 1000000) :
    Calls Try.prog 22 #[.slice A n c, .int .i64 block] w fun e w' => ∃ v, e = .returned (.tuple #[.agg #[.int .i64 (decLv l block), .int .i64 (decSq l block), v], .int .i64 (decE l block)]) ∧ w'.ownsRow w.heap.size 52 2 v (decL l block).length (ev (decL l block)) ∧ Below w.heap.size w w' := by
  by_cases hE : sealedN l 2 block = 0
  · exact (decode_yes A c n l block w hn hA hl hlen hE).mono fun e w' h => dec_post h
  · have hd : decE l block = sealedN l 2 block := by unfold decE; rw [if_pos hE]
    refine (decode_no A c n l block w hn hA hl hlen hE).mono ?_
    rintro e w' ⟨rfl, hb⟩
    unfold decLv decSq decL
    rw [hd, if_neg hE, if_neg hE, if_neg hE]
    exact ⟨_, rfl, World.ownsRow_nil _ _ _ _, hb⟩

theorem refDecode_all (A : Option Addr) (c n : Nat) (l : List Nat) (block : Int) (w : World) (hn : l.length = n) (hA : Reads w A (uv l)) (hl : W64 l) (hlen : n ≤ 1000000) :
    Calls Try.prog 23 #[.slice A n c, .int .i64 block] w fun e w' => ∃ v, e = .returned (.tuple #[.agg #[.int .i64 (decLv l block), .int .i64 (decSq l block), v], .int .i64 (decE l block)]) ∧ w'.ownsRow w.heap.size 52 2 v (decL l block).length (ev (decL l block)) ∧ Below w.heap.size w w' := by
  by_cases hE : sealedN l 2 block = 0
  · exact (refDecode_yes A c n l block w hn hA hl hlen hE).mono fun e w' h => dec_post h
  · have hd : decE l block = sealedN l 2 block := by unfold decE; rw [if_pos hE]
    refine (refDecode_no A c n l block w hn hA hl hlen hE).mono ?_
    rintro e w' ⟨rfl, hb⟩
    unfold decLv decSq decL
    rw [hd, if_neg hE, if_neg hE, if_neg hE]
    exact ⟨_, rfl, World.ownsRow_nil _ _ _ _, hb⟩

theorem take_eq_snoc2 {xs ys : List (Int × Nat)} {k : Nat} (hx : k < xs.length) (hl : xs.length = ys.length) (h : xs.take k = ys.take k) (e1 : (xs[k]?.getD (0, 0)).1 = (ys[k]?.getD (0, 0)).1) (e2 : (xs[k]?.getD (0, 0)).2 = (ys[k]?.getD (0, 0)).2) : xs.take (k + 1) = ys.take (k + 1) := by
  have hy : k < ys.length := by omega
  rw [List.take_succ_eq_append_getElem hx, List.take_succ_eq_append_getElem hy, h]
  simp [hx, hy] at e1 e2
  rw [Prod.ext e1 e2]

theorem e_held : Try.prog.stoodInHeld 52 = false := by kernel_rfl
theorem e_guard : Try.prog.eqGuardType Try.prog.depth 52 = false := by kernel_rfl

set_option maxRecDepth 100000 in
set_option maxHeartbeats 1000000 in
theorem sameE_any (A B : Option Addr) (c d n m : Nat) (xs ys : List (Int × Nat)) (w : World) (hN : xs.length = n) (hM : ys.length = m) (ha : Reads w A (ev xs)) (hb : Reads w B (ev ys)) (hx : n ≤ 1000000) (hy : m ≤ 1000000) :
    Calls Try.prog 40 #[.slice A n c, .slice B m d] w fun e w' => e = .returned (.bool (decide (xs = ys))) ∧ ∃ n, w' = w.drewN n := by
  by_cases hl : n = m
  · subst hl
    have H1 : ((n : Int) != (n : Int)) = false := by simp
    have HN := Lib.hid hN
    have HM := Lib.hid hM
    have HA := Lib.hid ha
    have HB := Lib.hid hb
    clear hN hM ha hb hy
    go_enter Try.func40, Try.ntmps40
    go_wp2_with fail
    go_loopw [5] (fun i wr => ∃ k m : Nat, k ≤ n ∧ i = .int .i64 k ∧ wr = w.drewN m ∧ Hid (xs.take k = ys.take k)) (fun i _ => n - (intOf i).toNat)
    case atStart => exact ⟨0, 0, Nat.zero_le _, rfl, rfl, by show _ = _; simp⟩
    case round =>
      obtain ⟨k, m, hk, rfl, rfl, hs⟩ := hrel
      by_cases hlt : k < n
      · obtain ⟨b, off, rfl, hb1, hc⟩ := HA.out.e (by rw [HN.out]; omega)
        obtain ⟨b2, off2, rfl, hb2, hc2⟩ := HB.out.e (by rw [HM.out]; omega)
        obtain ⟨f1, f2⟩ := hc k (by rw [HN.out]; omega)
        obtain ⟨g1, g2⟩ := hc2 k (by rw [HM.out]; omega)
        obtain ⟨x, ex⟩ : ∃ x, (xs[k]?.getD (0, 0)).1 = x := ⟨_, rfl⟩
        obtain ⟨y, ey⟩ : ∃ y, (ys[k]?.getD (0, 0)).1 = y := ⟨_, rfl⟩
        obtain ⟨x', ex'⟩ : ∃ x, (xs[k]?.getD (0, 0)).2 = x := ⟨_, rfl⟩
        obtain ⟨y', ey'⟩ : ∃ y, (ys[k]?.getD (0, 0)).2 = y := ⟨_, rfl⟩
        rw [ex] at f1
        rw [ex'] at f2
        rw [ey] at g1
        rw [ey'] at g2
        have EX := Lib.hid ex
        have EY := Lib.hid ey
        have EX' := Lib.hid ex'
        have EY' := Lib.hid ey'
        clear ex ey ex' ey' hc hc2
        have k1 := e_held
        have k2 := e_guard
        by_cases hxy : x = y ∧ x' = y'
        · have hq : (x == y) = true := by simp; omega
          have hq2 : ((x' : Int) == (y' : Int)) = true := by simp; omega
          go_wp2_with fail
          go_quiet (fail)
          go_wp2_with fail
          go_roundw
          case rel => exact ⟨k + 1, _, by omega, by go_num, rfl, take_eq_snoc2 (by rw [HN.out]; omega) (by rw [HN.out, HM.out]) hs.out (by rw [EX.out, EY.out]; exact hxy.1) (by rw [EX'.out, EY'.out]; exact hxy.2)⟩
          case measure => simp [intOf]; omega
        · have hF : decide (xs = ys) = false := by
            simp only [decide_eq_false_iff_not]
            intro h
            exact hxy ⟨by rw [← EX.out, ← EY.out, h], by rw [← EX'.out, ← EY'.out, h]⟩
          have HF := Lib.hid hF
          clear hF
          by_cases h1 : x = y
          · have hq : (x == y) = true := by simp; omega
            have hq2 : ((x' : Int) == (y' : Int)) = false := by simp; omega
            clear hxy h1
            go_wp2_with fail
            go_quiet (fail)
            go_wp2_with fail
            go_ret
            exact ⟨by rw [HF.out]; rfl, m + nq, by rw [World.drewN_drewN]⟩
          · have hq : (x == y) = false := by simp; omega
            clear hxy h1
            go_wp2_with fail
            go_quiet (fail)
            go_wp2_with fail
            go_ret
            exact ⟨by rw [HF.out]; rfl, m + nq, by rw [World.drewN_drewN]⟩
      · have hT : decide (xs = ys) = true := by
          have h := hs.out
          rw [List.take_of_length_le (by rw [HN.out]; omega), List.take_of_length_le (by rw [HM.out]; omega)] at h
          simpa using h
        have HT := Lib.hid hT
        clear hT
        go_wp2_with fail
        go_ret
        exact ⟨by rw [HT.out]; rfl, _, rfl⟩
  · have h1 : ((n : Int) != (m : Int)) = true := by simp; omega
    have h2 : Hid (decide (xs = ys) = false) := by show decide (xs = ys) = false; simp; intro h; exact hl (by rw [← hN, ← hM, h])
    clear hN hM
    go_enter Try.func40, Try.ntmps40
    go_wp2_with fail
    go_ret
    exact ⟨by rw [h2.out]; rfl, 0, rfl⟩

set_option maxRecDepth 100000 in
set_option maxHeartbeats 1000000 in
theorem sameN_any (lv sq lv' sq' : Int) (A B : Option Addr) (c d n m : Nat) (xs ys : List (Int × Nat)) (w : World) (hN : xs.length = n) (hM : ys.length = m) (ha : Reads w A (ev xs)) (hb : Reads w B (ev ys)) (hx : n ≤ 1000000) (hy : m ≤ 1000000) :
    Calls Try.prog 25 #[.agg #[.int .i64 lv, .int .i64 sq, .slice A n c], .agg #[.int .i64 lv', .int .i64 sq', .slice B m d]] w fun e w' => e = .returned (.bool (decide (lv = lv' ∧ sq = sq' ∧ xs = ys))) ∧ Below w.heap.size w w' := by
  have hbw : Below w.heap.size w ((w.alloc (.cells #[.int .i64 lv, .int .i64 sq, .slice A n c] 27)).alloc (.cells #[.int .i64 lv', .int .i64 sq', .slice B m d] 27)) := ((Below.refl _ w).alloc (Nat.le_refl _) _).alloc (by simp) _
  by_cases h1 : lv = lv'
  · have q1 : (lv == lv') = true := by simpa using h1
    by_cases h2 : sq = sq'
    · have q2 : (sq == sq') = true := by simpa using h2
      have HE : Hid (decide (lv = lv' ∧ sq = sq' ∧ xs = ys) = decide (xs = ys)) := by show _ = _; simp [h1, h2]
      have HS := Lib.hid (sameE_any A B c d n m xs ys _ hN hM (ha.keep hbw) (hb.keep hbw) hx hy)
      generalize decide (xs = ys) = q at HS HE
      clear h1 h2 hN hM
      go_enter Try.func25, Try.ntmps25
      go_wp2_with fail
      refine HS.out.mono ?_
      rintro e w' ⟨rfl, n, rfl⟩
      go_wp2_with fail
      go_ret
      exact ⟨by rw [HE.out]; rfl, below_drewN hbw _⟩
    · have q2 : (sq == sq') = false := by simpa using h2
      have HE : Hid (decide (lv = lv' ∧ sq = sq' ∧ xs = ys) = false) := by show _ = _; simp [h2]
      clear h1 h2 hN hM
      go_enter Try.func25, Try.ntmps25
      go_wp2_with fail
      go_ret
      exact ⟨by rw [HE.out]; rfl, hbw⟩
  · have q1 : (lv == lv') = false := by simpa using h1
    have HE : Hid (decide (lv = lv' ∧ sq = sq' ∧ xs = ys) = false) := by show _ = _; simp [h1]
    clear h1 hN hM
    go_enter Try.func25, Try.ntmps25
    go_wp2_with fail
    go_ret
    exact ⟨by rw [HE.out]; rfl, hbw⟩

end Go.Proofs.Ytjnkajdfdhockaa
