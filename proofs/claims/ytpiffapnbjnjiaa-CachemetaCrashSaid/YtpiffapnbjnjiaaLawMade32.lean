/-
  law32: made.
-/
import Derived.Test.YtpiffapnbjnjiaaLawSlot32
namespace Go.Proofs.Ytpiffapnbjnjiaa
set_option linter.unusedVariables false
open Go.RowKit
attribute [local go_sem] Oper.semAt_some

def MadeP (W : World) (g : Nat) (e : Ending) (W' : World) : Prop :=
  ∃ v l, e = .returned v ∧ W'.ownsRow W.heap.size 28 1 v l.length (uv l) ∧ 2 ≤ l.length ∧ l.length ≤ 9 ∧ W64 l ∧ SrcAt W' g ∧ W.grownBy W' (some g)

set_option maxRecDepth 100000 in
set_option maxHeartbeats 4000000 in
theorem made_any (W : World) (g : Nat) (h : SrcAt W g) :
    Calls Try.prog 8 #[.pointer (some ⟨g, 0, none⟩)] W (MadeP W g) := by
  have hgl := h.lt
  obtain ⟨i0, hi0, hz0, hz1, hz2⟩ := info_parts u64_info
  go_enter Try.func8, Try.ntmps8
  go_wp2_with fail
  refine (range_any g 1 6 W h (by omega) (by omega) (by omega)).mono ?_
  rintro e W1 ⟨n0, rfl, hn1, hn6, hs1, hg1⟩
  obtain ⟨n, rfl⟩ : ∃ n : Nat, n0 = (n : Int) := ⟨n0.toNat, by omega⟩
  go_wp2_with fail
  refine (range_any g 1 5 W1 hs1 (by omega) (by omega) (by omega)).mono ?_
  rintro e W2 ⟨c0, rfl, hc1, hc5, hs2, hg2⟩
  have hG2 := gb_trans hg1 hg2
  clear hg1 hg2 hs1 h
  go_wp2_with fail
  refine (n_any g 3 W2 hs2 (by omega) (by omega)).mono ?_
  rintro e W3 ⟨m0, rfl, hm1, hm2, hs3, hg3⟩
  have hG3 := gb_trans hG2 hg3
  clear hG2 hg3 hs2
  go_wp2_with fail
  refine (n_any g 2 W3 hs3 (by omega) (by omega)).mono ?_
  rintro e W4 ⟨o0, rfl, ho1, ho2, hs4, hg4⟩
  have hG4 := gb_trans hG3 hg4
  clear hG3 hg4 hs3
  go_wp2_with fail
  refine (rhead_any n c0 m0 (o0 == 0) W4).mono ?_
  rintro e W5 ⟨rfl, hb5⟩
  have hhl := hdI_lt n c0 m0 (o0 == 0)
  have hG5 := gb_below hG4 hb5
  have hs5 := hs4.keep hb5
  generalize hdI n c0 m0 (o0 == 0) = hd at *
  have hsz5 : W.heap.size ≤ W5.heap.size := hG5.size
  have hrow : (W5.alloc (.cells #[.int .u64 (hd : Int)] 28)).ownsRow W.heap.size 28 1 (.slice (some ⟨W5.heap.size, 0, none⟩) 1 1) 1 (uv [hd]) := World.ownsRow_lit W5 #[.int .u64 (hd : Int)] 1 hsz5 (by simp only [maxLen]; omega) rfl
  have hG6 := gb_alloc hG5 (.cells #[.int .u64 (hd : Int)] 28)
  have hs6 := hs5.alloc (.cells #[.int .u64 (hd : Int)] 28)
  go_upto_region 3 with (fail)
  generalize (W5.alloc (.cells #[.int .u64 (hd : Int)] 28)) = W6 at *
  generalize W5.heap.size = s5 at *
  clear hG5 hb5 hs5 hG4 hs4
  go_wp2_with fail
  go_loopw [4, 5] (fun v i wr => ∃ (k : Nat) (l : List Nat), k ≤ n ∧ i = .int .i64 k ∧ wr.ownsRow W.heap.size 28 1 v (k + 1) (uv l) ∧ l.length = k + 1 ∧ W64 l ∧ SrcAt wr g ∧ W.grownBy wr (some g)) (fun _ i _ => n - (intOf i).toNat)
  case atStart => exact ⟨0, [hd], Nat.zero_le _, rfl, hrow, rfl, (by intro x hx; simp at hx; omega), hs6, hG6⟩
  case round =>
    rename World => wx
    obtain ⟨k, l, hk, rfl, hown, hl, hw, hs, hg⟩ := hrel
    obtain ⟨A1, c1, rfl⟩ := own_form hown
    have HO := Lib.hid hown
    have HL := Lib.hid hl
    clear hown hl hrow hs6 hG6
    by_cases hlt : k < n
    · have t1 : (k : Int) < (n : Int) := by omega
      go_wp2_with fail
      refine (lslot_any wx g hs).mono ?_
      rintro e w1 ⟨s, rfl, hst, hbl, hbl2, hs1, hg1⟩
      have HO1 := Lib.hid (own_keep HO.out hg1 (by omega))
      have hG1 := gb_trans hg hg1
      obtain ⟨v, d, b, st⟩ := s
      obtain rfl : st = 0 := hst
      clear hs hg hg1 HO
      unfold Sl.v
      go_upto_region 7 with (fail)
      have hCs := Cs.new w1 50 #[.bool v, .bool d, .int .i64 b, .int .i64 0]
      have hb2 : Below w1.heap.size w1 (w1.alloc (.cells #[.bool v, .bool d, .int .i64 b, .int .i64 0] 50)) := (Below.refl _ _).alloc (Nat.le_refl _) _
      have HO2 := Lib.hid (own_keepB HO1.out hb2)
      have hs2 := hs1.keep hb2
      have hG2 := gb_below hG1 hb2
      have hWs : W.heap.size ≤ w1.heap.size := hG1.size
      generalize (w1.alloc (.cells #[.bool v, .bool d, .int .i64 b, .int .i64 0] 50)) = w2 at *
      have hol : ∀ b', (Value.slice A1 (k + 1) c1).ownBlock = some b' → b' < w1.heap.size := fun b' hb' => own_lt HO1.out b' hb'
      have HOL := Lib.hid hol
      clear hol HO1 hb2
      generalize w1.heap.size = s1 at *
      have k2 : w2.cell? ⟨s1, 2, none⟩ = some (.int .i64 b) := hCs.cell 2
      have f2 := hCs.free 2
      go_upto_region 8 with (fail)
      obtain ⟨Z, hZ⟩ : ∃ Z, wrap64 ((k : Int) + wrap64 (10 * bits BinOp.and IntKind.i64 b 3)) = Z := ⟨_, rfl⟩
      rw [hZ]
      have hC3 : Cs (w2.setCell ⟨s1, 2, none⟩ (.int .i64 Z)) s1 50 #[.bool v, .bool d, .int .i64 Z, .int .i64 0] := heap_setCell_same w2 s1 2 _ _ (.int .i64 Z) hCs
      have hfs := fr_set w2 s1 2 (.int .i64 Z)
      have HO3 := Lib.hid (own_fr HO2.out hfs (fun b' hb' e => by have := HOL.out b' hb'; omega))
      have hs3 := hs2.set (b := s1) (i := 2) (by omega) (.int .i64 Z)
      have hG3 := gb_set hG2 (b := s1) (i := 2) hWs (.int .i64 Z)
      clear hZ hCs f2 k2 hs2 hG2 HO2 hs1 hG1 hfs
      generalize (w2.setCell ⟨s1, 2, none⟩ (.int .i64 Z)) = w3 at *
      have k0 : w3.cell? ⟨s1, 0, none⟩ = some (.bool v) := hC3.cell 0
      have k1 : w3.cell? ⟨s1, 1, none⟩ = some (.bool d) := hC3.cell 1
      have k2 : w3.cell? ⟨s1, 2, none⟩ = some (.int .i64 Z) := hC3.cell 2
      have k3 : w3.cell? ⟨s1, 3, none⟩ = some (.int .i64 0) := hC3.cell 3
      clear hC3
      go_wp2_with fail
      refine (rword_any ⟨v, d, Z, 0⟩ w3).mono ?_
      rintro e w4 ⟨rfl, hb4⟩
      have hwl := word_lt ⟨v, d, Z, 0⟩
      generalize (Sl.mk v d Z 0).word = wd at *
      have HO4 := Lib.hid (own_keepB HO3.out hb4)
      have hs4 := hs3.keep hb4
      have hG4 := gb_below hG3 hb4
      have hsz4 : W.heap.size ≤ w4.heap.size := hG4.size
      clear HO3 hs3 hG3 k0 k1 k2 k3 hb4
      go_wp2_with (at_builtin; refine wpList_append_reads _ (by rfl) _ _ _ (by rfl) W.heap.size 28 i0 _ 1 8 Try.underlying25 hi0 hz0 hz1 hz2 (by rfl) (by omega) (.slice A1 (k + 1) c1) (k + 1) (uv l) (by rfl) (HO4.out.alloc _) (some ⟨w4.heap.size, 0, none⟩) 1 1 [.int .u64 (wd : Int)] (by rfl) (by rfl) (Reads.new _ _ _) (by simp [Value.oneCell']) (by simp only [maxLen]; omega) (by omega) (by simp; omega) ?_; intro v5 w5 hown5 hg5 hat5)
      have hb5 := app_below HO4.out hg5 hsz4
      have hG5 : W.grownBy w5 (some g) := ⟨hb5.os.trans hG4.os, hb5.tape.trans hG4.tape, hb5.output.trans hG4.output, Nat.le_trans hG4.size hb5.size, fun j hj hne => (hb5.block j hj).trans (hG4.block j hj hne)⟩
      have hs5 : SrcAt w5 g := hs4.below (B := W.heap.size) hb5 hgl
      have ho5 : w5.ownsRow W.heap.size 28 1 v5 (k + 1 + 1) (uv (l ++ [wd])) := by rw [uv_append]; exact hown5
      have HO5 := Lib.hid ho5
      have hl5 : (l ++ [wd]).length = k + 1 + 1 := by rw [List.length_append, HL.out]; rfl
      have HL5 := Lib.hid hl5
      have hw5 : W64 (l ++ [wd]) := by
        intro x hx
        rcases List.mem_append.1 hx with hx | hx
        · exact hw x hx
        · rw [List.mem_singleton.1 hx]; exact hwl
      clear hown5 hg5 hat5 ho5 hl5
      go_roundw
      case rel => exact ⟨k + 1, l ++ [wd], by omega, by go_num, HO5.out, HL5.out, hw5, hs5, hG5⟩
      case measure => simp [intOf]; omega
    · have hkn : k = n := by omega
      subst hkn
      go_wp2_with fail
      refine (n_any g 3 wx hs (by omega) (by omega)).mono ?_
      rintro e w1 ⟨r, rfl, hr1, hr2, hs1, hg1⟩
      obtain ⟨m, rfl⟩ : ∃ m : Nat, r = (m : Int) := ⟨r.toNat, by omega⟩
      have HO1 := Lib.hid (own_keep HO.out hg1 (by omega))
      have hG1 := gb_trans hg hg1
      have hsz1 : W.heap.size ≤ w1.heap.size := hG1.size
      clear hs hg hg1 HO
      go_wp2_with fail
      refine (words_any m 4 w1 (by omega)).mono ?_
      rintro e w2 ⟨v2, l2, rfl, hown2, hl2, hw2, hb2⟩
      obtain ⟨A2, c2, rfl⟩ := own_form hown2
      have HO2 := Lib.hid (own_keepB HO1.out hb2)
      have hs2 := hs1.keep hb2
      have hG2 := gb_below hG1 hb2
      have hR2 := Reads.of_own hown2
      have hsz2 : W.heap.size ≤ w2.heap.size := hG2.size
      have HL2 := Lib.hid hl2
      clear HO1 hs1 hG1 hb2 hown2 hl2
      go_wp2_with (at_builtin; refine wpList_append_reads _ (by rfl) _ _ _ (by rfl) W.heap.size 28 i0 _ 1 8 Try.underlying25 hi0 hz0 hz1 hz2 (by rfl) (by omega) (.slice A1 (k + 1) c1) (k + 1) (uv l) (by rfl) HO2.out A2 m c2 (uv l2) (by rfl) (by rw [uv_length, HL2.out]; omega) hR2 (uv_one l2) (by simp only [maxLen]; omega) (by omega) hsz2 ?_; intro v5 w5 hown5 hg5 hat5)
      go_ret
      have hb5 : Below W.heap.size w2 w5 := (Below.refl _ _).grown hg5 hsz2 (own_base HO2.out)
      have hG5 : W.grownBy w5 (some g) := ⟨hb5.os.trans hG2.os, hb5.tape.trans hG2.tape, hb5.output.trans hG2.output, Nat.le_trans hG2.size hb5.size, fun j hj hne => (hb5.block j hj).trans (hG2.block j hj hne)⟩
      have hle : (l ++ l2).length = k + 1 + m := by rw [List.length_append, HL.out, HL2.out]
      refine ⟨v5, l ++ l2, rfl, by rw [uv_append, hle]; exact hown5, by rw [hle]; omega, by rw [hle]; omega, ?_, hs2.below (B := W.heap.size) hb5 hgl, hG5⟩
      intro x hx
      rcases List.mem_append.1 hx with hx | hx
      · exact hw x hx
      · exact hw2 x hx

end Go.Proofs.Ytpiffapnbjnjiaa
