/-
  ref25.Encode of a valid node; both at any node.
-/
import Derived.Test.YtjnkajdfdhockaaNodeF
namespace Go.Proofs.Ytjnkajdfdhockaa
set_option linter.unusedVariables false
open Go.RowKit

set_option maxRecDepth 100000 in
set_option maxHeartbeats 1000000 in
theorem refEncode_ok (lv sq block : Int) (A : Option Addr) (c n : Nat) (l : List (Int × Nat)) (w : World) (hn : l.length = n) (hA : Reads w A (ev l)) (hl : E64 l) (hv : validN lv sq l = 0) (h1 : 0 ≤ block) (h2 : block < 4096) :
    Calls Try.prog 13 #[.agg #[.int .i64 lv, .int .i64 sq, .slice A n c], .int .i64 block] w fun e w' => ∃ g, e = .returned (.tuple #[.slice (some ⟨g, 0, none⟩) 16 16, .int .i64 0]) ∧ w'.ownsRow w.heap.size 38 1 (.slice (some ⟨g, 0, none⟩) 16 16) 16 (uv (encN lv sq l block)) ∧ Below w.heap.size w w' := by
  obtain ⟨i0, hi0, hz0, hz1, hz2⟩ := info_parts u64_info
  have hval := (valid_iff lv sq l).1 hv
  have HV := Lib.hid (refValid_any lv sq A c n l (w.alloc (.cells #[.int .i64 lv, .int .i64 sq, .slice A n c] 27)) hn (hA.alloc _) hl (by omega))
  rw [hv] at HV
  obtain ⟨q1, q2, q3, q4, q5, hasc⟩ := hval
  rw [hn] at q5
  have HASC := Lib.hid hasc
  have HL := Lib.hid hn
  have hb0 : Below w.heap.size w (w.alloc (.cells #[.int .i64 lv, .int .i64 sq, .slice A n c] 27)) := (Below.refl _ _).alloc (Nat.le_refl _) _
  obtain ⟨c0, c1, c2⟩ := box_cells (w := w) (lv := lv) (sq := sq) (A := A) (n := n) (c := c)
  have HH : Hid (hdN 2 lv l.length block = hdN 2 lv n block) := by show _ = _; rw [hn]
  clear hv hn hasc
  go_enter Try.func13, Try.ntmps13
  go_wp2_with fail
  refine HV.out.mono ?_
  rintro e w1 ⟨rfl, hb1⟩
  have hz : w.heap.size < w1.heap.size := by have := hb1.size; simp at this; omega
  have d0 := (hb1.cell (p := ⟨w.heap.size, 0, none⟩) (by simp)).trans c0
  have d1 := (hb1.cell (p := ⟨w.heap.size, 1, none⟩) (by simp)).trans c1
  have d2 := (hb1.cell (p := ⟨w.heap.size, 2, none⟩) (by simp)).trans c2
  have hbw1 := hb0.trans (hb1.mono hb0.size)
  have D1 := Lib.hid d1
  have D2 := Lib.hid d2
  clear c0 c1 c2 hb0 hb1 HV
  go_wp2_with (at_make; refine wpList_make_full _ rfl _ _ _ rfl w1.heap.size 38 i0 _ 1 Try.underlying30 hi0 hz0 hz1 .i64 .i64 _ _ 16 rfl rfl rfl rfl ?_ ?_ ?_ ?_)
  · rw [hz2]; omega
  · simp only [maxLen]; omega
  · exact Nat.le_refl _
  intro w2 hown hg
  rw [replicate_uvB] at hown
  have hb2 : Below w1.heap.size w1 w2 := (Below.refl _ w1).grown hg (Nat.le_refl _) (by intro k hk; cases hk)
  have c0 := (hb2.cell (p := ⟨w.heap.size, 0, none⟩) hz).trans d0
  have c1 := (hb2.cell (p := ⟨w.heap.size, 1, none⟩) hz).trans d1
  have c2 := (hb2.cell (p := ⟨w.heap.size, 2, none⟩) hz).trans d2
  have hbw2 := hbw1.trans (hb2.mono hbw1.size)
  have hlt : w1.heap.size < w2.heap.size := (hown.lt _ rfl).2
  have HO := Lib.hid hown
  clear d0 d1 d2 hown hg
  go_wp2_with fail
  refine (refHeader_any 2 lv n block w2).mono ?_
  rintro e w3 ⟨rfl, rfl⟩
  have hown3 := HO.out
  have hf := hown3.frozenAt 0
  have hc := hown3.cellAt 0 (by omega)
  rw [uv_at _ _ (by simp)] at hc
  have hst := (hown3.stored 0 (.int .u64 ((hdN 2 lv n block : Nat) : Int))).1
  rw [uv_set, ← HH.out] at hst
  have hh := hdN_lt 2 lv n block
  rw [← HH.out] at hh
  have HST : Hid ((w2.setCell ⟨w1.heap.size, 0, none⟩ (.int .u64 ((hdN 2 lv l.length block : Nat) : Int))).ownsRow w1.heap.size 38 1 (.slice (some ⟨w1.heap.size, 0, none⟩) 16 16) 16 (uv (encTo (hdN 2 lv l.length block) l 0))) := hst
  have HEN : Hid (encP lv sq l block = (encTo (hdN 2 lv l.length block) l l.length).set 15 sq.toNat) := rfl
  rw [← HH.out]
  have hbs := hb2.setCell (p := ⟨w1.heap.size, 0, none⟩) (Nat.le_refl _) (.int .u64 ((hdN 2 lv l.length block : Nat) : Int))
  generalize hdN 2 lv l.length block = h at *
  clear hst hown3 HO HH
  go_wp2_with fail
  generalize (w2.setCell _ _) = w4 at HST hbs ⊢
  clear hc hf c0 c1 c2
  go_loopw [8] (fun i wr => ∃ k : Nat, k ≤ n ∧ i = .int .i64 k ∧ wr.ownsRow w1.heap.size 38 1 (.slice (some ⟨w1.heap.size, 0, none⟩) 16 16) 16 (uv (encTo h l k)) ∧ Below w1.heap.size w1 wr) (fun i _ => n - (intOf i).toNat)
  case atStart => exact ⟨0, Nat.zero_le _, rfl, HST.out, hbs⟩
  case round =>
    obtain ⟨k, hk, rfl, hown, hbr⟩ := hrel
    have d2 := (hbr.cell (p := ⟨w.heap.size, 2, none⟩) hz).trans D2.out
    by_cases hlt2 : k < n
    · obtain ⟨b, off, rfl, hbl, hc⟩ := hA.e (by rw [HL.out]; omega)
      obtain ⟨g1, g2⟩ := hc k (by rw [HL.out]; omega)
      have hbwr := hbw1.trans (hbr.mono hbw1.size)
      have f1 := (hbwr.cell (p := ⟨b, off + k * 2, none⟩) hbl).trans g1
      have f2 := (hbwr.cell (p := ⟨b, off + k * 2 + 1, none⟩) hbl).trans g2
      have hkey := ascF_at (-1) l k HASC.out (by rw [HL.out]; omega)
      have HSET : Hid (encTo h l (k + 1) = ((encTo h l k).set (1 + k) (l[k]?.getD (0, 0)).1.toNat).set (8 + k) (l[k]?.getD (0, 0)).2) := rfl
      obtain ⟨x, ex⟩ : ∃ x, (l[k]?.getD (0, 0)).1 = x := ⟨_, rfl⟩
      obtain ⟨y, ey⟩ : ∃ y, (l[k]?.getD (0, 0)).2 = y := ⟨_, rfl⟩
      rw [ex] at f1 hkey HSET
      rw [ey] at f2 HSET
      clear ex ey
      obtain ⟨z, rfl⟩ : ∃ z : Nat, x = (z : Int) := ⟨x.toNat, by omega⟩
      rw [Int.toNat_natCast] at HSET
      have x1 := hown.frozenAt (1 + k)
      have x2 := hown.frozenAt (8 + k)
      have y1 := hown.cellAt (1 + k) (by omega)
      have y2 := hown.cellAt (8 + k) (by omega)
      rw [uv_at _ _ (by rw [encTo_length]; omega)] at y1 y2
      have hst1 := hown.stored (1 + k) (.int .u64 (z : Int))
      have hst2 := (hst1.1.stored (8 + k) (.int .u64 (y : Int))).1
      rw [uv_set, uv_set, ← HSET.out] at hst2
      have HST2 := Lib.hid hst2
      have hne : b ≠ w1.heap.size := by omega
      have hne2 : w.heap.size ≠ w1.heap.size := by omega
      have hb6 := (hbr.setCell (p := ⟨w1.heap.size, 1 + k, none⟩) (Nat.le_refl _) (.int .u64 (z : Int))).setCell (p := ⟨w1.heap.size, 8 + k, none⟩) (Nat.le_refl _) (.int .u64 (y : Int))
      clear hst1 hst2 hc g1 g2 hown HSET
      go_wp2_with fail
      go_roundw
      case rel => exact ⟨k + 1, by omega, by go_num, HST2.out, hb6⟩
      case measure => simp [intOf]; omega
    · have hke : k = n := by omega
      have HLL : Hid (k = l.length) := by show _ = _; rw [HL.out]; exact hke
      have hbwr := hbw1.trans (hbr.mono hbw1.size)
      obtain ⟨sq', rfl⟩ : ∃ s : Nat, sq = (s : Int) := ⟨sq.toNat, by omega⟩
      have d1 := (hbr.cell (p := ⟨w.heap.size, 1, none⟩) hz).trans D1.out
      have hf := hown.frozenAt 15
      have hc := hown.cellAt 15 (by omega)
      rw [uv_at _ _ (by rw [encTo_length]; omega)] at hc
      have hst := (hown.stored 15 (.int .u64 (sq' : Int))).1
      have ep : (encTo h l k).set 15 sq' = encP lv (sq' : Int) l block := by rw [HEN.out, ← HLL.out]; rfl
      rw [uv_set, ep] at hst
      have hbs := hbr.setCell (p := ⟨w1.heap.size, 15, none⟩) (Nat.le_refl _) (.int .u64 (sq' : Int))
      have hbws := hbwr.setCell (p := ⟨w1.heap.size, 15, none⟩) (Nat.le_of_lt hz) (.int .u64 (sq' : Int))
      have hpl : (encP lv (sq' : Int) l block).length = 16 := by rw [HEN.out, List.length_set, encTo_length]
      have hpw : W64 (encP lv (sq' : Int) l block) := by rw [HEN.out]; exact (encTo_w _ _ _ hh hl).set _ _ (by omega)
      have HR := Lib.hid (Reads.of_own hst)
      have HPL := Lib.hid hpl
      clear hst ep hke hown hpl
      go_wp2_with fail
      refine (refSeal_any _ 16 16 (encP lv (sq' : Int) l block) _ HPL.out HR.out hpw (by omega)).mono ?_
      rintro e w7 ⟨g, rfl, hown7, hb7⟩
      have HO7 := Lib.hid hown7
      have hsz := hbws.size
      clear hown7 hc hf d1
      go_wp2_with fail
      go_ret2
      exact ⟨g, rfl, own_lower HO7.out hsz, hbws.trans (hb7.mono hsz)⟩

/-- What Encode answers. -/
def encR (lv sq : Int) (l : List (Int × Nat)) (block : Int) : List Nat := if encE lv sq l block = 0 then encN lv sq l block else []
theorem encE_zero {lv sq : Int} {l : List (Int × Nat)} {block : Int} (h : encE lv sq l block = 0) : validN lv sq l = 0 ∧ 0 ≤ block ∧ block < 4096 := by
  unfold encE at h
  by_cases hv : validN lv sq l = 0
  · rw [if_neg (by omega)] at h
    by_cases hb : block < 0 ∨ 4096 ≤ block
    · rw [if_pos hb] at h; omega
    · exact ⟨hv, by omega, by omega⟩
  · rw [if_pos hv] at h; exact absurd h hv
theorem sealN_length (l : List Nat) (h : l.length ≤ 16) : (sealN l).length = 16 := by rw [sealN, List.length_set, padN_length l h]
theorem encP_length (lv sq : Int) (l : List (Int × Nat)) (block : Int) : (encP lv sq l block).length = 16 := by rw [encP, List.length_set, encTo_length]
theorem encN_length (lv sq : Int) (l : List (Int × Nat)) (block : Int) : (encN lv sq l block).length = 16 := sealN_length _ (by rw [encP_length]; omega)
theorem sealW_lt (x s : Nat) (hx : x < 18446744073709551616) (hs : s < 65536) : sealW x s < 18446744073709551616 := by
  refine or_lt (clearS_lt x hx) ?_
  rw [Nat.shiftLeft_eq]; omega
theorem padN_w (l : List Nat) (hl : W64 l) : W64 (padN l) := by
  intro x hx
  rcases List.mem_append.1 hx with h | h
  · exact hl x h
  · have := List.eq_of_mem_replicate h; omega
theorem sealN_w (l : List Nat) (hl : W64 l) : W64 (sealN l) := (padN_w l hl).set _ _ (sealW_lt _ _ ((padN_w l hl).at 0) (sumN_lt _))
theorem encP_w (lv sq : Int) (l : List (Int × Nat)) (block : Int) (hl : E64 l) (h : sq ≤ 16777215) : W64 (encP lv sq l block) := (encTo_w _ _ _ (hdN_lt _ _ _ _) hl).set _ _ (by omega)
theorem encN_w (lv sq : Int) (l : List (Int × Nat)) (block : Int) (hl : E64 l) (h : sq ≤ 16777215) : W64 (encN lv sq l block) := sealN_w _ (encP_w lv sq l block hl h)
theorem encR_w (lv sq : Int) (l : List (Int × Nat)) (block : Int) (hl : E64 l) : W64 (encR lv sq l block) := by
  unfold encR
  split
  · rename_i h
    have := (valid_iff _ _ _).1 (encE_zero h).1
    exact encN_w _ _ _ _ hl (by omega)
  · intro x hx; cases hx
theorem encR_le (lv sq : Int) (l : List (Int × Nat)) (block : Int) : (encR lv sq l block).length ≤ 16 := by
  unfold encR
  split
  · rw [encN_length]; omega
  · simp

theorem encode_all (lv sq block : Int) (A : Option Addr) (c n : Nat) (l : List (Int × Nat)) (w : World) (hn : l.length = n) (hA : Reads w A (ev l)) (hl : E64 l) (hlen : n ≤ 1000000) :
    Calls Try.prog 12 #[.agg #[.int .i64 lv, .int .i64 sq, .slice A n c], .int .i64 block] w fun e w' => ∃ v, e = .returned (.tuple #[v, .int .i64 (encE lv sq l block)]) ∧ w'.ownsRow w.heap.size 38 1 v (encR lv sq l block).length (uv (encR lv sq l block)) ∧ Below w.heap.size w w' := by
  by_cases hE : encE lv sq l block = 0
  · obtain ⟨hv, h1, h2⟩ := encE_zero hE
    refine (encode_ok lv sq block A c n l w hn hA hl hv h1 h2).mono ?_
    rintro e w' ⟨g, rfl, hown, hb⟩
    refine ⟨_, by rw [hE], ?_, hb⟩
    unfold encR
    rw [if_pos hE, encN_length]
    exact hown
  · refine (encode_no lv sq block A c n l w hn hA hl hlen hE).mono ?_
    rintro e w' ⟨rfl, hb⟩
    refine ⟨_, rfl, ?_, hb⟩
    unfold encR
    rw [if_neg hE]
    exact World.ownsRow_nil _ _ _ _

theorem refEncode_all (lv sq block : Int) (A : Option Addr) (c n : Nat) (l : List (Int × Nat)) (w : World) (hn : l.length = n) (hA : Reads w A (ev l)) (hl : E64 l) (hlen : n ≤ 1000000) :
    Calls Try.prog 13 #[.agg #[.int .i64 lv, .int .i64 sq, .slice A n c], .int .i64 block] w fun e w' => ∃ v, e = .returned (.tuple #[v, .int .i64 (encE lv sq l block)]) ∧ w'.ownsRow w.heap.size 38 1 v (encR lv sq l block).length (uv (encR lv sq l block)) ∧ Below w.heap.size w w' := by
  by_cases hE : encE lv sq l block = 0
  · obtain ⟨hv, h1, h2⟩ := encE_zero hE
    refine (refEncode_ok lv sq block A c n l w hn hA hl hv h1 h2).mono ?_
    rintro e w' ⟨g, rfl, hown, hb⟩
    refine ⟨_, by rw [hE], ?_, hb⟩
    unfold encR
    rw [if_pos hE, encN_length]
    exact hown
  · refine (refEncode_no lv sq block A c n l w hn hA hl hlen hE).mono ?_
    rintro e w' ⟨rfl, hb⟩
    refine ⟨_, rfl, ?_, hb⟩
    unfold encR
    rw [if_neg hE]
    exact World.ownsRow_nil _ _ _ _

end Go.Proofs.Ytjnkajdfdhockaa
