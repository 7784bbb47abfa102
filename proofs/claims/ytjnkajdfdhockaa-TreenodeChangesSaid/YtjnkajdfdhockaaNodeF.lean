/-
  treenode.Encode, ref25.Encode.
-/
import Derived.Test.YtjnkajdfdhockaaNodeE
import Derived.BigRegion
namespace Go.Proofs.Ytjnkajdfdhockaa
set_option linter.unusedVariables false
open Go.RowKit

/-- The words of a node ahead of the seal, k entries of it. -/
def encTo (h : Nat) (l : List (Int × Nat)) : Nat → List Nat
  | 0 => (List.replicate 16 0).set 0 h
  | k + 1 => ((encTo h l k).set (1 + k) (l[k]?.getD (0, 0)).1.toNat).set (8 + k) (l[k]?.getD (0, 0)).2
def encP (lv sq : Int) (l : List (Int × Nat)) (block : Int) : List Nat := (encTo (hdN 2 lv l.length block) l l.length).set 15 sq.toNat
def encN (lv sq : Int) (l : List (Int × Nat)) (block : Int) : List Nat := sealN (encP lv sq l block)
def encE (lv sq : Int) (l : List (Int × Nat)) (block : Int) : Int := if validN lv sq l ≠ 0 then validN lv sq l else if block < 0 ∨ 4096 ≤ block then 1 else 0
theorem encTo_length (h : Nat) (l : List (Int × Nat)) (k : Nat) : (encTo h l k).length = 16 := by
  induction k with
  | zero => rfl
  | succ k ih => simp [encTo, ih]
theorem hdN_lt (k l c b : Int) : hdN k l c b < 18446744073709551616 := by unfold hdN; omega
theorem encTo_w (h : Nat) (l : List (Int × Nat)) (k : Nat) (hh : h < 18446744073709551616) (hl : E64 l) : W64 (encTo h l k) := by
  induction k with
  | zero =>
    refine W64.set ?_ 0 h hh
    intro x hx
    have := List.eq_of_mem_replicate hx
    omega
  | succ k ih =>
    have := hl.at k
    exact (ih.set _ _ (by omega)).set _ _ this.2.2

theorem ascF_at (last : Int) (l : List (Int × Nat)) (k : Nat) (h : ascF last l = true) (hk : k < l.length) : last < (l[k]?.getD (0, 0)).1 ∧ (l[k]?.getD (0, 0)).1 ≤ 16777215 := by
  induction l generalizing last k with
  | nil => simp at hk
  | cons p r ih =>
    simp only [ascF, Bool.and_eq_true, decide_eq_true_eq] at h
    cases k with
    | zero => simpa using h.1
    | succ k =>
      have := ih p.1 k h.2 (by simpa using hk)
      simp at this ⊢
      omega
/-- What a valid node is. -/
theorem valid_iff (lv sq : Int) (l : List (Int × Nat)) : validN lv sq l = 0 ↔ (0 ≤ lv ∧ lv ≤ 8 ∧ 0 ≤ sq ∧ sq ≤ 16777215 ∧ l.length ≤ 7 ∧ ascF (-1) l = true) := by
  unfold validN
  split
  · constructor <;> intro h <;> omega
  · split
    · constructor <;> intro h <;> omega
    · split
      · rename_i h; simp only [h, and_true, true_iff]; omega
      · rename_i h; simp only [h]; constructor
        · intro h; cases h
        · rintro ⟨_, _, _, _, _, h⟩; cases h

theorem own_lower {w : World} {base base' : Nat} {e : TypeId} {size n : Nat} {v : Value} {xs : List Value} (h : w.ownsRow base e size v n xs) (hb : base' ≤ base) : w.ownsRow base' e size v n xs :=
  ⟨h.1, h.2.imp id fun ⟨g, cap, cur, q1, q2, q3⟩ => ⟨g, cap, cur, q1, by omega, q3⟩⟩

theorem box_cells {w : World} {lv sq : Int} {A : Option Addr} {n c : Nat} : (w.alloc (.cells #[.int .i64 lv, .int .i64 sq, .slice A n c] 27)).cell? ⟨w.heap.size, 0, none⟩ = some (.int .i64 lv) ∧
    (w.alloc (.cells #[.int .i64 lv, .int .i64 sq, .slice A n c] 27)).cell? ⟨w.heap.size, 1, none⟩ = some (.int .i64 sq) ∧ (w.alloc (.cells #[.int .i64 lv, .int .i64 sq, .slice A n c] 27)).cell? ⟨w.heap.size, 2, none⟩ = some (.slice A n c) := by
  refine ⟨?_, ?_, ?_⟩ <;> (rw [World.cell?_alloc_at _ _ _ _ rfl]; rfl)

set_option maxRecDepth 100000 in
set_option maxHeartbeats 1000000 in
theorem encode_no (lv sq block : Int) (A : Option Addr) (c n : Nat) (l : List (Int × Nat)) (w : World) (hn : l.length = n) (hA : Reads w A (ev l)) (hl : E64 l) (hlen : n ≤ 1000000) (hE : encE lv sq l block ≠ 0) :
    Calls Try.prog 12 #[.agg #[.int .i64 lv, .int .i64 sq, .slice A n c], .int .i64 block] w fun e w' => e = .returned (.tuple #[.slice none 0 0, .int .i64 (encE lv sq l block)]) ∧ Below w.heap.size w w' := by
  have HV := Lib.hid (valid_any lv sq A c n l (w.alloc (.cells #[.int .i64 lv, .int .i64 sq, .slice A n c] 27)) hn (hA.alloc _) hl hlen)
  have hb0 : Below w.heap.size w (w.alloc (.cells #[.int .i64 lv, .int .i64 sq, .slice A n c] 27)) := (Below.refl _ _).alloc (Nat.le_refl _) _
  by_cases hv : validN lv sq l = 0
  · have hbl : block < 0 ∨ 4096 ≤ block := by
      unfold encE at hE
      rw [if_neg (by omega)] at hE
      split at hE
      · assumption
      · exact absurd rfl hE
    have HE : Hid (encE lv sq l block = 1) := by show _ = _; unfold encE; rw [if_neg (by omega), if_pos hbl]
    rw [hv] at HV
    clear hv hE hn
    go_enter Try.func12, Try.ntmps12
    go_wp2_with fail
    refine HV.out.mono ?_
    rintro e w1 ⟨rfl, hb1⟩
    by_cases hb2 : block < 0
    · go_wp2_with fail
      go_ret2
      exact ⟨by rw [HE.out]; rfl, hb0.trans (hb1.mono hb0.size)⟩
    · have hb3 : 4096 ≤ block := by omega
      go_wp2_with fail
      go_ret2
      exact ⟨by rw [HE.out]; rfl, hb0.trans (hb1.mono hb0.size)⟩
  · have HE : Hid (encE lv sq l block = validN lv sq l) := by show _ = _; unfold encE; rw [if_pos hv]
    generalize validN lv sq l = v at *
    have hv1 : (v != 0) = true := by simpa using hv
    clear hE hn
    go_enter Try.func12, Try.ntmps12
    go_wp2_with fail
    refine HV.out.mono ?_
    rintro e w1 ⟨rfl, hb1⟩
    go_wp2_with fail
    go_ret2
    exact ⟨by rw [HE.out]; rfl, hb0.trans (hb1.mono hb0.size)⟩

set_option maxRecDepth 100000 in
set_option maxHeartbeats 1000000 in
theorem refEncode_no (lv sq block : Int) (A : Option Addr) (c n : Nat) (l : List (Int × Nat)) (w : World) (hn : l.length = n) (hA : Reads w A (ev l)) (hl : E64 l) (hlen : n ≤ 1000000) (hE : encE lv sq l block ≠ 0) :
    Calls Try.prog 13 #[.agg #[.int .i64 lv, .int .i64 sq, .slice A n c], .int .i64 block] w fun e w' => e = .returned (.tuple #[.slice none 0 0, .int .i64 (encE lv sq l block)]) ∧ Below w.heap.size w w' := by
  have HV := Lib.hid (refValid_any lv sq A c n l (w.alloc (.cells #[.int .i64 lv, .int .i64 sq, .slice A n c] 27)) hn (hA.alloc _) hl hlen)
  have hb0 : Below w.heap.size w (w.alloc (.cells #[.int .i64 lv, .int .i64 sq, .slice A n c] 27)) := (Below.refl _ _).alloc (Nat.le_refl _) _
  by_cases hv : validN lv sq l = 0
  · have hbl : block < 0 ∨ 4096 ≤ block := by
      unfold encE at hE
      rw [if_neg (by omega)] at hE
      split at hE
      · assumption
      · exact absurd rfl hE
    have HE : Hid (encE lv sq l block = 1) := by show _ = _; unfold encE; rw [if_neg (by omega), if_pos hbl]
    rw [hv] at HV
    clear hv hE hn
    go_enter Try.func13, Try.ntmps13
    go_wp2_with fail
    refine HV.out.mono ?_
    rintro e w1 ⟨rfl, hb1⟩
    by_cases hb2 : block < 0
    · go_wp2_with fail
      go_ret2
      exact ⟨by rw [HE.out]; rfl, hb0.trans (hb1.mono hb0.size)⟩
    · have hb3 : 4096 ≤ block := by omega
      go_wp2_with fail
      go_ret2
      exact ⟨by rw [HE.out]; rfl, hb0.trans (hb1.mono hb0.size)⟩
  · have HE : Hid (encE lv sq l block = validN lv sq l) := by show _ = _; unfold encE; rw [if_pos hv]
    generalize validN lv sq l = v at *
    have hv1 : (v != 0) = true := by simpa using hv
    clear hE hn
    go_enter Try.func13, Try.ntmps13
    go_wp2_with fail
    refine HV.out.mono ?_
    rintro e w1 ⟨rfl, hb1⟩
    go_wp2_with fail
    go_ret2
    exact ⟨by rw [HE.out]; rfl, hb0.trans (hb1.mono hb0.size)⟩

set_option maxRecDepth 100000 in
set_option maxHeartbeats 1000000 in
theorem encode_ok (lv sq block : Int) (A : Option Addr) (c n : Nat) (l : List (Int × Nat)) (w : World) (hn : l.length = n) (hA : Reads w A (ev l)) (hl : E64 l) (hv : validN lv sq l = 0) (h1 : 0 ≤ block) (h2 : block < 4096) :
    Calls Try.prog 12 #[.agg #[.int .i64 lv, .int .i64 sq, .slice A n c], .int .i64 block] w fun e w' => ∃ g, e = .returned (.tuple #[.slice (some ⟨g, 0, none⟩) 16 16, .int .i64 0]) ∧ w'.ownsRow w.heap.size 38 1 (.slice (some ⟨g, 0, none⟩) 16 16) 16 (uv (encN lv sq l block)) ∧ Below w.heap.size w w' := by
  obtain ⟨i0, hi0, hz0, hz1, hz2⟩ := info_parts u64_info
  have hval := (valid_iff lv sq l).1 hv
  have HV := Lib.hid (valid_any lv sq A c n l (w.alloc (.cells #[.int .i64 lv, .int .i64 sq, .slice A n c] 27)) hn (hA.alloc _) hl (by omega))
  rw [hv] at HV
  obtain ⟨q1, q2, q3, q4, q5, hasc⟩ := hval
  rw [hn] at q5
  have HASC := Lib.hid hasc
  have HL := Lib.hid hn
  have hb0 : Below w.heap.size w (w.alloc (.cells #[.int .i64 lv, .int .i64 sq, .slice A n c] 27)) := (Below.refl _ _).alloc (Nat.le_refl _) _
  obtain ⟨c0, c1, c2⟩ := box_cells (w := w) (lv := lv) (sq := sq) (A := A) (n := n) (c := c)
  have HH : Hid (hdN 2 lv l.length block = hdN 2 lv n block) := by show _ = _; rw [hn]
  clear hv hn hasc
  go_enter Try.func12, Try.ntmps12
  go_wp2_with fail
  refine HV.out.mono ?_
  rintro e w1 ⟨rfl, hb1⟩
  have hz : w.heap.size < w1.heap.size := by have := hb1.size; simp at this; omega
  have d0 := (hb1.cell (p := ⟨w.heap.size, 0, none⟩) (by simp)).trans c0
  have d1 := (hb1.cell (p := ⟨w.heap.size, 1, none⟩) (by simp)).trans c1
  have d2 := (hb1.cell (p := ⟨w.heap.size, 2, none⟩) (by simp)).trans c2
  have hbw1 := hb0.trans (hb1.mono hb0.size)
  have D1 := Lib.hid d1
  clear c0 c1 c2 hb0 hb1 HV
  go_wp2_with (at_make; refine wpList_make_full _ rfl _ _ _ rfl w1.heap.size 38 i0 _ 1 Try.underlying30 hi0 hz0 hz1 .i64 .i64 _ _ 16 rfl rfl rfl rfl ?_ ?_ ?_ ?_)
  · rw [hz2]; omega
  · simp only [maxLen]; omega
  · exact Nat.le_refl _
  intro w2 hown hg
  rw [replicate_uvB] at hown
  have hb2 : Below w1.heap.size w1 w2 := (Below.refl _ w1).grown hg (Nat.le_refl _) (by intro k hk; cases hk)
  have c0 := (hb2.cell (p := ⟨w.heap.size, 0, none⟩) hz).trans d0
  have c1 := (hb2.cell (p := ⟨w.heap.size, 1, none⟩) hz).trans d1
  have c2 := (hb2.cell (p := ⟨w.heap.size, 2, none⟩) hz).trans d2
  have hbw2 := hbw1.trans (hb2.mono hbw1.size)
  have hlt : w1.heap.size < w2.heap.size := (hown.lt _ rfl).2
  have HO := Lib.hid hown
  clear d0 d1 d2 hown hg
  go_wp2_with fail
  refine (header_any 2 lv n block w2).mono ?_
  rintro e w3 ⟨rfl, hb3⟩
  have hbw3 := hbw2.trans (hb3.mono hbw2.size)
  have hown3 := World.ownsRow.kept HO.out (row := none) ⟨hb3.os, hb3.tape, hb3.output, hb3.size, fun k hk _ => hb3.block k hk⟩ (.inr (by simp [Value.ownBlock]))
  have d0 := (hb3.cell (p := ⟨w.heap.size, 0, none⟩) (Nat.lt_trans hz hlt)).trans c0
  have d1 := (hb3.cell (p := ⟨w.heap.size, 1, none⟩) (Nat.lt_trans hz hlt)).trans c1
  have d2 := (hb3.cell (p := ⟨w.heap.size, 2, none⟩) (Nat.lt_trans hz hlt)).trans c2
  have hf := hown3.frozenAt 0
  have hc := hown3.cellAt 0 (by omega)
  rw [uv_at _ _ (by simp)] at hc
  have hst := (hown3.stored 0 (.int .u64 ((hdN 2 lv n block : Nat) : Int))).1
  rw [uv_set, ← HH.out] at hst
  have hh := hdN_lt 2 lv n block
  rw [← HH.out] at hh
  have HST : Hid ((w3.setCell ⟨w1.heap.size, 0, none⟩ (.int .u64 ((hdN 2 lv l.length block : Nat) : Int))).ownsRow w1.heap.size 38 1 (.slice (some ⟨w1.heap.size, 0, none⟩) 16 16) 16 (uv (encTo (hdN 2 lv l.length block) l 0))) := hst
  have HEN : Hid (encP lv sq l block = (encTo (hdN 2 lv l.length block) l l.length).set 15 sq.toNat) := rfl
  rw [← HH.out]
  have hbs := (hb2.trans (hb3.mono hb2.size)).setCell (p := ⟨w1.heap.size, 0, none⟩) (Nat.le_refl _) (.int .u64 ((hdN 2 lv l.length block : Nat) : Int))
  generalize hdN 2 lv l.length block = h at *
  clear hst hown3 HO HH
  go_wp2_with fail
  generalize (w3.setCell _ _) = w4 at HST hbs ⊢
  have e0 := (hbs.cell (p := ⟨w.heap.size, 0, none⟩) hz)
  clear hc hf d0 d1 d2 c0 c1 c2 e0 hb3 hbw3
  go_loopw [34] (fun i wr => ∃ k : Nat, k ≤ n ∧ i = .int .i64 k ∧ wr.ownsRow w1.heap.size 38 1 (.slice (some ⟨w1.heap.size, 0, none⟩) 16 16) 16 (uv (encTo h l k)) ∧ Below w1.heap.size w1 wr) (fun i _ => n - (intOf i).toNat)
  case atStart => exact ⟨0, Nat.zero_le _, rfl, HST.out, hbs⟩
  case round =>
    obtain ⟨k, hk, rfl, hown, hbr⟩ := hrel
    by_cases hlt2 : k < n
    · obtain ⟨b, off, rfl, hbl, hc⟩ := hA.e (by rw [HL.out]; omega)
      obtain ⟨g1, g2⟩ := hc k (by rw [HL.out]; omega)
      have hbwr := hbw1.trans (hbr.mono hbw1.size)
      have f1 := (hbwr.cell (p := ⟨b, off + k * 2, none⟩) hbl).trans g1
      have f2 := (hbwr.cell (p := ⟨b, off + k * 2 + 1, none⟩) hbl).trans g2
      have hkey := ascF_at (-1) l k HASC.out (by rw [HL.out]; omega)
      have HSET : Hid (encTo h l (k + 1) = ((encTo h l k).set (1 + k) (l[k]?.getD (0, 0)).1.toNat).set (8 + k) (l[k]?.getD (0, 0)).2) := rfl
      obtain ⟨x, ex⟩ : ∃ x, (l[k]?.getD (0, 0)).1 = x := ⟨_, rfl⟩
      obtain ⟨y, ey⟩ : ∃ y, (l[k]?.getD (0, 0)).2 = y := ⟨_, rfl⟩
      rw [ex] at f1 hkey HSET
      rw [ey] at f2 HSET
      clear ex ey
      obtain ⟨z, rfl⟩ : ∃ z : Nat, x = (z : Int) := ⟨x.toNat, by omega⟩
      rw [Int.toNat_natCast] at HSET
      have hrow := hown.alloc (.cells #[.int .i64 (z : Int), .int .u64 (y : Int)] 52)
      have x1 := hrow.frozenAt (1 + k)
      have x2 := hrow.frozenAt (8 + k)
      have y1 := hrow.cellAt (1 + k) (by omega)
      have y2 := hrow.cellAt (8 + k) (by omega)
      rw [uv_at _ _ (by rw [encTo_length]; omega)] at y1 y2
      have t0 : IntKind.u64.wrap (z : Int) = (z : Int) := by rw [wrap_nat, Nat.mod_eq_of_lt (by omega)]
      have hst1 := (World.ownsRow.drew hrow).stored (1 + k) (.int .u64 (z : Int))
      have hst2 := (hst1.1.stored (8 + k) (.int .u64 (y : Int))).1
      rw [uv_set, uv_set, ← HSET.out] at hst2
      have HST2 := Lib.hid hst2
      have t1 : IntKind.i64.wrap (1 + (k : Int)) = 1 + (k : Int) := IntWalk.i64_in _ (by omega)
      have t2 : IntKind.i64.wrap (8 + (k : Int)) = 8 + (k : Int) := IntWalk.i64_in _ (by omega)
      have t3 : (1 + (k : Int)).toNat = 1 + k := by omega
      have t4 : (8 + (k : Int)).toNat = 8 + k := by omega
      have t5 : (0 : Int) ≤ 1 + (k : Int) := by omega
      have t6 : (0 : Int) ≤ 8 + (k : Int) := by omega
      have t7 : 1 + (k : Int) < 16 := by omega
      have t8 : 8 + (k : Int) < 16 := by omega
      have hlt5 := (hown.lt _ rfl).2
      clear hst1 hst2 hc g1 g2 hown hrow HSET
      go_wp2_with fail
      have v1 : (wr.alloc (.cells #[.int .i64 (z : Int), .int .u64 (y : Int)] 52)).cell? ⟨wr.heap.size, 0, none⟩ = some (.int .i64 (z : Int)) := by rw [World.cell?_alloc_at _ _ _ _ rfl]; rfl
      have v2 : (wr.alloc (.cells #[.int .i64 (z : Int), .int .u64 (y : Int)] 52)).cell? ⟨wr.heap.size, 1, none⟩ = some (.int .u64 (y : Int)) := by rw [World.cell?_alloc_at _ _ _ _ rfl]; rfl
      have hb5 := hbr.alloc hbr.size (.cells #[.int .i64 (z : Int), .int .u64 (y : Int)] 52)
      generalize (wr.alloc _) = w5 at *
      have hne : w1.heap.size ≠ wr.heap.size := by omega
      go_region
      clear t1 t2 t3 t4 v1 v2 y1 y2 x1 x2
      have hb6 := (hb5.drew.setCell (p := ⟨w1.heap.size, 1 + k, none⟩) (Nat.le_refl _) (.int .u64 (z : Int))).setCell (p := ⟨w1.heap.size, 8 + k, none⟩) (Nat.le_refl _) (.int .u64 (y : Int))
      go_wp2_with fail
      go_roundw
      case rel => exact ⟨k + 1, by omega, by go_num, HST2.out, hb6⟩
      case measure => simp [intOf]; omega
    · have hke : k = n := by omega
      have HLL : Hid (k = l.length) := by show _ = _; rw [HL.out]; exact hke
      have hbwr := hbw1.trans (hbr.mono hbw1.size)
      obtain ⟨sq', rfl⟩ : ∃ s : Nat, sq = (s : Int) := ⟨sq.toNat, by omega⟩
      have d1 := (hbr.cell (p := ⟨w.heap.size, 1, none⟩) hz).trans D1.out
      have hf := hown.frozenAt 15
      have hc := hown.cellAt 15 (by omega)
      rw [uv_at _ _ (by rw [encTo_length]; omega)] at hc
      have hst := (hown.stored 15 (.int .u64 (sq' : Int))).1
      have ep : (encTo h l k).set 15 sq' = encP lv (sq' : Int) l block := by rw [HEN.out, ← HLL.out]; rfl
      rw [uv_set, ep] at hst
      have hbs := hbr.setCell (p := ⟨w1.heap.size, 15, none⟩) (Nat.le_refl _) (.int .u64 (sq' : Int))
      have hbws := hbwr.setCell (p := ⟨w1.heap.size, 15, none⟩) (Nat.le_of_lt hz) (.int .u64 (sq' : Int))
      have hpl : (encP lv (sq' : Int) l block).length = 16 := by rw [HEN.out, List.length_set, encTo_length]
      have hpw : W64 (encP lv (sq' : Int) l block) := by rw [HEN.out]; exact (encTo_w _ _ _ hh hl).set _ _ (by omega)
      have HR := Lib.hid (Reads.of_own hst)
      have HPL := Lib.hid hpl
      clear hst ep hke hown hpl
      go_wp2_with fail
      refine (seal_any _ 16 16 (encP lv (sq' : Int) l block) _ HPL.out HR.out hpw (by omega)).mono ?_
      rintro e w7 ⟨g, rfl, hown7, hb7⟩
      have HO7 := Lib.hid hown7
      have hsz := hbws.size
      clear hown7 hc hf d1
      go_wp2_with fail
      go_ret2
      exact ⟨g, rfl, own_lower HO7.out hsz, hbws.trans (hb7.mono hsz)⟩

end Go.Proofs.Ytjnkajdfdhockaa
