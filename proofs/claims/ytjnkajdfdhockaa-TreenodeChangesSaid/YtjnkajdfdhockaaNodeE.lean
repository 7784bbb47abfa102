/-
  Entries; treenode.Valid, ref25.Valid; ref25.SameEntries, Same.
-/
import Derived.Test.YtjnkajdfdhockaaNodeD
namespace Go.Proofs.Ytjnkajdfdhockaa
set_option linter.unusedVariables false
open Go.RowKit

/-- Entries in memory: two cells each. -/
def ev (l : List (Int × Nat)) : List Value := l.flatMap fun p => [.int .i64 p.1, .int .u64 (p.2 : Int)]
def E64 (l : List (Int × Nat)) : Prop := ∀ p ∈ l, -9223372036854775808 ≤ p.1 ∧ p.1 ≤ 9223372036854775807 ∧ p.2 < 18446744073709551616
theorem ev_length (l : List (Int × Nat)) : (ev l).length = l.length * 2 := by
  induction l with
  | nil => rfl
  | cons p r ih => simp only [ev, List.flatMap_cons, List.length_append, List.length_cons, List.length_nil] at ih ⊢; omega
theorem ev_append (l m : List (Int × Nat)) : ev (l ++ m) = ev l ++ ev m := by simp [ev]
theorem ev_one (l : List (Int × Nat)) : ∀ u ∈ ev l, u.oneCell' = true := by
  intro u hu
  obtain ⟨x, _, h⟩ := List.mem_flatMap.1 hu
  simp only [List.mem_cons, List.not_mem_nil, or_false] at h
  rcases h with rfl | rfl <;> rfl
theorem ev_key (l : List (Int × Nat)) (i : Nat) (h : i < l.length) : (ev l)[i * 2]? = some (.int .i64 (l[i]?.getD (0, 0)).1) := by
  induction l generalizing i with
  | nil => simp at h
  | cons p r ih =>
    cases i with
    | zero => simp [ev]
    | succ i =>
      have := ih i (by simpa using h)
      simp only [ev, List.flatMap_cons] at this ⊢
      rw [List.getElem?_append_right (by simp; omega)]
      simp only [List.length_cons, List.length_nil, List.getElem?_cons_succ]
      rw [← this]; congr 1; omega
theorem ev_val (l : List (Int × Nat)) (i : Nat) (h : i < l.length) : (ev l)[i * 2 + 1]? = some (.int .u64 ((l[i]?.getD (0, 0)).2 : Int)) := by
  induction l generalizing i with
  | nil => simp at h
  | cons p r ih =>
    cases i with
    | zero => simp [ev]
    | succ i =>
      have := ih i (by simpa using h)
      simp only [ev, List.flatMap_cons] at this ⊢
      rw [List.getElem?_append_right (by simp; omega)]
      simp only [List.length_cons, List.length_nil, List.getElem?_cons_succ]
      rw [← this]; congr 1; omega
theorem E64.at {l : List (Int × Nat)} (h : E64 l) (i : Nat) : -9223372036854775808 ≤ (l[i]?.getD (0, 0)).1 ∧ (l[i]?.getD (0, 0)).1 ≤ 9223372036854775807 ∧ (l[i]?.getD (0, 0)).2 < 18446744073709551616 := by
  rcases Nat.lt_or_ge i l.length with hi | hi
  · rw [List.getElem?_eq_getElem hi]; exact h _ (List.getElem_mem hi)
  · rw [List.getElem?_eq_none hi]; decide
theorem Reads.e {w : World} {A : Option Addr} {l : List (Int × Nat)} (h : Reads w A (ev l)) (hl : l.length ≠ 0) :
    ∃ b off, A = some ⟨b, off, none⟩ ∧ b < w.heap.size ∧ ∀ i, i < l.length → w.cell? ⟨b, off + i * 2, none⟩ = some (.int .i64 (l[i]?.getD (0, 0)).1) ∧ w.cell? ⟨b, off + i * 2 + 1, none⟩ = some (.int .u64 ((l[i]?.getD (0, 0)).2 : Int)) := by
  obtain ⟨b, off, e, hb, hc⟩ := h (by rw [ev_length]; omega)
  exact ⟨b, off, e, hb, fun i hi => ⟨hc _ _ (ev_key l i hi), hc _ _ (ev_val l i hi)⟩⟩

/-- Keys ascend from beyond 'last', and none is too great. -/
def ascF : Int → List (Int × Nat) → Bool
  | _, [] => true
  | last, p :: r => decide (last < p.1 ∧ p.1 ≤ 16777215) && ascF p.1 r
theorem ascF_drop (last : Int) (l : List (Int × Nat)) (k : Nat) (hk : k < l.length) (x : Int) (hx : (l[k]?.getD (0, 0)).1 = x) : ascF last (l.drop k) = (decide (last < x ∧ x ≤ 16777215) && ascF x (l.drop (k + 1))) := by
  rw [List.drop_eq_getElem_cons hk, ascF]
  have : (l[k]).1 = x := by rw [← hx, List.getElem?_eq_getElem hk]; rfl
  rw [this]

def validN (lv sq : Int) (l : List (Int × Nat)) : Int :=
  if lv < 0 ∨ 8 < lv ∨ sq < 0 ∨ 16777215 < sq then 1 else if 7 < l.length then 4 else if ascF (-1) l = true then 0 else 2

def nodeV (lv sq : Int) (A : Option Addr) (n c : Nat) : Value := .agg #[.int .i64 lv, .int .i64 sq, .slice A n c]

set_option maxRecDepth 100000 in
set_option maxHeartbeats 1000000 in
theorem valid_any (lv sq : Int) (A : Option Addr) (c n : Nat) (l : List (Int × Nat)) (w : World) (hn : l.length = n) (hA : Reads w A (ev l)) (hl : E64 l) (hlen : n ≤ 1000000) :
    Calls Try.prog 14 #[.agg #[.int .i64 lv, .int .i64 sq, .slice A n c]] w fun e w' => e = .returned (.int .i64 (validN lv sq l)) ∧ Below w.heap.size w w' := by
  by_cases hr : lv < 0 ∨ 8 < lv ∨ sq < 0 ∨ 16777215 < sq
  · have HN : Hid (validN lv sq l = 1) := by show _ = _; unfold validN; rw [if_pos hr]
    clear hn
    by_cases h1 : lv < 0
    · go_enter Try.func14, Try.ntmps14
      go_wp2_with fail
      go_ret
      exact ⟨ret_int HN.out.symm, (Below.refl _ _).alloc (Nat.le_refl _) _⟩
    · by_cases h2 : 8 < lv
      · go_enter Try.func14, Try.ntmps14
        go_wp2_with fail
        go_ret
        exact ⟨ret_int HN.out.symm, (Below.refl _ _).alloc (Nat.le_refl _) _⟩
      · by_cases h3 : sq < 0
        · go_enter Try.func14, Try.ntmps14
          go_wp2_with fail
          go_ret
          exact ⟨ret_int HN.out.symm, (Below.refl _ _).alloc (Nat.le_refl _) _⟩
        · have h4 : 16777215 < sq := by omega
          go_enter Try.func14, Try.ntmps14
          go_wp2_with fail
          go_ret
          exact ⟨ret_int HN.out.symm, (Below.refl _ _).alloc (Nat.le_refl _) _⟩
  · have hr1 : ¬ lv < 0 := by omega
    have hr2 : ¬ 8 < lv := by omega
    have hr3 : ¬ sq < 0 := by omega
    have hr4 : ¬ 16777215 < sq := by omega
    by_cases h7 : 7 < n
    · have HN : Hid (validN lv sq l = 4) := by show _ = _; unfold validN; rw [if_neg hr, if_pos (by omega)]
      have h7' : (7 : Int) < (n : Int) := by omega
      clear hn hr
      go_enter Try.func14, Try.ntmps14
      go_wp2_with fail
      go_ret
      exact ⟨ret_int HN.out.symm, (Below.refl _ _).alloc (Nat.le_refl _) _⟩
    · have HN : Hid (validN lv sq l = if ascF (-1) l = true then 0 else 2) := by show _ = _; unfold validN; rw [if_neg hr, if_neg (by omega)]
      have h7' : ¬ (7 : Int) < (n : Int) := by omega
      have HL := Lib.hid hn
      clear hn hr
      go_enter Try.func14, Try.ntmps14
      go_wp2_with fail
      have hbx : Below w.heap.size w (w.alloc (.cells #[.int .i64 lv, .int .i64 sq, .slice A n c] 27)) := (Below.refl _ _).alloc (Nat.le_refl _) _
      generalize (w.alloc _) = w1 at hbx ⊢
      go_loopw [3, 31] (fun t i wr => ∃ (k : Nat) (la : Int), k ≤ n ∧ i = .int .i64 k ∧ t = .int .i64 la ∧ -1 ≤ la ∧ la ≤ 16777215 ∧ Below w.heap.size w wr ∧ Hid (ascF (-1) l = ascF la (l.drop k))) (fun _ i _ => n - (intOf i).toNat)
      case atStart => exact ⟨0, -1, Nat.zero_le _, rfl, rfl, by omega, by omega, hbx, rfl⟩
      case round =>
        obtain ⟨k, la, hk, rfl, rfl, hla, hla2, hb, hs⟩ := hrel
        by_cases hlt : k < n
        · obtain ⟨b, off, rfl, hbl, hc⟩ := hA.e (by rw [HL.out]; omega)
          obtain ⟨c1, c2⟩ := hc k (by rw [HL.out]; omega)
          have d1 := (hb.cell (p := ⟨b, off + k * 2, none⟩) hbl).trans c1
          have d2 := (hb.cell (p := ⟨b, off + k * 2 + 1, none⟩) hbl).trans c2
          have hk64 := hl.at k
          have HD := Lib.hid (ascF_drop la l k (by rw [HL.out]; omega) _ rfl)
          generalize (l[k]?.getD (0, 0)).1 = x at *
          generalize (l[k]?.getD (0, 0)).2 = y at *
          clear hc c1 c2
          by_cases hx : x ≤ la
          · have HF : Hid (validN lv sq l = 2) := by show _ = _; rw [HN.out, hs.out, HD.out, if_neg (by simp; omega)]
            go_wp2_with fail
            go_ret
            exact ⟨ret_int HF.out.symm, hb.alloc hb.size _⟩
          · by_cases hx2 : 16777215 < x
            · have HF : Hid (validN lv sq l = 2) := by show _ = _; rw [HN.out, hs.out, HD.out, if_neg (by simp; omega)]
              go_wp2_with fail
              go_ret
              exact ⟨ret_int HF.out.symm, hb.alloc hb.size _⟩
            · have HF : Hid (ascF (-1) l = ascF x (l.drop (k + 1))) := by
                show _ = _
                rw [hs.out, HD.out, show decide (la < x ∧ x ≤ 16777215) = true by simp; omega, Bool.true_and]
              go_wp2_with fail
              go_roundw
              case rel => exact ⟨k + 1, x, by omega, by go_num, rfl, by omega, by omega, hb.alloc hb.size _, HF⟩
              case measure => simp [intOf]; omega
        · have HF : Hid (validN lv sq l = 0) := by
            show _ = _
            rw [HN.out, hs.out, List.drop_of_length_le (by rw [HL.out]; omega), if_pos (show ascF la [] = true from rfl)]
          go_wp2_with fail
          go_ret
          exact ⟨ret_int HF.out.symm, hb⟩

set_option maxRecDepth 100000 in
set_option maxHeartbeats 1000000 in
theorem refValid_any (lv sq : Int) (A : Option Addr) (c n : Nat) (l : List (Int × Nat)) (w : World) (hn : l.length = n) (hA : Reads w A (ev l)) (hl : E64 l) (hlen : n ≤ 1000000) :
    Calls Try.prog 15 #[.agg #[.int .i64 lv, .int .i64 sq, .slice A n c]] w fun e w' => e = .returned (.int .i64 (validN lv sq l)) ∧ Below w.heap.size w w' := by
  by_cases hr : lv < 0 ∨ 8 < lv ∨ sq < 0 ∨ 16777215 < sq
  · have HN : Hid (validN lv sq l = 1) := by show _ = _; unfold validN; rw [if_pos hr]
    clear hn
    by_cases h1 : lv < 0
    · go_enter Try.func15, Try.ntmps15
      go_wp2_with fail
      go_ret
      exact ⟨ret_int HN.out.symm, (Below.refl _ _).alloc (Nat.le_refl _) _⟩
    · by_cases h2 : 8 < lv
      · go_enter Try.func15, Try.ntmps15
        go_wp2_with fail
        go_ret
        exact ⟨ret_int HN.out.symm, (Below.refl _ _).alloc (Nat.le_refl _) _⟩
      · by_cases h3 : sq < 0
        · go_enter Try.func15, Try.ntmps15
          go_wp2_with fail
          go_ret
          exact ⟨ret_int HN.out.symm, (Below.refl _ _).alloc (Nat.le_refl _) _⟩
        · have h4 : 16777215 < sq := by omega
          go_enter Try.func15, Try.ntmps15
          go_wp2_with fail
          go_ret
          exact ⟨ret_int HN.out.symm, (Below.refl _ _).alloc (Nat.le_refl _) _⟩
  · have hr1 : ¬ lv < 0 := by omega
    have hr2 : ¬ 8 < lv := by omega
    have hr3 : ¬ sq < 0 := by omega
    have hr4 : ¬ 16777215 < sq := by omega
    by_cases h7 : 7 < n
    · have HN : Hid (validN lv sq l = 4) := by show _ = _; unfold validN; rw [if_neg hr, if_pos (by omega)]
      have h7' : (7 : Int) < (n : Int) := by omega
      clear hn hr
      go_enter Try.func15, Try.ntmps15
      go_wp2_with fail
      go_ret
      exact ⟨ret_int HN.out.symm, (Below.refl _ _).alloc (Nat.le_refl _) _⟩
    · have HN : Hid (validN lv sq l = if ascF (-1) l = true then 0 else 2) := by show _ = _; unfold validN; rw [if_neg hr, if_neg (by omega)]
      have h7' : ¬ (7 : Int) < (n : Int) := by omega
      have HL := Lib.hid hn
      clear hn hr
      have HA := Lib.hid hA
      clear hA
      go_enter Try.func15, Try.ntmps15
      go_wp2_with fail
      have hbx : Below w.heap.size w (w.alloc (.cells #[.int .i64 lv, .int .i64 sq, .slice A n c] 27)) := (Below.refl _ _).alloc (Nat.le_refl _) _
      have hc3 : (w.alloc (.cells #[.int .i64 lv, .int .i64 sq, .slice A n c] 27)).cell? ⟨w.heap.size, 2, none⟩ = some (.slice A n c) := by rw [World.cell?_alloc_at _ _ _ _ rfl]; rfl
      have hA := HA.out.keep hbx
      generalize (w.alloc _) = w1 at hbx hc3 hA ⊢
      have hA1 := Lib.hid hA
      clear hA HA
      go_loop [3] (fun i => ∃ (k : Nat) (la : Int), k ≤ n ∧ i = .int .i64 k ∧ -1 ≤ la ∧ la ≤ 16777215 ∧ Hid (k = 0 → la = -1) ∧ Hid (0 < k → la = (l[k - 1]?.getD (0, 0)).1) ∧ Hid (ascF (-1) l = ascF la (l.drop k))) (fun i => n - (intOf i).toNat)
      case atStart => exact ⟨0, -1, Nat.zero_le _, rfl, by omega, by omega, fun _ => rfl, (fun h => absurd h (by omega)), rfl⟩
      case round =>
        obtain ⟨k, la, hk, rfl, hla, hla2, hz, hp, hs⟩ := hrel
        by_cases hlt : k < n
        · obtain ⟨b, off, rfl, hbl, hc⟩ := hA1.out.e (by rw [HL.out]; omega)
          obtain ⟨d1, d2⟩ := hc k (by rw [HL.out]; omega)
          have hk64 := hl.at k
          have HD := Lib.hid (ascF_drop la l k (by rw [HL.out]; omega) _ rfl)
          have HX := Lib.hid (show (l[k]?.getD (0, 0)).1 = (l[k]?.getD (0, 0)).1 from rfl)
          generalize hx0 : (l[k]?.getD (0, 0)).1 = x at d1 hk64 HD
          generalize (l[k]?.getD (0, 0)).2 = y at d2 hk64
          have HX0 := Lib.hid hx0
          clear hx0 HX
          by_cases hx2 : x < 0 ∨ 16777215 < x
          · have HF : Hid (validN lv sq l = 2) := by show _ = _; rw [HN.out, hs.out, HD.out, if_neg (by simp; omega)]
            clear hc
            by_cases hx3 : x < 0
            · go_wp2_with fail
              go_ret
              exact ⟨ret_int HF.out.symm, hbx⟩
            · have hx4 : 16777215 < x := by omega
              go_wp2_with fail
              go_ret
              exact ⟨ret_int HF.out.symm, hbx⟩
          · have hx3 : ¬ x < 0 := by omega
            have hx4 : ¬ 16777215 < x := by omega
            by_cases hk0 : k = 0
            · have hle := hz.out hk0
              have HF : Hid (ascF (-1) l = ascF x (l.drop (k + 1))) := by
                show _ = _
                rw [hs.out, HD.out, show decide (la < x ∧ x ≤ 16777215) = true by simp; omega, Bool.true_and]
              have hk1 : ¬ (0 : Int) < (k : Int) := by omega
              have hk2 : k < 1 := by omega
              clear hc hle hk0
              go_wp2_with fail
              go_round
              case rel => exact ⟨k + 1, x, by omega, by go_num, by omega, by omega, (fun h => absurd h (by omega)), fun _ => HX0.out.symm, HF⟩
              case measure => simp [intOf]; omega
            · obtain ⟨d3, d4⟩ := hc (k - 1) (by rw [HL.out]; omega)
              have hla3 := hp.out (by omega)
              rw [← hla3] at d3
              have e1 : ((k : Int) - 1).toNat = k - 1 := by omega
              clear hc hla3
              by_cases hxl : x ≤ la
              · have HF : Hid (validN lv sq l = 2) := by show _ = _; rw [HN.out, hs.out, HD.out, if_neg (by simp; omega)]
                go_wp2_with fail
                go_ret
                exact ⟨ret_int HF.out.symm, hbx⟩
              · have HF : Hid (ascF (-1) l = ascF x (l.drop (k + 1))) := by
                  show _ = _
                  rw [hs.out, HD.out, show decide (la < x ∧ x ≤ 16777215) = true by simp; omega, Bool.true_and]
                go_wp2_with fail
                go_round
                case rel => exact ⟨k + 1, x, by omega, by go_num, by omega, by omega, (fun h => absurd h (by omega)), fun _ => HX0.out.symm, HF⟩
                case measure => simp [intOf]; omega
        · have HF : Hid (validN lv sq l = 0) := by
            show _ = _
            rw [HN.out, hs.out, List.drop_of_length_le (by rw [HL.out]; omega), if_pos (show ascF la [] = true from rfl)]
          go_wp2_with fail
          go_ret
          exact ⟨ret_int HF.out.symm, hbx⟩

end Go.Proofs.Ytjnkajdfdhockaa
