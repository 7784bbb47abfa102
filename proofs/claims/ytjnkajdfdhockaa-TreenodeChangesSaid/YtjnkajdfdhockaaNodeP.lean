/-
  treenode.Put, Remove.
-/
import Derived.Test.YtjnkajdfdhockaaNodeO
namespace Go.Proofs.Ytjnkajdfdhockaa
set_option linter.unusedVariables false
open Go.RowKit

theorem ev_set (l : List (Int × Nat)) (i y : Nat) (h : i < l.length) : (ev l).set (i * 2 + 1) (.int .u64 (y : Int)) = ev (l.set i ((l[i]?.getD (0, 0)).1, y)) := by
  induction l generalizing i with
  | nil => simp at h
  | cons p r ih =>
    cases i with
    | zero => simp [ev]
    | succ i =>
      have := ih i (by simpa using h)
      simp only [ev, List.flatMap_cons, List.set_cons_succ, List.getElem?_cons_succ] at this ⊢
      rw [← this, show (i + 1) * 2 + 1 = i * 2 + 1 + 1 + 1 by omega]
      rfl

def putE (l : List (Int × Nat)) (key : Int) : Int := if 8 < l.length then 4 else if key < 0 ∨ 16777215 < key then 1 else 0
def putN (l : List (Int × Nat)) (key : Int) (value : Nat) : List (Int × Nat) := if exactN l key = true then l.set (findN l key).toNat (key, value) else insN l (findN l key + 1).toNat (key, value)

theorem Cs.far {w : World} {g B i : Nat} {t : TypeId} {cs : Array Value} (h : Cs w g t cs) (hne : g ≠ B) (u : Value) : Cs (w.setCell ⟨B, i, none⟩ u) g t cs := (Below.heap_setCell _ _ _ _ hne).trans h
theorem put_field {w : World} {B base n : Nat} {a b c0 v : Value} {xs : List Value} (hc : Cs w B 27 #[a, b, c0]) (hr : w.ownsRow base 52 2 v n xs) :
    Cs (w.setCell ⟨B, 2, none⟩ v) B 27 #[a, b, v] ∧ (w.setCell ⟨B, 2, none⟩ v).ownsRow base 52 2 v n xs :=
  ⟨hc.set3, hr.kept (row := some B) ⟨rfl, rfl, rfl, by simp, fun j _ hj => Below.heap_setCell _ _ _ j (fun e => hj (by rw [e]))⟩ (.inr (fun e => hc.not_row hr (by decide) e.symm))⟩
theorem own_put3 {w : World} {B base n : Nat} {cs : Array Value} {v x y z : Value} {xs : List Value} (hc : Cs w B 27 cs) (hr : w.ownsRow base 52 2 v n xs) :
    (((w.setCell ⟨B, 0, none⟩ x).setCell ⟨B, 1, none⟩ y).setCell ⟨B, 2, none⟩ z).ownsRow base 52 2 v n xs := by
  refine hr.kept (row := some B) ⟨rfl, rfl, rfl, by simp, fun j _ hj => ?_⟩ (.inr (fun e => hc.not_row hr (by decide) e.symm))
  rw [Below.heap_setCell _ _ _ j (fun e => hj (by rw [e])), Below.heap_setCell _ _ _ j (fun e => hj (by rw [e])), Below.heap_setCell _ _ _ j (fun e => hj (by rw [e]))]

set_option maxRecDepth 100000 in
set_option maxHeartbeats 1000000 in
theorem put_no (lv sq key : Int) (value : Nat) (A : Option Addr) (c n : Nat) (l : List (Int × Nat)) (w : World) (hn : l.length = n) (hE : putE l key ≠ 0) :
    Calls Try.prog 33 #[.agg #[.int .i64 lv, .int .i64 sq, .slice A n c], .int .i64 key, .int .u64 (value : Int)] w fun e w' => e = .returned (.tuple #[.agg #[.int .i64 0, .int .i64 0, .slice none 0 0], .int .i64 (putE l key)]) ∧ Below w.heap.size w w' := by
  have hb0 : Below w.heap.size w ((w.alloc (.cells #[.int .i64 lv, .int .i64 sq, .slice A n c] 27)).alloc (.cells #[.int .i64 0, .int .i64 0, .slice none 0 0] 27)) := ((Below.refl _ w).alloc (Nat.le_refl _) _).alloc (by simp) _
  by_cases h8 : 8 < n
  · have HE : Hid (putE l key = 4) := by show _ = _; unfold putE; rw [if_pos (by omega)]
    have h8' : (8 : Int) < (n : Int) := by omega
    clear hn hE
    go_enter Try.func33, Try.ntmps33
    go_wp2_with fail
    exact bodyPost_ret (v := .tuple #[.agg #[.int .i64 0, .int .i64 0, .slice none 0 0], .int .i64 4]) (by simp [results, Try.f33, go_sem]) rfl ⟨by rw [HE.out], hb0⟩
  · have hk : key < 0 ∨ 16777215 < key := by
      unfold putE at hE
      rw [if_neg (by omega)] at hE
      split at hE
      · assumption
      · exact absurd rfl hE
    have HE : Hid (putE l key = 1) := by show _ = _; unfold putE; rw [if_neg (by omega), if_pos hk]
    have h8' : ¬ (8 : Int) < (n : Int) := by omega
    clear hn hE
    by_cases hk1 : key < 0
    · go_enter Try.func33, Try.ntmps33
      go_wp2_with fail
      exact bodyPost_ret (v := .tuple #[.agg #[.int .i64 0, .int .i64 0, .slice none 0 0], .int .i64 1]) (by simp [results, Try.f33, go_sem]) rfl ⟨by rw [HE.out], hb0⟩
    · have hk2 : 16777215 < key := by omega
      go_enter Try.func33, Try.ntmps33
      go_wp2_with fail
      exact bodyPost_ret (v := .tuple #[.agg #[.int .i64 0, .int .i64 0, .slice none 0 0], .int .i64 1]) (by simp [results, Try.f33, go_sem]) rfl ⟨by rw [HE.out], hb0⟩

set_option maxRecDepth 100000 in
set_option maxHeartbeats 1000000 in
theorem put_ok (lv sq key : Int) (value : Nat) (A : Option Addr) (c n : Nat) (l : List (Int × Nat)) (w : World) (hn : l.length = n) (hA : Reads w A (ev l)) (hE : putE l key = 0) :
    Calls Try.prog 33 #[.agg #[.int .i64 lv, .int .i64 sq, .slice A n c], .int .i64 key, .int .u64 (value : Int)] w fun e w' => ∃ v, e = .returned (.tuple #[.agg #[.int .i64 lv, .int .i64 sq, v], .int .i64 0]) ∧ w'.ownsRow w.heap.size 52 2 v (putN l key value).length (ev (putN l key value)) ∧ Below w.heap.size w w' := by
  have h8 : ¬ 8 < n := by
    intro h
    unfold putE at hE
    rw [if_pos (by omega)] at hE
    cases hE
  have hk : 0 ≤ key ∧ key ≤ 16777215 := by
    unfold putE at hE
    rw [if_neg (by omega)] at hE
    by_cases h : key < 0 ∨ 16777215 < key
    · rw [if_pos h] at hE; cases hE
    · omega
  have hk1 : ¬ key < 0 := by omega
  have hk2 : ¬ 16777215 < key := by omega
  have h8' : ¬ (8 : Int) < (n : Int) := by omega
  have hb0 : Below w.heap.size w ((w.alloc (.cells #[.int .i64 lv, .int .i64 sq, .slice A n c] 27)).alloc (.cells #[.int .i64 0, .int .i64 0, .slice none 0 0] 27)) := ((Below.refl _ w).alloc (Nat.le_refl _) _).alloc (by simp) _
  have hC6 := Cs.new (w.alloc (.cells #[.int .i64 lv, .int .i64 sq, .slice A n c] 27)) 27 #[.int .i64 0, .int .i64 0, .slice none 0 0]
  rw [World.size_alloc] at hC6
  have hC3 := (Cs.new w 27 #[.int .i64 lv, .int .i64 sq, .slice A n c]).alloc (.cells #[.int .i64 0, .int .i64 0, .slice none 0 0] 27)
  have hsz : ((w.alloc (.cells #[.int .i64 lv, .int .i64 sq, .slice A n c] 27)).alloc (.cells #[.int .i64 0, .int .i64 0, .slice none 0 0] 27)).heap.size = w.heap.size + 1 + 1 := by simp
  have HCL := Lib.hid (cloneE_any A c n l _ hn (hA.keep hb0) (by omega))
  have HL := Lib.hid hn
  have HC3 := Lib.hid hC3
  have HC6 := Lib.hid hC6
  clear hE hn hA hC3 hC6
  go_enter Try.func33, Try.ntmps33
  go_wp2_with fail
  generalize ((w.alloc _).alloc _) = w1 at hb0 hsz HCL HC3 HC6 ⊢
  refine HCL.out.mono ?_
  rintro e w2 ⟨v, rfl, hown, hb2⟩
  have hlo : w.heap.size + 1 < w1.heap.size := by omega
  clear hsz
  obtain ⟨A2, c2, rfl⟩ := own_form hown
  have hC3 := HC3.out.below hb2 (by omega)
  have hC6 := HC6.out.below hb2 (by omega)
  obtain ⟨x0, x1, x2, y0, y1, y2⟩ := hC3.at3
  obtain ⟨f1, f2⟩ := put_field hC3 hown
  have f3 := hC6.far (B := w.heap.size) (i := 2) (by omega) (.slice A2 n c2)
  have hbw2 := hb0.trans (hb2.mono hb0.size)
  have hbw3 := hbw2.setCell (p := ⟨w.heap.size, 2, none⟩) (Nat.le_refl _) (.slice A2 n c2)
  have hs3 : w1.heap.size ≤ (w2.setCell ⟨w.heap.size, 2, none⟩ (.slice A2 n c2)).heap.size := by have := hb2.size; simp; omega
  have F1 := Lib.hid f1
  have F2 := Lib.hid f2
  have F3 := Lib.hid f3
  clear f1 f2 f3 hC3 hC6 hown HC3 HC6 HCL
  go_wp2_with fail
  generalize (w2.setCell _ _) = w3 at F1 F2 F3 hbw3 hs3 ⊢
  clear x0 x1 x2 y0 y1 y2
  refine (find_any lv sq key A2 c2 n l w3 HL.out (Reads.of_own F2.out) (by omega)).mono ?_
  rintro e w4 ⟨rfl, hb4⟩
  have hC3 := F1.out.below hb4 F1.out.lt
  have hC6 := F3.out.below hb4 F3.out.lt
  have hown := own_keepB F2.out hb4
  have hbw4 := hbw3.trans (hb4.mono hbw3.size)
  have hs4 : w1.heap.size ≤ w4.heap.size := Nat.le_trans hs3 hb4.size
  have hbd := findTo_bd l key l.length
  have hbd1 : -1 ≤ findN l key := hbd.1
  have hbd2 : findN l key < (n : Int) := by have := hbd.2; rw [HL.out] at this; unfold findN; rw [HL.out]; exact this
  have HPN : Hid (putN l key value = if exactN l key = true then l.set (findN l key).toNat (key, value) else insN l (findN l key + 1).toNat (key, value)) := rfl
  have HX : Hid (exactN l key = decide (0 ≤ findN l key ∧ (l[(findN l key).toNat]?.getD (0, 0)).1 = key)) := rfl
  obtain ⟨x0, x1, x2, y0, y1, y2⟩ := hC3.at3
  obtain ⟨p0, p1, p2, r0, r1, r2⟩ := hC6.at3
  clear hbd
  generalize findN l key = f at *
  by_cases hex : exactN l key = true
  · rw [hex] at HPN HX ⊢
    rw [if_pos rfl] at HPN
    have hx := of_decide_eq_true HX.out.symm
    obtain ⟨i, rfl⟩ : ∃ i : Nat, f = (i : Int) := ⟨f.toNat, by omega⟩
    rw [Int.toNat_natCast] at HPN hx
    obtain ⟨g, cap, hgv, hg, hglt⟩ := hown.form (by omega)
    have hA2 : A2 = some ⟨g, 0, none⟩ := by injection hgv
    have hcc : c2 = cap := by injection hgv
    subst hA2 hcc
    have hcv := hown.cellAt (i * 2 + 1) (by omega)
    rw [ev_val l i (by rw [HL.out]; omega)] at hcv
    have hfv := hown.frozenAt (i * 2 + 1)
    have hst := (hown.stored (i * 2 + 1) (.int .u64 (value : Int))).1
    rw [ev_set l i value (by rw [HL.out]; omega), hx.2, ← HPN.out] at hst
    have hne3 : w.heap.size ≠ g := by omega
    have hne6 : w.heap.size + 1 ≠ g := by omega
    have k3 := hC3.far (B := g) (i := i * 2 + 1) hne3 (.int .u64 (value : Int))
    have k6 := hC6.far (B := g) (i := i * 2 + 1) hne6 (.int .u64 (value : Int))
    have hbw5 := hbw4.setCell (p := ⟨g, i * 2 + 1, none⟩) (by show w.heap.size ≤ g; omega) (.int .u64 (value : Int))
    have K3 := Lib.hid k3
    have K6 := Lib.hid k6
    have HST := Lib.hid hst
    have hlen : (putN l key value).length = n := by rw [HPN.out, List.length_set, HL.out]
    have HLEN := Lib.hid hlen
    clear hgv hst k3 k6 hx hex hlen hown hC3 hC6
    have gi : (i : Int) < (n : Int) := hbd2
    go_wp2_with fail
    generalize (w4.setCell _ (.int .u64 (value : Int))) = w5 at K3 K6 HST hbw5 ⊢
    clear x0 x1 x2 y0 y1 y2 p0 p1 p2 r0 r1 r2 hcv hfv
    have hq := Lib.hid (K6.out.put3 (.int .i64 lv) (.int .i64 sq) (.slice (some ⟨g, 0, none⟩) n c2))
    have ho := Lib.hid (own_put3 (x := .int .i64 lv) (y := .int .i64 sq) (z := .slice (some ⟨g, 0, none⟩) n c2) K6.out HST.out)
    have hb := below_put3 hbw5 (show w.heap.size ≤ w.heap.size + 1 by omega) (.int .i64 lv) (.int .i64 sq) (.slice (some ⟨g, 0, none⟩) n c2)
    generalize (((w5.setCell _ _).setCell _ _).setCell _ _) = w6 at hq ho hb ⊢
    obtain ⟨x0, x1, x2, _⟩ := hq.out.at3
    exact bodyPost_ret (v := .tuple #[.agg #[.int .i64 lv, .int .i64 sq, .slice (some ⟨g, 0, none⟩) n c2], .int .i64 0]) (by simp [results, Try.f33, go_sem, x0, x1, x2]) rfl ⟨_, rfl, by rw [HLEN.out]; exact own_lower ho.out (by omega), hb⟩
  · have hex' : exactN l key = false := by simpa using hex
    rw [hex'] at HPN ⊢
    rw [if_neg (by simp)] at HPN
    obtain ⟨j, rfl⟩ : ∃ j : Nat, f = (j : Int) - 1 := ⟨(f + 1).toNat, by omega⟩
    have hj : j ≤ n := by omega
    rw [show ((j : Int) - 1 + 1).toNat = j by omega] at HPN
    have hvb := Cs.new w4 52 #[.int .i64 key, .int .u64 (value : Int)]
    have hlt4 : ∀ k, (Value.slice A2 n c2).ownBlock = some k → k < w4.heap.size := by
      intro k hk
      rcases hown.2 with ⟨h1, _⟩ | ⟨g, cap, cur, h1, _, hh, _⟩
      · rw [h1] at hk; simp [Value.ownBlock] at hk
      · rw [h1] at hk
        obtain rfl : g = k := by simpa [Value.ownBlock] using hk
        exact (Array.getElem?_eq_some_iff.1 hh).1
    have HIN := Lib.hid (insert_any l j n (.slice A2 n c2) w1.heap.size w4.heap.size key value (w4.alloc (.cells #[.int .i64 key, .int .u64 (value : Int)] 52)) HL.out hj (hown.alloc _) (by omega) (by simp; omega) hvb (fun e => by have := hlt4 _ e; omega))
    have HC3 := Lib.hid (hC3.alloc (.cells #[.int .i64 key, .int .u64 (value : Int)] 52))
    have HC6 := Lib.hid (hC6.alloc (.cells #[.int .i64 key, .int .u64 (value : Int)] 52))
    have hbw5 := hbw4.alloc hbw4.size (.cells #[.int .i64 key, .int .u64 (value : Int)] 52)
    have HLEN : Hid ((putN l key value).length = n + 1) := by show _ = _; rw [HPN.out, insN_length _ _ _ (by rw [HL.out]; exact hj), HL.out]
    rw [← HPN.out] at HIN
    clear hown hC3 hC6 hvb hlt4 hex hex'
    go_wp2_with fail
    generalize (w4.alloc _) = w5 at HIN HC3 HC6 hbw5 ⊢
    clear x0 x1 x2 y0 y1 y2 p0 p1 p2 r0 r1 r2
    refine HIN.out.mono ?_
    rintro e w6 ⟨v6, rfl, hown6, hb6⟩
    obtain ⟨A6, c6, rfl⟩ := own_form hown6
    have hC3 := HC3.out.below hb6 (by omega)
    have hC6 := HC6.out.below hb6 (by omega)
    obtain ⟨x0, x1, x2, y0, y1, y2⟩ := hC3.at3
    obtain ⟨p0, p1, p2, r0, r1, r2⟩ := hC6.at3
    obtain ⟨f1, f2⟩ := put_field hC3 hown6
    have f3 := hC6.far (B := w.heap.size) (i := 2) (by omega) (.slice A6 (n + 1) c6)
    have hbw6 := hbw5.trans (hb6.mono (show w.heap.size ≤ w1.heap.size by omega))
    have hbw7 := hbw6.setCell (p := ⟨w.heap.size, 2, none⟩) (Nat.le_refl _) (.slice A6 (n + 1) c6)
    have F1 := Lib.hid f1
    have F2 := Lib.hid f2
    have F3 := Lib.hid f3
    clear f1 f2 f3 hC3 hC6 hown6 HC3 HC6 HIN
    go_wp2_with fail
    generalize (w6.setCell _ (.slice A6 (n + 1) c6)) = w7 at F1 F2 F3 hbw7 ⊢
    clear x0 x1 x2 y0 y1 y2 p0 p1 p2 r0 r1 r2
    have hq := Lib.hid (F3.out.put3 (.int .i64 lv) (.int .i64 sq) (.slice A6 (n + 1) c6))
    have ho := Lib.hid (own_put3 (x := .int .i64 lv) (y := .int .i64 sq) (z := .slice A6 (n + 1) c6) F3.out F2.out)
    have hb := below_put3 hbw7 (show w.heap.size ≤ w.heap.size + 1 by omega) (.int .i64 lv) (.int .i64 sq) (.slice A6 (n + 1) c6)
    generalize (((w7.setCell _ _).setCell _ _).setCell _ _) = w8 at hq ho hb ⊢
    obtain ⟨x0, x1, x2, _⟩ := hq.out.at3
    exact bodyPost_ret (v := .tuple #[.agg #[.int .i64 lv, .int .i64 sq, .slice A6 (n + 1) c6], .int .i64 0]) (by simp [results, Try.f33, go_sem, x0, x1, x2]) rfl ⟨_, rfl, by rw [HLEN.out]; exact own_lower ho.out (by omega), hb⟩

end Go.Proofs.Ytjnkajdfdhockaa
