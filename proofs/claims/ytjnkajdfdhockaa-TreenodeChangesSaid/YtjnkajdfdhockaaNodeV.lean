/-
  ref25.Remove, Split.
-/
import Derived.Test.YtjnkajdfdhockaaNodeU
import Derived.Test.YtjnkajdfdhockaaNodeQ
namespace Go.Proofs.Ytjnkajdfdhockaa
set_option linter.unusedVariables false
open Go.RowKit

set_option maxRecDepth 100000 in
set_option maxHeartbeats 1000000 in
theorem refRemove_no (lv sq i : Int) (A : Option Addr) (c n : Nat) (l : List (Int × Nat)) (w : World) (hn : l.length = n) (hlen : n ≤ 1000000) (hE : remE l i ≠ 0) :
    Calls Try.prog 36 #[.agg #[.int .i64 lv, .int .i64 sq, .slice A n c], .int .i64 i] w fun e w' => e = .returned (.tuple #[.agg #[.int .i64 0, .int .i64 0, .slice none 0 0], .int .i64 1]) ∧ Below w.heap.size w w' := by
  have hb0 : Below w.heap.size w ((w.alloc (.cells #[.int .i64 lv, .int .i64 sq, .slice A n c] 27)).alloc (.cells #[.int .i64 0, .int .i64 0, .slice none 0 0] 27)) := ((Below.refl _ w).alloc (Nat.le_refl _) _).alloc (by simp) _
  have hk : i < 0 ∨ (n : Int) ≤ i := by
    unfold remE at hE
    rw [hn] at hE
    split at hE
    · assumption
    · exact absurd rfl hE
  clear hE hn
  by_cases h1 : i < 0
  · go_enter Try.func36, Try.ntmps36
    go_wp2_with fail
    exact bodyPost_ret (v := .tuple #[.agg #[.int .i64 0, .int .i64 0, .slice none 0 0], .int .i64 1]) (by simp [results, Try.f36, go_sem]) rfl ⟨rfl, hb0⟩
  · have h2 : (n : Int) ≤ i := by omega
    go_enter Try.func36, Try.ntmps36
    go_wp2_with fail
    exact bodyPost_ret (v := .tuple #[.agg #[.int .i64 0, .int .i64 0, .slice none 0 0], .int .i64 1]) (by simp [results, Try.f36, go_sem]) rfl ⟨rfl, hb0⟩

/-- with, at two parts. -/
theorem with2 (lv sq : Int) (A A' : Option Addr) (c n c' i n' : Nat) (l1 l2 : List (Int × Nat)) (w4 : World) (h1 : l1.length = i) (h2 : l2.length = n') (r1 : Reads w4 A (ev l1)) (r2 : Reads w4 A' (ev l2)) (hi : i ≤ 1000) (hn' : n' ≤ 1000) :
    Calls Try.prog 48 #[.agg #[.int .i64 lv, .int .i64 sq, .slice A n c], .slice (some ⟨w4.heap.size, 0, none⟩) 2 2]
      (w4.alloc (.cells #[.slice A i c, .slice A' n' c'] 25)).drew fun e w' =>
      ∃ v, e = .returned (.agg #[.int .i64 lv, .int .i64 sq, v]) ∧ w'.ownsRow w4.heap.size 52 2 v (l1 ++ l2).length (ev (l1 ++ l2)) ∧ Below w4.heap.size w4 w' := by
  have hbb : Below w4.heap.size w4 (w4.alloc (.cells #[.slice A i c, .slice A' n' c'] 25)).drew := ((Below.refl _ w4).alloc (Nat.le_refl _) _).drew
  have hf : flat [⟨A, c, l1⟩, ⟨A', c', l2⟩] = l1 ++ l2 := by simp [flat]
  have hcs := Cs.new w4 25 #[.slice A i c, .slice A' n' c']
  have h := with_any lv sq A n c w4.heap.size 2 2 [⟨A, c, l1⟩, ⟨A', c', l2⟩] (w4.alloc (.cells #[.slice A i c, .slice A' n' c'] 25)).drew rfl
    (by
      simp only [List.map_cons, List.map_nil, Part.v, h1, h2]
      exact hcs)
    (by
      intro p hp
      simp only [List.mem_cons, List.not_mem_nil, or_false] at hp
      rcases hp with rfl | rfl
      · exact r1.keep hbb
      · exact r2.keep hbb) (by omega) (by rw [hf]; simp; omega)
  rw [hf] at h
  refine h.mono ?_
  rintro e w' ⟨v, rfl, ho, hb⟩
  exact ⟨v, rfl, own_lower ho hbb.size, hbb.trans (hb.mono hbb.size)⟩

set_option maxRecDepth 100000 in
set_option maxHeartbeats 1000000 in
theorem refRemove_ok (lv sq i0 : Int) (A : Option Addr) (c n : Nat) (l : List (Int × Nat)) (w : World) (hn : l.length = n) (hA : Reads w A (ev l)) (hc : n ≤ c) (hlen : n ≤ 1000) (hE : remE l i0 = 0) :
    Calls Try.prog 36 #[.agg #[.int .i64 lv, .int .i64 sq, .slice A n c], .int .i64 i0] w fun e w' => ∃ v, e = .returned (.tuple #[.agg #[.int .i64 lv, .int .i64 sq, v], .int .i64 0]) ∧ w'.ownsRow w.heap.size 52 2 v (delN l i0.toNat).length (ev (delN l i0.toNat)) ∧ Below w.heap.size w w' := by
  have hk : 0 ≤ i0 ∧ i0 < (n : Int) := by
    unfold remE at hE
    rw [hn] at hE
    by_cases h : i0 < 0 ∨ (n : Int) ≤ i0
    · rw [if_pos h] at hE; cases hE
    · omega
  obtain ⟨i, rfl⟩ : ∃ i : Nat, i0 = (i : Int) := ⟨i0.toNat, by omega⟩
  rw [Int.toNat_natCast]
  have hb0 : Below w.heap.size w ((w.alloc (.cells #[.int .i64 lv, .int .i64 sq, .slice A n c] 27)).alloc (.cells #[.int .i64 0, .int .i64 0, .slice none 0 0] 27)) := ((Below.refl _ w).alloc (Nat.le_refl _) _).alloc (by simp) _
  have hC6 := Cs.new (w.alloc (.cells #[.int .i64 lv, .int .i64 sq, .slice A n c] 27)) 27 #[.int .i64 0, .int .i64 0, .slice none 0 0]
  rw [World.size_alloc] at hC6
  have hC3 := (Cs.new w 27 #[.int .i64 lv, .int .i64 sq, .slice A n c]).alloc (.cells #[.int .i64 0, .int .i64 0, .slice none 0 0] 27)
  have HL := Lib.hid hn
  have HA4 := Lib.hid (hA.keep hb0)
  have HD3 := Lib.hid hC3
  have HD6 := Lib.hid hC6
  have HPN : Hid (delN l i = l.take i ++ l.drop (i + 1)) := rfl
  have hin : i < n := by omega
  have t0 : ¬ (i : Int) < 0 := by omega
  have t4 : ¬ (n : Int) ≤ (i : Int) := by omega
  have t1 : IntKind.i64.wrap ((i : Int) + 1) = (i : Int) + 1 := IntWalk.i64_in _ (by omega)
  have t3 : ((i : Int) + 1).toNat = i + 1 := by omega
  have t5 : (0 : Int) ≤ (i : Int) + 1 := by omega
  have t6 : (i : Int) + 1 ≤ (n : Int) := by omega
  have t7 : (i : Int) ≤ (c : Int) := by omega
  have t8 : i ≤ c := by omega
  have t9 : i + 1 ≤ n := by omega
  have ta : (0 : Int) ≤ (i : Int) := by omega
  clear hE hn hA hC3 hC6 hk
  go_enter Try.func36, Try.ntmps36
  go_wp2_with fail
  generalize ((w.alloc _).alloc _) = w4 at hb0 HA4 HD3 HD6 ⊢
  have hs4 : w.heap.size + 1 < w4.heap.size := HD6.out.lt
  obtain ⟨x0, x1, x2, y0, y1, y2⟩ := HD3.out.at3
  refine wp_region_mix 10 11 (by kernel_rfl) (by kernel_rfl) (fun w' => w'.cell? ⟨w.heap.size, 0, none⟩ = some (.int .i64 lv) ∧ w'.cell? ⟨w.heap.size, 1, none⟩ = some (.int .i64 sq) ∧ w'.cell? ⟨w.heap.size, 2, none⟩ = some (.slice A n c)) ⟨x0, x1, x2⟩ ?_
  simp only [List.take_succ_cons, List.take_zero, List.drop_succ_cons, List.drop_zero]
  iterate 10
    refine ⟨?_, Or.inl ⟨by rfl, fun W' hS' => ?_⟩, fun _ _ _ h => h, ?_⟩
    rotate_left
    · obtain ⟨hs1, hs2, hs3⟩ := hS'
      go_simp
      with_reducible rfl
    simp only [Act.put, List.setIfInBounds_toArray, List.set_cons_zero, List.set_cons_succ]
  show wpSeqT _ _ _ _ _ _ _ _ _
  refine wpSeqT_step (fun K hK => ?_)
  go_simp
  refine hK _ _ (fun _ => ⟨(World.cell?_alloc_lt _ _ _ (by simp; omega)).trans x0, (World.cell?_alloc_lt _ _ _ (by simp; omega)).trans x1, (World.cell?_alloc_lt _ _ _ (by simp; omega)).trans x2⟩) ?_
  clear hK K
  refine wpSeqT_list _ _ _ _ (by omega) ?_
  have hW := with2 lv sq A (if c = i + 1 then A else Option.map (fun x => x.add ((i + 1) * 2)) A) c n (c - (i + 1)) i (n - (i + 1)) (l.take i) (l.drop (i + 1)) w4 (by rw [List.length_take, HL.out]; omega) (by rw [List.length_drop, HL.out]) (take_reads HA4.out) (cut_reads HA4.out HL.out hc (by omega)) (by omega) (by omega)
  rw [← HPN.out] at hW
  have HW := Lib.hid hW
  clear hW x0 x1 x2 y0 y1 y2
  generalize (if c = i + 1 then A else Option.map (fun x => x.add ((i + 1) * 2)) A) = A' at HW ⊢
  go_wp2_with fail
  refine HW.out.mono ?_
  rintro e w6 ⟨v6, rfl, ho6, hb6⟩
  obtain ⟨A6, c6, rfl⟩ := own_form ho6
  have hC6 := HD6.out.below hb6 hs4
  obtain ⟨p0, p1, p2, r0, r1, r2⟩ := hC6.at3
  have hq := Lib.hid (hC6.put3 (.int .i64 lv) (.int .i64 sq) (.slice A6 (delN l i).length c6))
  have ho := Lib.hid (own_put3 (x := .int .i64 lv) (y := .int .i64 sq) (z := .slice A6 (delN l i).length c6) hC6 ho6)
  have hb := below_put3 (hb0.trans (hb6.mono hb0.size)) (show w.heap.size ≤ w.heap.size + 1 by omega) (.int .i64 lv) (.int .i64 sq) (.slice A6 (delN l i).length c6)
  have hb8 := hb0.size
  clear ho6 hC6
  generalize hFF : (delN l i).length = F at *
  have HFF := Lib.hid hFF
  clear hFF
  go_wp2_with fail
  generalize (((w6.setCell _ _).setCell _ _).setCell _ _) = w8 at hq ho hb ⊢
  clear p0 p1 p2 r0 r1 r2
  obtain ⟨x0, x1, x2, _⟩ := hq.out.at3
  exact bodyPost_ret (v := .tuple #[.agg #[.int .i64 lv, .int .i64 sq, .slice A6 F c6], .int .i64 0]) (by simp [results, Try.f36, go_sem, x0, x1, x2]) rfl ⟨_, rfl, by rw [HFF.out]; exact own_lower ho.out hb8, hb⟩

end Go.Proofs.Ytjnkajdfdhockaa
