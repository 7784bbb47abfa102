/-
  ref25.Put, Remove.
-/
import Derived.Test.YtjnkajdfdhockaaNodeT
namespace Go.Proofs.Ytjnkajdfdhockaa
set_option linter.unusedVariables false
open Go.RowKit

set_option maxRecDepth 100000 in
set_option maxHeartbeats 1000000 in
theorem refPut_no (lv sq key : Int) (value : Nat) (A : Option Addr) (c n : Nat) (l : List (Int × Nat)) (w : World) (hn : l.length = n) (hE : putE l key ≠ 0) :
    Calls Try.prog 34 #[.agg #[.int .i64 lv, .int .i64 sq, .slice A n c], .int .i64 key, .int .u64 (value : Int)] w fun e w' => e = .returned (.tuple #[.agg #[.int .i64 0, .int .i64 0, .slice none 0 0], .int .i64 (putE l key)]) ∧ Below w.heap.size w w' := by
  have hb0 : Below w.heap.size w ((w.alloc (.cells #[.int .i64 lv, .int .i64 sq, .slice A n c] 27)).alloc (.cells #[.int .i64 0, .int .i64 0, .slice none 0 0] 27)) := ((Below.refl _ w).alloc (Nat.le_refl _) _).alloc (by simp) _
  by_cases h8 : 8 < n
  · have HE : Hid (putE l key = 4) := by show _ = _; unfold putE; rw [if_pos (by omega)]
    have h8' : (8 : Int) < (n : Int) := by omega
    clear hn hE
    go_enter Try.func34, Try.ntmps34
    go_wp2_with fail
    exact bodyPost_ret (v := .tuple #[.agg #[.int .i64 0, .int .i64 0, .slice none 0 0], .int .i64 4]) (by simp [results, Try.f34, go_sem]) rfl ⟨by rw [HE.out], hb0⟩
  · have hk : key < 0 ∨ 16777215 < key := by
      unfold putE at hE
      rw [if_neg (by omega)] at hE
      split at hE
      · assumption
      · exact absurd rfl hE
    have HE : Hid (putE l key = 1) := by show _ = _; unfold putE; rw [if_neg (by omega), if_pos hk]
    have h8' : ¬ (8 : Int) < (n : Int) := by omega
    clear hn hE
    by_cases hk1 : key < 0
    · go_enter Try.func34, Try.ntmps34
      go_wp2_with fail
      exact bodyPost_ret (v := .tuple #[.agg #[.int .i64 0, .int .i64 0, .slice none 0 0], .int .i64 1]) (by simp [results, Try.f34, go_sem]) rfl ⟨by rw [HE.out], hb0⟩
    · have hk2 : 16777215 < key := by omega
      go_enter Try.func34, Try.ntmps34
      go_wp2_with fail
      exact bodyPost_ret (v := .tuple #[.agg #[.int .i64 0, .int .i64 0, .slice none 0 0], .int .i64 1]) (by simp [results, Try.f34, go_sem]) rfl ⟨by rw [HE.out], hb0⟩

/-- The part of a slice from place k on. -/
theorem cut_reads {w : World} {A : Option Addr} {l : List (Int × Nat)} {n c k : Nat} (h : Reads w A (ev l)) (hn : l.length = n) (hc : n ≤ c) (hk : k ≤ n) : Reads w (if c = k then A else A.map (·.add (k * 2))) (ev (l.drop k)) := by
  intro hz
  rw [ev_length, List.length_drop, hn] at hz
  obtain ⟨b, off, rfl, hb, hcs⟩ := h (by rw [ev_length, hn]; omega)
  rw [if_neg (by omega)]
  refine ⟨b, off + k * 2, ?_, hb, fun j v hj => ?_⟩
  · show some ((⟨b, off, none⟩ : Addr).add (k * 2)) = _
    rw [Addr.add_lit]
  · rw [← ev_drop, List.getElem?_drop] at hj
    rw [Nat.add_assoc]
    exact hcs _ _ hj
theorem take_reads {w : World} {A : Option Addr} {l : List (Int × Nat)} {k : Nat} (h : Reads w A (ev l)) : Reads w A (ev (l.take k)) := by rw [← ev_take]; exact h.take' _

theorem set_parts (l : List (Int × Nat)) (i : Nat) (x : Int × Nat) (h : i < l.length) : l.set i x = l.take i ++ ([x] ++ l.drop (i + 1)) := by
  rw [List.set_eq_take_append_cons_drop, if_pos h]
  rfl

/-- with, at three parts that lie behind one another in memory. -/
theorem with3 (lv sq key : Int) (value : Nat) (A A' : Option Addr) (c n c' i n' : Nat) (l1 l2 : List (Int × Nat)) (w4 : World) (h1 : l1.length = i) (h2 : l2.length = n') (r1 : Reads w4 A (ev l1)) (r2 : Reads w4 A' (ev l2)) (hi : i ≤ 1000) (hn' : n' ≤ 1000) :
    Calls Try.prog 48 #[.agg #[.int .i64 lv, .int .i64 sq, .slice A n c], .slice (some ⟨w4.heap.size + 1, 0, none⟩) 3 3]
      ((w4.alloc (.cells #[.int .i64 key, .int .u64 (value : Int)] 52)).alloc (.cells #[.slice A i c, .slice (some ⟨w4.heap.size, 0, none⟩) 1 1, .slice A' n' c'] 25)).drew fun e w' =>
      ∃ v, e = .returned (.agg #[.int .i64 lv, .int .i64 sq, v]) ∧ w'.ownsRow w4.heap.size 52 2 v (l1 ++ ([(key, value)] ++ l2)).length (ev (l1 ++ ([(key, value)] ++ l2))) ∧ Below w4.heap.size w4 w' := by
  have hbb : Below w4.heap.size w4 ((w4.alloc (.cells #[.int .i64 key, .int .u64 (value : Int)] 52)).alloc (.cells #[.slice A i c, .slice (some ⟨w4.heap.size, 0, none⟩) 1 1, .slice A' n' c'] 25)).drew := (((Below.refl _ w4).alloc (Nat.le_refl _) _).alloc (by simp) _).drew
  have hf : flat [⟨A, c, l1⟩, ⟨some ⟨w4.heap.size, 0, none⟩, 1, [(key, value)]⟩, ⟨A', c', l2⟩] = l1 ++ ([(key, value)] ++ l2) := by simp [flat]
  have hcs := Cs.new (w4.alloc (.cells #[.int .i64 key, .int .u64 (value : Int)] 52)) 25 #[.slice A i c, .slice (some ⟨w4.heap.size, 0, none⟩) 1 1, .slice A' n' c']
  rw [World.size_alloc] at hcs
  have hx := Cs.new w4 52 #[.int .i64 key, .int .u64 (value : Int)]
  have h := with_any lv sq A n c (w4.heap.size + 1) 3 3 [⟨A, c, l1⟩, ⟨some ⟨w4.heap.size, 0, none⟩, 1, [(key, value)]⟩, ⟨A', c', l2⟩]
    ((w4.alloc (.cells #[.int .i64 key, .int .u64 (value : Int)] 52)).alloc (.cells #[.slice A i c, .slice (some ⟨w4.heap.size, 0, none⟩) 1 1, .slice A' n' c'] 25)).drew rfl
    (by
      simp only [List.map_cons, List.map_nil, Part.v, h1, h2, List.length_cons, List.length_nil]
      exact hcs)
    (by
      intro p hp
      simp only [List.mem_cons, List.not_mem_nil, or_false] at hp
      rcases hp with rfl | rfl | rfl
      · exact r1.keep hbb
      · intro _
        refine ⟨w4.heap.size, 0, rfl, by simp; omega, fun j u hj => ?_⟩
        have := (hx.alloc (.cells #[.slice A i c, .slice (some ⟨w4.heap.size, 0, none⟩) 1 1, .slice A' n' c'] 25)).cell j
        rw [Nat.zero_add]
        refine Eq.trans this ?_
        simpa [ev] using hj
      · exact r2.keep hbb) (by omega) (by rw [hf]; simp; omega)
  rw [hf] at h
  refine h.mono ?_
  rintro e w' ⟨v, rfl, ho, hb⟩
  exact ⟨v, rfl, own_lower ho hbb.size, hbb.trans (hb.mono hbb.size)⟩

set_option maxRecDepth 100000 in
set_option maxHeartbeats 1000000 in
theorem refPut_ok (lv sq key : Int) (value : Nat) (A : Option Addr) (c n : Nat) (l : List (Int × Nat)) (w : World) (hn : l.length = n) (hA : Reads w A (ev l)) (hc : n ≤ c) (hE : putE l key = 0) :
    Calls Try.prog 34 #[.agg #[.int .i64 lv, .int .i64 sq, .slice A n c], .int .i64 key, .int .u64 (value : Int)] w fun e w' => ∃ v, e = .returned (.tuple #[.agg #[.int .i64 lv, .int .i64 sq, v], .int .i64 0]) ∧ w'.ownsRow w.heap.size 52 2 v (putN l key value).length (ev (putN l key value)) ∧ Below w.heap.size w w' := by
  have h8 : ¬ 8 < n := by
    intro h
    unfold putE at hE
    rw [if_pos (by omega)] at hE
    cases hE
  have hk : 0 ≤ key ∧ key ≤ 16777215 := by
    unfold putE at hE
    rw [if_neg (by omega)] at hE
    by_cases h : key < 0 ∨ 16777215 < key
    · rw [if_pos h] at hE; cases hE
    · omega
  have hk1 : ¬ key < 0 := by omega
  have hk2 : ¬ 16777215 < key := by omega
  have h8' : ¬ (8 : Int) < (n : Int) := by omega
  have hb0 : Below w.heap.size w ((w.alloc (.cells #[.int .i64 lv, .int .i64 sq, .slice A n c] 27)).alloc (.cells #[.int .i64 0, .int .i64 0, .slice none 0 0] 27)) := ((Below.refl _ w).alloc (Nat.le_refl _) _).alloc (by simp) _
  have hC6 := Cs.new (w.alloc (.cells #[.int .i64 lv, .int .i64 sq, .slice A n c] 27)) 27 #[.int .i64 0, .int .i64 0, .slice none 0 0]
  rw [World.size_alloc] at hC6
  have hC3 := (Cs.new w 27 #[.int .i64 lv, .int .i64 sq, .slice A n c]).alloc (.cells #[.int .i64 0, .int .i64 0, .slice none 0 0] 27)
  have HFI := Lib.hid (refFind_any lv sq key A c n l _ hn (hA.keep hb0) (by omega))
  have HL := Lib.hid hn
  have HA := Lib.hid (hA.keep hb0)
  have HC3 := Lib.hid hC3
  have HC6 := Lib.hid hC6
  clear hE hn hA hC3 hC6
  go_enter Try.func34, Try.ntmps34
  go_wp2_with fail
  generalize ((w.alloc _).alloc _) = w1 at hb0 HFI HA HC3 HC6 ⊢
  refine HFI.out.mono ?_
  rintro e w4 ⟨rfl, hb4⟩
  have hC3 := HC3.out.below hb4 HC3.out.lt
  have hC6 := HC6.out.below hb4 HC6.out.lt
  have hA4 := HA.out.keep hb4
  have hbw4 := hb0.trans (hb4.mono hb0.size)
  have hbd := findTo_bd l key l.length
  have hbd1 : -1 ≤ findN l key := hbd.1
  have hbd2 : findN l key < (n : Int) := by have := hbd.2; rw [HL.out] at this; unfold findN; rw [HL.out]; exact this
  have HPN : Hid (putN l key value = if exactN l key = true then l.set (findN l key).toNat (key, value) else insN l (findN l key + 1).toNat (key, value)) := rfl
  have HX : Hid (exactN l key = decide (0 ≤ findN l key ∧ (l[(findN l key).toNat]?.getD (0, 0)).1 = key)) := rfl
  have hs4 : w.heap.size + 1 < w4.heap.size := hC6.lt
  obtain ⟨x0, x1, x2, y0, y1, y2⟩ := hC3.at3
  have HD3 := Lib.hid hC3
  have HD6 := Lib.hid hC6
  have HA4 := Lib.hid hA4
  clear hbd hC3 hC6 hA4 HC3 HC6 HA HFI
  generalize findN l key = f at *
  by_cases hex : exactN l key = true
  · rw [hex] at HPN HX ⊢
    rw [if_pos rfl] at HPN
    have hx := of_decide_eq_true HX.out.symm
    obtain ⟨i, rfl⟩ : ∃ i : Nat, f = (i : Int) := ⟨f.toNat, by omega⟩
    rw [Int.toNat_natCast] at HPN hx
    have hin : i < n := by omega
    have t1 : IntKind.i64.wrap ((i : Int) + 1) = (i : Int) + 1 := IntWalk.i64_in _ (by omega)
    have t3 : ((i : Int) + 1).toNat = i + 1 := by omega
    have t5 : (0 : Int) ≤ (i : Int) + 1 := by omega
    have t6 : (i : Int) + 1 ≤ (n : Int) := by omega
    have t7 : (i : Int) ≤ (c : Int) := by omega
    have t8 : i ≤ c := by omega
    have t9 : i + 1 ≤ n := by omega
    clear hx hex
    go_wp2_with fail
    have z0 := (World.cell?_alloc_lt w4 (.cells #[.int .i64 key, .int .u64 (value : Int)] 52) ⟨w.heap.size, 0, none⟩ HD3.out.lt).trans x0
    have z1 := (World.cell?_alloc_lt w4 (.cells #[.int .i64 key, .int .u64 (value : Int)] 52) ⟨w.heap.size, 1, none⟩ HD3.out.lt).trans x1
    have z2 := (World.cell?_alloc_lt w4 (.cells #[.int .i64 key, .int .u64 (value : Int)] 52) ⟨w.heap.size, 2, none⟩ HD3.out.lt).trans x2
    refine wp_region_mix 11 12 (by kernel_rfl) (by kernel_rfl) (fun w' => w'.cell? ⟨w.heap.size, 0, none⟩ = some (.int .i64 lv) ∧ w'.cell? ⟨w.heap.size, 1, none⟩ = some (.int .i64 sq) ∧ w'.cell? ⟨w.heap.size, 2, none⟩ = some (.slice A n c)) ⟨z0, z1, z2⟩ ?_
    simp only [List.take_succ_cons, List.take_zero, List.drop_succ_cons, List.drop_zero]
    iterate 11
      refine ⟨?_, Or.inl ⟨by rfl, fun W' hS' => ?_⟩, fun _ _ _ h => h, ?_⟩
      rotate_left
      · obtain ⟨hs1, hs2, hs3⟩ := hS'
        go_simp
        with_reducible rfl
      simp only [Act.put, List.setIfInBounds_toArray, List.set_cons_zero, List.set_cons_succ]
    show wpSeqT _ _ _ _ _ _ _ _ _
    refine wpSeqT_step (fun K hK => ?_)
    go_simp
    refine hK _ _ (fun _ => ⟨(World.cell?_alloc_lt _ _ _ (by simp; omega)).trans z0, (World.cell?_alloc_lt _ _ _ (by simp; omega)).trans z1, (World.cell?_alloc_lt _ _ _ (by simp; omega)).trans z2⟩) ?_
    clear hK K
    refine wpSeqT_list _ _ _ _ (by omega) ?_
    have hW := with3 lv sq key value A (if c = i + 1 then A else Option.map (fun x => x.add ((i + 1) * 2)) A) c n (c - (i + 1)) i (n - (i + 1)) (l.take i) (l.drop (i + 1)) w4 (by rw [List.length_take, HL.out]; omega) (by rw [List.length_drop, HL.out]) (take_reads HA4.out) (cut_reads HA4.out HL.out hc (by omega)) (by omega) (by omega)
    rw [← set_parts l i (key, value) (by rw [HL.out]; exact hin), ← HPN.out] at hW
    have HW := Lib.hid hW
    clear hW z0 z1 z2 x0 x1 x2 y0 y1 y2
    generalize (if c = i + 1 then A else Option.map (fun x => x.add ((i + 1) * 2)) A) = A' at HW ⊢
    go_wp2_with fail
    refine HW.out.mono ?_
    rintro e w6 ⟨v6, rfl, ho6, hb6⟩
    obtain ⟨A6, c6, rfl⟩ := own_form ho6
    have hC6 := HD6.out.below hb6 hs4
    obtain ⟨p0, p1, p2, r0, r1, r2⟩ := hC6.at3
    have hq := Lib.hid (hC6.put3 (.int .i64 lv) (.int .i64 sq) (.slice A6 (putN l key value).length c6))
    have ho := Lib.hid (own_put3 (x := .int .i64 lv) (y := .int .i64 sq) (z := .slice A6 (putN l key value).length c6) hC6 ho6)
    have hb := below_put3 (hbw4.trans (hb6.mono hbw4.size)) (show w.heap.size ≤ w.heap.size + 1 by omega) (.int .i64 lv) (.int .i64 sq) (.slice A6 (putN l key value).length c6)
    have hb8 := hbw4.size
    clear ho6 hC6
    generalize hFF : (putN l key value).length = F at *
    have HFF := Lib.hid hFF
    clear hFF
    go_wp2_with fail
    generalize (((w6.setCell _ _).setCell _ _).setCell _ _) = w8 at hq ho hb ⊢
    clear p0 p1 p2 r0 r1 r2
    obtain ⟨x0, x1, x2, _⟩ := hq.out.at3
    exact bodyPost_ret (v := .tuple #[.agg #[.int .i64 lv, .int .i64 sq, .slice A6 F c6], .int .i64 0]) (by simp [results, Try.f34, go_sem, x0, x1, x2]) rfl ⟨_, rfl, by rw [HFF.out]; exact own_lower ho.out hb8, hb⟩
  · have hex' : exactN l key = false := by simpa using hex
    rw [hex'] at HPN ⊢
    rw [if_neg (by simp)] at HPN
    obtain ⟨j, rfl⟩ : ∃ j : Nat, f = (j : Int) - 1 := ⟨(f + 1).toNat, by omega⟩
    have hj : j ≤ n := by omega
    rw [show ((j : Int) - 1 + 1).toNat = j by omega] at HPN
    have t1 : IntKind.i64.wrap ((j : Int) - 1 + 1) = (j : Int) := by rw [show (j : Int) - 1 + 1 = (j : Int) by omega]; exact IntWalk.i64_in _ (by omega)
    have t2 : IntKind.i64.wrap (j : Int) = (j : Int) := IntWalk.i64_in _ (by omega)
    have t5 : (0 : Int) ≤ (j : Int) := by omega
    have t6 : (j : Int) ≤ (n : Int) := by omega
    have t7 : (j : Int) ≤ (c : Int) := by omega
    have t8 : j ≤ c := by omega
    clear hex hex'
    go_wp2_with fail
    have z0 := (World.cell?_alloc_lt w4 (.cells #[.int .i64 key, .int .u64 (value : Int)] 52) ⟨w.heap.size, 0, none⟩ HD3.out.lt).trans x0
    have z1 := (World.cell?_alloc_lt w4 (.cells #[.int .i64 key, .int .u64 (value : Int)] 52) ⟨w.heap.size, 1, none⟩ HD3.out.lt).trans x1
    have z2 := (World.cell?_alloc_lt w4 (.cells #[.int .i64 key, .int .u64 (value : Int)] 52) ⟨w.heap.size, 2, none⟩ HD3.out.lt).trans x2
    refine wp_region_mix 12 13 (by kernel_rfl) (by kernel_rfl) (fun w' => w'.cell? ⟨w.heap.size, 0, none⟩ = some (.int .i64 lv) ∧ w'.cell? ⟨w.heap.size, 1, none⟩ = some (.int .i64 sq) ∧ w'.cell? ⟨w.heap.size, 2, none⟩ = some (.slice A n c)) ⟨z0, z1, z2⟩ ?_
    simp only [List.take_succ_cons, List.take_zero, List.drop_succ_cons, List.drop_zero]
    iterate 12
      refine ⟨?_, Or.inl ⟨by rfl, fun W' hS' => ?_⟩, fun _ _ _ h => h, ?_⟩
      rotate_left
      · obtain ⟨hs1, hs2, hs3⟩ := hS'
        go_simp
        with_reducible rfl
      simp only [Act.put, List.setIfInBounds_toArray, List.set_cons_zero, List.set_cons_succ]
    show wpSeqT _ _ _ _ _ _ _ _ _
    refine wpSeqT_step (fun K hK => ?_)
    go_simp
    refine hK _ _ (fun _ => ⟨(World.cell?_alloc_lt _ _ _ (by simp; omega)).trans z0, (World.cell?_alloc_lt _ _ _ (by simp; omega)).trans z1, (World.cell?_alloc_lt _ _ _ (by simp; omega)).trans z2⟩) ?_
    clear hK K
    refine wpSeqT_list _ _ _ _ (by omega) ?_
    have hW := with3 lv sq key value A (if c = j then A else Option.map (fun x => x.add (j * 2)) A) c n (c - j) j (n - j) (l.take j) (l.drop j) w4 (by rw [List.length_take, HL.out]; omega) (by rw [List.length_drop, HL.out]) (take_reads HA4.out) (cut_reads HA4.out HL.out hc (by omega)) (by omega) (by omega)
    rw [show l.take j ++ ([(key, value)] ++ l.drop j) = putN l key value from HPN.out.symm] at hW
    have HW := Lib.hid hW
    clear hW z0 z1 z2 x0 x1 x2 y0 y1 y2
    generalize (if c = j then A else Option.map (fun x => x.add (j * 2)) A) = A' at HW ⊢
    go_wp2_with fail
    refine HW.out.mono ?_
    rintro e w6 ⟨v6, rfl, ho6, hb6⟩
    obtain ⟨A6, c6, rfl⟩ := own_form ho6
    have hC6 := HD6.out.below hb6 hs4
    obtain ⟨p0, p1, p2, r0, r1, r2⟩ := hC6.at3
    have hq := Lib.hid (hC6.put3 (.int .i64 lv) (.int .i64 sq) (.slice A6 (putN l key value).length c6))
    have ho := Lib.hid (own_put3 (x := .int .i64 lv) (y := .int .i64 sq) (z := .slice A6 (putN l key value).length c6) hC6 ho6)
    have hb := below_put3 (hbw4.trans (hb6.mono hbw4.size)) (show w.heap.size ≤ w.heap.size + 1 by omega) (.int .i64 lv) (.int .i64 sq) (.slice A6 (putN l key value).length c6)
    have hb8 := hbw4.size
    clear ho6 hC6
    generalize hFF : (putN l key value).length = F at *
    have HFF := Lib.hid hFF
    clear hFF
    go_wp2_with fail
    generalize (((w6.setCell _ _).setCell _ _).setCell _ _) = w8 at hq ho hb ⊢
    clear p0 p1 p2 r0 r1 r2
    obtain ⟨x0, x1, x2, _⟩ := hq.out.at3
    exact bodyPost_ret (v := .tuple #[.agg #[.int .i64 lv, .int .i64 sq, .slice A6 F c6], .int .i64 0]) (by simp [results, Try.f34, go_sem, x0, x1, x2]) rfl ⟨_, rfl, by rw [HFF.out]; exact own_lower ho.out hb8, hb⟩

end Go.Proofs.Ytjnkajdfdhockaa
