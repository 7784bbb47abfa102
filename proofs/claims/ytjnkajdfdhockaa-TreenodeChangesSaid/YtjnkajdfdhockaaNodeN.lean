/-
  slices.Insert where there is room; at any own row.
-/
import Derived.Test.YtjnkajdfdhockaaNodeM
import Derived.Laws.Externs
namespace Go.Proofs.Ytjnkajdfdhockaa
set_option linter.unusedVariables false
open Go.RowKit

theorem Cs.shape {w : World} {g : Nat} {t : TypeId} {cs : Array Value} (h : Cs w g t cs) : w.shape? g = some (t, cs.size) := by
  unfold Cs at h
  simp [World.shape?, h]

theorem splice_split (cur D : List Value) (o : Nat) (h : o + D.length ≤ cur.length) : splice cur o D = cur.take o ++ (D ++ cur.drop (o + D.length)) := rfl

/-- What stands in the row behind the two copies, in place. -/
theorem ins_row2 (l : List (Int × Nat)) (i n : Nat) (x : Int × Nat) (cur : List Value) (hl : l.length = n) (hi : i ≤ n) (hc : cur.take (n * 2) = ev l) (hs : (n + 1) * 2 ≤ cur.length) :
    (splice (splice cur ((i + 1) * 2) (ev (l.drop i))) (i * 2) [.int .i64 x.1, .int .u64 (x.2 : Int)]).take ((n + 1) * 2) = ev (insN l i x) := by
  have hd : (ev (l.drop i)).length = (n - i) * 2 := by rw [ev_length, List.length_drop, hl]
  have h1 : (ev (l.take i)).length = i * 2 := by rw [ev_length, List.length_take]; omega
  have ht : cur.take (i * 2) = ev (l.take i) := by
    rw [← ev_take, ← hc, List.take_take, Nat.min_eq_left (by omega)]
  obtain ⟨R, hR⟩ : ∃ R, cur.drop ((i + 1) * 2 + (ev (l.drop i)).length) = R := ⟨_, rfl⟩
  obtain ⟨M, hM⟩ : ∃ M, cur.take ((i + 1) * 2) = ev (l.take i) ++ M ∧ M.length = 2 := by
    refine ⟨(cur.take ((i + 1) * 2)).drop (i * 2), ?_, by rw [List.length_drop, List.length_take]; omega⟩
    rw [← ht]
    have := List.take_append_drop (i * 2) (cur.take ((i + 1) * 2))
    rw [List.take_take, Nat.min_eq_left (by omega)] at this
    exact this.symm
  rw [show splice cur ((i + 1) * 2) (ev (l.drop i)) = ev (l.take i) ++ (M ++ (ev (l.drop i) ++ R)) by unfold splice; rw [hR, hM.1, List.append_assoc]]
  rw [splice_at _ _ _ _ h1, ev_ins]
  have hM2 : List.drop ([.int .i64 x.1, .int .u64 (x.2 : Int)] : List Value).length (M ++ (ev (l.drop i) ++ R)) = ev (l.drop i) ++ R := by
    rw [List.drop_append, List.drop_eq_nil_of_le (by rw [hM.2]; exact Nat.le_refl _), List.nil_append, hM.2]
    rfl
  rw [hM2, ← List.append_assoc, ← List.append_assoc, ← List.append_assoc]
  rw [List.take_left' (by rw [List.length_append, List.length_append, h1, hd]; simp; omega)]

set_option maxRecDepth 100000 in
set_option maxHeartbeats 1000000 in
theorem insert_room (l : List (Int × Nat)) (i n g cap : Nat) (cur : List Value) (base vb : Nat) (k0 : Int) (v0 : Nat) (w : World) (hl : l.length = n) (hi : i < n) (hn : n ≤ 100000) (hbg : base ≤ g)
    (hg : Cs w g 52 cur.toArray) (hcap : n + 1 ≤ cap) (hcm : cap ≤ maxLen) (hcl : cur.length = cap * 2) (hct : cur.take (n * 2) = ev l)
    (hv : Cs w vb 52 #[.int .i64 k0, .int .u64 (v0 : Int)]) (hne : vb ≠ g) :
    Calls Try.prog 47 #[.slice (some ⟨g, 0, none⟩) n cap, .int .i64 (i : Int), .slice (some ⟨vb, 0, none⟩) 1 1] w fun e w' =>
      ∃ v', e = .returned v' ∧ w'.ownsRow base 52 2 v' (n + 1) (ev (insN l i (k0, v0))) ∧ Below base w w' := by
  obtain ⟨i0, hi0, hz0, hz1, hz2⟩ := info_parts entry_info
  have hsz : (Try.prog.info? 52).map (·.size) = some 2 := by rw [hi0]; simp [hz1]
  have hz : ∀ w, (Go.sizeOf 52).run Try.prog w = .ok 2 w := fun w => by simp [sizeOf, typeInfo, hi0, hz1]
  have hov : ∀ lb cb, (callFunc 58 #[.slice (some ⟨vb, 0, none⟩) 1 1, .slice (some ⟨g, (i + 1) * 2, none⟩) lb cb]).run Try.prog w = .ok (.value (.bool false)) w := fun lb cb => by
    rw [run_callFunc_extern Try.func58 (by kernel_rfl) (by kernel_rfl) (by kernel_rfl) (e := Extern.SlicesOverlaps.overlaps #[25, 25] #[4]) (by kernel_rfl),
      Lib.run_overlaps_apart w 25 4 52 Try.underlying25 2 hz ⟨vb, 0, none⟩ ⟨g, (i + 1) * 2, none⟩ 1 1 lb cb hne 52 52 2 cur.length hv.shape (by have := hg.shape; simpa using this) (by omega) (hv.free 0) (hv.free 2)]
    rfl
  have HL := Lib.hid hl
  have hINS := Lib.hid (ins_row2 l i n (k0, v0) cur hl (by omega) hct (by omega))
  have hdl : (ev (l.drop i)).length = (n - i) * 2 := by rw [ev_length, List.length_drop, hl]
  have HDL := Lib.hid hdl
  have HCL := Lib.hid hcl
  have HCT := Lib.hid hct
  have HSZ := Lib.hid hsz
  have HG := Lib.hid hg
  have HV := Lib.hid hv
  unfold maxLen at hcm
  have z2 : ((i : Int) == (n : Int)) = false := by simp; omega
  have z3 : ¬ (cap : Int) < (n : Int) + 1 := by omega
  have z4 : ¬ cap = i := by omega
  have z6 : ¬ cap = i + 1 := by omega
  have z7 : (i : Int) ≤ (n : Int) := by omega
  have z8 : (i : Int) ≤ (cap : Int) := by omega
  have z9 : (n : Int) + 1 ≤ (cap : Int) := by omega
  have z10 : (i : Int) ≤ (n : Int) + 1 := by omega
  have hm1 : ([.int .i64 k0, .int .u64 (v0 : Int)] : List Value).length = Nat.min 1 (n + 1 - i) * 2 := by show 2 = min 1 (n + 1 - i) * 2; omega
  have hm2 : (ev (l.drop i)).length = Nat.min (n + 1 - i) (n + 1 - (i + 1)) * 2 := by rw [hdl]; show _ = min (n + 1 - i) (n + 1 - (i + 1)) * 2; omega
  have HM1 := Lib.hid hm1
  have HM2 := Lib.hid hm2
  clear hm1 hm2 hdl hcl hct hsz hg hv hl hi0 hz0 hz1 hz2 hz
  go_enter Try.func47, Try.ntmps47
  go_wp2_with (simp only [hov])
  have t1 : IntKind.i64.wrap ((i : Int) + 1) = (i : Int) + 1 := IntWalk.i64_in _ (by omega)
  have t3 : ((i : Int) + 1).toNat = i + 1 := by omega
  have t5 : (0 : Int) ≤ (i : Int) + 1 := by omega
  have t6 : (i : Int) + 1 ≤ (n : Int) + 1 := by omega
  have t7 : i + 1 ≤ n + 1 := by omega
  go_still_tail 8, (by kernel_rfl)
  change wpList _ _ _ _ _ w.drew
  refine wpList_copyS (o := ⟨some 77, _, _, _, _, _⟩) rfl (.tmp 73) (.tmp 76) 25 25 rfl 52 2 Try.underlying25 HSZ.out g ((i + 1) * 2) (n + 1 - (i + 1)) (cap - (i + 1)) ⟨g, i * 2, none⟩ (n + 1 - i) (cap - i) (by simp [Act.eval]) (by simp [Act.eval]) _ 52 (show Cs w.drew _ _ _ from HG.out) (ev (l.drop i)) HM2.out (fun j u hj => ?_) ?_ (ev_one _) base w (Below.refl base w).drew hbg ?_
  · rw [Addr.add_lit]
    have h := HG.out.cell (i * 2 + j)
    have hlt : i * 2 + j < n * 2 := by
      have := (List.getElem?_eq_some_iff.1 hj).1
      rw [HDL.out] at this
      omega
    rw [← ev_drop, List.getElem?_drop, ← HCT.out, List.getElem?_take, if_pos hlt] at hj
    rw [List.getElem?_toArray, hj] at h
    exact h
  · rw [HCL.out, HDL.out]
    omega
  intro W3 hC3 hB3 hk3
  have HC3 := Lib.hid hC3
  have HV3 := Lib.hid (show Cs W3 vb 52 #[.int .i64 k0, .int .u64 (v0 : Int)] from (hk3 vb hne).trans HV.out)
  have HS3 : Hid ((splice cur ((i + 1) * 2) (ev (l.drop i))).length = cap * 2) := by show _ = _; rw [length_splice _ _ _ (by rw [HCL.out, HDL.out]; omega), HCL.out]
  clear hC3 hk3 t1 t3
  go_wp2_with ((with_reducible refine wpList_copyS (o := ⟨some 82, _, _, _, _, _⟩) rfl (.tmp 80) (.tmp 81) 25 25 rfl 52 2 Try.underlying25 HSZ.out g (i * 2) (n + 1 - i) (cap - i) ⟨vb, 0, none⟩ 1 1 rfl rfl _ 52 HC3.out [.int .i64 k0, .int .u64 (v0 : Int)] HM1.out (fun j u hj => by rw [Addr.add_lit, Nat.zero_add, HV3.out.cell]; simpa using hj) (by rw [HS3.out]; simp; omega) (by simp [Value.oneCell']) base w hB3 hbg ?_); intro W4 hC4 hB4 hk4; have HC4 := Lib.hid hC4; clear hC4 hk4)
  go_ret
  refine ⟨_, rfl, ?_, hB4⟩
  refine own_make HC4.out hbg (by omega) (by unfold maxLen; omega) ?_ hINS.out (by rw [ev_length, insN_length _ _ _ (by rw [HL.out]; omega), HL.out])
  have h : ([.int .i64 k0, .int .u64 (v0 : Int)] : List Value).length = 2 := rfl
  rw [length_splice _ _ _ (by rw [HS3.out, h]; omega), HS3.out]

/-- slices.Insert of one entry into a row of the call's own. -/
theorem insert_any (l : List (Int × Nat)) (i n : Nat) (v : Value) (base vb : Nat) (k0 : Int) (v0 : Nat) (w : World) (hl : l.length = n) (hi : i ≤ n) (hown : w.ownsRow base 52 2 v n (ev l)) (hn : n ≤ 100000) (hbase : base ≤ w.heap.size)
    (hv : Cs w vb 52 #[.int .i64 k0, .int .u64 (v0 : Int)]) (hne : v.ownBlock ≠ some vb) :
    Calls Try.prog 47 #[v, .int .i64 (i : Int), .slice (some ⟨vb, 0, none⟩) 1 1] w fun e w' =>
      ∃ v', e = .returned v' ∧ w'.ownsRow base 52 2 v' (n + 1) (ev (insN l i (k0, v0))) ∧ Below base w w' := by
  by_cases hin : i = n
  · subst hin
    exact insert_end l i v base vb k0 v0 w hl hown hn hbase hv
  · obtain ⟨g, cap, cur, rfl, hb, hc, h1, h2, h3, h4, h5⟩ := own_parts hown (by omega)
    by_cases hcap : n + 1 ≤ cap
    · exact insert_room l i n g cap cur base vb k0 v0 w hl (by omega) hn hb hc hcap h2 h3 h4 hv (fun e => hne (by rw [e]; rfl))
    · obtain rfl : cap = n := by omega
      rw [List.take_of_length_le (by omega)] at h4
      rw [h4] at hc
      exact insert_grow l i cap g base vb k0 v0 w hl (by omega) hn hbase hc hv

end Go.Proofs.Ytjnkajdfdhockaa
