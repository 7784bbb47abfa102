/-
  slices.Delete of one entry of a row of the call's own.
-/
import Derived.Test.YtjnkajdfdhockaaNodeN
namespace Go.Proofs.Ytjnkajdfdhockaa
set_option linter.unusedVariables false
open Go.RowKit

section
variable {P : Program}
/-- append where there is room, from whatever lies in the same row or elsewhere. -/
theorem run_appendS (w : World) (t ty e : TypeId) (i : TypeInfo) (size : Nat) (ht : P.underlying t = some (.slice e)) (hi : P.info? e = some i) (hs : i.size = size) (hp : 0 < size)
    (g n cap : Nat) (a : Addr) (m c : Nat) (cur : List Value) (cs : List Value)
    (hg : Cs w g e cur.toArray) (hn : cs.length = m * size) (hsrc : ∀ j v, cs[j]? = some v → w.cell? (a.add j) = some v) (hroom : n + m ≤ cap) (hfit : n * size + cs.length ≤ cur.length) (h1 : ∀ v ∈ cs, v.oneCell' = true) :
    (Builtin.append_ #[t, t] ty #[.slice (some ⟨g, 0, none⟩) n cap, .slice (some a) m c]).run P w = .ok (.slice (some ⟨g, 0, none⟩) (n + m) cap) (w.setRow g (splice cur (n * size) cs).toArray) := by
  have hl := run_loadCells_list (P := P) w a cs hsrc
  have hst := run_storeCells_at P g (n * size) e cs 0 cur.toArray w hg (by simpa using hfit) h1
  rw [hn] at hl
  simp [Builtin.append_, run_underlying ht, sizeOf, typeInfo, hi, hs, Builtin.lenOf, Builtin.firstCells, hroom, hl, hst, splice, Addr.add_lit]

/-- clear of some elements of a row. -/
theorem run_clearS (w : World) (t ty e : TypeId) (z : Value) (ht : P.underlying t = some (.slice e)) (hv : ∀ w, (zeroValue e).run P w = .ok z w)
    (g o n c : Nat) (cur : List Value) (hg : Cs w g e cur.toArray) (h0 : 0 < n) (hfit : o + (Builtin.zeroCells z.cells n).toList.length ≤ cur.length) (h1 : ∀ v ∈ (Builtin.zeroCells z.cells n).toList, v.oneCell' = true) :
    (Builtin.clear_ #[t] ty #[.slice (some ⟨g, o, none⟩) n c]).run P w = .ok (.tuple #[]) (w.setRow g (splice cur o (Builtin.zeroCells z.cells n).toList).toArray) := by
  have hst := run_storeCells_at P g o e (Builtin.zeroCells z.cells n).toList 0 cur.toArray w hg (by simpa using hfit) h1
  cases n with
  | zero => omega
  | succ n => simp [Builtin.clear_, run_underlying ht, hv, hst, splice]

theorem wpList_clear_run (w : World) {ops : Array Oper} {rest : List Oper} {o : Oper} {a : Act} {Q : Exit → Act → World → Prop} (hgd : o.guard = none) (s : Operand) (t : TypeId)
    (ho : o.op = .call { callee := .builtin .clear, args := #[s], argTypes := #[t] }) (vs : Value) (hs : a.eval s = vs)
    (v' : Value) (w' : World) (hr : (Builtin.clear_ #[t] o.type #[vs]).run P w = .ok v' w') (h : wpList P ops Q rest (a.put o.dst v') w') : wpList P ops Q (o :: rest) a w := by
  refine wpList_plain hgd fun K hK => ?_
  unfold Oper.wp
  simp only [execOp, ho, resolve, invoke, builtin, Sem.run_bind, Sem.run_pure, Result.andThen_ok, List.map_toArray, List.map_cons, List.map_nil, hs, hr]
  exact hK _ _ h
end

def delN (l : List (Int × Nat)) (i : Nat) : List (Int × Nat) := l.take i ++ l.drop (i + 1)
theorem delN_length (l : List (Int × Nat)) (i : Nat) (h : i < l.length) : (delN l i).length = l.length - 1 := by simp [delN]; omega

/-- What stands in the row behind the shift and the clearing. -/
theorem del_row (l : List (Int × Nat)) (i n : Nat) (cur Z : List Value) (hl : l.length = n) (hi : i < n) (hc : cur.take (n * 2) = ev l) (hs : n * 2 ≤ cur.length) :
    (splice (splice cur (i * 2) (ev (l.drop (i + 1)))) ((n - 1) * 2) Z).take ((n - 1) * 2) = ev (delN l i) := by
  have hd : (ev (l.drop (i + 1))).length = (n - 1 - i) * 2 := by rw [ev_length, List.length_drop, hl]; omega
  have h1 : (ev (l.take i)).length = i * 2 := by rw [ev_length, List.length_take]; omega
  have ht : cur.take (i * 2) = ev (l.take i) := by
    rw [← ev_take, ← hc, List.take_take, Nat.min_eq_left (by omega)]
  have he : ev (delN l i) = ev (l.take i) ++ ev (l.drop (i + 1)) := by rw [delN, ev_append]
  have hsp : splice cur (i * 2) (ev (l.drop (i + 1))) = ev (delN l i) ++ cur.drop (i * 2 + (ev (l.drop (i + 1))).length) := by
    unfold splice; rw [ht, he, List.append_assoc]
  have hlen : (ev (delN l i)).length = (n - 1) * 2 := by rw [ev_length, delN_length l i (by omega), hl]
  rw [hsp, splice_at _ _ _ _ hlen, List.take_left' hlen]

set_option maxRecDepth 100000 in
set_option maxHeartbeats 1000000 in
theorem delete_any (l : List (Int × Nat)) (i n : Nat) (v : Value) (base : Nat) (w : World) (hl : l.length = n) (hi : i < n) (hown : w.ownsRow base 52 2 v n (ev l)) (hn : n ≤ 100000) :
    Calls Try.prog 49 #[v, .int .i64 (i : Int), .int .i64 ((i : Int) + 1)] w fun e w' =>
      ∃ v', e = .returned v' ∧ w'.ownsRow base 52 2 v' (n - 1) (ev (delN l i)) ∧ Below base w w' := by
  obtain ⟨i0, hi0, hz0, hz1, hz2⟩ := info_parts entry_info
  obtain ⟨g, cap, cur, rfl, hbg, hg, hcap, hcm, hcl, hct, hxl⟩ := own_parts hown (by omega)
  have hzv : ∀ w, (zeroValue 52).run Try.prog w = .ok (.agg #[.int .i64 0, .int .u64 0]) w := fun w => by simp [zeroValue, typeInfo, hi0, hz0]
  have hZ : (Builtin.zeroCells (Value.agg #[.int .i64 0, .int .u64 0]).cells 1).toList = [.int .i64 0, .int .u64 0] := by kernel_rfl
  have hdl : (ev (l.drop (i + 1))).length = (n - (i + 1)) * 2 := by rw [ev_length, List.length_drop, hl]
  have hsl : (splice cur (i * 2) (ev (l.drop (i + 1)))).length = cap * 2 := by rw [length_splice _ _ _ (by rw [hcl, hdl]; omega), hcl]
  have hap : ∀ (W : World), Cs W g 52 cur.toArray → ∀ (a : Addr) ty, (0 < n - (i + 1) → a = ⟨g, (i + 1) * 2, none⟩) → (Builtin.append_ #[25, 25] ty #[.slice (some ⟨g, 0, none⟩) i cap, .slice (some a) (n - (i + 1)) (cap - (i + 1))]).run Try.prog W = .ok (.slice (some ⟨g, 0, none⟩) (n - 1) cap) (W.setRow g (splice cur (i * 2) (ev (l.drop (i + 1)))).toArray) := by
    intro W hW a ty ha
    have h := run_appendS (P := Try.prog) W 25 ty 52 i0 2 Try.underlying25 hi0 hz1 (by omega) g i cap a (n - (i + 1)) (cap - (i + 1)) cur (ev (l.drop (i + 1))) hW hdl (fun j u hj => by
      have hlt := (List.getElem?_eq_some_iff.1 hj).1
      rw [hdl] at hlt
      rw [ha (by omega), Addr.add_lit]
      have h := hW.cell ((i + 1) * 2 + j)
      rw [← ev_drop, List.getElem?_drop, ← hct, List.getElem?_take, if_pos (by omega)] at hj
      rw [List.getElem?_toArray, hj] at h
      exact h) (by omega) (by rw [hdl, hcl]; omega) (ev_one _)
    rw [show i + (n - (i + 1)) = n - 1 by omega] at h
    exact h
  have hcr : ∀ (W : World), Cs W g 52 (splice cur (i * 2) (ev (l.drop (i + 1)))).toArray → ∀ ty, (Builtin.clear_ #[25] ty #[.slice (some ⟨g, (n - 1) * 2, none⟩) 1 (cap - (n - 1))]).run Try.prog W = .ok (.tuple #[]) (W.setRow g (splice (splice cur (i * 2) (ev (l.drop (i + 1)))) ((n - 1) * 2) [.int .i64 0, .int .u64 0]).toArray) := by
    intro W hW ty
    have h := run_clearS (P := Try.prog) W 25 ty 52 _ Try.underlying25 hzv g ((n - 1) * 2) 1 (cap - (n - 1)) _ hW (by omega) (by rw [hZ, hsl]; simp; omega) (by rw [hZ]; simp [Value.oneCell'])
    rw [hZ] at h
    exact h
  have hDEL := Lib.hid (del_row l i n cur [.int .i64 0, .int .u64 0] hl hi hct (by omega))
  have HL := Lib.hid hl
  have HG := Lib.hid hg
  have HSL := Lib.hid hsl
  have HAP := Lib.hid hap
  have HCR := Lib.hid hcr
  unfold maxLen at hcm
  have z1 : ((i : Int) == (i : Int) + 1) = false := by simp; omega
  have z2 : (i : Int) + 1 ≤ (n : Int) := by omega
  have z3 : ¬ n = i := by omega
  have z4 : (n : Int) ≤ (cap : Int) := by omega
  have z5 : ¬ cap = i := by omega
  have z8 : (i : Int) ≤ (cap : Int) := by omega
  have z9 : (i : Int) ≤ (n : Int) := by omega
  have z10 : i ≤ cap := by omega
  have z11 : n ≤ cap := by omega
  have z12 : i ≤ n := by omega
  clear hl hdl hsl hap hcr hg hcl hct hxl hown hZ hzv hi0 hz0 hz1 hz2
  go_enter Try.func49, Try.ntmps49
  by_cases hc : cap = i + 1
  · obtain rfl : cap = n := by omega
    subst hc
    have e0 : i + 1 - (i + 1) = 0 := by omega
    have e1 : i + 1 - 1 = i := by omega
    rw [e0, e1] at HAP
    rw [e1] at HCR hDEL
    clear e0 e1
    have y1 : (i : Int) ≤ (i : Int) + 1 := by omega
    have y2 : i ≤ i + 1 := by omega
    go_wp2_with fail
    have t3 : ((i : Int) + 1).toNat = i + 1 := by omega
    have t5 : (0 : Int) ≤ (i : Int) + 1 := by omega
    have t7 : i + 1 ≤ i + 1 := by omega
    go_still_tail 6, (by kernel_rfl)
    change wpList _ _ _ _ _ w.drew
    refine Lib.wpList_append_run _ rfl (.tmp 22) (.tmp 25) _ _ rfl (.slice (some ⟨g, 0, none⟩) i (i + 1)) (.slice (some ⟨g, 0, none⟩) 0 0) (by simp [Act.eval]) (by simp [Act.eval]) _ _ (HAP.out w.drew HG.out _ _ (fun h => absurd h (by omega))) ?_
    have hB1 : Below base w (w.drew.setRow g (splice cur (i * 2) (ev (l.drop (i + 1)))).toArray) := below_setRow (Below.refl base w).drew hbg _
    have hC1 := setRow_heap w.drew g _ (splice cur (i * 2) (ev (l.drop (i + 1)))).toArray 52 _ HG.out
    have HC1 := Lib.hid (show Cs (w.drew.setRow g (splice cur (i * 2) (ev (l.drop (i + 1)))).toArray) g _ _ from hC1)
    clear hC1
    generalize (w.drew.setRow g _) = W1 at hB1 HC1 ⊢
    have t8 : (i : Int) ≤ (i : Int) + 1 := by omega
    have t9 : i + 1 - i = 1 := by omega
    have t10 : ¬ (i + 1) = i := by omega
    clear t3
    go_wp2_with (refine wpList_clear_run _ rfl (.tmp 31) _ rfl (.slice (some ⟨g, (i) * 2, none⟩) 1 ((i + 1) - (i))) (by simp [Act.eval, t9] <;> omega) _ _ (HCR.out W1 HC1.out _) ?_)
    go_ret
    refine ⟨_, rfl, ?_, below_setRow hB1 hbg _⟩
    refine own_make (setRow_heap _ _ _ _ _ _ HC1.out) hbg (by omega) (by unfold maxLen; omega) ?_ hDEL.out (by rw [ev_length, delN_length _ _ (by rw [HL.out]; omega), HL.out]; omega)
    rw [length_splice _ _ _ (by rw [HSL.out]; simp; omega), HSL.out]
  · have z6 : ¬ cap = i + 1 := hc
    go_wp2_with fail
    have t3 : ((i : Int) + 1).toNat = i + 1 := by omega
    have t5 : (0 : Int) ≤ (i : Int) + 1 := by omega
    have t7 : i + 1 ≤ n := by omega
    go_still_tail 6, (by kernel_rfl)
    change wpList _ _ _ _ _ w.drew
    refine Lib.wpList_append_run _ rfl (.tmp 22) (.tmp 25) _ _ rfl (.slice (some ⟨g, 0, none⟩) i cap) (.slice (some ⟨g, (i + 1) * 2, none⟩) (n - (i + 1)) (cap - (i + 1))) (by simp [Act.eval]) (by simp [Act.eval]) _ _ (HAP.out w.drew HG.out _ _ (fun h => rfl)) ?_
    have hB1 : Below base w (w.drew.setRow g (splice cur (i * 2) (ev (l.drop (i + 1)))).toArray) := below_setRow (Below.refl base w).drew hbg _
    have hC1 := setRow_heap w.drew g _ (splice cur (i * 2) (ev (l.drop (i + 1)))).toArray 52 _ HG.out
    have HC1 := Lib.hid (show Cs (w.drew.setRow g (splice cur (i * 2) (ev (l.drop (i + 1)))).toArray) g _ _ from hC1)
    clear hC1
    generalize (w.drew.setRow g _) = W1 at hB1 HC1 ⊢
    have t8 : ((n - 1 : Nat) : Int) ≤ (n : Int) := by omega
    have t9 : n - (n - 1) = 1 := by omega
    have t10 : ¬ cap = n - 1 := by omega
    clear t3
    go_wp2_with (refine wpList_clear_run _ rfl (.tmp 31) _ rfl (.slice (some ⟨g, (n - 1) * 2, none⟩) 1 (cap - (n - 1))) (by simp [Act.eval] <;> omega) _ _ (HCR.out W1 HC1.out _) ?_)
    go_ret
    refine ⟨_, rfl, ?_, below_setRow hB1 hbg _⟩
    refine own_make (setRow_heap _ _ _ _ _ _ HC1.out) hbg (by omega) (by unfold maxLen; omega) ?_ hDEL.out (by rw [ev_length, delN_length _ _ (by rw [HL.out]; omega), HL.out])
    rw [length_splice _ _ _ (by rw [HSL.out]; simp; omega), HSL.out]

end Go.Proofs.Ytjnkajdfdhockaa
