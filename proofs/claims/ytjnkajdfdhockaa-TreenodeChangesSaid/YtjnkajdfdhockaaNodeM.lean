/-
  slices.Insert of one entry into a row of the call's own.
-/
import Derived.Test.YtjnkajdfdhockaaNodeL
namespace Go.Proofs.Ytjnkajdfdhockaa
set_option linter.unusedVariables false
open Go.RowKit

/-- The entries with one more at place i. -/
def insN (l : List (Int × Nat)) (i : Nat) (x : Int × Nat) : List (Int × Nat) := l.take i ++ x :: l.drop i
theorem insN_length (l : List (Int × Nat)) (i : Nat) (x : Int × Nat) (h : i ≤ l.length) : (insN l i x).length = l.length + 1 := by simp [insN]; omega
theorem insN_end (l : List (Int × Nat)) (n : Nat) (x : Int × Nat) (h : l.length = n) : insN l n x = l ++ [x] := by simp [insN, ← h]

theorem own_parts {w : World} {base n : Nat} {e : TypeId} {size : Nat} {v : Value} {xs : List Value} (h : w.ownsRow base e size v n xs) (hn : 0 < n) :
    ∃ (g cap : Nat) (cur : List Value), v = .slice (some ⟨g, 0, none⟩) n cap ∧ base ≤ g ∧ Cs w g e cur.toArray ∧ n ≤ cap ∧ cap ≤ maxLen ∧ cur.length = cap * size ∧ cur.take (n * size) = xs ∧ xs.length = n * size := by
  rcases h.2 with ⟨_, h2⟩ | ⟨g, cap, cur, hv, hb, hh, h1, h2, hs, ht⟩
  · omega
  · exact ⟨g, cap, cur.toList, hv, hb, by simpa [Cs] using hh, h1, h2, by simpa using hs, ht, h.1⟩
theorem own_make {w : World} {base n g cap : Nat} {e : TypeId} {size : Nat} {xs cur : List Value} (hc : Cs w g e cur.toArray) (hb : base ≤ g) (h1 : n ≤ cap) (h2 : cap ≤ maxLen) (hs : cur.length = cap * size) (ht : cur.take (n * size) = xs) (hx : xs.length = n * size) :
    w.ownsRow base e size (.slice (some ⟨g, 0, none⟩) n cap) n xs :=
  ⟨hx, .inr ⟨g, cap, cur.toArray, rfl, hb, hc, h1, h2, by simpa using hs, by simpa using ht⟩⟩

set_option maxRecDepth 100000 in
set_option maxHeartbeats 1000000 in
theorem insert_end (l : List (Int × Nat)) (n : Nat) (v : Value) (base vb : Nat) (k0 : Int) (v0 : Nat) (w : World) (hl : l.length = n) (hown : w.ownsRow base 52 2 v n (ev l)) (hn : n ≤ 100000) (hbase : base ≤ w.heap.size)
    (hv : Cs w vb 52 #[.int .i64 k0, .int .u64 (v0 : Int)]) :
    Calls Try.prog 47 #[v, .int .i64 (n : Int), .slice (some ⟨vb, 0, none⟩) 1 1] w fun e w' =>
      ∃ v', e = .returned v' ∧ w'.ownsRow base 52 2 v' (n + 1) (ev (insN l n (k0, v0))) ∧ Below base w w' := by
  obtain ⟨i0, hi0, hz0, hz1, hz2⟩ := info_parts entry_info
  have HI : Hid (insN l n (k0, v0) = l ++ [(k0, v0)]) := insN_end l n _ hl
  obtain ⟨A1, c1, rfl⟩ := own_form hown
  have hcap : n ≤ c1 := by
    rcases hown.2 with ⟨h1, h2⟩ | ⟨g, cap, cur, h1, _, _, h3, _⟩
    · omega
    · injection h1 with _ _ h1; omega
  have hcap2 : c1 ≤ 9223372036854775807 := by
    rcases hown.2 with ⟨h1, h2⟩ | ⟨g, cap, cur, h1, _, _, h3, h4, _⟩
    · injection h1 with _ _ h1; omega
    · injection h1 with _ _ h1; simp only [maxLen] at h4; omega
  have hr : Reads w (some ⟨vb, 0, none⟩) [.int .i64 k0, .int .u64 (v0 : Int)] := by
    intro _
    exact ⟨vb, 0, rfl, hv.lt, fun i u hu => by rw [Nat.zero_add, hv.cell]; simpa using hu⟩
  have hq : ((n : Int) == (n : Int)) = true := by simp
  have hle : (n : Int) ≤ (c1 : Int) := by omega
  have HO := Lib.hid hown
  have HR := Lib.hid hr
  clear hl hown hr hv
  by_cases hcn : c1 = n
  · subst hcn
    rcases A1 with _ | a1
    · go_enter Try.func47, Try.ntmps47
      go_wp2_with (at_builtin; refine wpList_append_reads _ rfl (.tmp 23) (.tmp 24) _ rfl base 52 i0 _ 2 16 Try.underlying25 hi0 hz0 hz1 hz2 rfl (by omega) (.slice (none) c1 c1) c1 (ev l) rfl HO.out (some ⟨vb, 0, none⟩) 1 1 [.int .i64 k0, .int .u64 (v0 : Int)] rfl rfl HR.out (by simp [Value.oneCell']) (by simp only [maxLen]; omega) (by omega) hbase ?_; intro v1 w1 hown1 hg1 hat1)
      go_ret
      exact ⟨v1, rfl, by rw [HI.out, ev_snoc]; exact hown1, (Below.refl _ w).grown hg1 hbase (own_base HO.out)⟩
    · go_enter Try.func47, Try.ntmps47
      go_wp2_with (at_builtin; refine wpList_append_reads _ rfl (.tmp 23) (.tmp 24) _ rfl base 52 i0 _ 2 16 Try.underlying25 hi0 hz0 hz1 hz2 rfl (by omega) (.slice (some a1) c1 c1) c1 (ev l) rfl HO.out (some ⟨vb, 0, none⟩) 1 1 [.int .i64 k0, .int .u64 (v0 : Int)] rfl rfl HR.out (by simp [Value.oneCell']) (by simp only [maxLen]; omega) (by omega) hbase ?_; intro v1 w1 hown1 hg1 hat1)
      go_ret
      exact ⟨v1, rfl, by rw [HI.out, ev_snoc]; exact hown1, (Below.refl _ w).grown hg1 hbase (own_base HO.out)⟩
  · have hlt : n < c1 := by omega
    have hsome : ∃ g, A1 = some ⟨g, 0, none⟩ := by
      rcases HO.out.2 with ⟨h1, h2⟩ | ⟨g, cap, cur, h1, _⟩
      · injection h1 with _ _ h3; omega
      · injection h1 with h1; exact ⟨g, h1⟩
    obtain ⟨g, rfl⟩ := hsome
    go_enter Try.func47, Try.ntmps47
    go_wp2_with (at_builtin; refine wpList_append_reads _ rfl (.tmp 23) (.tmp 24) _ rfl base 52 i0 _ 2 16 Try.underlying25 hi0 hz0 hz1 hz2 rfl (by omega) (.slice (some ⟨g, 0, none⟩) n c1) n (ev l) rfl HO.out (some ⟨vb, 0, none⟩) 1 1 [.int .i64 k0, .int .u64 (v0 : Int)] rfl rfl HR.out (by simp [Value.oneCell']) (by simp only [maxLen]; omega) (by omega) hbase ?_; intro v1 w1 hown1 hg1 hat1)
    go_ret
    exact ⟨v1, rfl, by rw [HI.out, ev_snoc]; exact hown1, (Below.refl _ w).grown hg1 hbase (own_base HO.out)⟩

theorem splice_at (p T cs : List Value) (o : Nat) (h : p.length = o) : splice (p ++ T) o cs = p ++ (cs ++ T.drop cs.length) := by
  subst h
  unfold splice
  rw [List.take_left' rfl, List.drop_append, List.drop_eq_nil_of_le (by omega), List.nil_append]
  congr 3
  omega

theorem ev_take (l : List (Int × Nat)) (i : Nat) : (ev l).take (i * 2) = ev (l.take i) := by
  induction l generalizing i with
  | nil => simp [ev]
  | cons p r ih =>
    cases i with
    | zero => simp [ev]
    | succ i =>
      have := ih i
      simp only [ev, List.flatMap_cons, List.take_succ_cons] at this ⊢
      rw [show (i + 1) * 2 = i * 2 + 1 + 1 by omega, List.cons_append, List.cons_append, List.nil_append, List.take_succ_cons, List.take_succ_cons, this]
      rfl
theorem ev_drop (l : List (Int × Nat)) (i : Nat) : (ev l).drop (i * 2) = ev (l.drop i) := by
  induction l generalizing i with
  | nil => simp [ev]
  | cons p r ih =>
    cases i with
    | zero => simp [ev]
    | succ i =>
      have := ih i
      simp only [ev, List.flatMap_cons, List.drop_succ_cons] at this ⊢
      rw [show (i + 1) * 2 = i * 2 + 1 + 1 by omega, List.cons_append, List.cons_append, List.nil_append, List.drop_succ_cons, List.drop_succ_cons, this]
theorem ev_ins (l : List (Int × Nat)) (i : Nat) (x : Int × Nat) : ev (insN l i x) = ev (l.take i) ++ ([.int .i64 x.1, .int .u64 (x.2 : Int)] ++ ev (l.drop i)) := by
  rw [insN, ev_append]
  rfl

/-- What stands in the new row behind the two copies. -/
theorem ins_row (l : List (Int × Nat)) (i n : Nat) (x : Int × Nat) (T : List Value) (hl : l.length = n) (hi : i ≤ n) :
    (splice (splice (ev (l.take i) ++ T) (i * 2) [.int .i64 x.1, .int .u64 (x.2 : Int)]) ((i + 1) * 2) (ev (l.drop i))).take ((n + 1) * 2) = ev (insN l i x) := by
  have h1 : (ev (l.take i)).length = i * 2 := by rw [ev_length, List.length_take]; omega
  rw [splice_at _ _ _ _ h1, ← List.append_assoc, splice_at _ _ _ _ (by rw [List.length_append, h1]; simp; omega), ev_ins]
  rw [List.append_assoc, ← List.append_assoc _ (ev (l.drop i)), ← List.append_assoc]
  rw [List.take_left' (by rw [List.length_append, List.length_append, h1, ev_length, List.length_drop]; simp; omega)]

theorem zeroCells_length (z : Array Value) (n : Nat) : (Builtin.zeroCells z n).size = n * z.size := by simp [Builtin.zeroCells]

set_option maxRecDepth 100000 in
set_option maxHeartbeats 1000000 in
theorem insert_grow (l : List (Int × Nat)) (i n g : Nat) (base vb : Nat) (k0 : Int) (v0 : Nat) (w : World) (hl : l.length = n) (hi : i < n) (hn : n ≤ 100000) (hbase : base ≤ w.heap.size)
    (hg : Cs w g 52 (ev l).toArray)
    (hv : Cs w vb 52 #[.int .i64 k0, .int .u64 (v0 : Int)]) :
    Calls Try.prog 47 #[.slice (some ⟨g, 0, none⟩) n n, .int .i64 (i : Int), .slice (some ⟨vb, 0, none⟩) 1 1] w fun e w' =>
      ∃ v', e = .returned v' ∧ w'.ownsRow base 52 2 v' (n + 1) (ev (insN l i (k0, v0))) ∧ Below base w w' := by
  obtain ⟨i0, hi0, hz0, hz1, hz2⟩ := info_parts entry_info
  have hIT : Try.prog.underlying 3 = some (.int .i64) := Try.underlying3
  have hold : (Builtin.firstCells i0.size i (.slice (some ⟨g, 0, none⟩) i n)).run Try.prog w.drew = .ok (ev (l.take i)).toArray w.drew := by
    rw [hz1]
    refine run_firstCells_some w.drew 2 i ⟨g, 0, none⟩ i n (ev (l.take i)) (by rw [ev_length, List.length_take]; omega) (fun j v hj => ?_)
    rw [Addr.add_lit, Nat.zero_add]
    have := hg.cell j
    rw [← ev_take, List.getElem?_take] at hj
    split at hj
    · rw [← hj]; simpa using this
    · cases hj
  have hkk : (n : Int) + 1 - (i : Int) = ((n + 1 - i : Nat) : Int) := by omega
  have hik : i + (n + 1 - i) = n + 1 := by omega
  have hrz := fun ty => Lib.run_append_grow_zeros w 25 3 ty 52 i0 _ .i64 .i64 Try.underlying25 hIT hi0 hz0 (some ⟨g, 0, none⟩) i n (ev (l.take i)) hold (n + 1 - i) (by omega) (by omega) (by omega) (by omega) (by rw [hz2]; omega) (by rw [hz2, hik]; exact growslice_fits (by omega) (by omega))
  rw [hik, ← hkk] at hrz
  have hG1 := grownCap_ge w (n + 1) n 52
  have hG2 := grownCap_le_maxLen w (n + 1) n 52 (by unfold maxLen; omega)
  obtain ⟨T, hT⟩ : ∃ T, T = (Builtin.zeroCells (Value.agg #[.int .i64 0, .int .u64 0]).cells (n + 1 - i)).toList ++ (Builtin.zeroCells (Value.agg #[.int .i64 0, .int .u64 0]).cells (grownCap w (n + 1) n 52 - (n + 1))).toList := ⟨_, rfl⟩
  have hTl : T.length = (grownCap w (n + 1) n 52 - i) * 2 := by
    rw [hT, List.length_append, Array.length_toList, Array.length_toList, zeroCells_length, zeroCells_length]
    simp [Value.cells]
    omega
  have hrow : (ev (l.take i)).toArray ++ Builtin.zeroCells (Value.agg #[.int .i64 0, .int .u64 0]).cells (n + 1 - i) ++ Builtin.zeroCells (Value.agg #[.int .i64 0, .int .u64 0]).cells (grownCap w (n + 1) n 52 - (n + 1)) = (ev (l.take i) ++ T).toArray := by
    rw [hT]
    apply Array.toList_inj.1
    simp
  rw [hrow] at hrz
  generalize grownCap w (n + 1) n 52 = G at *
  obtain ⟨W1, hW1⟩ : ∃ W1, W1 = w.drew.alloc (.cells (ev (l.take i) ++ T).toArray 52) := ⟨_, rfl⟩
  rw [← hW1] at hrz
  have hC1 : Cs W1 w.heap.size 52 (ev (l.take i) ++ T).toArray := by rw [hW1]; exact Cs.new w.drew _ _
  have hB1 : Below w.heap.size w W1 := by rw [hW1]; exact (Below.refl _ w).drew.alloc (Nat.le_refl _) _
  have hcl : (ev (l.take i) ++ T).length = G * 2 := by rw [List.length_append, hTl, ev_length, List.length_take]; omega
  have hv1 := hv.below hB1 hv.lt
  have hg1 := hg.below hB1 hg.lt
  have hgl := hg.lt
  have hvl := hv.lt
  have HL := Lib.hid hl
  have hINS := Lib.hid (ins_row l i n (k0, v0) T hl (by omega))
  have hdl : (ev (l.drop i)).length = (n - i) * 2 := by rw [ev_length, List.length_drop, hl]
  have HDL := Lib.hid hdl
  have HCL := Lib.hid hcl
  have hsz : (Try.prog.info? 52).map (·.size) = some 2 := by rw [hi0]; simp [hz1]
  have HSZ := Lib.hid hsz
  have HRZ := Lib.hid hrz
  have HC1 := Lib.hid hC1
  have HV1 := Lib.hid hv1
  have HG1 := Lib.hid hg1
  unfold maxLen at hG2
  have z2 : ((i : Int) == (n : Int)) = false := by simp; omega
  have z3 : (n : Int) < (n : Int) + 1 := by omega
  have z4 : ¬ G = i := by omega
  have z5 : ¬ n = i := by omega
  have z6 : ¬ G = i + 1 := by omega
  have z7 : (i : Int) ≤ (n : Int) := by omega
  have z8 : (i : Int) ≤ (G : Int) := by omega
  have z9 : (n : Int) + 1 ≤ (G : Int) := by omega
  clear hT hTl hrow hW1 hC1 hcl hv1 hg1 hl hold hkk hik hrz hdl hsz hi0 hz0 hz1 hz2 hg hv
  go_enter Try.func47, Try.ntmps47
  have hm1 : ([.int .i64 k0, .int .u64 (v0 : Int)] : List Value).length = Nat.min 1 (n + 1 - i) * 2 := by show 2 = min 1 (n + 1 - i) * 2; omega
  have hm2 : (ev (l.drop i)).length = Nat.min (n - i) (n + 1 - (i + 1)) * 2 := by rw [HDL.out, show n + 1 - (i + 1) = n - i by omega]; show _ = min (n - i) (n - i) * 2; rw [Nat.min_self]
  have HM1 := Lib.hid hm1
  have HM2 := Lib.hid hm2
  clear hm1 hm2
  go_wp2_with (first
    | (at_builtin; refine Lib.wpList_append_run _ rfl (.tmp 34) (.tmp 39) _ _ rfl _ _ rfl rfl _ _ (HRZ.out _) ?_)
    | ((with_reducible refine wpList_copyS (o := ⟨some 45, _, _, _, _, _⟩) rfl (.tmp 43) (.tmp 44) 25 25 rfl 52 2 Try.underlying25 HSZ.out w.heap.size (i * 2) (n + 1 - i) (G - i) ⟨vb, 0, none⟩ 1 1 rfl rfl _ 52 HC1.out [.int .i64 k0, .int .u64 (v0 : Int)] HM1.out (fun j u hj => by rw [Addr.add_lit, Nat.zero_add, HV1.out.cell]; simpa using hj) (by rw [HCL.out]; simp; omega) (by simp [Value.oneCell']) w.heap.size w hB1 (Nat.le_refl _) ?_); intro W2 hC2 hB2 hk2; have HC2 := Lib.hid hC2; have HG2 := Lib.hid (show Cs W2 g 52 (ev l).toArray from (hk2 g (by omega)).trans HG1.out); clear hC2 hk2))
  have t1 : IntKind.i64.wrap ((i : Int) + 1) = (i : Int) + 1 := IntWalk.i64_in _ (by omega)
  have t3 : ((i : Int) + 1).toNat = i + 1 := by omega
  have t5 : (0 : Int) ≤ (i : Int) + 1 := by omega
  have t6 : (i : Int) + 1 ≤ (n : Int) + 1 := by omega
  have t7 : i + 1 ≤ n + 1 := by omega
  go_still_tail 8, (by kernel_rfl)
  change wpList _ _ _ _ _ W2.drew
  refine wpList_copyS (o := ⟨some 54, _, _, _, _, _⟩) rfl (.tmp 50) (.tmp 53) 25 25 rfl 52 2 Try.underlying25 HSZ.out w.heap.size ((i + 1) * 2) (n + 1 - (i + 1)) (G - (i + 1)) ⟨g, i * 2, none⟩ (n - i) (n - i) (by simp [Act.eval]) (by simp [Act.eval]) _ 52 (show Cs W2.drew _ _ _ from HC2.out) (ev (l.drop i)) HM2.out (fun j u hj => ?_) ?_ (ev_one _) w.heap.size w hB2.drew (Nat.le_refl _) ?_
  · rw [Addr.add_lit]
    have h := HG2.out.cell (i * 2 + j)
    rw [← ev_drop, List.getElem?_drop] at hj
    rw [List.getElem?_toArray, hj] at h
    exact h
  · have h : ([.int .i64 k0, .int .u64 (v0 : Int)] : List Value).length = 2 := rfl
    rw [length_splice _ _ _ (by rw [HCL.out, h]; omega), HCL.out, HDL.out]
    omega
  intro W3 hC3 hB3 hk3
  have HC3 := Lib.hid hC3
  clear hC3 hk3 t1 t3
  go_wp2_with fail
  go_ret
  refine ⟨_, rfl, ?_, hB3.mono hbase⟩
  refine own_make HC3.out hbase (by omega) (by unfold maxLen; omega) ?_ hINS.out (by rw [ev_length, insN_length _ _ _ (by rw [HL.out]; omega), HL.out])
  have h : ([.int .i64 k0, .int .u64 (v0 : Int)] : List Value).length = 2 := rfl
  rw [length_splice _ _ _ (by rw [length_splice _ _ _ (by rw [HCL.out, h]; omega), HCL.out, HDL.out]; omega), length_splice _ _ _ (by rw [HCL.out, h]; omega), HCL.out]

end Go.Proofs.Ytjnkajdfdhockaa
