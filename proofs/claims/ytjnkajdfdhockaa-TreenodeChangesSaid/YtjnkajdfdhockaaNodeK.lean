/-
  slices.Backward of entries; treenode.Find.
-/
import Derived.Test.YtjnkajdfdhockaaNodeJ
namespace Go.Proofs.Ytjnkajdfdhockaa
set_option linter.unusedVariables false
open Go.RowKit Go.Shelf
attribute [local go_sem] Oper.semAt_some

/-- The last entry, of the first k, whose key is at most key. -/
def findTo (l : List (Int × Nat)) (key : Int) : Nat → Int
  | 0 => -1
  | k + 1 => if (l[k]?.getD (0, 0)).1 ≤ key then (k : Int) else findTo l key k
def findN (l : List (Int × Nat)) (key : Int) : Int := findTo l key l.length
def exactN (l : List (Int × Nat)) (key : Int) : Bool := decide (0 ≤ findN l key ∧ (l[(findN l key).toNat]?.getD (0, 0)).1 = key)
theorem findTo_bd (l : List (Int × Nat)) (key : Int) (k : Nat) : -1 ≤ findTo l key k ∧ findTo l key k < k := by
  induction k with
  | zero => simp [findTo]
  | succ k ih =>
    unfold findTo
    split <;> omega

/-- The rounds of Backward. -/
def backAt (l : List (Int × Nat)) (j : Nat) : Nat × (Int × Nat) := (l.length - 1 - j, l[l.length - 1 - j]?.getD (0, 0))
abbrev encI (x : Nat × (Int × Nat)) : Array Value := #[.int .i64 (x.1 : Int), .agg #[.int .i64 x.2.1, .int .u64 (x.2.2 : Int)]]

theorem find_back (l : List (Int × Nat)) (key : Int) (k : Nat) (h : ∀ x ∈ upto (backAt l) k, key < x.2.1) (hk : k ≤ l.length) : findN l key = findTo l key (l.length - k) := by
  induction k with
  | zero => rfl
  | succ k ih =>
    rw [upto_succ] at h
    rw [ih (fun x hx => h x (List.mem_append.2 (.inl hx))) (by omega)]
    have h1 := h (backAt l k) (by simp)
    obtain ⟨j, hj⟩ : ∃ j, l.length - k = j + 1 := ⟨l.length - k - 1, by omega⟩
    rw [hj, show l.length - (k + 1) = j by omega]
    unfold backAt at h1
    simp only [show l.length - 1 - k = j by omega] at h1
    rw [findTo, if_neg (by omega)]

set_option maxRecDepth 100000 in
set_option maxHeartbeats 1000000 in
theorem back1_in (F : Fence) (n : Nat) (h35 : F.fn 57) (hro : F.round = none) (hn : 1 ≤ n) (l Bs n₀ : Nat) (A : Option Addr) (cap : Nat) (es : List (Int × Nat))
    (hlen : es.length ≤ 1000000) (J Jx : List (Nat × (Int × Nat)) → World → Prop)
    (hY : ∀ pre x W, J pre W → pre.length < es.length → YieldAt F (n - 1) Try.prog l (encI x) W fun e W' =>
      (e = .returned (.bool true) ∧ J (pre ++ [x]) W' ∧ KeepB n₀ Bs W W') ∨ (e = .returned (.bool false) ∧ Jx (pre ++ [x]) W'))
    (W : World) (hBs : W.cell? ⟨Bs, 0, none⟩ = some (.slice A es.length cap))
    (hA : ∀ i, i < es.length → ∃ b off, A = some ⟨b, off, none⟩ ∧ b < n₀ ∧ W.cell? ⟨b, off + i * 2, none⟩ = some (.int .i64 (es[i]?.getD (0, 0)).1) ∧ W.cell? ⟨b, off + i * 2 + 1, none⟩ = some (.int .u64 ((es[i]?.getD (0, 0)).2 : Int))) (h0 : J [] W) :
    CallsIn F n Try.prog 57 #[.func (.yield l) #[] #[], .pointer (some ⟨Bs, 0, none⟩)] W fun e W' => (∃ v, e = .returned v) ∧
      ((∃ ys, ys = upto (backAt es) es.length ∧ J ys W') ∨ (∃ pre, (∃ k, k ≤ es.length ∧ pre = upto (backAt es) k) ∧ Jx pre W')) := by
  obtain ⟨m, hm⟩ : ∃ m, es.length = m := ⟨_, rfl⟩
  have HM := Lib.hid hm
  rw [hm] at hlen hBs hA hY ⊢
  clear hm
  have HA := Lib.hid hA
  clear hA
  refine callsIn_of_wp Try.func57 rfl h35 ?_ hro
  simp only [Try.ntmps57, List.size_toArray, List.length_cons, List.length_nil, Nat.reduceAdd, Nat.reduceSub, Array.replicate_succ, Array.replicate_zero, List.push_toArray, List.append_toArray, List.nil_append, List.cons_append]
  gi_wp2
  gi_loopw [3] (fun i wr => ∃ (k j : Nat) (i0 : Int), j + k = m ∧ i = .int .i64 i0 ∧ Hid (i0 = (j : Int) - 1) ∧ J (upto (backAt es) k) wr ∧ KeepB n₀ Bs W wr)
    (fun i _ => (intOf i + 1).toNat)
  case atStart => exact ⟨0, m, _, by omega, rfl, rfl, h0, KeepB.refl _ _ _⟩
  case round =>
    obtain ⟨k, j, i0, hjk, rfl, hi0, hJs, hnx⟩ := hrel
    rcases j with _ | j
    · obtain rfl : i0 = -1 := by rw [hi0.out]; rfl
      obtain rfl : k = m := by omega
      gi_wp2
      go_end0
      exact ⟨⟨_, rfl⟩, .inl ⟨_, rfl, hJs⟩⟩
    · obtain rfl : i0 = (j : Int) := by rw [hi0.out]; omega
      have hjm : j < m := by omega
      obtain ⟨b, off, rfl, hb, hc1, hc1'⟩ := HA.out j hjm
      have hc2 := (hnx.below.cell (p := ⟨b, off + j * 2, none⟩) hb).trans hc1
      have hc3 := (hnx.below.cell (p := ⟨b, off + j * 2 + 1, none⟩) hb).trans hc1'
      have hbx := (hnx.cell 0).trans hBs
      obtain ⟨fn, tmps, assign, body, hy, hR⟩ := hY _ (backAt es k) wr hJs (by rw [upto_length]; omega)
      have e1 : backAt es k = (j, es[j]?.getD (0, 0)) := by
        unfold backAt
        rw [HM.out, show m - 1 - k = j by omega]
      rw [e1] at hy hR
      obtain ⟨x, ex⟩ : ∃ x, (es[j]?.getD (0, 0)) = x := ⟨_, rfl⟩
      rw [ex] at hc2 hc3 hy hR e1
      obtain ⟨x1, x2⟩ := x
      have E1 := Lib.hid e1
      have hy' : _ := hy
      simp only [encI] at hy'
      clear hy ex hc1 hc1' hBs e1
      have hjk' : ¬ (j : Int) < 0 := by omega
      have HJK := Lib.hid hjk
      clear hjk hi0
      gi_wp2
      refine hR.mono ?_
      rintro e W3 (⟨rfl, hJ3, hk3⟩ | ⟨rfl, hJx3⟩)
      · gi_wp2
        go_roundw
        case rel => exact ⟨k + 1, j, _, by have := HJK.out; omega, rfl, by show _ = _; rfl, by rw [upto_succ, E1.out]; exact hJ3, hnx.trans hk3⟩
        case measure => simp [intOf]
      · gi_wp2
        refine bodyPost_ret (results_none rfl _ _ _) rfl ?_
        exact ⟨⟨_, rfl⟩, .inr ⟨_, ⟨k + 1, by have := HJK.out; omega, by rw [upto_succ, E1.out]⟩, hJx3⟩⟩

set_option maxHeartbeats 1000000 in
theorem back_in (F : Fence) (n : Nat) (h31 : F.fn 45) (hro : F.round = none) (a : Option Addr) (len cap : Nat) (w : World) :
    CallsIn F n Try.prog 45 #[.slice a len cap] w fun e w' => e = .returned (.func (.func 57) #[] #[.pointer (some ⟨w.heap.size, 0, none⟩)]) ∧ w.alloc (.cells #[.slice a len cap] 25) = w' := by
  refine callsIn_of_wp Try.func45 rfl h31 ?_ hro
  simp only [Try.ntmps45, List.size_toArray, List.length_cons, List.length_nil, Nat.reduceAdd, Nat.reduceSub, Array.replicate_succ, Array.replicate_zero, List.push_toArray, List.append_toArray, List.nil_append, List.cons_append]
  gi_wp2
  go_ret
  exact ⟨rfl, rfl⟩

theorem back_stops (F : Fence) (n : Nat) (h35 : F.fn 57) (hro : F.round = none) (hn : 1 ≤ n) (Bs n₀ : Nat) (A : Option Addr) (cap : Nat) (es : List (Int × Nat))
    (hlen : es.length ≤ 1000000) (w : World) (hBs : Bs < w.heap.size) (hn₀ : n₀ ≤ w.heap.size)
    (hc : w.cell? ⟨Bs, 0, none⟩ = some (.slice A es.length cap))
    (hA : ∀ i, i < es.length → ∃ b off, A = some ⟨b, off, none⟩ ∧ b < n₀ ∧ w.cell? ⟨b, off + i * 2, none⟩ = some (.int .i64 (es[i]?.getD (0, 0)).1) ∧ w.cell? ⟨b, off + i * 2 + 1, none⟩ = some (.int .u64 ((es[i]?.getD (0, 0)).2 : Int))) :
    SeqStopsK F n Try.prog 57 #[.pointer (some ⟨Bs, 0, none⟩)] encI (KeepB n₀ Bs) (fun ys => ys = upto (backAt es) es.length)
      (fun pre => ∃ k, k ≤ es.length ∧ pre = upto (backAt es) k) es.length w := fun l J Jx W hW _ _ hY h0 =>
  back1_in F n h35 hro hn l Bs n₀ A cap es hlen J Jx hY W ((hW.cell (p := ⟨Bs, 0, none⟩) (by show Bs < _; omega)).trans hc) (fun i hi => by
    obtain ⟨b, off, e, hb, h, h'⟩ := hA i hi
    exact ⟨b, off, e, hb, (hW.cell (p := ⟨b, off + i * 2, none⟩) (by show b < _; omega)).trans h, (hW.cell (p := ⟨b, off + i * 2 + 1, none⟩) (by show b < _; omega)).trans h'⟩) h0

def AllGt (key : Int) (pre : List (Nat × (Int × Nat))) : Prop := ∀ x ∈ pre, key < x.2.1
theorem AllGt.snoc {key : Int} {pre : List (Nat × (Int × Nat))} (h : AllGt key pre) (x1 : Nat) (x2 : Int) (x3 : Nat) (hx : ¬ x2 ≤ key) : AllGt key (pre ++ [(x1, x2, x3)]) := by
  intro x hx
  rcases List.mem_append.1 hx with h1 | h1
  · exact h x h1
  · obtain rfl : x = (x1, x2, x3) := by simpa using h1
    simp only
    omega
/-- 'The block is known whole' speaks of cells alone. -/
theorem cs_own {β : Type} (B : Nat) (t : TypeId) (f : β → Array Value) : Own (fun s W => Cs W B t (f s)) := fun s X Y row hs hg hrow =>
  (hg.block B hs.lt (fun e' => by obtain ⟨o, ho, hc⟩ := hrow B e'.symm; rw [show X.heap[B]? = _ from hs] at ho; cases ho; cases hc)).trans hs
theorem Cs.at2 {w : World} {g : Nat} {t : TypeId} {a b : Value} (h : Cs w g t #[a, b]) : w.cell? ⟨g, 0, none⟩ = some a ∧ w.cell? ⟨g, 1, none⟩ = some b ∧ w.frozen? ⟨g, 0, none⟩ = false ∧ w.frozen? ⟨g, 1, none⟩ = false :=
  ⟨h.cell 0, h.cell 1, h.free 0, h.free 1⟩

set_option maxRecDepth 100000 in
set_option maxHeartbeats 1000000 in
theorem find_any (lv sq key : Int) (A : Option Addr) (c n : Nat) (l : List (Int × Nat)) (w : World) (hn : l.length = n) (hA : Reads w A (ev l)) (hlen : n ≤ 1000000) :
    Calls Try.prog 31 #[.agg #[.int .i64 lv, .int .i64 sq, .slice A n c], .int .i64 key] w fun e w' => e = .returned (.tuple #[.int .i64 (findN l key), .bool (exactN l key)]) ∧ Below w.heap.size w w' := by
  refine (callsIn_wide (n := 6)).1 ?_
  have hci : ∀ i, i < n → ∃ b off, A = some ⟨b, off, none⟩ ∧ b < w.heap.size ∧ w.cell? ⟨b, off + i * 2, none⟩ = some (.int .i64 (l[i]?.getD (0, 0)).1) ∧ w.cell? ⟨b, off + i * 2 + 1, none⟩ = some (.int .u64 ((l[i]?.getD (0, 0)).2 : Int)) := by
    intro i hi
    obtain ⟨b, off, e, hb, hc⟩ := hA.e (by omega)
    exact ⟨b, off, e, hb, hc i (by omega)⟩
  have HI := Lib.hid hci
  have HN := Lib.hid hn
  clear hn hci hA
  refine callsIn_of_wp_marks Try.func31 rfl trivial ?_ rfl
  simp only [Try.ntmps31, List.size_toArray, List.length_cons, List.length_nil, Nat.reduceAdd, Nat.reduceSub, Array.replicate_succ, Array.replicate_zero, List.push_toArray, List.append_toArray, List.nil_append, List.cons_append]
  gi_wp2_with fail
  refine ⟨trivial, ?_⟩
  refine (back_in Fence.wide 5 trivial rfl _ _ _ _).mono ?_
  rintro e w' ⟨rfl, rfl⟩
  gi_wp2_with fail
  have b1 := (((Boxed.new (w.alloc (.cells #[.int .i64 lv, .int .i64 sq, .slice A n c] 27)) 3 (.int .i64 key)).alloc (.cells #[.int .i64 0] 3)).alloc (.cells #[.bool false] 4)).alloc (.cells #[.slice A n c] 25)
  have b2 := ((Boxed.new ((w.alloc (.cells #[.int .i64 lv, .int .i64 sq, .slice A n c] 27)).alloc (.cells #[.int .i64 key] 3)) 3 (.int .i64 0)).alloc (.cells #[.bool false] 4)).alloc (.cells #[.slice A n c] 25)
  have b3 := (Boxed.new (((w.alloc (.cells #[.int .i64 lv, .int .i64 sq, .slice A n c] 27)).alloc (.cells #[.int .i64 key] 3)).alloc (.cells #[.int .i64 0] 3)) 4 (.bool false)).alloc (.cells #[.slice A n c] 25)
  have b4 := Boxed.new ((((w.alloc (.cells #[.int .i64 lv, .int .i64 sq, .slice A n c] 27)).alloc (.cells #[.int .i64 key] 3)).alloc (.cells #[.int .i64 0] 3)).alloc (.cells #[.bool false] 4)) 25 (.slice A n c)
  have hb : Below w.heap.size w (((((w.alloc (.cells #[.int .i64 lv, .int .i64 sq, .slice A n c] 27)).alloc (.cells #[.int .i64 key] 3)).alloc (.cells #[.int .i64 0] 3)).alloc (.cells #[.bool false] 4)).alloc (.cells #[.slice A n c] 25)) :=
    (((((Below.refl _ w).alloc (Nat.le_refl _) _).alloc (by simp) _).alloc (by simp; omega) _).alloc (by simp; omega) _).alloc (by simp; omega) _
  simp only [World.size_alloc] at b1 b2 b3 b4
  obtain ⟨W0, hW0⟩ : ∃ W0, (((((w.alloc (.cells #[.int .i64 lv, .int .i64 sq, .slice A n c] 27)).alloc (.cells #[.int .i64 key] 3)).alloc (.cells #[.int .i64 0] 3)).alloc (.cells #[.bool false] 4)).alloc (.cells #[.slice A n c] 25)) = W0 := ⟨_, rfl⟩
  have hsz : W0.heap.size = w.heap.size + 1 + 1 + 1 + 1 + 1 := by rw [← hW0]; simp
  rw [hW0] at b1 b2 b3 b4 hb ⊢
  have hsz1 : W0.heap.size ≤ w.heap.size + 1 + 1 + 1 + 1 + 1 := by omega
  have hsz2 : w.heap.size + 1 + 1 + 1 + 1 + 1 ≤ W0.heap.size := by omega
  clear hW0 hsz
  refine wpIn_rangeFunc_ownH rfl (by omega) (gf := 57) (lb := #[.pointer (some ⟨w.heap.size + 1 + 1 + 1 + 1, 0, none⟩)]) rfl trivial (enters_of Try.func57 (by kernel_rfl) rfl)
    (back_stops Fence.wide 5 trivial rfl (by omega) (w.heap.size + 1 + 1 + 1 + 1) w.heap.size A c l (by rw [HN.out]; exact hlen) W0 (by omega) (by omega) (by rw [HN.out]; exact b4.cell)
      (fun i hi => by
        obtain ⟨b, off, e, hlt, h, h'⟩ := HI.out i (by rw [← HN.out]; exact hi)
        exact ⟨b, off, e, hlt, (hb.cell (p := ⟨b, off + i * 2, none⟩) hlt).trans h, (hb.cell (p := ⟨b, off + i * 2 + 1, none⟩) hlt).trans h'⟩))
    KeepB.trans (KeepB.putObj (by omega) (by omega)) (Below.refl _ _) (fun _ => rfl)
    (fun pre W => (AllGt key pre ∧ Boxed W (w.heap.size + 1) 3 (.int .i64 key) ∧ Boxed W (w.heap.size + 1 + 1) 3 (.int .i64 0) ∧ Boxed W (w.heap.size + 1 + 1 + 1) 4 (.bool false)) ∧ Below w.heap.size w W ∧ W0.heap.size ≤ W.heap.size)
    (fun c pre W => (c = .ret ∧ ∃ (ini : List (Nat × (Int × Nat))) (last : Nat × (Int × Nat)), pre = ini ++ [last] ∧ AllGt key ini ∧ last.2.1 ≤ key ∧ Boxed W (w.heap.size + 1 + 1) 3 (.int .i64 (last.1 : Int)) ∧ Boxed W (w.heap.size + 1 + 1 + 1) 4 (.bool (last.2.1 == key))) ∧ Below w.heap.size w W)
    (OwnFrom.and (Own.from (fun s A B row hs hg hr => ⟨hs.1, boxed_own _ _ (fun _ => _) s A B row hs.2.1 hg hr, boxed_own _ _ (fun _ => _) s A B row hs.2.2.1 hg hr, boxed_own _ _ (fun _ => _) s A B row hs.2.2.2 hg hr⟩) _) (OwnFrom.and (ownFrom_below (Nat.le_refl _) (by omega)) (fun s A B row hs hg hr => Nat.le_trans hs hg.size)))
    (fun c => OwnFrom.and (Own.from (fun s A B row hs hg hr => by
      obtain ⟨h0, ini, last, h1, h2, h3, h4, h5⟩ := hs
      exact ⟨h0, ini, last, h1, h2, h3, boxed_own _ _ (fun _ => _) s A B row h4 hg hr, boxed_own _ _ (fun _ => _) s A B row h5 hg hr⟩) _) (ownFrom_below (Nat.le_refl _) (by omega)))
    ⟨⟨(fun x hx => absurd hx (by simp)), b1, b2, b3⟩, hb, Nat.le_refl _⟩
    (fun x a' W => ∃ B, W0.heap.size ≤ B ∧ a' = { tmps := #[.agg #[.int .i64 lv, .int .i64 sq, .slice A n c], .int .i64 key, .pointer (some ⟨w.heap.size, 0, none⟩), .pointer (some ⟨w.heap.size + 1, 0, none⟩), .pointer (some ⟨w.heap.size + 1 + 1, 0, none⟩),
      .pointer (some ⟨w.heap.size + 1 + 1 + 1, 0, none⟩), .int .i64 (x.1 : Int), .pointer (some ⟨B, 0, none⟩), .pointer (some ⟨w.heap.size, 2, none⟩), .slice A n c, .func (.func 57) #[] #[.pointer (some ⟨w.heap.size + 1 + 1 + 1 + 1, 0, none⟩)],
      .int .i64 (x.1 : Int), .agg #[.int .i64 x.2.1, .int .u64 (x.2.2 : Int)], undef, undef, undef, undef, undef, undef, undef, undef, undef], defers := [] } ∧ Cs W B 52 #[.int .i64 x.2.1, .int .u64 (x.2.2 : Int)])
    (fun x a' s A B row hs hg hr => by
      obtain ⟨Bx, h1, h2, h3⟩ := hs
      exact ⟨Bx, h1, h2, (Own.from (cs_own Bx 52 (fun _ : Unit => #[.int .i64 x.2.1, .int .u64 (x.2.2 : Int)])) _) () A B row h3 hg hr⟩) ?assign ?body ?done ?stop
  case assign =>
    rintro l pre ⟨x1, x2, x3⟩ W K ⟨⟨hf, c1, c2, c3⟩, hB, hszW⟩ hK
    gi_wp2
    refine hK _ _ ((KeepsOthers.alloc W _).from _) (KeepB.of_below ((Below.refl _ W).alloc (Nat.le_refl _) _) ?_ ?_) ⟨⟨hf, c1.alloc _, c2.alloc _, c3.alloc _⟩, hB.alloc hB.size _, by simp; omega⟩ ⟨W.heap.size, hszW, rfl, Cs.new W _ _⟩
    · omega
    · omega
  case body =>
    rintro l pre ⟨x1, x2, x3⟩ a' W hl hr ⟨⟨hf, c1, c2, c3⟩, hB, hszW⟩ ⟨B, hBs, rfl, hCx⟩ hlt
    obtain ⟨z1, z2, _, _⟩ := hCx.at2
    have d1 := c1.cell
    have d2 := c2.cell
    have d2' := c2.frozen
    have d3 := c3.cell
    have d3' := c3.frozen
    simp only at z1 z2
    by_cases hxk : x2 ≤ key
    · gi_wp2
      have hmix : Try.prog.follows .mixedOrders = true := by kernel_rfl
      refine wpIn_region_mix 5 6 hmix (by kernel_rfl) (by rintro ⟨_, _, h⟩; exact h) (by kernel_rfl) (fun W' => W'.cell? ⟨B, 0, none⟩ = some (.int .i64 x2) ∧ W'.cell? ⟨w.heap.size + 1, 0, none⟩ = some (.int .i64 key)) ⟨z1, d1⟩ ?_
      simp only [List.take_succ_cons, List.take_zero, List.drop_succ_cons, List.drop_zero]
      iterate 5
        refine ⟨?_, Or.inl ⟨by rfl, fun W' hS' => ?_⟩, fun _ _ _ h => h, ?_⟩
        rotate_left
        · obtain ⟨hs1, hs2⟩ := hS'
          go_simp
          with_reducible rfl
        simp only [Act.put, List.setIfInBounds_toArray, List.set_cons_zero, List.set_cons_succ]
      show wpSeqT _ _ _ _ _ _ _ _ _
      refine wpSeqT_step (fun K hK => ?_)
      go_simp
      refine hK _ _ (fun _ => ⟨(World.cell?_setCell_other _ _ _ _ (by simp <;> omega)).trans z1, (World.cell?_setCell_other _ _ _ _ (by simp)).trans d1⟩) ?_
      clear hK K
      refine wpSeqT_list _ _ _ _ (by omega) ?_
      have k1 := (c2.set (.int .i64 (x1 : Int))).other (B' := w.heap.size + 1 + 1 + 1) (by omega) (.bool (x2 == key))
      have k2 := c3.other (B' := w.heap.size + 1 + 1) (by omega) (.int .i64 (x1 : Int))
      have k2c := k2.cell
      have k2f := k2.frozen
      have k3 := k2.set (.bool (x2 == key))
      have hko := ((KeepsOthers.drew W).trans (KeepsOthers.setCell W.drew ⟨w.heap.size + 1 + 1, 0, none⟩ (.int .i64 (x1 : Int)))).trans (KeepsOthers.setCell _ ⟨w.heap.size + 1 + 1 + 1, 0, none⟩ (.bool (x2 == key)))
      have hB3 := (hB.setCell (p := ⟨w.heap.size + 1 + 1, 0, none⟩) (by show _ ≤ _ + 1 + 1; omega) (.int .i64 (x1 : Int))).setCell (p := ⟨w.heap.size + 1 + 1 + 1, 0, none⟩) (by show _ ≤ _ + 1 + 1 + 1; omega) (.bool (x2 == key))
      clear d1 d2 d2' d3 d3' z1 z2
      go_wp2
      gi_wp2
      exact ⟨hko.from _, ⟨rfl, pre, (x1, x2, x3), rfl, hf, hxk, k1, k3⟩, hB3.drew⟩
    · gi_wp2
      exact ⟨KeepsFrom.refl _ _, KeepB.refl _ _ _, ⟨hf.snoc x1 x2 x3 (by omega), c1, c2, c3⟩, hB, hszW⟩
  case done =>
    rintro D ys W hD rfl ⟨⟨hf, c1, c2, c3⟩, hB, hszW⟩ hK
    have d2 := c2.cell
    have d2' := c2.frozen
    have d3 := c3.cell
    have d3' := c3.frozen
    gi_wp2
    have e1 := (c2.set (.int .i64 (-1))).other (B' := w.heap.size + 1 + 1 + 1) (by omega) (.bool false)
    have e2 := (c3.other (B' := w.heap.size + 1 + 1) (by omega) (.int .i64 (-1))).set (.bool false)
    have hK2 := ((KeepsOthers.setCell W ⟨w.heap.size + 1 + 1, 0, none⟩ (.int .i64 (-1))).trans (KeepsOthers.setCell _ ⟨w.heap.size + 1 + 1 + 1, 0, none⟩ (.bool false))).same D _ hK rfl
    have hB2 := (hB.setCell (p := ⟨w.heap.size + 1 + 1, 0, none⟩) (by show _ ≤ _ + 1 + 1; omega) (.int .i64 (-1))).setCell (p := ⟨w.heap.size + 1 + 1 + 1, 0, none⟩) (by show _ ≤ _ + 1 + 1 + 1; omega) (.bool false)
    generalize ((W.setCell _ _).setCell _ _) = W2 at e1 e2 hK2 hB2 ⊢
    refine ⟨by simp, .inl ⟨_, _, rfl, run_takeDeferred hK2, ?_⟩⟩
    have hc1 := (e1.kept (grownBy_putObj' W2 D (.deferred none)) (by simp; omega)).cell
    have hc2 := (e2.kept (grownBy_putObj' W2 D (.deferred none)) (by simp; omega)).cell
    have hF : findN l key = -1 := by rw [find_back l key l.length hf (Nat.le_refl _), Nat.sub_self]; rfl
    have hX : exactN l key = false := by unfold exactN; rw [hF]; simp
    rw [hF, hX]
    exact ⟨.tuple #[.int .i64 (-1), .bool false], by simp [results, Try.f31, go_sem, hc1, hc2], rfl, hB2.trans (belowK_b (w := w) (Nat.le_refl _) W2 D _ _ (by omega) hK2 rfl rfl)⟩
  case stop =>
    rintro D c pre W hD ⟨k, hk, rfl⟩ ⟨⟨rfl, ini, last, e1, e2, e3, c1, c2⟩, hB⟩ hK
    gi_wp2
    refine ⟨by simp, .inl ⟨_, _, rfl, run_takeDeferred hK, ?_⟩⟩
    have hc1 := (c1.kept (grownBy_putObj' W D (.deferred none)) (by simp; omega)).cell
    have hc2 := (c2.kept (grownBy_putObj' W D (.deferred none)) (by simp; omega)).cell
    obtain ⟨k', rfl⟩ : ∃ k', k = k' + 1 := by
      cases k with
      | zero => simp [upto] at e1
      | succ k' => exact ⟨k', rfl⟩
    rw [upto_succ] at e1
    obtain ⟨rfl, e5⟩ := List.append_inj' e1 rfl
    obtain rfl : backAt l k' = last := by simpa using e5
    have hF : findN l key = ((backAt l k').1 : Int) := by
      rw [find_back l key k' e2 (by omega)]
      obtain ⟨j, hj⟩ : ∃ j, l.length - k' = j + 1 := ⟨l.length - k' - 1, by omega⟩
      have hj2 : l.length - 1 - k' = j := by omega
      unfold backAt at e3 ⊢
      simp only [hj2] at e3 ⊢
      rw [hj, findTo, if_pos e3]
    have hX : exactN l key = ((backAt l k').2.1 == key) := by
      unfold exactN
      rw [hF, Int.toNat_natCast]
      have : (l[(backAt l k').1]?.getD (0, 0)) = (backAt l k').2 := rfl
      rw [this, Bool.eq_iff_iff]
      simp
    rw [hF, hX]
    exact ⟨.tuple #[.int .i64 ((backAt l k').1 : Int), .bool ((backAt l k').2.1 == key)], by simp [results, Try.f31, go_sem, hc1, hc2], rfl, hB.trans (belowK_b (w := w) (Nat.le_refl _) W D _ _ (by omega) hK rfl rfl)⟩

end Go.Proofs.Ytjnkajdfdhockaa
