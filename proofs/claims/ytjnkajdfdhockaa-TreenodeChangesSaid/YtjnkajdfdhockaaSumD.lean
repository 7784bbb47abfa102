/-
  The checksum by a table (checksum): run, Extend, Words.
-/
import Derived.Test.YtjnkajdfdhockaaSumC
import Derived.Deep.WholeRow
namespace Go.Proofs.Ytjnkajdfdhockaa
set_option linter.unusedVariables false
open Go.RowKit Go.Shelf
attribute [local go_sem] Oper.semAt_some

/-- The register behind bytes. -/
def foldB (x : Nat) (pre : List (Fin 256)) : Nat := pre.foldl (fun x b => feedC x b.val) x
theorem foldB_snoc (x : Nat) (pre : List (Fin 256)) (b : Fin 256) : foldB x (pre ++ [b]) = feedC (foldB x pre) b.val := by simp [foldB]
theorem foldB_lt (x : Nat) (pre : List (Fin 256)) (h : x < 4294967296) : foldB x pre < 4294967296 := by
  induction pre generalizing x with
  | nil => exact h
  | cons b pre ih => exact ih _ (feedC_lt _ _ h b.isLt)
theorem foldB_part (x : Nat) (ws : List Nat) (k : Nat) (hk : k < ws.length) (h : foldB x (upto (byteOf ws) (8 * k)) = wordsC x (ws.take k)) :
    ∀ t, t ≤ 8 → foldB x (upto (byteOf ws) (8 * k + t)) = wordC (wordsC x (ws.take k)) (ws[k]?.getD 0) t
  | 0, _ => h
  | t + 1, ht => by
    rw [← Nat.add_assoc, upto_succ, foldB_snoc, foldB_part x ws k hk h t (by omega)]
    show feedC _ (byteC (ws[(8 * k + t) / 8]?.getD 0) ((8 * k + t) % 8)) = _
    rw [show (8 * k + t) / 8 = k by omega, show (8 * k + t) % 8 = t by omega]
    rfl
theorem foldB_words (x : Nat) (ws : List Nat) : ∀ k, k ≤ ws.length → foldB x (upto (byteOf ws) (8 * k)) = wordsC x (ws.take k)
  | 0, _ => by simp [foldB, upto, wordsC]
  | k + 1, h => by
    have := foldB_part x ws k (by omega) (foldB_words x ws k (by omega)) 8 (by omega)
    rw [show 8 * (k + 1) = 8 * k + 8 by omega, this, List.take_succ_eq_append_getElem (by omega), wordsC_snoc, List.getElem?_eq_getElem (by omega)]
    rfl
theorem foldB_all (x : Nat) (ws : List Nat) : foldB x (upto (byteOf ws) (8 * ws.length)) = wordsC x ws := by
  rw [foldB_words x ws _ (Nat.le_refl _), List.take_length]

set_option maxRecDepth 100000 in
set_option maxHeartbeats 1000000 in
theorem run_any (T Bs : Nat) (x : Nat) (A : Option Addr) (c : Nat) (ws : List Nat) (w : World) (hA : Reads w A (uv ws)) (hw : W64 ws) (hlen : ws.length ≤ 1000000) (hx : x < 4294967296)
    (hT : w.heap[T]? = some (.cells (tabTo 256).toArray 92 (0, 0))) (hBs : w.cell? ⟨Bs, 0, none⟩ = some (.slice A ws.length c)) :
    Calls Try.prog 66 #[.pointer (some ⟨T, 0, none⟩), .int .u32 (x : Int), .func (.func 70) #[] #[.pointer (some ⟨Bs, 0, none⟩)]] w fun e w' => e = .returned (.int .u32 ((wordsC x ws : Nat) : Int)) ∧ Below w.heap.size w w' := by
  refine (callsIn_wide (n := 6)).1 ?_
  have hBl : Bs < w.heap.size := World.block_lt_of_cell? _ _ hBs
  have hTl : T < w.heap.size := (Array.getElem?_eq_some_iff.1 hT).1
  have hci : ∀ i, i < ws.length → ∃ b off, A = some ⟨b, off, none⟩ ∧ b < w.heap.size ∧ w.cell? ⟨b, off + i, none⟩ = some (.int .u64 ((ws[i]?.getD 0 : Nat) : Int)) := by
    intro i hi
    obtain ⟨b, off, e, hb, hc⟩ := hA.u (by omega)
    exact ⟨b, off, e, hb, hc i (by omega)⟩
  have HT := Lib.hid hT
  have HI := Lib.hid hci
  have HBS := Lib.hid hBs
  clear hT hci hA hBs
  refine callsIn_of_wp_marks Try.func66 rfl trivial ?_ rfl
  simp only [Try.ntmps66, List.size_toArray, List.length_cons, List.length_nil, Nat.reduceAdd, Nat.reduceSub, Array.replicate_succ, Array.replicate_zero, List.push_toArray, List.append_toArray, List.nil_append, List.cons_append]
  gi_wp2_with fail
  have b0 := (Boxed.new w 100 (.pointer (some ⟨T, 0, none⟩))).alloc (.cells #[.int .u32 (x : Int)] 79)
  have b1 := Boxed.new (w.alloc (.cells #[.pointer (some ⟨T, 0, none⟩)] 100)) 79 (.int .u32 (x : Int))
  have hb : Below w.heap.size w ((w.alloc (.cells #[.pointer (some ⟨T, 0, none⟩)] 100)).alloc (.cells #[.int .u32 (x : Int)] 79)) := ((Below.refl _ w).alloc (Nat.le_refl _) _).alloc (by simp) _
  simp only [World.size_alloc] at b0 b1
  obtain ⟨W0, hW0⟩ : ∃ W0, ((w.alloc (.cells #[.pointer (some ⟨T, 0, none⟩)] 100)).alloc (.cells #[.int .u32 (x : Int)] 79)) = W0 := ⟨_, rfl⟩
  have hsz : W0.heap.size = w.heap.size + 1 + 1 := by rw [← hW0]; simp
  rw [hW0] at b0 b1 hb ⊢
  clear hW0
  refine wpIn_rangeFunc_ownG rfl (by omega) (gf := 70) (lb := #[.pointer (some ⟨Bs, 0, none⟩)]) rfl trivial (enters_of Try.func70 (by kernel_rfl) rfl)
    (spread_stops Fence.wide 5 trivial rfl (by omega) Bs w.heap.size A c ws hw hlen W0 (by omega) (by omega) ((hb.cell (p := ⟨Bs, 0, none⟩) hBl).trans HBS.out)
      (fun i hi => by
        obtain ⟨b, off, e, hlt, h⟩ := HI.out i hi
        exact ⟨b, off, e, hlt, (hb.cell (p := ⟨b, off + i, none⟩) hlt).trans h⟩))
    KeepB.trans (KeepB.putObj (by omega) (by omega)) (Below.refl _ _) (fun _ => rfl)
    (fun pre W => (Boxed W w.heap.size 100 (.pointer (some ⟨T, 0, none⟩)) ∧ Boxed W (w.heap.size + 1) 79 (.int .u32 ((foldB x pre : Nat) : Int))) ∧ Below w.heap.size w W)
    (fun _ _ _ => False)
    (OwnFrom.and (Own.from (fun s A B row hs hg hr => ⟨boxed_own _ _ (fun _ => _) s A B row hs.1 hg hr, boxed_own _ _ (fun _ => _) s A B row hs.2 hg hr⟩) _) (ownFrom_below (Nat.le_refl _) (by omega)))
    (fun c s A B row hs hg hr => hs)
    ⟨⟨b0, b1⟩, hb⟩
    (fun b => { tmps := #[.pointer (some ⟨T, 0, none⟩), .int .u32 (x : Int), .func (.func 70) #[] #[.pointer (some ⟨Bs, 0, none⟩)], .pointer (some ⟨w.heap.size, 0, none⟩), .pointer (some ⟨w.heap.size + 1, 0, none⟩), undef, .int .u32 0,
      .int .u8 (b.val : Int), .func (.func 70) #[] #[.pointer (some ⟨Bs, 0, none⟩)], .int .u8 (b.val : Int), undef, undef, undef, undef, undef, undef, undef, undef, undef, undef, undef, undef], defers := [] }) ?assign ?body ?done ?stop
  case assign =>
    intro l f W K hK
    gi_wp2
    exact hK
  case body =>
    rintro l pre b W ⟨⟨c0, c1⟩, hB⟩ hlt
    have hmix : Try.prog.follows .mixedOrders = true := by kernel_rfl
    have hbl := b.isLt
    have hr := foldB_lt x pre hx
    have hz := u8_xor_nat (foldB x pre % 256) b.val (Nat.mod_lt _ (by omega)) hbl
    have hzl : (foldB x pre % 256) ^^^ b.val < 256 := Nat.xor_lt_two_pow (n := 8) (Nat.mod_lt _ (by omega)) hbl
    have hp : IntKind.u8.wrap ((foldB x pre : Nat) : Int) = ((foldB x pre % 256 : Nat) : Int) := by rw [IntKind.wrap_u8]; omega
    have hnew := foldB_snoc x pre b
    rw [feedC_table _ _ hbl] at hnew
    have hTW := (hB.block T hTl).trans HT.out
    have ht8 := stepN_lt 8 ((foldB x pre % 256) ^^^ b.val) (by omega)
    have hct := cell_of_row W T ((foldB x pre % 256) ^^^ b.val) _ _ _ hTW
    rw [show (tabTo 256).toArray[(foldB x pre % 256) ^^^ b.val]? = (tabTo 256)[(foldB x pre % 256) ^^^ b.val]? by simp, tabTo_at 256 _ hzl, if_pos hzl] at hct
    obtain ⟨bv, ebv⟩ : ∃ bv, b.val = bv := ⟨_, rfl⟩
    obtain ⟨R, eR⟩ : ∃ R, foldB x pre = R := ⟨_, rfl⟩
    obtain ⟨p, ep⟩ : ∃ p, R % 256 = p := ⟨_, rfl⟩
    rw [eR, ebv] at hz hzl hnew hct ht8
    rw [eR] at c1 hr hp
    rw [ep] at hz hzl hp hnew hct ht8
    rw [ebv] at hbl ⊢
    obtain ⟨z, ez⟩ : ∃ z, p ^^^ bv = z := ⟨_, rfl⟩
    rw [ez] at hz hzl hnew hct ht8
    obtain ⟨V, eV⟩ : ∃ V, step8 z = V := ⟨_, rfl⟩
    rw [eV] at hnew hct
    change stepN 8 z < _ at ht8
    rw [show stepN 8 z = V from eV] at ht8
    have HNEW := Lib.hid hnew
    have d0 := c0.cell
    have d1 := c1.cell
    have d1' := c1.frozen
    have z0 : (0 : Int) ≤ (z : Int) := by omega
    have z1 : (z : Int) < 256 := by omega
    clear hnew eV ez ep eR ebv hTW
    gi_wp2
    refine wpIn_region_still_tail 11 hmix (by kernel_rfl) (by rintro ⟨_, _, h⟩; exact h) (by kernel_rfl) ?_
    simp only [List.take_succ_cons, List.take_zero, List.drop_succ_cons, List.drop_zero]
    repeat still_step
    refine wpStill_nil ?_
    go_wp2
    have hv : bits .xor .u32 (V : Int) ((R : Int) / 256) = ((foldB x (pre ++ [b]) : Nat) : Int) := by
      rw [HNEW.out, ← u32_xor_nat V (R >>> 8) ht8 (Nat.lt_of_le_of_lt (Nat.shiftRight_le _ _) hr), Nat.shiftRight_eq_div_pow]
      rfl
    rw [hv]
    exact ⟨((KeepsOthers.setCell W ⟨w.heap.size + 1, 0, none⟩ _).trans (KeepsOthers.drew _)).from _, ((KeepB.refl w.heap.size Bs W).setCell (b := w.heap.size + 1) (i := 0) (by omega) (by omega) _).drew,
      ⟨c0.other (by omega) _, c1.set _⟩, (hB.setCell (p := ⟨w.heap.size + 1, 0, none⟩) (by show _ ≤ _ + 1; omega) _).drew⟩
  case done =>
    rintro D ys W hD rfl ⟨⟨c0, c1⟩, hB⟩ hK
    have d1 := c1.cell
    rw [foldB_all] at d1
    gi_wp2
    refine ⟨by simp, .inl ⟨_, _, rfl, run_takeDeferred hK, ?_⟩⟩
    refine ⟨.int .u32 ((wordsC x ws : Nat) : Int), by simp [results, Try.f66, go_sem], rfl, hB.trans (belowK_b (w := w) (Nat.le_refl _) W D _ _ (by omega) hK rfl rfl)⟩
  case stop =>
    rintro D c pre W _ _ h _
    exact h.elim

theorem store_table (w : World) : (storeCells ⟨w.heap.size, 0, none⟩ (tabTo 256).toArray.toList).run Try.prog (w.alloc (.cells Try.zeroCells92 92)) = .ok () (w.alloc (.cells (tabTo 256).toArray 92)) := by
  have hi : (Try.prog.info? 92).map (·.size) = some (tabTo 256).toArray.size := by
    rw [show (tabTo 256).toArray.size = 256 by simp [tabTo]]; kernel_rfl
  have h1c : (tabTo 256).toArray.all (·.oneCell') = true := all_oneCell_toArray (by
    intro v hv
    obtain ⟨i, _, rfl⟩ := List.mem_map.1 hv
    rfl)
  have := run_storeCells_new (P := Try.prog) w 92 Try.zeroCells92 (tabTo 256).toArray hi (by rw [tabTo_zero]; simp [tabTo]) h1c
  exact this

set_option maxRecDepth 100000 in
set_option maxHeartbeats 1000000 in
theorem extend_any (s : Nat) (A : Option Addr) (c n : Nat) (l : List Nat) (w : World) (hn : l.length = n) (hA : Reads w A (uv l)) (hl : W64 l) (hlen : n ≤ 1000000) (hs : s < 4294967296) :
    Calls Try.prog 62 #[.int .u32 (s : Int), .slice A n c] w fun e w' => e = .returned (.int .u32 ((extendC s l : Nat) : Int)) ∧ Below w.heap.size w w' := by
  have HN := Lib.hid hn
  have hns := not32 s hs
  go_enter Try.func62, Try.ntmps62
  go_wp2_with fail
  refine (newTable_any w).mono ?_
  rintro e w1 ⟨rfl, hb1⟩
  have hst := store_table w1
  obtain ⟨cs, ecs⟩ : ∃ cs, (tabTo 256).toArray = cs := ⟨_, rfl⟩
  have ECS := Lib.hid ecs
  have hcz : cs.size = 256 := by rw [← ecs]; simp [tabTo]
  rw [ecs] at hst ⊢
  clear ecs
  go_wp2_with fail
  have rA1 := hA.keep hb1
  have hT : (w1.alloc (.cells cs 92)).heap[w1.heap.size]? = some (.cells cs 92 (0, 0)) := heap_alloc_new w1 _
  have hb2 : Below w.heap.size w (w1.alloc (.cells cs 92)) := hb1.alloc hb1.size _
  have hg2 : w1.heap.size < (w1.alloc (.cells cs 92)).heap.size := by simp
  clear hst hA
  have rA2 := rA1.alloc (.cells cs 92)
  generalize w1.alloc (.cells cs 92) = w2 at hT hb2 hg2 rA2 ⊢
  generalize w1.heap.size = T at hT hg2 ⊢
  refine ((callsIn_wide (n := 6)).1 (spread_in Fence.wide 6 trivial rfl _ _ _ _)).mono ?_
  rintro e w3 ⟨rfl, rfl⟩
  go_wp2_with fail
  refine (run_any T w2.heap.size (4294967295 - s) A c l _ (rA2.alloc _) hl (by rw [HN.out]; exact hlen) (by omega) ((heap_alloc_old _ _ hg2).trans (by rw [ECS.out]; exact hT)) (by rw [HN.out]; exact (Boxed.new w2 _ _).cell)).mono ?_
  rintro e w4 ⟨rfl, hb4⟩
  have hwl := wordsC_lt (4294967295 - s) l (by omega)
  have hn2 := not32 _ hwl
  go_wp2_with fail
  go_ret
  refine ⟨ret_int rfl, hb2.trans (((Below.refl _ w2).alloc (by have := hb2.size; omega) _).trans (hb4.mono (by have := hb2.size; simp; omega)))⟩

set_option maxHeartbeats 400000 in
theorem words_sum (A : Option Addr) (c n : Nat) (l : List Nat) (w : World) (hn : l.length = n) (hA : Reads w A (uv l)) (hl : W64 l) (hlen : n ≤ 1000000) :
    Calls Try.prog 56 #[.slice A n c] w fun e w' => e = .returned (.int .u32 ((extendC 0 l : Nat) : Int)) ∧ Below w.heap.size w w' := by
  go_enter Try.func56, Try.ntmps56
  go_wp2_with fail
  refine (extend_any 0 A c n l w hn hA hl hlen (by omega)).mono ?_
  rintro e w' ⟨rfl, hb⟩
  go_wp2_with fail
  go_ret
  exact ⟨rfl, hb⟩

end Go.Proofs.Ytjnkajdfdhockaa
