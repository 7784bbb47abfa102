/-
  ref25.Find; slices.Clone of entries; copy of rows whose elements have several cells.
-/
import Derived.Test.YtjnkajdfdhockaaNodeK
import Derived.Lib.AppendZerosOnto
import Derived.Lib.Overlaps
import Derived.Lib.SliceRun
import Derived.Laws.CopyRow
namespace Go.Proofs.Ytjnkajdfdhockaa
set_option linter.unusedVariables false
open Go.RowKit

set_option maxRecDepth 100000 in
set_option maxHeartbeats 1000000 in
theorem refFind_any (lv sq key : Int) (A : Option Addr) (c n : Nat) (l : List (Int × Nat)) (w : World) (hn : l.length = n) (hA : Reads w A (ev l)) (hlen : n ≤ 1000000) :
    Calls Try.prog 32 #[.agg #[.int .i64 lv, .int .i64 sq, .slice A n c], .int .i64 key] w fun e w' => e = .returned (.tuple #[.int .i64 (findN l key), .bool (exactN l key)]) ∧ Below w.heap.size w w' := by
  have hbx : Below w.heap.size w (w.alloc (.cells #[.int .i64 lv, .int .i64 sq, .slice A n c] 27)) := (Below.refl _ _).alloc (Nat.le_refl _) _
  obtain ⟨c0, c1, c2⟩ := box_cells (w := w) (lv := lv) (sq := sq) (A := A) (n := n) (c := c)
  have HA := Lib.hid (hA.keep hbx)
  have HL := Lib.hid hn
  have hF : Hid (findN l key = findTo l key n) := by show _ = _; rw [← hn]; rfl
  clear hA hn c0 c1
  go_enter Try.func32, Try.ntmps32
  go_wp2_with fail
  generalize (w.alloc _) = w1 at hbx c2 HA ⊢
  go_loop [6, 7] (fun t i => ∃ (k : Nat) (f : Int), k ≤ n ∧ i = .int .i64 k ∧ t = .int .i64 f ∧ Hid (f = findTo l key k)) (fun _ i => n - (intOf i).toNat)
  case atStart => exact ⟨0, -1, Nat.zero_le _, rfl, rfl, rfl⟩
  case round =>
    obtain ⟨k, f, hk, rfl, rfl, hf⟩ := hrel
    by_cases hlt : k < n
    · obtain ⟨b, off, rfl, hbl, hc⟩ := HA.out.e (by rw [HL.out]; omega)
      obtain ⟨d1, d2⟩ := hc k (by rw [HL.out]; omega)
      have hs : findTo l key (k + 1) = if (l[k]?.getD (0, 0)).1 ≤ key then (k : Int) else findTo l key k := rfl
      have HS := Lib.hid hs
      obtain ⟨x, ex⟩ : ∃ x, (l[k]?.getD (0, 0)).1 = x := ⟨_, rfl⟩
      rw [ex] at d1 HS
      clear hc ex hs d2
      by_cases hx : x ≤ key
      · have HS2 : Hid ((k : Int) = findTo l key (k + 1)) := by show _ = _; rw [HS.out, if_pos hx]
        go_wp2_with fail
        go_round
        case rel => exact ⟨k + 1, k, by omega, by go_num, rfl, HS2⟩
        case measure => simp [intOf]; omega
      · have HS2 : Hid (f = findTo l key (k + 1)) := by show _ = _; rw [HS.out, if_neg hx]; exact hf.out
        go_wp2_with fail
        go_round
        case rel => exact ⟨k + 1, f, by omega, by go_num, rfl, HS2⟩
        case measure => simp [intOf]; omega
    · have hkn : k = n := by omega
      have hbd := findTo_bd l key k
      have HF : Hid (findN l key = f) := by show _ = _; rw [hF.out, ← hkn, hf.out]
      rw [← hf.out] at hbd
      by_cases h0 : 0 ≤ f
      · obtain ⟨j, rfl⟩ : ∃ j : Nat, f = (j : Int) := ⟨f.toNat, by omega⟩
        have hj : j < n := by omega
        obtain ⟨b, off, rfl, hbl, hc⟩ := HA.out.e (by rw [HL.out]; omega)
        obtain ⟨d1, d2⟩ := hc j (by rw [HL.out]; omega)
        have HX : Hid (exactN l key = ((l[j]?.getD (0, 0)).1 == key)) := by
          show _ = _
          unfold exactN
          rw [HF.out, Int.toNat_natCast, Bool.eq_iff_iff]
          simp
        obtain ⟨x, ex⟩ : ∃ x, (l[j]?.getD (0, 0)).1 = x := ⟨_, rfl⟩
        rw [ex] at d1 HX
        have g1 : (0 : Int) ≤ (j : Int) := by omega
        have g2 : (j : Int) < (n : Int) := by omega
        have g3 : (j : Int).toNat = j := by omega
        clear hc ex d2 hkn
        go_wp2_with fail
        go_quiet (fail)
        go_wp2_with fail
        go_ret2
        exact ⟨by rw [HF.out, HX.out]; rfl, below_drewN hbx _⟩
      · have hd : decide (0 ≤ f) = false := by simpa using h0
        have HX : Hid (exactN l key = false) := by show _ = _; unfold exactN; rw [HF.out]; simp; omega
        clear hkn
        go_wp2_with fail
        go_quiet (fail)
        go_wp2_with fail
        go_ret2
        exact ⟨by rw [HF.out, HX.out]; rfl, below_drewN hbx _⟩

/-- slices.Clone of entries: a copy in new memory; nil stays nil. -/
theorem cloneE_any (A : Option Addr) (c n : Nat) (l : List (Int × Nat)) (w : World) (hn : l.length = n) (hA : Reads w A (ev l)) (hl : n ≤ 1000000) :
    Calls Try.prog 46 #[.slice A n c] w fun e w' => ∃ v, e = .returned v ∧ w'.ownsRow w.heap.size 52 2 v n (ev l) ∧ Below w.heap.size w w' := by
  obtain ⟨i0, hi0, hz0, hz1, hz2⟩ := info_parts entry_info
  have hq := fun W => Lib.run_eql_slice_nil (P := Try.prog) W 25 52 A n c 0 0 Try.underlying25
  rcases A with _ | a
  · have h0 : l = [] := by
      rcases Nat.eq_zero_or_pos l.length with h | h
      · exact List.eq_nil_of_length_eq_zero h
      · obtain ⟨b, off, h, _⟩ := hA.e (by omega)
        cases h
    subst h0
    subst hn
    simp only [List.length_nil, Option.isNone_none] at hq ⊢
    go_enter Try.func46, Try.ntmps46
    go_wp2
    go_ret
    exact ⟨_, rfl, World.ownsRow_nil _ _ _ _, Below.refl _ _⟩
  · have HN := Lib.hid hn
    clear hn
    go_enter Try.func46, Try.ntmps46
    go_wp2_with (at_builtin; refine wpList_append_reads _ rfl _ _ _ rfl w.heap.size 52 i0 _ 2 16 Try.underlying25 hi0 hz0 hz1 hz2 rfl (by omega) (.slice (some ⟨w.heap.size, 0, none⟩) 0 0) 0 [] rfl (World.ownsRow_lit w #[] 0 (Nat.le_refl _) (by simp only [maxLen]; omega) rfl) (some a) n c (ev l) rfl (by rw [ev_length, HN.out]) (hA.keep ((Below.refl _ _).alloc (Nat.le_refl _) _)) (ev_one l) (by simp only [maxLen]; omega) (by omega) (by simp) ?_; intro v1 w1 hown1 hg1 hat1)
    go_ret
    refine ⟨v1, rfl, by simpa using hown1, ((Below.refl _ w).alloc (Nat.le_refl _) _).grown hg1 (by simp) ?_⟩
    intro k hk
    simp [Value.ownBlock] at hk
    omega

section
variable {P : Program}
/-- copy where an element has several cells. -/
theorem run_copyS (w : World) (dT sT ty elem : TypeId) (size : Nat) (g o dLen dCap : Nat) (a : Addr) (sLen sCap : Nat) (cur : List Value) (t : TypeId) (cs : List Value)
    (hu : P.underlying dT = some (.slice elem)) (hs : (P.info? elem).map (·.size) = some size)
    (hg : Cs w g t cur.toArray) (hn : cs.length = Nat.min sLen dLen * size)
    (hsrc : ∀ j v, cs[j]? = some v → w.cell? (a.add j) = some v) (hfit : o + cs.length ≤ cur.length) (h1 : ∀ v ∈ cs, v.oneCell' = true) :
    (Builtin.copy_ #[dT, sT] ty #[.slice (some ⟨g, o, none⟩) dLen dCap, .slice (some a) sLen sCap]).run P w =
      .ok (goInt (Nat.min sLen dLen)) (w.setRow g (splice cur o cs).toArray) := by
  have hl := run_loadCells_list (P := P) w a cs hsrc
  have hst := run_storeCells_at P g o t cs 0 cur.toArray w hg (by simpa using hfit) h1
  cases hq : P.info? elem with
  | none => simp [hq] at hs
  | some i =>
    have hi : i.size = size := by simpa [hq] using hs
    rw [hn] at hl
    simp [Builtin.copy_, run_underlying hu, Builtin.lenOf, Builtin.firstCells, sizeOf, typeInfo, hq, hi, hl, hst, splice]

theorem wpList_copyS {w : World} {ops : Array Oper} {rest : List Oper} {o : Oper} {a : Act} {Q : Exit → Act → World → Prop} (hgd : o.guard = none) (d s : Operand) (dT sT : TypeId)
    (ho : o.op = .call { callee := .builtin .copy, args := #[d, s], argTypes := #[dT, sT] }) (elem : TypeId) (size : Nat) (hu : P.underlying dT = some (.slice elem)) (hsz : (P.info? elem).map (·.size) = some size)
    (g off dLen dCap : Nat) (ad : Addr) (sLen sCap : Nat) (hd : a.eval d = .slice (some ⟨g, off, none⟩) dLen dCap) (hs : a.eval s = .slice (some ad) sLen sCap)
    (cur : List Value) (t : TypeId) (hg : Cs w g t cur.toArray) (cs : List Value) (hn : cs.length = Nat.min sLen dLen * size)
    (hsrc : ∀ j v, cs[j]? = some v → w.cell? (ad.add j) = some v) (hfit : off + cs.length ≤ cur.length) (h1 : ∀ v ∈ cs, v.oneCell' = true)
    (B : Nat) (w0 : World) (hb : Below B w0 w) (hBg : B ≤ g)
    (h : ∀ w', Cs w' g t (splice cur off cs).toArray → Below B w0 w' → (∀ k, k ≠ g → w'.heap[k]? = w.heap[k]?) → wpList P ops Q rest (a.put o.dst (goInt (Nat.min sLen dLen))) w') : wpList P ops Q (o :: rest) a w := by
  refine wpList_plain hgd fun K hK => ?_
  have hrun := run_copyS (P := P) w dT sT o.type elem size g off dLen dCap ad sLen sCap cur t cs hu hsz hg hn hsrc hfit h1
  unfold Oper.wp
  simp only [execOp, ho, resolve, invoke, builtin, Sem.run_bind, Sem.run_pure, Result.andThen_ok, List.map_toArray, List.map_cons, List.map_nil, hd, hs, hrun]
  exact hK _ _ (h _ (setRow_heap w g _ _ t _ hg) (below_setRow hb hBg _) (fun k hk => setRow_other w g k _ hk))
end

end Go.Proofs.Ytjnkajdfdhockaa
