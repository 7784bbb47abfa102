import Derived.Test.YtcafhnaododjfaaPackK
import Derived.Test.YtcafhnaododjfaaSrc
namespace Go.Proofs.Ytcafhnaododjfaa
set_option linter.unusedVariables false
open Go.RowKit Go.Shelf
attribute [local go_sem] Oper.semAt_some

set_option maxHeartbeats 400000 in
theorem refSplit_range (x : Int) (A : Option Addr) (c : Nat) (ws : List Int) (w : World) (hA : Reads w A (iv ws)) (hlen : ws.length ≤ 1000000) (hok : okW 0 ws = false) :
    Calls Try.prog 17 #[.int .u64 x, .slice A ws.length c] w fun e w' => e = .returned (.tuple #[.slice none 0 0, .int .i64 1]) ∧ w = w' := by
  have Hd := Lib.hid (refWidths_any A c ws w hA hlen)
  rw [hok] at Hd
  clear hok
  go_enter Try.func17, Try.ntmps17
  go_wp2_with fail
  refine Hd.out.mono ?_
  rintro e w' ⟨rfl, rfl⟩
  go_wp2_with fail
  go_ret2
  exact ⟨rfl, rfl⟩

theorem splitF_upto (ws : List Int) (k x y : Nat) (t v : Int) (ht : t = (ws.take k).sum) (h0 : 0 ≤ t) (h1 : t ≤ 64) (hv : ws[k]?.getD 0 = v) (hv1 : v ≤ 64) (hy : y = x >>> t.toNat) :
    splitF (upto (fldOf ws) (k + 1)) x = splitF (upto (fldOf ws) k) x ++ [y &&& (2 ^ v.toNat - 1)] := by
  rw [upto_succ, splitF_snoc, fldOf_at ws k t ht h0 h1, fldOf_mask ws k v hv hv1, hy]

/-- The ones below bit n, as the code makes them. -/
theorem ones_wrap (n : Nat) (h : n < 64) : IntKind.u64.wrap (IntKind.u64.wrap (2 ^ n) - 1) = ((2 ^ n - 1 : Nat) : Int) := by
  have h2 : 2 ^ n < 2 ^ 64 := Nat.pow_lt_pow_right (by omega) h
  have h0 : 0 < 2 ^ n := Nat.pow_pos (by omega)
  rw [cast_two_pow, wrap_nat, Nat.mod_eq_of_lt h2]
  have e : ((2 ^ n : Nat) : Int) - 1 = ((2 ^ n - 1 : Nat) : Int) := by omega
  rw [e, wrap_nat, Nat.mod_eq_of_lt (by omega)]

theorem own_base {w : World} {base : Nat} {e : TypeId} {size n : Nat} {v : Value} {xs : List Value} (h : w.ownsRow base e size v n xs) : ∀ j, v.ownBlock = some j → base ≤ j := by
  intro j ej
  rcases h.2 with ⟨rfl, _⟩ | ⟨g, cap, cur, rfl, hb, _, _⟩
  · simp [Value.ownBlock] at ej
  · obtain rfl : g = j := by simpa [Value.ownBlock] using ej
    exact hb

set_option maxRecDepth 100000 in
set_option maxHeartbeats 1000000 in
theorem refSplit_ok (x : Nat) (A : Option Addr) (c : Nat) (ws : List Int) (w : World) (hA : Reads w A (iv ws)) (hlen : ws.length ≤ 1000000) (hok : okW 0 ws = true) (hx : x < 18446744073709551616) :
    Calls Try.prog 17 #[.int .u64 x, .slice A ws.length c] w fun e w' => ∃ v, e = .returned (.tuple #[v, .int .i64 0]) ∧ w'.ownsRow w.heap.size 24 1 v ws.length (uv (splitF (upto (fldOf ws) ws.length) x)) ∧ Below w.heap.size w w' := by
  obtain ⟨i0, hi0, hz0, hz1, hz2⟩ := info_parts u64_info
  obtain ⟨m, hm⟩ : ∃ m, ws.length = m := ⟨_, rfl⟩
  have Hd := Lib.hid (refWidths_any A c ws w hA hlen)
  have hci : ∀ i, i < m → ∃ b off, A = some ⟨b, off, none⟩ ∧ b < w.heap.size ∧ w.cell? ⟨b, off + i, none⟩ = some (.int .i64 (ws[i]?.getD 0)) := by
    intro i hi
    obtain ⟨b, off, e, hb, hc⟩ := hA.i (by omega)
    exact ⟨b, off, e, hb, hc i (by omega)⟩
  rw [hm]
  rw [hm, hok] at Hd
  rw [hm] at hlen
  have HM := Lib.hid hm
  have HI := Lib.hid hci
  have HOK := Lib.hid hok
  have HX := Lib.hid hx
  clear hm hci hok hA hx
  go_enter Try.func17, Try.ntmps17
  go_wp2_with fail
  refine Hd.out.mono ?_
  rintro e w' ⟨rfl, rfl⟩
  go_wp2_with fail
  go_loopw [0, 6, 7] (fun y o i wr => ∃ (k Y : Nat) (s : Int), k ≤ m ∧ i = .int .i64 k ∧ y = .int .u64 (Y : Int) ∧ 0 ≤ s ∧ s ≤ 64 ∧ Hid (s = (ws.take k).sum) ∧ Y < 18446744073709551616 ∧ Hid (k < m → Y = x >>> s.toNat) ∧ wr.ownsRow w.heap.size 24 1 o k (uv (splitF (upto (fldOf ws) k) x)) ∧ Below w.heap.size w wr) (fun _ _ i _ => m - (intOf i).toNat)
  case atStart => exact ⟨0, x, 0, Nat.zero_le _, rfl, rfl, by omega, by omega, by show _ = _; simp, HX.out, Lib.hid (fun _ => rfl), World.ownsRow_nil _ _ _ _, Below.refl _ _⟩
  case round =>
    obtain ⟨k, Y, s, hk, rfl, rfl, hs0, hs1, hs, hY, hYx, hrow, hB⟩ := hrel
    obtain ⟨a1, n1, hv⟩ := own_form hrow
    subst hv
    by_cases hlt : k < m
    · obtain ⟨b, off, rfl, hbl, hc1⟩ := HI.out k hlt
      have hc1' := (hB.cell (p := ⟨b, off + k, none⟩) hbl).trans hc1
      have hu := okW_at 0 ws k HOK.out (by rw [HM.out]; exact hlt)
      have hts := sum_take_succ ws k (by rw [HM.out]; exact hlt)
      obtain ⟨u, eu⟩ : ∃ u, ws[k]?.getD 0 = u := ⟨_, rfl⟩
      rw [← hs.out, eu] at hu hts
      rw [eu] at hc1'
      have EU := Lib.hid eu
      have HT := Lib.hid hts
      clear eu hts hc1
      have k0 : (0 : Int) ≤ (k : Int) := by omega
      have kl : (k : Int) < (m : Int) := by omega
      by_cases h64 : u = 64
      · subst h64
        go_wp2_with (at_builtin; refine wpList_append_reads _ (by rfl) _ _ _ (by rfl) w.heap.size 24 i0 _ 1 8 Try.underlying23 hi0 hz0 hz1 hz2 (by rfl) (by omega) (.slice a1 k n1) k (uv (splitF (upto (fldOf ws) k) x)) (by rfl) (hrow.alloc _) (some ⟨wr.heap.size, 0, none⟩) 1 1 [.int .u64 (Y : Int)] (by rfl) (by rfl) (Reads.new _ _ _) (by simp [Value.oneCell']) (by simp only [maxLen]; omega) (by omega) (by have := hB.size; simp; omega) ?_; intro v1 w1 hown1 hg1 hat1; obtain ⟨g1, cap1, rfl⟩ := ownsRow_succ hown1)
        have hrow1 : w1.ownsRow w.heap.size 24 1 (.slice (some ⟨g1, 0, none⟩) (k + 1) cap1) (k + 1) (uv (splitF (upto (fldOf ws) (k + 1)) x)) := by
          rw [splitF_upto ws k x Y s 64 hs.out hs0 hs1 EU.out (by omega) (hYx.out hlt), uv_append, show (64 : Int).toNat = 64 from rfl, Nat.and_two_pow_sub_one_of_lt_two_pow hY]
          exact hown1
        have hB1 : Below w.heap.size w w1 := (hB.alloc hB.size _).grown hg1 (by have := hB.size; simp; omega) (own_base hrow)
        refine ⟨⟨k + 1, Y, s + 64, by omega, by go_num, rfl, by omega, by omega, HT.out.symm, hY, Lib.hid (fun h => ?_), hrow1, hB1⟩, by simp [intOf]; omega⟩
        have hu2 := okW_at 0 ws (k + 1) HOK.out (by rw [HM.out]; exact h)
        rw [HT.out] at hu2
        omega
      · have g1 : (u == 64) = false := by simpa using h64
        have u0 : 0 ≤ u := by omega
        go_wp2_with (at_builtin; refine wpList_append_reads _ (by rfl) _ _ _ (by rfl) w.heap.size 24 i0 _ 1 8 Try.underlying23 hi0 hz0 hz1 hz2 (by rfl) (by omega) (.slice a1 k n1) k (uv (splitF (upto (fldOf ws) k) x)) (by rfl) (hrow.alloc _) (some ⟨wr.heap.size, 0, none⟩) 1 1 [_] (by rfl) (by rfl) (Reads.new _ _ _) (by simp [Value.oneCell']) (by simp only [maxLen]; omega) (by omega) (by have := hB.size; simp; omega) ?_; intro v1 w1 hown1 hg1 hat1; obtain ⟨g1, cap1, rfl⟩ := ownsRow_succ hown1; have hB1 : Below w.heap.size w w1 := (hB.alloc hB.size _).grown hg1 (by have := hB.size; simp; omega) (own_base hrow); have hc2 := (hB1.cell (p := ⟨b, off + k, none⟩) hbl).trans ((hB.cell (p := ⟨b, off + k, none⟩) hbl).symm.trans hc1'))
        have hrow1 : w1.ownsRow w.heap.size 24 1 (.slice (some ⟨g1, 0, none⟩) (k + 1) cap1) (k + 1) (uv (splitF (upto (fldOf ws) (k + 1)) x)) := by
          rw [splitF_upto ws k x Y s u hs.out hs0 hs1 EU.out (by omega) (hYx.out hlt), uv_append]
          rw [ones_wrap _ (by omega), u64_and_nat _ _ hY (by have : 2 ^ u.toNat ≤ 2 ^ 64 := Nat.pow_le_pow_right (by omega) (by omega); have : 0 < 2 ^ u.toNat := Nat.pow_pos (by omega); omega)] at hown1
          exact hown1
        refine ⟨⟨k + 1, Y >>> u.toNat, s + u, by omega, by go_num, val_int (cast_shr _ _), by omega, by omega, HT.out.symm, shr_lt _ _ hY, Lib.hid (fun h => ?_), hrow1, hB1⟩, by simp [intOf]; omega⟩
        rw [hYx.out hlt, ← Nat.shiftRight_add]
        congr 1
        omega
    · obtain rfl : k = m := by omega
      go_wp2_with fail
      go_ret2
      exact ⟨_, rfl, hrow, hB⟩

/-- What Split answers. -/
def splitR (ws : List Int) (x : Nat) : List Nat := if okW 0 ws = true then splitF (upto (fldOf ws) ws.length) x else []
def splitE (ws : List Int) : Int := if okW 0 ws = true then 0 else 1
theorem splitR_len (ws : List Int) (x : Nat) : (splitR ws x).length ≤ ws.length := by
  unfold splitR
  split
  · rw [splitF_length, upto_length]; exact Nat.le_refl _
  · exact Nat.zero_le _
theorem splitR_w (ws : List Int) (x : Nat) : W64 (splitR ws x) := by
  unfold splitR splitF
  split
  · intro y hy
    obtain ⟨f, _, rfl⟩ := List.mem_map.1 hy
    exact Nat.lt_of_le_of_lt Nat.and_le_right f.hmask
  · intro y hy; cases hy

theorem split_all (x : Nat) (A : Option Addr) (c n : Nat) (ws : List Int) (w : World) (hn : ws.length = n) (hA : Reads w A (iv ws)) (hlen : n ≤ 1000000) (hx : x < 18446744073709551616) :
    Calls Try.prog 16 #[.int .u64 x, .slice A n c] w fun e w' => ∃ B d, e = .returned (.tuple #[.slice B (splitR ws x).length d, .int .i64 (splitE ws)]) ∧ Reads w' B (uv (splitR ws x)) ∧ Below w.heap.size w w' := by
  subst hn
  unfold splitR splitE
  by_cases hok : okW 0 ws = true
  · rw [if_pos hok, if_pos hok, splitF_length, upto_length]
    refine (split_ok x A c ws w hA hlen hok hx).mono ?_
    rintro e w' ⟨v, rfl, hown, hb⟩
    obtain ⟨B, d, rfl⟩ := own_form hown
    exact ⟨B, d, rfl, Reads.of_own hown, hb⟩
  · rw [if_neg hok, if_neg hok]
    refine (split_range x A c ws w hA hlen (by simpa using hok)).mono ?_
    rintro e w' ⟨rfl, hb⟩
    exact ⟨none, 0, rfl, Reads.nil, hb⟩

theorem refSplit_all (x : Nat) (A : Option Addr) (c n : Nat) (ws : List Int) (w : World) (hn : ws.length = n) (hA : Reads w A (iv ws)) (hlen : n ≤ 1000000) (hx : x < 18446744073709551616) :
    Calls Try.prog 17 #[.int .u64 x, .slice A n c] w fun e w' => ∃ B d, e = .returned (.tuple #[.slice B (splitR ws x).length d, .int .i64 (splitE ws)]) ∧ Reads w' B (uv (splitR ws x)) ∧ Below w.heap.size w w' := by
  subst hn
  unfold splitR splitE
  by_cases hok : okW 0 ws = true
  · rw [if_pos hok, if_pos hok, splitF_length, upto_length]
    refine (refSplit_ok x A c ws w hA hlen hok hx).mono ?_
    rintro e w' ⟨v, rfl, hown, hb⟩
    obtain ⟨B, d, rfl⟩ := own_form hown
    exact ⟨B, d, rfl, Reads.of_own hown, hb⟩
  · rw [if_neg hok, if_neg hok]
    refine (refSplit_range x A c ws w hA hlen (by simpa using hok)).mono ?_
    rintro e w' ⟨rfl, rfl⟩
    exact ⟨none, 0, rfl, Reads.nil, Below.refl _ _⟩

end Go.Proofs.Ytcafhnaododjfaa
