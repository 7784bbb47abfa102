import Derived.Test.YtjnkajdfdhockaaBits
import Derived.Test.YtjnkajdfdhockaaRows
namespace Go.Proofs.Ytjnkajdfdhockaa
set_option linter.unusedVariables false
open Go.RowKit

theorem u64_info : (Try.prog.info? 38).map (fun i => (i.zero, i.size, i.bytes)) = some (some (.int .u64 0), 1, 8) := by kernel_rfl

theorem int_info : (Try.prog.info? 3).map (fun i => (i.zero, i.size, i.bytes)) = some (some (.int .i64 0), 1, 8) := by kernel_rfl

/-- slices.Clone of words: a copy in new memory; nil stays nil. -/
theorem clone_any (A : Option Addr) (c : Nat) (l : List Nat) (w : World) (hA : Reads w A (uv l)) (hl : l.length ≤ 1000000) :
    Calls Try.prog 54 #[.slice A l.length c] w fun e w' => ∃ v, e = .returned v ∧ w'.ownsRow w.heap.size 38 1 v l.length (uv l) ∧ Below w.heap.size w w' := by
  obtain ⟨i0, hi0, hz0, hz1, hz2⟩ := info_parts u64_info
  have hn := fun W => Lib.run_eql_slice_nil (P := Try.prog) W 30 38 A l.length c 0 0 Try.underlying30
  rcases A with _ | a
  · have h0 : l = [] := by
      rcases Nat.eq_zero_or_pos l.length with h | h
      · exact List.eq_nil_of_length_eq_zero h
      · obtain ⟨b, off, h, _⟩ := hA.u (by omega)
        cases h
    subst h0
    simp only [List.length_nil, Option.isNone_none] at hn ⊢
    go_enter Try.func54, Try.ntmps54
    go_wp2
    go_ret
    exact ⟨_, rfl, World.ownsRow_nil _ _ _ _, Below.refl _ _⟩
  · go_enter Try.func54, Try.ntmps54
    go_wp2_with (at_builtin; refine wpList_append_reads _ rfl _ _ _ rfl w.heap.size 38 i0 _ 1 8 Try.underlying30 hi0 hz0 hz1 hz2 rfl (by omega) (.slice (some ⟨w.heap.size, 0, none⟩) 0 0) 0 [] rfl (World.ownsRow_lit w #[] 0 (Nat.le_refl _) (by simp only [maxLen]; omega) rfl) (some a) l.length c (uv l) rfl (by rw [uv_length]; omega) (hA.keep ((Below.refl _ _).alloc (Nat.le_refl _) _)) (uv_one l) (by simp only [maxLen]; omega) (by omega) (by simp) ?_; intro v1 w1 hown1 hg1 hat1)
    go_ret
    refine ⟨v1, rfl, by simpa using hown1, ((Below.refl _ w).alloc (Nat.le_refl _) _).grown hg1 (by simp) ?_⟩
    intro k hk
    simp [Value.ownBlock] at hk
    omega

theorem uv_set (l : List Nat) (i x : Nat) : (uv l).set i (.int .u64 (x : Int)) = uv (l.set i x) := by simp [uv, List.map_set]

theorem take_eq_snoc {xs ys : List Nat} {k : Nat} (hx : k < xs.length) (hl : xs.length = ys.length) (h : xs.take k = ys.take k) (e : xs[k]?.getD 0 = ys[k]?.getD 0) : xs.take (k + 1) = ys.take (k + 1) := by
  have hy : k < ys.length := by omega
  rw [List.take_succ_eq_append_getElem hx, List.take_succ_eq_append_getElem hy, h]
  simp [hx, hy] at e
  rw [e]

set_option maxHeartbeats 400000 in
theorem same_any (A B : Option Addr) (c d : Nat) (xs ys : List Nat) (w : World) (ha : Reads w A (uv xs)) (hb : Reads w B (uv ys)) (hx : xs.length ≤ 1000000) (hy : ys.length ≤ 1000000) :
    Calls Try.prog 16 #[.slice A xs.length c, .slice B ys.length d] w fun e w' => e = .returned (.bool (decide (xs = ys))) ∧ ∃ n, w' = w.drewN n := by
  by_cases hl : xs.length = ys.length
  · have H1 : ((xs.length : Int) != (ys.length : Int)) = false := by simp; omega
    have HL := Lib.hid hl
    obtain ⟨n, hn⟩ : ∃ n, xs.length = n := ⟨_, rfl⟩
    rw [← hl, hn] at H1 ⊢
    rw [hn] at hx
    have HN := Lib.hid hn
    clear hl hn hy
    have hcx : ∀ i, i < n → ∃ b off, A = some ⟨b, off, none⟩ ∧ w.cell? ⟨b, off + i, none⟩ = some (.int .u64 ((xs[i]?.getD 0 : Nat) : Int)) := by
      intro i hi
      obtain ⟨b, off, e, _, hc⟩ := ha.u (by rw [HN.out]; omega)
      exact ⟨b, off, e, hc i (by rw [HN.out]; exact hi)⟩
    have hcy : ∀ i, i < n → ∃ b off, B = some ⟨b, off, none⟩ ∧ w.cell? ⟨b, off + i, none⟩ = some (.int .u64 ((ys[i]?.getD 0 : Nat) : Int)) := by
      intro i hi
      obtain ⟨b, off, e, _, hc⟩ := hb.u (by rw [← HL.out, HN.out]; omega)
      exact ⟨b, off, e, hc i (by rw [← HL.out, HN.out]; exact hi)⟩
    have HX := Lib.hid hcx
    have HY := Lib.hid hcy
    clear hcx hcy ha hb
    go_enter Try.func16, Try.ntmps16
    go_wp2
    go_loopw [5] (fun i wr => ∃ k m : Nat, k ≤ n ∧ i = .int .i64 k ∧ wr = w.drewN m ∧ Hid (xs.take k = ys.take k)) (fun i _ => n - (intOf i).toNat)
    case atStart => exact ⟨0, 0, Nat.zero_le _, rfl, rfl, by show _ = _; simp⟩
    case round =>
      obtain ⟨k, m, hk, rfl, rfl, hs⟩ := hrel
      by_cases hlt : k < n
      · obtain ⟨b, off, rfl, hc1⟩ := HX.out k hlt
        obtain ⟨b2, off2, rfl, hc2⟩ := HY.out k hlt
        obtain ⟨x, ex⟩ : ∃ x, xs[k]?.getD 0 = x := ⟨_, rfl⟩
        obtain ⟨y, ey⟩ : ∃ y, ys[k]?.getD 0 = y := ⟨_, rfl⟩
        rw [ex] at hc1
        rw [ey] at hc2
        have EX := Lib.hid ex
        have EY := Lib.hid ey
        clear ex ey
        by_cases hxy : x = y
        · have hq : ((x : Int) != (y : Int)) = false := by simp; omega
          go_wp2
          go_quiet (fail)
          go_wp2
          go_roundw
          case rel => exact ⟨k + 1, _, by omega, by go_num, rfl, take_eq_snoc (by rw [HN.out]; omega) HL.out hs.out (by rw [EX.out, EY.out, hxy])⟩
          case measure => simp [intOf]; omega
        · have hq : ((x : Int) != (y : Int)) = true := by simp; omega
          go_wp2
          go_quiet (fail)
          go_wp2
          go_ret
          refine ⟨?_, m + nq, by rw [World.drewN_drewN]⟩
          have : decide (xs = ys) = false := by
            simp only [decide_eq_false_iff_not]
            intro h
            exact hxy (by rw [← EX.out, ← EY.out, h])
          rw [this]
          rfl
      · go_wp2
        go_ret
        refine ⟨?_, _, rfl⟩
        have : decide (xs = ys) = true := by
          have h := hs.out
          rw [List.take_of_length_le (by rw [HN.out]; omega), List.take_of_length_le (by rw [← HL.out, HN.out]; omega)] at h
          simpa using h
        rw [this]
        rfl
  · have h1 : ((xs.length : Int) != (ys.length : Int)) = true := by simp; omega
    have h2 : Hid (decide (xs = ys) = false) := by show decide (xs = ys) = false; simp; intro h; exact hl (by rw [h])
    go_enter Try.func16, Try.ntmps16
    go_wp2
    go_ret
    exact ⟨by rw [h2.out]; rfl, 0, rfl⟩

theorem addr_plain {w : World} {x : Addr} {v : Value} (h : w.cell? x = some v) : ∃ b off, x = ⟨b, off, none⟩ := by
  obtain ⟨b, off, spot⟩ := x
  cases spot with
  | none => exact ⟨b, off, rfl⟩
  | some s =>
    unfold World.cell? at h
    split at h <;> simp at h

theorem wf_u64 {n : Int} (h : (Lit.int .u64 n).wf = true) : 0 ≤ n ∧ n < 18446744073709551616 := by
  have := bounds_u64 h
  omega

theorem isRow_u {w : World} {a : Option Addr} {len cap : Nat} {zs : List Int}
    (h : (a = none ∧ len = 0 ∧ cap = 0 ∧ zs = []) ∨
      ∃ x, a = some x ∧ len ≤ cap ∧ cap ≤ maxLen ∧ zs.length = cap ∧ (∀ i, i < zs.length → w.cell? (x.add i) = some (.int .u64 (zs.getD i 0))) ∧ ∀ n ∈ zs, (Lit.int .u64 n).wf = true) :
    ∃ l : List Nat, l.length = len ∧ Reads w a (uv l) ∧ W64 l := by
  rcases h with ⟨rfl, rfl, _, _⟩ | ⟨x, rfl, hl, _, hz, hc, hw⟩
  · exact ⟨[], rfl, Reads.nil, by intro x hx; cases hx⟩
  · refine ⟨(zs.take len).map Int.toNat, by simp; omega, ?_, ?_⟩
    · intro hne
      have h0 := hc 0 (by rw [uv_length] at hne; simp at hne; omega)
      obtain ⟨b, off, rfl⟩ := addr_plain (show w.cell? (x.add 0) = _ from h0)
      refine ⟨b, off, rfl, World.block_lt_of_cell? _ _ h0, fun i v hi => ?_⟩
      have hil : i < (uv ((zs.take len).map Int.toNat)).length := (List.getElem?_eq_some_iff.1 hi).1
      rw [uv_length] at hil
      rw [uv_at _ _ hil] at hi
      have hil' : i < len ∧ i < zs.length := by simp at hil; omega
      have h1 := hc i hil'.2
      rw [Addr.add_lit] at h1
      rw [h1, ← hi]
      congr 2
      have hz : zs.getD i 0 = zs[i] := by simp [hil'.2]
      have := wf_u64 (hw _ (List.getElem_mem hil'.2))
      rw [hz]
      simp [hil'.1, hil'.2]
      omega
    · intro y hy
      simp only [List.mem_map] at hy
      obtain ⟨z, hz, rfl⟩ := hy
      have := wf_u64 (hw z (List.mem_of_mem_take hz))
      omega

theorem isRow_i {w : World} {a : Option Addr} {len cap : Nat} {zs : List Int}
    (h : (a = none ∧ len = 0 ∧ cap = 0 ∧ zs = []) ∨
      ∃ x, a = some x ∧ len ≤ cap ∧ cap ≤ maxLen ∧ zs.length = cap ∧ (∀ i, i < zs.length → w.cell? (x.add i) = some (.int .i64 (zs.getD i 0))) ∧ ∀ n ∈ zs, (Lit.int .i64 n).wf = true) :
    ∃ l : List Int, l.length = len ∧ Reads w a (iv l) ∧ I64 l := by
  rcases h with ⟨rfl, rfl, _, _⟩ | ⟨x, rfl, hl, _, hz, hc, hw⟩
  · exact ⟨[], rfl, Reads.nil, by intro x hx; cases hx⟩
  · refine ⟨zs.take len, by simp; omega, ?_, ?_⟩
    · intro hne
      have h0 := hc 0 (by rw [iv_length] at hne; simp at hne; omega)
      obtain ⟨b, off, rfl⟩ := addr_plain (show w.cell? (x.add 0) = _ from h0)
      refine ⟨b, off, rfl, World.block_lt_of_cell? _ _ h0, fun i v hi => ?_⟩
      have hil : i < (iv (zs.take len)).length := (List.getElem?_eq_some_iff.1 hi).1
      rw [iv_length] at hil
      rw [iv_at _ _ hil] at hi
      have hil' : i < len ∧ i < zs.length := by simp at hil; omega
      have h1 := hc i hil'.2
      rw [Addr.add_lit] at h1
      rw [h1, ← hi]
      congr 2
      simp [hil'.1]
    · intro y hy
      have := bounds_i64 (hw y (List.mem_of_mem_take hy))
      omega

theorem same_any' (A B : Option Addr) (c d N M : Nat) (xs ys : List Nat) (w : World) (hN : xs.length = N) (hM : ys.length = M) (ha : Reads w A (uv xs)) (hb : Reads w B (uv ys)) (hx : N ≤ 1000000) (hy : M ≤ 1000000) :
    Calls Try.prog 16 #[.slice A N c, .slice B M d] w fun e w' => e = .returned (.bool (decide (xs = ys))) ∧ ∃ n, w' = w.drewN n := by
  subst hN
  subst hM
  exact same_any A B c d xs ys w ha hb hx hy

theorem ext_at {l m : List Nat} (hl : l.length = m.length) (h : ∀ k, k < l.length → l[k]?.getD 0 = m[k]?.getD 0) : l = m := by
  apply List.ext_getElem hl
  intro i h1 h2
  have := h i h1
  simpa [h1, h2] using this

theorem emod_nat (a : Int) (n : Nat) (_h0 : 0 ≤ a) (hn : 1 ≤ n) : ∃ i : Nat, a % (64 * (n : Int)) = (i : Int) ∧ i < 64 * n := by
  refine ⟨(a % (64 * (n : Int))).toNat, ?_, ?_⟩
  · have := Int.emod_nonneg a (b := 64 * (n : Int)) (by omega)
    omega
  · have := Int.emod_lt_of_pos a (b := 64 * (n : Int)) (by omega)
    omega

/-- The ones below bit n, as the code makes them. -/
theorem ones_wrap (n : Nat) (h : n < 64) : IntKind.u64.wrap (IntKind.u64.wrap (2 ^ n) - 1) = ((2 ^ n - 1 : Nat) : Int) := by
  have h2 : 2 ^ n < 2 ^ 64 := Nat.pow_lt_pow_right (by omega) h
  have h0 : 0 < 2 ^ n := Nat.pow_pos (by omega)
  rw [cast_two_pow, wrap_nat, Nat.mod_eq_of_lt h2]
  have e : ((2 ^ n : Nat) : Int) - 1 = ((2 ^ n - 1 : Nat) : Int) := by omega
  rw [e, wrap_nat, Nat.mod_eq_of_lt (by omega)]

theorem own_base {w : World} {base : Nat} {e : TypeId} {size n : Nat} {v : Value} {xs : List Value} (h : w.ownsRow base e size v n xs) : ∀ j, v.ownBlock = some j → base ≤ j := by
  intro j ej
  rcases h.2 with ⟨rfl, _⟩ | ⟨g, cap, cur, rfl, hb, _, _⟩
  · simp [Value.ownBlock] at ej
  · obtain rfl : g = j := by simpa [Value.ownBlock] using ej
    exact hb

theorem own_keep {W W' : World} {base g : Nat} {e : TypeId} {size n : Nat} {v : Value} {xs : List Value} (h : W.ownsRow base e size v n xs) (hg : W.grownBy W' (some g)) (hl : g < base) : W'.ownsRow base e size v n xs :=
  h.kept hg (.inr (fun e => by have := own_base h _ e; omega))

theorem rows_ne {W : World} {base base' : Nat} {e e' : TypeId} {n n' : Nat} {v v' : Value} {xs xs' : List Value} (h : W.ownsRow base e 1 v n xs) (h' : W.ownsRow base' e' 1 v' n' xs') (hne : e ≠ e') : v.ownBlock = none ∨ v.ownBlock ≠ v'.ownBlock := by
  rcases h.2 with ⟨rfl, _⟩ | ⟨g, cap, cur, rfl, _, hb, _⟩
  · exact .inl rfl
  · refine .inr fun ee => ?_
    rcases h'.2 with ⟨rfl, _⟩ | ⟨g', cap', cur', rfl, _, hb', _⟩
    · simp [Value.ownBlock] at ee
    · obtain rfl : g = g' := by simpa [Value.ownBlock] using ee
      rw [hb] at hb'
      simp at hb'
      exact hne hb'.2

theorem app_below {W w' : World} {base : Nat} {e : TypeId} {size n : Nat} {v : Value} {xs : List Value} {o : Obj} (h : W.ownsRow base e size v n xs) (hg : (W.alloc o).grownBy w' v.ownBlock) (hle : base ≤ W.heap.size) : Below base W w' :=
  ((Below.refl base W).alloc hle o).grown hg (by simp; omega) (own_base h)

theorem app_below' {W w' : World} {base : Nat} {e : TypeId} {size n : Nat} {v : Value} {xs : List Value} {o : Obj} (h : W.ownsRow base e size v n xs) (hg : (W.drew.alloc o).grownBy w' v.ownBlock) (hle : base ≤ W.heap.size) : Below base W w' :=
  ((Below.refl base W).drew).trans (app_below (W := W.drew) h hg hle)

theorem any_u64 (x : Int) : ∃ y : Nat, IntKind.u64.wrap x = (y : Int) ∧ y < 18446744073709551616 := by
  have h : IntKind.u64.wrap x = x % 18446744073709551616 := by simp [IntKind.wrap, IntKind.signed, IntKind.bits]
  refine ⟨(x % 18446744073709551616).toNat, ?_, ?_⟩ <;> omega

theorem val_u64 (a b c : Int) : ∃ y : Nat, bits BinOp.or IntKind.u64 (bits BinOp.and IntKind.u64 (IntKind.u64.wrap a) (IntKind.u64.wrap b)) (IntKind.u64.wrap c) = (y : Int) ∧ y < 18446744073709551616 := by
  obtain ⟨a', ea, ha⟩ := any_u64 a
  obtain ⟨b', eb, hb⟩ := any_u64 b
  obtain ⟨c', ec, hc⟩ := any_u64 c
  have h := Nat.lt_of_le_of_lt (Nat.and_le_left (n := a') (m := b')) ha
  exact ⟨_, by rw [ea, eb, ec, u64_and_nat _ _ ha hb, u64_or_nat _ _ h hc], or_lt h hc⟩

theorem grown_below {W W' : World} {row : Option Nat} {n₀ : Nat} {A : World} (hB : Below n₀ A W) (hg : W.grownBy W' row) (hn : n₀ ≤ W.heap.size) (hr : ∀ r, row = some r → n₀ ≤ r) : Below n₀ A W' := hB.grown hg hn hr

end Go.Proofs.Ytjnkajdfdhockaa
