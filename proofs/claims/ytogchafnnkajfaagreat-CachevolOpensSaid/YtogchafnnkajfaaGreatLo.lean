/-
  The law CachevolOpens.
-/
import Derived.Test.YtogchafnnkajfaaGreatPo7
namespace Go.Proofs.YtogchafnnkajfaaGreat
set_option linter.unusedVariables false
open Go.RowKit
attribute [local go_sem] Oper.semAt_some

/-- What the law holds: the source, the words. -/
def OV (W W' : World) (A : Option Addr) (c n : Nat) (l : List Nat) : Prop := SrcAt W' W.heap.size ∧ Below W.heap.size W W' ∧ W'.ownsRow (W.heap.size + 1) 26 1 (.slice A n c) n (uv l) ∧ l.length = n ∧ W64 l
theorem OV.grown {W W' W'' : World} {A : Option Addr} {c n : Nat} {l : List Nat} (h : OV W W' A c n l) (hs : SrcAt W'' W.heap.size) (hg : W'.grownBy W'' (some W.heap.size)) : OV W W'' A c n l :=
  ⟨hs, gb_Below h.2.1 hg h.2.1.size (Nat.le_refl _), own_keep h.2.2.1 hg (by omega), h.2.2.2.1, h.2.2.2.2⟩
theorem OV.keep {W W' W'' : World} {A : Option Addr} {c n : Nat} {l : List Nat} (h : OV W W' A c n l) (hb : Below W'.heap.size W' W'') : OV W W'' A c n l := ⟨h.1.keep hb, h.2.1.trans (hb.mono h.2.1.size), own_keepB h.2.2.1 hb, h.2.2.2.1, h.2.2.2.2⟩
theorem OV.at_ {W W' : World} {b c n : Nat} {l : List Nat} (h : OV W W' (some ⟨b, 0, none⟩) c n l) (j : Nat) (hj : j < n) : W'.cell? ⟨b, j, none⟩ = some (.int .u64 ((l[j]?.getD 0 : Nat) : Int)) ∧ W'.frozen? ⟨b, j, none⟩ = false ∧
    (∀ v : Nat, v < 18446744073709551616 → OV W (W'.setCell ⟨b, j, none⟩ (.int .u64 (v : Int))) (some ⟨b, 0, none⟩) c n (l.set j v)) := by
  obtain ⟨h1, h2, h3, h4, h5⟩ := h
  have hb : W.heap.size + 1 ≤ b := (h3.lt b rfl).1
  refine ⟨(h3.cellAt j (by omega)).trans (uv_at l j (by omega)), h3.frozenAt j, fun v hv => ⟨h1.below (B := b) ((Below.refl _ W').setCell (p := ⟨b, j, none⟩) (Nat.le_refl _) _) (by omega), h2.setCell (p := ⟨b, j, none⟩) (by show W.heap.size ≤ b; omega) _, ?_, by rw [List.length_set]; exact h4, ?_⟩⟩
  · have := (h3.stored j (.int .u64 (v : Int))).1
    rwa [uv_set] at this
  · intro x hx
    rcases List.mem_or_eq_of_mem_set hx with hx | rfl
    · exact h5 x hx
    · exact hv
theorem xor33_any (a : Nat) (p : Int) (ha : a < 18446744073709551616) : ∃ y : Nat, bits BinOp.xor IntKind.u64 (a : Int) (IntKind.u64.wrap p) = (y : Int) ∧ y < 18446744073709551616 := by
  obtain ⟨x, ex, hx⟩ := any_u64 p
  rw [ex]
  exact ⟨_, u64_xor_nat a x ha hx, Nat.xor_lt_two_pow (n := 64) ha hx⟩
/-- What is opened, by the definition and by the program. -/
theorem same_open {lo : Nat} {W : World} {Fv Fq : Nat → Prop} {pb bL cL g s0 s1 s2 m v r bo co bf cf bm cm n0 n1 n2 : Nat} {l0 l1 l2 : List Nat} {mode : Int} (h0 : l0.length = n0) (h1 : l1.length = n1) (h2 : l2.length = n2) (hn0 : 1 ≤ n0 ∧ n0 ≤ 60000) (hn1 : 1 ≤ n1 ∧ n1 ≤ 60000) (hn2 : 1 ≤ n2 ∧ n2 ≤ 60000) (hE : opnE l2 n0 n1 mode = 0)
    (hp : P33 lo W Fv Fq pb bL cL ⟨g, s0, s1, s2, m, v, n0, n1, n2, opC l2⟩ ((opn0 (DS.full [l0, l1, l2]) mode).bgn ⟨g, s0, s1, s2, m, v, n0, n1, n2, opC l2⟩ mode) (rvK r bo co bf cf bm cm n0 n1 n2 l2 mode) false ((rv0 l0 l1 l2).bgn (opC l2) (opM l2) (opO l2) mode)) :
    Calls Tryz.prog 17 #[.pointer (some ⟨pb, 0, none⟩)] W fun e w' => e = .returned (.bool true) ∧ Below W.heap.size W w' := by
  unfold opnE at hE
  split at hE
  · cases hE
  rename_i hm
  split at hE
  · rename_i hne
    exact absurd hE hne
  rename_i hop
  have hop : openE l2 = 0 := Classical.byContradiction fun e => hop e
  split at hE
  · cases hE
  rename_i hsz
  split at hE
  · cases hE
  rename_i hbd
  have hbd : badS (slotsU l2 (opK l2)) (n0 / opC l2) = false := by simpa using hbd
  obtain ⟨o1, o2, o3, o4, -⟩ := open_cs l2 hop
  obtain ⟨p1, p2⟩ := full3 ⟨g, s0, s1, s2, m, v, n0, n1, n2, opC l2⟩ l0 l1 l2 h0 h1 h2
  obtain ⟨q1, q2, q3⟩ := opn_view (C := ⟨g, s0, s1, s2, m, v, n0, n1, n2, opC l2⟩) (S := DS.full [l0, l1, l2]) (mode := mode) p1 hop rfl hsz hbd
  exact same33_any hp ⟨rfl, rfl, rfl, rfl, ⟨o3, o4⟩, hn0, hn1, hn2, by show mode = 1 ∨ mode = 2; omega⟩ q1 q3 q2.hea

set_option maxRecDepth 100000 in
set_option maxHeartbeats 8000000 in
theorem opens33_any (A : Option Addr) (c n0 : Nat) (ls : List Int) (W : World) (hn : ls.length = n0) (hA : Reads W A (iv ls)) (hw : I64 ls) (hc : n0 ≤ c) :
    Calls Tryz.prog 3 #[.slice A n0 c] W fun e W' => e = .returned (.bool true) ∧ Below W.heap.size W W' := by
  obtain ⟨i0, hi0, hz0, hz1, hz2⟩ := info_parts u64_info
  go_enter Tryz.func3, Tryz.ntmps3
  go_wp2_with fail
  refine (new_any A n0 c ls W hn hA hw hc).mono ?_
  rintro e W1 ⟨rfl, hs1, hb1, hsz1⟩
  go_wp2_with fail
  refine (range_any W.heap.size 1 3 W1 hs1 (by omega) (by omega) (by omega)).mono ?_
  rintro e W2 ⟨chi, rfl, hc1, hc4, hs2, hg2⟩
  obtain ⟨ch, rfl⟩ : ∃ n : Nat, chi = (n : Int) := ⟨chi.toNat, by omega⟩
  have HB2 := Lib.hid (gb_Below hb1 hg2 hb1.size (Nat.le_refl _))
  clear hs1 hb1 hg2 hsz1 hn hA hw hc
  go_wp2_with fail
  refine (range_any W.heap.size 1 4 W2 hs2 (by omega) (by omega) (by omega)).mono ?_
  rintro e W3 ⟨ki, rfl, hk1, hk4, hs3, hg3⟩
  obtain ⟨k, rfl⟩ : ∃ n : Nat, ki = (n : Int) := ⟨ki.toNat, by omega⟩
  have HB3 := Lib.hid (gb_Below HB2.out hg3 HB2.out.size (Nat.le_refl _))
  clear hs2 hg3 HB2
  go_wp2_with fail
  refine (n_any W.heap.size 3 W3 hs3 (by omega) (by omega)).mono ?_
  rintro e W4 ⟨m0, rfl, hm0, hm3, hs4, hg4⟩
  have HB4 := Lib.hid (gb_Below HB3.out hg4 HB3.out.size (Nat.le_refl _))
  clear hs3 hg4 HB3
  go_wp2_with fail
  refine (n_any W.heap.size 2 W4 hs4 (by omega) (by omega)).mono ?_
  rintro e W5 ⟨q0, rfl, hq0, hq2, hs5, hg5⟩
  have HB5 := Lib.hid (gb_Below HB4.out hg5 HB4.out.size (Nat.le_refl _))
  have HS5 := Lib.hid hs5
  clear hs4 hg5 hs5 HB4
  go_wp2_with fail
  refine (rhead_any k (ch : Int) m0 (q0 == 0) W5).mono ?_
  rintro e W6 ⟨rfl, hb6⟩
  have hhl := hdI_lt k (ch : Int) m0 (q0 == 0)
  generalize hdI k (ch : Int) m0 (q0 == 0) = hd at *
  have HS6 := Lib.hid (HS5.out.keep hb6)
  have HB6 := Lib.hid (HB5.out.trans (hb6.mono HB5.out.size))
  clear hb6 HS5 HB5
  go_wp2_with fail
  have hov : OV W (W6.alloc (.cells #[.int .u64 (hd : Int)] 26)) (some ⟨W6.heap.size, 0, none⟩) 1 1 [hd] := by
    refine ⟨HS6.out.alloc _, HB6.out.alloc HB6.out.size _, own_lower (World.ownsRow_lit (size := 1) W6 (uv [hd]).toArray 1 (Nat.le_refl _) (by simp only [maxLen]; omega) (by simp [uv])) (by have := HS6.out.lt; omega), rfl, ?_⟩
    intro x hx
    simp at hx
    omega
  generalize (W6.alloc (.cells #[.int .u64 (hd : Int)] 26)) = W7 at *
  have HOV := Lib.hid hov
  clear hov HS6 HB6
  obtain ⟨A7, hA7⟩ : ∃ A7 : Option Addr, (some ⟨W6.heap.size, 0, none⟩ : Option Addr) = A7 := ⟨_, rfl⟩
  rw [hA7] at HOV ⊢
  clear hA7
  go_loopw [6, 7] (fun s6 s7 wx => ∃ (i c' : Nat) (A' : Option Addr) (l : List Nat), s6 = .slice A' (i + 1) c' ∧ s7 = .int .i64 i ∧ i ≤ k ∧ OV W wx A' c' (i + 1) l) (fun _ s7 _ => k - (intOf s7).toNat)
  case atStart => exact ⟨0, 1, A7, [hd], rfl, rfl, Nat.zero_le _, HOV.out⟩
  case round =>
    rename World => wx
    obtain ⟨i, c', A', l, rfl, rfl, hik, hO⟩ := hrel
    have HO := Lib.hid hO
    clear hO HOV
    by_cases hlt : i < k
    · have t1 : (i : Int) < (k : Int) := by omega
      go_wp2_with fail
      refine (n_any W.heap.size 3 wx HO.out.1 (by omega) (by omega)).mono ?_
      rintro e w1 ⟨r1, rfl, hr1, hr1', hs1, hg1⟩
      have HO1 := Lib.hid (HO.out.grown hs1 hg1)
      clear HO hs1 hg1
      go_wp2_with fail
      refine (n_any W.heap.size 2 w1 HO1.out.1 (by omega) (by omega)).mono ?_
      rintro e w2 ⟨r2, rfl, hr2, hr2', hs2, hg2⟩
      have HO2 := Lib.hid (HO1.out.grown hs2 hg2)
      clear HO1 hs2 hg2
      go_wp2_with fail
      refine (n_any W.heap.size 2 w2 HO2.out.1 (by omega) (by omega)).mono ?_
      rintro e w3 ⟨r3, rfl, hr3, hr3', hs3, hg3⟩
      have HO3 := Lib.hid (HO2.out.grown hs3 hg3)
      clear HO2 hs3 hg3
      have e1 : IntKind.i64.wrap (4 * r3) = 4 * r3 := IntWalk.i64_in _ (by omega)
      have e2 : IntKind.i64.wrap ((i : Int) + 4 * r3) = (i : Int) + 4 * r3 := IntWalk.i64_in _ (by omega)
      go_upto_region 8 with (fail)
      obtain ⟨sl, hsl⟩ : ∃ sl : Sl, (⟨decide (0 < r1), r2 == 0, (i : Int) + 4 * r3, 0⟩ : Sl) = sl := ⟨_, rfl⟩
      have hba : Below w3.heap.size w3 (w3.alloc (.cells #[.bool (decide (0 < r1)), .bool (r2 == 0), .int .i64 ((i : Int) + 4 * r3), .int .i64 0] 31)) := (Below.refl _ w3).alloc (Nat.le_refl _) _
      have hcs := Cs.new w3 31 #[.bool (decide (0 < r1)), .bool (r2 == 0), .int .i64 ((i : Int) + 4 * r3), .int .i64 0]
      have hwd : ∀ w : World, Calls Tryz.prog 14 #[.agg #[.bool (decide (0 < r1)), .bool (r2 == 0), .int .i64 ((i : Int) + 4 * r3), .int .i64 0]] w (fun e w' => e = .returned (.int .u64 (sl.word : Int)) ∧ Below w.heap.size w w') := fun w => by
        rw [← hsl]
        exact rword_any _ w
      have HO4 := Lib.hid (HO3.out.keep hba)
      generalize (w3.alloc (.cells #[.bool (decide (0 < r1)), .bool (r2 == 0), .int .i64 ((i : Int) + 4 * r3), .int .i64 0] 31)) = w4 at *
      have y0 := hcs.cell 0
      have y1 := hcs.cell 1
      have y2 := hcs.cell 2
      have y3 := hcs.cell 3
      have HWD := Lib.hid (hwd w4)
      have hwl := word_lt sl
      have e5 : IntKind.i64.wrap ((i : Int) + 1) = ((i + 1 : Nat) : Int) := by rw [IntWalk.i64_in _ (by omega)]; rfl
      clear hba hcs hwd hsl HO3 e1 e2
      generalize sl.word = wd at *
      go_wp2_with (first
        | (at_builtin; refine wpList_append_reads _ (by rfl) _ _ _ (by rfl) (W.heap.size + 1) 26 i0 _ 1 8 Tryz.underlying29 hi0 hz0 hz1 hz2 (by rfl) (by omega) (.slice A' (i + 1) c') (i + 1) (uv l) (by rfl) (HO5.out.2.2.1.alloc _) (some ⟨w5.heap.size, 0, none⟩) 1 1 _ (by rfl) (by rfl) (Reads.new _ _ _) (by simp [Value.oneCell']) (by simp only [maxLen]; omega) (by omega) (by have := HO5.out.1.lt; simp; omega) ?_; intro v1 w6 hown6 hg6 hat6)
        | (go_at_call 14; (with_reducible refine HWD.out.mono ?_); rintro e w5 ⟨rfl, hb5⟩; have HO5 := Lib.hid (HO4.out.keep hb5)))
      have hbb := app_below HO5.out.2.2.1 hg6 (by have := HO5.out.1.lt; omega)
      obtain ⟨A6, c6, hv6⟩ := own_form hown6
      subst hv6
      have hO6 : OV W w6 A6 c6 (i + 1 + 1) (l ++ [wd]) := by
        refine ⟨HO5.out.1.below hbb (by omega), HO5.out.2.1.trans (hbb.mono (by omega)), by rw [uv_append]; exact hown6, by rw [List.length_append, HO5.out.2.2.2.1]; rfl, ?_⟩
        intro x hx
        rcases List.mem_append.1 hx with hx | hx
        · exact HO5.out.2.2.2.2 x hx
        · simp at hx
          omega
      have HO6 := Lib.hid hO6
      clear hO6 hbb hown6 hg6 hat6 HO4 HO5 HWD y0 y1 y2 y3 hb5
      go_roundw
      case rel => exact ⟨i + 1, c6, A6, _, rfl, by go_num, by omega, HO6.out⟩
      case measure => simp [intOf]; omega
    · have hik2 : i = k := by omega
      subst hik2
      go_wp2_with fail
      refine (n_any W.heap.size 6 wx HO.out.1 (by omega) (by omega)).mono ?_
      rintro e w1 ⟨r1, rfl, hr1, hr1', hs1, hg1⟩
      have HO1 := Lib.hid (HO.out.grown hs1 hg1)
      obtain ⟨N, hN⟩ : ∃ N, i + 1 = N := ⟨_, rfl⟩
      rw [hN] at HO1 ⊢
      have hNl : 2 ≤ N ∧ N ≤ 5 := by omega
      obtain ⟨b, cb, hAb, -, -⟩ := HO1.out.2.2.1.form (by omega)
      injection hAb with hAb _ _
      subst hAb
      clear HO hs1 hg1
      go_upto_if 50 with (fail)
      go_cut [] (fun wy => ∃ l2 : List Nat, OV W wy (some ⟨b, 0, none⟩) c' N l2)
      case first =>
        by_cases hr : r1 = 0
        · have t2 : (r1 == 0) = true := by simpa using hr
          clear hr
          go_wp2_with fail
          have HD := Lib.hid (HO1.out.keep (Below.refl _ w1).drew)
          go_region_with ((first
            | (go_at_call 13; have hh := n_any W.heap.size 64 w2 HX1.out.1 (by omega) (by omega); (with_reducible refine hh.mono ?_); clear hh; rintro e w3 ⟨i2, rfl, hi3, hi4, hs3, hg3⟩; have HX2 := Lib.hid (HX1.out.grown hs3 hg3); obtain ⟨a4, a5, a6⟩ := HX2.out.at_ j (by omega); obtain ⟨q, hqe⟩ : ∃ q : Nat, i2 = (q : Int) := ⟨i2.toNat, by omega⟩; subst hqe)
            | (go_at_call 13; have hh := n_any W.heap.size (N : Int) w1.drew HD.out.1 (by omega) (by omega); (with_reducible refine hh.mono ?_); clear hh; rintro e w2 ⟨i1, rfl, hi1, hi2, hs2, hg2⟩; obtain ⟨j, hje⟩ : ∃ j : Nat, i1 = (j : Int) := ⟨i1.toNat, by omega⟩; subst hje; have HX1 := Lib.hid (HD.out.grown hs2 hg2); obtain ⟨a1, a2, a3⟩ := HX1.out.at_ j (by omega))))
          all_goals
            obtain ⟨y, ey, hy⟩ := xor33_any (l[j]?.getD 0) (2 ^ q) (by
              rcases hlj : l[j]? with _ | x
              · rw [Option.getD_none]; omega
              · rw [Option.getD_some]; exact HX2.out.2.2.2.2 x (List.mem_of_getElem? hlj))
            rw [ey]
            have HX3 := Lib.hid (a6 y hy)
            clear a1 a2 a3 a4 a5 a6 hs2 hg2 hs3 hg3 HX1 HX2 ey
            go_wp2_with fail
            go_meet
            case rel => exact ⟨_, HX3.out⟩
        · have t2 : (r1 == 0) = false := by simpa using hr
          clear hr
          go_wp2_with fail
          go_meet
          case rel => exact ⟨_, HO1.out⟩
      case rest =>
        obtain ⟨l2, hO2⟩ := hcut
        have HO2 := Lib.hid hO2
        clear hO2 HO1
        obtain ⟨p, hp⟩ : ∃ p, ch * i = p := ⟨_, rfl⟩
        have hp1 : 1 ≤ p ∧ p ≤ 12 := by
          have h1 := Nat.mul_le_mul (show 1 ≤ ch by omega) (show 1 ≤ i by omega)
          have h2 := Nat.mul_le_mul (show ch ≤ 3 by omega) (show i ≤ 4 by omega)
          omega
        have em : IntKind.i64.wrap ((ch : Int) * (i : Int)) = (p : Int) := by rw [← Int.natCast_mul, hp, IntWalk.i64_in _ (by omega)]
        clear hp
        go_wp2_with fail
        refine (range_any W.heap.size 1 20 wc HO2.out.1 (by omega) (by omega) (by omega)).mono ?_
        rintro e w1 ⟨ni, rfl, hn1, hn20, hs1, hg1⟩
        obtain ⟨n, hnn⟩ : ∃ n : Nat, ni = (n : Int) := ⟨ni.toNat, by omega⟩
        subst hnn
        have HX1 := Lib.hid (HO2.out.grown hs1 hg1)
        clear HO2 hs1 hg1
        go_wp2_with fail
        refine (words2_any n 3 w1 (by omega)).mono ?_
        rintro e w2 ⟨v5, rfl, ho5, hb5⟩
        obtain ⟨A5, c5, hv5⟩ := own_form ho5
        subst hv5
        have HX2 := Lib.hid (HX1.out.keep hb5)
        have HA5 := Lib.hid ho5
        have hlt1 : W.heap.size < w1.heap.size := HX1.out.1.lt
        clear ho5 hb5 HX1
        go_wp2_with fail
        refine (n_any W.heap.size 3 w2 HX2.out.1 (by omega) (by omega)).mono ?_
        rintro e w3 ⟨y, rfl, hy0, hy3, hs3, hg3⟩
        have HX3 := Lib.hid (HX2.out.grown hs3 hg3)
        have f3 := Fr.of_grown hg3
        have HA53 := Lib.hid (own_fr HA5.out f3 (fun b hb e => by have := (HA5.out.lt b hb).1; omega))
        obtain ⟨z0, hz0'⟩ : ∃ z0 : Nat, (p : Int) + y - 1 = (z0 : Int) := ⟨((p : Int) + y - 1).toNat, by omega⟩
        have e1 : IntKind.i64.wrap ((p : Int) + y) = (p : Int) + y := IntWalk.i64_in _ (by omega)
        have e2 : IntKind.i64.wrap ((p : Int) + y - 1) = (z0 : Int) := (IntWalk.i64_in _ (by omega)).trans hz0'
        clear HX2 hs3 hg3 f3 HA5
        go_wp2_with fail
        case inl =>
          change Calls _ _ #[.int .i64 ((1 : Nat) : Int), .int .u64 90] _ _
          refine (words2_any 1 90 w3 (by omega)).mono ?_
          rintro e w4 ⟨v6, rfl, ho6, hb6⟩
          obtain ⟨A6, c6, hv6⟩ := own_form ho6
          subst hv6
          have HX4 := Lib.hid (HX3.out.keep hb6)
          have HA54 := Lib.hid (own_keepB HA53.out hb6)
          have HA6 := Lib.hid ho6
          have hlt3 : W.heap.size < w3.heap.size := HX3.out.1.lt
          clear ho6 hb6 HX3 HA53
          go_wp2_with fail
          refine (range_any W.heap.size 0 3 w4 HX4.out.1 (by omega) (by omega) (by omega)).mono ?_
          rintro e w5 ⟨mode, rfl, hm0', hm3', hs5, hg5⟩
          have HX5 := Lib.hid (HX4.out.grown hs5 hg5)
          have f5 := Fr.of_grown hg5
          have HA55 := Lib.hid (own_fr HA54.out f5 (fun b hb e => by have := (HA54.out.lt b hb).1; omega))
          have HA65 := Lib.hid (own_fr HA6.out f5 (fun b hb e => by have := (HA6.out.lt b hb).1; omega))
          clear HX4 hs5 hg5 f5 HA54 HA6
          have HST := Lib.hid (start33_any w5 A5 A6 (some ⟨b, 0, none⟩) n 1 N c5 c6 cb (wordsL 3 n) (wordsL 90 1) l2 (Reads.of_own HA55.out) (Reads.of_own HA65.out) (Reads.of_own HX5.out.2.2.1) (wordsL_length 3 n) (wordsL_length 90 1) HX5.out.2.2.2.1 (by omega) (by omega) (by omega) (wordsL_w 3 n) (wordsL_w 90 1) HX5.out.2.2.2.2 mode (by omega))
          go_upto_region 12 with (go_at_call 15; (with_reducible refine HST.out.mono ?_); rintro e w6 ⟨pb, rfl, hb6, hno, hok⟩)
          have HB6 := Lib.hid (HX5.out.2.1.trans (hb6.mono HX5.out.2.1.size))
          have HL2 : Hid (l2.length = N) := HX5.out.2.2.2.1
          clear HST HX5 HA55 HA65 hb6
          by_cases hE : opnE l2 n 1 mode = 0
          · obtain ⟨Fv, Fq, bL, cL, g, s0, s1, s2, m, v, r, bo, co, bf, cf, bm, cm, hp⟩ := hok hE
            have hsm := same_open (wordsL_length 3 n) (wordsL_length 90 1) HL2.out (by omega) (by omega) (by omega) hE hp
            have HSM := Lib.hid hsm
            have x2 := hp.cells.2.2.1
            clear hok hno hp hsm hE
            go_wp2_with (first
              | (go_at_call 17; (with_reducible refine HSM.out.mono ?_); rintro e w7 ⟨rfl, hb7⟩; have HAW := Lib.hid (awake33_any w7))
              | (go_at_call 18; (with_reducible refine HAW.out.mono ?_); rintro e w8 ⟨rfl, hb8⟩))
            go_ret
            have h7 := HB6.out.trans (hb7.mono HB6.out.size)
            exact ⟨rfl, h7.trans (hb8.mono h7.size)⟩
          · have x2 := hno hE
            have HAW := Lib.hid (awake33_any w6)
            clear hok hno hE
            go_wp2_with (go_at_call 18; (with_reducible refine HAW.out.mono ?_); rintro e w8 ⟨rfl, hb8⟩)
            go_ret
            exact ⟨rfl, HB6.out.trans (hb8.mono HB6.out.size)⟩
        case inr =>
          refine (words2_any z0 90 w3 (by omega)).mono ?_
          rintro e w4 ⟨v6, rfl, ho6, hb6⟩
          obtain ⟨A6, c6, hv6⟩ := own_form ho6
          subst hv6
          have HX4 := Lib.hid (HX3.out.keep hb6)
          have HA54 := Lib.hid (own_keepB HA53.out hb6)
          have HA6 := Lib.hid ho6
          have hlt3 : W.heap.size < w3.heap.size := HX3.out.1.lt
          clear ho6 hb6 HX3 HA53
          go_wp2_with fail
          refine (range_any W.heap.size 0 3 w4 HX4.out.1 (by omega) (by omega) (by omega)).mono ?_
          rintro e w5 ⟨mode, rfl, hm0', hm3', hs5, hg5⟩
          have HX5 := Lib.hid (HX4.out.grown hs5 hg5)
          have f5 := Fr.of_grown hg5
          have HA55 := Lib.hid (own_fr HA54.out f5 (fun b hb e => by have := (HA54.out.lt b hb).1; omega))
          have HA65 := Lib.hid (own_fr HA6.out f5 (fun b hb e => by have := (HA6.out.lt b hb).1; omega))
          clear HX4 hs5 hg5 f5 HA54 HA6
          have HST := Lib.hid (start33_any w5 A5 A6 (some ⟨b, 0, none⟩) n z0 N c5 c6 cb (wordsL 3 n) (wordsL 90 z0) l2 (Reads.of_own HA55.out) (Reads.of_own HA65.out) (Reads.of_own HX5.out.2.2.1) (wordsL_length 3 n) (wordsL_length 90 z0) HX5.out.2.2.2.1 (by omega) (by omega) (by omega) (wordsL_w 3 n) (wordsL_w 90 z0) HX5.out.2.2.2.2 mode (by omega))
          go_upto_region 12 with (go_at_call 15; (with_reducible refine HST.out.mono ?_); rintro e w6 ⟨pb, rfl, hb6, hno, hok⟩)
          have HB6 := Lib.hid (HX5.out.2.1.trans (hb6.mono HX5.out.2.1.size))
          have HL2 : Hid (l2.length = N) := HX5.out.2.2.2.1
          clear HST HX5 HA55 HA65 hb6
          by_cases hE : opnE l2 n z0 mode = 0
          · obtain ⟨Fv, Fq, bL, cL, g, s0, s1, s2, m, v, r, bo, co, bf, cf, bm, cm, hp⟩ := hok hE
            have hsm := same_open (wordsL_length 3 n) (wordsL_length 90 z0) HL2.out (by omega) (by omega) (by omega) hE hp
            have HSM := Lib.hid hsm
            have x2 := hp.cells.2.2.1
            clear hok hno hp hsm hE
            go_wp2_with (first
              | (go_at_call 17; (with_reducible refine HSM.out.mono ?_); rintro e w7 ⟨rfl, hb7⟩; have HAW := Lib.hid (awake33_any w7))
              | (go_at_call 18; (with_reducible refine HAW.out.mono ?_); rintro e w8 ⟨rfl, hb8⟩))
            go_ret
            have h7 := HB6.out.trans (hb7.mono HB6.out.size)
            exact ⟨rfl, h7.trans (hb8.mono h7.size)⟩
          · have x2 := hno hE
            have HAW := Lib.hid (awake33_any w6)
            clear hok hno hE
            go_wp2_with (go_at_call 18; (with_reducible refine HAW.out.mono ?_); rintro e w8 ⟨rfl, hb8⟩)
            go_ret
            exact ⟨rfl, HB6.out.trans (hb8.mono HB6.out.size)⟩

end Go.Proofs.YtogchafnnkajfaaGreat
