/-
  The law TreenodeHalves.
-/
import Derived.Test.YtjnkajdfdhockaaLawReads25
namespace Go.Proofs.Ytjnkajdfdhockaa
set_option linter.unusedVariables false
open Go.RowKit

theorem findTo_spec (l : List (Int × Nat)) (key : Int) (k : Nat) :
    (∀ j : Nat, findTo l key k < j → j < k → key < (l[j]?.getD (0, 0)).1) ∧ (0 ≤ findTo l key k → (l[(findTo l key k).toNat]?.getD (0, 0)).1 ≤ key) := by
  induction k with
  | zero => exact ⟨fun j _ h => absurd h (by omega), fun h => absurd h (by simp [findTo])⟩
  | succ k ih =>
    by_cases hk : (l[k]?.getD (0, 0)).1 ≤ key
    · have e : findTo l key (k + 1) = (k : Int) := by rw [findTo, if_pos hk]
      rw [e]
      refine ⟨fun j h1 h2 => absurd h2 (by omega), fun _ => ?_⟩
      rw [Int.toNat_natCast]
      exact hk
    · have e : findTo l key (k + 1) = findTo l key k := by rw [findTo, if_neg hk]
      rw [e]
      refine ⟨fun j h1 h2 => ?_, ih.2⟩
      by_cases hj : j = k
      · subst hj; omega
      · exact ih.1 j h1 (by omega)

theorem findTo_of (l : List (Int × Nat)) (key : Int) (p : Nat) (hp : (l[p]?.getD (0, 0)).1 ≤ key) : ∀ k : Nat, p < k → (∀ j : Nat, p < j → j < k → key < (l[j]?.getD (0, 0)).1) → findTo l key k = (p : Int) := by
  intro k
  induction k with
  | zero => intro h; omega
  | succ k ih =>
    intro h1 h2
    by_cases hk : p = k
    · subst hk
      rw [findTo, if_pos hp]
    · have := h2 k (by omega) (by omega)
      rw [findTo, if_neg (by omega)]
      exact ih (by omega) (fun j a b => h2 j a (by omega))

theorem ins_at (l : List (Int × Nat)) (p : Nat) (x : Int × Nat) (hp : p ≤ l.length) (j : Nat) :
    (insN l p x)[j]?.getD (0, 0) = if j < p then l[j]?.getD (0, 0) else if j = p then x else l[j - 1]?.getD (0, 0) := by
  unfold insN
  by_cases h1 : j < p
  · rw [if_pos h1, List.getElem?_append_left (by simp; omega), List.getElem?_take, if_pos h1]
  · rw [if_neg h1, List.getElem?_append_right (by simp; omega), List.length_take, Nat.min_eq_left hp]
    by_cases h2 : j = p
    · subst h2; simp
    · rw [if_neg h2]
      obtain ⟨d, rfl⟩ : ∃ d, j = p + d + 1 := ⟨j - p - 1, by omega⟩
      rw [show p + d + 1 - p = d + 1 by omega, List.getElem?_cons_succ, List.getElem?_drop, show p + d + 1 - 1 = p + d by omega]

/-- Where a new entry has been put it is found, and without it the entries are as they were. -/
theorem put_back (l : List (Int × Nat)) (key : Int) (value : Nat) (hx : exactN l key = false) :
    ∃ p : Nat, p ≤ l.length ∧ putN l key value = insN l p (key, value) ∧ (insN l p (key, value)).length = l.length + 1 ∧ findN (insN l p (key, value)) key = (p : Int) ∧ exactN (insN l p (key, value)) key = true ∧
      remE (insN l p (key, value)) (p : Int) = 0 ∧ delN (insN l p (key, value)) p = l := by
  have hb := findTo_bd l key l.length
  have hs := (findTo_spec l key l.length).1
  obtain ⟨p, hp⟩ : ∃ p : Nat, findN l key + 1 = (p : Int) := ⟨(findN l key + 1).toNat, by unfold findN; omega⟩
  have hpl : p ≤ l.length := by unfold findN at hp; omega
  have hlen := insN_length l p (key, value) hpl
  have hf : findN (insN l p (key, value)) key = (p : Int) := by
    unfold findN
    refine findTo_of _ key p ?_ _ (by omega) ?_
    · rw [ins_at l p _ hpl, if_neg (by omega), if_pos rfl]; exact Int.le_refl _
    · intro j h1 h2
      rw [ins_at l p _ hpl, if_neg (by omega), if_neg (by omega)]
      exact hs (j - 1) (by unfold findN at hp; omega) (by omega)
  refine ⟨p, hpl, ?_, hlen, hf, ?_, ?_, ?_⟩
  · unfold putN
    rw [hx, if_neg (by decide), hp, Int.toNat_natCast]
  · unfold exactN
    rw [hf, Int.toNat_natCast, ins_at l p _ hpl, if_neg (by omega), if_pos rfl]
    exact decide_eq_true ⟨by omega, rfl⟩
  · unfold remE
    rw [if_neg (by omega)]
  · unfold delN insN
    have e1 : (l.take p ++ (key, value) :: l.drop p).take p = l.take p := by
      rw [List.take_append_of_le_length (by simp; omega), List.take_take, Nat.min_self]
    have e2 : (l.take p ++ (key, value) :: l.drop p).drop (p + 1) = l.drop p := by
      rw [List.drop_append, List.drop_of_length_le (by simp; omega), List.length_take, Nat.min_eq_left hpl, show p + 1 - p = 1 by omega]
      rfl
    rw [e1, e2, List.take_append_drop]

section
variable {P : Program} (w : World)
/-- As 'step_append_reads', at an operation that is guarded and wanted. -/
theorem step_append_wanted {ops : Array Oper} {o : Oper} {a : Act} {K : Act → World → Prop} {Q : Exit → Act → World → Prop} {E : Prop} (hw : Region.wanted o (yielded ops a.tmps) = true) (s x : Operand) (t : TypeId)
    (ho : o.op = .call { callee := .builtin .append, args := #[s, x], argTypes := #[t, t] })
    (base : Nat) (e : TypeId) (i : TypeInfo) (z : Value) (size bytes : Nat) (ht : P.underlying t = some (.slice e)) (hi : P.info? e = some i) (hz : i.zero = some z)
    (hsize : i.size = size) (hby : i.bytes = bytes) (hzs : z.cells.size = size) (hsz : 0 < size)
    (v : Value) (n : Nat) (xs : List Value) (hs : a.eval s = v) (hown : w.ownsRow base e size v n xs)
    (A : Option Addr) (m c : Nat) (news : List Value) (hx : a.eval x = .slice A m c) (hm : news.length = m * size) (hr : Reads w A news) (h1 : ∀ u ∈ news, u.oneCell' = true)
    (h63 : n + m ≤ maxLen) (hbytes : (n + m) * bytes ≤ 140737488355328) (hbase : base ≤ w.heap.size)
    (h : ∀ v' w', w'.ownsRow base e size v' (n + m) (xs ++ news) → w.grownBy w' v.ownBlock → (v'.ownBlock = v.ownBlock ∨ v'.ownBlock = some w.heap.size) → K (a.put o.dst v') w') :
    if Region.wanted o (yielded ops a.tmps) = true then Oper.wp P o a w K Q else E := by
  rw [if_pos hw]
  exact wp_append_reads w s x t ho base e i z size bytes ht hi hz hsize hby hzs hsz v n xs hs hown A m c news hx hm hr h1 h63 hbytes hbase h
end

set_option maxRecDepth 100000 in
set_option maxHeartbeats 2000000 in
theorem halves25_any (L : Option Addr) (f k : Nat) (ls : List Int) (key : Int) (value : Nat) (w : World) (hk : ls.length = k) (hL : Reads w L (iv ls)) (hl : I64 ls) (hkf : k ≤ f) :
    Calls Try.prog 8 #[.slice L k f, .int .i64 key, .int .u64 (value : Int)] w fun e w' => e = .returned (.bool true) ∧ Below w.heap.size w w' := by
  have HK := Lib.hid hk
  clear hk
  go_enter Try.func8, Try.ntmps8
  go_wp2_with fail
  refine (new_any L k f ls w HK.out hL hl hkf).mono ?_
  rintro e W1 ⟨rfl, hS, hb1, hsz1⟩
  have hg1 : w.heap.size < W1.heap.size := hS.lt
  have HS1 := Lib.hid hS
  clear hsz1 hS
  go_wp2_with fail
  refine (node_any w.heap.size W1 HS1.out).mono ?_
  rintro e W2 ⟨lv, sq, v, l, rfl, hown, hE, hl9, hnil, hS2, hg2, hv1, hv2, hv3, hv4⟩
  obtain ⟨A, c, rfl⟩ := own_form hown
  have hbw2 := gb_Below hb1 hg2 hb1.size (Nat.le_refl _)
  have HO := Lib.hid (hown.alloc (.cells #[.int .i64 lv, .int .i64 sq, .slice A l.length c] 27))
  have HE := Lib.hid hE
  have HNIL : Hid (l.length = 0 → A = none ∧ c = 0) := fun h => by have := hnil h; injection this with a _ b; exact ⟨a, b⟩
  have hS3 := hS2.alloc (.cells #[.int .i64 lv, .int .i64 sq, .slice A l.length c] 27)
  have hB := hbw2.alloc hbw2.size (.cells #[.int .i64 lv, .int .i64 sq, .slice A l.length c] 27)
  have EN := Lib.hid ((Env.start hB).cons (Cs.new W2 27 #[.int .i64 lv, .int .i64 sq, .slice A l.length c]))
  have HS := Lib.hid hS3
  have hlt2 : W1.heap.size ≤ W2.heap.size := hg2.size
  have hcap := own_cap hown
  clear hown hE hS2 hnil hbw2 hg2 HS1 hS3 hB
  generalize hN : l.length = N at *
  have HN := Lib.hid hN
  clear hN
  go_wp2_with fail
  generalize hq : W2.heap.size = bn at *
  generalize (W2.alloc _) = W3 at HO EN HS ⊢
  clear hq
  refine (refValid_any lv sq A c N l W3 HN.out (Reads.of_own HO.out) HE.out (by omega)).mono ?_
  rintro e W4 ⟨rfl, hb4⟩
  have HO4 := Lib.hid (own_keepB HO.out hb4)
  have HS4 := Lib.hid (HS.out.keep hb4)
  have EN4 := Lib.hid (EN.out.keep hb4)
  clear HO HS EN hb4
  by_cases hv : validN lv sq l = 0
  · have hval := (valid_iff lv sq l).1 hv
    have h7 : N ≤ 7 := by have := hval.2.2.2.2.1; rw [HN.out] at this; exact this
    rw [hv]
    clear hval hv
    obtain ⟨x0, x1, x2⟩ := cell3 (EN4.out.2.1 (bn, 27, #[.int .i64 lv, .int .i64 sq, .slice A N c]) (by simp))
    go_wp2_with fail
    clear x0 x1 x2
    refine (splitN_any lv sq A c N l W4 HN.out (Reads.of_own HO4.out) hcap HNIL.out).mono ?_
    rintro e W5 ⟨va, vb, rfl, howna, hownb, hb5⟩
    have hspl : splE l = 0 := by unfold splE; rw [if_neg (by rw [HN.out]; omega)]
    have hspa : spA l = l.take (N / 2) := by unfold spA; rw [if_neg (by rw [HN.out]; omega), HN.out]
    have hspb : spB l = l.drop (N / 2) := by unfold spB; rw [if_neg (by rw [HN.out]; omega), HN.out]
    have hsv : ∀ x, spV l x = x := by intro x; unfold spV; rw [if_neg (by rw [HN.out]; omega)]
    obtain ⟨H, hH⟩ : ∃ H, N / 2 = H := ⟨_, rfl⟩
    rw [hspa, List.length_take, HN.out, hH, Nat.min_eq_left (by omega)] at howna
    rw [hspb, List.length_drop, HN.out, hH] at hownb
    rw [hspl, hsv, hsv]
    have HH := Lib.hid hH
    have h2 : H + H ≤ N := by omega
    have q1 : ((H : Int) != (N : Int) / 2) = false := by rw [bne_eq_false_iff_eq]; omega
    have q2 : (N : Int).tdiv 2 = (H : Int) := by rw [Int.tdiv_eq_ediv_of_nonneg (by omega)]; omega
    have q3 : IntKind.i64.wrap (H : Int) = (H : Int) := IntWalk.i64_in _ (by omega)
    have q4 : ((H : Int) != (H : Int)) = false := by simp
    clear hspl hspa hspb hsv hH
    obtain ⟨Aa, ca, rfl⟩ := own_form howna
    obtain ⟨Ab, cb, rfl⟩ := own_form hownb
    have HO5 := Lib.hid (((own_keepB HO4.out hb5).alloc (.cells #[.int .i64 lv, .int .i64 sq, .slice Aa H ca] 27)).alloc (.cells #[.int .i64 lv, .int .i64 sq, .slice Ab (N - H) cb] 27))
    have HS5 := Lib.hid (((HS4.out.keep hb5).alloc (.cells #[.int .i64 lv, .int .i64 sq, .slice Aa H ca] 27)).alloc (.cells #[.int .i64 lv, .int .i64 sq, .slice Ab (N - H) cb] 27))
    have EN5 := Lib.hid (((((EN4.out.keep hb5).row (Reads.of_own howna)).row (Reads.of_own hownb)).new 27 #[.int .i64 lv, .int .i64 sq, .slice Aa H ca]).new 27 #[.int .i64 lv, .int .i64 sq, .slice Ab (N - H) cb])
    have hwb : W2.heap.size = W2.heap.size := rfl
    clear EN4 HO4 HS4 hb5 howna hownb hwb
    go_wp2_with fail
    have hK : N - H + H = N := by omega
    generalize hq : W5.heap.size = ba at *
    generalize hJ : N - H = J at *
    generalize hV : ((W5.alloc _).alloc _) = V0 at HO5 HS5 EN5 ⊢
    rw [World.size_alloc, hq] at EN5
    clear hq hV
    have HJ := Lib.hid hJ
    clear hJ
    have RA := Lib.hid (EN5.out.2.2 (Aa, ev (l.take H)) (by simp))
    have RB := Lib.hid (EN5.out.2.2 (Ab, ev (l.drop H)) (by simp))
    have lA : Hid ((l.take H).length = H) := by show _ = _; rw [List.length_take, HN.out]; omega
    have lB : Hid ((l.drop H).length = J) := by show _ = _; rw [List.length_drop, HN.out, HJ.out]
    have lS : Hid (ev (l.take H) ++ ev (l.drop H) = ev l) := by show _ = _; rw [← ev_append, List.take_append_drop]
    obtain ⟨x0, x1, x2⟩ := cell3 (EN5.out.2.1 (bn, 27, #[.int .i64 lv, .int .i64 sq, .slice A N c]) (by simp))
    obtain ⟨a0, a1, a2⟩ := cell3 (EN5.out.2.1 (ba, 27, #[.int .i64 lv, .int .i64 sq, .slice Aa H ca]) (by simp))
    obtain ⟨b0, b1, b2⟩ := cell3 (EN5.out.2.1 (ba + 1, 27, #[.int .i64 lv, .int .i64 sq, .slice Ab J cb]) (by simp))
    have hbn : bn < V0.heap.size := (EN5.out.2.1 (bn, 27, #[.int .i64 lv, .int .i64 sq, .slice A N c]) (by simp)).lt
    have hba : ba + 1 < V0.heap.size := (EN5.out.2.1 (ba + 1, 27, #[.int .i64 lv, .int .i64 sq, .slice Ab J cb]) (by simp)).lt
    clear x0 x1 a0 a1 b0 b1
    have y0 : V0.cell? ⟨bn, 2, none⟩ = some (.slice A N c) ∧ V0.cell? ⟨ba, 2, none⟩ = some (.slice Aa H ca) ∧ V0.cell? ⟨ba + 1, 2, none⟩ = some (.slice Ab J cb) := ⟨x2, a2, b2⟩
    clear x2 a2 b2
    have RO := Lib.hid (Reads.of_own HO5.out)
    obtain ⟨i0, hi0, hz0, hz1, hz2⟩ := info_parts entry_info
    go_region_held3 (fun w' => w'.cell? ⟨bn, 2, none⟩ = some (.slice A N c) ∧ w'.cell? ⟨ba, 2, none⟩ = some (.slice Aa H ca) ∧ w'.cell? ⟨ba + 1, 2, none⟩ = some (.slice Ab J cb))
      (first | exact y0 | exact y1 | exact y2 | exact y3)
      (first
        | (refine step_append_wanted _ (by rfl) (.const (.slice none 0 0)) (.tmp 47) _ (by rfl) V0.heap.size 52 i0 _ 2 16 Try.underlying25 hi0 hz0 hz1 hz2 rfl (by omega) (.slice none 0 0) 0 [] (by rfl) (World.ownsRow_nil _ _ _ _) Aa H ca (ev (l.take H)) (by rfl) (by rw [ev_length, lA.out]) (RA.out.drewN 1) (ev_one _) (by simp only [maxLen]; omega) (by omega) (Nat.le_refl _) ?_; intro v1 w1 hown1 hg1 hat1; have hB1 := ((Below.refl V0.heap.size V0).drew).grown hg1 (Nat.le_refl _) (by intro k hk; simp [Value.ownBlock] at hk); have y1 : w1.cell? ⟨bn, 2, none⟩ = some (.slice A N c) ∧ w1.cell? ⟨ba, 2, none⟩ = some (.slice Aa H ca) ∧ w1.cell? ⟨ba + 1, 2, none⟩ = some (.slice Ab J cb) := ⟨(hB1.cell (p := ⟨bn, 2, none⟩) hbn).trans y0.1, (hB1.cell (p := ⟨ba, 2, none⟩) (show ba < _ by omega)).trans y0.2.1, (hB1.cell (p := ⟨ba + 1, 2, none⟩) hba).trans y0.2.2⟩)
        | (refine step_append_wanted _ (by rfl) (.tmp 48) (.tmp 50) _ (by rfl) V0.heap.size 52 i0 _ 2 16 Try.underlying25 hi0 hz0 hz1 hz2 rfl (by omega) v1 (0 + H) ([] ++ ev (l.take H)) (by rfl) hown1 Ab J cb (ev (l.drop H)) (by rfl) (by rw [ev_length, lB.out]) (RB.out.keep hB1) (ev_one _) (by simp only [maxLen]; omega) (by omega) hB1.size ?_; intro v2 w2 hown2 hg2 hat2; have hB2 := hB1.grown hg2 hB1.size (own_base hown1); have y2 : w2.cell? ⟨bn, 2, none⟩ = some (.slice A N c) ∧ w2.cell? ⟨ba, 2, none⟩ = some (.slice Aa H ca) ∧ w2.cell? ⟨ba + 1, 2, none⟩ = some (.slice Ab J cb) := ⟨(hB2.cell (p := ⟨bn, 2, none⟩) hbn).trans y0.1, (hB2.cell (p := ⟨ba, 2, none⟩) (show ba < _ by omega)).trans y0.2.1, (hB2.cell (p := ⟨ba + 1, 2, none⟩) hba).trans y0.2.2⟩; rw [List.nil_append, lS.out, Nat.zero_add, show H + J = N by omega] at hown2; obtain ⟨A2, c2, rfl⟩ := own_form hown2)
        | (go_at_call 40; refine (sameE_any A2 A c2 c N N l l w2 HN.out HN.out (Reads.of_own hown2) (RO.out.keep hB2) (by omega) (by omega)).mono ?_; rintro e w3 ⟨rfl, n3, rfl⟩; rw [decide_eq_true (rfl : l = l)]; have hB3 := below_drewN hB2 n3; have y3 := y2))
    have HS6 := Lib.hid (HS5.out.keep hB3)
    have HO6 := Lib.hid (own_keepB HO5.out hB3)
    have EN6 := Lib.hid (Env.keep (rs := []) (cs := [(bn, 27, #[.int .i64 lv, .int .i64 sq, .slice A N c])]) ⟨EN5.out.1, fun x hx => EN5.out.2.1 x (by rw [List.mem_singleton] at hx; rw [hx]; simp), fun r hr => absurd hr (by simp)⟩ hB3)
    have hw0 : w.heap.size + 1 ≤ (w2.drewN n3).heap.size := HS6.out.lt
    have hbn1 : w.heap.size < bn := by omega
    clear hown1 hg1 hat1 hB1 y1 hown2 hg2 hat2 hB2 y2 y3 y0 RA RB lA lB lS RO HO5 HS5 EN5 hB3 q2 q3 q4 q1
    go_wp2_with fail
    generalize (w2.drewN n3) = V1 at *
    refine (n_any w.heap.size 16777216 V1 HS6.out (by omega) (by omega)).mono ?_
    rintro e V2 ⟨kk, rfl, hk1, hk2, s2, g2⟩
    have HO7 := Lib.hid (own_keep HO6.out g2 (by omega))
    have EN7 := Lib.hid (EN6.out.grown g2 (Nat.le_refl _) (by intro x hx; rw [List.mem_singleton] at hx; rw [hx]; exact Nat.ne_of_gt hbn1) (by intro r hr; cases hr))
    clear HS6 HO6 EN6 s2 g2
    have EN7 := Lib.hid (EN7.out.row (Reads.of_own HO7.out))
    obtain ⟨x0, x1, x2⟩ := cell3 (EN7.out.2.1 (bn, 27, #[.int .i64 lv, .int .i64 sq, .slice A N c]) (by simp))
    go_wp2_with fail
    clear x0 x1 x2 HO7
    refine (refFind_any lv sq kk A c N l V2 HN.out (EN7.out.2.2 (A, ev l) (by simp)) (by omega)).mono ?_
    rintro e V3 ⟨rfl, hb3⟩
    have EN8 := Lib.hid (EN7.out.keep hb3)
    clear EN7 hb3
    by_cases hx : exactN l kk = true
    · rw [hx]
      go_wp2_with fail
      refine (awake_any V3).mono ?_
      rintro e V4 ⟨rfl, hb4⟩
      have EN9 := Lib.hid (EN8.out.keep hb4)
      clear EN8 hb4
      go_wp2_with fail
      go_ret
      exact ⟨rfl, EN9.out.1⟩
    · have hx : exactN l kk = false := by simpa using hx
      have hpE : putE l kk = 0 := by
        unfold putE
        rw [if_neg (by rw [HN.out]; omega), if_neg (by omega)]
      obtain ⟨p, hp1, hp2, hp3, hp4, hp5, hp6, hp7⟩ := put_back l kk value hx
      rw [hx]
      rw [HN.out] at hp1 hp3
      have HP2 := Lib.hid hp2
      have HP3 := Lib.hid hp3
      have HP4 := Lib.hid hp4
      have HP5 := Lib.hid hp5
      have HP6 := Lib.hid hp6
      have HP7 := Lib.hid hp7
      have HPE := Lib.hid hpE
      clear hp2 hp3 hp4 hp5 hp6 hp7 hpE hx
      generalize hfk : findN l kk = fk
      clear hfk
      obtain ⟨x0, x1, x2⟩ := cell3 (EN8.out.2.1 (bn, 27, #[.int .i64 lv, .int .i64 sq, .slice A N c]) (by simp))
      go_wp2_with fail
      clear x0 x1 x2
      refine (put_ok lv sq kk value A c N l V3 HN.out (EN8.out.2.2 (A, ev l) (by simp)) HPE.out).mono ?_
      rintro e V4 ⟨v4, rfl, ho4, hb4⟩
      rw [HP2.out, HP3.out] at ho4
      generalize insN l p (kk, value) = l2 at *
      obtain ⟨A4, c4, rfl⟩ := own_form ho4
      have EN9 := Lib.hid (((EN8.out.keep hb4).row (Reads.of_own ho4)).new 27 #[.int .i64 lv, .int .i64 sq, .slice A4 (N + 1) c4])
      clear EN8 ho4 hb4
      obtain ⟨x0, x1, x2⟩ := cell3 (EN9.out.2.1 (V4.heap.size, 27, #[.int .i64 lv, .int .i64 sq, .slice A4 (N + 1) c4]) (by simp))
      go_wp2_with fail
      generalize hq : V4.heap.size = bp at *
      generalize (V4.alloc _) = V5 at EN9 x0 x1 x2 ⊢
      clear hq x0 x1 x2
      refine (find_any lv sq kk A4 c4 (N + 1) l2 V5 HP3.out (EN9.out.2.2 (A4, ev l2) (by simp)) (by omega)).mono ?_
      rintro e V6 ⟨rfl, hb6⟩
      rw [HP4.out, HP5.out]
      have EN10 := Lib.hid (EN9.out.keep hb6)
      clear EN9 hb6
      obtain ⟨x0, x1, x2⟩ := cell3 (EN10.out.2.1 (bp, 27, #[.int .i64 lv, .int .i64 sq, .slice A4 (N + 1) c4]) (by simp))
      go_wp2_with fail
      clear x0 x1 x2
      refine (remove_ok lv sq (p : Int) A4 c4 (N + 1) l2 V6 HP3.out (EN10.out.2.2 (A4, ev l2) (by simp)) (by omega) HP6.out).mono ?_
      rintro e V7 ⟨v7, rfl, ho7, hb7⟩
      rw [Int.toNat_natCast, HP7.out, HN.out] at ho7
      obtain ⟨A7, c7, rfl⟩ := own_form ho7
      have EN11 := Lib.hid (((EN10.out.keep hb7).row (Reads.of_own ho7)).new 27 #[.int .i64 lv, .int .i64 sq, .slice A7 N c7])
      clear EN10 ho7 hb7
      obtain ⟨x0, x1, x2⟩ := cell3 (EN11.out.2.1 (V7.heap.size, 27, #[.int .i64 lv, .int .i64 sq, .slice A7 N c7]) (by simp))
      obtain ⟨y0, y1, y2⟩ := cell3 (EN11.out.2.1 (bn, 27, #[.int .i64 lv, .int .i64 sq, .slice A N c]) (by simp))
      by_cases hkz : key < 0
      · go_wp2_with fail
        generalize hq : V7.heap.size = br at *
        generalize (V7.alloc _) = V8 at EN11 x0 x1 x2 y0 y1 y2 ⊢
        clear hq x0 x1 x2 y0 y1 y2
        refine (sameN_any lv sq lv sq A7 A c7 c N N l l V8 HN.out HN.out (EN11.out.2.2 (A7, ev l) (by simp)) (EN11.out.2.2 (A, ev l) (by simp)) (by omega) (by omega)).mono ?_
        rintro e V9 ⟨rfl, hb9⟩
        rw [decide_eq_true (show lv = lv ∧ sq = sq ∧ l = l from ⟨rfl, rfl, rfl⟩)]
        have EN12 := Lib.hid (EN11.out.keep hb9)
        clear EN11 hb9
        go_wp2_with fail
        refine (awake_any V9).mono ?_
        rintro e V10 ⟨rfl, hb10⟩
        have EN13 := Lib.hid (EN12.out.keep hb10)
        clear EN12 hb10
        go_wp2_with fail
        go_ret
        exact ⟨rfl, EN13.out.1⟩
      · have hkz' : (0 : Int) ≤ key := by omega
        go_wp2_with fail
        generalize hq : V7.heap.size = br at *
        generalize (V7.alloc _) = V8 at EN11 x0 x1 x2 y0 y1 y2 ⊢
        clear hq x0 x1 x2 y0 y1 y2
        refine (sameN_any lv sq lv sq A7 A c7 c N N l l V8 HN.out HN.out (EN11.out.2.2 (A7, ev l) (by simp)) (EN11.out.2.2 (A, ev l) (by simp)) (by omega) (by omega)).mono ?_
        rintro e V9 ⟨rfl, hb9⟩
        rw [decide_eq_true (show lv = lv ∧ sq = sq ∧ l = l from ⟨rfl, rfl, rfl⟩)]
        have EN12 := Lib.hid (EN11.out.keep hb9)
        clear EN11 hb9
        go_wp2_with fail
        refine (awake_any V9).mono ?_
        rintro e V10 ⟨rfl, hb10⟩
        have EN13 := Lib.hid (EN12.out.keep hb10)
        clear EN12 hb10
        go_wp2_with fail
        go_ret
        exact ⟨rfl, EN13.out.1⟩
  · have hz : (validN lv sq l != 0) = true := by simpa using hv
    generalize validN lv sq l = vv at *
    clear hv
    go_wp2_with fail
    refine (awake_any W4).mono ?_
    rintro e V4 ⟨rfl, hb4⟩
    have EN9 := Lib.hid (EN4.out.keep hb4)
    clear EN4 hb4
    go_wp2_with fail
    go_ret
    exact ⟨rfl, EN9.out.1⟩

end Go.Proofs.Ytjnkajdfdhockaa
