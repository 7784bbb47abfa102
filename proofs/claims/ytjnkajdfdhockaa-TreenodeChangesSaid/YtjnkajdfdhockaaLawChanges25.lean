/-
  The law TreenodeChanges.
-/
import Derived.Test.YtjnkajdfdhockaaLawReads25
import Derived.Test.YtjnkajdfdhockaaNodeV2
namespace Go.Proofs.Ytjnkajdfdhockaa
set_option linter.unusedVariables false
open Go.RowKit

def ifz (e x : Int) : Int := if e = 0 then x else 0
def ifzL (e : Int) (l : List (Int × Nat)) : List (Int × Nat) := if e = 0 then l else []

theorem remE_01 (l : List (Int × Nat)) (i : Int) : remE l i = 0 ∨ remE l i = 1 := by
  unfold remE; split <;> simp

theorem put_any (lv sq key : Int) (value : Nat) (A : Option Addr) (c n : Nat) (l : List (Int × Nat)) (w : World) (hn : l.length = n) (hA : Reads w A (ev l)) :
    Calls Try.prog 33 #[.agg #[.int .i64 lv, .int .i64 sq, .slice A n c], .int .i64 key, .int .u64 (value : Int)] w fun e w' => ∃ v, e = .returned (.tuple #[.agg #[.int .i64 (ifz (putE l key) lv), .int .i64 (ifz (putE l key) sq), v], .int .i64 (putE l key)]) ∧
      w'.ownsRow w.heap.size 52 2 v (ifzL (putE l key) (putN l key value)).length (ev (ifzL (putE l key) (putN l key value))) ∧ Below w.heap.size w w' := by
  unfold ifz ifzL
  by_cases h : putE l key = 0
  · rw [if_pos h, if_pos h, if_pos h, h]
    exact put_ok lv sq key value A c n l w hn hA h
  · rw [if_neg h, if_neg h, if_neg h]
    refine (put_no lv sq key value A c n l w hn h).mono ?_
    rintro e w' ⟨rfl, hb⟩
    exact ⟨_, rfl, World.ownsRow_nil _ _ _ _, hb⟩
theorem refPut_any (lv sq key : Int) (value : Nat) (A : Option Addr) (c n : Nat) (l : List (Int × Nat)) (w : World) (hn : l.length = n) (hA : Reads w A (ev l)) (hc : n ≤ c) :
    Calls Try.prog 34 #[.agg #[.int .i64 lv, .int .i64 sq, .slice A n c], .int .i64 key, .int .u64 (value : Int)] w fun e w' => ∃ v, e = .returned (.tuple #[.agg #[.int .i64 (ifz (putE l key) lv), .int .i64 (ifz (putE l key) sq), v], .int .i64 (putE l key)]) ∧
      w'.ownsRow w.heap.size 52 2 v (ifzL (putE l key) (putN l key value)).length (ev (ifzL (putE l key) (putN l key value))) ∧ Below w.heap.size w w' := by
  unfold ifz ifzL
  by_cases h : putE l key = 0
  · rw [if_pos h, if_pos h, if_pos h, h]
    exact refPut_ok lv sq key value A c n l w hn hA hc h
  · rw [if_neg h, if_neg h, if_neg h]
    refine (refPut_no lv sq key value A c n l w hn h).mono ?_
    rintro e w' ⟨rfl, hb⟩
    exact ⟨_, rfl, World.ownsRow_nil _ _ _ _, hb⟩
theorem remove_any (lv sq i : Int) (A : Option Addr) (c n : Nat) (l : List (Int × Nat)) (w : World) (hn : l.length = n) (hA : Reads w A (ev l)) (hlen : n ≤ 1000) :
    Calls Try.prog 35 #[.agg #[.int .i64 lv, .int .i64 sq, .slice A n c], .int .i64 i] w fun e w' => ∃ v, e = .returned (.tuple #[.agg #[.int .i64 (ifz (remE l i) lv), .int .i64 (ifz (remE l i) sq), v], .int .i64 (remE l i)]) ∧
      w'.ownsRow w.heap.size 52 2 v (ifzL (remE l i) (delN l i.toNat)).length (ev (ifzL (remE l i) (delN l i.toNat))) ∧ Below w.heap.size w w' := by
  unfold ifz ifzL
  by_cases h : remE l i = 0
  · rw [if_pos h, if_pos h, if_pos h, h]
    exact remove_ok lv sq i A c n l w hn hA (by omega) h
  · have h1 : remE l i = 1 := (remE_01 l i).resolve_left h
    rw [if_neg h, if_neg h, if_neg h, h1]
    refine (remove_no lv sq i A c n l w hn (by omega) h).mono ?_
    rintro e w' ⟨rfl, hb⟩
    exact ⟨_, rfl, World.ownsRow_nil _ _ _ _, hb⟩
theorem refRemove_any (lv sq i : Int) (A : Option Addr) (c n : Nat) (l : List (Int × Nat)) (w : World) (hn : l.length = n) (hA : Reads w A (ev l)) (hc : n ≤ c) (hlen : n ≤ 1000) :
    Calls Try.prog 36 #[.agg #[.int .i64 lv, .int .i64 sq, .slice A n c], .int .i64 i] w fun e w' => ∃ v, e = .returned (.tuple #[.agg #[.int .i64 (ifz (remE l i) lv), .int .i64 (ifz (remE l i) sq), v], .int .i64 (remE l i)]) ∧
      w'.ownsRow w.heap.size 52 2 v (ifzL (remE l i) (delN l i.toNat)).length (ev (ifzL (remE l i) (delN l i.toNat))) ∧ Below w.heap.size w w' := by
  unfold ifz ifzL
  by_cases h : remE l i = 0
  · rw [if_pos h, if_pos h, if_pos h, h]
    exact refRemove_ok lv sq i A c n l w hn hA hc hlen h
  · have h1 : remE l i = 1 := (remE_01 l i).resolve_left h
    rw [if_neg h, if_neg h, if_neg h, h1]
    refine (refRemove_no lv sq i A c n l w hn (by omega) h).mono ?_
    rintro e w' ⟨rfl, hb⟩
    exact ⟨_, rfl, World.ownsRow_nil _ _ _ _, hb⟩

theorem ifzL_le (e : Int) (l : List (Int × Nat)) (n : Nat) (h : l.length ≤ n) : (ifzL e l).length ≤ n := by
  unfold ifzL; split
  · exact h
  · simp
theorem putN_le (l : List (Int × Nat)) (key : Int) (value : Nat) : (putN l key value).length ≤ l.length + 1 := by
  unfold putN insN
  split
  · rw [List.length_set]; omega
  · simp; omega
theorem delN_le (l : List (Int × Nat)) (i : Nat) : (delN l i).length ≤ l.length := by
  unfold delN; simp; omega
theorem spA_le (l : List (Int × Nat)) : (spA l).length ≤ l.length := by
  unfold spA; split <;> simp <;> omega
theorem spB_le (l : List (Int × Nat)) : (spB l).length ≤ l.length := by
  unfold spB; split <;> simp <;> omega

/-- The node, and the reader of numbers. -/
structure CH (w W : World) (bn N : Nat) (lv sq : Int) (A : Option Addr) (c : Nat) (l : List (Int × Nat)) : Prop where
  src : SrcAt W w.heap.size
  below : Below w.heap.size w W
  own : W.ownsRow (w.heap.size + 1) 52 2 (.slice A N c) N (ev l)
  cs : Cs W bn 27 #[.int .i64 lv, .int .i64 sq, .slice A N c]
  gt : w.heap.size < bn
theorem CH.grown {w W W' : World} {bn N : Nat} {lv sq : Int} {A : Option Addr} {c : Nat} {l : List (Int × Nat)} (h : CH w W bn N lv sq A c l) (hg : W.grownBy W' (some w.heap.size)) (hs : SrcAt W' w.heap.size) : CH w W' bn N lv sq A c l :=
  ⟨hs, gb_Below h.below hg h.below.size (Nat.le_refl _), own_keep h.own hg (by omega), h.cs.grown hg (by have := h.gt; simp; omega), h.gt⟩
theorem CH.keep {w W W' : World} {bn N : Nat} {lv sq : Int} {A : Option Addr} {c : Nat} {l : List (Int × Nat)} (h : CH w W bn N lv sq A c l) (hb : Below W.heap.size W W') : CH w W' bn N lv sq A c l :=
  ⟨h.src.keep hb, h.below.trans (hb.mono h.below.size), own_keepB h.own hb, h.cs.below hb h.cs.lt, h.gt⟩
theorem CH.put {w W : World} {bn N b : Nat} {lv sq : Int} {A : Option Addr} {c : Nat} {l : List (Int × Nat)} {cs : Array Value} (h : CH w W bn N lv sq A c l) (hb : Cs W b 27 cs) (h1 : w.heap.size < b) (h2 : bn ≠ b) (x y z : Value) :
    CH w (((W.setCell ⟨b, 0, none⟩ x).setCell ⟨b, 1, none⟩ y).setCell ⟨b, 2, none⟩ z) bn N lv sq A c l :=
  ⟨((h.src.set h1 x).set h1 y).set h1 z, below_put3 h.below (by omega) x y z, own_put3 hb h.own, h.cs.far3 h2 x y z, h.gt⟩

set_option maxRecDepth 100000 in
set_option maxHeartbeats 2000000 in
theorem changes25_any (L : Option Addr) (f k : Nat) (ls : List Int) (key at0 : Int) (value : Nat) (w : World) (hk : ls.length = k) (hL : Reads w L (iv ls)) (hl : I64 ls) (hkf : k ≤ f) :
    Calls Try.prog 6 #[.slice L k f, .int .i64 key, .int .i64 at0, .int .u64 (value : Int)] w fun e w' => e = .returned (.bool true) ∧ Below w.heap.size w w' := by
  have HK := Lib.hid hk
  clear hk
  go_enter Try.func6, Try.ntmps6
  go_wp2_with fail
  refine (new_any L k f ls w HK.out hL hl hkf).mono ?_
  rintro e W1 ⟨rfl, hS, hb1, hsz1⟩
  have hg1 : w.heap.size < W1.heap.size := hS.lt
  have HS1 := Lib.hid hS
  clear hsz1 hS
  go_wp2_with fail
  refine (node_any w.heap.size W1 HS1.out).mono ?_
  rintro e W2 ⟨lv, sq, v, l, rfl, hown, hE, hl9, hnil, hS2, hg2, hv1, hv2, hv3, hv4⟩
  obtain ⟨A, c, rfl⟩ := own_form hown
  have hbw2 := gb_Below hb1 hg2 hb1.size (Nat.le_refl _)
  have HNIL : Hid (l.length = 0 → A = none ∧ c = 0) := fun h => by have := hnil h; injection this with a _ b; exact ⟨a, b⟩
  have hlt2 : W1.heap.size ≤ W2.heap.size := hg2.size
  have hcap := own_cap hown
  have HC := Lib.hid (CH.mk (hS2.alloc (.cells #[.int .i64 lv, .int .i64 sq, .slice A l.length c] 27)) (hbw2.alloc hbw2.size _) (own_lower (hown.alloc _) (show w.heap.size + 1 ≤ _ by omega)) (Cs.new W2 27 #[.int .i64 lv, .int .i64 sq, .slice A l.length c]) (by omega))
  clear hown hE hS2 hnil hbw2 hg2 HS1
  generalize hN : l.length = N at *
  have HN := Lib.hid hN
  clear hN
  go_wp2_with fail
  generalize hq : W2.heap.size = bn at *
  generalize (W2.alloc _) = W3 at HC ⊢
  clear hq
  refine (n_any w.heap.size 4 W3 HC.out.src (by omega) (by omega)).mono ?_
  rintro e W4 ⟨r4, rfl, hr1, hr2, s4, g4⟩
  have HC4 := Lib.hid (HC.out.grown g4 s4)
  clear HC s4 g4
  go_upto_if 31 with (fail)
  go_cut [1] (fun s1 wx => ∃ key1 : Int, s1 = .int .i64 key1 ∧ CH w wx bn N lv sq A c l)
  case first =>
    by_cases h0 : 0 < r4
    · go_wp2_with fail
      refine (n_any w.heap.size 12 W4 HC4.out.src (by omega) (by omega)).mono ?_
      rintro e V1 ⟨k1, rfl, hk1, hk2, s1, g1⟩
      have HC5 := Lib.hid (HC4.out.grown g1 s1)
      clear s1 g1 HC4
      obtain ⟨x0, x1, x2⟩ := cell3 HC5.out.cs
      by_cases hN0 : 0 < N
      · have z1 : (0 : Int) < (N : Int) := by omega
        clear x0 x1
        go_wp2_with fail
        refine (n_any w.heap.size 2 V1 HC5.out.src (by omega) (by omega)).mono ?_
        rintro e V2 ⟨k2, rfl, hk3, hk4, s2, g2⟩
        have HC6 := Lib.hid (HC5.out.grown g2 s2)
        clear s2 g2 HC5 x2
        by_cases hk2 : k2 = 0
        · have hz : (k2 == 0) = true := by simpa using hk2
          clear hk2
          obtain ⟨y0, y1, y2⟩ := cell3 HC6.out.cs
          clear y0 y1
          go_wp2_with fail
          refine wp_region_mix 6 10 (by kernel_rfl) (by kernel_rfl) (fun w' => w'.cell? ⟨bn, 2, none⟩ = some (.slice A N c)) y2 ?_
          simp only [List.take_succ_cons, List.take_zero, List.drop_succ_cons, List.drop_zero]
          iterate 6
            refine ⟨?_, Or.inl ⟨by rfl, fun W' hS' => ?_⟩, fun _ _ _ h => h, ?_⟩
            rotate_left
            · go_simp
              with_reducible rfl
            simp only [Act.put, List.setIfInBounds_toArray, List.set_cons_zero, List.set_cons_succ]
          show wpSeqT _ _ _ _ _ _ _ _ _
          refine wpSeqT_step (fun K hK => ?_)
          go_simp
          refine (n_any w.heap.size (N : Int) V2.drew (HC6.out.src.keep (Below.refl _ V2).drew) (by omega) (by omega)).mono ?_
          rintro e V3 ⟨k3, rfl, hk5, hk6, s3, g3⟩
          have HC7 := Lib.hid (HC6.out.grown (grown_undrew g3) s3)
          clear s3 g3 HC6 y2
          obtain ⟨kx, rfl⟩ : ∃ j : Nat, k3 = (j : Int) := ⟨k3.toNat, by omega⟩
          have hkx : kx < N := by omega
          obtain ⟨gx, cx, hvx, hgx, hltx⟩ := HC7.out.own.form (by omega)
          obtain ⟨rfl, rfl⟩ : A = some ⟨gx, 0, none⟩ ∧ c = cx := by injection hvx with a _ b; exact ⟨a, b⟩
          have hc := HC7.out.own.cellAt (kx * 2) (by omega)
          rw [ev_key l kx (by rw [HN.out]; exact hkx)] at hc
          clear hvx
          generalize (l[kx]?.getD (0, 0)).1 = key3 at hc
          have y2 : V3.cell? ⟨bn, 2, none⟩ = some (.slice (some ⟨gx, 0, none⟩) N c) := (cell3 HC7.out.cs).2.2
          refine hK _ _ (fun _ => y2) ?_
          clear hK K
          iterate 3
            refine wpSeqT_step (fun K hK => ?_)
            go_simp
            refine hK _ _ (fun _ => y2) ?_
            clear hK K
          refine wpSeqT_list _ _ _ _ (by omega) ?_
          go_wp2_with fail
          go_meet
          case rel => exact ⟨_, rfl, HC7.out⟩
        · have hz : (k2 == 0) = false := by simpa using hk2
          clear hk2
          go_wp2_with fail
          go_meet
          case rel => exact ⟨_, rfl, HC6.out⟩
      · have z1 : ¬ (0 : Int) < (N : Int) := by omega
        clear x0 x1
        go_wp2_with fail
        go_meet
        case rel => exact ⟨_, rfl, HC5.out⟩
    · go_wp2_with fail
      go_meet
      case rel => exact ⟨_, rfl, HC4.out⟩
  case rest =>
    obtain ⟨key1, rfl, hC5⟩ := hcut
    have HC5 := Lib.hid hC5
    clear hC5 HC4
    obtain ⟨x0, x1, x2⟩ := cell3 HC5.out.cs
    go_wp2_with fail
    clear x0 x1 x2
    refine (find_any lv sq key1 A c N l wc HN.out (Reads.of_own HC5.out.own) (by omega)).mono ?_
    rintro e W5 ⟨rfl, hb5⟩
    have HC6 := Lib.hid (HC5.out.keep hb5)
    clear HC5 hb5
    generalize hfk : findN l key1 = fk
    generalize hex : exactN l key1 = ex
    have HFK := Lib.hid hfk
    have HEX := Lib.hid hex
    clear hfk hex
    obtain ⟨x0, x1, x2⟩ := cell3 HC6.out.cs
    have q1 : (fk != fk) = false := by simp
    have q2 : (ex != ex) = false := by simp
    go_wp2_with fail
    clear x0 x1 x2
    refine (refFind_any lv sq key1 A c N l W5 HN.out (Reads.of_own HC6.out.own) (by omega)).mono ?_
    rintro e W6 ⟨rfl, hb6⟩
    rw [HFK.out, HEX.out]
    have HC7 := Lib.hid (HC6.out.keep hb6)
    clear HC6 hb6
    obtain ⟨x0, x1, x2⟩ := cell3 HC7.out.cs
    clear q1 q2 HFK HEX
    go_wp2_with fail
    clear x0 x1 x2
    refine (put_any lv sq key1 value A c N l W6 HN.out (Reads.of_own HC7.out.own)).mono ?_
    rintro e W7 ⟨v7, rfl, ho7, hb7⟩
    have hplle := ifzL_le (putE l key1) _ _ (putN_le l key1 value)
    rw [HN.out] at hplle
    generalize hpe : putE l key1 = pe at *
    generalize hpl : ifzL pe (putN l key1 value) = pl at *
    generalize hpv : ifz pe lv = pv at *
    generalize hps : ifz pe sq = ps at *
    have HPE := Lib.hid hpe
    have HPL := Lib.hid hpl
    have HPV := Lib.hid hpv
    have HPS := Lib.hid hps
    clear hpe hpl hpv hps
    obtain ⟨A7, c7, rfl⟩ := own_form ho7
    have hwW6 : w.heap.size + 1 ≤ W6.heap.size := HC7.out.src.lt
    have hbn7 : bn < W6.heap.size := HC7.out.cs.lt
    have HC8 := Lib.hid (HC7.out.keep (hb7.alloc hb7.size (.cells #[.int .i64 pv, .int .i64 ps, .slice A7 pl.length c7] 27)))
    have HO8 := Lib.hid (own_lower (ho7.alloc (.cells #[.int .i64 pv, .int .i64 ps, .slice A7 pl.length c7] 27)) hwW6)
    have HA8 := Lib.hid (Cs.new W7 27 #[.int .i64 pv, .int .i64 ps, .slice A7 pl.length c7])
    have hW7 := hb7.size
    clear HC7 ho7 hb7
    obtain ⟨x0, x1, x2⟩ := cell3 HC8.out.cs
    go_wp2_with fail
    clear x0 x1 x2
    generalize hq : W7.heap.size = ba at *
    generalize (W7.alloc _) = W8 at HC8 HO8 HA8 ⊢
    clear hq
    have hba : w.heap.size < ba := by omega
    have hbab : bn ≠ ba := by omega
    have hba8 : ba < W8.heap.size := HA8.out.lt
    refine (refPut_any lv sq key1 value A c N l W8 HN.out (Reads.of_own HC8.out.own) hcap).mono ?_
    rintro e W9 ⟨v9, rfl, ho9, hb9⟩
    rw [HPE.out, HPL.out] at ho9
    rw [HPE.out, HPV.out, HPS.out]
    obtain ⟨A9, c9, rfl⟩ := own_form ho9
    have hb10 := hb9.alloc hb9.size (.cells #[.int .i64 pv, .int .i64 ps, .slice A9 pl.length c9] 27)
    have HC10 := Lib.hid (HC8.out.keep hb10)
    have HA10 := Lib.hid (HA8.out.below hb10 HA8.out.lt)
    have HB10 := Lib.hid (Cs.new W9 27 #[.int .i64 pv, .int .i64 ps, .slice A9 pl.length c9])
    have HO10 := Lib.hid (Reads.of_own (own_keepB HO8.out hb10))
    have HP10 := Lib.hid (Reads.of_own (ho9.alloc (.cells #[.int .i64 pv, .int .i64 ps, .slice A9 pl.length c9] 27)))
    have hW9 := hb9.size
    clear HC8 HA8 HO8 ho9 hb9 hb10 HPE HPL HPV HPS
    generalize hq : W9.heap.size = bb at *
    have hbb : ba < bb := by omega
    obtain ⟨x0, x1, x2⟩ := cell3 HA10.out
    obtain ⟨y0, y1, y2⟩ := cell3 HB10.out
    have q1 : (pe != pe) = false := by simp
    go_wp2_with fail
    clear x0 x1 x2 y0 y1 y2 q1
    generalize (W9.alloc _) = W10 at HC10 HA10 HB10 HO10 HP10 ⊢
    clear hq
    refine (sameN_any pv ps pv ps A7 A9 c7 c9 pl.length pl.length pl pl W10 rfl rfl HO10.out HP10.out (by omega) (by omega)).mono ?_
    rintro e W11 ⟨rfl, hb11⟩
    rw [decide_eq_true (show pv = pv ∧ ps = ps ∧ pl = pl from ⟨rfl, rfl, rfl⟩)]
    have HC11 := Lib.hid (HC10.out.keep hb11)
    have HA11 := Lib.hid (HA10.out.below hb11 HA10.out.lt)
    have HB11 := Lib.hid (HB10.out.below hb11 HB10.out.lt)
    clear HC10 HA10 HB10 HO10 HP10 hb11
    obtain ⟨x0, x1, x2⟩ := cell3 HC11.out.cs
    go_wp2_with fail
    clear x0 x1 x2
    have hwW11 : w.heap.size + 1 ≤ W11.heap.size := HC11.out.src.lt
    refine (remove_any lv sq at0 A c N l W11 HN.out (Reads.of_own HC11.out.own) (by omega)).mono ?_
    rintro e W12 ⟨v12, rfl, ho12, hb12⟩
    have hrlle := ifzL_le (remE l at0) _ _ (delN_le l at0.toNat)
    rw [HN.out] at hrlle
    generalize hre : remE l at0 = re at *
    generalize hrl : ifzL re (delN l at0.toNat) = rl at *
    generalize hrv : ifz re lv = rv at *
    generalize hrs : ifz re sq = rs at *
    have HRE := Lib.hid hre
    have HRL := Lib.hid hrl
    have HRV := Lib.hid hrv
    have HRS := Lib.hid hrs
    clear hre hrl hrv hrs
    obtain ⟨A12, c12, rfl⟩ := own_form ho12
    have hA12 := HA11.out.below hb12 HA11.out.lt
    have hB12 := HB11.out.below hb12 HB11.out.lt
    have HC13 := Lib.hid ((HC11.out.keep hb12).put hA12 hba hbab (.int .i64 rv) (.int .i64 rs) (.slice A12 rl.length c12))
    have HA13 := Lib.hid (hA12.put3 (.int .i64 rv) (.int .i64 rs) (.slice A12 rl.length c12))
    have HB13 := Lib.hid (hB12.far3 (Nat.ne_of_gt hbb) (.int .i64 rv) (.int .i64 rs) (.slice A12 rl.length c12))
    have HR13 := Lib.hid (own_lower (own_put3 (x := .int .i64 rv) (y := .int .i64 rs) (z := .slice A12 rl.length c12) hA12 ho12) hwW11)
    obtain ⟨p0, p1, p2, r0, r1, r2⟩ := hA12.at3
    clear HC11 HA11 HB11 hA12 hB12 ho12 hb12
    obtain ⟨x0, x1, x2⟩ := cell3 HC13.out.cs
    go_wp2_with fail
    generalize (((W12.setCell _ _).setCell _ _).setCell _ _) = W13 at HC13 HA13 HB13 HR13 x0 x1 x2 ⊢
    clear x0 x1 x2 p0 p1 p2 r0 r1 r2
    have hwW13 : w.heap.size + 1 ≤ W13.heap.size := HC13.out.src.lt
    refine (refRemove_any lv sq at0 A c N l W13 HN.out (Reads.of_own HC13.out.own) hcap (by omega)).mono ?_
    rintro e W14 ⟨v14, rfl, ho14, hb14⟩
    rw [HRE.out, HRL.out] at ho14
    rw [HRE.out, HRV.out, HRS.out]
    obtain ⟨A14, c14, rfl⟩ := own_form ho14
    have hA14 := HA13.out.below hb14 HA13.out.lt
    have hB14 := HB13.out.below hb14 HB13.out.lt
    have HC15 := (HC13.out.keep hb14).put hB14 (show w.heap.size < bb by omega) (show bn ≠ bb by omega) (.int .i64 rv) (.int .i64 rs) (.slice A14 rl.length c14)
    have HA15 := hA14.far3 (Nat.ne_of_lt hbb) (.int .i64 rv) (.int .i64 rs) (.slice A14 rl.length c14)
    have HB15 := hB14.put3 (.int .i64 rv) (.int .i64 rs) (.slice A14 rl.length c14)
    have HR15 := own_put3 (x := .int .i64 rv) (y := .int .i64 rs) (z := .slice A14 rl.length c14) hB14 (own_keepB HR13.out hb14)
    have HQ15 := own_put3 (x := .int .i64 rv) (y := .int .i64 rs) (z := .slice A14 rl.length c14) hB14 ho14
    have EN := Lib.hid (((((((Env.start HC15.below).cons HA15).cons HB15).cons HC15.cs).row (Reads.of_own HR15)).row (Reads.of_own HQ15)).row (Reads.of_own HC15.own))
    obtain ⟨p0, p1, p2, r0, r1, r2⟩ := hB14.at3
    clear HC13 HA13 HB13 HR13 hA14 hB14 ho14 hb14 HC15 HA15 HB15 HR15 HQ15 HRE HRL HRV HRS
    obtain ⟨x0, x1, x2⟩ := cell3 (EN.out.2.1 (bn, 27, #[.int .i64 lv, .int .i64 sq, .slice A N c]) (by simp))
    go_wp2_with fail
    generalize (((W14.setCell _ _).setCell _ _).setCell _ _) = W15 at EN x0 x1 x2 ⊢
    clear x0 x1 x2 p0 p1 p2 r0 r1 r2
    refine (splitN_any lv sq A c N l W15 HN.out (EN.out.2.2 (A, ev l) (by simp)) hcap HNIL.out).mono ?_
    rintro e W16 ⟨va, vb, rfl, howna, hownb, hb16⟩
    have hla := spA_le l
    have hlb := spB_le l
    rw [HN.out] at hla hlb
    generalize hse : splE l = se at *
    generalize hsv : spV l lv = sv at *
    generalize hss : spV l sq = ss at *
    generalize hsa : spA l = sa at *
    generalize hsb : spB l = sb at *
    have HSE := Lib.hid hse
    have HSV := Lib.hid hsv
    have HSS := Lib.hid hss
    have HSA := Lib.hid hsa
    have HSB := Lib.hid hsb
    clear hse hsv hss hsa hsb
    obtain ⟨Aa, ca, rfl⟩ := own_form howna
    obtain ⟨Ab, cb, rfl⟩ := own_form hownb
    have EN17 := Lib.hid (((((EN.out.keep hb16).row (Reads.of_own howna)).row (Reads.of_own hownb)).new 27 #[.int .i64 sv, .int .i64 ss, .slice Aa sa.length ca]).new 27 #[.int .i64 sv, .int .i64 ss, .slice Ab sb.length cb])
    clear EN howna hownb hb16
    have EN17 := EN17.out
    rw [World.size_alloc] at EN17
    have EN17 := Lib.hid EN17
    obtain ⟨x0, x1, x2⟩ := cell3 (EN17.out.2.1 (bn, 27, #[.int .i64 lv, .int .i64 sq, .slice A N c]) (by simp))
    go_wp2_with fail
    generalize hq : W16.heap.size = bc at *
    generalize ((W16.alloc _).alloc _) = W17 at EN17 x0 x1 x2 ⊢
    clear hq x0 x1 x2
    refine (refSplit_any lv sq A c N l W17 HN.out (EN17.out.2.2 (A, ev l) (by simp)) hcap).mono ?_
    rintro e W18 ⟨va, vb, rfl, howna, hownb, hb18⟩
    rw [HSA.out] at howna
    rw [HSB.out] at hownb
    rw [HSE.out, HSV.out, HSS.out]
    obtain ⟨Ac, cc, rfl⟩ := own_form howna
    obtain ⟨Ad, cd, rfl⟩ := own_form hownb
    have EN19 := (((((EN17.out.keep hb18).row (Reads.of_own howna)).row (Reads.of_own hownb)).new 27 #[.int .i64 sv, .int .i64 ss, .slice Ac sa.length cc]).new 27 #[.int .i64 sv, .int .i64 ss, .slice Ad sb.length cd])
    rw [World.size_alloc] at EN19
    have EN19 := Lib.hid EN19
    clear EN17 howna hownb hb18 HSE HSV HSS HSA HSB
    obtain ⟨x0, x1, x2⟩ := cell3 (EN19.out.2.1 (ba, 27, #[.int .i64 rv, .int .i64 rs, .slice A12 rl.length c12]) (by simp))
    obtain ⟨y0, y1, y2⟩ := cell3 (EN19.out.2.1 (bb, 27, #[.int .i64 rv, .int .i64 rs, .slice A14 rl.length c14]) (by simp))
    have q1 : (re == re) = true := by simp
    have q2 : (se == se) = true := by simp
    go_wp2_with fail
    generalize hq : W18.heap.size = bd at *
    generalize ((W18.alloc _).alloc _) = W19 at EN19 x0 x1 x2 y0 y1 y2 ⊢
    clear hq x0 x1 x2 y0 y1 y2 q1
    refine (sameN_any rv rs rv rs A12 A14 c12 c14 rl.length rl.length rl rl W19 rfl rfl (EN19.out.2.2 (A12, ev rl) (by simp)) (EN19.out.2.2 (A14, ev rl) (by simp)) (by omega) (by omega)).mono ?_
    rintro e W20 ⟨rfl, hb20⟩
    rw [decide_eq_true (show rv = rv ∧ rs = rs ∧ rl = rl from ⟨rfl, rfl, rfl⟩)]
    have EN20 := Lib.hid (EN19.out.keep hb20)
    clear EN19 hb20
    obtain ⟨x0, x1, x2⟩ := cell3 (EN20.out.2.1 (bc, 27, #[.int .i64 sv, .int .i64 ss, .slice Aa sa.length ca]) (by simp))
    obtain ⟨y0, y1, y2⟩ := cell3 (EN20.out.2.1 (bd, 27, #[.int .i64 sv, .int .i64 ss, .slice Ac sa.length cc]) (by simp))
    go_wp2_with fail
    clear x0 x1 x2 y0 y1 y2 q2
    refine (sameN_any sv ss sv ss Aa Ac ca cc sa.length sa.length sa sa W20 rfl rfl (EN20.out.2.2 (Aa, ev sa) (by simp)) (EN20.out.2.2 (Ac, ev sa) (by simp)) (by omega) (by omega)).mono ?_
    rintro e W21 ⟨rfl, hb21⟩
    rw [decide_eq_true (show sv = sv ∧ ss = ss ∧ sa = sa from ⟨rfl, rfl, rfl⟩)]
    have EN21 := Lib.hid (EN20.out.keep hb21)
    clear EN20 hb21
    obtain ⟨x0, x1, x2⟩ := cell3 (EN21.out.2.1 (bc + 1, 27, #[.int .i64 sv, .int .i64 ss, .slice Ab sb.length cb]) (by simp))
    obtain ⟨y0, y1, y2⟩ := cell3 (EN21.out.2.1 (bd + 1, 27, #[.int .i64 sv, .int .i64 ss, .slice Ad sb.length cd]) (by simp))
    go_wp2_with fail
    clear x0 x1 x2 y0 y1 y2
    refine (sameN_any sv ss sv ss Ab Ad cb cd sb.length sb.length sb sb W21 rfl rfl (EN21.out.2.2 (Ab, ev sb) (by simp)) (EN21.out.2.2 (Ad, ev sb) (by simp)) (by omega) (by omega)).mono ?_
    rintro e W22 ⟨rfl, hb22⟩
    rw [decide_eq_true (show sv = sv ∧ ss = ss ∧ sb = sb from ⟨rfl, rfl, rfl⟩)]
    have EN22 := Lib.hid (EN21.out.keep hb22)
    clear EN21 hb22
    go_wp2_with fail
    refine (awake_any W22).mono ?_
    rintro e W23 ⟨rfl, hb23⟩
    have EN23 := Lib.hid (EN22.out.keep hb23)
    clear EN22 hb23
    go_wp2_with fail
    go_ret
    exact ⟨rfl, EN23.out.1⟩

end Go.Proofs.Ytjnkajdfdhockaa
