import Derived.Test.YtjnkajdfdhockaaC2
import Derived.Test.YtjnkajdfdhockaaRound
namespace Go.Proofs.Ytjnkajdfdhockaa
set_option linter.unusedVariables false
open Go.RowKit Go.Shelf
attribute [local go_sem] Oper.semAt_some

/-- A field: its lowest bit and its mask. -/
structure Fld where
  at_ : Nat
  mask : Nat
  hat : at_ ≤ 64
  hmask : mask < 18446744073709551616

abbrev encF (x : Fld) : Array Value := #[.int .i64 (x.at_ : Int), .int .u64 (x.mask : Int)]

theorem mask_lt (x : Int) (h : x ≤ 64) : maskOf x < 18446744073709551616 := by
  unfold maskOf
  have : 2 ^ x.toNat ≤ 2 ^ 64 := Nat.pow_le_pow_right (by omega) (by omega)
  have : 0 < 2 ^ x.toNat := Nat.pow_pos (by omega)
  omega

theorem mask_nat : ∀ k : Fin 65, 18446744073709551615 / 2 ^ (64 - k.val) = 2 ^ k.val - 1 := by decide

theorem mask_int (x : Int) (h1 : 1 ≤ x) (h2 : x ≤ 64) : ((maskOf x : Nat) : Int) = 18446744073709551615 / 2 ^ (64 - x).toNat := by
  have h := mask_nat ⟨x.toNat, by omega⟩
  have e : (64 - x).toNat = 64 - x.toNat := by omega
  rw [e, cast_two_pow]
  unfold maskOf
  rw [← h]
  rfl

/-- Field k of these widths. -/
def fldOf (ws : List Int) (k : Nat) : Fld :=
  ⟨min (fldAt ws k) 64, min (maskOf (ws[k]?.getD 0)) 18446744073709551615, by omega, by omega⟩

set_option maxRecDepth 100000 in
set_option maxHeartbeats 1000000 in
theorem fields1_in (F : Fence) (n : Nat) (h35 : F.fn 61) (hro : F.round = none) (hn : 1 ≤ n) (l Bs n₀ : Nat) (A : Option Addr) (cap : Nat) (ws : List Int) (hok : okW 0 ws = true)
    (hlen : ws.length ≤ 1000000) (J Jx : List Fld → World → Prop)
    (hY : ∀ pre x W, J pre W → pre.length < ws.length → YieldAt F (n - 1) Try.prog l (encF x) W fun e W' =>
      (e = .returned (.bool true) ∧ J (pre ++ [x]) W' ∧ KeepB n₀ Bs W W') ∨ (e = .returned (.bool false) ∧ Jx (pre ++ [x]) W'))
    (W : World) (hBs : W.cell? ⟨Bs, 0, none⟩ = some (.slice A ws.length cap))
    (hA : ∀ i, i < ws.length → ∃ b off, A = some ⟨b, off, none⟩ ∧ b < n₀ ∧ W.cell? ⟨b, off + i, none⟩ = some (.int .i64 (ws[i]?.getD 0))) (h0 : J [] W) :
    CallsIn F n Try.prog 61 #[.func (.yield l) #[] #[], .pointer (some ⟨Bs, 0, none⟩)] W fun e W' => (∃ v, e = .returned v) ∧
      ((∃ ys, ys = upto (fldOf ws) ws.length ∧ J ys W') ∨ (∃ pre, (∃ k, k ≤ ws.length ∧ pre = upto (fldOf ws) k) ∧ Jx pre W')) := by
  obtain ⟨m, hm⟩ : ∃ m, ws.length = m := ⟨_, rfl⟩
  have HM := Lib.hid hm
  rw [hm] at hlen hBs hA hY ⊢
  clear hm
  have HA := Lib.hid hA
  have HOK := Lib.hid hok
  clear hA hok
  refine callsIn_of_wp Try.func61 rfl h35 ?_ hro
  simp only [Try.ntmps61, List.size_toArray, List.length_cons, List.length_nil, Nat.reduceAdd, Nat.reduceSub, Array.replicate_succ, Array.replicate_zero, List.push_toArray, List.append_toArray, List.nil_append, List.cons_append]
  gi_wp2
  gi_loopw [3, 8] (fun s i wr => ∃ (k : Nat) (t : Int), k ≤ m ∧ i = .int .i64 k ∧ s = .int .i64 t ∧ 0 ≤ t ∧ t ≤ 64 ∧ Hid (t = (ws.take k).sum) ∧ J (upto (fldOf ws) k) wr ∧ KeepB n₀ Bs W wr)
    (fun _ i _ => m - (intOf i).toNat)
  case atStart => exact ⟨0, 0, Nat.zero_le _, rfl, rfl, by omega, by omega, by show _ = _; simp, h0, KeepB.refl _ _ _⟩
  case round =>
    obtain ⟨k, t, hk, rfl, rfl, ht0, ht1, hs, hJs, hnx⟩ := hrel
    by_cases hlt : k < m
    · obtain ⟨b, off, rfl, hb, hc1⟩ := HA.out k hlt
      have hc2 := (hnx.below.cell (p := ⟨b, off + k, none⟩) hb).trans hc1
      have hx := okW_at 0 ws k HOK.out (by rw [HM.out]; exact hlt)
      have hts := sum_take_succ ws k (by rw [HM.out]; exact hlt)
      obtain ⟨x, ex⟩ : ∃ x, ws[k]?.getD 0 = x := ⟨_, rfl⟩
      rw [← hs.out, ex] at hx
      rw [← hs.out, ex] at hts
      rw [ex] at hc2
      obtain ⟨fn, tmps, assign, body, hy, hR⟩ := hY _ (fldOf ws k) wr hJs (by rw [upto_length]; exact hlt)
      have e1 : ((fldOf ws k).at_ : Int) = t := by
        show ((min (fldAt ws k) 64 : Nat) : Int) = t
        unfold fldAt
        rw [← hs.out]
        omega
      have e2 : ((fldOf ws k).mask : Int) = 18446744073709551615 / 2 ^ (64 - x).toNat := by
        rw [← mask_int x (by omega) (by omega)]
        show ((min (maskOf (ws[k]?.getD 0)) _ : Nat) : Int) = _
        rw [ex]
        have := mask_lt x (by omega)
        omega
      have hy' : _ := hy
      simp only [encF, e1, e2] at hy'
      clear hy ex hc1
      have HT := Lib.hid hts
      clear hts e1 e2
      gi_wp2
      refine hR.mono ?_
      rintro e W3 (⟨rfl, hJ3, hk3⟩ | ⟨rfl, hJx3⟩)
      · gi_wp2
        go_roundw
        case rel => exact ⟨k + 1, t + x, by omega, by simp, rfl, by omega, by omega, HT.out.symm, by rw [upto_succ]; exact hJ3, hnx.trans hk3⟩
        case measure => simp [intOf]; omega
      · gi_wp2
        refine bodyPost_ret (results_none rfl _ _ _) rfl ?_
        exact ⟨⟨_, rfl⟩, .inr ⟨_, ⟨k + 1, by omega, (upto_succ _ _).symm⟩, hJx3⟩⟩
    · obtain rfl : k = m := by omega
      gi_wp2
      go_end0
      exact ⟨⟨_, rfl⟩, .inl ⟨_, rfl, hJs⟩⟩

set_option maxHeartbeats 1000000 in
theorem fields_in (F : Fence) (n : Nat) (h31 : F.fn 53) (hro : F.round = none) (a : Option Addr) (len cap : Nat) (w : World) :
    CallsIn F n Try.prog 53 #[.slice a len cap] w fun e w' => e = .returned (.func (.func 61) #[] #[.pointer (some ⟨w.heap.size, 0, none⟩)]) ∧ w.alloc (.cells #[.slice a len cap] 22) = w' := by
  refine callsIn_of_wp Try.func53 rfl h31 ?_ hro
  simp only [Try.ntmps53, List.size_toArray, List.length_cons, List.length_nil, Nat.reduceAdd, Nat.reduceSub, Array.replicate_succ, Array.replicate_zero, List.push_toArray, List.append_toArray, List.nil_append, List.cons_append]
  gi_wp2
  go_ret
  exact ⟨rfl, rfl⟩

theorem fields_stops (F : Fence) (n : Nat) (h35 : F.fn 61) (hro : F.round = none) (hn : 1 ≤ n) (Bs n₀ : Nat) (A : Option Addr) (cap : Nat) (ws : List Int) (hok : okW 0 ws = true)
    (hlen : ws.length ≤ 1000000) (w : World) (hBs : Bs < w.heap.size) (hn₀ : n₀ ≤ w.heap.size)
    (hc : w.cell? ⟨Bs, 0, none⟩ = some (.slice A ws.length cap))
    (hA : ∀ i, i < ws.length → ∃ b off, A = some ⟨b, off, none⟩ ∧ b < n₀ ∧ w.cell? ⟨b, off + i, none⟩ = some (.int .i64 (ws[i]?.getD 0))) :
    SeqStopsK F n Try.prog 61 #[.pointer (some ⟨Bs, 0, none⟩)] encF (KeepB n₀ Bs) (fun ys => ys = upto (fldOf ws) ws.length)
      (fun pre => ∃ k, k ≤ ws.length ∧ pre = upto (fldOf ws) k) ws.length w := fun l J Jx W hW _ _ hY h0 =>
  fields1_in F n h35 hro hn l Bs n₀ A cap ws hok hlen J Jx hY W ((hW.cell (p := ⟨Bs, 0, none⟩) (by show Bs < _; omega)).trans hc) (fun i hi => by
    obtain ⟨b, off, e, hb, h⟩ := hA i hi
    exact ⟨b, off, e, hb, (hW.cell (p := ⟨b, off + i, none⟩) (by show b < _; omega)).trans h⟩) h0

/-- The values fit into their fields; the word with them. -/
def fitsF (pre : List Fld) (vs : List Nat) : Prop := ∀ k, k < pre.length → ∀ f, pre[k]? = some f → vs[k]?.getD 0 ≤ f.mask

def wordF : List Fld → List Nat → Nat
  | [], _ => 0
  | f :: pre, vs => (((vs[0]?.getD 0) <<< f.at_) % 18446744073709551616) ||| wordF pre vs.tail

theorem wordF_lt (pre : List Fld) (vs : List Nat) : wordF pre vs < 18446744073709551616 := by
  induction pre generalizing vs with
  | nil => simp [wordF]
  | cons f pre ih => exact or_lt (Nat.mod_lt _ (by omega)) (ih _)

theorem wordF_snoc (pre : List Fld) (x : Fld) (vs : List Nat) : wordF (pre ++ [x]) vs = wordF pre vs ||| (((vs[pre.length]?.getD 0) <<< x.at_) % 18446744073709551616) := by
  induction pre generalizing vs with
  | nil => simp [wordF]
  | cons f pre ih =>
    have h : vs.tail[pre.length]?.getD 0 = vs[pre.length + 1]?.getD 0 := by simp
    simp only [List.cons_append, wordF, ih, List.length_cons, h, Nat.or_assoc]

theorem fitsF_snoc (pre : List Fld) (x : Fld) (vs : List Nat) (h : fitsF pre vs) (hx : vs[pre.length]?.getD 0 ≤ x.mask) : fitsF (pre ++ [x]) vs := by
  intro k hk f hf
  rcases Nat.lt_or_ge k pre.length with h1 | h1
  · rw [List.getElem?_append_left h1] at hf
    exact h k h1 f hf
  · have : k = pre.length := by simp at hk; omega
    subst this
    simp at hf
    subst hf
    exact hx

set_option maxRecDepth 100000 in
set_option maxHeartbeats 1000000 in
theorem fields_ok (A B : Option Addr) (c d : Nat) (ws : List Int) (vs : List Nat) (w : World) (hA : Reads w A (iv ws)) (hB : Reads w B (uv vs)) (hl : ws.length = vs.length) (hlen : ws.length ≤ 1000000) (hok : okW 0 ws = true) (hw : W64 vs) :
    Calls Try.prog 44 #[.slice A ws.length c, .slice B vs.length d] w fun e w' => Below w.heap.size w w' ∧
      ((e = .returned (.tuple #[.int .u64 ((wordF (upto (fldOf ws) ws.length) vs : Nat) : Int), .int .i64 0]) ∧ fitsF (upto (fldOf ws) ws.length) vs) ∨
       (e = .returned (.tuple #[.int .u64 0, .int .i64 1]) ∧ ¬ fitsF (upto (fldOf ws) ws.length) vs)) := by
  refine (callsIn_wide (n := 6)).1 ?_
  obtain ⟨m, hm⟩ : ∃ m, ws.length = m := ⟨_, rfl⟩
  have Hd := Lib.hid (fun W hA => divided_any A c ws W hA hlen)
  have hcv : ∀ i, i < m → ∃ b off, B = some ⟨b, off, none⟩ ∧ b < w.heap.size ∧ w.cell? ⟨b, off + i, none⟩ = some (.int .u64 ((vs[i]?.getD 0 : Nat) : Int)) := by
    intro i hi
    obtain ⟨b, off, e, hb, hc⟩ := hB.u (by omega)
    exact ⟨b, off, e, hb, hc i (by omega)⟩
  have hci : ∀ i, i < m → ∃ b off, A = some ⟨b, off, none⟩ ∧ b < w.heap.size ∧ w.cell? ⟨b, off + i, none⟩ = some (.int .i64 (ws[i]?.getD 0)) := by
    intro i hi
    obtain ⟨b, off, e, hb, hc⟩ := hA.i (by omega)
    exact ⟨b, off, e, hb, hc i (by omega)⟩
  rw [← hl, hm]
  rw [hm, hok] at Hd
  rw [hm] at hlen
  have HM := Lib.hid hm
  have HL := Lib.hid hl
  have HV := Lib.hid hcv
  have HI := Lib.hid hci
  have HOK := Lib.hid hok
  have HA := Lib.hid hA
  clear hm hl hcv hci hok hB hA
  refine callsIn_of_wp_marks Try.func44 rfl trivial ?_ rfl
  simp only [Try.ntmps44, List.size_toArray, List.length_cons, List.length_nil, Nat.reduceAdd, Nat.reduceSub, Array.replicate_succ, Array.replicate_zero, List.push_toArray, List.append_toArray, List.nil_append, List.cons_append]
  gi_wp2_with fail
  refine ⟨trivial, ?_⟩
  refine (callsIn_wide.2 (Hd.out _ (HA.out.keep ((((Below.refl _ w).alloc (Nat.le_refl _) _).alloc (by simp) _).alloc (by simp; omega) _)))).mono ?_
  rintro e w' ⟨rfl, rfl⟩
  gi_wp2_with fail
  refine ⟨trivial, ?_⟩
  refine (fields_in Fence.wide 5 trivial rfl _ _ _ _).mono ?_
  rintro e w' ⟨rfl, rfl⟩
  gi_wp2_with fail
  have b0 := ((((((Boxed.new w 30 (.slice B m d)).alloc (.cells #[.int .u64 0] 38)).alloc (.cells #[.int .i64 0] 31)).alloc (.cells #[.int .u64 0] 38)).alloc (.cells #[.int .i64 0] 3)).alloc (.cells #[.slice A m c] 22))
  have b1 := (((((Boxed.new (w.alloc (.cells #[.slice B m d] 30)) 38 (.int .u64 0)).alloc (.cells #[.int .i64 0] 31)).alloc (.cells #[.int .u64 0] 38)).alloc (.cells #[.int .i64 0] 3)).alloc (.cells #[.slice A m c] 22))
  have b2 := ((((Boxed.new ((w.alloc (.cells #[.slice B m d] 30)).alloc (.cells #[.int .u64 0] 38)) 31 (.int .i64 0)).alloc (.cells #[.int .u64 0] 38)).alloc (.cells #[.int .i64 0] 3)).alloc (.cells #[.slice A m c] 22))
  have b3 := (((Boxed.new (((w.alloc (.cells #[.slice B m d] 30)).alloc (.cells #[.int .u64 0] 38)).alloc (.cells #[.int .i64 0] 31)) 38 (.int .u64 0)).alloc (.cells #[.int .i64 0] 3)).alloc (.cells #[.slice A m c] 22))
  have b4 := ((Boxed.new ((((w.alloc (.cells #[.slice B m d] 30)).alloc (.cells #[.int .u64 0] 38)).alloc (.cells #[.int .i64 0] 31)).alloc (.cells #[.int .u64 0] 38)) 3 (.int .i64 0)).alloc (.cells #[.slice A m c] 22))
  have b5 := (Boxed.new (((((w.alloc (.cells #[.slice B m d] 30)).alloc (.cells #[.int .u64 0] 38)).alloc (.cells #[.int .i64 0] 31)).alloc (.cells #[.int .u64 0] 38)).alloc (.cells #[.int .i64 0] 3)) 22 (.slice A m c))
  have hb : Below w.heap.size w ((((((w.alloc (.cells #[.slice B m d] 30)).alloc (.cells #[.int .u64 0] 38)).alloc (.cells #[.int .i64 0] 31)).alloc (.cells #[.int .u64 0] 38)).alloc (.cells #[.int .i64 0] 3)).alloc (.cells #[.slice A m c] 22)) :=
    ((((((Below.refl _ w).alloc (Nat.le_refl _) _).alloc (by simp) _).alloc (by simp; omega) _).alloc (by simp; omega) _).alloc (by simp; omega) _).alloc (by simp; omega) _
  simp only [World.size_alloc] at b0 b1 b2 b3 b4 b5
  obtain ⟨W0, hW0⟩ : ∃ W0, ((((((w.alloc (.cells #[.slice B m d] 30)).alloc (.cells #[.int .u64 0] 38)).alloc (.cells #[.int .i64 0] 31)).alloc (.cells #[.int .u64 0] 38)).alloc (.cells #[.int .i64 0] 3)).alloc (.cells #[.slice A m c] 22)) = W0 := ⟨_, rfl⟩
  have hsz : W0.heap.size = w.heap.size + 1 + 1 + 1 + 1 + 1 + 1 := by rw [← hW0]; simp
  rw [hW0] at b0 b1 b2 b3 b4 b5 hb ⊢
  clear hW0
  have HS := Lib.hid hsz
  refine wpIn_rangeFunc_ownG rfl (by omega) (gf := 61) (lb := #[.pointer (some ⟨w.heap.size + 1 + 1 + 1 + 1 + 1, 0, none⟩)]) rfl trivial (enters_of Try.func61 (by kernel_rfl) rfl)
    (fields_stops Fence.wide 5 trivial rfl (by omega) (w.heap.size + 1 + 1 + 1 + 1 + 1) w.heap.size A c ws HOK.out (by rw [HM.out]; exact hlen) W0 (by omega) (by omega) (by rw [HM.out]; exact b5.cell)
      (fun i hi => by
        obtain ⟨b, off, e, hlt, h⟩ := HI.out i (by rw [← HM.out]; exact hi)
        exact ⟨b, off, e, hlt, (hb.cell (p := ⟨b, off + i, none⟩) hlt).trans h⟩))
    KeepB.trans (KeepB.putObj (by omega) (by omega)) (Below.refl _ _) (fun _ => rfl)
    (fun pre W => (fitsF pre vs ∧ Boxed W w.heap.size 30 (.slice B m d) ∧ Boxed W (w.heap.size + 1) 38 (.int .u64 0) ∧ Boxed W (w.heap.size + 1 + 1) 31 (.int .i64 0) ∧
      Boxed W (w.heap.size + 1 + 1 + 1) 38 (.int .u64 ((wordF pre vs : Nat) : Int)) ∧ Boxed W (w.heap.size + 1 + 1 + 1 + 1) 3 (.int .i64 (pre.length : Int))) ∧ Below w.heap.size w W)
    (fun c pre W => (c = .ret ∧ (∃ (ini : List Fld) (last : Fld), pre = ini ++ [last] ∧ last.mask < vs[ini.length]?.getD 0) ∧ Boxed W (w.heap.size + 1) 38 (.int .u64 0) ∧ Boxed W (w.heap.size + 1 + 1) 31 (.int .i64 1)) ∧ Below w.heap.size w W)
    (OwnFrom.and (Own.from (fun s A B row hs hg hr => ⟨hs.1, boxed_own _ _ (fun _ => _) s A B row hs.2.1 hg hr, boxed_own _ _ (fun _ => _) s A B row hs.2.2.1 hg hr, boxed_own _ _ (fun _ => _) s A B row hs.2.2.2.1 hg hr, boxed_own _ _ (fun _ => _) s A B row hs.2.2.2.2.1 hg hr, boxed_own _ _ (fun _ => _) s A B row hs.2.2.2.2.2 hg hr⟩) _) (ownFrom_below (Nat.le_refl _) (by omega)))
    (fun c => OwnFrom.and (Own.from (fun s A B row hs hg hr => ⟨hs.1, hs.2.1, boxed_own _ _ (fun _ => _) s A B row hs.2.2.1 hg hr, boxed_own _ _ (fun _ => _) s A B row hs.2.2.2 hg hr⟩) _) (ownFrom_below (Nat.le_refl _) (by omega)))
    ⟨⟨by intro k hk; simp at hk, b0, b1, b2, b3, b4⟩, hb⟩
    (fun x => { tmps := #[.slice A m c, .slice B m d, undef, .pointer (some ⟨w.heap.size, 0, none⟩), .pointer (some ⟨w.heap.size + 1, 0, none⟩), .pointer (some ⟨w.heap.size + 1 + 1, 0, none⟩),
      .pointer (some ⟨w.heap.size + 1 + 1 + 1, 0, none⟩), .pointer (some ⟨w.heap.size + 1 + 1 + 1 + 1, 0, none⟩), .int .i64 (x.at_ : Int), .int .u64 (x.mask : Int), .slice A m c, .int .i64 m, .slice B m d, .int .i64 m, .bool false, .slice A m c,
      .bool true, .bool false, .slice A m c, .func (.func 61) #[] #[.pointer (some ⟨w.heap.size + 1 + 1 + 1 + 1 + 1, 0, none⟩)],
      .int .i64 (x.at_ : Int), .int .u64 (x.mask : Int), undef, undef, undef, undef, undef, undef, undef, undef, undef, undef, undef, undef, undef, undef, undef, undef, undef], defers := [] }) ?assign ?body ?done ?stop
  case assign =>
    intro l x W K hK
    gi_wp2
    exact hK
  case body =>
    rintro l pre x W ⟨⟨hf, c0, c1, c2, c3, c4⟩, hB⟩ hlt
    obtain ⟨b, off, hBe, hbl, hcv⟩ := HV.out pre.length (by rw [← HM.out]; exact hlt)
    have hcv' := (hB.cell (p := ⟨b, off + pre.length, none⟩) hbl).trans hcv
    have hv := hw.at pre.length
    obtain ⟨v, ev⟩ : ∃ v, vs[pre.length]?.getD 0 = v := ⟨_, rfl⟩
    rw [ev] at hcv' hv
    have EV := Lib.hid ev
    have hlt' : pre.length < m := by rw [← HM.out]; exact hlt
    have hat := x.hat
    have hmask := x.hmask
    have hwf := wordF_lt pre vs
    have d0 := c0.cell
    have d1 := c1.cell
    have d1' := c1.frozen
    have d2 := c2.cell
    have d2' := c2.frozen
    have d3 := c3.cell
    have d3' := c3.frozen
    have d4 := c4.cell
    have d4' := c4.frozen
    subst hBe
    clear ev hcv hlt
    by_cases hm : x.mask < v
    · gi_wp2
      refine ⟨((KeepsOthers.setCell _ _ _).trans (KeepsOthers.setCell _ _ _)).from _, ⟨rfl, ⟨pre, x, rfl, by rw [EV.out]; exact hm⟩, (c1.set _).other (by omega) _, (c2.other (by omega) _).set _⟩, ?_⟩
      exact (hB.setCell (p := ⟨w.heap.size + 1, 0, none⟩) (by show _ ≤ _ + 1; omega) _).setCell (p := ⟨w.heap.size + 1 + 1, 0, none⟩) (by show _ ≤ _ + 1 + 1; omega) _
    · gi_wp2
      clear b0 b1 b2 b3 b4 b5 hb hsz HS HI HA HOK Hd hw
      have hmix : Try.prog.follows .mixedOrders = true := by kernel_rfl
      refine wpIn_region_still_tail 8 hmix (by kernel_rfl) (by rintro ⟨_, _, h⟩; exact h) (by kernel_rfl) ?_
      simp only [List.take_succ_cons, List.take_zero, List.drop_succ_cons, List.drop_zero]
      repeat still_step
      refine wpStill_nil ?_
      go_wp2
      have hz : bits BinOp.or IntKind.u64 ((wordF pre vs : Nat) : Int) (IntKind.u64.wrap ((v : Int) * 2 ^ x.at_)) = ((wordF (pre ++ [x]) vs : Nat) : Int) := by
        rw [wordF_snoc, EV.out, cast_two_pow, ← Int.natCast_mul, wrap_nat, ← Nat.shiftLeft_eq, u64_or_nat _ _ hwf (Nat.mod_lt _ (by omega))]
      rw [hz]
      have f0 := (c0.other (B' := w.heap.size + 1 + 1 + 1) (by omega) (.int .u64 ((wordF (pre ++ [x]) vs : Nat) : Int)))
      have f1 := (c1.other (B' := w.heap.size + 1 + 1 + 1) (by omega) (.int .u64 ((wordF (pre ++ [x]) vs : Nat) : Int)))
      have f2 := (c2.other (B' := w.heap.size + 1 + 1 + 1) (by omega) (.int .u64 ((wordF (pre ++ [x]) vs : Nat) : Int)))
      have f3 := (c3.set (.int .u64 ((wordF (pre ++ [x]) vs : Nat) : Int)))
      have f4 := (c4.other (B' := w.heap.size + 1 + 1 + 1) (by omega) (.int .u64 ((wordF (pre ++ [x]) vs : Nat) : Int)))
      have hk1 := ((KeepB.refl w.heap.size (w.heap.size + 1 + 1 + 1 + 1 + 1) W).setCell (b := w.heap.size + 1 + 1 + 1) (i := 0) (by omega) (by omega) (.int .u64 ((wordF (pre ++ [x]) vs : Nat) : Int))).drew
      have hko := (KeepsOthers.setCell W ⟨w.heap.size + 1 + 1 + 1, 0, none⟩ (.int .u64 ((wordF (pre ++ [x]) vs : Nat) : Int))).trans (KeepsOthers.drew _)
      have hB1 := (hB.setCell (p := ⟨w.heap.size + 1 + 1 + 1, 0, none⟩) (by show _ ≤ _ + 1 + 1 + 1; omega) (.int .u64 ((wordF (pre ++ [x]) vs : Nat) : Int))).drew
      have g4 : (W.setCell ⟨w.heap.size + 1 + 1 + 1, 0, none⟩ (.int .u64 ((wordF (pre ++ [x]) vs : Nat) : Int))).drew.cell? ⟨w.heap.size + 1 + 1 + 1 + 1, 0, none⟩ = _ := f4.cell
      have g4' : (W.setCell ⟨w.heap.size + 1 + 1 + 1, 0, none⟩ (.int .u64 ((wordF (pre ++ [x]) vs : Nat) : Int))).drew.frozen? ⟨w.heap.size + 1 + 1 + 1 + 1, 0, none⟩ = _ := f4.frozen
      change Boxed (W.setCell _ _).drew _ _ _ at f0 f1 f2 f3 f4
      clear d0 d1 d1' d2 d2' d3 d3' d4 d4' hz hcv' c0 c1 c2 c3 c4
      generalize (W.setCell _ _).drew = W2 at f0 f1 f2 f3 f4 hk1 hko hB1 g4 g4' ⊢
      gi_wp2
      refine ⟨(hko.trans (KeepsOthers.setCell _ _ _)).from _, hk1.setCell (by omega) (by omega) _, ⟨fitsF_snoc _ _ _ hf (by rw [EV.out]; omega), f0.other (by omega) _, f1.other (by omega) _, f2.other (by omega) _, f3.other (by omega) _, ?_⟩, hB1.setCell (p := ⟨w.heap.size + 1 + 1 + 1 + 1, 0, none⟩) (by show _ ≤ _ + 1 + 1 + 1 + 1; omega) _⟩
      have := f4.set (.int .i64 ((pre.length : Int) + 1))
      rw [show ((pre ++ [x]).length : Int) = (pre.length : Int) + 1 by simp]
      exact this
  case done =>
    rintro D ys W hD rfl ⟨⟨hf, c0, c1, c2, c3, c4⟩, hB⟩ hK
    have d1 := c1.cell
    have d1' := c1.frozen
    have d2 := c2.cell
    have d2' := c2.frozen
    have d3 := c3.cell
    gi_wp2
    have e1 := (c1.set (.int .u64 ((wordF (upto (fldOf ws) ws.length) vs : Nat) : Int))).other (B' := w.heap.size + 1 + 1) (by omega) (.int .i64 0)
    have e2 := (c2.other (B' := w.heap.size + 1) (by omega) (.int .u64 ((wordF (upto (fldOf ws) ws.length) vs : Nat) : Int))).set (.int .i64 0)
    have hK2 := ((KeepsOthers.setCell W ⟨w.heap.size + 1, 0, none⟩ (.int .u64 ((wordF (upto (fldOf ws) ws.length) vs : Nat) : Int))).trans (KeepsOthers.setCell _ ⟨w.heap.size + 1 + 1, 0, none⟩ (.int .i64 0))).same D _ hK rfl
    have hB2 := (hB.setCell (p := ⟨w.heap.size + 1, 0, none⟩) (by show _ ≤ _ + 1; omega) (.int .u64 ((wordF (upto (fldOf ws) ws.length) vs : Nat) : Int))).setCell (p := ⟨w.heap.size + 1 + 1, 0, none⟩) (by show _ ≤ _ + 1 + 1; omega) (.int .i64 0)
    generalize ((W.setCell _ _).setCell _ _) = W2 at e1 e2 hK2 hB2 ⊢
    refine ⟨by simp, .inl ⟨_, _, rfl, run_takeDeferred hK2, ?_⟩⟩
    have hc1 := (e1.kept (grownBy_putObj' W2 D (.deferred none)) (by simp; omega)).cell
    have hc2 := (e2.kept (grownBy_putObj' W2 D (.deferred none)) (by simp; omega)).cell
    refine ⟨.tuple #[.int .u64 ((wordF (upto (fldOf ws) ws.length) vs : Nat) : Int), .int .i64 0], by simp [results, Try.f44, go_sem, hc1, hc2], hB2.trans (belowK_b (w := w) (Nat.le_refl _) W2 D _ _ (by omega) hK2 rfl rfl), .inl ⟨by rw [HM.out], by rw [← HM.out]; exact hf⟩⟩
  case stop =>
    rintro D c pre W hD ⟨k, hk, rfl⟩ ⟨⟨rfl, ⟨ini, last, e1, e2⟩, c1, c2⟩, hB⟩ hK
    gi_wp2
    refine ⟨by simp, .inl ⟨_, _, rfl, run_takeDeferred hK, ?_⟩⟩
    have hc1 := (c1.kept (grownBy_putObj' W D (.deferred none)) (by simp; omega)).cell
    have hc2 := (c2.kept (grownBy_putObj' W D (.deferred none)) (by simp; omega)).cell
    refine ⟨.tuple #[.int .u64 0, .int .i64 1], by simp [results, Try.f44, go_sem, hc1, hc2], hB.trans (belowK_b (w := w) (Nat.le_refl _) W D _ _ (by omega) hK rfl rfl), .inr ⟨rfl, ?_⟩⟩
    intro hfit
    obtain ⟨k', rfl⟩ : ∃ k', k = k' + 1 := by
      cases k with
      | zero => simp [upto] at e1
      | succ k' => exact ⟨k', rfl⟩
    rw [upto_succ] at e1
    obtain ⟨rfl, e5⟩ := List.append_inj' e1 rfl
    obtain rfl : fldOf ws k' = last := by simpa using e5
    rw [upto_length] at e2
    have hlt : k' < (upto (fldOf ws) m).length := by rw [upto_length, ← HM.out]; omega
    have := hfit k' hlt (fldOf ws k') (by simp [upto, ← HM.out, show k' < ws.length by omega])
    omega

end Go.Proofs.Ytjnkajdfdhockaa
