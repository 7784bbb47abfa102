/-
  The reader of numbers (volumegroupmake.Src): New, Raw, N, Range.
  The reference's checksum (volumegroupref01): step, feed, word, Extend, Words, Short.
  The checksum by a table (checksum): newTable.
  The checksum by a table (checksum): spread (the bytes of words, an iterator).
  The checksum by a table (checksum): run, Extend, Words.
-/
import Derived.Test.YtpiffapnbjnjiaaGa
import Derived.Test.YtpiffapnbjnjiaaRows
import Derived.Deep.MidRow
import Derived.Deep.WholeRow
namespace Go.Proofs.Ytpiffapnbjnjiaa
set_option linter.unusedVariables false
open Go.RowKit Go.Shelf
attribute [local go_sem] Oper.semAt_some

/-- A field: its lowest bit and its mask. -/
structure Fld where
  at_ : Nat
  mask : Nat
  hat : at_ ≤ 64
  hmask : mask < 18446744073709551616

abbrev encF (x : Fld) : Array Value := #[.int .i64 (x.at_ : Int), .int .u64 (x.mask : Int)]

theorem mask_lt (x : Int) (h : x ≤ 64) : maskOf x < 18446744073709551616 := by
  unfold maskOf
  have : 2 ^ x.toNat ≤ 2 ^ 64 := Nat.pow_le_pow_right (by omega) (by omega)
  have : 0 < 2 ^ x.toNat := Nat.pow_pos (by omega)
  omega

theorem mask_nat : ∀ k : Fin 65, 18446744073709551615 / 2 ^ (64 - k.val) = 2 ^ k.val - 1 := by decide

theorem mask_int (x : Int) (h1 : 1 ≤ x) (h2 : x ≤ 64) : ((maskOf x : Nat) : Int) = 18446744073709551615 / 2 ^ (64 - x).toNat := by
  have h := mask_nat ⟨x.toNat, by omega⟩
  have e : (64 - x).toNat = 64 - x.toNat := by omega
  rw [e, cast_two_pow]
  unfold maskOf
  rw [← h]
  rfl

/-- Field k of these widths. -/
def fldOf (ws : List Int) (k : Nat) : Fld :=
  ⟨min (fldAt ws k) 64, min (maskOf (ws[k]?.getD 0)) 18446744073709551615, by omega, by omega⟩

set_option maxRecDepth 100000 in
set_option maxHeartbeats 1000000 in
theorem fields1_in (F : Fence) (n : Nat) (h35 : F.fn 73) (hro : F.round = none) (hn : 1 ≤ n) (l Bs n₀ : Nat) (A : Option Addr) (cap : Nat) (ws : List Int) (hok : okW 0 ws = true)
    (hlen : ws.length ≤ 1000000) (J Jx : List Fld → World → Prop)
    (hY : ∀ pre x W, J pre W → pre.length < ws.length → YieldAt F (n - 1) Try.prog l (encF x) W fun e W' =>
      (e = .returned (.bool true) ∧ J (pre ++ [x]) W' ∧ KeepB n₀ Bs W W') ∨ (e = .returned (.bool false) ∧ Jx (pre ++ [x]) W'))
    (W : World) (hBs : W.cell? ⟨Bs, 0, none⟩ = some (.slice A ws.length cap))
    (hA : ∀ i, i < ws.length → ∃ b off, A = some ⟨b, off, none⟩ ∧ b < n₀ ∧ W.cell? ⟨b, off + i, none⟩ = some (.int .i64 (ws[i]?.getD 0))) (h0 : J [] W) :
    CallsIn F n Try.prog 73 #[.func (.yield l) #[] #[], .pointer (some ⟨Bs, 0, none⟩)] W fun e W' => (∃ v, e = .returned v) ∧
      ((∃ ys, ys = upto (fldOf ws) ws.length ∧ J ys W') ∨ (∃ pre, (∃ k, k ≤ ws.length ∧ pre = upto (fldOf ws) k) ∧ Jx pre W')) := by
  obtain ⟨m, hm⟩ : ∃ m, ws.length = m := ⟨_, rfl⟩
  have HM := Lib.hid hm
  rw [hm] at hlen hBs hA hY ⊢
  clear hm
  have HA := Lib.hid hA
  have HOK := Lib.hid hok
  clear hA hok
  refine callsIn_of_wp Try.func73 rfl h35 ?_ hro
  simp only [Try.ntmps73, List.size_toArray, List.length_cons, List.length_nil, Nat.reduceAdd, Nat.reduceSub, Array.replicate_succ, Array.replicate_zero, List.push_toArray, List.append_toArray, List.nil_append, List.cons_append]
  gi_wp2
  gi_loopw [3, 8] (fun s i wr => ∃ (k : Nat) (t : Int), k ≤ m ∧ i = .int .i64 k ∧ s = .int .i64 t ∧ 0 ≤ t ∧ t ≤ 64 ∧ Hid (t = (ws.take k).sum) ∧ J (upto (fldOf ws) k) wr ∧ KeepB n₀ Bs W wr)
    (fun _ i _ => m - (intOf i).toNat)
  case atStart => exact ⟨0, 0, Nat.zero_le _, rfl, rfl, by omega, by omega, by show _ = _; simp, h0, KeepB.refl _ _ _⟩
  case round =>
    obtain ⟨k, t, hk, rfl, rfl, ht0, ht1, hs, hJs, hnx⟩ := hrel
    by_cases hlt : k < m
    · obtain ⟨b, off, rfl, hb, hc1⟩ := HA.out k hlt
      have hc2 := (hnx.below.cell (p := ⟨b, off + k, none⟩) hb).trans hc1
      have hx := okW_at 0 ws k HOK.out (by rw [HM.out]; exact hlt)
      have hts := sum_take_succ ws k (by rw [HM.out]; exact hlt)
      obtain ⟨x, ex⟩ : ∃ x, ws[k]?.getD 0 = x := ⟨_, rfl⟩
      rw [← hs.out, ex] at hx
      rw [← hs.out, ex] at hts
      rw [ex] at hc2
      obtain ⟨fn, tmps, assign, body, hy, hR⟩ := hY _ (fldOf ws k) wr hJs (by rw [upto_length]; exact hlt)
      have e1 : ((fldOf ws k).at_ : Int) = t := by
        show ((min (fldAt ws k) 64 : Nat) : Int) = t
        unfold fldAt
        rw [← hs.out]
        omega
      have e2 : ((fldOf ws k).mask : Int) = 18446744073709551615 / 2 ^ (64 - x).toNat := by
        rw [← mask_int x (by omega) (by omega)]
        show ((min (maskOf (ws[k]?.getD 0)) _ : Nat) : Int) = _
        rw [ex]
        have := mask_lt x (by omega)
        omega
      have hy' : _ := hy
      simp only [encF, e1, e2] at hy'
      clear hy ex hc1
      have HT := Lib.hid hts
      clear hts e1 e2
      gi_wp2
      refine hR.mono ?_
      rintro e W3 (⟨rfl, hJ3, hk3⟩ | ⟨rfl, hJx3⟩)
      · gi_wp2
        go_roundw
        case rel => exact ⟨k + 1, t + x, by omega, by simp, rfl, by omega, by omega, HT.out.symm, by rw [upto_succ]; exact hJ3, hnx.trans hk3⟩
        case measure => simp [intOf]; omega
      · gi_wp2
        refine bodyPost_ret (results_none rfl _ _ _) rfl ?_
        exact ⟨⟨_, rfl⟩, .inr ⟨_, ⟨k + 1, by omega, (upto_succ _ _).symm⟩, hJx3⟩⟩
    · obtain rfl : k = m := by omega
      gi_wp2
      go_end0
      exact ⟨⟨_, rfl⟩, .inl ⟨_, rfl, hJs⟩⟩

set_option maxHeartbeats 1000000 in
theorem fields_in (F : Fence) (n : Nat) (h31 : F.fn 66) (hro : F.round = none) (a : Option Addr) (len cap : Nat) (w : World) :
    CallsIn F n Try.prog 66 #[.slice a len cap] w fun e w' => e = .returned (.func (.func 73) #[] #[.pointer (some ⟨w.heap.size, 0, none⟩)]) ∧ w.alloc (.cells #[.slice a len cap] 22) = w' := by
  refine callsIn_of_wp Try.func66 rfl h31 ?_ hro
  simp only [Try.ntmps66, List.size_toArray, List.length_cons, List.length_nil, Nat.reduceAdd, Nat.reduceSub, Array.replicate_succ, Array.replicate_zero, List.push_toArray, List.append_toArray, List.nil_append, List.cons_append]
  gi_wp2
  go_ret
  exact ⟨rfl, rfl⟩

theorem fields_stops (F : Fence) (n : Nat) (h35 : F.fn 73) (hro : F.round = none) (hn : 1 ≤ n) (Bs n₀ : Nat) (A : Option Addr) (cap : Nat) (ws : List Int) (hok : okW 0 ws = true)
    (hlen : ws.length ≤ 1000000) (w : World) (hBs : Bs < w.heap.size) (hn₀ : n₀ ≤ w.heap.size)
    (hc : w.cell? ⟨Bs, 0, none⟩ = some (.slice A ws.length cap))
    (hA : ∀ i, i < ws.length → ∃ b off, A = some ⟨b, off, none⟩ ∧ b < n₀ ∧ w.cell? ⟨b, off + i, none⟩ = some (.int .i64 (ws[i]?.getD 0))) :
    SeqStopsK F n Try.prog 73 #[.pointer (some ⟨Bs, 0, none⟩)] encF (KeepB n₀ Bs) (fun ys => ys = upto (fldOf ws) ws.length)
      (fun pre => ∃ k, k ≤ ws.length ∧ pre = upto (fldOf ws) k) ws.length w := fun l J Jx W hW _ _ hY h0 =>
  fields1_in F n h35 hro hn l Bs n₀ A cap ws hok hlen J Jx hY W ((hW.cell (p := ⟨Bs, 0, none⟩) (by show Bs < _; omega)).trans hc) (fun i hi => by
    obtain ⟨b, off, e, hb, h⟩ := hA i hi
    exact ⟨b, off, e, hb, (hW.cell (p := ⟨b, off + i, none⟩) (by show b < _; omega)).trans h⟩) h0

/-- The values fit into their fields; the word with them. -/
def fitsF (pre : List Fld) (vs : List Nat) : Prop := ∀ k, k < pre.length → ∀ f, pre[k]? = some f → vs[k]?.getD 0 ≤ f.mask

def wordF : List Fld → List Nat → Nat
  | [], _ => 0
  | f :: pre, vs => (((vs[0]?.getD 0) <<< f.at_) % 18446744073709551616) ||| wordF pre vs.tail

theorem wordF_lt (pre : List Fld) (vs : List Nat) : wordF pre vs < 18446744073709551616 := by
  induction pre generalizing vs with
  | nil => simp [wordF]
  | cons f pre ih => exact or_lt (Nat.mod_lt _ (by omega)) (ih _)

theorem wordF_snoc (pre : List Fld) (x : Fld) (vs : List Nat) : wordF (pre ++ [x]) vs = wordF pre vs ||| (((vs[pre.length]?.getD 0) <<< x.at_) % 18446744073709551616) := by
  induction pre generalizing vs with
  | nil => simp [wordF]
  | cons f pre ih =>
    have h : vs.tail[pre.length]?.getD 0 = vs[pre.length + 1]?.getD 0 := by simp
    simp only [List.cons_append, wordF, ih, List.length_cons, h, Nat.or_assoc]

theorem fitsF_snoc (pre : List Fld) (x : Fld) (vs : List Nat) (h : fitsF pre vs) (hx : vs[pre.length]?.getD 0 ≤ x.mask) : fitsF (pre ++ [x]) vs := by
  intro k hk f hf
  rcases Nat.lt_or_ge k pre.length with h1 | h1
  · rw [List.getElem?_append_left h1] at hf
    exact h k h1 f hf
  · have : k = pre.length := by simp at hk; omega
    subst this
    simp at hf
    subst hf
    exact hx

set_option maxRecDepth 100000 in
set_option maxHeartbeats 1000000 in
theorem fields_ok (A B : Option Addr) (c d : Nat) (ws : List Int) (vs : List Nat) (w : World) (hA : Reads w A (iv ws)) (hB : Reads w B (uv vs)) (hl : ws.length = vs.length) (hlen : ws.length ≤ 1000000) (hok : okW 0 ws = true) (hw : W64 vs) :
    Calls Try.prog 68 #[.slice A ws.length c, .slice B vs.length d] w fun e w' => Below w.heap.size w w' ∧
      ((e = .returned (.tuple #[.int .u64 ((wordF (upto (fldOf ws) ws.length) vs : Nat) : Int), .int .i64 0]) ∧ fitsF (upto (fldOf ws) ws.length) vs) ∨
       (e = .returned (.tuple #[.int .u64 0, .int .i64 1]) ∧ ¬ fitsF (upto (fldOf ws) ws.length) vs)) := by
  refine (callsIn_wide (n := 6)).1 ?_
  obtain ⟨m, hm⟩ : ∃ m, ws.length = m := ⟨_, rfl⟩
  have Hd := Lib.hid (fun W hA => divided_any A c ws W hA hlen)
  have hcv : ∀ i, i < m → ∃ b off, B = some ⟨b, off, none⟩ ∧ b < w.heap.size ∧ w.cell? ⟨b, off + i, none⟩ = some (.int .u64 ((vs[i]?.getD 0 : Nat) : Int)) := by
    intro i hi
    obtain ⟨b, off, e, hb, hc⟩ := hB.u (by omega)
    exact ⟨b, off, e, hb, hc i (by omega)⟩
  have hci : ∀ i, i < m → ∃ b off, A = some ⟨b, off, none⟩ ∧ b < w.heap.size ∧ w.cell? ⟨b, off + i, none⟩ = some (.int .i64 (ws[i]?.getD 0)) := by
    intro i hi
    obtain ⟨b, off, e, hb, hc⟩ := hA.i (by omega)
    exact ⟨b, off, e, hb, hc i (by omega)⟩
  rw [← hl, hm]
  rw [hm, hok] at Hd
  rw [hm] at hlen
  have HM := Lib.hid hm
  have HL := Lib.hid hl
  have HV := Lib.hid hcv
  have HI := Lib.hid hci
  have HOK := Lib.hid hok
  have HA := Lib.hid hA
  clear hm hl hcv hci hok hB hA
  refine callsIn_of_wp_marks Try.func68 rfl trivial ?_ rfl
  simp only [Try.ntmps68, List.size_toArray, List.length_cons, List.length_nil, Nat.reduceAdd, Nat.reduceSub, Array.replicate_succ, Array.replicate_zero, List.push_toArray, List.append_toArray, List.nil_append, List.cons_append]
  gi_wp2_with fail
  refine ⟨trivial, ?_⟩
  refine (callsIn_wide.2 (Hd.out _ (HA.out.keep ((((Below.refl _ w).alloc (Nat.le_refl _) _).alloc (by simp) _).alloc (by simp; omega) _)))).mono ?_
  rintro e w' ⟨rfl, rfl⟩
  gi_wp2_with fail
  refine ⟨trivial, ?_⟩
  refine (fields_in Fence.wide 5 trivial rfl _ _ _ _).mono ?_
  rintro e w' ⟨rfl, rfl⟩
  gi_wp2_with fail
  have b0 := ((((((Boxed.new w 25 (.slice B m d)).alloc (.cells #[.int .u64 0] 28)).alloc (.cells #[.int .i64 0] 36)).alloc (.cells #[.int .u64 0] 28)).alloc (.cells #[.int .i64 0] 3)).alloc (.cells #[.slice A m c] 22))
  have b1 := (((((Boxed.new (w.alloc (.cells #[.slice B m d] 25)) 28 (.int .u64 0)).alloc (.cells #[.int .i64 0] 36)).alloc (.cells #[.int .u64 0] 28)).alloc (.cells #[.int .i64 0] 3)).alloc (.cells #[.slice A m c] 22))
  have b2 := ((((Boxed.new ((w.alloc (.cells #[.slice B m d] 25)).alloc (.cells #[.int .u64 0] 28)) 36 (.int .i64 0)).alloc (.cells #[.int .u64 0] 28)).alloc (.cells #[.int .i64 0] 3)).alloc (.cells #[.slice A m c] 22))
  have b3 := (((Boxed.new (((w.alloc (.cells #[.slice B m d] 25)).alloc (.cells #[.int .u64 0] 28)).alloc (.cells #[.int .i64 0] 36)) 28 (.int .u64 0)).alloc (.cells #[.int .i64 0] 3)).alloc (.cells #[.slice A m c] 22))
  have b4 := ((Boxed.new ((((w.alloc (.cells #[.slice B m d] 25)).alloc (.cells #[.int .u64 0] 28)).alloc (.cells #[.int .i64 0] 36)).alloc (.cells #[.int .u64 0] 28)) 3 (.int .i64 0)).alloc (.cells #[.slice A m c] 22))
  have b5 := (Boxed.new (((((w.alloc (.cells #[.slice B m d] 25)).alloc (.cells #[.int .u64 0] 28)).alloc (.cells #[.int .i64 0] 36)).alloc (.cells #[.int .u64 0] 28)).alloc (.cells #[.int .i64 0] 3)) 22 (.slice A m c))
  have hb : Below w.heap.size w ((((((w.alloc (.cells #[.slice B m d] 25)).alloc (.cells #[.int .u64 0] 28)).alloc (.cells #[.int .i64 0] 36)).alloc (.cells #[.int .u64 0] 28)).alloc (.cells #[.int .i64 0] 3)).alloc (.cells #[.slice A m c] 22)) :=
    ((((((Below.refl _ w).alloc (Nat.le_refl _) _).alloc (by simp) _).alloc (by simp; omega) _).alloc (by simp; omega) _).alloc (by simp; omega) _).alloc (by simp; omega) _
  simp only [World.size_alloc] at b0 b1 b2 b3 b4 b5
  obtain ⟨W0, hW0⟩ : ∃ W0, ((((((w.alloc (.cells #[.slice B m d] 25)).alloc (.cells #[.int .u64 0] 28)).alloc (.cells #[.int .i64 0] 36)).alloc (.cells #[.int .u64 0] 28)).alloc (.cells #[.int .i64 0] 3)).alloc (.cells #[.slice A m c] 22)) = W0 := ⟨_, rfl⟩
  have hsz : W0.heap.size = w.heap.size + 1 + 1 + 1 + 1 + 1 + 1 := by rw [← hW0]; simp
  rw [hW0] at b0 b1 b2 b3 b4 b5 hb ⊢
  clear hW0
  have HS := Lib.hid hsz
  refine wpIn_rangeFunc_ownG rfl (by omega) (gf := 73) (lb := #[.pointer (some ⟨w.heap.size + 1 + 1 + 1 + 1 + 1, 0, none⟩)]) rfl trivial (enters_of Try.func73 (by kernel_rfl) rfl)
    (fields_stops Fence.wide 5 trivial rfl (by omega) (w.heap.size + 1 + 1 + 1 + 1 + 1) w.heap.size A c ws HOK.out (by rw [HM.out]; exact hlen) W0 (by omega) (by omega) (by rw [HM.out]; exact b5.cell)
      (fun i hi => by
        obtain ⟨b, off, e, hlt, h⟩ := HI.out i (by rw [← HM.out]; exact hi)
        exact ⟨b, off, e, hlt, (hb.cell (p := ⟨b, off + i, none⟩) hlt).trans h⟩))
    KeepB.trans (KeepB.putObj (by omega) (by omega)) (Below.refl _ _) (fun _ => rfl)
    (fun pre W => (fitsF pre vs ∧ Boxed W w.heap.size 25 (.slice B m d) ∧ Boxed W (w.heap.size + 1) 28 (.int .u64 0) ∧ Boxed W (w.heap.size + 1 + 1) 36 (.int .i64 0) ∧
      Boxed W (w.heap.size + 1 + 1 + 1) 28 (.int .u64 ((wordF pre vs : Nat) : Int)) ∧ Boxed W (w.heap.size + 1 + 1 + 1 + 1) 3 (.int .i64 (pre.length : Int))) ∧ Below w.heap.size w W)
    (fun c pre W => (c = .ret ∧ (∃ (ini : List Fld) (last : Fld), pre = ini ++ [last] ∧ last.mask < vs[ini.length]?.getD 0) ∧ Boxed W (w.heap.size + 1) 28 (.int .u64 0) ∧ Boxed W (w.heap.size + 1 + 1) 36 (.int .i64 1)) ∧ Below w.heap.size w W)
    (OwnFrom.and (Own.from (fun s A B row hs hg hr => ⟨hs.1, boxed_own _ _ (fun _ => _) s A B row hs.2.1 hg hr, boxed_own _ _ (fun _ => _) s A B row hs.2.2.1 hg hr, boxed_own _ _ (fun _ => _) s A B row hs.2.2.2.1 hg hr, boxed_own _ _ (fun _ => _) s A B row hs.2.2.2.2.1 hg hr, boxed_own _ _ (fun _ => _) s A B row hs.2.2.2.2.2 hg hr⟩) _) (ownFrom_below (Nat.le_refl _) (by omega)))
    (fun c => OwnFrom.and (Own.from (fun s A B row hs hg hr => ⟨hs.1, hs.2.1, boxed_own _ _ (fun _ => _) s A B row hs.2.2.1 hg hr, boxed_own _ _ (fun _ => _) s A B row hs.2.2.2 hg hr⟩) _) (ownFrom_below (Nat.le_refl _) (by omega)))
    ⟨⟨by intro k hk; simp at hk, b0, b1, b2, b3, b4⟩, hb⟩
    (fun x => { tmps := #[.slice A m c, .slice B m d, undef, .pointer (some ⟨w.heap.size, 0, none⟩), .pointer (some ⟨w.heap.size + 1, 0, none⟩), .pointer (some ⟨w.heap.size + 1 + 1, 0, none⟩),
      .pointer (some ⟨w.heap.size + 1 + 1 + 1, 0, none⟩), .pointer (some ⟨w.heap.size + 1 + 1 + 1 + 1, 0, none⟩), .int .i64 (x.at_ : Int), .int .u64 (x.mask : Int), .slice A m c, .int .i64 m, .slice B m d, .int .i64 m, .bool false, .slice A m c,
      .bool true, .bool false, .slice A m c, .func (.func 73) #[] #[.pointer (some ⟨w.heap.size + 1 + 1 + 1 + 1 + 1, 0, none⟩)],
      .int .i64 (x.at_ : Int), .int .u64 (x.mask : Int), undef, undef, undef, undef, undef, undef, undef, undef, undef, undef, undef, undef, undef, undef, undef, undef, undef], defers := [] }) ?assign ?body ?done ?stop
  case assign =>
    intro l x W K hK
    gi_wp2
    exact hK
  case body =>
    rintro l pre x W ⟨⟨hf, c0, c1, c2, c3, c4⟩, hB⟩ hlt
    obtain ⟨b, off, hBe, hbl, hcv⟩ := HV.out pre.length (by rw [← HM.out]; exact hlt)
    have hcv' := (hB.cell (p := ⟨b, off + pre.length, none⟩) hbl).trans hcv
    have hv := hw.at pre.length
    obtain ⟨v, ev⟩ : ∃ v, vs[pre.length]?.getD 0 = v := ⟨_, rfl⟩
    rw [ev] at hcv' hv
    have EV := Lib.hid ev
    have hlt' : pre.length < m := by rw [← HM.out]; exact hlt
    have hat := x.hat
    have hmask := x.hmask
    have hwf := wordF_lt pre vs
    have d0 := c0.cell
    have d1 := c1.cell
    have d1' := c1.frozen
    have d2 := c2.cell
    have d2' := c2.frozen
    have d3 := c3.cell
    have d3' := c3.frozen
    have d4 := c4.cell
    have d4' := c4.frozen
    subst hBe
    clear ev hcv hlt
    by_cases hm : x.mask < v
    · gi_wp2
      refine ⟨((KeepsOthers.setCell _ _ _).trans (KeepsOthers.setCell _ _ _)).from _, ⟨rfl, ⟨pre, x, rfl, by rw [EV.out]; exact hm⟩, (c1.set _).other (by omega) _, (c2.other (by omega) _).set _⟩, ?_⟩
      exact (hB.setCell (p := ⟨w.heap.size + 1, 0, none⟩) (by show _ ≤ _ + 1; omega) _).setCell (p := ⟨w.heap.size + 1 + 1, 0, none⟩) (by show _ ≤ _ + 1 + 1; omega) _
    · gi_wp2
      clear b0 b1 b2 b3 b4 b5 hb hsz HS HI HA HOK Hd hw
      have hmix : Try.prog.follows .mixedOrders = true := by kernel_rfl
      refine wpIn_region_still_tail 8 hmix (by kernel_rfl) (by rintro ⟨_, _, h⟩; exact h) (by kernel_rfl) ?_
      simp only [List.take_succ_cons, List.take_zero, List.drop_succ_cons, List.drop_zero]
      repeat still_step
      refine wpStill_nil ?_
      go_wp2
      have hz : bits BinOp.or IntKind.u64 ((wordF pre vs : Nat) : Int) (IntKind.u64.wrap ((v : Int) * 2 ^ x.at_)) = ((wordF (pre ++ [x]) vs : Nat) : Int) := by
        rw [wordF_snoc, EV.out, cast_two_pow, ← Int.natCast_mul, wrap_nat, ← Nat.shiftLeft_eq, u64_or_nat _ _ hwf (Nat.mod_lt _ (by omega))]
      rw [hz]
      have f0 := (c0.other (B' := w.heap.size + 1 + 1 + 1) (by omega) (.int .u64 ((wordF (pre ++ [x]) vs : Nat) : Int)))
      have f1 := (c1.other (B' := w.heap.size + 1 + 1 + 1) (by omega) (.int .u64 ((wordF (pre ++ [x]) vs : Nat) : Int)))
      have f2 := (c2.other (B' := w.heap.size + 1 + 1 + 1) (by omega) (.int .u64 ((wordF (pre ++ [x]) vs : Nat) : Int)))
      have f3 := (c3.set (.int .u64 ((wordF (pre ++ [x]) vs : Nat) : Int)))
      have f4 := (c4.other (B' := w.heap.size + 1 + 1 + 1) (by omega) (.int .u64 ((wordF (pre ++ [x]) vs : Nat) : Int)))
      have hk1 := ((KeepB.refl w.heap.size (w.heap.size + 1 + 1 + 1 + 1 + 1) W).setCell (b := w.heap.size + 1 + 1 + 1) (i := 0) (by omega) (by omega) (.int .u64 ((wordF (pre ++ [x]) vs : Nat) : Int))).drew
      have hko := (KeepsOthers.setCell W ⟨w.heap.size + 1 + 1 + 1, 0, none⟩ (.int .u64 ((wordF (pre ++ [x]) vs : Nat) : Int))).trans (KeepsOthers.drew _)
      have hB1 := (hB.setCell (p := ⟨w.heap.size + 1 + 1 + 1, 0, none⟩) (by show _ ≤ _ + 1 + 1 + 1; omega) (.int .u64 ((wordF (pre ++ [x]) vs : Nat) : Int))).drew
      have g4 : (W.setCell ⟨w.heap.size + 1 + 1 + 1, 0, none⟩ (.int .u64 ((wordF (pre ++ [x]) vs : Nat) : Int))).drew.cell? ⟨w.heap.size + 1 + 1 + 1 + 1, 0, none⟩ = _ := f4.cell
      have g4' : (W.setCell ⟨w.heap.size + 1 + 1 + 1, 0, none⟩ (.int .u64 ((wordF (pre ++ [x]) vs : Nat) : Int))).drew.frozen? ⟨w.heap.size + 1 + 1 + 1 + 1, 0, none⟩ = _ := f4.frozen
      change Boxed (W.setCell _ _).drew _ _ _ at f0 f1 f2 f3 f4
      clear d0 d1 d1' d2 d2' d3 d3' d4 d4' hz hcv' c0 c1 c2 c3 c4
      generalize (W.setCell _ _).drew = W2 at f0 f1 f2 f3 f4 hk1 hko hB1 g4 g4' ⊢
      gi_wp2
      refine ⟨(hko.trans (KeepsOthers.setCell _ _ _)).from _, hk1.setCell (by omega) (by omega) _, ⟨fitsF_snoc _ _ _ hf (by rw [EV.out]; omega), f0.other (by omega) _, f1.other (by omega) _, f2.other (by omega) _, f3.other (by omega) _, ?_⟩, hB1.setCell (p := ⟨w.heap.size + 1 + 1 + 1 + 1, 0, none⟩) (by show _ ≤ _ + 1 + 1 + 1 + 1; omega) _⟩
      have := f4.set (.int .i64 ((pre.length : Int) + 1))
      rw [show ((pre ++ [x]).length : Int) = (pre.length : Int) + 1 by simp]
      exact this
  case done =>
    rintro D ys W hD rfl ⟨⟨hf, c0, c1, c2, c3, c4⟩, hB⟩ hK
    have d1 := c1.cell
    have d1' := c1.frozen
    have d2 := c2.cell
    have d2' := c2.frozen
    have d3 := c3.cell
    gi_wp2
    have e1 := (c1.set (.int .u64 ((wordF (upto (fldOf ws) ws.length) vs : Nat) : Int))).other (B' := w.heap.size + 1 + 1) (by omega) (.int .i64 0)
    have e2 := (c2.other (B' := w.heap.size + 1) (by omega) (.int .u64 ((wordF (upto (fldOf ws) ws.length) vs : Nat) : Int))).set (.int .i64 0)
    have hK2 := ((KeepsOthers.setCell W ⟨w.heap.size + 1, 0, none⟩ (.int .u64 ((wordF (upto (fldOf ws) ws.length) vs : Nat) : Int))).trans (KeepsOthers.setCell _ ⟨w.heap.size + 1 + 1, 0, none⟩ (.int .i64 0))).same D _ hK rfl
    have hB2 := (hB.setCell (p := ⟨w.heap.size + 1, 0, none⟩) (by show _ ≤ _ + 1; omega) (.int .u64 ((wordF (upto (fldOf ws) ws.length) vs : Nat) : Int))).setCell (p := ⟨w.heap.size + 1 + 1, 0, none⟩) (by show _ ≤ _ + 1 + 1; omega) (.int .i64 0)
    generalize ((W.setCell _ _).setCell _ _) = W2 at e1 e2 hK2 hB2 ⊢
    refine ⟨by simp, .inl ⟨_, _, rfl, run_takeDeferred hK2, ?_⟩⟩
    have hc1 := (e1.kept (grownBy_putObj' W2 D (.deferred none)) (by simp; omega)).cell
    have hc2 := (e2.kept (grownBy_putObj' W2 D (.deferred none)) (by simp; omega)).cell
    refine ⟨.tuple #[.int .u64 ((wordF (upto (fldOf ws) ws.length) vs : Nat) : Int), .int .i64 0], by simp [results, Try.f68, go_sem, hc1, hc2], hB2.trans (belowK_b (w := w) (Nat.le_refl _) W2 D _ _ (by omega) hK2 rfl rfl), .inl ⟨by rw [HM.out], by rw [← HM.out]; exact hf⟩⟩
  case stop =>
    rintro D c pre W hD ⟨k, hk, rfl⟩ ⟨⟨rfl, ⟨ini, last, e1, e2⟩, c1, c2⟩, hB⟩ hK
    gi_wp2
    refine ⟨by simp, .inl ⟨_, _, rfl, run_takeDeferred hK, ?_⟩⟩
    have hc1 := (c1.kept (grownBy_putObj' W D (.deferred none)) (by simp; omega)).cell
    have hc2 := (c2.kept (grownBy_putObj' W D (.deferred none)) (by simp; omega)).cell
    refine ⟨.tuple #[.int .u64 0, .int .i64 1], by simp [results, Try.f68, go_sem, hc1, hc2], hB.trans (belowK_b (w := w) (Nat.le_refl _) W D _ _ (by omega) hK rfl rfl), .inr ⟨rfl, ?_⟩⟩
    intro hfit
    obtain ⟨k', rfl⟩ : ∃ k', k = k' + 1 := by
      cases k with
      | zero => simp [upto] at e1
      | succ k' => exact ⟨k', rfl⟩
    rw [upto_succ] at e1
    obtain ⟨rfl, e5⟩ := List.append_inj' e1 rfl
    obtain rfl : fldOf ws k' = last := by simpa using e5
    rw [upto_length] at e2
    have hlt : k' < (upto (fldOf ws) m).length := by rw [upto_length, ← HM.out]; omega
    have := hfit k' hlt (fldOf ws k') (by simp [upto, ← HM.out, show k' < ws.length by omega])
    omega

end Go.Proofs.Ytpiffapnbjnjiaa

namespace Go.Proofs.Ytpiffapnbjnjiaa
set_option linter.unusedVariables false
open Go.RowKit
open Go.RowKit Go.Shelf
attribute [local go_sem] Oper.semAt_some

set_option maxHeartbeats 400000 in
theorem fields_size (A B : Option Addr) (c d : Nat) (n m : Nat) (w : World) (h : n ≠ m) :
    Calls Try.prog 68 #[.slice A n c, .slice B m d] w fun e w' => e = .returned (.tuple #[.int .u64 0, .int .i64 3]) ∧ Below w.heap.size w w' := by
  have H1 : ((n : Int) != (m : Int)) = true := by simp; omega
  go_enter Try.func68, Try.ntmps68
  go_wp2
  refine bodyPost_ret (v := .tuple #[.int .u64 0, .int .i64 3]) (by simp [results, Try.f68, go_sem]) rfl ⟨rfl, ?_⟩
  exact ((((Below.refl _ w).alloc (Nat.le_refl _) _).alloc (by simp) _).alloc (by simp; omega) _)

set_option maxHeartbeats 400000 in
theorem fields_range (A B : Option Addr) (c d : Nat) (ws : List Int) (w : World) (hA : Reads w A (iv ws)) (hlen : ws.length ≤ 1000000) (hok : okW 0 ws = false) :
    Calls Try.prog 68 #[.slice A ws.length c, .slice B ws.length d] w fun e w' => e = .returned (.tuple #[.int .u64 0, .int .i64 1]) ∧ Below w.heap.size w w' := by
  have Hd := Lib.hid (fun W hA => divided_any A c ws W hA hlen)
  rw [hok] at Hd
  clear hok
  go_enter Try.func68, Try.ntmps68
  go_wp2_with fail
  refine (Hd.out _ (hA.keep ((((Below.refl _ w).alloc (Nat.le_refl _) _).alloc (by simp) _).alloc (by simp; omega) _))).mono ?_
  rintro e w' ⟨rfl, rfl⟩
  go_wp2_with fail
  refine bodyPost_ret (v := .tuple #[.int .u64 0, .int .i64 1]) (by simp [results, Try.f68, go_sem]) rfl ⟨rfl, ?_⟩
  exact ((((Below.refl _ w).alloc (Nat.le_refl _) _).alloc (by simp) _).alloc (by simp; omega) _)

def fitsB : List Fld → List Nat → Bool
  | [], _ => true
  | f :: pre, vs => decide (vs[0]?.getD 0 ≤ f.mask) && fitsB pre vs.tail

theorem fitsB_iff (pre : List Fld) (vs : List Nat) : fitsF pre vs ↔ fitsB pre vs = true := by
  induction pre generalizing vs with
  | nil => exact ⟨fun _ => rfl, fun _ k hk => by simp at hk⟩
  | cons f pre ih =>
    simp only [fitsB, Bool.and_eq_true, decide_eq_true_eq, ← ih]
    constructor
    · intro h
      refine ⟨h 0 (by simp) f rfl, fun k hk g hg => ?_⟩
      have := h (k + 1) (by simpa using hk) g (by simpa using hg)
      simpa using this
    · rintro ⟨h0, h1⟩ k hk g hg
      cases k with
      | zero => simp at hg; subst hg; exact h0
      | succ k => have := h1 k (by simpa using hk) g (by simpa using hg); simpa using this

theorem fldOf_at (ws : List Int) (k : Nat) (t : Int) (ht : t = (ws.take k).sum) (h0 : 0 ≤ t) (h1 : t ≤ 64) : (fldOf ws k).at_ = t.toNat := by
  show min (fldAt ws k) 64 = _
  unfold fldAt
  rw [← ht]
  omega

theorem fldOf_mask (ws : List Int) (k : Nat) (x : Int) (hx : ws[k]?.getD 0 = x) (h1 : x ≤ 64) : (fldOf ws k).mask = 2 ^ x.toNat - 1 := by
  show min (maskOf (ws[k]?.getD 0)) _ = _
  rw [hx]
  have := mask_lt x h1
  unfold maskOf at *
  omega

/-- What Fields answers. -/
def wordR (ws : List Int) (vs : List Nat) : Nat := if ws.length = vs.length ∧ okW 0 ws = true ∧ fitsB (upto (fldOf ws) ws.length) vs = true then wordF (upto (fldOf ws) ws.length) vs else 0

def wordE (ws : List Int) (vs : List Nat) : Int := if ws.length ≠ vs.length then 3 else if okW 0 ws = true ∧ fitsB (upto (fldOf ws) ws.length) vs = true then 0 else 1

theorem fields_all (A B : Option Addr) (c d n m : Nat) (ws : List Int) (vs : List Nat) (w : World) (hn : ws.length = n) (hm : vs.length = m) (hA : Reads w A (iv ws)) (hB : Reads w B (uv vs)) (hlen : n ≤ 1000000) (hw : W64 vs) :
    Calls Try.prog 68 #[.slice A n c, .slice B m d] w fun e w' => e = .returned (.tuple #[.int .u64 ((wordR ws vs : Nat) : Int), .int .i64 (wordE ws vs)]) ∧ Below w.heap.size w w' := by
  subst hn hm
  unfold wordR wordE
  by_cases hl : ws.length = vs.length
  · by_cases hok : okW 0 ws = true
    · refine (fields_ok A B c d ws vs w hA hB hl hlen hok hw).mono ?_
      rintro e w' ⟨hb, ⟨rfl, hf⟩ | ⟨rfl, hf⟩⟩
      · rw [fitsB_iff] at hf
        rw [if_pos ⟨hl, hok, hf⟩, if_neg (fun h => h hl), if_pos ⟨hok, hf⟩]
        exact ⟨rfl, hb⟩
      · rw [fitsB_iff] at hf
        rw [if_neg (fun h => hf h.2.2), if_neg (fun h => h hl), if_neg (fun h => hf h.2)]
        exact ⟨rfl, hb⟩
    · rw [if_neg (fun h => hok h.2.1), if_neg (fun h => h hl), if_neg (fun h => hok h.1), ← hl]
      exact fields_range A B c d ws w hA hlen (by simpa using hok)
  · rw [if_neg (fun h => hl h.1), if_pos hl]
    exact fields_size A B c d _ _ w hl

/-- The values of the fields of x. -/
def splitF (pre : List Fld) (x : Nat) : List Nat := pre.map fun f => (x >>> f.at_) &&& f.mask

theorem splitF_length (pre : List Fld) (x : Nat) : (splitF pre x).length = pre.length := by simp [splitF]

theorem splitF_snoc (pre : List Fld) (f : Fld) (x : Nat) : splitF (pre ++ [f]) x = splitF pre x ++ [(x >>> f.at_) &&& f.mask] := by simp [splitF]

set_option maxHeartbeats 400000 in
theorem split_range (x : Int) (A : Option Addr) (c : Nat) (ws : List Int) (w : World) (hA : Reads w A (iv ws)) (hlen : ws.length ≤ 1000000) (hok : okW 0 ws = false) :
    Calls Try.prog 45 #[.int .u64 x, .slice A ws.length c] w fun e w' => e = .returned (.tuple #[.slice none 0 0, .int .i64 1]) ∧ Below w.heap.size w w' := by
  have Hd := Lib.hid (fun W hA => divided_any A c ws W hA hlen)
  rw [hok] at Hd
  clear hok
  go_enter Try.func45, Try.ntmps45
  go_wp2_with fail
  refine (Hd.out _ (hA.keep ((Below.refl _ w).alloc (Nat.le_refl _) _))).mono ?_
  rintro e w' ⟨rfl, rfl⟩
  go_wp2_with fail
  go_ret2
  exact ⟨rfl, (Below.refl _ w).alloc (Nat.le_refl _) _⟩

/-- 'out = append(out, ..)' in a round, where the row lies beyond nR and the variable's box lies below it. -/
theorem Boxed.appended2 {W w1 : World} {nR n₀ B : Nat} {t e : TypeId} {size : Nat} {v v' : Value} {k m : Nat} {xs ys : List Value} {tmp : Obj}
    (hv : Boxed W B t v) (hte : t ≠ e) (hrow : W.ownsRow nR e size v k xs) (hnR : nR ≤ W.heap.size) (hn : n₀ ≤ B) (hBR : B < nR)
    (hown' : w1.ownsRow nR e size v' m ys) (hgrow : (W.alloc tmp).grownBy w1 v.ownBlock) :
    Boxed w1 B t v ∧ Boxed (w1.setCell ⟨B, 0, none⟩ v') B t v' ∧ (w1.setCell ⟨B, 0, none⟩ v').ownsRow nR e size v' m ys ∧ KeepsOthers W (w1.setCell ⟨B, 0, none⟩ v') ∧ Below n₀ W (w1.setCell ⟨B, 0, none⟩ v') ∧
      ∀ b, b < nR → b ≠ B → (w1.setCell ⟨B, 0, none⟩ v').heap[b]? = W.heap[b]? := by
  have hv1 : Boxed w1 B t v := (hv.alloc tmp).kept hgrow (hv.not_row hte hrow)
  have hBl : Below nR W w1 := by
    refine ((Below.refl nR W).alloc hnR tmp).grown hgrow (by simp; omega) fun j ej => ?_
    rcases hrow.2 with ⟨rfl, _⟩ | ⟨g, cap, cur, rfl, hb, _, _⟩
    · simp [Value.ownBlock] at ej
    · obtain rfl : g = j := by simpa [Value.ownBlock] using ej
      exact hb
  refine ⟨hv1, hv1.set v', hown'.kept (grownBy_setCell' w1 B v') (.inr (hv1.not_row hte hown').symm), ?_, ?_, ?_⟩
  · refine ((KeepsOthers.alloc W tmp).trans (KeepsOthers.of_grownBy hgrow fun j o ej hj => ?_)).trans (KeepsOthers.setCell _ _ _)
    rcases (hrow.alloc tmp).2 with ⟨rfl, _⟩ | ⟨g, cap, cur, rfl, _, hgb, _⟩
    · simp [Value.ownBlock] at ej
    · obtain rfl : g = j := by simpa [Value.ownBlock] using ej
      rw [hgb] at hj; cases hj; rfl
  · exact (hBl.mono (by omega)).setCell (p := ⟨B, 0, none⟩) hn v'
  · intro b hb hne
    exact (Below.heap_setCell _ _ _ _ hne).trans (hBl.block b hb)

set_option maxRecDepth 100000 in
set_option maxHeartbeats 1000000 in
theorem split_ok (x : Nat) (A : Option Addr) (c : Nat) (ws : List Int) (w : World) (hA : Reads w A (iv ws)) (hlen : ws.length ≤ 1000000) (hok : okW 0 ws = true) (hx : x < 18446744073709551616) :
    Calls Try.prog 45 #[.int .u64 x, .slice A ws.length c] w fun e w' => ∃ v, e = .returned (.tuple #[v, .int .i64 0]) ∧ w'.ownsRow w.heap.size 28 1 v ws.length (uv (splitF (upto (fldOf ws) ws.length) x)) ∧ Below w.heap.size w w' := by
  refine (callsIn_wide (n := 6)).1 ?_
  obtain ⟨i0, hi0, hz0, hz1, hz2⟩ := info_parts u64_info
  obtain ⟨m, hm⟩ : ∃ m, ws.length = m := ⟨_, rfl⟩
  have Hd := Lib.hid (fun W hA => divided_any A c ws W hA hlen)
  have hci : ∀ i, i < m → ∃ b off, A = some ⟨b, off, none⟩ ∧ b < w.heap.size ∧ w.cell? ⟨b, off + i, none⟩ = some (.int .i64 (ws[i]?.getD 0)) := by
    intro i hi
    obtain ⟨b, off, e, hb, hc⟩ := hA.i (by omega)
    exact ⟨b, off, e, hb, hc i (by omega)⟩
  rw [hm]
  rw [hm, hok] at Hd
  rw [hm] at hlen
  have HM := Lib.hid hm
  have HI := Lib.hid hci
  have HOK := Lib.hid hok
  have HA := Lib.hid hA
  clear hm hci hok hA
  refine callsIn_of_wp_marks Try.func45 rfl trivial ?_ rfl
  simp only [Try.ntmps45, List.size_toArray, List.length_cons, List.length_nil, Nat.reduceAdd, Nat.reduceSub, Array.replicate_succ, Array.replicate_zero, List.push_toArray, List.append_toArray, List.nil_append, List.cons_append]
  gi_wp2_with fail
  refine ⟨trivial, ?_⟩
  refine (callsIn_wide.2 (Hd.out _ (HA.out.keep ((Below.refl _ w).alloc (Nat.le_refl _) _)))).mono ?_
  rintro e w' ⟨rfl, rfl⟩
  gi_wp2_with fail
  refine ⟨trivial, ?_⟩
  refine (fields_in Fence.wide 5 trivial rfl _ _ _ _).mono ?_
  rintro e w' ⟨rfl, rfl⟩
  gi_wp2_with fail
  have b0 := ((Boxed.new w 28 (.int .u64 (x : Int))).alloc (.cells #[.slice none 0 0] 25)).alloc (.cells #[.slice A m c] 22)
  have b1 := (Boxed.new (w.alloc (.cells #[.int .u64 (x : Int)] 28)) 25 (.slice none 0 0)).alloc (.cells #[.slice A m c] 22)
  have b2 := Boxed.new ((w.alloc (.cells #[.int .u64 (x : Int)] 28)).alloc (.cells #[.slice none 0 0] 25)) 22 (.slice A m c)
  have hb : Below w.heap.size w (((w.alloc (.cells #[.int .u64 (x : Int)] 28)).alloc (.cells #[.slice none 0 0] 25)).alloc (.cells #[.slice A m c] 22)) :=
    ((((Below.refl _ w).alloc (Nat.le_refl _) _).alloc (by simp) _).alloc (by simp; omega) _)
  simp only [World.size_alloc] at b0 b1 b2
  obtain ⟨W0, hW0⟩ : ∃ W0, (((w.alloc (.cells #[.int .u64 (x : Int)] 28)).alloc (.cells #[.slice none 0 0] 25)).alloc (.cells #[.slice A m c] 22)) = W0 := ⟨_, rfl⟩
  have hsz : W0.heap.size = w.heap.size + 1 + 1 + 1 := by rw [← hW0]; simp
  rw [hW0] at b0 b1 b2 hb ⊢
  clear hW0
  refine wpIn_rangeFunc_ownG rfl (by omega) (gf := 73) (lb := #[.pointer (some ⟨w.heap.size + 1 + 1, 0, none⟩)]) rfl trivial (enters_of Try.func73 (by kernel_rfl) rfl)
    (fields_stops Fence.wide 5 trivial rfl (by omega) (w.heap.size + 1 + 1) w.heap.size A c ws HOK.out (by rw [HM.out]; exact hlen) W0 (by omega) (by omega) (by rw [HM.out]; exact b2.cell)
      (fun i hi => by
        obtain ⟨b, off, e, hlt, h⟩ := HI.out i (by rw [← HM.out]; exact hi)
        exact ⟨b, off, e, hlt, (hb.cell (p := ⟨b, off + i, none⟩) hlt).trans h⟩))
    KeepB.trans (KeepB.putObj (by omega) (by omega)) (Below.refl _ _) (fun _ => rfl)
    (fun pre W => ((∃ v, Boxed W (w.heap.size + 1) 25 v ∧ W.ownsRow W0.heap.size 28 1 v pre.length (uv (splitF pre x)) ∧ True) ∧ Boxed W w.heap.size 28 (.int .u64 (x : Int))) ∧ Below w.heap.size w W ∧ W0.heap.size ≤ W.heap.size)
    (fun _ _ _ => False)
    (OwnFrom.and (OwnFrom.and (Own.from (holdsRow_own W0.heap.size (w.heap.size + 1) 25 28 1 (fun pre : List Fld => pre.length) (fun pre => uv (splitF pre x)) (fun _ _ => True)) _) (Own.from (boxed_own w.heap.size 28 (fun _ => .int .u64 (x : Int))) _)) (OwnFrom.and (ownFrom_below (Nat.le_refl _) (by omega)) (fun s A B row hs hg hr => Nat.le_trans hs hg.size)))
    (fun c s A B row hs hg hr => hs)
    ⟨⟨⟨_, b1, World.ownsRow_nil _ _ _ _, trivial⟩, b0⟩, hb, Nat.le_refl _⟩
    (fun f => { tmps := #[.int .u64 (x : Int), .slice A m c, .pointer (some ⟨w.heap.size, 0, none⟩), undef, .slice none 0 0, .int .i64 0, .pointer (some ⟨w.heap.size + 1, 0, none⟩), .int .i64 (f.at_ : Int), .int .u64 (f.mask : Int),
      .slice A m c, .bool true, .bool false, .slice A m c, .func (.func 73) #[] #[.pointer (some ⟨w.heap.size + 1 + 1, 0, none⟩)], .int .i64 (f.at_ : Int), .int .u64 (f.mask : Int),
      undef, undef, undef, undef, undef, undef, undef, undef, undef], defers := [] }) ?assign ?body ?done ?stop
  case assign =>
    intro l f W K hK
    gi_wp2
    exact hK
  case body =>
    rintro l pre f W ⟨⟨⟨v, c1, hrow, _⟩, c0⟩, hB, hszW⟩ hlt
    have hmix : Try.prog.follows .mixedOrders = true := by kernel_rfl
    have hat := f.hat
    have hmask := f.hmask
    have hlt' : pre.length < m := by rw [← HM.out]; exact hlt
    obtain ⟨a1, n1, hv⟩ := own_form hrow
    subst hv
    gi_wp2
    refine wpIn_region_mix 6 7 hmix (by kernel_rfl) (by rintro ⟨_, _, h⟩; exact h) (by kernel_rfl) (fun W' => W'.cell? ⟨w.heap.size + 1, 0, none⟩ = some (.slice a1 pre.length n1) ∧ W'.cell? ⟨w.heap.size, 0, none⟩ = some (.int .u64 (x : Int))) ⟨c1.cell, c0.cell⟩ ?_
    simp only [List.take_succ_cons, List.take_zero, List.drop_succ_cons, List.drop_zero]
    refine ⟨?_, Or.inl ⟨by rfl, fun W' hS' => ?_⟩, fun _ _ _ h => h, ?_⟩
    rotate_left
    · obtain ⟨hs1, hs2⟩ := hS'
      go_simp
      with_reducible rfl
    simp only [Act.put, List.setIfInBounds_toArray, List.set_cons_zero, List.set_cons_succ]
    refine ⟨?_, Or.inl ⟨by rfl, fun W' hS' => ?_⟩, fun _ _ _ h => h, ?_⟩
    rotate_left
    · obtain ⟨hs1, hs2⟩ := hS'
      go_simp
      with_reducible rfl
    simp only [Act.put, List.setIfInBounds_toArray, List.set_cons_zero, List.set_cons_succ]
    refine ⟨?_, Or.inl ⟨by rfl, fun W' hS' => ?_⟩, fun _ _ _ h => h, ?_⟩
    rotate_left
    · obtain ⟨hs1, hs2⟩ := hS'
      go_simp
      with_reducible rfl
    simp only [Act.put, List.setIfInBounds_toArray, List.set_cons_zero, List.set_cons_succ]
    refine ⟨?_, Or.inl ⟨by rfl, fun W' hS' => ?_⟩, fun _ _ _ h => h, ?_⟩
    rotate_left
    · obtain ⟨hs1, hs2⟩ := hS'
      go_simp
      with_reducible rfl
    simp only [Act.put, List.setIfInBounds_toArray, List.set_cons_zero, List.set_cons_succ]
    refine ⟨?_, Or.inl ⟨by rfl, fun W' hS' => ?_⟩, fun _ _ _ h => h, ?_⟩
    rotate_left
    · obtain ⟨hs1, hs2⟩ := hS'
      go_simp
      with_reducible rfl
    simp only [Act.put, List.setIfInBounds_toArray, List.set_cons_zero, List.set_cons_succ]
    refine ⟨?_, Or.inl ⟨by rfl, fun W' hS' => ?_⟩, fun _ _ _ h => h, ?_⟩
    rotate_left
    · obtain ⟨hs1, hs2⟩ := hS'
      go_simp
      with_reducible rfl
    simp only [Act.put, List.setIfInBounds_toArray, List.set_cons_zero, List.set_cons_succ]
    show wpSeqT _ _ _ _ _ _ _ _ _
    refine wpSeqT_step (fun K hK => ?_)
    go_simp
    refine hK _ _ (fun _ => ⟨(c1.alloc _).cell, (c0.alloc _).cell⟩) ?_
    clear hK K
    refine wpSeqT_list _ _ _ _ (by omega) ?_
    refine wpList_append_reads _ (by rfl) _ _ _ (by rfl) W0.heap.size 28 i0 _ 1 8 Try.underlying25 hi0 hz0 hz1 hz2 (by rfl) (by omega) (.slice a1 pre.length n1) pre.length (uv (splitF pre x)) (by rfl) (World.ownsRow.drew (hrow.alloc _)) (some ⟨W.heap.size, 0, none⟩) 1 1 [.int .u64 (bits BinOp.and IntKind.u64 ((x : Int) / 2 ^ f.at_) (f.mask : Int))] (by rfl) (by rfl) (Reads.new _ _ _) (by simp [Value.oneCell']) (by simp only [maxLen]; omega) (by omega) (by simp; omega) ?_
    intro v1 w1 hown1 hg1 hat1
    obtain ⟨g1, cap1, rfl⟩ := ownsRow_succ hown1
    obtain ⟨e1, e2, e3, e4, e5, e6⟩ := Boxed.appended2 (W := W.drew) (nR := W0.heap.size) (n₀ := w.heap.size) c1 (by decide) hrow hszW (by omega) (by omega) hown1 hg1
    have e1c := e1.cell
    have e1f := e1.frozen
    replace e5 := (Below.refl w.heap.size W).drew.trans e5
    have hval : bits BinOp.and IntKind.u64 ((x : Int) / 2 ^ f.at_) (f.mask : Int) = (((x >>> f.at_) &&& f.mask : Nat) : Int) := by
      rw [cast_shr, u64_and_nat _ _ (Nat.lt_of_le_of_lt (Nat.shiftRight_le _ _) hx) hmask]
    have hrow2 : (w1.setCell ⟨w.heap.size + 1, 0, none⟩ (.slice (some ⟨g1, 0, none⟩) (pre.length + 1) cap1)).ownsRow W0.heap.size 28 1 (.slice (some ⟨g1, 0, none⟩) (pre.length + 1) cap1) (pre ++ [f]).length (uv (splitF (pre ++ [f]) x)) := by
      rw [splitF_snoc]
      rw [List.length_append, uv_append]
      rw [hval] at e3
      exact e3
    have hk1 : KeepB w.heap.size (w.heap.size + 1 + 1) W (w1.setCell ⟨w.heap.size + 1, 0, none⟩ (.slice (some ⟨g1, 0, none⟩) (pre.length + 1) cap1)) := ⟨e5, e6 _ (by omega) (by omega)⟩
    have c0' : Boxed (w1.setCell ⟨w.heap.size + 1, 0, none⟩ (.slice (some ⟨g1, 0, none⟩) (pre.length + 1) cap1)) w.heap.size 28 (.int .u64 (x : Int)) := (e6 _ (by omega) (by omega)).trans c0
    have hB1 := hB.trans (show Below w.heap.size W _ from e5)
    have hsz1 := Nat.le_trans hszW (show W.heap.size ≤ _ from e4.size)
    have hko := (KeepsOthers.drew W).trans e4
    clear hval e3 e4 e5 e6 c0 c1 hrow hown1 hg1 hat1
    go_wp2
    exact ⟨hko.from _, hk1, ⟨⟨_, e2, hrow2, trivial⟩, c0'⟩, hB1, hsz1⟩
  case done =>
    rintro D ys W hD rfl ⟨⟨⟨v, c1, hrow, _⟩, c0⟩, hB, hszW⟩ hK
    have d1 := c1.cell
    obtain ⟨a1, n1, hv⟩ := own_form hrow
    subst hv
    gi_wp2
    refine ⟨by simp, .inl ⟨_, _, rfl, run_takeDeferred hK, ?_⟩⟩
    refine ⟨.tuple #[.slice a1 (upto (fldOf ws) ws.length).length n1, .int .i64 0], by simp [results, Try.f45, go_sem], _, rfl, ?_, hB.trans (belowK_b (w := w) (Nat.le_refl _) W D _ _ (by omega) hK rfl rfl)⟩
    have h2 := ownsRow_putObj hrow (.deferred none) hK rfl
    rw [upto_length] at h2
    rw [← HM.out]
    rw [upto_length]
    exact ⟨h2.1, h2.2.imp id fun ⟨g, cap, cur, q1, q2, q3⟩ => ⟨g, cap, cur, q1, by omega, q3⟩⟩
  case stop =>
    rintro D c pre W _ _ h _
    exact h.elim

theorem splitF_upto (ws : List Int) (k x y : Nat) (t v : Int) (ht : t = (ws.take k).sum) (h0 : 0 ≤ t) (h1 : t ≤ 64) (hv : ws[k]?.getD 0 = v) (hv1 : v ≤ 64) (hy : y = x >>> t.toNat) :
    splitF (upto (fldOf ws) (k + 1)) x = splitF (upto (fldOf ws) k) x ++ [y &&& (2 ^ v.toNat - 1)] := by
  rw [upto_succ, splitF_snoc, fldOf_at ws k t ht h0 h1, fldOf_mask ws k v hv hv1, hy]

/-- What Split answers. -/
def splitR (ws : List Int) (x : Nat) : List Nat := if okW 0 ws = true then splitF (upto (fldOf ws) ws.length) x else []

def splitE (ws : List Int) : Int := if okW 0 ws = true then 0 else 1

theorem splitR_len (ws : List Int) (x : Nat) : (splitR ws x).length ≤ ws.length := by
  unfold splitR
  split
  · rw [splitF_length, upto_length]; exact Nat.le_refl _
  · exact Nat.zero_le _

theorem splitR_w (ws : List Int) (x : Nat) : W64 (splitR ws x) := by
  unfold splitR splitF
  split
  · intro y hy
    obtain ⟨f, _, rfl⟩ := List.mem_map.1 hy
    exact Nat.lt_of_le_of_lt Nat.and_le_right f.hmask
  · intro y hy; cases hy

theorem split_all (x : Nat) (A : Option Addr) (c n : Nat) (ws : List Int) (w : World) (hn : ws.length = n) (hA : Reads w A (iv ws)) (hlen : n ≤ 1000000) (hx : x < 18446744073709551616) :
    Calls Try.prog 45 #[.int .u64 x, .slice A n c] w fun e w' => ∃ B d, e = .returned (.tuple #[.slice B (splitR ws x).length d, .int .i64 (splitE ws)]) ∧ Reads w' B (uv (splitR ws x)) ∧ Below w.heap.size w w' := by
  subst hn
  unfold splitR splitE
  by_cases hok : okW 0 ws = true
  · rw [if_pos hok, if_pos hok, splitF_length, upto_length]
    refine (split_ok x A c ws w hA hlen hok hx).mono ?_
    rintro e w' ⟨v, rfl, hown, hb⟩
    obtain ⟨B, d, rfl⟩ := own_form hown
    exact ⟨B, d, rfl, Reads.of_own hown, hb⟩
  · rw [if_neg hok, if_neg hok]
    refine (split_range x A c ws w hA hlen (by simpa using hok)).mono ?_
    rintro e w' ⟨rfl, hb⟩
    exact ⟨none, 0, rfl, Reads.nil, hb⟩

end Go.Proofs.Ytpiffapnbjnjiaa

namespace Go.Proofs.Ytpiffapnbjnjiaa
set_option linter.unusedVariables false
open Go.RowKit

/-- Block g is a reader of numbers; what it reads lies in older memory. -/
def SrcAt (W : World) (g : Nat) : Prop :=
  ∃ (w0 : World) (A : Option Addr) (n c : Nat) (at0 : Nat) (L : List Int), W.heap[g]? = some (.cells #[.slice A n c, .int .i64 (at0 : Int)] 71 (0, 0)) ∧
    Reads w0 A (iv L) ∧ L.length = n ∧ I64 L ∧ at0 ≤ n ∧ n ≤ 1000 ∧ w0.heap.size ≤ g ∧ Below w0.heap.size w0 W

theorem SrcAt.lt {W : World} {g : Nat} (h : SrcAt W g) : g < W.heap.size := by
  obtain ⟨w0, A, n, c, at0, L, h1, _⟩ := h
  exact (Array.getElem?_eq_some_iff.1 h1).1
theorem SrcAt.below {W W' : World} {g B : Nat} (h : SrcAt W g) (hb : Below B W W') (hg : g < B) : SrcAt W' g := by
  obtain ⟨w0, A, n, c, at0, L, h1, h2, h3, h4, h5, h6, h7, h8⟩ := h
  exact ⟨w0, A, n, c, at0, L, (hb.block g hg).trans h1, h2, h3, h4, h5, h6, h7, h8.trans (hb.mono (by omega))⟩
theorem SrcAt.grown {W W' : World} {g : Nat} {row : Option Nat} (h : SrcAt W g) (hg : W.grownBy W' row) (hr : ∀ r, row = some r → g < r) : SrcAt W' g := by
  have hlt := h.lt
  exact h.below (B := g + 1) ((Below.refl _ W).grown hg (by omega) (fun k e => by have := hr k e; omega)) (by omega)

theorem only_drewN_refl (W : World) (n : Nat) {row : Option Nat} : W.grownBy (W.drewN n) row := ⟨rfl, rfl, rfl, Nat.le_refl _, fun _ _ _ => rfl⟩
theorem only_drewN' {a w : World} {row : Option Nat} (h : a.grownBy w row) (n : Nat) : a.grownBy (w.drewN n) row := ⟨h.os, h.tape, h.output, h.size, h.block⟩

set_option maxHeartbeats 400000 in
theorem new_any (A : Option Addr) (n c : Nat) (l : List Int) (w : World) (hN : l.length = n) (hA : Reads w A (iv l)) (hw : I64 l) (hl : n ≤ c) :
    Calls Try.prog 7 #[.slice A n c] w fun e w' => e = .returned (.pointer (some ⟨w.heap.size, 0, none⟩)) ∧ SrcAt w' w.heap.size ∧ Below w.heap.size w w' ∧ w'.heap.size = w.heap.size + 1 := by
  by_cases h : 1000 < n
  · have h' : 1000 < (n : Int) := by omega
    have h2 : (1000 : Int) ≤ (c : Int) := by omega
    have h3 : ¬ c < 1000 := by omega
    go_enter Try.func7, Try.ntmps7
    go_wp2
    go_ret
    refine ⟨rfl, ?_, (Below.refl _ _).alloc (Nat.le_refl _) _, by simp⟩
    refine ⟨w, A, 1000, c, 0, l.take 1000, heap_alloc_new w _, ?_, by simp; omega, fun x hx => hw x (List.mem_of_mem_take hx), Nat.zero_le _, by omega, Nat.le_refl _, (Below.refl _ _).alloc (Nat.le_refl _) _⟩
    have := hA.take' 1000
    unfold iv at this ⊢
    rw [List.map_take]
    exact this
  · have h' : ¬ 1000 < (n : Int) := by omega
    go_enter Try.func7, Try.ntmps7
    go_wp2
    go_ret
    refine ⟨rfl, ?_, (Below.refl _ _).alloc (Nat.le_refl _) _, by simp⟩
    exact ⟨w, A, n, c, 0, l, heap_alloc_new w _, hA, hN, hw, Nat.zero_le _, by omega, Nat.le_refl _, (Below.refl _ _).alloc (Nat.le_refl _) _⟩

set_option maxHeartbeats 400000 in
theorem raw_any (g : Nat) (W : World) (h : SrcAt W g) :
    Calls Try.prog 40 #[.pointer (some ⟨g, 0, none⟩)] W fun e W' => ∃ r : Int, e = .returned (.int .i64 r) ∧ -9223372036854775808 ≤ r ∧ r ≤ 9223372036854775807 ∧ SrcAt W' g ∧ W.grownBy W' (some g) := by
  obtain ⟨w0, A, n, c, k, L, h1, h2, h3, h4, h5, h6, h7, h8⟩ := h
  have hc0 : W.cell? ⟨g, 0, none⟩ = some (.slice A n c) := cell_of_row W g 0 _ _ _ h1
  have hc1 : W.cell? ⟨g, 1, none⟩ = some (.int .i64 (k : Int)) := cell_of_row W g 1 _ _ _ h1
  have hf1 : W.frozen? ⟨g, 1, none⟩ = false := frozen_of_row W g 1 _ _ h1
  by_cases hk : k < n
  · have hk' : ¬ (n : Int) ≤ (k : Int) := by omega
    have hL := I64.at h4 k
    obtain ⟨b, off, rfl, hb, hcs⟩ := h2.i (by omega)
    have hcl := (h8.cell (p := ⟨b, off + k, none⟩) hb).trans (hcs k (by omega))
    obtain ⟨r, er⟩ : ∃ r, L[k]?.getD 0 = r := ⟨_, rfl⟩
    rw [er] at hcl hL
    have hne : b ≠ g := by omega
    have H1 := Lib.hid h1
    have H3 := Lib.hid h3
    clear er hcs h1 h3
    go_enter Try.func40, Try.ntmps40
    go_wp2
    go_quiet (fail)
    go_wp2
    have hg : W.grownBy ((W.drewN nq).setCell ⟨g, 1, none⟩ (.int .i64 ((k : Int) + 1))) (some g) :=
      ⟨rfl, rfl, rfl, by simp, fun j _ hj => Below.heap_setCell _ _ _ j (fun e => hj (by rw [e]))⟩
    have hW2 : SrcAt ((W.drewN nq).setCell ⟨g, 1, none⟩ (.int .i64 ((k : Int) + 1))) g := by
      refine ⟨w0, some ⟨b, off, none⟩, n, c, k + 1, L, ?_, h2, H3.out, h4, by omega, h6, h7, (below_drewN h8 nq).setCell (p := ⟨g, 1, none⟩) h7 _⟩
      have := heap_setCell_same (W.drewN nq) g 1 _ 71 (.int .i64 ((k : Int) + 1)) H1.out
      exact this
    have d0 : ((W.drewN nq).setCell ⟨g, 1, none⟩ (.int .i64 ((k : Int) + 1))).cell? ⟨g, 0, none⟩ = some (.slice (some ⟨b, off, none⟩) n c) := (World.cell?_setCell_other _ _ _ _ (by simp)).trans hc0
    have d1 : ((W.drewN nq).setCell ⟨g, 1, none⟩ (.int .i64 ((k : Int) + 1))).cell? ⟨g, 1, none⟩ = some (.int .i64 ((k : Int) + 1)) := World.cell?_setCell_same _ _ _ hc1
    have d2 : ((W.drewN nq).setCell ⟨g, 1, none⟩ (.int .i64 ((k : Int) + 1))).cell? ⟨b, off + k, none⟩ = some (.int .i64 r) := (World.cell?_setCell_other _ _ _ _ (fun e => hne (congrArg Addr.block e).symm)).trans hcl
    generalize ((W.drewN nq).setCell _ _) = W2 at hg hW2 d0 d1 d2 ⊢
    have t1 : IntKind.i64.wrap (k : Int) = (k : Int) := IntWalk.i64_in _ (by omega)
    have t2 : (0 : Int) ≤ (k : Int) := by omega
    clear hc0 hc1 hf1 hcl
    go_quiet (fail)
    go_wp2
    go_ret
    exact ⟨r, rfl, hL.1, hL.2, hW2.grown (row := none) (only_drewN_refl _ _) (fun r e => by cases e), only_drewN' hg _⟩
  · have hk' : (n : Int) ≤ (k : Int) := by omega
    have H0 : SrcAt W g := ⟨w0, A, n, c, k, L, h1, h2, h3, h4, h5, h6, h7, h8⟩
    clear h1 h3
    go_enter Try.func40, Try.ntmps40
    go_wp2
    go_quiet (fail)
    go_wp2
    go_ret
    exact ⟨0, rfl, by omega, by omega, H0.grown (row := none) (only_drewN_refl _ _) (fun r e => by cases e), only_drewN_refl _ _⟩

set_option maxHeartbeats 400000 in
theorem n_any (g : Nat) (n : Int) (W : World) (h : SrcAt W g) (h1 : 1 ≤ n) (h2 : n ≤ 1000000000000) :
    Calls Try.prog 9 #[.pointer (some ⟨g, 0, none⟩), .int .i64 n] W fun e W' => ∃ r : Int, e = .returned (.int .i64 r) ∧ 0 ≤ r ∧ r < n ∧ SrcAt W' g ∧ W.grownBy W' (some g) := by
  have h1' : ¬ n < 1 := by omega
  go_enter Try.func9, Try.ntmps9
  go_wp2_with fail
  refine (raw_any g W h).mono ?_
  rintro e W2 ⟨r, rfl, hr1, hr2, hs, hg⟩
  have t1 := Int.tmod_lt_of_pos r (b := n) (by omega)
  have t2 : -n < r.tmod n := Int.lt_tmod_of_pos r (by omega)
  obtain ⟨T, hT⟩ : ∃ T, r.tmod n = T := ⟨_, rfl⟩
  rw [hT] at t1 t2
  have hz : n ≠ 0 := by omega
  by_cases hneg : T < 0
  · go_wp2_with fail
    go_ret
    exact ⟨_, rfl, by omega, by omega, hs, hg⟩
  · go_wp2_with fail
    go_ret
    exact ⟨_, rfl, by omega, by omega, hs, hg⟩

set_option maxHeartbeats 400000 in
theorem range_any (g : Nat) (lo hi : Int) (W : World) (h : SrcAt W g) (h1 : lo ≤ hi) (h2 : hi ≤ 100000000000) (h3 : -100000000000 ≤ lo) :
    Calls Try.prog 31 #[.pointer (some ⟨g, 0, none⟩), .int .i64 lo, .int .i64 hi] W fun e W' => ∃ r : Int, e = .returned (.int .i64 r) ∧ lo ≤ r ∧ r ≤ hi ∧ SrcAt W' g ∧ W.grownBy W' (some g) := by
  go_enter Try.func31, Try.ntmps31
  go_wp2_with fail
  refine (n_any g _ W h (by omega) (by omega)).mono ?_
  rintro e W2 ⟨r, rfl, hr1, hr2, hs, hg⟩
  go_wp2_with fail
  go_ret
  exact ⟨_, rfl, by omega, by omega, hs, hg⟩

end Go.Proofs.Ytpiffapnbjnjiaa

namespace Go.Proofs.Ytpiffapnbjnjiaa
set_option linter.unusedVariables false
open Go.RowKit

theorem step_odd (x : Nat) (h : x % 2 = 1) : stepC x = (x >>> 1) ^^^ 2197175160 := by
  unfold stepC
  rw [if_pos (by rw [Nat.testBit_zero, h]; rfl)]
  rfl
theorem step_even (x : Nat) (h : ¬ x % 2 = 1) : stepC x = x >>> 1 := by
  unfold stepC
  rw [if_neg (by rw [Nat.testBit_zero]; simpa using h), Nat.xor_zero]
theorem and_one32 (x : Nat) (h : x < 4294967296) : bits .and .u32 (x : Int) 1 = ((x % 2 : Nat) : Int) := by
  have := u32_and_nat x 1 h (by omega)
  rw [Nat.and_one_is_mod] at this
  exact this
theorem shr1_lt (x : Nat) (h : x < 4294967296) : x >>> 1 < 4294967296 := Nat.lt_of_le_of_lt (Nat.shiftRight_le _ _) h

set_option maxHeartbeats 400000 in
theorem refStep_any (x : Nat) (w : World) (hx : x < 4294967296) :
    Calls Try.prog 81 #[.int .u32 (x : Int)] w fun e w' => e = .returned (.int .u32 ((stepC x : Nat) : Int)) ∧ w = w' := by
  have h0 := and_one32 x hx
  by_cases h : x % 2 = 1
  · have h1 : bits .and .u32 (x : Int) 1 = 1 := by rw [h0, h]; rfl
    have H := Lib.hid h
    clear h0 h
    go_enter Try.func81, Try.ntmps81
    go_wp2
    go_ret
    refine ⟨ret_int ?_, rfl⟩
    rw [step_odd x H.out, ← u32_xor_nat _ _ (shr1_lt x hx) (by omega), Nat.shiftRight_eq_div_pow]
    rfl
  · have h1 : (bits .and .u32 (x : Int) 1 == 1) = false := by rw [h0]; simp; omega
    have h2 : ¬ bits .and .u32 (x : Int) 1 = 1 := by simpa using h1
    have H := Lib.hid h
    clear h0 h
    go_enter Try.func81, Try.ntmps81
    go_wp2
    go_ret
    refine ⟨ret_int ?_, rfl⟩
    rw [step_even x H.out, Nat.shiftRight_eq_div_pow]
    rfl

set_option maxHeartbeats 400000 in
theorem refFeed_any (x b : Nat) (w : World) (hx : x < 4294967296) (hb : b < 256) :
    Calls Try.prog 80 #[.int .u32 (x : Int), .int .u8 (b : Int)] w fun e w' => e = .returned (.int .u32 ((feedC x b : Nat) : Int)) ∧ w = w' := by
  have hxb : bits .xor .u32 (x : Int) (b : Int) = ((x ^^^ b : Nat) : Int) := u32_xor_nat x b hx (by omega)
  have hlt : x ^^^ b < 4294967296 := Nat.xor_lt_two_pow (n := 32) hx (by omega)
  go_enter Try.func80, Try.ntmps80
  go_wp2
  go_loop [0, 5] (fun y i => ∃ k : Nat, k ≤ 8 ∧ i = .int .i64 k ∧ y = .int .u32 ((stepN k (x ^^^ b) : Nat) : Int)) (fun _ i => 8 - (intOf i).toNat)
  case atStart => exact ⟨0, Nat.zero_le _, rfl, rfl⟩
  case round =>
    obtain ⟨k, hk, rfl, rfl⟩ := hrel
    have hs := stepN_lt k _ hlt
    by_cases hlt8 : k < 8
    · have h8 : (k : Int) < 8 := by omega
      go_wp2_with fail
      refine (refStep_any _ _ hs).mono ?_
      rintro e w' ⟨rfl, rfl⟩
      go_wp2_with fail
      go_round
      case rel => exact ⟨k + 1, by omega, by go_num, rfl⟩
      case measure => simp [intOf]; omega
    · obtain rfl : k = 8 := by omega
      go_wp2_with fail
      go_ret
      exact ⟨rfl, rfl⟩

theorem byte_wrap (w k : Nat) : IntKind.u8.wrap ((w : Int) / 2 ^ k) = ((((w >>> k) % 256 : Nat)) : Int) := by
  rw [cast_shr, IntKind.wrap_u8]; omega

set_option maxHeartbeats 400000 in
theorem refWord_any (x v : Nat) (w : World) (hx : x < 4294967296) (hv : v < 18446744073709551616) :
    Calls Try.prog 77 #[.int .u32 (x : Int), .int .u64 (v : Int)] w fun e w' => e = .returned (.int .u32 ((wordC x v 8 : Nat) : Int)) ∧ w = w' := by
  go_enter Try.func77, Try.ntmps77
  go_wp2
  go_loop [0, 5] (fun y i => ∃ k : Nat, k ≤ 8 ∧ i = .int .i64 k ∧ y = .int .u32 ((wordC x v k : Nat) : Int)) (fun _ i => 8 - (intOf i).toNat)
  case atStart => exact ⟨0, Nat.zero_le _, rfl, rfl⟩
  case round =>
    obtain ⟨k, hk, rfl, rfl⟩ := hrel
    have hs := wordC_lt x v k hx
    by_cases hlt8 : k < 8
    · have h8 : (k : Int) < 8 := by omega
      have e8 : ((8 : Int) * (k : Int)).toNat = 8 * k := by omega
      have hby := byte_wrap v (8 * k)
      rw [← show byteC v k = (v >>> (8 * k)) % 256 from rfl] at hby
      have hbl := byteC_lt v k
      go_wp2_with fail
      refine (refFeed_any _ _ _ hs hbl).mono ?_
      rintro e w' ⟨rfl, rfl⟩
      go_wp2_with fail
      go_round
      case rel => exact ⟨k + 1, by omega, by go_num, rfl⟩
      case measure => simp [intOf]; omega
    · obtain rfl : k = 8 := by omega
      go_wp2_with fail
      go_ret
      exact ⟨rfl, rfl⟩

theorem xor_ones (s : Nat) (h : s < 4294967296) : 4294967295 ^^^ s = 4294967295 - s := by
  have e : 4294967295 - s = 2 ^ 32 - (s + 1) := by omega
  apply Nat.eq_of_testBit_eq
  intro j
  rw [e, Nat.testBit_two_pow_sub_succ h, Nat.testBit_xor, show (4294967295 : Nat) = 2 ^ 32 - 1 from rfl, Nat.testBit_two_pow_sub_one]
  by_cases hj : j < 32
  · simp [hj]
  · have : s.testBit j = false := Nat.testBit_lt_two_pow (Nat.lt_of_lt_of_le h (Nat.pow_le_pow_right (n := 2) (by omega) (show 32 ≤ j by omega)))
    simp [hj, this]
theorem not32 (s : Nat) (h : s < 4294967296) : bits .xor .u32 IntKind.u32.max (s : Int) = ((4294967295 - s : Nat) : Int) := by
  have := u32_xor_nat 4294967295 s (by omega) h
  rw [xor_ones s h] at this
  exact this

set_option maxHeartbeats 400000 in
theorem refExtend_any (s : Nat) (A : Option Addr) (c n : Nat) (l : List Nat) (w : World) (hn : l.length = n) (hA : Reads w A (uv l)) (hl : W64 l) (hlen : n ≤ 1000000) (hs : s < 4294967296) :
    Calls Try.prog 70 #[.int .u32 (s : Int), .slice A n c] w fun e w' => e = .returned (.int .u32 ((extendC s l : Nat) : Int)) ∧ w = w' := by
  have hcx : ∀ i, i < n → ∃ b off, A = some ⟨b, off, none⟩ ∧ w.cell? ⟨b, off + i, none⟩ = some (.int .u64 ((l[i]?.getD 0 : Nat) : Int)) := by
    intro i hi
    obtain ⟨b, off, e, _, hc⟩ := hA.u (by omega)
    exact ⟨b, off, e, hc i (by omega)⟩
  have HX := Lib.hid hcx
  have HN := Lib.hid hn
  clear hcx hA hn
  go_enter Try.func70, Try.ntmps70
  go_wp2
  go_loop [5, 6] (fun y i => ∃ k : Nat, k ≤ n ∧ i = .int .i64 k ∧ y = .int .u32 ((wordsC (4294967295 - s) (l.take k) : Nat) : Int)) (fun _ i => n - (intOf i).toNat)
  case atStart => exact ⟨0, Nat.zero_le _, rfl, val_int (by rw [not32 s hs]; rfl)⟩
  case round =>
    obtain ⟨k, hk, rfl, rfl⟩ := hrel
    have hs' := wordsC_lt (4294967295 - s) (l.take k) (by omega)
    by_cases hlt : k < n
    · obtain ⟨b, off, rfl, hc1⟩ := HX.out k hlt
      have hv := hl.at k
      have HS := Lib.hid (show wordsC (4294967295 - s) (l.take (k + 1)) = wordC (wordsC (4294967295 - s) (l.take k)) (l[k]?.getD 0) 8 by
        rw [List.take_succ_eq_append_getElem (by rw [HN.out]; exact hlt), wordsC_snoc, List.getElem?_eq_getElem (by rw [HN.out]; exact hlt)]; rfl)
      obtain ⟨v, ev⟩ : ∃ v, l[k]?.getD 0 = v := ⟨_, rfl⟩
      rw [ev] at hc1 hv HS
      clear ev
      have k1 : (k : Int) < (n : Int) := by omega
      go_wp2_with fail
      refine (refWord_any _ _ _ hs' hv).mono ?_
      rintro e w' ⟨rfl, rfl⟩
      go_wp2_with fail
      go_round
      case rel => exact ⟨k + 1, by omega, by go_num, by rw [HS.out]⟩
      case measure => simp [intOf]; omega
    · obtain rfl : k = n := by omega
      go_wp2_with fail
      go_ret
      refine ⟨ret_int ?_, rfl⟩
      rw [not32 _ hs', List.take_of_length_le (by rw [HN.out]; exact Nat.le_refl _)]
      rfl

theorem extendC_lt (s : Nat) (l : List Nat) : extendC s l < 4294967296 := by unfold extendC; omega

set_option maxHeartbeats 400000 in
theorem refWords_sum (A : Option Addr) (c n : Nat) (l : List Nat) (w : World) (hn : l.length = n) (hA : Reads w A (uv l)) (hl : W64 l) (hlen : n ≤ 1000000) :
    Calls Try.prog 59 #[.slice A n c] w fun e w' => e = .returned (.int .u32 ((extendC 0 l : Nat) : Int)) ∧ w = w' := by
  go_enter Try.func59, Try.ntmps59
  go_wp2_with fail
  refine (refExtend_any 0 A c n l w hn hA hl hlen (by omega)).mono ?_
  rintro e w' ⟨rfl, rfl⟩
  go_wp2_with fail
  go_ret
  exact ⟨rfl, rfl⟩

theorem short_val (s : Nat) (h : s < 4294967296) : bits .xor .u16 ((s : Int) / 65536) (IntKind.u16.wrap (s : Int)) = ((shortC s : Nat) : Int) := by
  have e1 : (s : Int) / 65536 = (((s >>> 16) % 65536 : Nat) : Int) := by
    rw [Nat.shiftRight_eq_div_pow]; omega
  have e2 : IntKind.u16.wrap (s : Int) = ((s % 65536 : Nat) : Int) := by rw [IntKind.wrap_u16]; omega
  rw [show (65536 : Int) = ((65536 : Nat) : Int) from rfl, e1, e2, u16_xor_nat _ _ (Nat.mod_lt _ (by omega)) (Nat.mod_lt _ (by omega))]
  rfl

set_option maxHeartbeats 400000 in
theorem refShort_any (s : Nat) (w : World) (h : s < 4294967296) :
    Calls Try.prog 58 #[.int .u32 (s : Int)] w fun e w' => e = .returned (.int .u16 ((shortC s : Nat) : Int)) ∧ w = w' := by
  have H := Lib.hid (short_val s h)
  go_enter Try.func58, Try.ntmps58
  go_wp2_with fail
  go_ret
  exact ⟨ret_int H.out, rfl⟩

set_option maxHeartbeats 400000 in
theorem short_any (s : Nat) (w : World) (h : s < 4294967296) :
    Calls Try.prog 46 #[.int .u32 (s : Int)] w fun e w' => e = .returned (.int .u16 ((shortC s : Nat) : Int)) ∧ w = w' := by
  have H := Lib.hid (short_val s h)
  go_enter Try.func46, Try.ntmps46
  go_wp2_with fail
  go_ret
  exact ⟨ret_int H.out, rfl⟩

end Go.Proofs.Ytpiffapnbjnjiaa

namespace Go.Proofs.Ytpiffapnbjnjiaa
set_option linter.unusedVariables false
open Go.RowKit

/-- The table's cells when k entries are made. -/
def tabTo (k : Nat) : List Value := (List.range 256).map fun i => Value.int .u32 (((if i < k then step8 i else 0) : Nat) : Int)
theorem tabTo_length (k : Nat) : (tabTo k).length = 256 := by simp [tabTo]
theorem tabTo_at (k i : Nat) (h : i < 256) : (tabTo k)[i]? = some (.int .u32 (((if i < k then step8 i else 0) : Nat) : Int)) := by simp [tabTo, h]
theorem tabTo_succ (k : Nat) (h : k < 256) : (tabTo k).set k (.int .u32 ((step8 k : Nat) : Int)) = tabTo (k + 1) := by
  refine List.ext_getElem? fun i => ?_
  by_cases hi : i < 256
  · rw [List.getElem?_set, tabTo_at _ _ hi, tabTo_at _ _ hi, tabTo_length]
    by_cases e : k = i
    · subst e; simp [h]
    · have : (i < k + 1) = (i < k) := by apply propext; omega
      simp [e, this]
  · rw [List.getElem?_eq_none (by rw [List.length_set, tabTo_length]; omega), List.getElem?_eq_none (by rw [tabTo_length]; omega)]
theorem tabTo_zero : Try.zeroCells131 = (tabTo 0).toArray := by kernel_rfl

theorem grownBy_setRow (W : World) (b : Nat) (cs : Array Value) : W.grownBy (W.setRow b cs) (some b) :=
  ⟨rfl, rfl, rfl, by simp [World.setRow], fun k _ hk => by
    show (W.heap.modify b _)[k]? = _
    rw [Array.getElem?_modify, if_neg (fun e => hk (by rw [e]))]⟩

set_option maxRecDepth 100000 in
set_option maxHeartbeats 1000000 in
theorem newTable_any (w : World) :
    Calls Try.prog 74 #[] w fun e w' => e = .returned (.agg (tabTo 256).toArray) ∧ Below w.heap.size w w' := by
  go_enter Try.func74, Try.ntmps74
  go_wp2
  have h0 : ((w.alloc (Obj.cells Try.zeroCells131 131)).alloc (Obj.cells Try.zeroCells131 131)).heap[w.heap.size]? = some (.cells (tabTo 0).toArray 131 (0, 0)) := by
    rw [tabTo_zero, heap_alloc_old _ _ (by simp)]
    exact heap_alloc_new w _
  have h1 : ((w.alloc (Obj.cells Try.zeroCells131 131)).alloc (Obj.cells Try.zeroCells131 131)).heap[w.heap.size + 1]? = some (.cells (tabTo 0).toArray 131 (0, 0)) := by
    rw [tabTo_zero]
    have := heap_alloc_new (w.alloc (Obj.cells (tabTo 0).toArray 131)) (Obj.cells (tabTo 0).toArray 131)
    rw [World.size_alloc] at this
    exact this
  have hb : Below w.heap.size w ((w.alloc (Obj.cells Try.zeroCells131 131)).alloc (Obj.cells Try.zeroCells131 131)) := ((Below.refl _ w).alloc (Nat.le_refl _) _).alloc (by simp) _
  generalize ((w.alloc (Obj.cells Try.zeroCells131 131)).alloc (Obj.cells Try.zeroCells131 131)) = W at h0 h1 hb ⊢
  go_loopw [4] (fun i wr => ∃ k : Nat, k ≤ 256 ∧ i = .int .i64 k ∧ wr.heap[w.heap.size]? = some (.cells (tabTo 0).toArray 131 (0, 0)) ∧ wr.heap[w.heap.size + 1]? = some (.cells (tabTo k).toArray 131 (0, 0)) ∧ Below w.heap.size w wr) (fun i _ => 256 - (intOf i).toNat)
  case atStart => exact ⟨0, Nat.zero_le _, rfl, h0, h1, hb⟩
  case round =>
    obtain ⟨k, hk, rfl, g0, g1, hB⟩ := hrel
    have G0 := Lib.hid g0
    have G1 := Lib.hid g1
    clear h0 h1 hb
    by_cases hlt : k < 256
    · have hl' : (k : Int) < 256 := by omega
      have hw32 : IntKind.u32.wrap (k : Int) = (k : Int) := by rw [IntKind.wrap_u32]; omega
      have hc := cell_of_row wr (w.heap.size + 1) k _ _ _ g1
      have hf := frozen_of_row wr (w.heap.size + 1) k _ _ g1
      clear g0 g1
      rw [show (tabTo k).toArray[k]? = (tabTo k)[k]? by simp, tabTo_at k k hlt] at hc
      go_wp2_with fail
      go_loop [3, 9] (fun r j => ∃ t : Nat, t ≤ 8 ∧ j = .int .i64 (t : Int) ∧ r = .int .u32 ((stepN t k : Nat) : Int)) (fun _ j => 8 - (intOf j).toNat)
      case atStart => exact ⟨0, Nat.zero_le _, rfl, rfl⟩
      case round =>
        obtain ⟨t, ht, rfl, rfl⟩ := hrel
        have hs := stepN_lt t k (by omega)
        by_cases h8 : t < 8
        · have h8' : (t : Int) < 8 := by omega
          have hS : stepN (t + 1) k = stepC (stepN t k) := rfl
          obtain ⟨x, ex⟩ : ∃ x, stepN t k = x := ⟨_, rfl⟩
          rw [ex] at hs hS ⊢
          have HS := Lib.hid hS
          clear ex hS
          have h0 := and_one32 x hs
          by_cases h : x % 2 = 1
          · have h1 : bits .and .u32 (x : Int) 1 = 1 := by rw [h0, h]; rfl
            have H := Lib.hid h
            clear h0 h
            go_wp2_with fail
            go_round
            case rel =>
              refine ⟨t + 1, by omega, by go_num, ?_⟩
              rw [HS.out, step_odd x H.out, ← u32_xor_nat _ _ (shr1_lt x hs) (by omega), Nat.shiftRight_eq_div_pow]
              rfl
            case measure => simp [intOf]; omega
          · have h1 : (bits .and .u32 (x : Int) 1 == 1) = false := by rw [h0]; simp; omega
            have h2 : ¬ bits .and .u32 (x : Int) 1 = 1 := by simpa using h1
            have H := Lib.hid h
            clear h0 h
            go_wp2_with fail
            go_round
            case rel =>
              refine ⟨t + 1, by omega, by go_num, ?_⟩
              rw [HS.out, step_even x H.out, Nat.shiftRight_eq_div_pow]
              rfl
            case measure => simp [intOf]; omega
        · obtain rfl : t = 8 := by omega
          go_wp2_with fail
          refine ⟨⟨k + 1, by omega, by go_num, (Below.heap_setCell _ _ _ _ (by show _ ≠ _ + 1; omega)).trans G0.out, ?_, hB.setCell (p := ⟨w.heap.size + 1, k, none⟩) (by show _ ≤ _ + 1; omega) _⟩, by simp [intOf]; omega⟩
          have := heap_setCell_same wr (w.heap.size + 1) k _ 131 (.int .u32 ((stepN 8 k : Nat) : Int)) G1.out
          rw [← tabTo_succ k hlt]
          rw [this]
          simp [step8]
    · obtain rfl : k = 256 := by omega
      have hi : (Try.prog.info? 131).map (·.size) = some (tabTo 256).length := by rw [tabTo_length]; kernel_rfl
      have hi2 : (Try.prog.info? 131).map (·.size) = some (tabTo 256).toArray.size := by rw [hi]; simp
      have hr1 : wr.rangeAt (w.heap.size + 1) 0 (tabTo 256) := by
        intro j v hv
        have := cell_of_row wr (w.heap.size + 1) (0 + j) _ _ _ g1
        rw [this, Nat.zero_add]
        simpa using hv
      have h1c : (tabTo 256).toArray.all (·.oneCell') = true := all_oneCell_toArray (by
        intro v hv
        obtain ⟨i, _, rfl⟩ := List.mem_map.1 hv
        rfl)
      have hst : (storeCells ⟨w.heap.size, 0, none⟩ (tabTo 256)).run Try.prog wr = .ok () (wr.setRow w.heap.size (tabTo 256).toArray) := by
        have := run_storeVar_row (P := Try.prog) wr w.heap.size 131 131 _ (tabTo 256).toArray g0 hi2 (by simp [tabTo]) h1c
        cases hq : Try.prog.info? 131 with
        | none => rw [hq] at hi2; simp at hi2
        | some i =>
          have hs : (tabTo 256).length = i.size := by rw [hq] at hi; simp at hi; omega
          simpa [storeVar, sizeOf, typeInfo, hq, Value.cells, hs] using this
      have hg2 := setRow_heap wr w.heap.size _ (tabTo 256).toArray 131 _ g0
      have hB2 : Below w.heap.size w (wr.setRow w.heap.size (tabTo 256).toArray) := hB.grown (row := some w.heap.size) (grownBy_setRow wr w.heap.size _) hB.size (by intro r e; cases e; exact Nat.le_refl _)
      have HI := Lib.hid hi
      have HI2 := Lib.hid hi2
      have HR := Lib.hid hr1
      have HG := Lib.hid hg2
      clear g0 g1 hi hi2 hr1 h1c hg2
      go_wp2_with fail
      refine wp_load_mid 131 _ rfl (w.heap.size + 1) 0 rfl (tabTo 256) _ HR.out Try.underlying131 rfl HI.out ?_
      go_wp2_with fail
      refine bodyPost_ret (results_cell_row rfl _ _ w.heap.size 131 _ (0, 0) _ rfl HG.out Try.underlying131 rfl HI2.out) rfl ?_
      exact ⟨rfl, hB2⟩

end Go.Proofs.Ytpiffapnbjnjiaa

namespace Go.Proofs.Ytpiffapnbjnjiaa
set_option linter.unusedVariables false
open Go.RowKit Go.Shelf
attribute [local go_sem] Oper.semAt_some

abbrev encB (x : Fin 256) : Array Value := #[.int .u8 (x.val : Int)]
/-- Byte i of a list of words. -/
def byteOf (l : List Nat) (i : Nat) : Fin 256 := ⟨byteC (l[i / 8]?.getD 0) (i % 8), byteC_lt _ _⟩

set_option maxRecDepth 100000 in
set_option maxHeartbeats 1000000 in
theorem spread1_in (F : Fence) (n : Nat) (h35 : F.fn 79) (hro : F.round = none) (hn : 1 ≤ n) (l Bs n₀ : Nat) (A : Option Addr) (cap : Nat) (ws : List Nat) (hw : W64 ws)
    (hlen : ws.length ≤ 1000000) (J Jx : List (Fin 256) → World → Prop)
    (hY : ∀ pre x W, J pre W → pre.length < 8 * ws.length → YieldAt F (n - 1) Try.prog l (encB x) W fun e W' =>
      (e = .returned (.bool true) ∧ J (pre ++ [x]) W' ∧ KeepB n₀ Bs W W') ∨ (e = .returned (.bool false) ∧ Jx (pre ++ [x]) W'))
    (W : World) (hBs : W.cell? ⟨Bs, 0, none⟩ = some (.slice A ws.length cap))
    (hA : ∀ i, i < ws.length → ∃ b off, A = some ⟨b, off, none⟩ ∧ b < n₀ ∧ W.cell? ⟨b, off + i, none⟩ = some (.int .u64 ((ws[i]?.getD 0 : Nat) : Int))) (h0 : J [] W) :
    CallsIn F n Try.prog 79 #[.func (.yield l) #[] #[], .pointer (some ⟨Bs, 0, none⟩)] W fun e W' => (∃ v, e = .returned v) ∧
      ((∃ ys, ys = upto (byteOf ws) (8 * ws.length) ∧ J ys W') ∨ (∃ pre, (∃ k, k ≤ 8 * ws.length ∧ pre = upto (byteOf ws) k) ∧ Jx pre W')) := by
  obtain ⟨m, hm⟩ : ∃ m, ws.length = m := ⟨_, rfl⟩
  have HM := Lib.hid hm
  rw [hm] at hlen hBs hA hY ⊢
  clear hm
  have HA := Lib.hid hA
  clear hA
  refine callsIn_of_wp Try.func79 rfl h35 ?_ hro
  simp only [Try.ntmps79, List.size_toArray, List.length_cons, List.length_nil, Nat.reduceAdd, Nat.reduceSub, Array.replicate_succ, Array.replicate_zero, List.push_toArray, List.append_toArray, List.nil_append, List.cons_append]
  gi_wp2
  gi_loopw [8] (fun i wr => ∃ k : Nat, k ≤ m ∧ i = .int .i64 k ∧ J (upto (byteOf ws) (8 * k)) wr ∧ KeepB n₀ Bs W wr) (fun i _ => m - (intOf i).toNat)
  case atStart => exact ⟨0, Nat.zero_le _, rfl, h0, KeepB.refl _ _ _⟩
  case round =>
    obtain ⟨k, hk, rfl, hJs, hnx⟩ := hrel
    by_cases hlt : k < m
    · obtain ⟨b, off, rfl, hb, hc1⟩ := HA.out k hlt
      have hc2 := (hnx.below.cell (p := ⟨b, off + k, none⟩) hb).trans hc1
      have hv := hw.at k
      obtain ⟨v, ev⟩ : ∃ v, ws[k]?.getD 0 = v := ⟨_, rfl⟩
      rw [ev] at hc2 hv
      have EV := Lib.hid ev
      clear ev hc1
      gi_wp2
      gi_loopw [12] (fun i wr2 => ∃ t : Nat, t ≤ 8 ∧ i = .int .i64 t ∧ J (upto (byteOf ws) (8 * k + t)) wr2 ∧ KeepB n₀ Bs W wr2) (fun i _ => 8 - (intOf i).toNat)
      case atStart => exact ⟨0, Nat.zero_le _, rfl, hJs, hnx⟩
      case round =>
        obtain ⟨t, ht, rfl, hJt, hnt⟩ := hrel
        by_cases h8 : t < 8
        · have h8' : (t : Int) < 8 := by omega
          have e8 : ((8 : Int) * (t : Int)).toNat = 8 * t := by omega
          have hby := byte_wrap v (8 * t)
          obtain ⟨fn, tmps, assign, body, hy, hR⟩ := hY _ (byteOf ws (8 * k + t)) _ hJt (by rw [upto_length]; omega)
          have e1 : ((byteOf ws (8 * k + t)).val : Int) = ((v >>> (8 * t) % 256 : Nat) : Int) := by
            show ((byteC (ws[(8 * k + t) / 8]?.getD 0) ((8 * k + t) % 8) : Nat) : Int) = _
            rw [show (8 * k + t) / 8 = k by omega, show (8 * k + t) % 8 = t by omega, EV.out]
            rfl
          obtain ⟨y, ey⟩ : ∃ y, v >>> (8 * t) % 256 = y := ⟨_, rfl⟩
          rw [ey] at e1 hby
          have hy' : _ := hy
          simp only [encB, e1] at hy'
          clear hy e1 ey
          gi_wp2
          refine hR.mono ?_
          rintro e W3 (⟨rfl, hJ3, hk3⟩ | ⟨rfl, hJx3⟩)
          · gi_wp2
            go_roundw
            case rel => exact ⟨t + 1, by omega, by simp, by rw [← Nat.add_assoc, upto_succ]; exact hJ3, hnt.trans hk3⟩
            case measure => simp [intOf]; omega
          · gi_wp2
            refine bodyPost_ret (results_none rfl _ _ _) rfl ?_
            exact ⟨⟨_, rfl⟩, .inr ⟨_, ⟨8 * k + t + 1, by omega, (upto_succ _ _).symm⟩, hJx3⟩⟩
        · obtain rfl : t = 8 := by omega
          gi_wp2
          go_roundw
          case rel => exact ⟨k + 1, by omega, by simp, hJt, hnt⟩
          case measure => simp [intOf]; omega
    · obtain rfl : k = m := by omega
      gi_wp2
      go_end0
      exact ⟨⟨_, rfl⟩, .inl ⟨_, rfl, hJs⟩⟩

set_option maxHeartbeats 1000000 in
theorem spread_in (F : Fence) (n : Nat) (h31 : F.fn 76) (hro : F.round = none) (a : Option Addr) (len cap : Nat) (w : World) :
    CallsIn F n Try.prog 76 #[.slice a len cap] w fun e w' => e = .returned (.func (.func 79) #[] #[.pointer (some ⟨w.heap.size, 0, none⟩)]) ∧ w.alloc (.cells #[.slice a len cap] 25) = w' := by
  refine callsIn_of_wp Try.func76 rfl h31 ?_ hro
  simp only [Try.ntmps76, List.size_toArray, List.length_cons, List.length_nil, Nat.reduceAdd, Nat.reduceSub, Array.replicate_succ, Array.replicate_zero, List.push_toArray, List.append_toArray, List.nil_append, List.cons_append]
  gi_wp2
  go_ret
  exact ⟨rfl, rfl⟩

theorem spread_stops (F : Fence) (n : Nat) (h35 : F.fn 79) (hro : F.round = none) (hn : 1 ≤ n) (Bs n₀ : Nat) (A : Option Addr) (cap : Nat) (ws : List Nat) (hw : W64 ws)
    (hlen : ws.length ≤ 1000000) (w : World) (hBs : Bs < w.heap.size) (hn₀ : n₀ ≤ w.heap.size)
    (hc : w.cell? ⟨Bs, 0, none⟩ = some (.slice A ws.length cap))
    (hA : ∀ i, i < ws.length → ∃ b off, A = some ⟨b, off, none⟩ ∧ b < n₀ ∧ w.cell? ⟨b, off + i, none⟩ = some (.int .u64 ((ws[i]?.getD 0 : Nat) : Int))) :
    SeqStopsK F n Try.prog 79 #[.pointer (some ⟨Bs, 0, none⟩)] encB (KeepB n₀ Bs) (fun ys => ys = upto (byteOf ws) (8 * ws.length))
      (fun pre => ∃ k, k ≤ 8 * ws.length ∧ pre = upto (byteOf ws) k) (8 * ws.length) w := fun l J Jx W hW _ _ hY h0 =>
  spread1_in F n h35 hro hn l Bs n₀ A cap ws hw hlen J Jx hY W ((hW.cell (p := ⟨Bs, 0, none⟩) (by show Bs < _; omega)).trans hc) (fun i hi => by
    obtain ⟨b, off, e, hb, h⟩ := hA i hi
    exact ⟨b, off, e, hb, (hW.cell (p := ⟨b, off + i, none⟩) (by show b < _; omega)).trans h⟩) h0

end Go.Proofs.Ytpiffapnbjnjiaa

namespace Go.Proofs.Ytpiffapnbjnjiaa
set_option linter.unusedVariables false
open Go.RowKit Go.Shelf
attribute [local go_sem] Oper.semAt_some

/-- The register behind bytes. -/
def foldB (x : Nat) (pre : List (Fin 256)) : Nat := pre.foldl (fun x b => feedC x b.val) x
theorem foldB_snoc (x : Nat) (pre : List (Fin 256)) (b : Fin 256) : foldB x (pre ++ [b]) = feedC (foldB x pre) b.val := by simp [foldB]
theorem foldB_lt (x : Nat) (pre : List (Fin 256)) (h : x < 4294967296) : foldB x pre < 4294967296 := by
  induction pre generalizing x with
  | nil => exact h
  | cons b pre ih => exact ih _ (feedC_lt _ _ h b.isLt)
theorem foldB_part (x : Nat) (ws : List Nat) (k : Nat) (hk : k < ws.length) (h : foldB x (upto (byteOf ws) (8 * k)) = wordsC x (ws.take k)) :
    ∀ t, t ≤ 8 → foldB x (upto (byteOf ws) (8 * k + t)) = wordC (wordsC x (ws.take k)) (ws[k]?.getD 0) t
  | 0, _ => h
  | t + 1, ht => by
    rw [← Nat.add_assoc, upto_succ, foldB_snoc, foldB_part x ws k hk h t (by omega)]
    show feedC _ (byteC (ws[(8 * k + t) / 8]?.getD 0) ((8 * k + t) % 8)) = _
    rw [show (8 * k + t) / 8 = k by omega, show (8 * k + t) % 8 = t by omega]
    rfl
theorem foldB_words (x : Nat) (ws : List Nat) : ∀ k, k ≤ ws.length → foldB x (upto (byteOf ws) (8 * k)) = wordsC x (ws.take k)
  | 0, _ => by simp [foldB, upto, wordsC]
  | k + 1, h => by
    have := foldB_part x ws k (by omega) (foldB_words x ws k (by omega)) 8 (by omega)
    rw [show 8 * (k + 1) = 8 * k + 8 by omega, this, List.take_succ_eq_append_getElem (by omega), wordsC_snoc, List.getElem?_eq_getElem (by omega)]
    rfl
theorem foldB_all (x : Nat) (ws : List Nat) : foldB x (upto (byteOf ws) (8 * ws.length)) = wordsC x ws := by
  rw [foldB_words x ws _ (Nat.le_refl _), List.take_length]

set_option maxRecDepth 100000 in
set_option maxHeartbeats 1000000 in
theorem run_any (T Bs : Nat) (x : Nat) (A : Option Addr) (c : Nat) (ws : List Nat) (w : World) (hA : Reads w A (uv ws)) (hw : W64 ws) (hlen : ws.length ≤ 1000000) (hx : x < 4294967296)
    (hT : w.heap[T]? = some (.cells (tabTo 256).toArray 131 (0, 0))) (hBs : w.cell? ⟨Bs, 0, none⟩ = some (.slice A ws.length c)) :
    Calls Try.prog 75 #[.pointer (some ⟨T, 0, none⟩), .int .u32 (x : Int), .func (.func 79) #[] #[.pointer (some ⟨Bs, 0, none⟩)]] w fun e w' => e = .returned (.int .u32 ((wordsC x ws : Nat) : Int)) ∧ Below w.heap.size w w' := by
  refine (callsIn_wide (n := 6)).1 ?_
  have hBl : Bs < w.heap.size := World.block_lt_of_cell? _ _ hBs
  have hTl : T < w.heap.size := (Array.getElem?_eq_some_iff.1 hT).1
  have hci : ∀ i, i < ws.length → ∃ b off, A = some ⟨b, off, none⟩ ∧ b < w.heap.size ∧ w.cell? ⟨b, off + i, none⟩ = some (.int .u64 ((ws[i]?.getD 0 : Nat) : Int)) := by
    intro i hi
    obtain ⟨b, off, e, hb, hc⟩ := hA.u (by omega)
    exact ⟨b, off, e, hb, hc i (by omega)⟩
  have HT := Lib.hid hT
  have HI := Lib.hid hci
  have HBS := Lib.hid hBs
  clear hT hci hA hBs
  refine callsIn_of_wp_marks Try.func75 rfl trivial ?_ rfl
  simp only [Try.ntmps75, List.size_toArray, List.length_cons, List.length_nil, Nat.reduceAdd, Nat.reduceSub, Array.replicate_succ, Array.replicate_zero, List.push_toArray, List.append_toArray, List.nil_append, List.cons_append]
  gi_wp2_with fail
  have b0 := (Boxed.new w 139 (.pointer (some ⟨T, 0, none⟩))).alloc (.cells #[.int .u32 (x : Int)] 85)
  have b1 := Boxed.new (w.alloc (.cells #[.pointer (some ⟨T, 0, none⟩)] 139)) 85 (.int .u32 (x : Int))
  have hb : Below w.heap.size w ((w.alloc (.cells #[.pointer (some ⟨T, 0, none⟩)] 139)).alloc (.cells #[.int .u32 (x : Int)] 85)) := ((Below.refl _ w).alloc (Nat.le_refl _) _).alloc (by simp) _
  simp only [World.size_alloc] at b0 b1
  obtain ⟨W0, hW0⟩ : ∃ W0, ((w.alloc (.cells #[.pointer (some ⟨T, 0, none⟩)] 139)).alloc (.cells #[.int .u32 (x : Int)] 85)) = W0 := ⟨_, rfl⟩
  have hsz : W0.heap.size = w.heap.size + 1 + 1 := by rw [← hW0]; simp
  rw [hW0] at b0 b1 hb ⊢
  clear hW0
  refine wpIn_rangeFunc_ownG rfl (by omega) (gf := 79) (lb := #[.pointer (some ⟨Bs, 0, none⟩)]) rfl trivial (enters_of Try.func79 (by kernel_rfl) rfl)
    (spread_stops Fence.wide 5 trivial rfl (by omega) Bs w.heap.size A c ws hw hlen W0 (by omega) (by omega) ((hb.cell (p := ⟨Bs, 0, none⟩) hBl).trans HBS.out)
      (fun i hi => by
        obtain ⟨b, off, e, hlt, h⟩ := HI.out i hi
        exact ⟨b, off, e, hlt, (hb.cell (p := ⟨b, off + i, none⟩) hlt).trans h⟩))
    KeepB.trans (KeepB.putObj (by omega) (by omega)) (Below.refl _ _) (fun _ => rfl)
    (fun pre W => (Boxed W w.heap.size 139 (.pointer (some ⟨T, 0, none⟩)) ∧ Boxed W (w.heap.size + 1) 85 (.int .u32 ((foldB x pre : Nat) : Int))) ∧ Below w.heap.size w W)
    (fun _ _ _ => False)
    (OwnFrom.and (Own.from (fun s A B row hs hg hr => ⟨boxed_own _ _ (fun _ => _) s A B row hs.1 hg hr, boxed_own _ _ (fun _ => _) s A B row hs.2 hg hr⟩) _) (ownFrom_below (Nat.le_refl _) (by omega)))
    (fun c s A B row hs hg hr => hs)
    ⟨⟨b0, b1⟩, hb⟩
    (fun b => { tmps := #[.pointer (some ⟨T, 0, none⟩), .int .u32 (x : Int), .func (.func 79) #[] #[.pointer (some ⟨Bs, 0, none⟩)], .pointer (some ⟨w.heap.size, 0, none⟩), .pointer (some ⟨w.heap.size + 1, 0, none⟩), undef, .int .u32 0,
      .int .u8 (b.val : Int), .func (.func 79) #[] #[.pointer (some ⟨Bs, 0, none⟩)], .int .u8 (b.val : Int), undef, undef, undef, undef, undef, undef, undef, undef, undef, undef, undef, undef], defers := [] }) ?assign ?body ?done ?stop
  case assign =>
    intro l f W K hK
    gi_wp2
    exact hK
  case body =>
    rintro l pre b W ⟨⟨c0, c1⟩, hB⟩ hlt
    have hmix : Try.prog.follows .mixedOrders = true := by kernel_rfl
    have hbl := b.isLt
    have hr := foldB_lt x pre hx
    have hz := u8_xor_nat (foldB x pre % 256) b.val (Nat.mod_lt _ (by omega)) hbl
    have hzl : (foldB x pre % 256) ^^^ b.val < 256 := Nat.xor_lt_two_pow (n := 8) (Nat.mod_lt _ (by omega)) hbl
    have hp : IntKind.u8.wrap ((foldB x pre : Nat) : Int) = ((foldB x pre % 256 : Nat) : Int) := by rw [IntKind.wrap_u8]; omega
    have hnew := foldB_snoc x pre b
    rw [feedC_table _ _ hbl] at hnew
    have hTW := (hB.block T hTl).trans HT.out
    have ht8 := stepN_lt 8 ((foldB x pre % 256) ^^^ b.val) (by omega)
    have hct := cell_of_row W T ((foldB x pre % 256) ^^^ b.val) _ _ _ hTW
    rw [show (tabTo 256).toArray[(foldB x pre % 256) ^^^ b.val]? = (tabTo 256)[(foldB x pre % 256) ^^^ b.val]? by simp, tabTo_at 256 _ hzl, if_pos hzl] at hct
    obtain ⟨bv, ebv⟩ : ∃ bv, b.val = bv := ⟨_, rfl⟩
    obtain ⟨R, eR⟩ : ∃ R, foldB x pre = R := ⟨_, rfl⟩
    obtain ⟨p, ep⟩ : ∃ p, R % 256 = p := ⟨_, rfl⟩
    rw [eR, ebv] at hz hzl hnew hct ht8
    rw [eR] at c1 hr hp
    rw [ep] at hz hzl hp hnew hct ht8
    rw [ebv] at hbl ⊢
    obtain ⟨z, ez⟩ : ∃ z, p ^^^ bv = z := ⟨_, rfl⟩
    rw [ez] at hz hzl hnew hct ht8
    obtain ⟨V, eV⟩ : ∃ V, step8 z = V := ⟨_, rfl⟩
    rw [eV] at hnew hct
    change stepN 8 z < _ at ht8
    rw [show stepN 8 z = V from eV] at ht8
    have HNEW := Lib.hid hnew
    have d0 := c0.cell
    have d1 := c1.cell
    have d1' := c1.frozen
    have z0 : (0 : Int) ≤ (z : Int) := by omega
    have z1 : (z : Int) < 256 := by omega
    clear hnew eV ez ep eR ebv hTW
    gi_wp2
    refine wpIn_region_still_tail 11 hmix (by kernel_rfl) (by rintro ⟨_, _, h⟩; exact h) (by kernel_rfl) ?_
    simp only [List.take_succ_cons, List.take_zero, List.drop_succ_cons, List.drop_zero]
    repeat still_step
    refine wpStill_nil ?_
    go_wp2
    have hv : bits .xor .u32 (V : Int) ((R : Int) / 256) = ((foldB x (pre ++ [b]) : Nat) : Int) := by
      rw [HNEW.out, ← u32_xor_nat V (R >>> 8) ht8 (Nat.lt_of_le_of_lt (Nat.shiftRight_le _ _) hr), Nat.shiftRight_eq_div_pow]
      rfl
    rw [hv]
    exact ⟨((KeepsOthers.setCell W ⟨w.heap.size + 1, 0, none⟩ _).trans (KeepsOthers.drew _)).from _, ((KeepB.refl w.heap.size Bs W).setCell (b := w.heap.size + 1) (i := 0) (by omega) (by omega) _).drew,
      ⟨c0.other (by omega) _, c1.set _⟩, (hB.setCell (p := ⟨w.heap.size + 1, 0, none⟩) (by show _ ≤ _ + 1; omega) _).drew⟩
  case done =>
    rintro D ys W hD rfl ⟨⟨c0, c1⟩, hB⟩ hK
    have d1 := c1.cell
    rw [foldB_all] at d1
    gi_wp2
    refine ⟨by simp, .inl ⟨_, _, rfl, run_takeDeferred hK, ?_⟩⟩
    refine ⟨.int .u32 ((wordsC x ws : Nat) : Int), by simp [results, Try.f75, go_sem], rfl, hB.trans (belowK_b (w := w) (Nat.le_refl _) W D _ _ (by omega) hK rfl rfl)⟩
  case stop =>
    rintro D c pre W _ _ h _
    exact h.elim

theorem store_table (w : World) : (storeCells ⟨w.heap.size, 0, none⟩ (tabTo 256).toArray.toList).run Try.prog (w.alloc (.cells Try.zeroCells131 131)) = .ok () (w.alloc (.cells (tabTo 256).toArray 131)) := by
  have hi : (Try.prog.info? 131).map (·.size) = some (tabTo 256).toArray.size := by
    rw [show (tabTo 256).toArray.size = 256 by simp [tabTo]]; kernel_rfl
  have h1c : (tabTo 256).toArray.all (·.oneCell') = true := all_oneCell_toArray (by
    intro v hv
    obtain ⟨i, _, rfl⟩ := List.mem_map.1 hv
    rfl)
  have := run_storeCells_new (P := Try.prog) w 131 Try.zeroCells131 (tabTo 256).toArray hi (by rw [tabTo_zero]; simp [tabTo]) h1c
  exact this

set_option maxRecDepth 100000 in
set_option maxHeartbeats 1000000 in
theorem extend_any (s : Nat) (A : Option Addr) (c n : Nat) (l : List Nat) (w : World) (hn : l.length = n) (hA : Reads w A (uv l)) (hl : W64 l) (hlen : n ≤ 1000000) (hs : s < 4294967296) :
    Calls Try.prog 67 #[.int .u32 (s : Int), .slice A n c] w fun e w' => e = .returned (.int .u32 ((extendC s l : Nat) : Int)) ∧ Below w.heap.size w w' := by
  have HN := Lib.hid hn
  have hns := not32 s hs
  go_enter Try.func67, Try.ntmps67
  go_wp2_with fail
  refine (newTable_any w).mono ?_
  rintro e w1 ⟨rfl, hb1⟩
  have hst := store_table w1
  obtain ⟨cs, ecs⟩ : ∃ cs, (tabTo 256).toArray = cs := ⟨_, rfl⟩
  have ECS := Lib.hid ecs
  have hcz : cs.size = 256 := by rw [← ecs]; simp [tabTo]
  rw [ecs] at hst ⊢
  clear ecs
  go_wp2_with fail
  have rA1 := hA.keep hb1
  have hT : (w1.alloc (.cells cs 131)).heap[w1.heap.size]? = some (.cells cs 131 (0, 0)) := heap_alloc_new w1 _
  have hb2 : Below w.heap.size w (w1.alloc (.cells cs 131)) := hb1.alloc hb1.size _
  have hg2 : w1.heap.size < (w1.alloc (.cells cs 131)).heap.size := by simp
  clear hst hA
  have rA2 := rA1.alloc (.cells cs 131)
  generalize w1.alloc (.cells cs 131) = w2 at hT hb2 hg2 rA2 ⊢
  generalize w1.heap.size = T at hT hg2 ⊢
  refine ((callsIn_wide (n := 6)).1 (spread_in Fence.wide 6 trivial rfl _ _ _ _)).mono ?_
  rintro e w3 ⟨rfl, rfl⟩
  go_wp2_with fail
  refine (run_any T w2.heap.size (4294967295 - s) A c l _ (rA2.alloc _) hl (by rw [HN.out]; exact hlen) (by omega) ((heap_alloc_old _ _ hg2).trans (by rw [ECS.out]; exact hT)) (by rw [HN.out]; exact (Boxed.new w2 _ _).cell)).mono ?_
  rintro e w4 ⟨rfl, hb4⟩
  have hwl := wordsC_lt (4294967295 - s) l (by omega)
  have hn2 := not32 _ hwl
  go_wp2_with fail
  go_ret
  refine ⟨ret_int rfl, hb2.trans (((Below.refl _ w2).alloc (by have := hb2.size; omega) _).trans (hb4.mono (by have := hb2.size; simp; omega)))⟩

set_option maxHeartbeats 400000 in
theorem words_sum (A : Option Addr) (c n : Nat) (l : List Nat) (w : World) (hn : l.length = n) (hA : Reads w A (uv l)) (hl : W64 l) (hlen : n ≤ 1000000) :
    Calls Try.prog 47 #[.slice A n c] w fun e w' => e = .returned (.int .u32 ((extendC 0 l : Nat) : Int)) ∧ Below w.heap.size w w' := by
  go_enter Try.func47, Try.ntmps47
  go_wp2_with fail
  refine (extend_any 0 A c n l w hn hA hl hlen (by omega)).mono ?_
  rintro e w' ⟨rfl, hb⟩
  go_wp2_with fail
  go_ret
  exact ⟨rfl, hb⟩

end Go.Proofs.Ytpiffapnbjnjiaa

namespace Go.Proofs.Ytpiffapnbjnjiaa
set_option linter.unusedVariables false
open Go.RowKit

theorem own_lower {w : World} {base base' : Nat} {e : TypeId} {size n : Nat} {v : Value} {xs : List Value} (h : w.ownsRow base e size v n xs) (hb : base' ≤ base) : w.ownsRow base' e size v n xs :=
  ⟨h.1, h.2.imp id fun ⟨g, cap, cur, q1, q2, q3⟩ => ⟨g, cap, cur, q1, by omega, q3⟩⟩

/-- A block that is known whole. -/
def Cs (w : World) (g : Nat) (t : TypeId) (cs : Array Value) : Prop := w.heap[g]? = some (.cells cs t (0, 0))

theorem Cs.lt {w : World} {g : Nat} {t : TypeId} {cs : Array Value} (h : Cs w g t cs) : g < w.heap.size := (Array.getElem?_eq_some_iff.1 h).1

theorem Cs.cell {w : World} {g : Nat} {t : TypeId} {cs : Array Value} (h : Cs w g t cs) (i : Nat) : w.cell? ⟨g, i, none⟩ = cs[i]? := cell_of_row w g i cs t (0, 0) h

theorem Cs.free {w : World} {g : Nat} {t : TypeId} {cs : Array Value} (h : Cs w g t cs) (i : Nat) : w.frozen? ⟨g, i, none⟩ = false := frozen_of_row w g i cs t h

theorem Cs.below {w w' : World} {g B : Nat} {t : TypeId} {cs : Array Value} (h : Cs w g t cs) (hb : Below B w w') (hg : g < B) : Cs w' g t cs := (hb.block g hg).trans h

theorem Cs.new (w : World) (t : TypeId) (cs : Array Value) : Cs (w.alloc (.cells cs t)) w.heap.size t cs := heap_alloc_new w _

theorem Cs.grown {w w' : World} {g : Nat} {t : TypeId} {cs : Array Value} {row : Option Nat} (h : Cs w g t cs) (hg : w.grownBy w' row) (hr : some g ≠ row) : Cs w' g t cs := (hg.block g h.lt hr).trans h

theorem Cs.alloc {w : World} {g : Nat} {t : TypeId} {cs : Array Value} (h : Cs w g t cs) (o : Obj) : Cs (w.alloc o) g t cs := h.below ((Below.refl _ w).alloc (Nat.le_refl _) o) h.lt

theorem own_keepB {w w' : World} {base : Nat} {e : TypeId} {size n : Nat} {v : Value} {xs : List Value} (h : w.ownsRow base e size v n xs) (hb : Below w.heap.size w w') : w'.ownsRow base e size v n xs :=
  ⟨h.1, h.2.imp id fun ⟨g, cap, cur, q1, q2, q3, q4⟩ => ⟨g, cap, cur, q1, q2, (hb.block g (Array.getElem?_eq_some_iff.1 q3).1).trans q3, q4⟩⟩

theorem grown_undrew {w w' : World} {row : Option Nat} (h : w.drew.grownBy w' row) : w.grownBy w' row := ⟨h.os, h.tape, h.output, h.size, h.block⟩

theorem own_cap {w : World} {base n c : Nat} {e : TypeId} {size : Nat} {A : Option Addr} {xs : List Value} (h : w.ownsRow base e size (.slice A n c) n xs) : n ≤ c := by
  rcases h.2 with ⟨h1, h2⟩ | ⟨g, cap, cur, h1, _, _, h3, _⟩
  · omega
  · injection h1 with _ _ h1; omega

/-- What a law's walk holds of memory: blocks that are known whole, slices that read as lists; nothing older has changed. -/
def Env (w W : World) (cs : List (Nat × TypeId × Array Value)) (rs : List (Option Addr × List Value)) : Prop :=
  Below w.heap.size w W ∧ (∀ c ∈ cs, Cs W c.1 c.2.1 c.2.2) ∧ (∀ r ∈ rs, Reads W r.1 r.2)

theorem Env.keep {w W W' : World} {cs : List (Nat × TypeId × Array Value)} {rs : List (Option Addr × List Value)} (h : Env w W cs rs) (hb : Below W.heap.size W W') : Env w W' cs rs :=
  ⟨h.1.trans (hb.mono h.1.size), fun c hc => (h.2.1 c hc).below hb (h.2.1 c hc).lt, fun r hr => (h.2.2 r hr).keep hb⟩

theorem Env.start {w W : World} (h : Below w.heap.size w W) : Env w W [] [] := ⟨h, (fun c hc => absurd hc (by simp)), (fun r hr => absurd hr (by simp))⟩

theorem Env.alloc {w W : World} {cs : List (Nat × TypeId × Array Value)} {rs : List (Option Addr × List Value)} (h : Env w W cs rs) (o : Obj) : Env w (W.alloc o) cs rs := h.keep ((Below.refl _ W).alloc (Nat.le_refl _) o)

theorem Env.cons {w W : World} {cs : List (Nat × TypeId × Array Value)} {rs : List (Option Addr × List Value)} (h : Env w W cs rs) {g : Nat} {t : TypeId} {a : Array Value} (hc : Cs W g t a) : Env w W ((g, t, a) :: cs) rs :=
  ⟨h.1, (fun c hm => (List.mem_cons.1 hm).elim (fun e => by rw [e]; exact hc) (h.2.1 c)), h.2.2⟩

theorem Env.row {w W : World} {cs : List (Nat × TypeId × Array Value)} {rs : List (Option Addr × List Value)} (h : Env w W cs rs) {A : Option Addr} {xs : List Value} (hr : Reads W A xs) : Env w W cs ((A, xs) :: rs) :=
  ⟨h.1, h.2.1, (fun r hm => (List.mem_cons.1 hm).elim (fun e => by rw [e]; exact hr) (h.2.2 r))⟩

theorem Env.new {w W : World} {cs : List (Nat × TypeId × Array Value)} {rs : List (Option Addr × List Value)} (h : Env w W cs rs) (t : TypeId) (a : Array Value) : Env w (W.alloc (.cells a t)) ((W.heap.size, t, a) :: cs) rs := (h.alloc _).cons (Cs.new W t a)

theorem reads_at {W : World} {g : Nat} {E : List Nat} (h : Reads W (some ⟨g, 0, none⟩) (uv E)) (i : Nat) (hi : i < E.length) : W.cell? ⟨g, i, none⟩ = some (.int .u64 ((E[i]?.getD 0 : Nat) : Int)) := by
  obtain ⟨b, off, e, _, hc⟩ := h.u (by omega)
  simp only [Option.some.injEq, Addr.mk.injEq] at e
  obtain ⟨rfl, rfl, _⟩ := e
  have := hc i hi
  rwa [Nat.zero_add] at this

/-- Only block g has changed; what is new lies beyond. -/
theorem gb_trans {g : Nat} {A B C : World} (h : A.grownBy B (some g)) (k : B.grownBy C (some g)) : A.grownBy C (some g) :=
  ⟨k.os.trans h.os, k.tape.trans h.tape, k.output.trans h.output, Nat.le_trans h.size k.size, fun j hj hne => (k.block j (Nat.lt_of_lt_of_le hj h.size) hne).trans (h.block j hj hne)⟩

theorem gb_alloc {g : Nat} {A B : World} (h : A.grownBy B (some g)) (o : Obj) : A.grownBy (B.alloc o) (some g) := gb_trans h (World.grownBy_alloc B o _)

theorem gb_set {g : Nat} {A B : World} (h : A.grownBy B (some g)) {b i : Nat} (hb : A.heap.size ≤ b) (u : Value) : A.grownBy (B.setCell ⟨b, i, none⟩ u) (some g) :=
  ⟨h.os, h.tape, h.output, by simpa using h.size, fun j hj hne => (Below.heap_setCell _ _ _ j (by show j ≠ b; omega)).trans (h.block j hj hne)⟩

theorem gb_below {g : Nat} {A B C : World} (h : A.grownBy B (some g)) (k : Below B.heap.size B C) : A.grownBy C (some g) :=
  ⟨k.os.trans h.os, k.tape.trans h.tape, k.output.trans h.output, Nat.le_trans h.size k.size, fun j hj hne => (k.block j (Nat.lt_of_lt_of_le hj h.size)).trans (h.block j hj hne)⟩

theorem gb_refl (g : Nat) (A : World) : A.grownBy A (some g) := World.grownBy.refl A _

theorem gb_Below {g n0 : Nat} {w A B : World} (hb : Below n0 w A) (h : A.grownBy B (some g)) (hn : n0 ≤ A.heap.size) (hg : n0 ≤ g) : Below n0 w B := hb.grown h hn (fun k e => by injection e with e; omega)

theorem SrcAt.alloc {W : World} {g : Nat} (h : SrcAt W g) (o : Obj) : SrcAt (W.alloc o) g := h.below (B := W.heap.size) ((Below.refl _ W).alloc (Nat.le_refl _) o) h.lt

theorem SrcAt.set {W : World} {g b i : Nat} (h : SrcAt W g) (hb : g < b) (u : Value) : SrcAt (W.setCell ⟨b, i, none⟩ u) g := h.below (B := b) ((Below.refl _ W).setCell (p := ⟨b, i, none⟩) (Nat.le_refl _) u) hb

theorem SrcAt.keep {W W' : World} {g : Nat} (h : SrcAt W g) (hb : Below W.heap.size W W') : SrcAt W' g := h.below hb h.lt

set_option maxHeartbeats 400000 in
theorem pick_any (g b n : Nat) (zs : List Int) (W : World) (h : SrcAt W g) (hn : zs.length = n) (h1 : 1 ≤ n) (hlen : n ≤ 1000) (hb : Cs W b 3 (iv zs).toArray) (hne : b ≠ g) :
    Calls Try.prog 52 #[.pointer (some ⟨g, 0, none⟩), .slice (some ⟨b, 0, none⟩) n n] W fun e W' => ∃ r : Int, e = .returned (.int .i64 r) ∧ r ∈ zs ∧ SrcAt W' g ∧ W.grownBy W' (some g) := by
  have HN := Lib.hid hn
  clear hn
  go_enter Try.func52, Try.ntmps52
  go_wp2_with fail
  refine (n_any g (n : Int) W h (by omega) (by omega)).mono ?_
  rintro e W2 ⟨r, rfl, hr1, hr2, hs, hg⟩
  obtain ⟨j, rfl⟩ : ∃ j : Nat, r = (j : Int) := ⟨r.toNat, by omega⟩
  have hj : j < n := by omega
  have hc := (hb.grown hg (by simpa using hne)).cell j
  rw [List.getElem?_toArray, iv_at zs j (by rw [HN.out]; exact hj)] at hc
  have hmem : zs[j]?.getD 0 ∈ zs := by
    rw [List.getElem?_eq_getElem (by rw [HN.out]; exact hj)]
    exact List.getElem_mem _
  generalize zs[j]?.getD 0 = x at hc hmem
  go_wp2_with fail
  go_ret
  exact ⟨x, rfl, hmem, hs, hg⟩

set_option maxHeartbeats 400000 in
theorem words_any (n : Nat) (seed : Int) (W : World) (hn : n ≤ 1000) :
    Calls Try.prog 25 #[.int .i64 (n : Int), .int .u64 seed] W fun e W' => ∃ v l, e = .returned v ∧ W'.ownsRow W.heap.size 28 1 v n (uv l) ∧ l.length = n ∧ W64 l ∧ Below W.heap.size W W' := by
  obtain ⟨i0, hi0, hz0, hz1, hz2⟩ := info_parts u64_info
  go_enter Try.func25, Try.ntmps25
  go_wp2_with fail
  go_loopw [5, 6] (fun v i wr => ∃ (k : Nat) (l : List Nat), k ≤ n ∧ i = .int .i64 k ∧ wr.ownsRow W.heap.size 28 1 v k (uv l) ∧ l.length = k ∧ W64 l ∧ Below W.heap.size W wr) (fun _ i _ => n - (intOf i).toNat)
  case atStart => exact ⟨0, [], Nat.zero_le _, rfl, World.ownsRow_nil _ _ _ _, rfl, (fun x hx => absurd hx (by simp)), Below.refl _ _⟩
  case round =>
    obtain ⟨k, l, hk, rfl, hown, hl, hw, hb⟩ := hrel
    obtain ⟨A1, c1, rfl⟩ := own_form hown
    have HL := Lib.hid hl
    have HO := Lib.hid hown
    clear hl hown
    by_cases hlt : k < n
    · go_wp2_with (at_builtin; refine wpList_append_reads _ (by rfl) _ _ _ (by rfl) W.heap.size 28 i0 _ 1 8 Try.underlying25 hi0 hz0 hz1 hz2 (by rfl) (by omega) (.slice A1 k c1) k (uv l) (by rfl) (HO.out.alloc _) (some ⟨wr.heap.size, 0, none⟩) 1 1 _ (by rfl) (by rfl) (Reads.new _ _ _) (by simp [Value.oneCell']) (by simp only [maxLen]; omega) (by omega) (by have := hb.size; simp; omega) ?_; intro v1 w6 hown6 hg6 hat6; have hbb := app_below HO.out hg6 hb.size)
      obtain ⟨y, ey, hy⟩ := any_u64 (seed + IntKind.u64.wrap ((k : Int) * 11400714819323198485))
      rw [ey] at hown6
      have hl1 : (l ++ [y]).length = k + 1 := by rw [List.length_append, HL.out]; rfl
      have ho : w6.ownsRow W.heap.size 28 1 v1 (k + 1) (uv (l ++ [y])) := by rw [uv_append]; exact hown6
      have hw' : W64 (l ++ [y]) := by
        intro x hx
        rcases List.mem_append.1 hx with hx | hx
        · exact hw x hx
        · rw [List.mem_singleton.1 hx]; exact hy
      go_roundw
      case rel => exact ⟨k + 1, l ++ [y], by omega, by go_num, ho, hl1, hw', hb.trans hbb⟩
      case measure => simp [intOf]; omega
    · have hkn : k = n := by omega
      have ho : wr.ownsRow W.heap.size 28 1 (.slice A1 k c1) n (uv l) := by rw [← hkn]; exact HO.out
      have hl1 : l.length = n := by rw [HL.out, hkn]
      have HO1 := Lib.hid ho
      have HL1 := Lib.hid hl1
      clear ho hl1 hkn
      go_wp2_with fail
      go_ret
      exact ⟨_, l, rfl, HO1.out, HL1.out, hw, hb⟩

theorem Env.grown {w W W' : World} {g : Nat} {cs : List (Nat × TypeId × Array Value)} {rs : List (Option Addr × List Value)} (h : Env w W cs rs) (hg : W.grownBy W' (some g)) (hw : w.heap.size ≤ g) (hc : ∀ c ∈ cs, c.1 ≠ g) (hr : ∀ r ∈ rs, Reads W' r.1 r.2) : Env w W' cs rs :=
  ⟨gb_Below h.1 hg h.1.size hw, fun c hm => (h.2.1 c hm).grown hg (by simpa using hc c hm), hr⟩

theorem cell3 {W : World} {g : Nat} {t : TypeId} {a b c : Value} (h : Cs W g t #[a, b, c]) : W.cell? ⟨g, 0, none⟩ = some a ∧ W.cell? ⟨g, 1, none⟩ = some b ∧ W.cell? ⟨g, 2, none⟩ = some c := ⟨h.cell 0, h.cell 1, h.cell 2⟩

end Go.Proofs.Ytpiffapnbjnjiaa
