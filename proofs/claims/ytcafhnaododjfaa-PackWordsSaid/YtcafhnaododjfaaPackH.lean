import Derived.Test.YtcafhnaododjfaaPackG
namespace Go.Proofs.Ytcafhnaododjfaa
set_option linter.unusedVariables false
open Go.RowKit

theorem u8_info : (Try.prog.info? 5).map (fun i => (i.zero, i.size, i.bytes)) = some (some (.int .u8 0), 1, 1) := by kernel_rfl

/-- The values of bytes. -/
def bv (l : List UInt8) : List Value := l.map fun b : UInt8 => .int .u8 (b.toNat : Int)
theorem bv_length (l : List UInt8) : (bv l).length = l.length := by simp [bv]

theorem bv_at (l : List UInt8) (i : Nat) (h : i < l.length) : (bv l)[i]? = some (.int .u8 ((l[i]?.getD 0).toNat : Int)) := by simp [bv, h]
theorem bv_set (l : List UInt8) (i : Nat) (b : UInt8) : (bv l).set i (.int .u8 (b.toNat : Int)) = bv (l.set i b) := by simp [bv, List.map_set]

/-- string(b) of bytes that the call owns. -/
theorem conv_own {w w' : World} {g x cap : Nat} {bs : List UInt8} (hown : w'.ownsRow w.heap.size 5 1 (.slice (some ⟨g, 0, none⟩) x cap) x (bv bs)) (hx : bs.length = x) :
    (convert 58 9 (.slice (some ⟨g, 0, none⟩) x cap)).run Try.prog w' = .ok (.string ⟨bs.toArray⟩) w' := by
  have h := run_convert_bytes_arg (P := Try.prog) w' 58 5 Try.underlying58 Try.underlying5 g 0 x cap (bs.map fun b => (b.toNat : Int)) (by simpa using hx)
    (fun i hi => by
      have := hown.cellAt i (by omega)
      rw [bv_at _ _ (by omega)] at this
      rw [Nat.zero_add, this]
      simp [show i < bs.length by omega]) 9 Try.underlying9
  rw [h]
  have e : strOfNums (bs.map fun b => (b.toNat : Int)) = ⟨bs.toArray⟩ := by
    have h1 := strOfNums_data (bs.map fun b => (b.toNat : Int))
    have h2 : (bs.map fun b => (b.toNat : Int)).map (fun n => UInt8.ofNat n.toNat) = bs := by
      rw [List.map_map]
      conv => rhs; rw [← List.map_id bs]
      refine List.map_congr_left fun b _ => ?_
      simp
    rw [h2] at h1
    generalize strOfNums (bs.map fun b => (b.toNat : Int)) = y at h1
    obtain ⟨d⟩ := y
    simp only at h1
    rw [← h1]
  rw [e]

/-- The bytes behind k rounds, the rest zero. -/
def fillTo (l : List Nat) (x k : Nat) : List UInt8 := fromL l k ++ List.replicate (x - k) 0
theorem fillTo_length (l : List Nat) (x k : Nat) (h : k ≤ x) : (fillTo l x k).length = x := by simp [fillTo, fromL_length]; omega
theorem fillTo_zero (l : List Nat) (x : Nat) : fillTo l x 0 = List.replicate x 0 := by simp [fillTo, fromL]
theorem fillTo_all (l : List Nat) (x : Nat) : fillTo l x x = fromL l x := by simp [fillTo]
theorem fillTo_succ (l : List Nat) (x k : Nat) (h : k < x) : (fillTo l x k).set k (byteOf l k) = fillTo l x (k + 1) := by
  unfold fillTo
  have e : x - k = (x - (k + 1)) + 1 := by omega
  rw [e, List.replicate_succ, List.set_append, fromL_length, if_neg (by omega), Nat.sub_self, List.set_cons_zero]
  simp [fromL, List.range_succ]
theorem made_bytes (x : Nat) : (madeCells #[Value.int IntKind.u8 0] x).toList = bv (List.replicate x 0) := by
  rw [toList_madeCells_one]; simp [bv]
theorem u8_shr (x k : Nat) : (x : Int) / 2 ^ k % 256 = ((UInt8.ofNat (x >>> k)).toNat : Int) := by
  rw [cast_shr]
  simp

set_option maxHeartbeats 400000 in
theorem fromText_short (A : Option Addr) (c : Nat) (l : List Nat) (w : World) (hA : Reads w A (uv l)) (hl : l.length ≤ 1000000) (hw : W64 l)
    (h : l.length = 0 ∨ 8192 < l[0]?.getD 0 ∨ l.length ≠ lenW (l[0]?.getD 0)) :
    Calls Try.prog 24 #[.slice A l.length c] w fun e w' => e = .returned (.tuple #[.string ⟨#[]⟩, .int .i64 2]) ∧ w = w' := by
  obtain ⟨n, hn⟩ : ∃ n, l.length = n := ⟨_, rfl⟩
  obtain ⟨x, hx⟩ : ∃ x, l[0]?.getD 0 = x := ⟨_, rfl⟩
  by_cases h0 : l.length = 0
  · have h1 : ((n : Int) == 0) = true := by simp; omega
    rw [hn]
    clear hn hx h h0
    go_enter Try.func24, Try.ntmps24
    go_wp2
    go_ret2
    exact ⟨rfl, rfl⟩
  · obtain ⟨b, off, rfl, hb, hcs⟩ := hA.u h0
    have hc := hcs 0 (by omega)
    rw [Nat.add_zero] at hc
    have hx64 := hw.at 0
    rw [hx] at hc h hx64
    rw [hn] at h hl ⊢
    have h1 : ((n : Int) == 0) = false := by simp; omega
    have hn0 : 0 < n := by omega
    clear hcs hx hA h0 hn
    by_cases h2 : 8192 < x
    · have h2' : (8192 : Int) < (x : Int) := by omega
      clear h
      go_enter Try.func24, Try.ntmps24
      go_wp2
      go_ret2
      exact ⟨rfl, rfl⟩
    · have h2' : ¬ (8192 : Int) < (x : Int) := by omega
      have h3 : ((n : Int) != ((lenW x : Nat) : Int)) = true := by simp; omega
      clear h
      go_enter Try.func24, Try.ntmps24
      go_wp2_with fail
      refine (length_any _ _ (by omega) (by omega)).mono ?_
      rintro e w1 ⟨rfl, rfl⟩
      rw [lenI_nat]
      go_wp2_with fail
      go_ret2
      exact ⟨rfl, rfl⟩

theorem equal_any' (A B : Option Addr) (c d N M : Nat) (xs ys : List Nat) (w : World) (hN : xs.length = N) (hM : ys.length = M) (ha : Reads w A (uv xs)) (hb : Reads w B (uv ys)) (hx : N ≤ 1000000) (hy : M ≤ 1000000) :
    Calls Try.prog 34 #[.slice A N c, .slice B M d] w fun e w' => e = .returned (.bool (decide (xs = ys))) ∧ ∃ n, w' = w.drewN n := by
  subst hN
  subst hM
  exact equal_any A B c d xs ys w ha hb hx hy

set_option maxHeartbeats 400000 in
theorem fromText_long (A : Option Addr) (c : Nat) (l : List Nat) (w : World) (hA : Reads w A (uv l)) (hl : l.length ≤ 1000000) (hw : W64 l)
    (h0 : l.length ≠ 0) (h1 : l[0]?.getD 0 ≤ 8192) (h2 : l.length = lenW (l[0]?.getD 0)) :
    Calls Try.prog 24 #[.slice A l.length c] w fun e w' => Below w.heap.size w w' ∧
      ((textW (fromL l (l[0]?.getD 0)) = l ∧ e = .returned (.tuple #[.string ⟨(fromL l (l[0]?.getD 0)).toArray⟩, .int .i64 0])) ∨
       (textW (fromL l (l[0]?.getD 0)) ≠ l ∧ e = .returned (.tuple #[.string ⟨#[]⟩, .int .i64 2]))) := by
  obtain ⟨n, hn⟩ : ∃ n, l.length = n := ⟨_, rfl⟩
  obtain ⟨x, hx⟩ : ∃ x, l[0]?.getD 0 = x := ⟨_, rfl⟩
  obtain ⟨i0, hi0, hz0, hz1, hz2⟩ := info_parts u8_info
  obtain ⟨b, off, rfl, hb, hcs⟩ := hA.u h0
  have HCS := Lib.hid hcs
  have hc := hcs 0 (by omega)
  rw [Nat.add_zero] at hc
  have hx64 := hw.at 0
  rw [hx] at hc h1 h2 hx64 ⊢
  rw [hn] at h2 hl h0 ⊢
  have HN := Lib.hid hn
  have HX := Lib.hid hx
  have H2 := Lib.hid h2
  have q1 : ((n : Int) == 0) = false := by simp; omega
  have q2 : ¬ (8192 : Int) < (x : Int) := by omega
  have q3 : ((n : Int) != ((lenW x : Nat) : Int)) = false := by simp; omega
  have hn0 : 0 < n := by omega
  have HA := Lib.hid hA
  clear hcs hx hA h0 hn h2
  go_enter Try.func24, Try.ntmps24
  go_wp2_with (at_make; refine wpList_make_full _ rfl _ _ _ rfl w.heap.size 5 i0 _ 1 Try.underlying58 hi0 hz0 hz1 .u64 .u64 _ _ x rfl rfl rfl rfl ?_ ?_ ?_ ?_)
  refine (length_any _ _ (by omega) (by omega)).mono ?_
  rintro e w1 ⟨rfl, rfl⟩
  rw [lenI_nat]
  go_wp2_with (at_make; refine wpList_make_full _ rfl _ _ _ rfl w.heap.size 5 i0 _ 1 Try.underlying58 hi0 hz0 hz1 .u64 .u64 _ _ x rfl rfl rfl rfl ?_ ?_ ?_ ?_)
  · rw [hz2]; omega
  · simp only [maxLen]; omega
  · exact Nat.le_refl _
  intro w1 hown hg
  have hb1 : Below w.heap.size w w1 := (Below.refl _ w).grown hg (Nat.le_refl _) (by intro k hk; cases hk)
  rw [made_bytes, ← fillTo_zero l] at hown
  go_wp2
  clear hg
  go_loopw [33] (fun i wr => ∃ k : Nat, k ≤ x ∧ i = .int .i64 k ∧ wr.ownsRow w.heap.size 5 1 (.slice (some ⟨w.heap.size, 0, none⟩) x x) x (bv (fillTo l x k)) ∧ Below w.heap.size w wr) (fun i _ => x - (intOf i).toNat)
  case atStart => exact ⟨0, Nat.zero_le _, rfl, hown, hb1⟩
  case round =>
    obtain ⟨k, hk, rfl, hownk, hbk⟩ := hrel
    by_cases hlt : k < x
    · have hi : 1 + k / 8 < n := by rw [H2.out]; exact lenW_gt _ _ hlt
      have hcl := (hbk.cell (p := ⟨b, off + (1 + k / 8), none⟩) hb).trans (HCS.out (1 + k / 8) (by rw [HN.out]; exact hi))
      have hv := hw.at (1 + k / 8)
      have hS : Hid ((fillTo l x k).set k (byteOf l k) = fillTo l x (k + 1)) := fillTo_succ l x k hlt
      have hB : Hid (byteOf l k = UInt8.ofNat ((l[1 + k / 8]?.getD 0) >>> (k % 8 * 8))) := rfl
      obtain ⟨v, ev⟩ : ∃ v, l[1 + k / 8]?.getD 0 = v := ⟨_, rfl⟩
      rw [ev] at hcl hv hB
      have hck := hownk.cellAt k (by omega)
      rw [bv_at _ _ (by rw [fillTo_length _ _ _ hk]; exact hlt)] at hck
      have hfk := hownk.frozenAt k
      have hc' := (hbk.cell (p := ⟨b, off, none⟩) hb).trans hc
      clear ev hown hc
      go_wp2
      go_roundw
      case rel =>
        refine ⟨k + 1, by omega, by go_num, ?_, hbk.setCell (p := ⟨w.heap.size, k, none⟩) (Nat.le_refl _) _⟩
        have := (hownk.stored k (.int .u8 ((v : Int) / 2 ^ (k % 8 * 8) % 256))).1
        rw [u8_shr, ← hB.out, bv_set, hS.out] at this
        rw [u8_shr, ← hB.out]
        exact this
      case measure => simp [intOf]; omega
    · obtain rfl : k = x := by omega
      rw [fillTo_all] at hownk
      have hcv := conv_own (w := w) hownk (fromL_length l k)
      clear hown hc
      go_wp2_with fail
      refine (text_yes _ _ (by show (fromL l k).toArray.size ≤ 8192; simpa [fromL_length] using h1)).mono ?_
      rintro e w2 ⟨v2, rfl, hown2, hb2⟩
      obtain ⟨A2, c2, hv2⟩ := own_form hown2
      subst hv2
      have r2 := Reads.of_own hown2
      have e2 : lenW (ByteArray.mk (fromL l k).toArray).size = (textW (fromL l k)).length := by
        unfold textW
        rw [textTo_length]
        rfl
      have e3 : lenW (ByteArray.mk (fromL l k).toArray).size ≤ 2000 := by
        have : (ByteArray.mk (fromL l k).toArray).size = k := by show (fromL l k).toArray.size = k; simp [fromL_length]
        rw [this]; unfold lenW; split <;> omega
      have hownk2 := hownk.kept (w' := w2) (row := none) ⟨hb2.os, hb2.tape, hb2.output, hb2.size, fun j hj _ => hb2.block j hj⟩ (by right; simp [Value.ownBlock])
      have hcv2 := conv_own (w := w) hownk2 (fromL_length l k)
      clear hcv
      generalize lenW (ByteArray.mk (fromL l k).toArray).size = M at e2 e3 hown2 ⊢
      have hA2 : Reads w2 (some ⟨b, off, none⟩) (uv l) := (HA.out.keep hbk).keep (hb2)
      have E2 := Lib.hid e2
      clear e2
      go_wp2_with fail
      refine (equal_any' A2 (some ⟨b, off, none⟩) c2 c M n _ _ _ E2.out.symm HN.out r2 hA2 (by omega) hl).mono ?_
      rintro e w3 ⟨rfl, n3, rfl⟩
      have hbe : Below w.heap.size w (w2.drewN n3) := below_drewN (hbk.trans (hb2.mono hbk.size)) n3
      have hcv3 : (convert 58 9 (.slice (some ⟨w.heap.size, 0, none⟩) k k)).run Try.prog (w2.drewN n3) = .ok (.string ⟨(fromL l k).toArray⟩) (w2.drewN n3) := conv_own (w := w) (w' := w2.drewN n3) hownk2 (fromL_length l k)
      clear hcv2
      by_cases hq : textW (fromL l k) = l
      · rw [decide_eq_true hq]
        go_wp2_with fail
        go_ret2
        exact ⟨hbe, .inl ⟨hq, rfl⟩⟩
      · rw [decide_eq_false hq]
        go_wp2_with fail
        go_ret2
        exact ⟨hbe, .inr ⟨hq, rfl⟩⟩

end Go.Proofs.Ytcafhnaododjfaa
