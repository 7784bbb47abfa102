import Derived.Test.YtcafhnaododjfaaPackF
namespace Go.Proofs.Ytcafhnaododjfaa
set_option linter.unusedVariables false
open Go.RowKit

theorem fldOf_at (ws : List Int) (k : Nat) (t : Int) (ht : t = (ws.take k).sum) (h0 : 0 ≤ t) (h1 : t ≤ 64) : (fldOf ws k).at_ = t.toNat := by
  show min (fldAt ws k) 64 = _
  unfold fldAt
  rw [← ht]
  omega
theorem fldOf_mask (ws : List Int) (k : Nat) (x : Int) (hx : ws[k]?.getD 0 = x) (h1 : x ≤ 64) : (fldOf ws k).mask = 2 ^ x.toNat - 1 := by
  show min (maskOf (ws[k]?.getD 0)) _ = _
  rw [hx]
  have := mask_lt x h1
  unfold maskOf at *
  omega
theorem upto_snoc_word (ws : List Int) (k : Nat) (vs : List Nat) (t : Int) (v : Nat) (ht : t = (ws.take k).sum) (h0 : 0 ≤ t) (h1 : t ≤ 64) (hv : vs[k]?.getD 0 = v) :
    bits BinOp.or IntKind.u64 ((wordF (upto (fldOf ws) k) vs : Nat) : Int) (IntKind.u64.wrap ((v : Int) * 2 ^ t.toNat)) = ((wordF (upto (fldOf ws) (k + 1)) vs : Nat) : Int) := by
  rw [upto_succ, wordF_snoc, upto_length, hv, fldOf_at ws k t ht h0 h1, cast_two_pow, ← Int.natCast_mul, wrap_nat, ← Nat.shiftLeft_eq, u64_or_nat _ _ (wordF_lt _ _) (Nat.mod_lt _ (by omega))]
theorem fits_upto (ws : List Int) (k : Nat) (vs : List Nat) (x : Int) (v : Nat) (hx : ws[k]?.getD 0 = x) (h0 : 1 ≤ x) (h1 : x ≤ 64) (hv : vs[k]?.getD 0 = v) (hf : fitsF (upto (fldOf ws) k) vs) (h : v < 2 ^ x.toNat) : fitsF (upto (fldOf ws) (k + 1)) vs := by
  rw [upto_succ]
  refine fitsF_snoc _ _ _ hf ?_
  rw [upto_length, hv, fldOf_mask ws k x hx h1]
  omega
theorem fits_not (ws : List Int) (k n : Nat) (vs : List Nat) (x : Int) (v : Nat) (hx : ws[k]?.getD 0 = x) (h1 : x ≤ 64) (hv : vs[k]?.getD 0 = v) (hk : k < n) (h : 2 ^ x.toNat ≤ v) : ¬ fitsF (upto (fldOf ws) n) vs := by
  intro hf
  have := hf k (by rw [upto_length]; exact hk) (fldOf ws k) (by simp [upto, hk])
  rw [hv, fldOf_mask ws k x hx h1] at this
  have : 0 < 2 ^ x.toNat := Nat.pow_pos (by omega)
  omega

set_option maxRecDepth 100000 in
set_option maxHeartbeats 1000000 in
theorem refFields_ok (A B : Option Addr) (c d : Nat) (ws : List Int) (vs : List Nat) (w : World) (hA : Reads w A (iv ws)) (hB : Reads w B (uv vs)) (hl : ws.length = vs.length) (hlen : ws.length ≤ 1000000) (hok : okW 0 ws = true) (hw : W64 vs) :
    Calls Try.prog 15 #[.slice A ws.length c, .slice B vs.length d] w fun e w' => (∃ n, w' = w.drewN n) ∧
      ((e = .returned (.tuple #[.int .u64 ((wordF (upto (fldOf ws) ws.length) vs : Nat) : Int), .int .i64 0]) ∧ fitsF (upto (fldOf ws) ws.length) vs) ∨
       (e = .returned (.tuple #[.int .u64 0, .int .i64 1]) ∧ ¬ fitsF (upto (fldOf ws) ws.length) vs)) := by
  obtain ⟨m, hm⟩ : ∃ m, ws.length = m := ⟨_, rfl⟩
  have Hd := Lib.hid (refWidths_any A c ws w hA hlen)
  have hcv : ∀ i, i < m → ∃ b off, B = some ⟨b, off, none⟩ ∧ w.cell? ⟨b, off + i, none⟩ = some (.int .u64 ((vs[i]?.getD 0 : Nat) : Int)) := by
    intro i hi
    obtain ⟨b, off, e, hb, hc⟩ := hB.u (by omega)
    exact ⟨b, off, e, hc i (by omega)⟩
  have hci : ∀ i, i < m → ∃ b off, A = some ⟨b, off, none⟩ ∧ w.cell? ⟨b, off + i, none⟩ = some (.int .i64 (ws[i]?.getD 0)) := by
    intro i hi
    obtain ⟨b, off, e, hb, hc⟩ := hA.i (by omega)
    exact ⟨b, off, e, hc i (by omega)⟩
  rw [← hl, hm]
  rw [hm, hok] at Hd
  rw [hm] at hlen
  have HM := Lib.hid hm
  have HV := Lib.hid hcv
  have HI := Lib.hid hci
  have HOK := Lib.hid hok
  clear hm hl hcv hci hok hB hA
  go_enter Try.func15, Try.ntmps15
  go_wp2_with fail
  refine Hd.out.mono ?_
  rintro e w' ⟨rfl, rfl⟩
  go_wp2_with fail
  go_loopw [6, 7, 8] (fun a t i wr => ∃ (k q : Nat) (s : Int), k ≤ m ∧ i = .int .i64 k ∧ t = .int .i64 s ∧ 0 ≤ s ∧ s ≤ 64 ∧ Hid (s = (ws.take k).sum) ∧ a = .int .u64 ((wordF (upto (fldOf ws) k) vs : Nat) : Int) ∧ fitsF (upto (fldOf ws) k) vs ∧ wr = w.drewN q) (fun _ _ i _ => m - (intOf i).toNat)
  case atStart => exact ⟨0, 0, 0, Nat.zero_le _, rfl, rfl, by omega, by omega, by show _ = _; simp, rfl, (by intro k hk; simp [upto] at hk), rfl⟩
  case round =>
    obtain ⟨k, q, s, hk, rfl, rfl, hs0, hs1, hs, rfl, hf, rfl⟩ := hrel
    by_cases hlt : k < m
    · obtain ⟨b, off, rfl, hc1⟩ := HI.out k hlt
      obtain ⟨b2, off2, rfl, hc2⟩ := HV.out k hlt
      have hx := okW_at 0 ws k HOK.out (by rw [HM.out]; exact hlt)
      have hts := sum_take_succ ws k (by rw [HM.out]; exact hlt)
      have hv := hw.at k
      obtain ⟨x, ex⟩ : ∃ x, ws[k]?.getD 0 = x := ⟨_, rfl⟩
      obtain ⟨v, ev⟩ : ∃ v, vs[k]?.getD 0 = v := ⟨_, rfl⟩
      rw [← hs.out, ex] at hx hts
      rw [ex] at hc1
      rw [ev] at hc2 hv
      have EX := Lib.hid ex
      have EV := Lib.hid ev
      have HT := Lib.hid hts
      clear ex ev hts
      have hwl := wordF_lt (upto (fldOf ws) k) vs
      obtain ⟨W, eW⟩ : ∃ W, wordF (upto (fldOf ws) k) vs = W := ⟨_, rfl⟩
      rw [eW] at hwl ⊢
      have EW := Lib.hid eW
      clear eW
      have k0 : (0 : Int) ≤ (k : Int) := by omega
      have kl : (k : Int) < (m : Int) := by omega
      by_cases h64 : x < 64
      · have g1 : decide (x < 64) = true := by simpa using h64
        by_cases hfit : v < 2 ^ x.toNat
        · have g2 : ((v : Int) / 2 ^ x.toNat != 0) = false := by
            rw [cast_two_pow]
            have : v / 2 ^ x.toNat = 0 := Nat.div_eq_of_lt hfit
            have e : (v : Int) / ((2 ^ x.toNat : Nat) : Int) = ((v / 2 ^ x.toNat : Nat) : Int) := rfl
            rw [e, this]; rfl
          go_wp2_with fail
          go_quiet (fail)
          go_wp2_with fail
          go_roundw
          case rel => exact ⟨k + 1, q + nq, s + x, by omega, by go_num, rfl, by omega, by omega, HT.out.symm, val_int (by rw [← EW.out]; exact upto_snoc_word ws k vs s v hs.out hs0 hs1 EV.out), fits_upto ws k vs x v EX.out hx.1 hx.2.1 EV.out hf hfit, rfl⟩
          case measure => simp [intOf]; omega
        · have g2 : ((v : Int) / 2 ^ x.toNat != 0) = true := by
            rw [cast_two_pow]
            have hp : 0 < 2 ^ x.toNat := Nat.pow_pos (by omega)
            have : 0 < v / 2 ^ x.toNat := Nat.div_pos (by omega) hp
            have e : (v : Int) / ((2 ^ x.toNat : Nat) : Int) = ((v / 2 ^ x.toNat : Nat) : Int) := rfl
            rw [e, bne_iff_ne]; omega
          go_wp2_with fail
          go_quiet (fail)
          go_wp2_with fail
          go_ret2
          exact ⟨⟨q + nq, by first | rfl | rw [World.drewN_drewN]⟩, .inr ⟨rfl, fits_not ws k m vs x v EX.out hx.2.1 EV.out hlt (by omega)⟩⟩
      · have g1 : decide (x < 64) = false := by simp; omega
        have hfit : v < 2 ^ x.toNat := by
          have : x.toNat = 64 := by omega
          rw [this]; exact hv
        go_wp2_with fail
        go_quiet (fail)
        go_wp2_with fail
        go_roundw
        case rel => exact ⟨k + 1, q + nq, s + x, by omega, by go_num, rfl, by omega, by omega, HT.out.symm, val_int (by rw [← EW.out]; exact upto_snoc_word ws k vs s v hs.out hs0 hs1 EV.out), fits_upto ws k vs x v EX.out hx.1 hx.2.1 EV.out hf hfit, rfl⟩
        case measure => simp [intOf]; omega
    · obtain rfl : k = m := by omega
      have HF := Lib.hid hf
      clear hf
      go_wp2_with fail
      go_ret2
      exact ⟨⟨q, rfl⟩, .inl ⟨rfl, HF.out⟩⟩

set_option maxHeartbeats 400000 in
theorem refFields_size (A B : Option Addr) (c d : Nat) (n m : Nat) (w : World) (h : n ≠ m) :
    Calls Try.prog 15 #[.slice A n c, .slice B m d] w fun e w' => e = .returned (.tuple #[.int .u64 0, .int .i64 3]) ∧ w = w' := by
  have H1 : ((n : Int) != (m : Int)) = true := by simp; omega
  go_enter Try.func15, Try.ntmps15
  go_wp2_with fail
  go_ret2
  exact ⟨rfl, rfl⟩

set_option maxHeartbeats 400000 in
theorem refFields_range (A B : Option Addr) (c d : Nat) (ws : List Int) (w : World) (hA : Reads w A (iv ws)) (hlen : ws.length ≤ 1000000) (hok : okW 0 ws = false) :
    Calls Try.prog 15 #[.slice A ws.length c, .slice B ws.length d] w fun e w' => e = .returned (.tuple #[.int .u64 0, .int .i64 1]) ∧ w = w' := by
  have Hd := Lib.hid (refWidths_any A c ws w hA hlen)
  rw [hok] at Hd
  clear hok
  go_enter Try.func15, Try.ntmps15
  go_wp2_with fail
  refine Hd.out.mono ?_
  rintro e w' ⟨rfl, rfl⟩
  go_wp2_with fail
  go_ret2
  exact ⟨rfl, rfl⟩

/-- What Fields answers. -/
def wordR (ws : List Int) (vs : List Nat) : Nat := if ws.length = vs.length ∧ okW 0 ws = true ∧ fitsB (upto (fldOf ws) ws.length) vs = true then wordF (upto (fldOf ws) ws.length) vs else 0
def wordE (ws : List Int) (vs : List Nat) : Int := if ws.length ≠ vs.length then 3 else if okW 0 ws = true ∧ fitsB (upto (fldOf ws) ws.length) vs = true then 0 else 1

theorem fields_all (A B : Option Addr) (c d n m : Nat) (ws : List Int) (vs : List Nat) (w : World) (hn : ws.length = n) (hm : vs.length = m) (hA : Reads w A (iv ws)) (hB : Reads w B (uv vs)) (hlen : n ≤ 1000000) (hw : W64 vs) :
    Calls Try.prog 14 #[.slice A n c, .slice B m d] w fun e w' => e = .returned (.tuple #[.int .u64 ((wordR ws vs : Nat) : Int), .int .i64 (wordE ws vs)]) ∧ Below w.heap.size w w' := by
  subst hn hm
  unfold wordR wordE
  by_cases hl : ws.length = vs.length
  · by_cases hok : okW 0 ws = true
    · refine (fields_ok A B c d ws vs w hA hB hl hlen hok hw).mono ?_
      rintro e w' ⟨hb, ⟨rfl, hf⟩ | ⟨rfl, hf⟩⟩
      · rw [fitsB_iff] at hf
        rw [if_pos ⟨hl, hok, hf⟩, if_neg (fun h => h hl), if_pos ⟨hok, hf⟩]
        exact ⟨rfl, hb⟩
      · rw [fitsB_iff] at hf
        rw [if_neg (fun h => hf h.2.2), if_neg (fun h => h hl), if_neg (fun h => hf h.2)]
        exact ⟨rfl, hb⟩
    · rw [if_neg (fun h => hok h.2.1), if_neg (fun h => h hl), if_neg (fun h => hok h.1), ← hl]
      exact fields_range A B c d ws w hA hlen (by simpa using hok)
  · rw [if_neg (fun h => hl h.1), if_pos hl]
    exact fields_size A B c d _ _ w hl

theorem refFields_all (A B : Option Addr) (c d n m : Nat) (ws : List Int) (vs : List Nat) (w : World) (hn : ws.length = n) (hm : vs.length = m) (hA : Reads w A (iv ws)) (hB : Reads w B (uv vs)) (hlen : n ≤ 1000000) (hw : W64 vs) :
    Calls Try.prog 15 #[.slice A n c, .slice B m d] w fun e w' => e = .returned (.tuple #[.int .u64 ((wordR ws vs : Nat) : Int), .int .i64 (wordE ws vs)]) ∧ ∃ q, w' = w.drewN q := by
  subst hn hm
  unfold wordR wordE
  by_cases hl : ws.length = vs.length
  · by_cases hok : okW 0 ws = true
    · refine (refFields_ok A B c d ws vs w hA hB hl hlen hok hw).mono ?_
      rintro e w' ⟨hb, ⟨rfl, hf⟩ | ⟨rfl, hf⟩⟩
      · rw [fitsB_iff] at hf
        rw [if_pos ⟨hl, hok, hf⟩, if_neg (fun h => h hl), if_pos ⟨hok, hf⟩]
        exact ⟨rfl, hb⟩
      · rw [fitsB_iff] at hf
        rw [if_neg (fun h => hf h.2.2), if_neg (fun h => h hl), if_neg (fun h => hf h.2)]
        exact ⟨rfl, hb⟩
    · rw [if_neg (fun h => hok h.2.1), if_neg (fun h => h hl), if_neg (fun h => hok h.1), ← hl]
      exact (refFields_range A B c d ws w hA hlen (by simpa using hok)).mono fun e w' h => ⟨h.1, 0, h.2.symm⟩
  · rw [if_neg (fun h => hl h.1), if_pos hl]
    exact (refFields_size A B c d _ _ w hl).mono fun e w' h => ⟨h.1, 0, h.2.symm⟩

end Go.Proofs.Ytcafhnaododjfaa
