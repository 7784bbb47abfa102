/-
  ref25.Decode; both at any words.
-/
import Derived.Test.YtjnkajdfdhockaaNodeH
namespace Go.Proofs.Ytjnkajdfdhockaa
set_option linter.unusedVariables false
open Go.RowKit

theorem grown_undrew {w w' : World} {row : Option Nat} (h : w.drew.grownBy w' row) : w.grownBy w' row := ⟨h.os, h.tape, h.output, h.size, h.block⟩

set_option maxRecDepth 100000 in
set_option maxHeartbeats 1000000 in
theorem refDecode_no (A : Option Addr) (c n : Nat) (l : List Nat) (block : Int) (w : World) (hn : l.length = n) (hA : Reads w A (uv l)) (hl : W64 l) (hlen : n ≤ 1000000) (hE : sealedN l 2 block ≠ 0) :
    Calls Try.prog 23 #[.slice A n c, .int .i64 block] w fun e w' => e = .returned (.tuple #[.agg #[.int .i64 0, .int .i64 0, .slice none 0 0], .int .i64 (sealedN l 2 block)]) ∧ Below w.heap.size w w' := by
  have HS := Lib.hid (refSealed_any A c n l 2 block (w.alloc (.cells #[.int .i64 0, .int .i64 0, .slice none 0 0] 27)) hn (hA.alloc _) hl hlen)
  have hb0 : Below w.heap.size w (w.alloc (.cells #[.int .i64 0, .int .i64 0, .slice none 0 0] 27)) := (Below.refl _ _).alloc (Nat.le_refl _) _
  have hC := Cs.new w 27 #[.int .i64 0, .int .i64 0, .slice none 0 0]
  generalize sealedN l 2 block = v at *
  have hv1 : (v != 0) = true := by simpa using hE
  clear hE hn
  go_enter Try.func23, Try.ntmps23
  go_wp2_with fail
  refine HS.out.mono ?_
  rintro e w1 ⟨rfl, hb1⟩
  have hC1 := hC.below hb1 (by simp)
  obtain ⟨x0, x1, x2, y0, y1, y2⟩ := hC1.at3
  have hbw := hb0.trans (hb1.mono hb0.size)
  have hC2 := hC1.put3 (.int .i64 0) (.int .i64 0) (.slice none 0 0)
  have hb2 := below_put3 hbw (Nat.le_refl _) (.int .i64 0) (.int .i64 0) (.slice none 0 0)
  have HC2 := Lib.hid hC2
  clear hC hC1 hC2
  go_wp2_with fail
  generalize (((w1.setCell _ _).setCell _ _).setCell _ _) = w2 at HC2 hb2 ⊢
  clear x0 x1 x2 y0 y1 y2
  obtain ⟨x0, x1, x2, _⟩ := HC2.out.at3
  exact bodyPost_ret (v := .tuple #[.agg #[.int .i64 0, .int .i64 0, .slice none 0 0], .int .i64 v]) (by simp [results, Try.f23, go_sem, x0, x1, x2]) rfl ⟨rfl, hb2⟩

set_option maxRecDepth 100000 in
set_option maxHeartbeats 1000000 in
theorem refDecode_yes (A : Option Addr) (c n : Nat) (l : List Nat) (block : Int) (w : World) (hn : l.length = n) (hA : Reads w A (uv l)) (hl : W64 l) (hlen : n ≤ 1000000) (hE : sealedN l 2 block = 0) :
    Calls Try.prog 23 #[.slice A n c, .int .i64 block] w (DecP l block w) := by
  obtain ⟨i0, hi0, hz0, hz1, hz2⟩ := info_parts entry_info
  have h16 : n = 16 := by
    unfold sealedN at hE
    rw [hn] at hE
    by_cases h : n = 16
    · exact h
    · rw [if_pos h] at hE; cases hE
  subst h16
  have HS := Lib.hid (refSealed_any A c 16 l 2 block (w.alloc (.cells #[.int .i64 0, .int .i64 0, .slice none 0 0] 27)) hn (hA.alloc _) hl hlen)
  have HN := Lib.hid hn
  have HDE : Hid (decE l block = if 7 < cntN l ∨ 16777215 < sqN l then 24 else
    if okAll l (cntN l) = false then 24 else
    if validN (lvN l) (sqN l) (upto (entAt l) (cntN l)) ≠ 0 then 24 else 0) := by
    show _ = _
    unfold decE
    rw [if_neg (by omega)]
  have hb0 : Below w.heap.size w (w.alloc (.cells #[.int .i64 0, .int .i64 0, .slice none 0 0] 27)) := (Below.refl _ _).alloc (Nat.le_refl _) _
  have hC := Cs.new w 27 #[.int .i64 0, .int .i64 0, .slice none 0 0]
  rw [hE] at HS
  have hx := hl.at 0
  obtain ⟨b, off, rfl, hbl, hc⟩ := hA.u (by omega)
  have hc0 := hc 0 (by omega)
  have hc15 := hc 15 (by omega)
  have hl15 := hl.at 15
  rw [Nat.add_zero] at hc0
  have HC := Lib.hid hc
  have eC : Hid (cntN l = (l[0]?.getD 0) / 256 % 16) := rfl
  have eL : Hid (lvN l = (l[0]?.getD 0) / 16 % 16) := rfl
  have eS : Hid (sqN l = l[15]?.getD 0) := rfl
  obtain ⟨x, ex⟩ : ∃ x, l[0]?.getD 0 = x := ⟨_, rfl⟩
  obtain ⟨z, ez⟩ : ∃ z, l[15]?.getD 0 = z := ⟨_, rfl⟩
  rw [ex] at hc0 hx eC eL
  rw [ez] at hc15 hl15 eS
  clear hE hn hc ex ez
  go_enter Try.func23, Try.ntmps23
  go_wp2_with fail
  refine HS.out.mono ?_
  rintro e w1 ⟨rfl, hb1⟩
  have hC1 := hC.below hb1 (by simp)
  have hbw1 := hb0.trans (hb1.mono hb0.size)
  have hlt1 : w.heap.size < w1.heap.size := hC1.lt
  have hca := (hbw1.cell (p := ⟨b, off, none⟩) hbl).trans hc0
  have hb11 : b < w1.heap.size := by omega
  have HCS1 := Lib.hid hC1
  clear hc0 hC hC1 hb0 hb1 HS
  have q1 : lvN l < 16 := by rw [eL.out]; omega
  have q2 : cntN l < 16 := by rw [eC.out]; omega
  have hc15a := (hbw1.cell (p := ⟨b, off + 15, none⟩) hbl).trans hc15
  have hC3 := HCS1.out
  have hEn : sqN l = z := eS.out
  rw [← hEn] at hc15a hl15
  have b2 : bits BinOp.and IntKind.u64 ((x : Int) / 256) 15 = ((x / 256 % 16 : Nat) : Int) := and_low (x / 256) 4 (by omega) (by omega)
  have b1 : bits BinOp.and IntKind.u64 ((x : Int) / 16) 15 = ((x / 16 % 16 : Nat) : Int) := and_low (x / 16) 4 (by omega) (by omega)
  rw [← eC.out] at b2
  rw [← eL.out] at b1
  clear hc15 hEn
  have HP : Hid (∀ e w', DecP l block w e w' ↔ (e = .returned (.tuple #[.agg #[.int .i64 0, .int .i64 0, .slice none 0 0], .int .i64 24]) ∧ decE l block = 24 ∧ Below w.heap.size w w') ∨
    (∃ v, e = .returned (.tuple #[.agg #[.int .i64 (lvN l : Int), .int .i64 (sqN l : Int), v], .int .i64 0]) ∧ decE l block = 0 ∧ w'.ownsRow w.heap.size 52 2 v (cntN l) (ev (upto (entAt l) (cntN l))) ∧ Below w.heap.size w w')) := fun e w' => Iff.rfl
  generalize cntN l = cn at *
  generalize lvN l = lv at *
  generalize sqN l = sq at *
  obtain ⟨x0, x1, x2, y0, y1, y2⟩ := hC3.at3
  have hbad := hC3.put3 (.int .i64 0) (.int .i64 0) (.slice none 0 0)
  have hbb := below_put3 hbw1 (Nat.le_refl _) (.int .i64 0) (.int .i64 0) (.slice none 0 0)
  have HBAD := Lib.hid hbad
  have HC3 := Lib.hid hC3
  clear hbad hC3
  by_cases hlim : 7 < cn ∨ 16777215 < sq
  · have HD : Hid (decE l block = 24) := by show _ = _; rw [HDE.out, if_pos hlim]
    by_cases h7 : 7 < cn
    · go_wp2_with fail
      generalize (((w1.setCell _ _).setCell _ _).setCell _ _) = w4 at HBAD hbb ⊢
      clear x0 x1 x2 y0 y1 y2
      obtain ⟨x0, x1, x2, _⟩ := HBAD.out.at3
      exact bodyPost_ret (v := .tuple #[.agg #[.int .i64 0, .int .i64 0, .slice none 0 0], .int .i64 24]) (by simp [results, Try.f23, go_sem, x0, x1, x2]) rfl (.inl ⟨rfl, HD.out, hbb⟩)
    · have hsq : 16777215 < sq := by omega
      go_wp2_with fail
      generalize (((w1.setCell _ _).setCell _ _).setCell _ _) = w4 at HBAD hbb ⊢
      clear x0 x1 x2 y0 y1 y2
      obtain ⟨x0, x1, x2, _⟩ := HBAD.out.at3
      exact bodyPost_ret (v := .tuple #[.agg #[.int .i64 0, .int .i64 0, .slice none 0 0], .int .i64 24]) (by simp [results, Try.f23, go_sem, x0, x1, x2]) rfl (.inl ⟨rfl, HD.out, hbb⟩)
  · have h7 : ¬ 7 < cn := by omega
    have hsq : ¬ 16777215 < sq := by omega
    have HD : Hid (decE l block = if okAll l cn = false then 24 else if validN lv sq (upto (entAt l) cn) ≠ 0 then 24 else 0) := by show _ = _; rw [HDE.out, if_neg hlim]
    clear hlim HDE HBAD hbb
    have hb1l : b < w1.heap.size := Nat.lt_of_lt_of_le hbl hbw1.size
    go_wp2_with fail
    go_region
    go_wp2_with fail
    have hI : DecI l cn lv sq w1 0 (w1.alloc (.cells #[.int .i64 (lv : Int), .int .i64 (sq : Int), .slice none 0 0] 27)).drew := by
      refine ⟨_, Cs.new w1 _ _, ?_, ((Below.refl _ w1).alloc (Nat.le_refl _) _).drew, by simp⟩
      rw [show min 0 cn = 0 by omega]
      exact World.ownsRow_nil _ _ _ _
    have HI := Lib.hid hI
    clear hI x0 x1 x2 y0 y1 y2 b1 b2 hc15a hca
    generalize (w1.alloc _).drew = w4 at HI ⊢
    go_loopw [9] (fun i wr => ∃ k : Nat, k ≤ 7 ∧ i = .int .i64 k ∧ DecI l cn lv sq w1 k wr ∧ Hid (∀ j, j < k → okAt l cn j = true)) (fun i _ => 7 - (intOf i).toNat)
    case atStart => exact ⟨0, by omega, rfl, HI.out, fun j hj => absurd hj (by omega)⟩
    case round =>
      obtain ⟨k, hk, rfl, hI, hok⟩ := hrel
      obtain ⟨v, hCs, hrow, hbr, hsz⟩ := hI
      obtain ⟨A1, c1, rfl⟩ := own_form hrow
      have hbwr := hbw1.trans (hbr.mono hbw1.size)
      have hC0 := HC3.out.below hbr (show w.heap.size < w1.heap.size from HC3.out.lt)
      obtain ⟨x0, x1, x2, y0, y1, y2⟩ := hC0.at3
      have hbad := hC0.put3 (.int .i64 0) (.int .i64 0) (.slice none 0 0)
      have hbb := below_put3 hbwr (Nat.le_refl _) (.int .i64 0) (.int .i64 0) (.slice none 0 0)
      have HBAD := Lib.hid hbad
      clear hbad
      by_cases hlt : k < 7
      · have g1 := (hbwr.cell (p := ⟨b, off + (1 + k), none⟩) hbl).trans (HC.out (1 + k) (by rw [HN.out]; omega))
        have g2 := (hbwr.cell (p := ⟨b, off + (8 + k), none⟩) hbl).trans (HC.out (8 + k) (by rw [HN.out]; omega))
        have hr64 := hl.at (8 + k)
        have hp64 := hl.at (1 + k)
        have HOK : Hid (okAt l cn k = decide (l[1 + k]?.getD 0 ≤ 16777215 ∧ (cn ≤ k → l[1 + k]?.getD 0 = 0 ∧ l[8 + k]?.getD 0 = 0))) := rfl
        have HEA : Hid (entAt l k = (((l[1 + k]?.getD 0 : Nat) : Int), l[8 + k]?.getD 0)) := rfl
        obtain ⟨p, ep⟩ : ∃ p, l[1 + k]?.getD 0 = p := ⟨_, rfl⟩
        obtain ⟨r, er⟩ : ∃ r, l[8 + k]?.getD 0 = r := ⟨_, rfl⟩
        rw [ep] at g1 hp64 HOK HEA
        rw [er] at g2 hr64 HOK HEA
        clear ep er
        have t1 : IntKind.i64.wrap (1 + (k : Int)) = 1 + (k : Int) := IntWalk.i64_in _ (by omega)
        have t2 : IntKind.i64.wrap (8 + (k : Int)) = 8 + (k : Int) := IntWalk.i64_in _ (by omega)
        have t3 : (1 + (k : Int)).toNat = 1 + k := by omega
        have t4 : (8 + (k : Int)).toNat = 8 + k := by omega
        have t5 : (0 : Int) ≤ 1 + (k : Int) := by omega
        have t6 : (0 : Int) ≤ 8 + (k : Int) := by omega
        have t7 : 1 + (k : Int) < 16 := by omega
        have t8 : 8 + (k : Int) < 16 := by omega
        have HCs := Lib.hid hCs
        have HROW := Lib.hid hrow
        clear hCs hrow
        have hC05 := Lib.hid hC0
        clear HBAD hbb hC0 x0 x1 x2 y0 y1 y2
        obtain ⟨x0, x1, x2, y0, y1, y2⟩ := hC05.out.at3
        have hbad := hC05.out.put3 (.int .i64 0) (.int .i64 0) (.slice none 0 0)
        have hbb := below_put3 hbwr (Nat.le_refl _) (.int .i64 0) (.int .i64 0) (.slice none 0 0)
        have HBAD := Lib.hid hbad
        clear hbad
        by_cases hokk : okAt l cn k = true
        · have hp : p ≤ 16777215 ∧ (cn ≤ k → p = 0 ∧ r = 0) := by
            have h := hokk
            rw [HOK.out] at h
            exact of_decide_eq_true h
          have HOKS : Hid (∀ j, j < k + 1 → okAt l cn j = true) := by
            intro j hj
            by_cases e : j = k
            · rw [e]; exact hokk
            · exact hok.out j (by omega)
          have hp1 : ¬ 16777215 < p := by omega
          clear HBAD hbb
          by_cases hck : cn ≤ k
          · have hp0 := hp.2 hck
            have z1 : ((p : Int) != 0) = false := by simp; omega
            have z2 : ((r : Int) != 0) = false := by simp; omega
            have hck2 : ¬ k < cn := by omega
            clear hp hp0 hokk
            go_wp2_with fail
            go_roundw
            case rel =>
              refine ⟨k + 1, by omega, by go_num, ⟨_, HCs.out, ?_, hbr, hsz⟩, HOKS⟩
              have h := HROW.out
              rw [show min k cn = cn by omega] at h ⊢
              rw [show min (k + 1) cn = cn by omega]
              exact h
            case measure => simp [intOf]; omega
          · have hck2 : k < cn := by omega
            have hm : min k cn = k := by omega
            rw [hm] at HCs HROW
            obtain ⟨u0, u1, u2, v0, v1, v2⟩ := HCs.out.at3
            clear hp hokk hm
            have hlb : b < wr.heap.size := Nat.lt_of_lt_of_le hbl hbwr.size
            have hBn : w1.heap.size < wr.heap.size := HCs.out.lt
            have t0 : IntKind.i64.wrap (p : Int) = (p : Int) := IntWalk.i64_in _ (by omega)
            clear x0 x1 x2 y0 y1 y2 v0 v2
            go_wp2_with fail
            refine wp_region_mix 14 15 (by kernel_rfl) (by kernel_rfl) (fun w' => w'.cell? ⟨w1.heap.size, 2, none⟩ = some (.slice A1 k c1) ∧ w'.cell? ⟨b, off + (1 + k), none⟩ = some (.int .u64 (p : Int)) ∧ w'.cell? ⟨b, off + (8 + k), none⟩ = some (.int .u64 (r : Int))) ⟨u2, g1, g2⟩ ?_
            simp only [List.take_succ_cons, List.take_zero, List.drop_succ_cons, List.drop_zero]
            iterate 14
              refine ⟨?_, Or.inl ⟨by rfl, fun W' hS' => ?_⟩, fun _ _ _ h => h, ?_⟩
              rotate_left
              · obtain ⟨hs1, hs2, hs3⟩ := hS'
                go_simp
                with_reducible rfl
              simp only [Act.put, List.setIfInBounds_toArray, List.set_cons_zero, List.set_cons_succ]
            show wpSeqT _ _ _ _ _ _ _ _ _
            refine wpSeqT_step (fun K hK => ?_)
            go_simp
            refine hK _ _ (fun _ => ⟨(World.cell?_alloc_lt _ _ _ hBn).trans u2, (World.cell?_alloc_lt _ _ _ hlb).trans g1, (World.cell?_alloc_lt _ _ _ hlb).trans g2⟩) ?_
            clear hK K
            refine wpSeqT_list _ _ _ _ (by omega) ?_
            refine wpList_append_reads _ (by rfl) _ _ _ (by rfl) (w1.heap.size + 1) 52 i0 _ 2 16 Try.underlying25 hi0 hz0 hz1 hz2 (by rfl) (by omega) (.slice A1 k c1) k (ev (upto (entAt l) k)) (by rfl) (World.ownsRow.drew (HROW.out.alloc _)) (some ⟨wr.heap.size, 0, none⟩) 1 1 [.int .i64 (p : Int), .int .u64 (r : Int)] (by rfl) (by rfl) (Reads.drewN (Reads.new wr _ _) 1) (by simp [Value.oneCell']) (by simp only [maxLen]; omega) (by omega) (by simp; omega) ?_
            intro v9 w6 hown6 hg6 hat6
            obtain ⟨A2, c2, rfl⟩ := own_form hown6
            have hg7 := grown_undrew hg6
            obtain ⟨s1, s2, s3, s4, s5⟩ := DecI.put HCs.out HROW.out hown6 hg7 (by omega) hsz
            obtain ⟨r0, r1, r2, r3, r4, r5⟩ := s1.at3
            have S2 := Lib.hid s2
            have S3 := Lib.hid s3
            clear s1 s2 s3 hown6 hg6 hat6 hg7 u0 u1 u2 g1 g2 t1 t2 t3 t4
            go_wp2_with fail
            go_roundw
            case rel =>
              refine ⟨k + 1, by omega, by go_num, ⟨_, S2.out, ?_, hbr.trans s4, s5⟩, HOKS⟩
              have h := S3.out
              rw [show min (k + 1) cn = k + 1 by omega, upto_succ, ev_snoc, HEA.out]
              exact h
            case measure => simp [intOf]; omega
        · have HD2 : Hid (decE l block = 24) := by
            show _ = _
            rw [HD.out, if_pos (okAll_at (by simpa using hokk) hlt)]
          have hpn : ¬ (p ≤ 16777215 ∧ (cn ≤ k → p = 0 ∧ r = 0)) := by
            intro h
            exact hokk (by rw [HOK.out]; exact decide_eq_true h)
          by_cases hck : cn ≤ k
          · by_cases hp0 : p = 0
            · have z1 : ((p : Int) != 0) = false := by simp; omega
              have hr0 : r ≠ 0 := fun h => hpn ⟨by omega, fun _ => ⟨hp0, h⟩⟩
              have z2 : ((r : Int) != 0) = true := by simp; omega
              clear hpn hp0 hr0 hokk
              go_wp2_with fail
              generalize (((wr.setCell _ _).setCell _ _).setCell _ _) = w6 at HBAD hbb ⊢
              clear x0 x1 x2 y0 y1 y2
              obtain ⟨x0, x1, x2, _⟩ := HBAD.out.at3
              exact bodyPost_ret (v := .tuple #[.agg #[.int .i64 0, .int .i64 0, .slice none 0 0], .int .i64 24]) (by simp [results, Try.f23, go_sem, x0, x1, x2]) rfl (.inl ⟨rfl, HD2.out, hbb⟩)
            · have z1 : ((p : Int) != 0) = true := by simp; omega
              clear hpn hp0 hokk
              go_wp2_with fail
              generalize (((wr.setCell _ _).setCell _ _).setCell _ _) = w6 at HBAD hbb ⊢
              clear x0 x1 x2 y0 y1 y2
              obtain ⟨x0, x1, x2, _⟩ := HBAD.out.at3
              exact bodyPost_ret (v := .tuple #[.agg #[.int .i64 0, .int .i64 0, .slice none 0 0], .int .i64 24]) (by simp [results, Try.f23, go_sem, x0, x1, x2]) rfl (.inl ⟨rfl, HD2.out, hbb⟩)
          · have hp1 : 16777215 < p := by
              rcases Nat.lt_or_ge 16777215 p with h | h
              · exact h
              · exact absurd ⟨h, fun h => absurd h hck⟩ hpn
            clear hpn hokk
            go_wp2_with fail
            generalize (((wr.setCell _ _).setCell _ _).setCell _ _) = w6 at HBAD hbb ⊢
            clear x0 x1 x2 y0 y1 y2
            obtain ⟨x0, x1, x2, _⟩ := HBAD.out.at3
            exact bodyPost_ret (v := .tuple #[.agg #[.int .i64 0, .int .i64 0, .slice none 0 0], .int .i64 24]) (by simp [results, Try.f23, go_sem, x0, x1, x2]) rfl (.inl ⟨rfl, HD2.out, hbb⟩)
      · have hk7 : k = 7 := by omega
        have hm : min k cn = cn := by omega
        rw [hm] at hrow hCs
        have HALL : Hid (okAll l cn = true) := okAll_of (fun i hi => hok.out i (by omega))
        have hE64 : E64 (upto (entAt l) cn) := upto_E64 l cn hl (fun i hi => by
          have h := hok.out i (by omega)
          exact (of_decide_eq_true h).1)
        have HD2 : Hid (decE l block = if validN lv sq (upto (entAt l) cn) ≠ 0 then 24 else 0) := by
          show _ = _
          rw [HD.out, HALL.out, if_neg (by simp)]
        obtain ⟨u0, u1, u2, v0, v1, v2⟩ := hCs.at3
        have HV := Lib.hid (refValid_any (lv : Int) (sq : Int) A1 c1 cn (upto (entAt l) cn) wr (upto_length _ _) (Reads.of_own hrow) hE64 (by omega))
        have HCs := Lib.hid hCs
        have HROW := Lib.hid hrow
        have HC0 := Lib.hid hC0
        have hltr : w.heap.size < w1.heap.size := HC3.out.lt
        clear hk7 hCs hrow hC0 HBAD hbb x0 x1 x2 y0 y1 y2
        clear hm
        go_wp2_with fail
        refine HV.out.mono ?_
        rintro e w6 ⟨rfl, hb6⟩
        have hCs6 := HCs.out.below hb6 HCs.out.lt
        have hC6 := HC0.out.below hb6 HC0.out.lt
        have hrow6 := own_keepB HROW.out hb6
        have hbw6 := hbwr.trans (hb6.mono hbwr.size)
        clear u0 u1 u2 v0 v1 v2
        obtain ⟨u0, u1, u2, _⟩ := hCs6.at3
        obtain ⟨x0, x1, x2, y0, y1, y2⟩ := hC6.at3
        have HROW6 := Lib.hid hrow6
        have HC6 := Lib.hid hC6
        clear hrow6 hC6 hCs6
        by_cases hv : validN lv sq (upto (entAt l) cn) = 0
        · have HD3 : Hid (decE l block = 0) := by show _ = _; rw [HD2.out, if_neg (by omega)]
          rw [hv]
          have hgood := HC6.out.put3 (.int .i64 (lv : Int)) (.int .i64 (sq : Int)) (.slice A1 cn c1)
          have hbb := below_put3 hbw6 (Nat.le_refl _) (.int .i64 (lv : Int)) (.int .i64 (sq : Int)) (.slice A1 cn c1)
          have HG := Lib.hid hgood
          have hrow7 : (((w6.setCell ⟨w.heap.size, 0, none⟩ (.int .i64 (lv : Int))).setCell ⟨w.heap.size, 1, none⟩ (.int .i64 (sq : Int))).setCell ⟨w.heap.size, 2, none⟩ (.slice A1 cn c1)).ownsRow w.heap.size 52 2 (.slice A1 cn c1) cn (ev (upto (entAt l) cn)) := by
            refine own_lower (HROW6.out.kept (row := some w.heap.size) ⟨rfl, rfl, rfl, by simp, fun j _ hj => ?_⟩ (.inr (fun e => HC6.out.not_row HROW6.out (by decide) e.symm))) (by omega)
            rw [Below.heap_setCell _ _ _ j (fun e => hj (by rw [e])), Below.heap_setCell _ _ _ j (fun e => hj (by rw [e])), Below.heap_setCell _ _ _ j (fun e => hj (by rw [e]))]
          have HR7 := Lib.hid hrow7
          clear hrow7 hgood hv
          go_wp2_with fail
          generalize (((w6.setCell _ _).setCell _ _).setCell _ _) = w7 at HG hbb HR7 ⊢
          clear x0 x1 x2 y0 y1 y2
          obtain ⟨x0, x1, x2, _⟩ := HG.out.at3
          exact bodyPost_ret (v := .tuple #[.agg #[.int .i64 (lv : Int), .int .i64 (sq : Int), .slice A1 cn c1], .int .i64 0]) (by simp [results, Try.f23, go_sem, x0, x1, x2]) rfl ((HP.out _ _).2 (.inr ⟨_, rfl, HD3.out, HR7.out, hbb⟩))
        · have HD3 : Hid (decE l block = 24) := by show _ = _; rw [HD2.out, if_pos hv]
          have hv1 : (validN lv sq (upto (entAt l) cn) != 0) = true := by simpa using hv
          generalize validN lv sq (upto (entAt l) cn) = vn at hv1 ⊢
          have hbad := HC6.out.put3 (.int .i64 0) (.int .i64 0) (.slice none 0 0)
          have hbb := below_put3 hbw6 (Nat.le_refl _) (.int .i64 0) (.int .i64 0) (.slice none 0 0)
          have HBAD := Lib.hid hbad
          clear hbad hv
          go_wp2_with fail
          generalize (((w6.setCell _ _).setCell _ _).setCell _ _) = w7 at HBAD hbb ⊢
          clear x0 x1 x2 y0 y1 y2
          obtain ⟨x0, x1, x2, _⟩ := HBAD.out.at3
          exact bodyPost_ret (v := .tuple #[.agg #[.int .i64 0, .int .i64 0, .slice none 0 0], .int .i64 24]) (by simp [results, Try.f23, go_sem, x0, x1, x2]) rfl (.inl ⟨rfl, HD3.out, hbb⟩)

end Go.Proofs.Ytjnkajdfdhockaa
