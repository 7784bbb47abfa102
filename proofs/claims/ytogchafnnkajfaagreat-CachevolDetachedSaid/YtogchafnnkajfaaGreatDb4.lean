/-
  Merged texts (Db4): what the row proofs use of them.
-/
import Derived.Test.YtogchafnnkajfaaGreatDb3
import Derived.BigRegion
import Derived.Deep.DeepCutAuto
import Derived.BigQuiet
import Derived.Deep.QuietTactic
namespace Go.Proofs.YtogchafnnkajfaaGreat
set_option linter.unusedVariables false
open Go.RowKit Go.Shelf
attribute [local go_sem] Oper.semAt_some
def RmOut (k : Nat) (W : World) (x : CS) (v : Value) : Prop := ∃ A n c m B d, v = csV A n c x.clk B m d ∧ x.sl.length = n ∧ x.ms.length = m ∧ W.ownsRow k 31 4 (.slice A n c) n (scs x.sl) ∧ Reads W B (iv x.ms) ∧ (∀ p, B = some p → k ≤ p.block ∧ ∀ b, (Value.slice A n c).ownBlock = some b → p.block ≠ b)
theorem RmOut.of {k : Nat} {W : World} {x : CS} {v : Value} (h : RsOut k W x v) : RmOut k W x v := by
  obtain ⟨A, n, c, m, B, d, h1, h2, h3, h4, h5⟩ := h
  exact ⟨A, n, c, m, B, d, h1, h2, h3, h4, own_reads h5, fun p hp => by subst hp; exact ⟨(h5.lt p.block rfl).1, fun b hb e => own_own_ne h4 h5 (by decide) b p.block hb rfl e.symm⟩⟩
set_option maxRecDepth 100000 in
set_option maxHeartbeats 4000000 in
theorem rmiss_any (W : World) (A B : Option Addr) (n c m d : Nat) (s : CS) (h : s.Ok) (hn : s.sl.length = n) (hm : s.ms.length = m) (hA : Reads W A (scs s.sl)) (hB : Reads W B (iv s.ms)) (b : Int) (hb : 0 ≤ b ∧ b ≤ 16777215) (hf : s.find b = -1) :
    Calls Tryz.prog 92 #[csV A n c s.clk B m d, .int .i64 b] W fun e w' => (∃ v, e = .returned (.tuple #[v, .bool (s.miss b).2, .int .i64 0]) ∧ RmOut W.heap.size w' (s.miss b).1 v) ∧ Below W.heap.size W w' := by
  obtain ⟨l, clk, ms⟩ := s
  dsimp only at hn hm hA hB ⊢
  have hl : 1 ≤ l.length ∧ l.length ≤ 1024 := h.len
  have hcl : 0 ≤ clk := h.clk.1
  have hml : ms.length ≤ 8 := h.msl
  have HF : Hid (∀ w, Below W.heap.size W w → Calls Tryz.prog 32 #[csV A n c clk B m d, .int .i64 b] w fun e w' => e = .returned (.int .i64 (-1)) ∧ Below w.heap.size w w') := fun w hw => by
    have := rfind_any w A B n c m d ⟨l, clk, ms⟩ h b hn hm (hA.keep hw) (hB.keep hw)
    rwa [hf] at this
  have HH : Hid (∀ w, Below W.heap.size W w → _) := fun w hw => rhas_any w B m d ms b hm (by omega) (hB.keep hw)
  obtain ⟨m5, hm5⟩ : ∃ m5, (ms.filter (· ≠ b)).length = m5 := ⟨_, rfl⟩
  have HW : Hid (∀ w, Below W.heap.size W w → Calls Tryz.prog 131 #[.slice B m d, .int .i64 b] w fun e w' => (∃ v, e = .returned v ∧ w'.ownsRow w.heap.size 3 1 v m5 (iv (ms.filter (· ≠ b)))) ∧ Below w.heap.size w w') := fun w hw => by
    have := rwithout_any w B m d ms b hm (by omega) (hB.keep hw)
    rwa [hm5] at this
  have HLN := Lib.hid hm5
  clear hm5
  have hb1 : Below W.heap.size W ((W.alloc (.cells #[.slice A n c, .int .i64 clk, .slice B m d] 58)).alloc (.cells #[.slice none 0 0, .int .i64 0, .slice none 0 0] 58)) := ((Below.refl _ W).alloc (Nat.le_refl _) _).alloc (by simp) _
  have hP := (Cs.new W 58 #[.slice A n c, .int .i64 clk, .slice B m d]).alloc (.cells #[.slice none 0 0, .int .i64 0, .slice none 0 0] 58)
  have hR := Cs.new (W.alloc (.cells #[.slice A n c, .int .i64 clk, .slice B m d] 58)) 58 #[.slice none 0 0, .int .i64 0, .slice none 0 0]
  rw [World.size_alloc] at hR
  have HS1 : Hid (((W.alloc (.cells #[.slice A n c, .int .i64 clk, .slice B m d] 58)).alloc (.cells #[.slice none 0 0, .int .i64 0, .slice none 0 0] 58)).heap.size = W.heap.size + 1 + 1) := by show _ = _; simp
  have HC : Hid (∀ w, Below W.heap.size W w → _) := fun w hw => rvalid_any w A B n c m d ⟨l, clk, ms⟩ h hn hm (hA.keep hw) (hB.keep hw)
  have HO : Hid (∀ w, Below W.heap.size W w → _) := fun w hw => rcopied_any w A B n c m d clk l ms hn hm (by omega) (by omega) (hA.keep hw) (hB.keep hw)
  have HN := Lib.hid hn
  have HM := Lib.hid hm
  have HML := Lib.hid hml
  have HB1 := Lib.hid hb1
  have HP := Lib.hid hP
  have HR := Lib.hid hR
  have HHL := Lib.hid hl
  unfold csV at *
  clear h hn hm hA hB hb1 hl hR hml
  have HBL : Hid (∀ w, _) := fun w => rblock_any w b hb
  clear hf
  go_enter Tryz.func92, Tryz.ntmps92
  go_upto_region 1 with (fail)
  generalize ((W.alloc (.cells #[.slice A n c, .int .i64 clk, .slice B m d] 58)).alloc (.cells #[.slice none 0 0, .int .i64 0, .slice none 0 0] 58)) = W1 at *
  obtain ⟨p0, p1, p2⟩ := hP.three
  clear hP
  go_upto_region 3 with (go_at_call 63; refine (HC.out W1 HB1.out).mono ?_; rintro e w2 ⟨rfl, hb2⟩)
  clear p0 p1 p2
  have HP2 := Lib.hid (HP.out.below hb2 (by rw [HS1.out]; omega))
  have HR2 := Lib.hid (HR.out.below hb2 (by rw [HS1.out]; omega))
  have HB2 := Lib.hid (HB1.out.trans (hb2.mono (by rw [HS1.out]; omega)))
  have hg2 : W.heap.size + 1 + 1 ≤ w2.heap.size := by have := hb2.size; rw [HS1.out] at this; exact this
  clear hb2 HP HB1 HR HS1 HC
  obtain ⟨p0, p1, p2⟩ := HP2.out.three
  go_upto_region 7 with (first
    | (go_at_call 115; refine (HBL.out w2).mono ?_; rintro e wq ⟨rfl, hwq⟩; rw [hwq]; clear hwq)
    | (go_at_call 32; refine (HF.out _ HB2.out).mono ?_; rintro e w22 ⟨rfl, hb2⟩))
  clear p0 p1 p2
  have hg2 := Nat.le_trans hg2 hb2.size
  have HP22 := Lib.hid (HP2.out.below hb2 HP2.out.lt)
  have HR22 := Lib.hid (HR2.out.below hb2 HR2.out.lt)
  have HB22 := Lib.hid (HB2.out.trans (hb2.mono HB2.out.size))
  clear hb2 HP2 HR2 HB2 HF HBL
  obtain ⟨p0, p1, p2⟩ := HP22.out.three
  go_upto_region 8 with (go_at_call 128; refine (HO.out w22 HB22.out).mono ?_; rintro e w3 ⟨⟨v, rfl, hrs⟩, hb3⟩; obtain ⟨a, c', B', d', rfl, hsl, hmi, hka, hal, hBp⟩ := hrs.parts HN.out HM.out (by have := HHL.out; omega); clear hrs)
  have HP3 := Lib.hid (HP22.out.below hb3 HP22.out.lt)
  have HR3 := Lib.hid (HR22.out.below hb3 HR22.out.lt)
  have HB3 := Lib.hid (HB22.out.trans (hb3.mono HB22.out.size))
  have hg3 : W.heap.size + 1 + 1 ≤ w3.heap.size := Nat.le_trans hg2 hb3.size
  have hT := Cs.new w3 58 #[.slice (some ⟨a, 0, none⟩) n c', .int .i64 clk, .slice B' m d']
  have hb4 : Below w3.heap.size w3 (w3.alloc (.cells #[.slice (some ⟨a, 0, none⟩) n c', .int .i64 clk, .slice B' m d'] 58)) := (Below.refl _ w3).alloc (Nat.le_refl _) _
  have HS4 := Lib.hid (hsl.alloc (.cells #[.slice (some ⟨a, 0, none⟩) n c', .int .i64 clk, .slice B' m d'] 58))
  have HM4 := Lib.hid (hmi.alloc (.cells #[.slice (some ⟨a, 0, none⟩) n c', .int .i64 clk, .slice B' m d'] 58))
  have HP4 := Lib.hid (HP3.out.below hb4 HP3.out.lt)
  have HR4 := Lib.hid (HR3.out.below hb4 HR3.out.lt)
  have HB4 := Lib.hid (HB3.out.trans (hb4.mono (by have := HB3.out.size; omega)))
  have HBG : Hid (∀ g, (Value.slice B' m d').ownBlock = some g → g < w3.heap.size) := fun g hg => own_lt hmi g hg
  generalize w3.heap.size = g3 at *
  generalize (w3.alloc (.cells #[.slice (some ⟨a, 0, none⟩) n c', .int .i64 clk, .slice B' m d'] 58)) = W4 at *
  have HBP := Lib.hid hBp
  have HT4 := Lib.hid hT
  clear hsl hmi hb3 HP22 HR22 HB22 HP3 HR3 HB3 hb4 HO p0 p1 p2 hT hBp
  obtain ⟨p0, p1, p2⟩ := HP4.out.three
  by_cases hmem : b ∈ ms
  · have hd : decide (b ∈ ms) = true := decide_eq_true hmem
    have HMS : Hid (CS.miss ⟨l, clk, ms⟩ b = (⟨l, clk, ms.filter (· ≠ b)⟩, true)) := by show _ = _; unfold CS.miss; exact if_pos hmem
    rw [hd] at HH
    clear hmem hd
    go_upto_region 9 with (go_at_call 116; refine (HH.out W4 HB4.out).mono ?_; rintro e w5 ⟨rfl, hb5⟩; obtain ⟨p0, p1, p2⟩ := (HP4.out.below hb5 HP4.out.lt).three)
    have HB5 := Lib.hid (HB4.out.trans (hb5.mono HB4.out.size))
    go_upto_region 10 with (go_at_call 131; refine (HW.out w5 HB5.out).mono ?_; rintro e w6 ⟨⟨v, rfl, hmi2⟩, hb6⟩; obtain ⟨B5, d5, hv5⟩ := own_form hmi2; subst hv5; have f2 := ((HT4.out.below hb5 HT4.out.lt).below hb6 (HT4.out.below hb5 HT4.out.lt).lt).free 2; obtain ⟨t0, t1, t2⟩ := ((HT4.out.below hb5 HT4.out.lt).below hb6 (HT4.out.below hb5 HT4.out.lt).lt).three)
    have hT6 := (HT4.out.below hb5 HT4.out.lt).below hb6 (HT4.out.below hb5 HT4.out.lt).lt
    have hR6 := (HR4.out.below hb5 HR4.out.lt).below hb6 (HR4.out.below hb5 HR4.out.lt).lt
    have hS6 := own_keepB (own_keepB HS4.out hb5) hb6
    have hg35 : g3 < w5.heap.size := Nat.lt_of_lt_of_le HT4.out.lt hb5.size
    have HM7 := Lib.hid (own_lower (own_off (b := g3) (i := 2) hmi2 (fun g hg => by have := (hmi2.lt g hg).1; omega) (.slice B5 m5 d5)) (show w22.heap.size ≤ w5.heap.size by omega))
    have HT7 : Hid (Cs (w6.setCell ⟨g3, 2, none⟩ (.slice B5 m5 d5)) g3 58 #[.slice (some ⟨a, 0, none⟩) n c', .int .i64 clk, .slice B5 m5 d5]) := Cs.put (l := [_, _, _]) hT6 _
    have HS7 := Lib.hid (own_off (b := g3) (i := 2) hS6 (fun g hg => by simp [Value.ownBlock] at hg; omega) (.slice B5 m5 d5))
    have HR7 := Lib.hid (hR6.off (b := g3) (i := 2) (by omega) (.slice B5 m5 d5))
    have HB7 := Lib.hid ((HB5.out.trans (hb6.mono HB5.out.size)).setCell (p := ⟨g3, 2, none⟩) (by show W.heap.size ≤ g3; omega) (.slice B5 m5 d5))
    clear hmi2 hb5 hb6 hT6 hR6 hS6 HS4 HM4 HR4 HB4 HT4 HP4 HB5 t0 t1 t2 f2 p0 p1 p2 HBP HBG HW HH
    generalize (w6.setCell ⟨g3, 2, none⟩ (.slice B5 m5 d5)) = W7 at *
    obtain ⟨t0, t1, t2⟩ := HT7.out.three
    obtain ⟨r0, r1, r2⟩ := HR7.out.three
    have f0 := HR7.out.free 0
    have f1 := HR7.out.free 1
    have f2 := HR7.out.free 2
    go_wp2_with fail
    (try simp only [Exit.inBlock, Exit.then])
    refine bodyPost_ret (res_state_two rfl _ _ (W.heap.size + 1) _ _ _ rfl (Cs.put3 HR7.out _ _ _)) rfl ?_
    rw [HMS.out]
    exact ⟨⟨_, rfl, RmOut.of (RsOut.fin (x := ⟨l, clk, ms.filter (· ≠ b)⟩) _ _ _ HN.out HLN.out HS7.out HM7.out (by omega) (by omega))⟩, below_put3 HB7.out (by omega) _ _ _⟩
  · have hd : decide (b ∈ ms) = false := decide_eq_false hmem
    have HMS : Hid (CS.miss ⟨l, clk, ms⟩ b = (⟨l, clk, if 8 < ms.length + 1 then (ms ++ [b]).drop 1 else ms ++ [b]⟩, false)) := by show _ = _; unfold CS.miss; exact if_neg hmem
    rw [hd] at HH
    have hm8 : m ≤ 8 := by have := HML.out; have := HM.out; omega
    obtain ⟨ii, hii, hy0, hy1, hy2⟩ := info_parts int_info
    clear hmem hd HW HLN
    go_upto_region 11 with (go_at_call 116; refine (HH.out W4 HB4.out).mono ?_; rintro e w5 ⟨rfl, hb5⟩)
    have HT5 := Lib.hid (HT4.out.below hb5 HT4.out.lt)
    have HR5 := Lib.hid (HR4.out.below hb5 HR4.out.lt)
    have HB5 := Lib.hid (HB4.out.trans (hb5.mono HB4.out.size))
    have HS5 := Lib.hid (own_keepB HS4.out hb5)
    have HM5 := Lib.hid (own_keepB HM4.out hb5)
    have hg35 : g3 < w5.heap.size := Nat.lt_of_lt_of_le HT4.out.lt hb5.size
    clear hb5 HS4 HM4 HR4 HB4 HT4 HP4 p0 p1 p2 HH
    obtain ⟨t0, t1, t2⟩ := HT5.out.three
    go_upto_region 12 with (at_builtin; refine wpList_append_reads _ (by rfl) (.tmp 37) (.tmp 39) _ (by rfl) w22.heap.size 3 ii _ 1 8 Tryz.underlying22 hii hy0 hy1 hy2 (by rfl) (by omega) (.slice B' m d') m (iv ms) (by rfl) (HM5.out.alloc _) (some ⟨w5.heap.size, 0, none⟩) 1 1 [.int .i64 b] (by rfl) (by rfl) (Reads.new _ _ _) (by simp [Value.oneCell']) (by simp only [maxLen]; omega) (by omega) (by simp; omega) ?_; intro v8 w8 hown8 hg8 hat8; obtain ⟨A8, c8, hv8⟩ := own_form hown8; subst hv8; have hT8 := (HT5.out.alloc (.cells #[.int .i64 b] 3)).grown hg8 (fun e => by have := HBG.out g3 e.symm; omega); have fA := hT8.free 2; obtain ⟨t0, t1, t2⟩ := hT8.three)
    have HT8 := Lib.hid hT8
    have HS8 := Lib.hid ((HS5.out.alloc (.cells #[.int .i64 b] 3)).kept hg8 (.inr (fun e => HBP.out a (e ▸ rfl) rfl)))
    have HR8 := Lib.hid ((HR5.out.alloc (.cells #[.int .i64 b] 3)).grown hg8 (fun e => by have := (HM5.out.lt _ e.symm).1; omega))
    have hba : Below W.heap.size W (w5.alloc (.cells #[.int .i64 b] 3)) := HB5.out.alloc HB5.out.size _
    have HB8 := Lib.hid (hba.grown hg8 (by simp; omega) (fun j e => by have := (HM5.out.lt j e).1; omega))
    obtain ⟨g8, cap8, hA, -, hbR⟩ := hown8.form (by omega)
    injection hA with hA2 _ hcap
    subst hA2
    subst hcap
    have hc8 : m + 1 ≤ c8 := own_cap hown8
    have hg8k := (hown8.lt g8 rfl).1
    have hg83 : g8 ≠ g3 := by
      rcases hat8 with h | h
      · have := HBG.out g8 h.symm
        omega
      · simp [Value.ownBlock] at h
        omega
    have HM8 := Lib.hid hown8
    clear hown8 hg8 hat8 hT8 hba HT5 HS5 HM5 HR5 HB5 hii hy0 hy1 hy2 HBP HBG
    have HT9 : Hid (Cs (w8.setCell ⟨g3, 2, none⟩ (.slice (some ⟨g8, 0, none⟩) (m + 1) c8)) g3 58 #[.slice (some ⟨a, 0, none⟩) n c', .int .i64 clk, .slice (some ⟨g8, 0, none⟩) (m + 1) c8]) := Cs.put (l := [_, _, _]) HT8.out _
    have HS9 := Lib.hid (own_off (b := g3) (i := 2) HS8.out (fun g hg => by simp [Value.ownBlock] at hg; omega) (.slice (some ⟨g8, 0, none⟩) (m + 1) c8))
    have HM9 := Lib.hid (own_off (b := g3) (i := 2) HM8.out (fun g hg => by simp [Value.ownBlock] at hg; omega) (.slice (some ⟨g8, 0, none⟩) (m + 1) c8))
    have HR9 := Lib.hid (HR8.out.off (b := g3) (i := 2) (by omega) (.slice (some ⟨g8, 0, none⟩) (m + 1) c8))
    have HB9 := Lib.hid (HB8.out.setCell (p := ⟨g3, 2, none⟩) (by show W.heap.size ≤ g3; omega) (.slice (some ⟨g8, 0, none⟩) (m + 1) c8))
    clear HR8 HT8 HS8 HB8 HM8 fA t0 t1 t2
    generalize (w8.setCell ⟨g3, 2, none⟩ (.slice (some ⟨g8, 0, none⟩) (m + 1) c8)) = W9 at *
    by_cases hm9 : m = 8
    · subst hm9
      have HMQ : Hid (CS.miss ⟨l, clk, ms⟩ b = (⟨l, clk, (ms ++ [b]).drop 1⟩, false)) := by show _ = _; rw [HMS.out, if_pos (by have := HM.out; omega)]
      clear HMS
      have v1 : (8 : Int) < ((8 + 1 : Nat) : Int) := by omega
      have v2 : ¬ c8 = 1 := by omega
      obtain ⟨t0, t1, t2⟩ := HT9.out.three
      have fA := HT9.out.free 2
      go_upto_region 14 with (fail)
      have HTx : Hid (Cs (W9.setCell ⟨g3, 2, none⟩ (.slice (some ⟨g8, 1, none⟩) 8 (c8 - 1))) g3 58 #[.slice (some ⟨a, 0, none⟩) n c', .int .i64 clk, .slice (some ⟨g8, 1, none⟩) 8 (c8 - 1)]) := Cs.put (l := [_, _, _]) HT9.out _
      have HSx := Lib.hid (own_off (b := g3) (i := 2) HS9.out (fun g hg => by simp [Value.ownBlock] at hg; omega) (.slice (some ⟨g8, 1, none⟩) 8 (c8 - 1)))
      have HRx := Lib.hid (HR9.out.off (b := g3) (i := 2) (by omega) (.slice (some ⟨g8, 1, none⟩) 8 (c8 - 1)))
      have HBx := Lib.hid (HB9.out.setCell (p := ⟨g3, 2, none⟩) (by show W.heap.size ≤ g3; omega) (.slice (some ⟨g8, 1, none⟩) 8 (c8 - 1)))
      have HRDx := Lib.hid (((own_reads HM9.out).drop1 (v := (iv (ms ++ [b])).drop 1) (by rw [iv_append]; rfl)).blk (w' := W9.setCell ⟨g3, 2, none⟩ (.slice (some ⟨g8, 1, none⟩) 8 (c8 - 1))) (fun p e => by injection e with e; subst e; exact Below.heap_setCell _ _ _ g8 hg83) (by simp))
      have hg8a : g8 ≠ a := fun e => own_own_ne HS9.out HM9.out (by decide) a g8 rfl rfl e.symm
      clear HR9 HT9 HS9 HB9 HM9 fA t0 t1 t2
      generalize (W9.setCell ⟨g3, 2, none⟩ (.slice (some ⟨g8, 1, none⟩) 8 (c8 - 1))) = Wx at *
      obtain ⟨t0, t1, t2⟩ := HTx.out.three
      obtain ⟨r0, r1, r2⟩ := HRx.out.three
      have f0 := HRx.out.free 0
      have f1 := HRx.out.free 1
      have f2 := HRx.out.free 2
      go_wp2_with fail
      (try simp only [Exit.inBlock, Exit.then])
      refine bodyPost_ret (res_state_two rfl _ _ (W.heap.size + 1) _ _ _ rfl (Cs.put3 HRx.out _ _ _)) rfl ?_
      rw [HMQ.out]
      refine ⟨⟨_, rfl, some ⟨a, 0, none⟩, n, c', 8, some ⟨g8, 1, none⟩, c8 - 1, rfl, HN.out, by show ((ms ++ [b]).drop 1).length = 8; rw [List.length_drop, List.length_append, HM.out]; rfl, own_lower (own_put3 HSx.out (by omega) _ _ _) (by omega), ?_, fun p hp => ?_⟩, below_put3 HBx.out (by omega) _ _ _⟩
      · show Reads _ _ (iv ((ms ++ [b]).drop 1))
        rw [show iv ((ms ++ [b]).drop 1) = (iv (ms ++ [b])).drop 1 by simp [iv]]
        exact HRDx.out.blk (fun p e => heap_put3 _ (by injection e with e; subst e; show g8 ≠ _; omega) _ _ _) (by simp)
      · injection hp with hp
        subst hp
        exact ⟨by show W.heap.size ≤ g8; omega, fun b hb e => hg8a (by simp [Value.ownBlock] at hb; exact e.trans hb.symm)⟩
    · have HMQ : Hid (CS.miss ⟨l, clk, ms⟩ b = (⟨l, clk, ms ++ [b]⟩, false)) := by show _ = _; rw [HMS.out, if_neg (by have := HM.out; omega)]
      have v1 : ¬ (8 : Int) < ((m + 1 : Nat) : Int) := by omega
      clear HMS
      obtain ⟨t0, t1, t2⟩ := HT9.out.three
      obtain ⟨r0, r1, r2⟩ := HR9.out.three
      have f0 := HR9.out.free 0
      have f1 := HR9.out.free 1
      have f2 := HR9.out.free 2
      go_wp2_with fail
      (try simp only [Exit.inBlock, Exit.then])
      refine bodyPost_ret (res_state_two rfl _ _ (W.heap.size + 1) _ _ _ rfl (Cs.put3 HR9.out _ _ _)) rfl ?_
      rw [HMQ.out]
      exact ⟨⟨_, rfl, RmOut.of (RsOut.fin (x := ⟨l, clk, ms ++ [b]⟩) _ _ _ HN.out (by show (ms ++ [b]).length = m + 1; rw [List.length_append, HM.out]; rfl) HS9.out (by show World.ownsRow _ _ _ _ _ _ (iv (ms ++ [b])); rw [iv_append]; exact HM9.out) (by omega) (by omega))⟩, below_put3 HB9.out (by omega) _ _ _⟩
end Go.Proofs.YtogchafnnkajfaaGreat
namespace Go.Proofs.YtogchafnnkajfaaGreat
set_option linter.unusedVariables false
open Go.RowKit
structure VC where
  g : Nat
  s0 : Nat
  s1 : Nat
  s2 : Nat
  m : Nat
  v : Nat
  n0 : Nat
  n1 : Nat
  n2 : Nat
  chunk : Nat
structure VS where
  S : DS
  x : CS
  ss : List Sl
  md : Int
  op : Bool
  pm : Bool
  stuck : Bool
  closed : Bool
def putV (pm : Bool) : Value := .func (.func (if pm = true then 102 else 101)) #[] #[]
theorem Reads.fr {G : Nat → Prop} {W W' : World} {B : Option Addr} {l : List Value} (h : Reads W B l) (hf : Fr G W W') (hn : l.length ≠ 0 → ∀ p, B = some p → ¬ G p.block) : Reads W' B l := by
  intro h0
  obtain ⟨b, o, e, hlt, hc⟩ := h h0
  subst e
  exact ⟨b, o, rfl, Nat.lt_of_lt_of_le hlt hf.size, fun j u hj => (hf.cell (b := b) (i := o + j) hlt (hn h0 _ rfl)).trans (hc j u hj)⟩
theorem ms_ne {l : List Int} (h : (iv l).length ≠ 0) : l ≠ [] := by
  rintro rfl
  exact h rfl
structure VolIn (W : World) (Fc Fv : Nat → Prop) (C : VC) (V : VS) (A : Option Addr) (c : Nat) (B : Option Addr) (d : Nat) : Prop where
  cache : CacheAt W Fc C.g C.s2 C.m C.n2 V.S V.ss (C.chunk : Int) V.md V.op
  inC : ∀ j, Fc j → Fv j
  sp0 : SpanAt W C.s0 C.g 0 C.n0
  sp1 : SpanAt W C.s1 C.g 1 C.n1
  o0 : ¬ Fc C.s0
  o1 : ¬ Fc C.s1
  i0 : Fv C.s0
  i1 : Fv C.s1
  vol : Cs W C.v 101 #[.pointer (some ⟨C.m, 0, none⟩), .slice A V.x.sl.length c, .int .i64 V.x.clk, .slice B V.x.ms.length d, .int .i64 (C.chunk : Int), spanV C.s0, spanV C.s1, putV V.pm, .bool V.stuck, .bool V.closed]
  ov : ¬ Fc C.v
  iv : Fv C.v
  v0 : C.v ≠ C.s0
  v1 : C.v ≠ C.s1
  row : W.ownsRow 0 31 4 (.slice A V.x.sl.length c) V.x.sl.length (scs V.x.sl)
  rowO : ∀ b, (Value.slice A V.x.sl.length c).ownBlock = some b → ¬ Fc b ∧ b ≠ C.s0 ∧ b ≠ C.s1 ∧ b ≠ C.v ∧ Fv b
  mis : Reads W B (Go.Proofs.YtogchafnnkajfaaGreat.iv V.x.ms)
  misO : ∀ p, B = some p → V.x.ms ≠ [] → ¬ Fc p.block ∧ p.block ≠ C.v ∧ Fv p.block ∧ (∀ b, (Value.slice A V.x.sl.length c).ownBlock = some b → p.block ≠ b) ∧ p.block < W.heap.size
def VolAt (W : World) (Fv : Nat → Prop) (C : VC) (V : VS) : Prop := ∃ Fc A c B d, VolIn W Fc Fv C V A c B d
def VolAtR (W : World) (Fv : Nat → Prop) (C : VC) (V : VS) (A : Option Addr) (c : Nat) : Prop := ∃ Fc B d, VolIn W Fc Fv C V A c B d
theorem VolAtR.at_ {W : World} {Fv : Nat → Prop} {C : VC} {V : VS} {A : Option Addr} {c : Nat} (h : VolAtR W Fv C V A c) : VolAt W Fv C V := by
  obtain ⟨Fc, B, d, h⟩ := h
  exact ⟨Fc, A, c, B, d, h⟩
theorem VolAt.row {W : World} {Fv : Nat → Prop} {C : VC} {V : VS} (h : VolAt W Fv C V) : ∃ A c, VolAtR W Fv C V A c := by
  obtain ⟨Fc, A, c, B, d, h⟩ := h
  exact ⟨A, c, Fc, B, d, h⟩
section
variable {W : World} {Fc Fv : Nat → Prop} {C : VC} {V : VS} {A B : Option Addr} {c d : Nat}
theorem VolIn.fr (h : VolIn W Fc Fv C V A c B d) {W' : World} {G : Nat → Prop} (hf : Fr G W W') (hn : ∀ j, Fv j → ¬ G j) : VolIn W' Fc Fv C V A c B d :=
  ⟨h.cache.fr hf (fun j hj => hn j (h.inC j hj)), h.inC, Cs.fr h.sp0 hf (hn _ h.i0), Cs.fr h.sp1 hf (hn _ h.i1), h.o0, h.o1, h.i0, h.i1, h.vol.fr hf (hn _ h.iv), h.ov, h.iv, h.v0, h.v1, own_fr h.row hf (fun b hb => hn _ (h.rowO b hb).2.2.2.2), h.rowO,
    h.mis.fr hf (fun h0 p hp => hn _ (h.misO p hp (ms_ne h0)).2.2.1), fun p hp hm => ⟨(h.misO p hp hm).1, (h.misO p hp hm).2.1, (h.misO p hp hm).2.2.1, (h.misO p hp hm).2.2.2.1, Nat.lt_of_lt_of_le (h.misO p hp hm).2.2.2.2 hf.size⟩⟩
theorem VolIn.keep (h : VolIn W Fc Fv C V A c B d) {W' : World} (hb : Below W.heap.size W W') : VolIn W' Fc Fv C V A c B d := h.fr (G := fun _ => False) (Fr.of_below hb) (fun _ _ h => h)
theorem VolIn.turn (h : VolIn W Fc Fv C V A c B d) {W' : World} {Fc' : Nat → Prop} {S' : DS} {ss' : List Sl} {md' : Int} {op' : Bool} (hc : CacheAt W' Fc' C.g C.s2 C.m C.n2 S' ss' (C.chunk : Int) md' op') (ht : Turn Fc Fc' W W') :
    VolIn W' Fc' (fun j => Fv j ∨ Fc' j) C { V with S := S', ss := ss', md := md', op := op' } A c B d :=
  ⟨hc, fun j hj => .inr hj, Cs.fr h.sp0 ht.1 h.o0, Cs.fr h.sp1 ht.1 h.o1, ht.out (Cs.lt h.sp0) h.o0, ht.out (Cs.lt h.sp1) h.o1, .inl h.i0, .inl h.i1, h.vol.fr ht.1 h.ov, ht.out h.vol.lt h.ov, .inl h.iv, h.v0, h.v1, own_fr h.row ht.1 (fun b hb => (h.rowO b hb).1),
    fun b hb => ⟨ht.out (own_lt h.row b hb) (h.rowO b hb).1, (h.rowO b hb).2.1, (h.rowO b hb).2.2.1, (h.rowO b hb).2.2.2.1, .inl (h.rowO b hb).2.2.2.2⟩, h.mis.fr ht.1 (fun h0 p hp => (h.misO p hp (ms_ne h0)).1),
    fun p hp hm => ⟨ht.out (h.misO p hp hm).2.2.2.2 (h.misO p hp hm).1, (h.misO p hp hm).2.1, .inl (h.misO p hp hm).2.2.1, (h.misO p hp hm).2.2.2.1, Nat.lt_of_lt_of_le (h.misO p hp hm).2.2.2.2 ht.1.size⟩⟩
theorem VolIn.wide (h : VolIn W Fc Fv C V A c B d) {W' : World} {Fc' : Nat → Prop} (ht : Turn Fc Fc' W W') : Turn Fv (fun j => Fv j ∨ Fc' j) W W' := turn_wide h.inC ht
theorem VolIn.cells (h : VolIn W Fc Fv C V A c B d) : W.cell? ⟨C.v, 0, none⟩ = some (.pointer (some ⟨C.m, 0, none⟩)) ∧ W.cell? ⟨C.v, 1, none⟩ = some (.slice A V.x.sl.length c) ∧ W.cell? ⟨C.v, 2, none⟩ = some (.int .i64 V.x.clk) ∧ W.cell? ⟨C.v, 3, none⟩ = some (.slice B V.x.ms.length d) ∧ W.cell? ⟨C.v, 4, none⟩ = some (.int .i64 (C.chunk : Int)) ∧
    W.cell? ⟨C.v, 5, none⟩ = some (.iface 176 (.pointer (some ⟨C.s0, 0, none⟩))) ∧ W.cell? ⟨C.v, 6, none⟩ = some (.iface 176 (.pointer (some ⟨C.s1, 0, none⟩))) ∧ W.cell? ⟨C.v, 7, none⟩ = some (putV V.pm) ∧ W.cell? ⟨C.v, 8, none⟩ = some (.bool V.stuck) ∧ W.cell? ⟨C.v, 9, none⟩ = some (.bool V.closed) :=
  ⟨h.vol.cell 0, h.vol.cell 1, h.vol.cell 2, h.vol.cell 3, h.vol.cell 4, h.vol.cell 5, h.vol.cell 6, h.vol.cell 7, h.vol.cell 8, h.vol.cell 9⟩
theorem VolAt.fr (h : VolAt W Fv C V) {W' : World} {G : Nat → Prop} (hf : Fr G W W') (hn : ∀ j, Fv j → ¬ G j) : VolAt W' Fv C V := by
  obtain ⟨Fc, A, c, B, d, h⟩ := h
  exact ⟨Fc, A, c, B, d, h.fr hf hn⟩
theorem VolAt.keep (h : VolAt W Fv C V) {W' : World} (hb : Below W.heap.size W W') : VolAt W' Fv C V := h.fr (G := fun _ => False) (Fr.of_below hb) (fun _ _ h => h)
end
theorem CacheAt.tight {W : World} {Fc : Nat → Prop} {g sp m n : Nat} {S : DS} {ss : List Sl} {chunk mode : Int} {op : Bool} (h : CacheAt W Fc g sp m n S ss chunk mode op) : CacheAt W (fun j => Fc j ∧ j < W.heap.size) g sp m n S ss chunk mode op := by
  obtain ⟨F, A, c, h⟩ := h
  exact ⟨fun j => F j ∧ j < W.heap.size, A, c, h.dsk.tight, fun j hj => ⟨h.inF j hj.1, hj.2⟩, h.span, fun hj => h.spF hj.1, ⟨h.spC, Cs.lt h.span⟩, h.spm, fun hj => h.mF hj.1, ⟨h.mC, h.meta_.lt⟩, h.meta_, h.row, fun b hb => ⟨fun hj => (h.own b hb).1 hj.1, (h.own b hb).2.1, (h.own b hb).2.2.1, (h.own b hb).2.2.2, own_lt h.row b hb⟩⟩
theorem VolAtR.tight {W : World} {Fv : Nat → Prop} {C : VC} {V : VS} {A : Option Addr} {c : Nat} (h : VolAtR W Fv C V A c) : VolAtR W (fun j => Fv j ∧ j < W.heap.size) C V A c := by
  obtain ⟨Fc, B, d, h⟩ := h
  exact ⟨fun j => Fc j ∧ j < W.heap.size, B, d, h.cache.tight, fun j hj => ⟨h.inC j hj.1, hj.2⟩, h.sp0, h.sp1, fun hj => h.o0 hj.1, fun hj => h.o1 hj.1, ⟨h.i0, Cs.lt h.sp0⟩, ⟨h.i1, Cs.lt h.sp1⟩, h.vol, fun hj => h.ov hj.1, ⟨h.iv, h.vol.lt⟩, h.v0, h.v1, h.row,
    fun b hb => ⟨fun hj => (h.rowO b hb).1 hj.1, (h.rowO b hb).2.1, (h.rowO b hb).2.2.1, (h.rowO b hb).2.2.2.1, (h.rowO b hb).2.2.2.2, own_lt h.row b hb⟩, h.mis,
    fun p hp hm => ⟨fun hj => (h.misO p hp hm).1 hj.1, (h.misO p hp hm).2.1, ⟨(h.misO p hp hm).2.2.1, (h.misO p hp hm).2.2.2.2⟩, (h.misO p hp hm).2.2.2.1, (h.misO p hp hm).2.2.2.2⟩⟩
theorem VolAt.tight {W : World} {Fv : Nat → Prop} {C : VC} {V : VS} (h : VolAt W Fv C V) : VolAt W (fun j => Fv j ∧ j < W.heap.size) C V := by
  obtain ⟨A, c, h⟩ := h.row
  exact h.tight.at_
theorem cwrite_any (W : World) (Fc : Nat → Prop) (g s2 m n2 sp i n : Nat) (S : DS) (ss : List Sl) (chunk md : Int) (op : Bool) (a : Int) (v : Nat) (h : CacheAt W Fc g s2 m n2 S ss chunk md op) (hs : SpanAt W sp g i n) (hsp : ¬ Fc sp) (hn : n ≤ 65536) (hv : v < 18446744073709551616) (hlog : S.log.length ≤ 1000000) (hwr : S.wr ≤ 1000000000) :
    Calls Tryz.prog 192 #[.pointer (some ⟨sp, 0, none⟩), .int .i64 a, .int .u64 (v : Int)] W fun e W' => e = .returned (.int .i64 (S.swE i n a)) ∧ ∃ Fc', CacheAt W' Fc' g s2 m n2 (S.swrite i n a v) ss chunk md op ∧ Turn Fc Fc' W W' := by
  obtain ⟨F, A, c, h⟩ := h
  refine (swrite_any W F g sp i n S a v h.dsk hs (fun hj => hsp (h.inF _ hj)) hn hv hlog hwr).mono ?_
  rintro e W' ⟨rfl, F', hd, ht⟩
  exact ⟨rfl, _, ⟨F', A, c, h.turn hd ht⟩, turn_wide h.inF ht⟩
theorem cread_any (W : World) (Fc : Nat → Prop) (g s2 m n2 sp i n : Nat) (S : DS) (ss : List Sl) (chunk md : Int) (op : Bool) (a : Int) (h : CacheAt W Fc g s2 m n2 S ss chunk md op) (hs : SpanAt W sp g i n) (hn : n ≤ 65536) :
    Calls Tryz.prog 190 #[.pointer (some ⟨sp, 0, none⟩), .int .i64 a] W fun e w' => e = .returned (.tuple #[.int .u64 (S.sread i n a : Int), .int .i64 (S.sE i n a)]) ∧ Below W.heap.size W w' := by
  obtain ⟨F, A, c, h⟩ := h
  exact sread_any W F g sp i n S a h.dsk hs hn
theorem csflush_any (W : World) (Fc : Nat → Prop) (g s2 m n2 sp i n : Nat) (S : DS) (ss : List Sl) (chunk md : Int) (op : Bool) (h : CacheAt W Fc g s2 m n2 S ss chunk md op) (hs : SpanAt W sp g i n) (hsp : ¬ Fc sp) (hlog : S.log.length ≤ 1000000) :
    Calls Tryz.prog 189 #[.pointer (some ⟨sp, 0, none⟩)] W fun e W' => e = .returned (.int .i64 (S.chkF (i : Int))) ∧ ∃ Fc', CacheAt W' Fc' g s2 m n2 (S.flush (i : Int)) ss chunk md op ∧ Turn Fc Fc' W W' := by
  obtain ⟨F, A, c, h⟩ := h
  refine (sflush_any W F g sp i n S h.dsk hs (fun hj => hsp (h.inF _ hj)) hlog).mono ?_
  rintro e W' ⟨rfl, F', hd, ht⟩
  exact ⟨rfl, _, ⟨F', A, c, h.turn hd ht⟩, turn_wide h.inF ht⟩
theorem cmflush_any (W : World) (Fc : Nat → Prop) (g s2 m n2 : Nat) (S : DS) (ss : List Sl) (chunk md : Int) (op : Bool) (h : CacheAt W Fc g s2 m n2 S ss chunk md op) (hlog : S.log.length ≤ 1000000) :
    Calls Tryz.prog 64 #[.pointer (some ⟨m, 0, none⟩)] W fun e W' => e = .returned (.int .i64 (S.chkF 2)) ∧ ∃ Fc', CacheAt W' Fc' g s2 m n2 (S.flush 2) ss chunk md op ∧ Turn Fc Fc' W W' := by
  obtain ⟨F, A, c, h⟩ := h
  refine (mflush_any W F g s2 2 n2 m S _ _ _ _ h.dsk h.span h.spF h.meta_ hlog).mono ?_
  rintro e W' ⟨rfl, F', hd, ht⟩
  exact ⟨rfl, _, ⟨F', A, c, h.turn hd ht⟩, turn_wide h.inF ht⟩
end Go.Proofs.YtogchafnnkajfaaGreat
namespace Go.Proofs.YtogchafnnkajfaaGreat
set_option linter.unusedVariables false
open Go.RowKit
attribute [local go_sem] Oper.semAt_some m_write m_read m_flush m_size
def VolP (W : World) (Fv : Nat → Prop) (C : VC) (r : Value) (V' : VS) (e : Ending) (W' : World) : Prop := e = .returned r ∧ ∃ Fv', VolAt W' Fv' C V' ∧ Turn Fv Fv' W W'
def VolPR (W : World) (Fv : Nat → Prop) (C : VC) (r : Value) (V' : VS) (A : Option Addr) (c : Nat) (e : Ending) (W' : World) : Prop := e = .returned r ∧ ∃ Fv', VolAtR W' Fv' C V' A c ∧ Turn Fv Fv' W W'
theorem VolPR.p {W : World} {Fv : Nat → Prop} {C : VC} {r : Value} {V' : VS} {A : Option Addr} {c : Nat} (e : Ending) (W' : World) (h : VolPR W Fv C r V' A c e W') : VolP W Fv C r V' e W' := by
  obtain ⟨he, Fv', hv, ht⟩ := h
  exact ⟨he, Fv', hv.at_, ht⟩
def VS.setE (C : VC) (V : VS) (k : Nat) : Int := V.S.swE 2 C.n2 (1 + (k : Int))
def VS.setV (C : VC) (V : VS) (k : Nat) (s : Sl) : VS := { V with S := V.S.swrite 2 C.n2 (1 + (k : Int)) s.word, ss := if V.setE C k = 0 then V.ss.set k ⟨s.valid, s.dirty, s.block, 0⟩ else V.ss, x := if V.setE C k = 0 then ⟨V.x.sl.set k s, V.x.clk, V.x.ms⟩ else V.x }
def VS.freeE (C : VC) (V : VS) (k : Nat) : Int := if V.setE C k = 0 then (V.setV C k nilS).S.chkF 2 else V.setE C k
def VS.freeV (C : VC) (V : VS) (k : Nat) : VS := if V.setE C k = 0 then { V.setV C k nilS with S := (V.setV C k nilS).S.flush 2 } else V.setV C k nilS
def put4 (W : World) (b k : Nat) (s : Sl) : World := ((((W.setCell ⟨b, k * 4, none⟩ (.bool s.valid)).setCell ⟨b, k * 4 + 1, none⟩ (.bool s.dirty)).setCell ⟨b, k * 4 + 2, none⟩ (.int .i64 s.block)).setCell ⟨b, k * 4 + 3, none⟩ (.int .i64 s.stamp))
theorem fr_put4 (W : World) (b k : Nat) (s : Sl) : Fr (fun j => j = b) W (put4 W b k s) := ((((Fr.refl (fun j => j = b) W).set (.inl rfl) _).set (.inl rfl) _).set (.inl rfl) _).set (.inl rfl) _
theorem VolIn.slot {W : World} {Fc Fv : Nat → Prop} {C : VC} {V : VS} {B : Option Addr} {b c d : Nat} (h : VolIn W Fc Fv C V (some ⟨b, 0, none⟩) c B d) (k : Nat) (s : Sl) (hk : k < V.x.sl.length) :
    VolIn (put4 W b k s) Fc Fv C { V with x := ⟨V.x.sl.set k s, V.x.clk, V.x.ms⟩ } (some ⟨b, 0, none⟩) c B d := by
  have hf := fr_put4 W b k s
  obtain ⟨o1, o2, o3, o4, o5⟩ := h.rowO b rfl
  have hl : (V.x.sl.set k s).length = V.x.sl.length := List.length_set
  have hrow := ((((h.row.stored (k * 4) (.bool s.valid)).1.stored (k * 4 + 1) (.bool s.dirty)).1.stored (k * 4 + 2) (.int .i64 s.block)).1.stored (k * 4 + 3) (.int .i64 s.stamp)).1
  rw [← scs_set V.x.sl k s hk] at hrow
  refine ⟨h.cache.fr hf (fun j hj e => o1 (e ▸ hj)), h.inC, Cs.fr h.sp0 hf (fun e => o2 e.symm), Cs.fr h.sp1 hf (fun e => o3 e.symm), h.o0, h.o1, h.i0, h.i1, ?_, h.ov, h.iv, h.v0, h.v1, ?_, ?_, ?_, ?_⟩
  · dsimp only
    rw [hl]
    exact h.vol.fr hf (fun e => o4 e.symm)
  · dsimp only
    rw [hl]
    exact hrow
  · dsimp only
    rw [hl]
    exact h.rowO
  · exact h.mis.fr hf (fun h0 p hp e => (h.misO p hp (ms_ne h0)).2.2.2.1 b rfl e)
  · intro p hp hm
    have := h.misO p hp hm
    exact ⟨this.1, this.2.1, this.2.2.1, fun g hg => this.2.2.2.1 g hg, Nat.lt_of_lt_of_le this.2.2.2.2 hf.size⟩
theorem VolIn.form {W : World} {Fc Fv : Nat → Prop} {C : VC} {V : VS} {A B : Option Addr} {c d : Nat} (h : VolIn W Fc Fv C V A c B d) (h1 : 1 ≤ V.x.sl.length) : ∃ b, A = some ⟨b, 0, none⟩ := by
  obtain ⟨a, cap, hA, -, hka⟩ := h.row.form (by omega)
  injection hA with hA _ hcap
  exact ⟨a, hA⟩
set_option maxRecDepth 100000 in
set_option maxHeartbeats 4000000 in
theorem vsetR_any (W : World) (Fv : Nat → Prop) (C : VC) (V : VS) (k : Nat) (s : Sl) (A0 : Option Addr) (c0' : Nat) (h : VolAtR W Fv C V A0 c0') (hlen : V.x.sl.length = V.ss.length) (hl : V.ss.length ≤ 1024) (hk : k < V.ss.length)
    (hr : 0 ≤ s.block ∧ s.block ≤ 16777215) (hv : s.valid = false → s.block = 0 ∧ s.dirty = false) (hn : C.n2 ≤ 65536) (hlog : V.S.log.length < 1000000) (hwr : V.S.wr ≤ 1000000) :
    Calls Tryz.prog 113 #[.pointer (some ⟨C.v, 0, none⟩), .int .i64 (k : Int), s.v] W (VolPR W Fv C (.int .i64 (V.setE C k)) (V.setV C k s) A0 c0') := by
  obtain ⟨Fc, B, d, h⟩ := h.tight
  obtain ⟨bR, rfl⟩ := h.form (by omega)
  have hb0 : Below W.heap.size W (W.alloc (.cells #[.bool s.valid, .bool s.dirty, .int .i64 s.block, .int .i64 s.stamp] 31)) := (Below.refl _ W).alloc (Nat.le_refl _) _
  have hC0 := Cs.new W 31 #[.bool s.valid, .bool s.dirty, .int .i64 s.block, .int .i64 s.stamp]
  have hlt : W.heap.size < (W.alloc (.cells #[.bool s.valid, .bool s.dirty, .int .i64 s.block, .int .i64 s.stamp] 31)).heap.size := hC0.lt
  have H1 := Lib.hid (h.keep hb0)
  have H0 := Lib.hid h
  have hN : k < V.x.sl.length := by omega
  unfold Sl.v at *
  go_enter Tryz.func113, Tryz.ntmps113
  go_upto_region 1 with (fail)
  have HLT := Lib.hid hlt
  have HB0 := Lib.hid hb0
  have HC0 := Lib.hid hC0
  clear h hb0 hlt hC0
  generalize hW0 : (W.alloc (.cells #[.bool s.valid, .bool s.dirty, .int .i64 s.block, .int .i64 s.stamp] 31)) = W0 at *
  clear hW0
  obtain ⟨c0, c1, c2, c3, c4, c5, c6, c7, c8, c9⟩ := H1.out.cells
  have y0 := HC0.out.cell 0
  have y1 := HC0.out.cell 1
  have y2 := HC0.out.cell 2
  have y3 := HC0.out.cell 3
  have HMP : Hid (∀ w, Below W0.heap.size W0 w → _) := fun w hw => mput_ok w Fc C.g C.s2 C.m C.n2 V.S V.ss (C.chunk : Int) V.md V.op k s (H1.out.cache.keep hw) hk hl hr hv hn hlog hwr
  unfold Sl.v at HMP
  go_still_tail 7, (by kernel_rfl)
  change wpList _ _ _ _ _ W0.drew
  clear c0 c1 c2 c3 c4 c5 c6 c7 c8 c9 y0 y1 y2 y3
  go_upto_region 2 with (go_at_call 138; refine (HMP.out W0.drew (Below.refl _ W0).drew).mono ?_; rintro e w2 ⟨rfl, Fc2, hc2, ht2⟩)
  have htd : Turn Fc Fc2 W0 w2 := (Turn.of_below (F := Fc) (Below.refl _ W0).drew).trans ht2
  have HX2 := Lib.hid (H1.out.turn hc2 htd)
  have HT2 := Lib.hid ((Turn.of_below HB0.out).trans (H1.out.wide htd))
  have hC2 := HC0.out.fr htd.1 (fun hj => Nat.lt_irrefl _ (H1.out.inC _ hj).2)
  have HC2 := Lib.hid hC2
  clear hc2 ht2 HMP
  by_cases hq : V.S.swE 2 C.n2 (1 + (k : Int)) = 0
  rotate_left
  · have hq2 : (V.S.swE 2 C.n2 (1 + (k : Int)) == 0) = false := by simpa using hq
    clear hC2
    go_wp2_with fail
    go_ret
    have he : V.setV C k s = { V with S := V.S.swrite 2 C.n2 (1 + (k : Int)) s.word } := by unfold VS.setV VS.setE; rw [if_neg hq, if_neg hq]
    refine ⟨rfl, _, ?_, HT2.out.tg⟩
    rw [he]
    have hx := HX2.out
    rw [if_neg hq] at hx
    exact ⟨_, _, _, hx⟩
  · have hx := HX2.out
    rw [if_pos hq] at hx
    have HX := Lib.hid hx
    obtain ⟨c0, c1, c2, c3, c4, c5, c6, c7, c8, c9⟩ := hx.cells
    dsimp only at c1
    have y0 := HC2.out.cell 0
    have y1 := HC2.out.cell 1
    have y2 := HC2.out.cell 2
    have y3 := HC2.out.cell 3
    obtain ⟨o1, o2, o3, o4, o5⟩ := hx.rowO bR rfl
    obtain ⟨x, hx3⟩ := sl_put (l := V.x.sl) (i := k) hN
    obtain ⟨t0, t1, t2, t3⟩ := scs_at V.x.sl k x hx3
    have p0 := (hx.row.cellAt (k * 4) (by dsimp only; omega)).trans t0
    have p1 := (hx.row.cellAt (k * 4 + 1) (by dsimp only; omega)).trans t1
    have p2 := (hx.row.cellAt (k * 4 + 2) (by dsimp only; omega)).trans t2
    have p3 := (hx.row.cellAt (k * 4 + 3) (by dsimp only; omega)).trans t3
    have r0 := hx.row.frozenAt (k * 4)
    have r1 := hx.row.frozenAt (k * 4 + 1)
    have r2 := hx.row.frozenAt (k * 4 + 2)
    have r3 := hx.row.frozenAt (k * 4 + 3)
    have u1 : (k : Int) < (V.x.sl.length : Int) := by omega
    clear hC2 hx t0 t1 t2 t3 hx3 c0 c2 c3 c4 c5 c6 c7 c8 c9 HX2
    go_upto_region 3 with (fail)
    go_region
    have hfin := (HX.out.slot k s hN).fr (G := fun _ => False) (Fr.of_below (Below.refl _ (put4 w2 bR k s)).drew) (fun _ _ h => h)
    have htf : Turn (fun j => Fv j ∧ j < W.heap.size) _ W (put4 w2 bR k s).drew := HT2.out.trans ⟨((fr_put4 w2 bR k s).mono (H := fun j => (fun j => (Fv j ∧ j < W.heap.size) ∨ Fc2 j) j) (fun j _ hj => by subst hj; exact o5)).drew, fun j hj => .inl hj⟩
    have HF := Lib.hid hfin
    have HTF := Lib.hid htf
    clear hfin htf p0 p1 p2 p3 r0 r1 r2 r3 y0 y1 y2 y3 c1
    change Exit.then _ _ Exit.normal _ (put4 w2 bR k s).drew
    generalize (put4 w2 bR k s).drew = W3 at *
    go_wp2_with fail
    go_ret
    have he : V.setV C k s = { V with S := V.S.swrite 2 C.n2 (1 + (k : Int)) s.word, ss := V.ss.set k ⟨s.valid, s.dirty, s.block, 0⟩, x := ⟨V.x.sl.set k s, V.x.clk, V.x.ms⟩ } := by unfold VS.setV VS.setE; rw [if_pos hq, if_pos hq]
    refine ⟨by unfold VS.setE; rw [hq]; rfl, _, ?_, HTF.out.tg⟩
    rw [he]
    exact ⟨_, _, _, HF.out⟩
theorem vset_any (W : World) (Fv : Nat → Prop) (C : VC) (V : VS) (k : Nat) (s : Sl) (h : VolAt W Fv C V) (hlen : V.x.sl.length = V.ss.length) (hl : V.ss.length ≤ 1024) (hk : k < V.ss.length)
    (hr : 0 ≤ s.block ∧ s.block ≤ 16777215) (hv : s.valid = false → s.block = 0 ∧ s.dirty = false) (hn : C.n2 ≤ 65536) (hlog : V.S.log.length < 1000000) (hwr : V.S.wr ≤ 1000000) :
    Calls Tryz.prog 113 #[.pointer (some ⟨C.v, 0, none⟩), .int .i64 (k : Int), s.v] W (VolP W Fv C (.int .i64 (V.setE C k)) (V.setV C k s)) := by
  obtain ⟨A, c, h⟩ := h.row
  exact (vsetR_any W Fv C V k s A c h hlen hl hk hr hv hn hlog hwr).mono VolPR.p
set_option maxRecDepth 100000 in
set_option maxHeartbeats 4000000 in
theorem vfreeR_any (W : World) (Fv : Nat → Prop) (C : VC) (V : VS) (k : Nat) (A0 : Option Addr) (c0' : Nat) (h : VolAtR W Fv C V A0 c0') (hlen : V.x.sl.length = V.ss.length) (hl : V.ss.length ≤ 1024) (hk : k < V.ss.length) (hn : C.n2 ≤ 65536) (hlog : V.S.log.length < 1000000) (hwr : V.S.wr ≤ 1000000) :
    Calls Tryz.prog 61 #[.pointer (some ⟨C.v, 0, none⟩), .int .i64 (k : Int)] W (VolPR W Fv C (.int .i64 (V.freeE C k)) (V.freeV C k) A0 c0') := by
  have HS := Lib.hid (vsetR_any W Fv C V k nilS A0 c0' h hlen hl hk (by unfold nilS; dsimp only; omega) (fun _ => ⟨rfl, rfl⟩) hn hlog hwr)
  have hlg : (V.setV C k nilS).S.log.length ≤ 1000000 := Nat.le_trans (swrite_log V.S 2 C.n2 (1 + (k : Int)) nilS.word) hlog
  generalize hV1 : V.setV C k nilS = V1 at *
  have HV1 := Lib.hid hV1
  clear hV1 h
  unfold Sl.v nilS at HS
  go_enter Tryz.func61, Tryz.ntmps61
  go_upto_region 2 with (go_at_call 113; refine HS.out.mono ?_; rintro e w2 ⟨rfl, Fv2, hv2, ht2⟩)
  have HT2 := Lib.hid ht2
  clear HS ht2
  by_cases hq : V.setE C k = 0
  rotate_left
  · have hq2 : (V.setE C k != 0) = true := by simpa using hq
    have HVV := Lib.hid hv2
    clear hv2
    go_wp2_with fail
    go_ret
    refine ⟨by unfold VS.freeE; rw [if_neg hq]; rfl, _, ?_, HT2.out⟩
    unfold VS.freeV
    rw [if_neg hq, HV1.out]
    exact HVV.out
  · obtain ⟨Fc, B, d, h⟩ := hv2
    obtain ⟨c0, -, -, -, -, -, -, -, -, -⟩ := h.cells
    have HX := Lib.hid h
    have HFL := Lib.hid (cmflush_any w2 Fc C.g C.s2 C.m C.n2 V1.S V1.ss (C.chunk : Int) V1.md V1.op h.cache hlg)
    clear h
    rw [hq]
    go_wp2_with (go_at_call 64; refine HFL.out.mono ?_; rintro e w3 ⟨rfl, Fc3, hc3, ht3⟩)
    go_ret
    refine ⟨by unfold VS.freeE; rw [if_pos hq, HV1.out]; rfl, _, ?_, HT2.out.trans (HX.out.wide ht3)⟩
    unfold VS.freeV
    rw [if_pos hq, HV1.out]
    exact ⟨_, _, _, HX.out.turn hc3 ht3⟩
theorem vfree_any (W : World) (Fv : Nat → Prop) (C : VC) (V : VS) (k : Nat) (h : VolAt W Fv C V) (hlen : V.x.sl.length = V.ss.length) (hl : V.ss.length ≤ 1024) (hk : k < V.ss.length) (hn : C.n2 ≤ 65536) (hlog : V.S.log.length < 1000000) (hwr : V.S.wr ≤ 1000000) :
    Calls Tryz.prog 61 #[.pointer (some ⟨C.v, 0, none⟩), .int .i64 (k : Int)] W (VolP W Fv C (.int .i64 (V.freeE C k)) (V.freeV C k)) := by
  obtain ⟨A, c, h⟩ := h.row
  exact (vfreeR_any W Fv C V k A c h hlen hl hk hn hlog hwr).mono VolPR.p
end Go.Proofs.YtogchafnnkajfaaGreat
namespace Go.Proofs.YtogchafnnkajfaaGreat
set_option linter.unusedVariables false
open Go.RowKit
attribute [local go_sem] Oper.semAt_some m_write m_read m_flush m_size
theorem sread_lt33 {W : World} {F : Nat → Prop} {g : Nat} {S : DS} (h : DskAt W F g S) {i n : Nat} {a : Int} : S.sread i n a < 18446744073709551616 := by
  unfold DS.sread
  split
  · unfold DS.read
    split
    · unfold DS.rd
      have hm : ∀ k : Nat, W64 (S.drv k).1 := by
        intro k
        unfold DS.drv
        rcases hk : S.dr[k]? with _ | x
        · intro y hy; simp at hy
        · exact (h.1.drv x (List.mem_of_getElem? hk)).1
      exact (hm _).at _
    · decide
  · decide
theorem CacheAt.lt {W : World} {Fc : Nat → Prop} {g sp m n : Nat} {S : DS} {ss : List Sl} {chunk mode : Int} {op : Bool} (h : CacheAt W Fc g sp m n S ss chunk mode op) {i n' : Nat} {a : Int} : S.sread i n' a < 18446744073709551616 := by
  obtain ⟨F, A, c, h⟩ := h
  exact sread_lt33 h.dsk
theorem flush_log (S : DS) (d : Int) : (S.flush d).log.length ≤ S.log.length ∧ (S.flush d).wr = S.wr := by
  unfold DS.flush
  split
  · exact ⟨Nat.le_refl _, rfl⟩
  · exact ⟨List.length_filter_le _ _, rfl⟩
def vcpOne (S : DS) (p np a q nq b i : Nat) : Int × DS := if S.sE p np ((a : Int) + (i : Int)) ≠ 0 then (S.sE p np ((a : Int) + (i : Int)), S) else (S.swE q nq ((b : Int) + (i : Int)), S.swrite q nq ((b : Int) + (i : Int)) (S.sread p np ((a : Int) + (i : Int))))
def vcp (S : DS) (p np a q nq b : Nat) : Nat → Int × DS
  | 0 => (0, S)
  | i + 1 => if (vcp S p np a q nq b i).1 ≠ 0 then vcp S p np a q nq b i else vcpOne (vcp S p np a q nq b i).2 p np a q nq b i
theorem vcp_stuck (S : DS) (p np a q nq b i : Nat) (h : (vcp S p np a q nq b i).1 ≠ 0) (m : Nat) : vcp S p np a q nq b (i + m) = vcp S p np a q nq b i := by
  induction m with
  | zero => rfl
  | succ m ih => rw [← Nat.add_assoc, vcp, ih, if_pos h]
theorem vcp_log (S : DS) (p np a q nq b i : Nat) : (vcp S p np a q nq b i).2.log.length ≤ S.log.length + i ∧ (vcp S p np a q nq b i).2.wr ≤ S.wr + i := by
  induction i with
  | zero => exact ⟨Nat.le_refl _, by show S.wr ≤ _; omega⟩
  | succ i ih =>
    rw [vcp]
    split
    · exact ⟨by omega, by omega⟩
    · unfold vcpOne
      split
      · exact ⟨by dsimp only; omega, by dsimp only; omega⟩
      · have h1 := swrite_log (vcp S p np a q nq b i).2 q nq ((b : Int) + (i : Int)) ((vcp S p np a q nq b i).2.sread p np ((a : Int) + (i : Int)))
        have h2 := swrite_wr (vcp S p np a q nq b i).2 q nq ((b : Int) + (i : Int)) ((vcp S p np a q nq b i).2.sread p np ((a : Int) + (i : Int)))
        exact ⟨by dsimp only; omega, by dsimp only; omega⟩
def VS.cb (C : VC) (V : VS) (k b : Nat) : Int × DS := vcp V.S 1 C.n1 (k * C.chunk) 0 C.n0 (b * C.chunk) C.chunk
def VS.cbE (C : VC) (V : VS) (k b : Nat) : Int := if (V.cb C k b).1 = 0 then (V.cb C k b).2.chkF 0 else (V.cb C k b).1
def VS.cbV (C : VC) (V : VS) (k b : Nat) : VS := { V with S := if (V.cb C k b).1 = 0 then (V.cb C k b).2.flush 0 else (V.cb C k b).2 }
set_option maxRecDepth 100000 in
set_option maxHeartbeats 4000000 in
theorem vcopyR_any (W : World) (Fv : Nat → Prop) (C : VC) (V : VS) (k b : Nat) (x : Sl) (A0 : Option Addr) (c0' : Nat) (h : VolAtR W Fv C V A0 c0') (hx : V.x.sl[k]? = some x) (hb : x.block = (b : Int)) (hl : V.x.sl.length ≤ 1024) (hb2 : b ≤ 16777215) (hch : C.chunk ≤ 127) (hn0 : C.n0 ≤ 65536) (hn1 : C.n1 ≤ 65536) (hlog : V.S.log.length + C.chunk < 1000000) (hwr : V.S.wr + C.chunk ≤ 1000000) :
    Calls Tryz.prog 127 #[.pointer (some ⟨C.v, 0, none⟩), .int .i64 (k : Int)] W (VolPR W Fv C (.int .i64 (V.cbE C k b)) (V.cbV C k b) A0 c0') := by
  have hkl : k < V.x.sl.length := (List.getElem?_eq_some_iff.1 hx).1
  have H0 := Lib.hid h
  have hu1 : (k : Int) < (V.x.sl.length : Int) := by omega
  have hlg := vcp_log V.S 1 C.n1 (k * C.chunk) 0 C.n0 (b * C.chunk)
  have HLG := Lib.hid hlg
  have hst := vcp_stuck V.S 1 C.n1 (k * C.chunk) 0 C.n0 (b * C.chunk)
  have HST := Lib.hid hst
  have hmul1 : k * C.chunk ≤ 1024 * 127 := Nat.mul_le_mul (by omega) hch
  have hmul2 : b * C.chunk ≤ 16777215 * 127 := Nat.mul_le_mul hb2 hch
  have em1 : IntKind.i64.wrap ((k : Int) * (C.chunk : Int)) = ((k * C.chunk : Nat) : Int) := by
    rw [← Int.natCast_mul]; exact IntWalk.i64_in _ (by omega)
  have em2 : IntKind.i64.wrap ((b : Int) * (C.chunk : Int)) = ((b * C.chunk : Nat) : Int) := by
    rw [← Int.natCast_mul]; exact IntWalk.i64_in _ (by omega)
  have hE : V.cbE C k b = if (vcp V.S 1 C.n1 (k * C.chunk) 0 C.n0 (b * C.chunk) C.chunk).1 = 0 then (vcp V.S 1 C.n1 (k * C.chunk) 0 C.n0 (b * C.chunk) C.chunk).2.chkF 0 else (vcp V.S 1 C.n1 (k * C.chunk) 0 C.n0 (b * C.chunk) C.chunk).1 := rfl
  have hV : V.cbV C k b = { V with S := if (vcp V.S 1 C.n1 (k * C.chunk) 0 C.n0 (b * C.chunk) C.chunk).1 = 0 then (vcp V.S 1 C.n1 (k * C.chunk) 0 C.n0 (b * C.chunk) C.chunk).2.flush 0 else (vcp V.S 1 C.n1 (k * C.chunk) 0 C.n0 (b * C.chunk) C.chunk).2 } := rfl
  generalize k * C.chunk = ka at *
  generalize b * C.chunk = ba at *
  generalize V.cbE C k b = rE at *
  generalize V.cbV C k b = rV at *
  have HE := Lib.hid hE
  have HV := Lib.hid hV
  have HLOG := Lib.hid hlog
  have HWR := Lib.hid hwr
  have HSU : Hid (∀ i, vcp V.S 1 C.n1 ka 0 C.n0 ba (i + 1) = if (vcp V.S 1 C.n1 ka 0 C.n0 ba i).1 ≠ 0 then vcp V.S 1 C.n1 ka 0 C.n0 ba i else vcpOne (vcp V.S 1 C.n1 ka 0 C.n0 ba i).2 1 C.n1 ka 0 C.n0 ba i) := fun i => rfl
  obtain ⟨Fc0, B, d, h0⟩ := h
  obtain ⟨bR, rfl⟩ := h0.form (by omega)
  obtain ⟨c0, c1, c2, c3, c4, c5, c6, c7, c8, c9⟩ := h0.cells
  have p2 := (h0.row.cellAt (k * 4 + 2) (by omega)).trans (scs_at V.x.sl k x hx).2.2.1
  rw [hb] at p2
  clear hE hV hst hlg hlog hwr h0 hx hb c0 c2 c3 c7 c8 c9
  go_enter Tryz.func127, Tryz.ntmps127
  go_wp2_with fail
  clear c1 c4 c5 c6 p2
  go_loopw [24] (fun z wr => ∃ i : Nat, z = .int .i64 i ∧ i ≤ C.chunk ∧ (vcp V.S 1 C.n1 ka 0 C.n0 ba i).1 = 0 ∧ ∃ Fv', VolAtR wr Fv' C { V with S := (vcp V.S 1 C.n1 ka 0 C.n0 ba i).2 } (some ⟨bR, 0, none⟩) c0' ∧ Turn Fv Fv' W wr) (fun z _ => C.chunk - (intOf z).toNat)
  case atStart => exact ⟨0, rfl, Nat.zero_le _, rfl, Fv, H0.out, Turn.refl _ _⟩
  case round =>
    obtain ⟨i, rfl, hi, hz, Fv', hv, ht⟩ := hrel
    have HZ := Lib.hid hz
    have HT := Lib.hid ht
    have hl1 := HLG.out i
    have hlog := HLOG.out
    have hwr := HWR.out
    obtain ⟨L, hL⟩ : ∃ L, vcp V.S 1 C.n1 ka 0 C.n0 ba i = L := ⟨_, rfl⟩
    rw [hL] at hv hl1 HZ
    have HL := Lib.hid hL
    obtain ⟨eL, SL⟩ := L
    dsimp only at hv hl1 HZ
    obtain ⟨Fc, B, d', h⟩ := hv
    obtain ⟨c0, c1, c2, c3, c4, c5, c6, c7, c8, c9⟩ := h.cells
    have H := Lib.hid h
    clear hz ht h hL c0 c1 c2 c3 c7 c8 c9
    by_cases hlt : i < C.chunk
    · have u1 : (i : Int) < (C.chunk : Int) := by omega
      have e1 : IntKind.i64.wrap ((i : Int) + 1) = ((i + 1 : Nat) : Int) := by rw [IntWalk.i64_in _ (by omega)]; rfl
      have e2 : IntKind.i64.wrap ((ka : Int) + (i : Int)) = (ka : Int) + (i : Int) := IntWalk.i64_in _ (by omega)
      have e3 : IntKind.i64.wrap ((ba : Int) + (i : Int)) = (ba : Int) + (i : Int) := IntWalk.i64_in _ (by omega)
      have HRD : Hid (∀ w, Below wr.heap.size wr w → _) := fun w hw => cread_any w Fc C.g C.s2 C.m C.n2 C.s1 1 C.n1 SL V.ss (C.chunk : Int) V.md V.op ((ka : Int) + (i : Int)) (H.out.cache.keep hw) (H.out.sp1.below hw H.out.sp1.lt) hn1
      go_upto_region 5 with (fail)
      have kk : wr.drew.cell? ⟨C.v, 4, none⟩ = some (.int .i64 (C.chunk : Int)) ∧ wr.drew.cell? ⟨C.v, 6, none⟩ = some (.iface 176 (.pointer (some ⟨C.s1, 0, none⟩))) := ⟨c4, c6⟩
      go_region_held3 (fun w' => w'.cell? ⟨C.v, 4, none⟩ = some (.int .i64 (C.chunk : Int)) ∧ w'.cell? ⟨C.v, 6, none⟩ = some (.iface 176 (.pointer (some ⟨C.s1, 0, none⟩))))
        (first | with_reducible exact kk | with_reducible exact z1)
        (first | (go_at_call 190; refine (HRD.out wr.drew (Below.refl _ wr).drew).mono ?_; rintro e w2 ⟨rfl, hb2⟩; have z1 : w2.cell? ⟨C.v, 4, none⟩ = some (.int .i64 (C.chunk : Int)) ∧ w2.cell? ⟨C.v, 6, none⟩ = some (.iface 176 (.pointer (some ⟨C.s1, 0, none⟩))) := ⟨(hb2.cell (p := ⟨C.v, 4, none⟩) H.out.vol.lt).trans c4, (hb2.cell (p := ⟨C.v, 6, none⟩) H.out.vol.lt).trans c6⟩))
      have HX2 := Lib.hid (H.out.keep ((Below.refl _ wr).drew.trans hb2))
      have HT2 := Lib.hid (HT.out.trans (Turn.of_below (F := Fv') ((Below.refl _ wr).drew.trans hb2)))
      have hlt2 : SL.sread 1 C.n1 ((ka : Int) + (i : Int)) < 18446744073709551616 := H.out.cache.lt
      obtain ⟨hq4, hq6⟩ := z1
      obtain ⟨-, -, -, -, c4, c5, c6, -, -, -⟩ := HX2.out.cells
      clear hb2 kk hq4 hq6 HRD
      have hS1 := HSU.out i
      rw [HL.out] at hS1
      unfold vcpOne at hS1
      rw [if_neg (by dsimp only; rw [HZ.out]; exact fun e => e rfl)] at hS1
      dsimp only at hS1
      by_cases hr : SL.sE 1 C.n1 ((ka : Int) + (i : Int)) = 0
      rotate_left
      · have hr2 : (SL.sE 1 C.n1 ((ka : Int) + (i : Int)) == 0) = false := by simpa using hr
        have hr3 : (SL.sE 1 C.n1 ((ka : Int) + (i : Int)) != 0) = true := by simpa using hr
        rw [if_pos hr] at hS1
        have HS1 := Lib.hid hS1
        clear hS1
        go_wp2_with fail
        go_ret
        have hst := HST.out (i + 1) (by rw [HS1.out]; exact hr) (C.chunk - (i + 1))
        rw [show i + 1 + (C.chunk - (i + 1)) = C.chunk by omega, HS1.out] at hst
        refine ⟨by rw [HE.out, hst, if_neg hr]; rfl, Fv', ?_, HT2.out⟩
        rw [HV.out, hst, if_neg hr]
        exact ⟨_, _, _, HX2.out⟩
      · rw [if_neg (by rw [hr]; exact fun e => e rfl)] at hS1
        have HS1 := Lib.hid hS1
        have HWT : Hid (∀ w, Below w2.heap.size w2 w → _) := fun w hw => cwrite_any w Fc C.g C.s2 C.m C.n2 C.s0 0 C.n0 SL V.ss (C.chunk : Int) V.md V.op ((ba : Int) + (i : Int)) (SL.sread 1 C.n1 ((ka : Int) + (i : Int))) (HX2.out.cache.keep hw) (HX2.out.sp0.below hw HX2.out.sp0.lt) HX2.out.o0 hn0 hlt2 (by omega) (by omega)
        clear hS1
        rw [hr]
        go_upto_region 7 with (fail)
        go_still_tail 16, (by kernel_rfl)
        change wpList _ _ _ _ _ w2.drew
        clear c4 c5 c6
        go_upto_region 8 with (go_at_call 192; refine (HWT.out w2.drew (Below.refl _ w2).drew).mono ?_; rintro e w3 ⟨rfl, Fc3, hc3, ht3⟩)
        have htd : Turn Fc Fc3 w2 w3 := (Turn.of_below (F := Fc) (Below.refl _ w2).drew).trans ht3
        have HX3 := Lib.hid (HX2.out.turn hc3 htd)
        have HT3 := Lib.hid (HT2.out.trans (HX2.out.wide htd))
        clear hc3 ht3 htd HWT
        generalize hwv : SL.swE 0 C.n0 ((ba : Int) + (i : Int)) = we at *
        clear hwv
        by_cases hw : we = 0
        rotate_left
        · have hw2 : (we != 0) = true := by simpa using hw
          go_wp2_with fail
          go_ret
          have hst := HST.out (i + 1) (by rw [HS1.out]; exact hw) (C.chunk - (i + 1))
          rw [show i + 1 + (C.chunk - (i + 1)) = C.chunk by omega, HS1.out] at hst
          refine ⟨by rw [HE.out, hst, if_neg hw]; rfl, _, ?_, HT3.out⟩
          rw [HV.out, hst, if_neg hw]
          exact ⟨_, _, _, HX3.out⟩
        · subst hw
          go_wp2_with fail
          go_roundw
          case rel => exact ⟨i + 1, by go_num, by omega, by rw [HS1.out], _, ⟨_, _, _, by rw [HS1.out]; exact HX3.out⟩, HT3.out⟩
          case measure => simp [intOf]; omega
    · have hin : i = C.chunk := by omega
      have HIN := Lib.hid hin
      clear hin
      have hnl : ¬ (i : Int) < (C.chunk : Int) := by omega
      have HFL := Lib.hid (csflush_any wr Fc C.g C.s2 C.m C.n2 C.s0 0 C.n0 SL V.ss (C.chunk : Int) V.md V.op H.out.cache H.out.sp0 H.out.o0 (by omega))
      go_wp2_with (go_at_call 189; refine HFL.out.mono ?_; rintro e w2 ⟨rfl, Fc3, hc3, ht3⟩)
      go_ret
      have hz := HL.out
      rw [HIN.out] at hz
      refine ⟨by rw [HE.out, hz, if_pos HZ.out]; rfl, _, ?_, HT.out.trans (H.out.wide ht3)⟩
      rw [HV.out, hz, if_pos HZ.out]
      exact ⟨_, _, _, H.out.turn hc3 ht3⟩
theorem vcopy_any (W : World) (Fv : Nat → Prop) (C : VC) (V : VS) (k b : Nat) (x : Sl) (h : VolAt W Fv C V) (hx : V.x.sl[k]? = some x) (hb : x.block = (b : Int)) (hl : V.x.sl.length ≤ 1024) (hb2 : b ≤ 16777215) (hch : C.chunk ≤ 127) (hn0 : C.n0 ≤ 65536) (hn1 : C.n1 ≤ 65536) (hlog : V.S.log.length + C.chunk < 1000000) (hwr : V.S.wr + C.chunk ≤ 1000000) :
    Calls Tryz.prog 127 #[.pointer (some ⟨C.v, 0, none⟩), .int .i64 (k : Int)] W (VolP W Fv C (.int .i64 (V.cbE C k b)) (V.cbV C k b)) := by
  obtain ⟨A, c, h⟩ := h.row
  exact (vcopyR_any W Fv C V k b x A c h hx hb hl hb2 hch hn0 hn1 hlog hwr).mono VolPR.p
end Go.Proofs.YtogchafnnkajfaaGreat
namespace Go.Proofs.YtogchafnnkajfaaGreat
set_option linter.unusedVariables false
open Go.RowKit
def DS.now (S : DS) (i : Nat) : List Nat := (S.drv i).1
def DS.dur (S : DS) (i : Nat) : List Nat := (S.drv i).2.1
def DS.Cand (S : DS) (i j v : Nat) : Prop := (S.dur i)[j]? = some v ∨ ∃ r ∈ S.log, r.1 = i ∧ r.2.1 = j ∧ r.2.2 = v
structure Hea (S : DS) (ns : List Nat) : Prop where
  nd : S.dr.length = ns.length
  nn : ∀ i n : Nat, ns[i]? = some n → (S.now i).length = n ∧ (S.dur i).length = n ∧ (S.drv i).2.2 = false
  sy : ∀ i j : Nat, (∀ r ∈ S.log, r.1 = i → r.2.1 ≠ j) → (S.dur i)[j]? = (S.now i)[j]?
  la : ∀ i j v : Nat, (S.now i)[j]? = some v → S.Cand i j v
theorem Hea.lt {S : DS} {ns : List Nat} (h : Hea S ns) {i n : Nat} (hi : ns[i]? = some n) : i < S.dr.length := by
  rw [h.nd]
  exact (List.getElem?_eq_some_iff.1 hi).1
theorem Hea.of {S S' : DS} {ns : List Nat} (h : Hea S ns) (h1 : S'.dr = S.dr) (h2 : S'.log = S.log) : Hea S' ns := by
  obtain ⟨dr, log, f, d, w⟩ := S
  obtain ⟨dr', log', f', d', w'⟩ := S'
  change dr' = dr at h1
  change log' = log at h2
  subst h1
  subst h2
  exact ⟨h.nd, h.nn, h.sy, h.la⟩
theorem Hea.size {S : DS} {ns : List Nat} (h : Hea S ns) {i n : Nat} (hi : ns[i]? = some n) : S.size (i : Int) = n := by
  have h1 := h.lt hi
  unfold DS.size
  rw [if_neg (by omega)]
  exact (h.nn i n hi).1
theorem Hea.chk {S : DS} {ns : List Nat} (h : Hea S ns) {i n : Nat} (hi : ns[i]? = some n) (a : Int) (ha : 0 ≤ a ∧ a < (n : Int)) : S.chk (i : Int) a = if S.down = true then 5 else 0 := by
  have h1 := h.lt hi
  have h2 := h.size hi
  have h3 := (h.nn i n hi).2.2
  have e1 : S.cLoc (i : Int) = 0 := by unfold DS.cLoc; rw [if_neg (by omega)]
  have e2 : S.cPla (i : Int) a = 0 := by unfold DS.cPla; rw [h2, if_neg (by omega)]
  have e3 : S.cMis (i : Int) = 0 := by unfold DS.cMis; rw [Int.toNat_natCast, h3]; rfl
  unfold DS.chk
  rw [e1, e2, e3]
  unfold DS.cPow
  cases S.down <;> rfl
theorem Hea.chkF {S : DS} {ns : List Nat} (h : Hea S ns) {i n : Nat} (hi : ns[i]? = some n) : S.chkF (i : Int) = if S.down = true then 5 else 0 := by
  have h1 := h.lt hi
  have h3 := (h.nn i n hi).2.2
  have e1 : S.cLoc (i : Int) = 0 := by unfold DS.cLoc; rw [if_neg (by omega)]
  have e3 : S.cMis (i : Int) = 0 := by unfold DS.cMis; rw [Int.toNat_natCast, h3]; rfl
  unfold DS.chkF
  rw [e1, e3]
  unfold DS.cPow
  cases S.down <;> rfl
theorem Hea.sE {S : DS} {ns : List Nat} (h : Hea S ns) {i n : Nat} (hi : ns[i]? = some n) (j : Nat) (hj : j < n) : S.sE i n (j : Int) = if S.down = true then 5 else 0 := by
  unfold DS.sE
  rw [if_pos (by omega)]
  exact h.chk hi _ (by omega)
theorem Hea.sread {S : DS} {ns : List Nat} (h : Hea S ns) {i n : Nat} (hi : ns[i]? = some n) (j : Nat) (hj : j < n) (hd : S.down = false) : S.sread i n (j : Int) = (S.now i)[j]?.getD 0 := by
  unfold DS.sread
  rw [if_pos (by omega)]
  unfold DS.read
  rw [h.chk hi _ (by omega), hd, if_pos (by rfl)]
  rfl
theorem Hea.swE {S : DS} {ns : List Nat} (h : Hea S ns) {i n : Nat} (hi : ns[i]? = some n) (j : Nat) (hj : j < n) : S.swE i n (j : Int) = if S.down = true ∨ S.fuse = 1 then 5 else 0 := by
  unfold DS.swE
  rw [if_pos (by omega)]
  unfold DS.writeE
  rw [h.chk hi _ (by omega)]
  by_cases hd : S.down = true
  · rw [if_pos hd, if_pos (by decide), if_pos (.inl hd)]
  · rw [if_neg hd, if_neg (by decide)]
    by_cases hf : S.fuse = 1
    · rw [if_pos hf, if_pos (.inr hf)]
    · rw [if_neg hf, if_neg (by rintro (h | h); exact hd h; exact hf h)]
theorem Hea.swrite {S : DS} {ns : List Nat} (h : Hea S ns) {i n : Nat} (hi : ns[i]? = some n) (j v : Nat) (hj : j < n) : S.swrite i n (j : Int) v = if S.down = true then S else if S.fuse = 1 then { S with fuse := 0, down := true } else S.burnt.wput i j v := by
  unfold DS.swrite
  rw [if_pos (by omega)]
  unfold DS.write
  rw [h.chk hi _ (by omega)]
  by_cases hd : S.down = true
  · rw [if_pos hd, if_pos (by decide), if_pos hd]
  · rw [if_neg hd, if_neg (by decide), if_neg hd]
    rfl
theorem wput_at (S : DS) (i j v k : Nat) (hi : i < S.dr.length) : (S.burnt.wput i j v).now k = (if k = i then (S.now i).set j v else S.now k) ∧ (S.burnt.wput i j v).dur k = S.dur k ∧ ((S.burnt.wput i j v).drv k).2.2 = (S.drv k).2.2 := by
  have e := drv_set (S.burnt.wput i j v) S.dr i k _ hi rfl
  unfold DS.now DS.dur
  rw [e]
  by_cases hk : k = i
  · subst hk
    simp only [if_pos]
    exact ⟨rfl, rfl, rfl⟩
  · simp only [if_neg hk]
    exact ⟨rfl, rfl, rfl⟩
theorem cand_wput (S : DS) (i j v : Nat) (hi : i < S.dr.length) (k b x : Nat) : (S.burnt.wput i j v).Cand k b x ↔ S.Cand k b x ∨ (k = i ∧ b = j ∧ x = v) := by
  unfold DS.Cand
  rw [(wput_at S i j v k hi).2.1]
  show (_ ∨ ∃ r ∈ S.log ++ [(i, j, v)], _) ↔ _
  constructor
  · rintro (h | ⟨r, hr, h1, h2, h3⟩)
    · exact .inl (.inl h)
    · rcases List.mem_append.1 hr with hr | hr
      · exact .inl (.inr ⟨r, hr, h1, h2, h3⟩)
      · rw [List.mem_singleton.1 hr] at h1 h2 h3
        exact .inr ⟨h1.symm, h2.symm, h3.symm⟩
  · rintro ((h | ⟨r, hr, h1, h2, h3⟩) | ⟨h1, h2, h3⟩)
    · exact .inl h
    · exact .inr ⟨r, List.mem_append.2 (.inl hr), h1, h2, h3⟩
    · exact .inr ⟨_, List.mem_append.2 (.inr (List.mem_singleton.2 rfl)), h1.symm, h2.symm, h3.symm⟩
theorem Hea.wput {S : DS} {ns : List Nat} (h : Hea S ns) {i n : Nat} (hi : ns[i]? = some n) (j v : Nat) (hj : j < n) : Hea (S.burnt.wput i j v) ns := by
  have hl := h.lt hi
  refine ⟨?_, ?_, ?_, ?_⟩
  · show (S.burnt.dr.set i _).length = _
    rw [List.length_set]
    exact h.nd
  · intro k m hk
    obtain ⟨e1, e2, e3⟩ := wput_at S i j v k hl
    obtain ⟨h1, h2, h3⟩ := h.nn k m hk
    rw [e1, e2, e3]
    refine ⟨?_, h2, h3⟩
    split
    · rename_i e
      subst e
      rw [List.length_set]
      exact h1
    · exact h1
  · intro k b hb
    obtain ⟨e1, e2, e3⟩ := wput_at S i j v k hl
    rw [e1, e2, h.sy k b (fun r hr => hb r (List.mem_append.2 (.inl hr)))]
    have h2 := hb (i, j, v) (List.mem_append.2 (.inr (List.mem_singleton.2 rfl)))
    split
    · rename_i e
      subst e
      rw [List.getElem?_set_ne (h2 rfl)]
    · rfl
  · intro k b x hx
    rw [cand_wput S i j v hl]
    rw [(wput_at S i j v k hl).1] at hx
    split at hx
    · rename_i e
      subst e
      by_cases hb : j = b
      · subst hb
        rw [List.getElem?_set_self (by rw [(h.nn k n hi).1]; exact hj)] at hx
        injection hx with hx
        exact .inr ⟨rfl, rfl, hx.symm⟩
      · rw [List.getElem?_set_ne hb] at hx
        exact .inl (h.la k b x hx)
    · exact .inl (h.la k b x hx)
theorem flDur_syn (now : List Nat) (i : Nat) (log : List (Nat × Nat × Nat)) (dur : List Nat) (hl : dur.length = now.length) (h : ∀ j, (∀ r ∈ log, r.1 = i → r.2.1 ≠ j) → dur[j]? = now[j]?) : flDur now i log dur = now := by
  induction log generalizing dur with
  | nil =>
    apply List.ext_getElem?
    intro k
    exact h k (by simp)
  | cons r l ih =>
    unfold flDur
    by_cases hr : r.1 = i
    · rw [if_pos hr]
      refine ih _ (by rw [List.length_set]; exact hl) (fun k hk => ?_)
      by_cases e : r.2.1 = k
      · subst e
        rw [List.getElem?_set_self']
        by_cases hn : r.2.1 < now.length
        · have hd : r.2.1 < dur.length := by omega
          rw [List.getElem?_eq_getElem (l := dur) hd, List.getElem?_eq_getElem (l := now) hn]
          rfl
        · rw [List.getElem?_eq_none (l := dur) (by omega), List.getElem?_eq_none (l := now) (by omega)]
          rfl
      · rw [List.getElem?_set_ne e]
        exact h k (by intro q hq h1; simp at hq; rcases hq with rfl | hq; exact e; exact hk q hq h1)
    · rw [if_neg hr]
      exact ih dur hl (fun k hk => h k (by intro q hq h1; simp at hq; rcases hq with rfl | hq; exact absurd h1 hr; exact hk q hq h1))
def DS.flS (S : DS) (i : Nat) : DS := { S.flTo i S.log.length with log := others i S.log }
theorem Hea.flush {S : DS} {ns : List Nat} (h : Hea S ns) {i n : Nat} (hi : ns[i]? = some n) : S.flush (i : Int) = if S.down = true then S else S.flS i := by
  unfold DS.flush
  rw [h.chkF hi]
  by_cases hd : S.down = true
  · rw [if_pos hd, if_pos (by decide), if_pos hd]
  · rw [if_neg hd, if_neg (by decide), if_neg hd]
    rfl
theorem flS_at {S : DS} {ns : List Nat} (h : Hea S ns) {i n : Nat} (hi : ns[i]? = some n) (k : Nat) : (S.flS i).now k = S.now k ∧ (S.flS i).dur k = (if k = i then S.now i else S.dur k) ∧ ((S.flS i).drv k).2.2 = (S.drv k).2.2 := by
  have hl := h.lt hi
  have e := drv_set (S.flS i) S.dr i k ((S.drv i).1, flDur (S.drv i).1 i (S.log.take S.log.length) (S.drv i).2.1, (S.drv i).2.2) hl rfl
  obtain ⟨h1, h2, h3⟩ := h.nn i n hi
  have hf := flDur_syn (S.drv i).1 i S.log (S.drv i).2.1 (by unfold DS.now at h1; unfold DS.dur at h2; omega) (fun j hj => h.sy i j hj)
  rw [List.take_length, hf] at e
  unfold DS.now DS.dur
  rw [e]
  by_cases hk : k = i
  · subst hk
    simp only [if_pos]
    exact ⟨by first | trivial | rfl, by first | trivial | rfl, by first | trivial | rfl⟩
  · simp only [if_neg hk]
    exact ⟨by first | trivial | rfl, by first | trivial | rfl, by first | trivial | rfl⟩
theorem others_mem (i : Nat) (l : List (Nat × Nat × Nat)) (r : Nat × Nat × Nat) : r ∈ others i l ↔ r ∈ l ∧ r.1 ≠ i := by
  unfold others
  simp
theorem cand_flS {S : DS} {ns : List Nat} (h : Hea S ns) {i n : Nat} (hi : ns[i]? = some n) (k b x : Nat) : (S.flS i).Cand k b x ↔ (if k = i then (S.now i)[b]? = some x else S.Cand k b x) := by
  unfold DS.Cand
  rw [(flS_at h hi k).2.1]
  show (_ ∨ ∃ r ∈ others i S.log, _) ↔ _
  by_cases hk : k = i
  · subst hk
    simp only [if_pos]
    constructor
    · rintro (h | ⟨r, hr, h1, h2, h3⟩)
      · exact h
      · exact absurd h1 ((others_mem _ _ _).1 hr).2
    · exact fun h => .inl h
  · simp only [if_neg hk]
    constructor
    · rintro (h | ⟨r, hr, h1⟩)
      · exact .inl h
      · exact .inr ⟨r, ((others_mem _ _ _).1 hr).1, h1⟩
    · rintro (h | ⟨r, hr, h1, h2⟩)
      · exact .inl h
      · exact .inr ⟨r, (others_mem _ _ _).2 ⟨hr, by rw [h1]; exact hk⟩, h1, h2⟩
theorem Hea.flS {S : DS} {ns : List Nat} (h : Hea S ns) {i n : Nat} (hi : ns[i]? = some n) : Hea (S.flS i) ns := by
  have hl := h.lt hi
  refine ⟨?_, ?_, ?_, ?_⟩
  · show (S.dr.set i _).length = _
    rw [List.length_set]
    exact h.nd
  · intro k m hk
    obtain ⟨e1, e2, e3⟩ := flS_at h hi k
    obtain ⟨h1, h2, h3⟩ := h.nn k m hk
    rw [e1, e2, e3]
    refine ⟨h1, ?_, h3⟩
    split
    · rename_i e
      subst e
      exact h1
    · exact h2
  · intro k b hb
    obtain ⟨e1, e2, e3⟩ := flS_at h hi k
    rw [e1, e2]
    by_cases hk : k = i
    · subst hk
      rw [if_pos rfl]
    · rw [if_neg hk]
      exact h.sy k b (fun r hr h1 => hb r ((others_mem _ _ _).2 ⟨hr, by rw [h1]; exact hk⟩) h1)
  · intro k b x hx
    rw [cand_flS h hi]
    rw [(flS_at h hi k).1] at hx
    split
    · rename_i e
      subst e
      exact hx
    · exact h.la k b x hx
end Go.Proofs.YtogchafnnkajfaaGreat
namespace Go.Proofs.YtogchafnnkajfaaGreat
set_option linter.unusedVariables false
open Go.RowKit
attribute [local go_sem] Oper.semAt_some
def MetaAt (W : World) (base m sp : Nat) (ss : List Sl) (chunk mode : Int) (op : Bool) : Prop :=
  ∃ A c, Cs W m 160 #[spanV sp, .slice A ss.length c, .int .i64 chunk, .int .i64 mode, .bool op] ∧ W.ownsRow base 31 4 (.slice A ss.length c) ss.length (scs ss)
def OpenK (W : World) (F : Nat → Prop) (g sp : Nat) (now : List Nat) (S : DS) (e : Ending) (W' : World) : Prop :=
  ∃ F', DskAt W' F' g (S.flush 2) ∧ Turn F F' W W' ∧
    ((openE now ≠ 0 ∧ e = .returned (.tuple #[.pointer none, .int .i64 (openE now)])) ∨
     (openE now = 0 ∧ ∃ m base, e = .returned (.tuple #[.pointer (some ⟨m, 0, none⟩), .int .i64 0]) ∧ W.heap.size ≤ m ∧ m < base ∧ (∀ j, F' j → j < m) ∧
      MetaAt W' base m sp (slotsU now ((now[0]?.getD 0) % 2048)) (((now[0]?.getD 0) / 2048 % 128 : Nat) : Int) (((now[0]?.getD 0) / 262144 % 4 : Nat) : Int) (decide ((now[0]?.getD 0) / 1048576 % 2 = 1))))
set_option maxRecDepth 100000 in
set_option maxHeartbeats 8000000 in
theorem openK (W : World) (F : Nat → Prop) (g sp n : Nat) (now : List Nat) (S : DS) (h : DskAt W F g S) (hs : SpanAt W sp g 2 n) (hsp : ¬ F sp)
    (hcf : S.chkF 2 = 0) (hrE : ∀ a : Int, 0 ≤ a → a < (n : Int) → (S.flush 2).sE 2 n a = 0) (hrV : ∀ a : Int, 0 ≤ a → a < (n : Int) → (S.flush 2).sread 2 n a = now[a.toNat]?.getD 0) (hn : now.length = n) (h1 : 1 ≤ n) (hn2 : n ≤ 65536) (hw : W64 now) (hlog : S.log.length < 1000000) :
    Calls Tryz.prog 57 #[spanV sp] W (OpenK W F g sp now S) := by
  have HN := Lib.hid hn
  have HW64 := Lib.hid hw
  obtain ⟨is, his, hz0, hz1, hz2⟩ := info_parts slot_info
  unfold spanV
  have HCF := Lib.hid hcf
  have HRE := Lib.hid hrE
  have HRV := Lib.hid hrV
  go_enter Tryz.func57, Tryz.ntmps57
  go_wp2_with fail
  rw [m_flush]
  go_wp2_with fail
  refine (sflush_any W F g sp 2 n _ h hs hsp (by omega)).mono ?_
  rintro e w1 ⟨rfl, F1, hd1, ht1⟩
  rw [show ((2 : Nat) : Int) = 2 from rfl] at *
  rw [HCF.out]
  have HD1 := Lib.hid hd1
  have HS1 : Hid (SpanAt w1 sp g 2 n) := Cs.fr hs ht1.1 hsp
  have hsp1 := ht1.out (Cs.lt hs) hsp
  have HT1 := Lib.hid ht1
  clear hd1 ht1 HCF h hs hcf hrE hrV hn hw
  go_wp2_with fail
  rw [m_read]
  go_wp2_with fail
  refine (sread_any w1 F1 g sp 2 n _ 0 HD1.out HS1.out hn2).mono ?_
  rintro e w2 ⟨rfl, hb2⟩
  have hsE := HRE.out 0 (by omega) (by omega)
  have hsR := HRV.out 0 (by omega) (by omega)
  rw [hsE, hsR, show (0 : Int).toNat = 0 from rfl]
  have hB0 := hb2
  have HE : Hid (openE now = if hform (now[0]?.getD 0) = false then 2 else if hbad (now[0]?.getD 0) n = true then 24 else if allOk now ((now[0]?.getD 0) % 2048) = false then 24 else 0) := by show _ = _; rw [← HN.out]; rfl
  have hw0 : now[0]?.getD 0 < 18446744073709551616 := HW64.out.at 0
  clear hsE hsR
  generalize hwq : now[0]?.getD 0 = w at *
  have HWQ := Lib.hid hwq
  clear hwq
  go_wp2_with fail
  refine (widths_any 0 (by omega) _).mono ?_
  rintro e w3 ⟨gw, rfl, hr3, hb3⟩
  rw [show wOf 0 = wHead from rfl] at hr3 ⊢
  rw [show wHead.length = 6 from rfl]
  have HR3 := Lib.hid hr3
  have HB3 := Lib.hid (hB0.trans (hb3.mono hB0.size))
  clear hr3 hb3 hb2 hB0
  go_wp2_with fail
  refine (split_all w (some ⟨gw, 0, none⟩) 6 6 wHead w3 rfl HR3.out (by omega) hw0).mono ?_
  rintro e w4 ⟨B, d, rfl, hr4, hb4⟩
  rw [split_hd] at hr4 ⊢
  rw [show splitE wHead = 0 from rfl]
  have HB4 := Lib.hid (HB3.out.trans (hb4.mono HB3.out.size))
  have hgr := HR3.out.keep hb4
  have g0 := reads_cell _ _ _ hgr 0 (by decide)
  have g1 := reads_cell _ _ _ hgr 1 (by decide)
  have g2 := reads_cell _ _ _ hgr 2 (by decide)
  have g3 := reads_cell _ _ _ hgr 3 (by decide)
  have g4 := reads_cell _ _ _ hgr 4 (by decide)
  simp only [wHead, List.getElem?_cons_zero, List.getElem?_cons_succ, Option.getD_some] at g0 g1 g2 g3 g4
  obtain ⟨b, off, rfl, hbl, hc⟩ := hr4.u (by simp)
  have c0 := hc 0 (by simp)
  have c1 := hc 1 (by simp)
  have c2 := hc 2 (by simp)
  have c3 := hc 3 (by simp)
  have c4 := hc 4 (by simp)
  have c5 := hc 5 (by simp)
  simp only [List.getElem?_cons_zero, List.getElem?_cons_succ, Option.getD_some, Nat.add_zero] at c0 c1 c2 c3 c4 c5
  simp only [List.length_cons, List.length_nil, Nat.zero_add, Nat.reduceAdd]
  have HR4 := Lib.hid hr4
  clear hgr hr4 hb4 hc HR3 HB3
  have hcb := clr21_bits w hw0
  go_wp2_with fail
  refine wp_loop_rounds 5 ?_
  iterate 5
    rw [rounds_succ]
    go_wp2_with fail
  have HE2 : Hid (hform w = decide (w / 137438953472 % 65536 = 17219 ∧ w / 2097152 % 65536 = sumW (clr w 21))) := rfl
  have hcl : clr w 21 < 18446744073709551616 := Nat.lt_of_le_of_lt (clr_le w 21) hw0
  have hS := Lib.hid (fun hh => seal_eq w hw0 hh)
  have htg : w / 137438953472 % 65536 < 65536 := Nat.mod_lt _ (by omega)
  have hsgl : w / 2097152 % 65536 < 65536 := Nat.mod_lt _ (by omega)
  generalize w / 137438953472 % 65536 = tg at *
  generalize w / 2097152 % 65536 = sg at *
  go_cut [83] (fun s83 wx => s83 = .bool (!hform w) ∧ Below w1.heap.size w1 wx ∧ Below w4.heap.size w4 wx)
  case first =>
    generalize clr w 21 = cl at *
    by_cases q1 : tg = 17219
    · subst q1
      have t1 : (((17219 : Nat) : Int) != 17219) = false := by decide
      have HRA := Lib.hid (Reads.new w4.drew #[.int .u64 (cl : Int)] 26)
      have hbA : Below w4.heap.size w4 (w4.alloc (.cells #[.int .u64 (cl : Int)] 26)).drew := ((Below.refl _ w4).alloc (Nat.le_refl _) _).drew
      have y4 := (hbA.cell (p := ⟨b, off + 4, none⟩) hbl).trans c4
      have y5 := (hbA.cell (p := ⟨b, off + 5, none⟩) hbl).trans c5
      have hext := extendC_lt 0 [cl]
      have HSW : Hid (sumW cl = shortC (extendC 0 [cl])) := rfl
      have hsl := sumW_lt cl
      go_region_held3 (fun w' => w'.cell? ⟨b, off + 4, none⟩ = some (.int .u64 (sg : Int)) ∧ w'.cell? ⟨b, off + 5, none⟩ = some (.int .u64 ((17219 : Nat) : Int))) (first | exact z | exact ⟨y4, y5⟩ | exact ⟨c4, c5⟩)
        (first
          | (go_at_call 106; refine (words_sum (some ⟨w4.heap.size, 0, none⟩) 1 1 [cl] _ rfl HRA.out (by intro y hy; simp at hy; omega) (by omega)).mono ?_; rintro e w5 ⟨rfl, hb5⟩; have z : w5.cell? ⟨b, off + 4, none⟩ = some (.int .u64 (sg : Int)) ∧ w5.cell? ⟨b, off + 5, none⟩ = some (.int .u64 ((17219 : Nat) : Int)) := ⟨(hb5.cell (p := ⟨b, off + 4, none⟩) (Nat.lt_of_lt_of_le hbl hbA.size)).trans y4, (hb5.cell (p := ⟨b, off + 5, none⟩) (Nat.lt_of_lt_of_le hbl hbA.size)).trans y5⟩)
          | (go_at_call 105; refine (short_any (extendC 0 [cl]) _ hext).mono ?_; rintro e w6 ⟨rfl, rfl⟩; rw [← HSW.out]))
      have hb6 := hbA.trans (hb5.mono hbA.size)
      have hb16 := HB4.out.trans (hb6.mono HB4.out.size)
      have e3 : IntKind.u64.wrap (sumW cl : Int) = (sumW cl : Int) := by rw [wrap_nat, Nat.mod_eq_of_lt (by omega)]
      by_cases q2 : sg = sumW cl
      · have t2 : ((sg : Int) != (sumW cl : Int)) = false := by rw [q2]; simp
        go_wp2_with fail
        go_meet
        case rel => exact ⟨by rw [HE2.out, e3, t2]; simp [q2], hb16, hb6⟩
      · have t2 : ((sg : Int) != (sumW cl : Int)) = true := by simp; omega
        go_wp2_with fail
        go_meet
        case rel => exact ⟨by rw [HE2.out, e3, t2]; simp [q2], hb16, hb6⟩
    · have t1 : ((tg : Int) != 17219) = true := by simp; omega
      refine wp_region_mix 15 15 (by kernel_rfl) (by decide +kernel) (fun w' => w'.cell? ⟨b, off + 5, none⟩ = some (.int .u64 (tg : Int))) c5 ?_
      simp only [List.take_succ_cons, List.take_zero, List.drop_succ_cons, List.drop_zero]
      iterate 5
        refine ⟨?_, Or.inl ⟨by rfl, fun W' hS' => ?_⟩, fun _ _ _ h => h, ?_⟩
        rotate_left
        · go_simp
          with_reducible rfl
        simp only [Act.put, List.setIfInBounds_toArray, List.set_cons_zero, List.set_cons_succ]
      iterate 10
        refine ⟨_, Or.inr ⟨by rfl, rfl⟩, fun _ _ _ h => h, ?_⟩
        simp only [Act.put, List.setIfInBounds_toArray, List.set_cons_zero, List.set_cons_succ]
      show wpSeqT _ _ _ _ _ _ _ _ _
      refine wpSeqT_list _ _ _ _ (by omega) ?_
      go_wp2_with fail
      go_meet
      case rel => exact ⟨by rw [HE2.out]; simp [q1], HB4.out.drew, (Below.refl _ w4).drew⟩
  case rest =>
    obtain ⟨rfl, hx1, hx4⟩ := hcut
    have HBX := Lib.hid hx1
    have HRX := Lib.hid (HR4.out.keep hx4)
    replace c0 := (hx4.cell (p := ⟨b, off, none⟩) hbl).trans c0
    replace c1 := (hx4.cell (p := ⟨b, off + 1, none⟩) hbl).trans c1
    replace c2 := (hx4.cell (p := ⟨b, off + 2, none⟩) hbl).trans c2
    replace c3 := (hx4.cell (p := ⟨b, off + 3, none⟩) hbl).trans c3
    replace hbl := Nat.lt_of_lt_of_le hbl hx4.size
    clear c4 c5 g0 g1 g2 g3 g4 hx1 hx4 HR4 HB4 HE2 hcb hcl
    by_cases hf : hform w = true
    rotate_left
    · have hf2 : hform w = false := by simpa using hf
      rw [hf2]
      go_wp2_with fail
      go_ret2
      exact ⟨F1, HD1.out.keep HBX.out, HT1.out.trans (Turn.of_below HBX.out), .inl ⟨by rw [HE.out, if_pos hf2]; decide, by rw [HE.out, if_pos hf2]; rfl⟩⟩
    · rw [hf]
      have HSE := Lib.hid (hS.out hf)
      have HE3 : Hid (openE now = if hbad w n = true then 24 else if allOk now (w % 2048) = false then 24 else 0) := by show _ = _; rw [HE.out, if_neg (by simp [hf])]
      have HBD : Hid (hbad w n = decide (w / 9007199254740992 ≠ 0 ∨ w % 2048 < 1 ∨ 1024 < w % 2048 ∨ w / 2048 % 128 < 1 ∨ 64 < w / 2048 % 128 ∨ w / 262144 % 4 = 3 ∨ n < w % 2048 + 1)) := rfl
      have ha : w % 2048 < 2048 := Nat.mod_lt _ (by omega)
      have hb : w / 2048 % 128 < 128 := Nat.mod_lt _ (by omega)
      have hcc : w / 262144 % 4 < 4 := Nat.mod_lt _ (by omega)
      have hdd : w / 1048576 % 2 < 2 := Nat.mod_lt _ (by omega)
      clear HE hS hf
      generalize hsw : sealG 0 [w % 2048, w / 2048 % 128, w / 262144 % 4, w / 1048576 % 2, sg, tg] = sw at *
      have HSW := Lib.hid hsw
      have hwv : W64 [w % 2048, w / 2048 % 128, w / 262144 % 4, w / 1048576 % 2, sg, tg] := by
        intro x hx
        simp only [List.mem_cons, List.not_mem_nil, or_false] at hx
        omega
      have HW6 := Lib.hid hwv
      clear hwv hsw
      generalize hqA : w % 2048 = A at *
      generalize hqB : w / 2048 % 128 = Bc at *
      generalize hqM : w / 262144 % 4 = M at *
      generalize hqO : w / 1048576 % 2 = O at *
      generalize hqz : w / 9007199254740992 = z53 at *
      have HQ := Lib.hid (And.intro hqA (And.intro hqB (And.intro hqM hqO)))
      clear hqA hqB hqM hqO hqz
      have n0 : IntKind.i64.wrap (A : Int) = A := IntWalk.i64_in _ (by omega)
      have n1 : IntKind.i64.wrap (Bc : Int) = Bc := IntWalk.i64_in _ (by omega)
      have n2 : IntKind.i64.wrap (M : Int) = M := IntWalk.i64_in _ (by omega)
      go_upto_region 19 with (fail)
      go_cut [121] (fun s121 wx => s121 = .bool (hbad w n) ∧ Below w1.heap.size w1 wx ∧ Below wc.heap.size wc wx)
      case first =>
        by_cases q1 : z53 = 0
        rotate_left
        · have t1 : ((w : Int) != (sw : Int)) = true := by
            have : ¬ w = sw := fun e => q1 (HSE.out.1 e)
            simp; omega
          go_wp2_with (first | (go_at_call 107; refine (sealed_any 0 (by omega) (some ⟨b, off, none⟩) d 6 [A, Bc, M, O, sg, tg] _ HRX.out rfl rfl HW6.out).mono ?_; rintro e w5 ⟨rfl, hb5⟩; rw [HSW.out]))
          go_meet
          case rel => exact ⟨by rw [HBD.out, decide_eq_true (.inl q1)], HBX.out.trans (hb5.mono HBX.out.size), hb5⟩
        · have t1 : ((w : Int) != (sw : Int)) = false := by
            have : w = sw := HSE.out.2 q1
            simp; omega
          by_cases q2 : A < 1 ∨ 1024 < A
          · have HMS : Hid (mSize (A : Int) = 0) := by show _ = _; unfold mSize; rw [if_pos (by omega)]
            go_wp2_with (first | (go_at_call 107; refine (sealed_any 0 (by omega) (some ⟨b, off, none⟩) d 6 [A, Bc, M, O, sg, tg] _ HRX.out rfl rfl HW6.out).mono ?_; rintro e w5 ⟨rfl, hb5⟩; rw [HSW.out]; have c1 := (hb5.cell (p := ⟨b, off + 1, none⟩) hbl).trans c1; have c2 := (hb5.cell (p := ⟨b, off + 2, none⟩) hbl).trans c2) | (go_at_call 108; refine (msize_any (A : Int) _).mono ?_; rintro e w6 ⟨rfl, rfl⟩; rw [HMS.out]))
            go_meet
            case rel => exact ⟨by rw [HBD.out, decide_eq_true (by omega)], HBX.out.trans (hb5.mono HBX.out.size), hb5⟩
          · have HMS : Hid (mSize (A : Int) = (A : Int) + 1) := by show _ = _; unfold mSize; rw [if_neg (by omega)]
            have t2 : ((A : Int) + 1 == 0) = false := by simp; omega
            by_cases q3 : Bc < 1
            · have t3 : (Bc : Int) < 1 := by omega
              go_wp2_with (first | (go_at_call 107; refine (sealed_any 0 (by omega) (some ⟨b, off, none⟩) d 6 [A, Bc, M, O, sg, tg] _ HRX.out rfl rfl HW6.out).mono ?_; rintro e w5 ⟨rfl, hb5⟩; rw [HSW.out]; have c1 := (hb5.cell (p := ⟨b, off + 1, none⟩) hbl).trans c1; have c2 := (hb5.cell (p := ⟨b, off + 2, none⟩) hbl).trans c2) | (go_at_call 108; refine (msize_any (A : Int) _).mono ?_; rintro e w6 ⟨rfl, rfl⟩; rw [HMS.out]))
              go_meet
              case rel => exact ⟨by rw [HBD.out, decide_eq_true (by omega)], HBX.out.trans (hb5.mono HBX.out.size), hb5⟩
            · have t3 : ¬ (Bc : Int) < 1 := by omega
              by_cases q4 : 64 < Bc
              · have t4 : (64 : Int) < (Bc : Int) := by omega
                go_wp2_with (first | (go_at_call 107; refine (sealed_any 0 (by omega) (some ⟨b, off, none⟩) d 6 [A, Bc, M, O, sg, tg] _ HRX.out rfl rfl HW6.out).mono ?_; rintro e w5 ⟨rfl, hb5⟩; rw [HSW.out]; have c1 := (hb5.cell (p := ⟨b, off + 1, none⟩) hbl).trans c1; have c2 := (hb5.cell (p := ⟨b, off + 2, none⟩) hbl).trans c2) | (go_at_call 108; refine (msize_any (A : Int) _).mono ?_; rintro e w6 ⟨rfl, rfl⟩; rw [HMS.out]))
                go_meet
                case rel => exact ⟨by rw [HBD.out, decide_eq_true (by omega)], HBX.out.trans (hb5.mono HBX.out.size), hb5⟩
              · have t4 : ¬ (64 : Int) < (Bc : Int) := by omega
                by_cases q5 : M = 3
                · have t5 : ((M : Int) == 3) = true := by simp; omega
                  go_wp2_with (first | (go_at_call 107; refine (sealed_any 0 (by omega) (some ⟨b, off, none⟩) d 6 [A, Bc, M, O, sg, tg] _ HRX.out rfl rfl HW6.out).mono ?_; rintro e w5 ⟨rfl, hb5⟩; rw [HSW.out]; have c1 := (hb5.cell (p := ⟨b, off + 1, none⟩) hbl).trans c1; have c2 := (hb5.cell (p := ⟨b, off + 2, none⟩) hbl).trans c2) | (go_at_call 108; refine (msize_any (A : Int) _).mono ?_; rintro e w6 ⟨rfl, rfl⟩; rw [HMS.out]))
                  go_meet
                  case rel => exact ⟨by rw [HBD.out, decide_eq_true (by omega)], HBX.out.trans (hb5.mono HBX.out.size), hb5⟩
                · have t5 : ((M : Int) == 3) = false := by simp; omega
                  by_cases q6 : n < A + 1
                  · have t6 : (n : Int) < (A : Int) + 1 := by omega
                    go_wp2_with (first | (go_at_call 107; refine (sealed_any 0 (by omega) (some ⟨b, off, none⟩) d 6 [A, Bc, M, O, sg, tg] _ HRX.out rfl rfl HW6.out).mono ?_; rintro e w5 ⟨rfl, hb5⟩; rw [HSW.out]; have c1 := (hb5.cell (p := ⟨b, off + 1, none⟩) hbl).trans c1; have c2 := (hb5.cell (p := ⟨b, off + 2, none⟩) hbl).trans c2) | (go_at_call 108; refine (msize_any (A : Int) _).mono ?_; rintro e w6 ⟨rfl, rfl⟩; rw [HMS.out]))
                    rw [m_size]
                    go_wp2_with fail
                    refine (ssize_any w5 sp g 2 n (Cs.below (Cs.below HS1.out HBX.out (Cs.lt HS1.out)) hb5 (Cs.below HS1.out HBX.out (Cs.lt HS1.out)).lt)).mono ?_
                    rintro e w7 ⟨rfl, rfl⟩
                    go_wp2_with (go_at_call 108; refine (msize_any (A : Int) _).mono ?_; rintro e w6 ⟨rfl, rfl⟩; rw [HMS.out])
                    go_meet
                    case rel => exact ⟨by rw [HBD.out, decide_eq_true (by omega)], HBX.out.trans (hb5.mono HBX.out.size), hb5⟩
                  · have t6 : ¬ (n : Int) < (A : Int) + 1 := by omega
                    go_wp2_with (first | (go_at_call 107; refine (sealed_any 0 (by omega) (some ⟨b, off, none⟩) d 6 [A, Bc, M, O, sg, tg] _ HRX.out rfl rfl HW6.out).mono ?_; rintro e w5 ⟨rfl, hb5⟩; rw [HSW.out]; have c1 := (hb5.cell (p := ⟨b, off + 1, none⟩) hbl).trans c1; have c2 := (hb5.cell (p := ⟨b, off + 2, none⟩) hbl).trans c2) | (go_at_call 108; refine (msize_any (A : Int) _).mono ?_; rintro e w6 ⟨rfl, rfl⟩; rw [HMS.out]))
                    rw [m_size]
                    go_wp2_with fail
                    refine (ssize_any w5 sp g 2 n (Cs.below (Cs.below HS1.out HBX.out (Cs.lt HS1.out)) hb5 (Cs.below HS1.out HBX.out (Cs.lt HS1.out)).lt)).mono ?_
                    rintro e w7 ⟨rfl, rfl⟩
                    go_wp2_with (go_at_call 108; refine (msize_any (A : Int) _).mono ?_; rintro e w6 ⟨rfl, rfl⟩; rw [HMS.out])
                    go_meet
                    case rel => exact ⟨by rw [HBD.out]; congr 1; rw [Bool.eq_iff_iff]; simp; omega, HBX.out.trans (hb5.mono HBX.out.size), hb5⟩
      case rest =>
        obtain ⟨rfl, hx1, hx2⟩ := hcut
        have HBY := Lib.hid hx1
        replace c1 := (hx2.cell (p := ⟨b, off + 1, none⟩) hbl).trans c1
        replace c2 := (hx2.cell (p := ⟨b, off + 2, none⟩) hbl).trans c2
        replace c3 := (hx2.cell (p := ⟨b, off + 3, none⟩) hbl).trans c3
        replace hbl := Nat.lt_of_lt_of_le hbl hx2.size
        clear c0 hx1 hx2 HRX HBX HSW HSE HW6
        by_cases hbd : hbad w n = true
        · rw [hbd]
          go_wp2_with fail
          go_ret2
          exact ⟨F1, HD1.out.keep HBY.out, HT1.out.trans (Turn.of_below HBY.out), .inl ⟨by rw [HE3.out, if_pos hbd]; decide, by rw [HE3.out, if_pos hbd]; rfl⟩⟩
        · have hbd2 : hbad w n = false := by simpa using hbd
          rw [hbd2]
          have hq := HBD.out
          rw [hbd2] at hq
          have hq2 := of_decide_eq_false hq.symm
          have qA : 1 ≤ A ∧ A ≤ 1024 ∧ A + 1 ≤ n := by omega
          have HE4 : Hid (openE now = if allOk now A = false then 24 else 0) := by show _ = _; rw [HE3.out, if_neg hbd]
          clear hq hq2 hbd hbd2 HE3 HBD
          have hOb : ((O : Int) == 1) = decide (O = 1) := by
            rw [Bool.eq_iff_iff]; simp; omega
          have hmm := @run_makeMap Tryz.prog
          go_upto_region 21 with (fail)
          go_region
          have hC0 := Cs.new wc 160 #[.iface 176 (.pointer (some ⟨sp, 0, none⟩)), .slice none 0 0, .int .i64 (Bc : Int), .int .i64 (M : Int), .bool (decide (O = 1))]
          have hb0 : Below wc.heap.size wc (wc.alloc (.cells #[.iface 176 (.pointer (some ⟨sp, 0, none⟩)), .slice none 0 0, .int .i64 (Bc : Int), .int .i64 (M : Int), .bool (decide (O = 1))] 160)) := (Below.refl _ wc).alloc (Nat.le_refl _) _
          have hszm : (wc.alloc (.cells #[.iface 176 (.pointer (some ⟨sp, 0, none⟩)), .slice none 0 0, .int .i64 (Bc : Int), .int .i64 (M : Int), .bool (decide (O = 1))] 160)).heap.size = wc.heap.size + 1 := World.size_alloc _ _
          have hb10 := HBY.out.trans (hb0.mono HBY.out.size)
          have hw1m : w1.heap.size ≤ wc.heap.size := HBY.out.size
          generalize hgm : wc.heap.size = m at *
          generalize (wc.alloc (.cells #[.iface 176 (.pointer (some ⟨sp, 0, none⟩)), .slice none 0 0, .int .i64 (Bc : Int), .int .i64 (M : Int), .bool (decide (O = 1))] 160)) = V at *
          clear hb0 c1 c2 c3 hbl HBY hOb n0 n1 n2 hgm ha hb hcc hdd
          go_wp2_with fail
          have hC1 := Cs.alloc hC0 (.map #[] 0)
          have hSE := Seen.made V
          have hb11 := hb10.alloc hb10.size (.map #[] 0)
          have hszV : (V.alloc (.map #[] 0)).heap.size = m + 2 := by rw [World.size_alloc, hszm]
          rw [hszm] at *
          have hb12 := hb11.drew
          have hC2 : Cs (V.alloc (.map #[] 0)).drew m 160 #[.iface 176 (.pointer (some ⟨sp, 0, none⟩)), .slice none 0 0, .int .i64 (Bc : Int), .int .i64 (M : Int), .bool (decide (O = 1))] := hC1
          have hSE2 : Seen (V.alloc (.map #[] 0)).drew (m + 1) 0 [] := hSE
          have hszW : m + 2 ≤ (V.alloc (.map #[] 0)).drew.heap.size := Nat.le_of_eq hszV.symm
          clear hC1 hSE hb11 hC0 hb10 hszV
          go_loopw [139] (fun i wx => ∃ (k : Nat) (v : Value), k ≤ A ∧ i = .int .i64 k ∧ Cs wx m 160 #[.iface 176 (.pointer (some ⟨sp, 0, none⟩)), v, .int .i64 (Bc : Int), .int .i64 (M : Int), .bool (decide (O = 1))] ∧ wx.ownsRow (m + 2) 31 4 v k (scs (slotsU now k)) ∧ Seen wx (m + 1) k (seenB now k) ∧ allOk now k = true ∧ Below w1.heap.size w1 wx ∧ m + 2 ≤ wx.heap.size) (fun i _ => A - (intOf i).toNat)
          case atStart => exact ⟨0, _, Nat.zero_le _, rfl, hC2, World.ownsRow_nil _ _ _ _, hSE2, rfl, hb12, hszW⟩
          case round =>
            obtain ⟨k, v, hk, rfl, hC, hown, hse, hok, hb, hsz⟩ := hrel
            rename World => wx
            obtain ⟨A3, cA3, rfl⟩ := own_form hown
            have HCk := Lib.hid hC
            have HOk := Lib.hid hown
            have HSk := Lib.hid hse
            have HBk := Lib.hid hb
            clear hC hown hse hb hC2 hSE2 hb12 hszW
            by_cases hlt : k < A
            · have hsE := HRE.out (1 + (k : Int)) (by omega) (by omega)
              have hsR := HRV.out (1 + (k : Int)) (by omega) (by omega)
              rw [show (1 + (k : Int)).toNat = 1 + k by omega] at hsR
              have HsE := Lib.hid hsE
              have HsR := Lib.hid hsR
              clear hsE hsR
              have e1 : IntKind.i64.wrap (1 + (k : Int)) = 1 + k := IntWalk.i64_in _ (by omega)
              go_wp2_with fail
              rw [m_read]
              go_wp2_with fail
              refine (sread_any wx F1 g sp 2 n _ (1 + (k : Int)) (HD1.out.keep HBk.out) (Cs.below HS1.out HBk.out (Cs.lt HS1.out)) hn2).mono ?_
              rintro e w5 ⟨rfl, hb5⟩
              rw [HsE.out, HsR.out]
              have hxl := HW64.out.at (1 + k)
              have HOKA : Hid (okAt now k = (slotOk (now[1 + k]?.getD 0) && !((slotS (now[1 + k]?.getD 0)).valid && decide ((slotS (now[1 + k]?.getD 0)).block ∈ seenB now k)))) := rfl
              have HSBS : Hid (seenB now (k + 1) = if (slotS (now[1 + k]?.getD 0)).valid = true then seenB now k ++ [(slotS (now[1 + k]?.getD 0)).block] else seenB now k) := rfl
              have HSUS := Lib.hid (slotsU_succ now k)
              have HBL := Lib.hid (slotS_block (now[1 + k]?.getD 0))
              generalize now[1 + k]?.getD 0 = x at *
              go_wp2_with fail
              refine (slot_any x w5 hxl).mono ?_
              rintro e w6 ⟨rfl, hb6⟩
              have hb56 := hb5.trans (hb6.mono hb5.size)
              have HC6 := Lib.hid (HCk.out.below hb56 HCk.out.lt)
              have HO6 := Lib.hid (own_keepB HOk.out hb56)
              have HS6 := Lib.hid (HSk.out.fr (G := fun _ => False) (Fr.of_below hb56) id)
              have HB6 := Lib.hid (HBk.out.trans (hb56.mono HBk.out.size))
              have hsz6 : m + 2 ≤ w6.heap.size := Nat.le_trans hsz hb56.size
              clear HCk HOk HSk HBk hb5 hb6 hb56 HsE HsR
              generalize slotS x = sl at *
              generalize slotOk x = sok at *
              obtain ⟨sv, sd, sb, sst⟩ := sl
              unfold Sl.v
              have hbl2 : 0 ≤ sb ∧ sb < 16777216 := HBL.out
              go_upto_region 30 with (fail)
              have hCs := Cs.new w6 31 #[.bool sv, .bool sd, .int .i64 sb, .int .i64 sst]
              have hb7 : Below w6.heap.size w6 (w6.alloc (.cells #[.bool sv, .bool sd, .int .i64 sb, .int .i64 sst] 31)) := (Below.refl _ _).alloc (Nat.le_refl _) _
              have hS7 := HS6.out.fr (G := fun _ => False) (Fr.of_below hb7) id
              have HC7 := Lib.hid (HC6.out.below hb7 HC6.out.lt)
              have HO7 := Lib.hid (own_keepB HO6.out hb7)
              have HB7 := Lib.hid (HB6.out.trans (hb7.mono HB6.out.size))
              have hsz7 : m + 2 ≤ (w6.alloc (.cells #[.bool sv, .bool sd, .int .i64 sb, .int .i64 sst] 31)).heap.size := Nat.le_trans hsz6 hb7.size
              have hob : ∀ b, (Value.slice A3 k cA3).ownBlock = some b → m + 2 ≤ b ∧ b < w6.heap.size := fun b hb => ⟨own_base HO6.out b hb, own_lt HO6.out b hb⟩
              have HOB := Lib.hid hob
              clear hob
              generalize (w6.alloc (.cells #[.bool sv, .bool sd, .int .i64 sb, .int .i64 sst] 31)) = w7 at *
              generalize w6.heap.size = s0 at *
              have k0 : w7.cell? ⟨s0, 0, none⟩ = some (.bool sv) := hCs.cell 0
              have k1 : w7.cell? ⟨s0, 1, none⟩ = some (.bool sd) := hCs.cell 1
              have k2 : w7.cell? ⟨s0, 2, none⟩ = some (.int .i64 sb) := hCs.cell 2
              have k3 : w7.cell? ⟨s0, 3, none⟩ = some (.int .i64 sst) := hCs.cell 3
              have HSN7 := Lib.hid hS7
              have hlk := hS7.look sb (by omega)
              have HOK2 : Hid (okAt now k = (sok && !(sv && decide (sb ∈ seenB now k)))) := by show _ = _; rw [HOKA.out]
              have hs7 : s0 < w7.heap.size := hCs.lt
              clear hCs hb7 hS7 HO6 HC6 HB6 HS6 HOKA
              go_cut [168] (fun s168 wx => s168 = .bool (!okAt now k) ∧ wx = w7)
              case first =>
                generalize decide (sb ∈ seenB now k) = mem at *
                cases sok
                · go_wp2_with fail
                  go_meet
                  case rel => exact ⟨by rw [HOK2.out]; rfl, rfl⟩
                · cases sv
                  · go_wp2_with fail
                    go_meet
                    case rel => exact ⟨by rw [HOK2.out]; rfl, rfl⟩
                  · go_wp2_with fail
                    go_meet
                    case rel => exact ⟨by rw [HOK2.out]; simp, rfl⟩
              case rest =>
                obtain ⟨rfl, rfl⟩ := hcut
                clear hlk
                by_cases hok2 : okAt now k = true
                rotate_left
                · have hok3 : okAt now k = false := by simpa using hok2
                  rw [hok3]
                  have hE24 : openE now = 24 := by rw [HE4.out, if_pos (allOk_false now k A hlt hok3)]
                  go_wp2_with fail
                  go_ret2
                  exact ⟨F1, HD1.out.keep HB7.out, HT1.out.trans (Turn.of_below HB7.out), .inl ⟨by rw [hE24]; decide, by rw [hE24]; rfl⟩⟩
                · rw [hok2]
                  have hokn : allOk now (k + 1) = true := by rw [allOk, hok, hok2]; rfl
                  have HOKN := Lib.hid hokn
                  clear hokn HOK2 hok2
                  go_upto_if 170 with (fail)
                  go_cut [] (fun wx => Seen wx (m + 1) (k + 1) (seenB now (k + 1)) ∧ wc.grownBy wx (some (m + 1)))
                  case first =>
                    cases sv
                    · go_wp2_with fail
                      go_meet
                      case rel => exact ⟨by rw [HSBS.out]; exact HSN7.out.mono (Nat.le_succ _), World.grownBy.refl _ _⟩
                    · obtain ⟨W', hrun, hs', hg'⟩ := HSN7.out.store (by simp only [maxLen]; omega) sb (by omega)
                      go_wp2_with fail
                      go_meet
                      case rel => exact ⟨by rw [HSBS.out]; exact hs', hg'⟩
                  case rest =>
                    rename_i w7 _
                    obtain ⟨hsn, hgn⟩ := hcut
                    have HSNN := Lib.hid hsn
                    have HC9 := Lib.hid (HC7.out.grown hgn (by simp))
                    have HO9 := Lib.hid (own_keep HO7.out hgn (by omega))
                    have HB9 := Lib.hid (gb_Below HB7.out hgn HB7.out.size (by omega))
                    have hsz9 : m + 2 ≤ wc.heap.size := Nat.le_trans hsz7 hgn.size
                    have hs0 : s0 ≠ m + 1 := by omega
                    have l0 := (hgn.cell (a := ⟨s0, 0, none⟩) k0 (by simpa using hs0))
                    have l1 := (hgn.cell (a := ⟨s0, 1, none⟩) k1 (by simpa using hs0))
                    have l2 := (hgn.cell (a := ⟨s0, 2, none⟩) k2 (by simpa using hs0))
                    have l3 := (hgn.cell (a := ⟨s0, 3, none⟩) k3 (by simpa using hs0))
                    have hsw : s0 < wc.heap.size := Nat.lt_of_lt_of_le hs7 hgn.size
                    have hmw : m < wc.heap.size := by omega
                    have y1 : wc.cell? ⟨m, 1, none⟩ = some (.slice A3 k cA3) := HC9.out.cell 1
                    clear k0 k1 k2 k3 hsn hgn HC7 HO7 HB7 HSN7 HSBS
                    go_wp2_with fail
                    refine wp_region_mix 6 10 (by kernel_rfl) (by decide +kernel) (fun w' => w'.cell? ⟨m, 1, none⟩ = some (.slice A3 k cA3) ∧ w'.cell? ⟨s0, 0, none⟩ = some (.bool sv) ∧ w'.cell? ⟨s0, 1, none⟩ = some (.bool sd) ∧ w'.cell? ⟨s0, 2, none⟩ = some (.int .i64 sb) ∧ w'.cell? ⟨s0, 3, none⟩ = some (.int .i64 sst)) ⟨y1, l0, l1, l2, l3⟩ ?_
                    simp only [List.take_succ_cons, List.take_zero, List.drop_succ_cons, List.drop_zero]
                    iterate 6
                      refine ⟨?_, Or.inl ⟨by rfl, fun W' hS' => ?_⟩, fun _ _ _ h => h, ?_⟩
                      rotate_left
                      · obtain ⟨hs1, hs2, hs3, hs4, hs5⟩ := hS'
                        go_simp
                        with_reducible rfl
                      simp only [Act.put, List.setIfInBounds_toArray, List.set_cons_zero, List.set_cons_succ]
                    show wpSeqT _ _ _ _ _ _ _ _ _
                    refine wpSeqT_step (fun K hK => ?_)
                    go_simp
                    have hbw : Below wc.heap.size wc (wc.alloc (.cells #[.bool sv, .bool sd, .int .i64 sb, .int .i64 sst] 31)) := (Below.refl _ _).alloc (Nat.le_refl _) _
                    have q1 := (hbw.cell (p := ⟨m, 1, none⟩) hmw).trans y1
                    have r0 := (hbw.cell (p := ⟨s0, 0, none⟩) hsw).trans l0
                    have r1 := (hbw.cell (p := ⟨s0, 1, none⟩) hsw).trans l1
                    have r2 := (hbw.cell (p := ⟨s0, 2, none⟩) hsw).trans l2
                    have r3 := (hbw.cell (p := ⟨s0, 3, none⟩) hsw).trans l3
                    refine hK _ _ (fun _ => ⟨q1, r0, r1, r2, r3⟩) ?_
                    clear hK K
                    refine wpSeqT_step (fun K hK => ?_)
                    refine step_append_reads _ (by rfl) (.tmp 178) (.tmp 180) _ (by rfl) (m + 2) 31 is _ 4 24 Tryz.underlying56 his hz0 hz1 hz2 rfl (by omega) (.slice A3 k cA3) k (scs (slotsU now k)) (by rfl) (World.ownsRow.drew (World.ownsRow.alloc HO9.out _)) (some ⟨wc.heap.size, 0, none⟩) 1 1 [.bool sv, .bool sd, .int .i64 sb, .int .i64 sst] (by rfl) (by rfl) (Reads.new _ _ _) (by simp [Value.oneCell']) (by simp only [maxLen]; omega) (by omega) (by simp; omega) ?_
                    intro v5 w9 hown9 hg9 hat9
                    obtain ⟨A9, c9, hv9⟩ := own_form hown9
                    subst hv9
                    have hmo : some m ≠ (Value.slice A3 k cA3).ownBlock := fun e => by have := HOB.out m e.symm; omega
                    have hso : some s0 ≠ (Value.slice A3 k cA3).ownBlock := fun e => by have := HOB.out s0 e.symm; omega
                    have hmo1 : some (m + 1) ≠ (Value.slice A3 k cA3).ownBlock := fun e => by have := HOB.out (m + 1) e.symm; omega
                    have t1 := hg9.cell (a := ⟨m, 1, none⟩) q1 hmo
                    have t2 := hg9.cell (a := ⟨s0, 0, none⟩) r0 hso
                    have t3 := hg9.cell (a := ⟨s0, 1, none⟩) r1 hso
                    have t4 := hg9.cell (a := ⟨s0, 2, none⟩) r2 hso
                    have t5 := hg9.cell (a := ⟨s0, 3, none⟩) r3 hso
                    refine hK _ _ (fun _ => ⟨t1, t2, t3, t4, t5⟩) ?_
                    clear hK K q1 r0 r1 r2 r3
                    simp only [Act.put, List.setIfInBounds_toArray, List.set_cons_zero, List.set_cons_succ]
                    iterate 2
                      refine wpSeqT_step (fun K hK => ?_)
                      go_simp
                      refine hK _ _ (fun _ => ⟨t1, t2, t3, t4, t5⟩) ?_
                      clear hK K
                    refine wpSeqT_list _ _ _ _ (by omega) ?_
                    have hrow : w9.ownsRow (m + 2) 31 4 (.slice A9 (k + 1) c9) (k + 1) (scs (slotsU now (k + 1))) := by
                      have e : scs (slotsU now (k + 1)) = scs (slotsU now k) ++ [.bool sv, .bool sd, .int .i64 sb, .int .i64 sst] := by rw [HSUS.out, scs_snoc]; rfl
                      rw [e]
                      exact hown9
                    have hbw2 := hbw.drew
                    have hCm := (HC9.out.below hbw2 hmw).grown hg9 hmo
                    have HSn := Lib.hid ((HSNN.out.fr (G := fun _ => False) (Fr.of_below hbw2) id).keep hg9 hmo1)
                    have f1 := hCm.free 1
                    have hlo : w1.heap.size ≤ wc.heap.size := HB9.out.size
                    have hB10 : Below w1.heap.size w1 w9 := (HB9.out.trans (hbw2.mono hlo)).grown hg9 (Nat.le_trans hlo hbw2.size) (fun j e => by have := HOB.out j e; omega)
                    have hset : Cs (w9.setCell ⟨m, 1, none⟩ (.slice A9 (k + 1) c9)) m 160 #[.iface 176 (.pointer (some ⟨sp, 0, none⟩)), .slice A9 (k + 1) c9, .int .i64 (Bc : Int), .int .i64 (M : Int), .bool (decide (O = 1))] := heap_setCell_same w9 m 1 _ _ (.slice A9 (k + 1) c9) hCm
                    have HCF := Lib.hid hset
                    have HOF := Lib.hid (own_fr hrow (fr_set w9 m 1 (.slice A9 (k + 1) c9)) (fun b hb e => by have := own_base hrow b hb; omega))
                    have HSF := Lib.hid (HSn.out.fr (fr_set w9 m 1 (.slice A9 (k + 1) c9)) (fun e => absurd e (by omega)))
                    have HBF := Lib.hid (hB10.setCell (p := ⟨m, 1, none⟩) hw1m (.slice A9 (k + 1) c9))
                    have hszF : m + 2 ≤ (w9.setCell ⟨m, 1, none⟩ (.slice A9 (k + 1) c9)).heap.size := by
                      rw [World.size_setCell]
                      exact Nat.le_trans hsz9 (Nat.le_trans hbw2.size hg9.size)
                    clear hown9 hg9 hat9 hrow hCm hset HSn hB10 t2 t3 t4 t5 l0 l1 l2 l3 y1
                    go_wp2_with fail
                    go_roundw
                    case rel => exact ⟨k + 1, _, by omega, by go_num, HCF.out, HOF.out, HSF.out, HOKN.out, HBF.out, hszF⟩
                    case measure => simp [intOf]; omega
            · have hkn : k = A := by omega
              subst hkn
              go_wp2_with fail
              go_ret2
              have hT : Turn F (fun j => F1 j ∧ j < w1.heap.size) W w1 := ⟨HT1.out.1, fun j hj => HT1.out.2 j hj.1⟩
              refine ⟨_, HD1.out.tight.keep HBk.out, hT.trans (Turn.of_below HBk.out), .inr ⟨?_, m, m + 2, rfl, Nat.le_trans HT1.out.1.size hw1m, by omega, fun j hj => Nat.lt_of_lt_of_le hj.2 hw1m, ?_⟩⟩
              · rw [HE4.out, if_neg (by simp [hok])]
              · have e := HWQ.out
                obtain ⟨e1, e2, e3, e4⟩ := HQ.out
                rw [e, e1, e2, e3, e4]
                exact ⟨A3, cA3, by rw [slotsU_length]; exact HCk.out, by rw [slotsU_length]; exact HOk.out⟩
end Go.Proofs.YtogchafnnkajfaaGreat
namespace Go.Proofs.YtogchafnnkajfaaGreat
set_option linter.unusedVariables false
open Go.RowKit
attribute [local go_sem] Oper.semAt_some
theorem slW_valid (a d : Nat) (ha : a < 16777216) (hd : d < 2) : slW a d / 16777216 % 2 = 1 := by
  have hs := sumW_lt (slB a d)
  unfold slW
  generalize sumW (slB a d) = q at *
  unfold slB
  omega
theorem slotOk_eq (w : Nat) (h0 : w ≠ 0) : slotOk w = decide (w = (Sl.mk true (decide (w / 33554432 % 2 = 1)) ((w % 16777216 : Nat) : Int) 0).word) := by
  unfold slotOk
  rw [decide_eq_decide]
  constructor
  · rintro (h | ⟨hv, h⟩)
    · exact absurd h h0
    · have hS : slotS w = ⟨true, decide (w / 33554432 % 2 = 1), ((w % 16777216 : Nat) : Int), 0⟩ := by unfold slotS; rw [if_neg h0, decide_eq_true hv]
      rw [hS] at h
      exact h
  · intro h
    have hm : (((w % 16777216 : Nat) : Int) % 16777216).toNat = w % 16777216 := by omega
    have hv : w / 16777216 % 2 = 1 := by
      rw [h]
      unfold Sl.word
      rw [if_pos rfl]
      exact slW_valid _ _ (by omega) (b01_lt _)
    have hS : slotS w = ⟨true, decide (w / 33554432 % 2 = 1), ((w % 16777216 : Nat) : Int), 0⟩ := by unfold slotS; rw [if_neg h0, decide_eq_true hv]
    exact .inr ⟨hv, by rw [hS]; exact h⟩
set_option maxRecDepth 100000 in
set_option maxHeartbeats 2000000 in
theorem rfrom_any (w : Nat) (W : World) (hw : w < 18446744073709551616) :
    Calls Tryz.prog 123 #[.int .u64 (w : Int)] W fun e W' => ∃ s : Sl, e = .returned (.tuple #[s.v, .bool (slotOk w)]) ∧ (slotOk w = true → s = slotS w) ∧ Below W.heap.size W W' := by
  by_cases h0 : w = 0
  · subst h0
    go_enter Tryz.func123, Tryz.ntmps123
    go_wp2_with fail
    refine bodyPost_ret (res_slot_tmp rfl _ _ W.heap.size ⟨false, false, 0, 0⟩ rfl (Cs.new W _ _)) rfl ?_
    exact ⟨⟨false, false, 0, 0⟩, rfl, fun _ => rfl, (Below.refl _ W).alloc (Nat.le_refl _) _⟩
  · have hO := slotOk_eq w h0
    have HS : Hid (slotOk w = true → (Sl.mk true (decide (w / 33554432 % 2 = 1)) ((w % 16777216 : Nat) : Int) 0) = slotS w) := by
      intro h
      unfold slotOk at h
      have h := of_decide_eq_true h
      rcases h with h | ⟨hv, _⟩
      · exact absurd h h0
      · unfold slotS; rw [if_neg h0, decide_eq_true hv]
    have HO := Lib.hid hO
    clear hO
    have t0 : ((w : Int) == 0) = false := by simpa using h0
    have e1 : bits .and .u64 ((w : Int) / 33554432) 1 = ((w / 33554432 % 2 : Nat) : Int) := by
      have e := u64_and_nat (w / 33554432) 1 (by omega) (by omega)
      rw [Nat.and_one_is_mod] at e
      rw [← e]
      rfl
    have e2 : bits .and .u64 (w : Int) 16777215 = ((w % 16777216 : Nat) : Int) := by
      have e := u64_and_nat w 16777215 hw (by omega)
      have e3 := Nat.and_two_pow_sub_one_eq_mod w 24
      simp only [Nat.reducePow, Nat.reduceSub] at e3
      rw [e3] at e
      exact e
    have hq : w % 16777216 < 16777216 := Nat.mod_lt _ (by omega)
    have hd : w / 33554432 % 2 < 2 := Nat.mod_lt _ (by omega)
    generalize w % 16777216 = q at *
    generalize w / 33554432 % 2 = dd at *
    have n2 : IntKind.i64.wrap (q : Int) = q := IntWalk.i64_in _ (by omega)
    have hdd : ((dd : Int) == 1) = decide (dd = 1) := by rw [Bool.eq_iff_iff]; simp; omega
    go_enter Tryz.func123, Tryz.ntmps123
    go_upto_region 4 with (fail)
    rw [hdd] at *
    have CT := Cs.new (W.alloc (.cells #[.bool false, .bool false, .int .i64 0, .int .i64 0] 31)) 31 #[.bool true, .bool (decide (dd = 1)), .int .i64 (q : Int), .int .i64 0]
    have hb0 : Below W.heap.size W (W.alloc (.cells #[.bool false, .bool false, .int .i64 0, .int .i64 0] 31)) := (Below.refl _ W).alloc (Nat.le_refl _) _
    have HC3 := Lib.hid ((Cs.new W 31 #[.bool false, .bool false, .int .i64 0, .int .i64 0]).alloc (.cells #[.bool true, .bool (decide (dd = 1)), .int .i64 (q : Int), .int .i64 0] 31))
    have HBW := Lib.hid (hb0.alloc hb0.size (.cells #[.bool true, .bool (decide (dd = 1)), .int .i64 (q : Int), .int .i64 0] 31))
    have hsz0 : (W.alloc (.cells #[.bool false, .bool false, .int .i64 0, .int .i64 0] 31)).heap.size = W.heap.size + 1 := World.size_alloc _ _
    rw [hsz0] at CT
    generalize decide (dd = 1) = db at *
    generalize ((W.alloc (.cells #[.bool false, .bool false, .int .i64 0, .int .i64 0] 31)).alloc (.cells #[.bool true, .bool db, .int .i64 (q : Int), .int .i64 0] 31)) = W3 at *
    have k0 : W3.cell? ⟨W.heap.size + 1, 0, none⟩ = some (.bool true) := CT.cell 0
    have k1 : W3.cell? ⟨W.heap.size + 1, 1, none⟩ = some (.bool db) := CT.cell 1
    have k2 : W3.cell? ⟨W.heap.size + 1, 2, none⟩ = some (.int .i64 (q : Int)) := CT.cell 2
    have k3 : W3.cell? ⟨W.heap.size + 1, 3, none⟩ = some (.int .i64 0) := CT.cell 3
    have f0 := HC3.out.free 0
    have f1 := HC3.out.free 1
    have f2 := HC3.out.free 2
    have f3 := HC3.out.free 3
    have hng : W.heap.size + 1 ≠ W.heap.size := by omega
    have kk : W3.drew.cell? ⟨W.heap.size + 1, 0, none⟩ = some (.bool true) ∧ W3.drew.cell? ⟨W.heap.size + 1, 1, none⟩ = some (.bool db) ∧ W3.drew.cell? ⟨W.heap.size + 1, 2, none⟩ = some (.int .i64 (q : Int)) ∧ W3.drew.cell? ⟨W.heap.size + 1, 3, none⟩ = some (.int .i64 0) := ⟨k0, k1, k2, k3⟩
    have hl3 : W.heap.size + 1 < W3.drew.heap.size := CT.lt
    have hsz : W.heap.size ≤ W3.heap.size := Nat.le_trans (Nat.le_succ _) (Nat.le_of_lt CT.lt)
    go_region_held3 (fun w' => w'.cell? ⟨W.heap.size + 1, 0, none⟩ = some (.bool true) ∧ w'.cell? ⟨W.heap.size + 1, 1, none⟩ = some (.bool db) ∧ w'.cell? ⟨W.heap.size + 1, 2, none⟩ = some (.int .i64 (q : Int)) ∧ w'.cell? ⟨W.heap.size + 1, 3, none⟩ = some (.int .i64 0)) (first | with_reducible exact kk | with_reducible exact z | exact put4_keep z hng _ _ _ _)
      (first | (go_at_call 14; refine (rword_any ⟨true, db, (q : Int), 0⟩ W3.drew).mono ?_; rintro e w2 ⟨rfl, hb2⟩; have z : w2.cell? ⟨W.heap.size + 1, 0, none⟩ = some (.bool true) ∧ w2.cell? ⟨W.heap.size + 1, 1, none⟩ = some (.bool db) ∧ w2.cell? ⟨W.heap.size + 1, 2, none⟩ = some (.int .i64 (q : Int)) ∧ w2.cell? ⟨W.heap.size + 1, 3, none⟩ = some (.int .i64 0) := ⟨(hb2.cell hl3).trans k0, (hb2.cell hl3).trans k1, (hb2.cell hl3).trans k2, (hb2.cell hl3).trans k3⟩; have HC4 := Lib.hid (Cs.below (w := W3.drew) HC3.out hb2 HC3.out.lt); have p0 := HC4.out.free 0; have p1 := HC4.out.free 1; have p2 := HC4.out.free 2; have p3 := HC4.out.free 3; have x0 := HC4.out.cell 0; have x1 := HC4.out.cell 1; have x2 := HC4.out.cell 2; have x3 := HC4.out.cell 3))
    go_wp2_with fail
    refine bodyPost_ret (res_slot_tmp rfl _ _ W.heap.size ⟨true, db, (q : Int), 0⟩ rfl (Cs.put4 HC4.out _ _ _ _)) rfl ?_
    refine ⟨⟨true, db, (q : Int), 0⟩, ?_, HS.out, below_put4 (HBW.out.drew.trans (hb2.mono hsz)) (Nat.le_refl _) _ _ _ _⟩
    rw [HO.out]
    have hdec : decide (w = (Sl.mk true db (q : Int) 0).word) = ((w : Int) == ((Sl.mk true db (q : Int) 0).word : Int)) := by
      generalize (Sl.mk true db (q : Int) 0).word = z
      rw [Bool.eq_iff_iff]
      simp
      omega
    rw [hdec]
    rfl
end Go.Proofs.YtogchafnnkajfaaGreat
namespace Go.Proofs.YtogchafnnkajfaaGreat
set_option linter.unusedVariables false
open Go.RowKit
theorem slW_fields (a d : Nat) (ha : a < 16777216) (hd : d < 2) : slW a d % 16777216 = a ∧ slW a d / 16777216 % 2 = 1 ∧ slW a d / 33554432 % 2 = d ∧ slW a d ≠ 0 := by
  have hs := sumW_lt (slB a d)
  unfold slW
  generalize sumW (slB a d) = q at *
  unfold slB
  refine ⟨?_, ?_, ?_, ?_⟩ <;> omega
def Sl.Good (s : Sl) : Prop := 0 ≤ s.block ∧ s.block ≤ 16777215 ∧ s.stamp = 0 ∧ (s.valid = false → s.block = 0 ∧ s.dirty = false)
theorem slotS_word (s : Sl) (h : s.Good) : slotS s.word = s ∧ slotOk s.word = true := by
  obtain ⟨v, d, b, st⟩ := s
  obtain ⟨h1, h2, h3, h4⟩ := h
  change 0 ≤ b at h1
  change b ≤ 16777215 at h2
  change st = 0 at h3
  subst h3
  cases v
  · obtain ⟨hb, hd⟩ := h4 rfl
    change b = 0 at hb
    change d = false at hd
    subst hb
    subst hd
    exact ⟨rfl, rfl⟩
  · have hw : (Sl.mk true d b 0).word = slW (b % 16777216).toNat (b01 d) := by unfold Sl.word; rw [if_pos rfl]
    have hbm : (b % 16777216).toNat = b.toNat := by omega
    rw [hbm] at hw
    obtain ⟨f1, f2, f3, f4⟩ := slW_fields b.toNat (b01 d) (by omega) (b01_lt d)
    have hS : slotS (slW b.toNat (b01 d)) = ⟨true, d, b, 0⟩ := by
      unfold slotS
      rw [if_neg f4, f1, f2, f3]
      have e1 : ((b.toNat : Nat) : Int) = b := by omega
      have e2 : decide (b01 d = 1) = d := by cases d <;> rfl
      rw [e1, e2]
      rfl
    refine ⟨by rw [hw]; exact hS, ?_⟩
    rw [hw]
    unfold slotOk
    rw [hS, hw]
    exact decide_eq_true (.inr ⟨f2, rfl⟩)
theorem allOk_words (ws : List Nat) (ss : List Sl) (hw : ∀ (i : Nat) (s : Sl), ss[i]? = some s → ws[1 + i]?.getD 0 = s.word) (hg : ∀ s ∈ ss, s.Good)
    (hd : ∀ (i j : Nat) (s t : Sl), i < j → ss[i]? = some s → ss[j]? = some t → s.valid = true → t.valid = true → s.block ≠ t.block) (k : Nat) (hk : k ≤ ss.length) :
    allOk ws k = true ∧ slotsU ws k = ss.take k ∧ ∀ x ∈ seenB ws k, ∃ (i : Nat) (s : Sl), i < k ∧ ss[i]? = some s ∧ s.valid = true ∧ s.block = x := by
  induction k with
  | zero => exact ⟨rfl, by simp [slotsU, upto], fun x hx => by simp [seenB] at hx⟩
  | succ k ih =>
    obtain ⟨h1, h2, h3⟩ := ih (by omega)
    have hkl : k < ss.length := by omega
    have hs : ss[k]? = some ss[k] := List.getElem?_eq_getElem hkl
    obtain ⟨e1, e2⟩ := slotS_word ss[k] (hg _ (List.getElem_mem _))
    have hwk := hw k _ hs
    refine ⟨?_, ?_, ?_⟩
    · rw [allOk, h1, okAt, hwk, e1, e2]
      cases hv : ss[k].valid
      · rfl
      · have hn : ¬ ss[k].block ∈ seenB ws k := by
          intro hm
          obtain ⟨i, s, hi, hsi, hsv, hsb⟩ := h3 _ hm
          exact hd i k s _ hi hsi hs hsv hv hsb
        rw [decide_eq_false hn]
        rfl
    · rw [slotsU_succ, h2, hwk, e1, List.take_succ_eq_append_getElem hkl]
    · intro x hx
      rw [seenB, hwk, e1] at hx
      cases hv : ss[k].valid
      · rw [hv, if_neg (by simp)] at hx
        obtain ⟨i, s, hi, q⟩ := h3 x hx
        exact ⟨i, s, by omega, q⟩
      · rw [hv, if_pos rfl] at hx
        rcases List.mem_append.1 hx with hx | hx
        · obtain ⟨i, s, hi, q⟩ := h3 x hx
          exact ⟨i, s, by omega, q⟩
        · exact ⟨k, _, by omega, hs, hv, (List.mem_singleton.1 hx).symm⟩
end Go.Proofs.YtogchafnnkajfaaGreat
namespace Go.Proofs.YtogchafnnkajfaaGreat
set_option linter.unusedVariables false
structure Wro (S S' : DS) (ns : List Nat) (i j v : Nat) : Prop where
  hea : Hea S' ns
  now : ∀ k, S'.now k = if k = i then (S.now i).set j v else S.now k
  cand : ∀ k b x, S'.Cand k b x → S.Cand k b x ∨ (k = i ∧ b = j ∧ x = v)
structure Shr (S S' : DS) (ns : List Nat) : Prop where
  hea : Hea S' ns
  now : ∀ k, S'.now k = S.now k
  cand : ∀ k b x, S'.Cand k b x → S.Cand k b x
def Stl (S : DS) (i : Nat) : Prop := ∀ b x, S.Cand i b x → (S.now i)[b]? = some x
theorem Wro.of {S : DS} {ns : List Nat} (h : Hea S ns) {i n : Nat} (hi : ns[i]? = some n) (j v : Nat) (hj : j < n) : Wro S (S.burnt.wput i j v) ns i j v :=
  ⟨h.wput hi j v hj, fun k => (wput_at S i j v k (h.lt hi)).1, fun k b x hx => (cand_wput S i j v (h.lt hi) k b x).1 hx⟩
theorem Shr.flS {S : DS} {ns : List Nat} (h : Hea S ns) {i n : Nat} (hi : ns[i]? = some n) : Shr S (S.flS i) ns ∧ Stl (S.flS i) i := by
  refine ⟨⟨h.flS hi, fun k => (flS_at h hi k).1, fun k b x hx => ?_⟩, fun b x hx => ?_⟩
  · rw [cand_flS h hi] at hx
    split at hx
    · rename_i e; subst e; exact h.la k b x hx
    · exact hx
  · rw [cand_flS h hi, if_pos rfl] at hx
    rw [(flS_at h hi i).1]
    exact hx
theorem now_eq {S S' : DS} (h1 : S'.dr = S.dr) (i : Nat) : S'.now i = S.now i := by
  unfold DS.now DS.drv
  rw [h1]
theorem cand_eq {S S' : DS} (h1 : S'.dr = S.dr) (h2 : S'.log = S.log) (i j v : Nat) : S'.Cand i j v ↔ S.Cand i j v := by
  unfold DS.Cand DS.dur DS.drv
  rw [h1, h2]
theorem Shr.eq {S S' : DS} {ns : List Nat} (h : Hea S ns) (h1 : S'.dr = S.dr) (h2 : S'.log = S.log) : Shr S S' ns :=
  ⟨h.of h1 h2, fun k => now_eq h1 k, fun k b x hx => (cand_eq h1 h2 k b x).1 hx⟩
theorem Stl.shr {S S' : DS} {ns : List Nat} {i : Nat} (h : Stl S i) (hs : Shr S S' ns) : Stl S' i := fun b x hx => by rw [hs.now]; exact h b x (hs.cand i b x hx)
theorem Stl.wro {S S' : DS} {ns : List Nat} {i k j v : Nat} (h : Stl S k) (hs : Wro S S' ns i j v) (hk : k ≠ i) : Stl S' k := fun b x hx => by
  rw [hs.now, if_neg hk]
  rcases hs.cand k b x hx with hx | ⟨e, -⟩
  · exact h b x hx
  · exact absurd e hk
theorem Shr.trans {S S' S2 : DS} {ns : List Nat} (h : Shr S S' ns) (h2 : Shr S' S2 ns) : Shr S S2 ns := ⟨h2.hea, fun k => (h2.now k).trans (h.now k), fun k b x hx => h.cand k b x (h2.cand k b x hx)⟩
theorem blk_eq {b b' i i' c : Nat} (hi : i < c) (hi' : i' < c) (h : b * c + i = b' * c + i') : b = b' ∧ i = i' := by
  have h1 : (b * c + i) / c = b := by rw [Nat.mul_comm, Nat.mul_add_div (by omega), Nat.div_eq_of_lt hi, Nat.add_zero]
  have h2 : (b' * c + i') / c = b' := by rw [Nat.mul_comm, Nat.mul_add_div (by omega), Nat.div_eq_of_lt hi', Nat.add_zero]
  have e : b = b' := by rw [← h1, ← h2, h]
  subst e
  exact ⟨rfl, by omega⟩
theorem blk_div {b i c : Nat} (hi : i < c) : (b * c + i) / c = b ∧ (b * c + i) % c = i := by
  refine ⟨by rw [Nat.mul_comm, Nat.mul_add_div (by omega), Nat.div_eq_of_lt hi, Nat.add_zero], by rw [Nat.mul_comm, Nat.mul_add_mod, Nat.mod_eq_of_lt hi]⟩
theorem blk_at (a c : Nat) (hc : 1 ≤ c) : a / c * c + a % c = a ∧ a % c < c := ⟨by rw [Nat.mul_comm]; exact Nat.div_add_mod a c, Nat.mod_lt _ hc⟩
theorem toNat_blk {z : Int} {q : Nat} (h : z = (q : Int)) : z.toNat = q := by rw [h]; exact Int.toNat_natCast q
def dwd (b : Int) (d : Bool) : Nat := Sl.word ⟨true, d, b, 0⟩
theorem word_yes {x : Sl} (h : x.valid = true) : x.word = dwd x.block x.dirty := by
  obtain ⟨v, d, b, s⟩ := x
  obtain rfl : v = true := h
  rfl
theorem word_no {x : Sl} (h : x.valid = false) : x.word = 0 := by
  unfold Sl.word
  rw [h]
  rfl
theorem dwd_slot (b : Int) (d : Bool) (hb : 0 ≤ b ∧ b ≤ 16777215) : slotS (dwd b d) = ⟨true, d, b, 0⟩ := (slotS_word ⟨true, d, b, 0⟩ ⟨hb.1, hb.2, rfl, fun e => by cases e⟩).1
theorem dwd_inj {b b' : Int} {d d' : Bool} (hb : 0 ≤ b ∧ b ≤ 16777215) (hb' : 0 ≤ b' ∧ b' ≤ 16777215) (h : dwd b d = dwd b' d') : b = b' ∧ d = d' := by
  have h1 := dwd_slot b d hb
  rw [h, dwd_slot b' d' hb'] at h1
  injection h1 with e1 e2 e3
  exact ⟨e3.symm, e2.symm⟩
theorem dwd_ne {b : Int} {d : Bool} (hb : 0 ≤ b ∧ b ≤ 16777215) : dwd b d ≠ 0 := by
  intro e
  have h1 := dwd_slot b d hb
  rw [e] at h1
  have : (slotS 0).valid = true := by rw [h1]
  revert this
  decide
structure VK (C : VC) (S : DS) (sl : List Sl) (pm : Bool) (ok : Nat → Nat → Prop) : Prop where
  hea : Hea S [C.n0, C.n1, C.n2]
  n2 : C.n2 = sl.length + 1
  n1 : sl.length * C.chunk ≤ C.n1
  ch : 1 ≤ C.chunk
  uq : ∀ (i j : Nat) (x y : Sl), sl[i]? = some x → sl[j]? = some y → x.valid = true → y.valid = true → x.block = y.block → i = j
  wh : ∀ (k : Nat) (x : Sl), sl[k]? = some x → x.valid = true → (0 ≤ x.block ∧ x.block ≤ 16777215) ∧ x.block.toNat * C.chunk + C.chunk ≤ C.n0
  hd : ∀ v, S.Cand 2 0 v → v = hdI sl.length (C.chunk : Int) (if pm = true then 2 else 1) true
  pc : ∀ (k : Nat) (x : Sl) (w : Nat), sl[k]? = some x → S.Cand 2 (1 + k) w → w = 0 ∨ (x.valid = true ∧ ∃ d, w = dwd x.block d)
  m : pm = false → ∀ (k : Nat) (x : Sl), sl[k]? = some x → x.valid = true → ¬ S.Cand 2 (1 + k) (dwd x.block true)
  a : ∀ (k : Nat) (x : Sl) (i v : Nat), sl[k]? = some x → x.valid = true → i < C.chunk → S.Cand 1 (k * C.chunk + i) v → ok (x.block.toNat * C.chunk + i) v
  b : ∀ (k : Nat) (x : Sl) (w i v : Nat), sl[k]? = some x → x.valid = true → S.Cand 2 (1 + k) w → w ≠ dwd x.block true → i < C.chunk → S.Cand 0 (x.block.toNat * C.chunk + i) v → ok (x.block.toNat * C.chunk + i) v
  bo : ∀ (a v : Nat), a < C.n0 → (∀ (k : Nat) (x : Sl), sl[k]? = some x → x.valid = true → x.block ≠ ((a / C.chunk : Nat) : Int)) → S.Cand 0 a v → ok a v
structure VI (C : VC) (S : DS) (sl : List Sl) (pm : Bool) (ok : Nat → Nat → Prop) : Prop where
  k : VK C S sl pm ok
  wd : ∀ (k : Nat) (x : Sl), sl[k]? = some x → (S.now 2)[1 + k]? = some x.word
  ceq : ∀ (k : Nat) (x : Sl) (i : Nat), sl[k]? = some x → x.valid = true → x.dirty = false → i < C.chunk → (S.now 1)[k * C.chunk + i]? = (S.now 0)[x.block.toNat * C.chunk + i]?
  nl : ∀ (k : Nat) (x : Sl), sl[k]? = some x → x.valid = false → x.dirty = false
def VV (C : VC) (S : DS) (sl : List Sl) (a v : Nat) : Prop :=
  (∃ (k : Nat) (x : Sl), sl[k]? = some x ∧ x.valid = true ∧ x.block = ((a / C.chunk : Nat) : Int) ∧ (S.now 1)[k * C.chunk + a % C.chunk]? = some v) ∨
  ((∀ (k : Nat) (x : Sl), sl[k]? = some x → x.valid = true → x.block ≠ ((a / C.chunk : Nat) : Int)) ∧ (S.now 0)[a]? = some v)
section
variable {C : VC} {S S' : DS} {sl : List Sl} {pm : Bool} {ok ok' : Nat → Nat → Prop}
theorem VK.mono (h : VK C S sl pm ok) (ho : ∀ a v, a < C.n0 → ok a v → ok' a v) : VK C S sl pm ok' :=
  ⟨h.hea, h.n2, h.n1, h.ch, h.uq, h.wh, h.hd, h.pc, h.m, fun k x i v hx hv hi hc => ho _ _ (by have := (h.wh k x hx hv).2; omega) (h.a k x i v hx hv hi hc), fun k x w i v hx hv hw hn hi hc => ho _ _ (by have := (h.wh k x hx hv).2; omega) (h.b k x w i v hx hv hw hn hi hc), fun a v ha hn hc => ho _ _ ha (h.bo a v ha hn hc)⟩
theorem VI.mono (h : VI C S sl pm ok) (ho : ∀ a v, a < C.n0 → ok a v → ok' a v) : VI C S sl pm ok' := ⟨h.k.mono ho, h.wd, h.ceq, h.nl⟩
theorem VK.shr (h : VK C S sl pm ok) (hs : Shr S S' [C.n0, C.n1, C.n2]) : VK C S' sl pm ok :=
  ⟨hs.hea, h.n2, h.n1, h.ch, h.uq, h.wh, fun v hv => h.hd v (hs.cand _ _ _ hv), fun k x w hx hw => h.pc k x w hx (hs.cand _ _ _ hw), fun e k x hx hv hc => h.m e k x hx hv (hs.cand _ _ _ hc), fun k x i v hx hv hi hc => h.a k x i v hx hv hi (hs.cand _ _ _ hc), fun k x w i v hx hv hw hn hi hc => h.b k x w i v hx hv (hs.cand _ _ _ hw) hn hi (hs.cand _ _ _ hc), fun a v ha hn hc => h.bo a v ha hn (hs.cand _ _ _ hc)⟩
theorem VI.shr (h : VI C S sl pm ok) (hs : Shr S S' [C.n0, C.n1, C.n2]) : VI C S' sl pm ok :=
  ⟨h.k.shr hs, fun k x hx => by rw [hs.now]; exact h.wd k x hx, fun k x i hx hv hd hi => by rw [hs.now, hs.now]; exact h.ceq k x i hx hv hd hi, h.nl⟩
theorem VV.now (h0 : S'.now 0 = S.now 0) (h1 : S'.now 1 = S.now 1) {a v : Nat} (h : VV C S sl a v) : VV C S' sl a v := by
  rcases h with ⟨k, x, hx, hv, hb, hn⟩ | ⟨hn, h⟩
  · exact .inl ⟨k, x, hx, hv, hb, by rw [h1]; exact hn⟩
  · exact .inr ⟨hn, by rw [h0]; exact h⟩
theorem VK.lens (h : VK C S sl pm ok) : (S.now 0).length = C.n0 ∧ (S.now 1).length = C.n1 ∧ (S.now 2).length = C.n2 := ⟨(h.hea.nn 0 _ rfl).1, (h.hea.nn 1 _ rfl).1, (h.hea.nn 2 _ rfl).1⟩
theorem VK.fast (h : VK C S sl pm ok) {k : Nat} {x : Sl} (hx : sl[k]? = some x) {i : Nat} (hi : i < C.chunk) : k * C.chunk + i < C.n1 := by
  have hk := (List.getElem?_eq_some_iff.1 hx).1
  have := Nat.mul_le_mul_right C.chunk (show k + 1 ≤ sl.length by omega)
  rw [Nat.add_mul] at this
  have := h.n1
  omega
theorem VK.blkof (h : VK C S sl pm ok) {k : Nat} {x : Sl} (hx : sl[k]? = some x) (hv : x.valid = true) : x.block = (x.block.toNat : Int) := by have := (h.wh k x hx hv).1; omega
theorem VK.uqn (h : VK C S sl pm ok) {k k' : Nat} {x x' : Sl} (hx : sl[k]? = some x) (hx' : sl[k']? = some x') (hv : x.valid = true) (hv' : x'.valid = true) (e : x.block.toNat = x'.block.toNat) : k = k' ∧ x = x' := by
  have e1 := h.blkof hx hv
  have e2 := h.blkof hx' hv'
  have : k = k' := h.uq k k' x x' hx hx' hv hv' (by omega)
  subst this
  rw [hx] at hx'
  injection hx' with hx'
  exact ⟨rfl, hx'⟩
theorem VV.ex (h : VK C S sl pm ok) {a : Nat} (ha : a < C.n0) : ∃ v, VV C S sl a v := by
  obtain ⟨l0, l1, l2⟩ := h.lens
  by_cases hk : ∃ (k : Nat) (x : Sl), sl[k]? = some x ∧ x.valid = true ∧ x.block = ((a / C.chunk : Nat) : Int)
  · obtain ⟨k, x, hx, hv, hb⟩ := hk
    have := h.fast hx (blk_at a C.chunk h.ch).2
    exact ⟨_, .inl ⟨k, x, hx, hv, hb, List.getElem?_eq_getElem (by omega)⟩⟩
  · exact ⟨_, .inr ⟨fun k x hx hv hb => hk ⟨k, x, hx, hv, hb⟩, List.getElem?_eq_getElem (by omega)⟩⟩
theorem VV.uniq (h : VK C S sl pm ok) {a v v' : Nat} (h1 : VV C S sl a v) (h2 : VV C S sl a v') : v = v' := by
  rcases h1 with ⟨k, x, hx, hv, hb, hn⟩ | ⟨hn, h1⟩
  · rcases h2 with ⟨k', x', hx', hv', hb', hn'⟩ | ⟨hn', h2⟩
    · obtain ⟨rfl, rfl⟩ := h.uqn hx hx' hv hv' (by omega)
      rw [hn] at hn'
      injection hn'
    · exact absurd hb (hn' k x hx hv)
  · rcases h2 with ⟨k', x', hx', hv', hb', hn'⟩ | ⟨hn', h2⟩
    · exact absurd hb' (hn k' x' hx' hv')
    · rw [h1] at h2
      injection h2
theorem VV.slot (h : VK C S sl pm ok) {k : Nat} {x : Sl} (hx : sl[k]? = some x) (hv : x.valid = true) {i : Nat} (hi : i < C.chunk) {v : Nat} (hn : (S.now 1)[k * C.chunk + i]? = some v) : VV C S sl (x.block.toNat * C.chunk + i) v := by
  obtain ⟨e1, e2⟩ := blk_div (b := x.block.toNat) hi
  exact .inl ⟨k, x, hx, hv, by rw [e1]; exact h.blkof hx hv, by rw [e2]; exact hn⟩
theorem VI.org (h : VI C S sl pm ok) {k : Nat} {x : Sl} (hx : sl[k]? = some x) (hv : x.valid = true) (hd : x.dirty = true) {i v : Nat} (hi : i < C.chunk) (hw : Wro S S' [C.n0, C.n1, C.n2] 0 (x.block.toNat * C.chunk + i) v) (hn : (S.now 1)[k * C.chunk + i]? = some v) :
    VI C S' sl pm ok ∧ ∀ a u, VV C S sl a u → VV C S' sl a u := by
  have c2 : ∀ b u, S'.Cand 2 b u → S.Cand 2 b u := fun b u hc => (hw.cand 2 b u hc).elim id (fun e => by omega)
  have c1 : ∀ b u, S'.Cand 1 b u → S.Cand 1 b u := fun b u hc => (hw.cand 1 b u hc).elim id (fun e => by omega)
  have n1 : S'.now 1 = S.now 1 := by rw [hw.now, if_neg (by decide)]
  have n2 : S'.now 2 = S.now 2 := by rw [hw.now, if_neg (by decide)]
  refine ⟨⟨⟨hw.hea, h.k.n2, h.k.n1, h.k.ch, h.k.uq, h.k.wh, fun u hu => h.k.hd u (c2 _ _ hu), fun k x w hx hc => h.k.pc k x w hx (c2 _ _ hc), fun e k x hx hv hc => h.k.m e k x hx hv (c2 _ _ hc), fun k x i u hx hv hi hc => h.k.a k x i u hx hv hi (c1 _ _ hc), ?_, ?_⟩, ?_, ?_, h.nl⟩, ?_⟩
  · intro k' x' w i' u hx' hv' hc hne hi' hc0
    rcases hw.cand 0 _ u hc0 with hc0 | ⟨-, e, rfl⟩
    · exact h.k.b k' x' w i' u hx' hv' (c2 _ _ hc) hne hi' hc0
    · obtain ⟨e1, rfl⟩ := blk_eq hi' hi e
      obtain ⟨rfl, rfl⟩ := h.k.uqn hx' hx hv' hv e1
      exact h.k.a _ _ _ _ hx' hv' hi (h.k.hea.la 1 _ _ hn)
  · intro a u ha hno hc
    rcases hw.cand 0 _ u hc with hc | ⟨-, e, rfl⟩
    · exact h.k.bo a u ha hno hc
    · exact absurd (by rw [e, (blk_div hi).1]; exact h.k.blkof hx hv) (hno k x hx hv)
  · intro k' x' hx'
    rw [n2]
    exact h.wd k' x' hx'
  · intro k' x' i' hx' hv' hd' hi'
    rw [n1, hw.now, if_pos rfl, List.getElem?_set_ne]
    · exact h.ceq k' x' i' hx' hv' hd' hi'
    · intro e
      obtain ⟨e1, rfl⟩ := blk_eq hi hi' e
      obtain ⟨rfl, rfl⟩ := h.k.uqn hx hx' hv hv' e1
      rw [hd] at hd'
      cases hd'
  · intro a u hu
    rcases hu with ⟨k', x', hx', hv', hb', hn'⟩ | ⟨hno, hn'⟩
    · exact .inl ⟨k', x', hx', hv', hb', by rw [n1]; exact hn'⟩
    · refine .inr ⟨hno, ?_⟩
      rw [hw.now, if_pos rfl, List.getElem?_set_ne]
      · exact hn'
      · intro e
        exact hno k x hx hv (by rw [← e, (blk_div hi).1]; exact h.k.blkof hx hv)
structure Cmt (S S' : DS) (ns : List Nat) (k w : Nat) : Prop where
  hea : Hea S' ns
  n0 : S'.now 0 = S.now 0
  n1 : S'.now 1 = S.now 1
  n2 : S'.now 2 = (S.now 2).set (1 + k) w
  c0 : ∀ b x, S'.Cand 0 b x → S.Cand 0 b x
  c1 : ∀ b x, S'.Cand 1 b x → S.Cand 1 b x
  c2 : Stl S' 2
theorem VI.cmt (h : VI C S sl pm ok) {k : Nat} {x y : Sl} (hx : sl[k]? = some x) (hc : Cmt S S' [C.n0, C.n1, C.n2] k y.word)
    (hno : y.valid = false → y.dirty = false) (hyes : y.valid = true → x.valid = true ∧ y.block = x.block ∧ (y.dirty = true → pm = true))
    (heq : x.valid = true → y.dirty = false → (∀ i, i < C.chunk → (S.now 1)[k * C.chunk + i]? = (S.now 0)[x.block.toNat * C.chunk + i]?) ∧ ∀ i v, i < C.chunk → S.Cand 0 (x.block.toNat * C.chunk + i) v → ok (x.block.toNat * C.chunk + i) v) :
    VI C S' (sl.set k y) pm ok ∧ ∀ a u, VV C S sl a u → VV C S' (sl.set k y) a u := by
  have hkl := (List.getElem?_eq_some_iff.1 hx).1
  obtain ⟨l0, l1, l2⟩ := h.k.lens
  have hn2 := h.k.n2
  have hg : ∀ {j : Nat} {z : Sl}, (sl.set k y)[j]? = some z → (j = k ∧ z = y) ∨ (j ≠ k ∧ sl[j]? = some z) := fun hz => set_get hz
  -- the words of the other slots
  have w2 : ∀ (j u : Nat), j ≠ k → S'.Cand 2 (1 + j) u → S.Cand 2 (1 + j) u := by
    intro j u hj hu
    have := hc.c2 _ _ hu
    rw [hc.n2, List.getElem?_set_ne (by omega)] at this
    exact h.k.hea.la 2 _ u this
  have w2k : ∀ u, S'.Cand 2 (1 + k) u → u = y.word := by
    intro u hu
    have := hc.c2 _ _ hu
    rw [hc.n2, List.getElem?_set_self (by omega)] at this
    injection this with this
    exact this.symm
  have hwx : ∀ {z : Sl} {j : Nat}, (sl.set k y)[j]? = some z → z.valid = true → ∃ z', sl[j]? = some z' ∧ z'.valid = true ∧ z.block = z'.block := by
    intro z j hz hzv
    rcases hg hz with ⟨rfl, rfl⟩ | ⟨-, hz⟩
    · obtain ⟨e1, e2, -⟩ := hyes hzv
      exact ⟨x, hx, e1, e2⟩
    · exact ⟨z, hz, hzv, rfl⟩
  refine ⟨⟨⟨hc.hea, by rw [List.length_set]; exact hn2, by rw [List.length_set]; exact h.k.n1, h.k.ch, ?_, ?_, ?_, ?_, ?_, ?_, ?_, ?_⟩, ?_, ?_, ?_⟩, ?_⟩
  · intro i j p q hp hq hpv hqv he
    obtain ⟨p', hp', hpv', e1⟩ := hwx hp hpv
    obtain ⟨q', hq', hqv', e2⟩ := hwx hq hqv
    exact h.k.uq i j p' q' hp' hq' hpv' hqv' (by omega)
  · intro j z hz hzv
    obtain ⟨z', hz', hzv', e⟩ := hwx hz hzv
    rw [e]
    exact h.k.wh j z' hz' hzv'
  · intro v hv
    rw [List.length_set]
    have := hc.c2 _ _ hv
    rw [hc.n2, List.getElem?_set_ne (by omega)] at this
    exact h.k.hd v (h.k.hea.la 2 _ v this)
  · intro j z w hz hw
    rcases hg hz with ⟨rfl, rfl⟩ | ⟨hj, hz⟩
    · rw [w2k w hw]
      rcases hzv : z.valid with _ | _
      · exact .inl (word_no hzv)
      · exact .inr ⟨rfl, _, word_yes hzv⟩
    · exact h.k.pc j z w hz (w2 j w hj hw)
  · intro hpm j z hz hzv hw
    rcases hg hz with ⟨rfl, rfl⟩ | ⟨hj, hz⟩
    · have e := w2k _ hw
      rw [word_yes hzv] at e
      have hb := (h.k.wh j x hx (hyes hzv).1).1
      rw [← (hyes hzv).2.1] at hb
      have := (hyes hzv).2.2 (dwd_inj hb hb e).2.symm
      rw [hpm] at this
      cases this
    · exact h.k.m hpm j z hz hzv (w2 j _ hj hw)
  · intro j z i v hz hzv hi hcd
    obtain ⟨z', hz', hzv', e⟩ := hwx hz hzv
    rw [e]
    exact h.k.a j z' i v hz' hzv' hi (hc.c1 _ _ hcd)
  · intro j z w i v hz hzv hw hne hi hcd
    rcases hg hz with ⟨rfl, rfl⟩ | ⟨hj, hz⟩
    · rw [w2k w hw, word_yes hzv] at hne
      have hdf : z.dirty = false := by
        rcases hd : z.dirty with _ | _
        · rfl
        · rw [hd] at hne
          exact absurd rfl hne
      obtain ⟨e1, e2, -⟩ := hyes hzv
      rw [e2] at hcd ⊢
      exact (heq e1 hdf).2 i v hi (hc.c0 _ _ hcd)
    · exact h.k.b j z w i v hz hzv (w2 j w hj hw) hne hi (hc.c0 _ _ hcd)
  · intro a v ha hn hcd
    have hcd := hc.c0 _ _ hcd
    by_cases hxa : x.valid = true ∧ x.block = ((a / C.chunk : Nat) : Int)
    · obtain ⟨hxv, hxb⟩ := hxa
      have hyv : y.valid = false := by
        rcases hyv : y.valid with _ | _
        · rfl
        · exact absurd ((hyes hyv).2.1.trans hxb) (hn k y (by rw [List.getElem?_set_self hkl]) hyv)
      have := (heq hxv (hno hyv)).2 (a % C.chunk) v (blk_at a C.chunk h.k.ch).2
      rw [toNat_blk hxb, (blk_at a C.chunk h.k.ch).1] at this
      exact this hcd
    · refine h.k.bo a v ha (fun j z hz hzv hzb => ?_) hcd
      by_cases hj : j = k
      · subst hj
        rw [hx] at hz
        injection hz with hz
        subst hz
        exact hxa ⟨hzv, hzb⟩
      · exact hn j z (by rw [List.getElem?_set_ne (fun e => hj e.symm)]; exact hz) hzv hzb
  · intro j z hz
    rw [hc.n2]
    rcases hg hz with ⟨rfl, rfl⟩ | ⟨hj, hz⟩
    · rw [List.getElem?_set_self (by omega)]
    · rw [List.getElem?_set_ne (by omega)]
      exact h.wd j z hz
  · intro j z i hz hzv hzd hi
    rw [hc.n1, hc.n0]
    rcases hg hz with ⟨rfl, rfl⟩ | ⟨hj, hz⟩
    · obtain ⟨e1, e2, -⟩ := hyes hzv
      rw [e2]
      exact (heq e1 hzd).1 i hi
    · exact h.ceq j z i hz hzv hzd hi
  · intro j z hz hzv
    rcases hg hz with ⟨rfl, rfl⟩ | ⟨hj, hz⟩
    · exact hno hzv
    · exact h.nl j z hz hzv
  · intro a u hu
    rcases hu with ⟨j, z, hz, hzv, hzb, hzn⟩ | ⟨hn, hu⟩
    · by_cases hj : j = k
      · subst hj
        rw [hx] at hz
        injection hz with hz
        subst hz
        rcases hyv : y.valid with _ | _
        · refine .inr ⟨fun i p hp hpv hpb => ?_, ?_⟩
          · rcases hg hp with ⟨rfl, rfl⟩ | ⟨hi, hp⟩
            · rw [hyv] at hpv; cases hpv
            · exact hi (h.k.uq i j p x hp hx hpv hzv (by omega))
          · have := (heq hzv (hno hyv)).1 (a % C.chunk) (blk_at a C.chunk h.k.ch).2
            rw [toNat_blk hzb, (blk_at a C.chunk h.k.ch).1] at this
            rw [hc.n0, ← this]
            exact hzn
        · exact .inl ⟨j, y, by rw [List.getElem?_set_self hkl], hyv, by rw [(hyes hyv).2.1]; exact hzb, by rw [hc.n1]; exact hzn⟩
      · exact .inl ⟨j, z, by rw [List.getElem?_set_ne (fun e => hj e.symm)]; exact hz, hzv, hzb, by rw [hc.n1]; exact hzn⟩
    · refine .inr ⟨fun i p hp hpv hpb => ?_, by rw [hc.n0]; exact hu⟩
      obtain ⟨p', hp', hpv', e⟩ := hwx hp hpv
      exact hn i p' hp' hpv' (by omega)
end
end Go.Proofs.YtogchafnnkajfaaGreat
namespace Go.Proofs.YtogchafnnkajfaaGreat
set_option linter.unusedVariables false
open Go.RowKit
attribute [local go_sem] Oper.semAt_some m_write m_read m_flush m_size
def VS.clE (C : VC) (V : VS) (k b : Nat) (x : Sl) : Int := if V.cbE C k b ≠ 0 then V.cbE C k b else if (V.cbV C k b).setE C k ≠ 0 then (V.cbV C k b).setE C k else ((V.cbV C k b).setV C k { x with dirty := false }).S.chkF 2
def VS.clV (C : VC) (V : VS) (k b : Nat) (x : Sl) : VS := if V.cbE C k b ≠ 0 then V.cbV C k b else if (V.cbV C k b).setE C k ≠ 0 then (V.cbV C k b).setV C k { x with dirty := false } else { (V.cbV C k b).setV C k { x with dirty := false } with S := ((V.cbV C k b).setV C k { x with dirty := false }).S.flush 2 }
theorem cbV_log (C : VC) (V : VS) (k b : Nat) : (V.cbV C k b).S.log.length ≤ V.S.log.length + C.chunk ∧ (V.cbV C k b).S.wr ≤ V.S.wr + C.chunk := by
  have h := vcp_log V.S 1 C.n1 (k * C.chunk) 0 C.n0 (b * C.chunk) C.chunk
  have h2 := flush_log (V.cb C k b).2 0
  unfold VS.cbV
  dsimp only
  split
  · exact ⟨Nat.le_trans h2.1 h.1, by rw [h2.2]; exact h.2⟩
  · exact h
theorem setV_log (C : VC) (V : VS) (k : Nat) (s : Sl) : (V.setV C k s).S.log.length ≤ V.S.log.length + 1 ∧ (V.setV C k s).S.wr ≤ V.S.wr + 1 :=
  ⟨swrite_log V.S 2 C.n2 (1 + (k : Int)) s.word, swrite_wr V.S 2 C.n2 (1 + (k : Int)) s.word⟩
theorem VolIn.slotC {W : World} {Fc Fv : Nat → Prop} {C : VC} {V : VS} {B : Option Addr} {bR c d : Nat} (h : VolIn W Fc Fv C V (some ⟨bR, 0, none⟩) c B d) {k : Nat} {x : Sl} (hx : V.x.sl[k]? = some x) :
    W.cell? ⟨bR, k * 4, none⟩ = some (.bool x.valid) ∧ W.cell? ⟨bR, k * 4 + 1, none⟩ = some (.bool x.dirty) ∧ W.cell? ⟨bR, k * 4 + 2, none⟩ = some (.int .i64 x.block) ∧ W.cell? ⟨bR, k * 4 + 3, none⟩ = some (.int .i64 x.stamp) := by
  have hk := (List.getElem?_eq_some_iff.1 hx).1
  obtain ⟨t0, t1, t2, t3⟩ := scs_at V.x.sl k x hx
  exact ⟨(h.row.cellAt (k * 4) (by omega)).trans t0, (h.row.cellAt (k * 4 + 1) (by omega)).trans t1, (h.row.cellAt (k * 4 + 2) (by omega)).trans t2, (h.row.cellAt (k * 4 + 3) (by omega)).trans t3⟩
set_option maxRecDepth 100000 in
set_option maxHeartbeats 4000000 in
theorem vcleanR_any (W : World) (Fv : Nat → Prop) (C : VC) (V : VS) (k b : Nat) (x : Sl) (A0 : Option Addr) (c0' : Nat) (h : VolAtR W Fv C V A0 c0') (hx : V.x.sl[k]? = some x) (hb : x.block = (b : Int)) (hv : x.valid = true) (hlen : V.x.sl.length = V.ss.length) (hl : V.ss.length ≤ 1024) (hb2 : b ≤ 16777215) (hch : C.chunk ≤ 127) (hn0 : C.n0 ≤ 65536) (hn1 : C.n1 ≤ 65536) (hn2 : C.n2 ≤ 65536)
    (hlog : V.S.log.length + C.chunk < 1000000) (hwr : V.S.wr + C.chunk ≤ 999999) :
    Calls Tryz.prog 86 #[.pointer (some ⟨C.v, 0, none⟩), .int .i64 (k : Int)] W (VolPR W Fv C (.int .i64 (V.clE C k b x)) (V.clV C k b x) A0 c0') := by
  have hk : k < V.x.sl.length := (List.getElem?_eq_some_iff.1 hx).1
  have hu1 : (k : Int) < (V.x.sl.length : Int) := by omega
  have HCP := Lib.hid (vcopyR_any W Fv C V k b x A0 c0' h hx hb (by omega) hb2 hch hn0 hn1 hlog (by omega))
  have hlg := cbV_log C V k b
  have hVx : (V.cbV C k b).x = V.x := rfl
  have hVs : (V.cbV C k b).ss = V.ss := rfl
  obtain ⟨xv, xd, xb, xs⟩ := x
  dsimp only at hb hv
  subst hb
  subst hv
  have hE : V.clE C k b ⟨true, xd, (b : Int), xs⟩ = if V.cbE C k b ≠ 0 then V.cbE C k b else if (V.cbV C k b).setE C k ≠ 0 then (V.cbV C k b).setE C k else ((V.cbV C k b).setV C k ⟨true, false, (b : Int), xs⟩).S.chkF 2 := rfl
  have hV : V.clV C k b ⟨true, xd, (b : Int), xs⟩ = if V.cbE C k b ≠ 0 then V.cbV C k b else if (V.cbV C k b).setE C k ≠ 0 then (V.cbV C k b).setV C k ⟨true, false, (b : Int), xs⟩ else { (V.cbV C k b).setV C k ⟨true, false, (b : Int), xs⟩ with S := ((V.cbV C k b).setV C k ⟨true, false, (b : Int), xs⟩).S.flush 2 } := rfl
  generalize V.clE C k b ⟨true, xd, (b : Int), xs⟩ = rE at *
  generalize V.clV C k b ⟨true, xd, (b : Int), xs⟩ = rV at *
  generalize V.cbE C k b = e1 at *
  generalize V.cbV C k b = V1 at *
  have HE := Lib.hid hE
  have HV := Lib.hid hV
  rw [← hVx] at hx
  have HX := Lib.hid hx
  have HL1 : Hid (V1.x.sl.length = V1.ss.length) := by show _ = _; rw [hVx, hVs]; exact hlen
  have HSS := Lib.hid hVs
  have HXX := Lib.hid hVx
  clear hE hV h hVx hVs hx
  go_enter Tryz.func86, Tryz.ntmps86
  go_upto_region 2 with (go_at_call 127; refine HCP.out.mono ?_; rintro e w1 ⟨rfl, Fv1, hv1, ht1⟩)
  have HT1 := Lib.hid ht1
  clear HCP ht1
  by_cases h1 : e1 = 0
  rotate_left
  · have hq : (e1 != 0) = true := by simpa using h1
    have HVV := Lib.hid hv1
    clear hv1
    go_wp2_with fail
    go_ret
    refine ⟨by rw [HE.out, if_pos h1]; rfl, _, ?_, HT1.out⟩
    rw [HV.out, if_pos h1]
    exact HVV.out
  · subst h1
    obtain ⟨Fc, B, d, h⟩ := hv1.tight
    obtain ⟨bR, rfl⟩ := h.form (by rw [HXX.out]; omega)
    obtain ⟨c0, c1, -, -, -, -, -, -, -, -⟩ := h.cells
    have hC0 := Cs.new w1 31 #[.bool true, .bool xd, .int .i64 (b : Int), .int .i64 xs]
    have hb0 : Below w1.heap.size w1 (w1.alloc (.cells #[.bool true, .bool xd, .int .i64 (b : Int), .int .i64 xs] 31)) := (Below.refl _ w1).alloc (Nat.le_refl _) _
    obtain ⟨p0, p1, p2, p3⟩ := h.slotC HX.out
    have hu2 : (k : Int) < (V1.x.sl.length : Int) := by rw [HXX.out]; exact hu1
    have HH := Lib.hid h
    clear h hv1
    go_upto_region 5 with (fail)
    have HK := Lib.hid (HH.out.keep hb0)
    have HBB := Lib.hid hb0
    clear c0 c1 p0 p1 p2 p3
    clear hb0
    obtain ⟨t, ht⟩ : ∃ t, w1.heap.size = t := ⟨_, rfl⟩
    rw [ht] at hC0 ⊢
    have HTE := Lib.hid ht
    clear ht
    generalize (w1.alloc (.cells #[.bool true, .bool xd, .int .i64 (b : Int), .int .i64 xs] 31)) = w2 at *
    have y1 : w2.cell? ⟨t, 1, none⟩ = some (.bool xd) := hC0.cell 1
    have f1 := hC0.free 1
    have HC0 := Lib.hid hC0
    clear hC0
    go_upto_region 6 with (fail)
    have hC3 : Cs (w2.setCell ⟨t, 1, none⟩ (.bool false)) t 31 #[.bool true, .bool false, .int .i64 (b : Int), .int .i64 xs] := Cs.put (l := [_, _, _, _]) HC0.out _
    have hf3 := fr_set w2 t 1 (.bool false)
    have hX3 := HK.out.fr hf3 (fun j hj e => by subst e; have h1 := hj.2; have h2 := HTE.out; omega)
    have HT3 := Lib.hid (((Turn.of_below (F := fun j => Fv1 j ∧ j < w1.heap.size) HBB.out).set (b := t) (i := 1) (.inr (Nat.le_of_eq HTE.out)) (.bool false)).tg)
    clear hf3 HK HC0 y1 f1
    generalize (w2.setCell ⟨t, 1, none⟩ (.bool false)) = w3 at *
    have y0 : w3.cell? ⟨t, 0, none⟩ = some (.bool true) := hC3.cell 0
    have y1 : w3.cell? ⟨t, 1, none⟩ = some (.bool false) := hC3.cell 1
    have y2 : w3.cell? ⟨t, 2, none⟩ = some (.int .i64 (b : Int)) := hC3.cell 2
    have y3 : w3.cell? ⟨t, 3, none⟩ = some (.int .i64 xs) := hC3.cell 3
    have hl1 := HL1.out
    have hss := HSS.out
    have hs3 := setV_log C V1 k ⟨true, false, (b : Int), xs⟩
    have HST := Lib.hid (vsetR_any w3 _ C V1 k ⟨true, false, (b : Int), xs⟩ _ _ ⟨_, _, _, hX3⟩ hl1 (by rw [hss]; exact hl) (by rw [hss]; omega) (by dsimp only; omega) (fun e => by cases e) hn2 (by omega) (by omega))
    clear hC3 hX3 hl1 hss
    generalize V1.setV C k ⟨true, false, (b : Int), xs⟩ = V2 at *
    generalize V1.setE C k = e2 at *
    unfold Sl.v at HST
    dsimp only at HST
    go_upto_region 7 with (go_at_call 113; refine HST.out.mono ?_; rintro e w4 ⟨rfl, Fv4, hv4, ht4⟩)
    have HT4 := Lib.hid (HT1.out.trans (HT3.out.trans ht4))
    clear HST ht4 y0 y1 y2 y3
    by_cases h2 : e2 = 0
    rotate_left
    · have hq : (e2 != 0) = true := by simpa using h2
      have HVV := Lib.hid hv4
      clear hv4
      go_wp2_with fail
      go_ret
      refine ⟨by rw [HE.out, if_neg (fun e => e rfl), if_pos h2]; rfl, _, ?_, HT4.out⟩
      rw [HV.out, if_neg (fun e => e rfl), if_pos h2]
      exact HVV.out
    · subst h2
      obtain ⟨Fc, B, d, h⟩ := hv4
      obtain ⟨c0, -, -, -, -, -, -, -, -, -⟩ := h.cells
      have HX := Lib.hid h
      have HFL := Lib.hid (cmflush_any w4 Fc C.g C.s2 C.m C.n2 V2.S V2.ss (C.chunk : Int) V2.md V2.op h.cache (by omega))
      clear h
      go_wp2_with (go_at_call 64; refine HFL.out.mono ?_; rintro e w5 ⟨rfl, Fc3, hc3, ht3⟩)
      go_ret
      refine ⟨by rw [HE.out, if_neg (fun e => e rfl), if_neg (fun e => e rfl)]; rfl, _, ?_, HT4.out.trans (HX.out.wide ht3)⟩
      rw [HV.out, if_neg (fun e => e rfl), if_neg (fun e => e rfl)]
      exact ⟨_, _, _, HX.out.turn hc3 ht3⟩
theorem vclean_any (W : World) (Fv : Nat → Prop) (C : VC) (V : VS) (k b : Nat) (x : Sl) (h : VolAt W Fv C V) (hx : V.x.sl[k]? = some x) (hb : x.block = (b : Int)) (hv : x.valid = true) (hlen : V.x.sl.length = V.ss.length) (hl : V.ss.length ≤ 1024) (hb2 : b ≤ 16777215) (hch : C.chunk ≤ 127) (hn0 : C.n0 ≤ 65536) (hn1 : C.n1 ≤ 65536) (hn2 : C.n2 ≤ 65536)
    (hlog : V.S.log.length + C.chunk < 1000000) (hwr : V.S.wr + C.chunk ≤ 999999) :
    Calls Tryz.prog 86 #[.pointer (some ⟨C.v, 0, none⟩), .int .i64 (k : Int)] W (VolP W Fv C (.int .i64 (V.clE C k b x)) (V.clV C k b x)) := by
  obtain ⟨A, c, h⟩ := h.row
  exact (vcleanR_any W Fv C V k b x A c h hx hb hv hlen hl hb2 hch hn0 hn1 hn2 hlog hwr).mono VolPR.p
end Go.Proofs.YtogchafnnkajfaaGreat
namespace Go.Proofs.YtogchafnnkajfaaGreat
set_option linter.unusedVariables false
open Go.RowKit
attribute [local go_sem] Oper.semAt_some m_write m_read m_flush m_size
def put3v (W : World) (v a n : Nat) (clk : Int) (B : Option Addr) (m d : Nat) : World := (((W.setCell ⟨v, 1, none⟩ (.slice (some ⟨a, 0, none⟩) n n)).setCell ⟨v, 2, none⟩ (.int .i64 clk)).setCell ⟨v, 3, none⟩ (.slice B m d))
theorem fr_put3v (W : World) (v a n : Nat) (clk : Int) (B : Option Addr) (m d : Nat) : Fr (fun j => j = v) W (put3v W v a n clk B m d) := (((Fr.refl (fun j => j = v) W).set (.inl rfl) _).set (.inl rfl) _).set (.inl rfl) _
theorem VolIn.put {W : World} {Fc Fv : Nat → Prop} {C : VC} {V : VS} {A B : Option Addr} {c d k : Nat} (h : VolIn W Fc Fv C V A c B d) (hlt : ∀ j, Fv j → j < k) {x' : CS} {a d' : Nat} {B' : Option Addr}
    (hS : Cs W a 31 (scs x'.sl).toArray) (hB : Reads W B' (Go.Proofs.YtogchafnnkajfaaGreat.iv x'.ms)) (hka : k ≤ a) (hkB : ∀ p, B' = some p → k ≤ p.block ∧ p.block ≠ a) (hl : x'.sl.length ≤ 1024) :
    VolIn (put3v W C.v a x'.sl.length x'.clk B' x'.ms.length d') Fc (fun j => Fv j ∨ k ≤ j) C { V with x := x' } (some ⟨a, 0, none⟩) x'.sl.length B' d' := by
  have hf := fr_put3v W C.v a x'.sl.length x'.clk B' x'.ms.length d'
  have hvk := hlt _ h.iv
  have hva : a ≠ C.v := by omega
  have hrow : W.ownsRow 0 31 4 (.slice (some ⟨a, 0, none⟩) x'.sl.length x'.sl.length) x'.sl.length (scs x'.sl) := own_make hS (Nat.zero_le _) (Nat.le_refl _) (by unfold maxLen; omega) (by rw [scs_length]) (List.take_of_length_le (by rw [scs_length]; exact Nat.le_refl _)) (by rw [scs_length])
  refine ⟨h.cache.fr hf (fun j hj e => h.ov (e ▸ hj)), fun j hj => .inl (h.inC j hj), Cs.fr h.sp0 hf (fun e => h.v0 e.symm), Cs.fr h.sp1 hf (fun e => h.v1 e.symm), h.o0, h.o1, .inl h.i0, .inl h.i1, ?_, h.ov, .inl h.iv, h.v0, h.v1, own_fr hrow hf (fun b hb e => ?_), ?_, hB.fr hf (fun _ p hp e => ?_), ?_⟩
  · have h1 : Cs (W.setCell ⟨C.v, 1, none⟩ (.slice (some ⟨a, 0, none⟩) x'.sl.length x'.sl.length)) C.v 101 #[.pointer (some ⟨C.m, 0, none⟩), .slice (some ⟨a, 0, none⟩) x'.sl.length x'.sl.length, .int .i64 V.x.clk, .slice B V.x.ms.length d, .int .i64 (C.chunk : Int), spanV C.s0, spanV C.s1, putV V.pm, .bool V.stuck, .bool V.closed] := Cs.put (l := [_, _, _, _, _, _, _, _, _, _]) h.vol _
    have h2 : Cs ((W.setCell ⟨C.v, 1, none⟩ (.slice (some ⟨a, 0, none⟩) x'.sl.length x'.sl.length)).setCell ⟨C.v, 2, none⟩ (.int .i64 x'.clk)) C.v 101 #[.pointer (some ⟨C.m, 0, none⟩), .slice (some ⟨a, 0, none⟩) x'.sl.length x'.sl.length, .int .i64 x'.clk, .slice B V.x.ms.length d, .int .i64 (C.chunk : Int), spanV C.s0, spanV C.s1, putV V.pm, .bool V.stuck, .bool V.closed] := Cs.put (l := [_, _, _, _, _, _, _, _, _, _]) h1 _
    exact Cs.put (l := [_, _, _, _, _, _, _, _, _, _]) h2 _
  · obtain rfl : a = b := by simpa [Value.ownBlock] using hb
    exact hva e
  · intro b hb
    obtain rfl : a = b := by simpa [Value.ownBlock] using hb
    refine ⟨fun e => ?_, fun e => ?_, fun e => ?_, hva, .inr hka⟩
    · have := hlt _ (h.inC _ e); omega
    · have := hlt _ h.i0; omega
    · have := hlt _ h.i1; omega
  · have := (hkB p hp).1; omega
  · intro p hp hm
    obtain ⟨e1, e2⟩ := hkB p hp
    refine ⟨fun e => ?_, fun e => ?_, .inr e1, fun b hb => ?_, ?_⟩
    · have := hlt _ (h.inC _ e); omega
    · omega
    · obtain rfl : a = b := by simpa [Value.ownBlock] using hb
      exact e2
    · have hm' : (Go.Proofs.YtogchafnnkajfaaGreat.iv x'.ms).length ≠ 0 := fun e => hm (by
        unfold Go.Proofs.YtogchafnnkajfaaGreat.iv at e
        simpa using e)
      obtain ⟨b, o, e, hlt', -⟩ := hB hm'
      rw [hp] at e
      injection e with e
      subst e
      exact Nat.lt_of_lt_of_le hlt' hf.size
theorem VolIn.fv {W : World} {Fc Fv Fv2 : Nat → Prop} {C : VC} {V : VS} {A B : Option Addr} {c d : Nat} (h : VolIn W Fc Fv C V A c B d) (hf : ∀ j, Fv j → Fv2 j) : VolIn W Fc Fv2 C V A c B d :=
  ⟨h.cache, fun j hj => hf j (h.inC j hj), h.sp0, h.sp1, h.o0, h.o1, hf _ h.i0, hf _ h.i1, h.vol, h.ov, hf _ h.iv, h.v0, h.v1, h.row, fun b hb => ⟨(h.rowO b hb).1, (h.rowO b hb).2.1, (h.rowO b hb).2.2.1, (h.rowO b hb).2.2.2.1, hf _ (h.rowO b hb).2.2.2.2⟩, h.mis,
    fun p hp hm => ⟨(h.misO p hp hm).1, (h.misO p hp hm).2.1, hf _ (h.misO p hp hm).2.2.1, (h.misO p hp hm).2.2.2.1, (h.misO p hp hm).2.2.2.2⟩⟩
def bnd (p : Int × VS) (f : VS → Int × VS) : Int × VS := if p.1 = 0 then f p.2 else p
theorem bnd_no {p : Int × VS} {f : VS → Int × VS} (h : p.1 ≠ 0) : bnd p f = p := if_neg h
theorem bnd_ok {p : Int × VS} {f : VS → Int × VS} (h : p.1 = 0) : bnd p f = f p.2 := if_pos h
def VS.p1 (C : VC) (V : VS) (k : Nat) (x : Sl) : Int × VS := if x.dirty = true then (V.cbE C k x.block.toNat, V.cbV C k x.block.toNat) else (0, V)
def VS.p2 (C : VC) (V : VS) (k : Nat) (x : Sl) : Int × VS := bnd (V.p1 C k x) (fun V => if x.valid = true then (V.freeE C k, V.freeV C k) else (0, V))
def VS.p3 (C : VC) (V : VS) (k : Nat) (x : Sl) : Int × VS := bnd (V.p2 C k x) (fun V => (V.S.chkF 0, { V with S := V.S.flush 0 }))
def VS.f4 (C : VC) (V : VS) (k b : Nat) : Int × VS := ((vcp V.S 0 C.n0 (b * C.chunk) 1 C.n1 (k * C.chunk) C.chunk).1, { V with S := (vcp V.S 0 C.n0 (b * C.chunk) 1 C.n1 (k * C.chunk) C.chunk).2 })
def VS.p4 (C : VC) (V : VS) (k : Nat) (x : Sl) (b : Nat) : Int × VS := bnd (V.p3 C k x) (fun V => V.f4 C k b)
def VS.p5 (C : VC) (V : VS) (k : Nat) (x : Sl) (b : Nat) : Int × VS := bnd (V.p4 C k x b) (fun V => (V.S.chkF 1, { V with S := V.S.flush 1 }))
def VS.f6 (C : VC) (V : VS) (k b : Nat) : Int × VS := (V.S.swE 2 C.n2 (1 + (k : Int)), { V with S := V.S.swrite 2 C.n2 (1 + (k : Int)) (Sl.word ⟨true, false, (b : Int), 0⟩), ss := if V.S.swE 2 C.n2 (1 + (k : Int)) = 0 then V.ss.set k ⟨true, false, (b : Int), 0⟩ else V.ss })
def VS.p6 (C : VC) (V : VS) (k : Nat) (x : Sl) (b : Nat) : Int × VS := bnd (V.p5 C k x b) (fun V => V.f6 C k b)
def VS.p7 (C : VC) (V : VS) (k : Nat) (x : Sl) (b : Nat) : Int × VS := bnd (V.p6 C k x b) (fun V => (0, { V with x := V.x.place k (b : Int) }))
def VS.prm (C : VC) (V : VS) (b : Nat) : Int × VS := V.p7 C V.x.victim.toNat (V.x.at_ V.x.victim.toNat) b
theorem p7_6 {C : VC} {V : VS} {k : Nat} {x : Sl} {b : Nat} (h : (V.p6 C k x b).1 ≠ 0) : V.p7 C k x b = V.p6 C k x b := bnd_no h
theorem p7_5 {C : VC} {V : VS} {k : Nat} {x : Sl} {b : Nat} (h : (V.p5 C k x b).1 ≠ 0) : V.p7 C k x b = V.p5 C k x b := by
  have e : V.p6 C k x b = V.p5 C k x b := bnd_no h
  rw [p7_6 (by rw [e]; exact h), e]
theorem p7_4 {C : VC} {V : VS} {k : Nat} {x : Sl} {b : Nat} (h : (V.p4 C k x b).1 ≠ 0) : V.p7 C k x b = V.p4 C k x b := by
  have e : V.p5 C k x b = V.p4 C k x b := bnd_no h
  rw [p7_5 (by rw [e]; exact h), e]
theorem p7_3 {C : VC} {V : VS} {k : Nat} {x : Sl} {b : Nat} (h : (V.p3 C k x).1 ≠ 0) : V.p7 C k x b = V.p3 C k x := by
  have e : V.p4 C k x b = V.p3 C k x := bnd_no h
  rw [p7_4 (by rw [e]; exact h), e]
theorem p7_2 {C : VC} {V : VS} {k : Nat} {x : Sl} {b : Nat} (h : (V.p2 C k x).1 ≠ 0) : V.p7 C k x b = V.p2 C k x := by
  have e : V.p3 C k x = V.p2 C k x := bnd_no h
  rw [p7_3 (by rw [e]; exact h), e]
theorem p7_1 {C : VC} {V : VS} {k : Nat} {x : Sl} {b : Nat} (h : (V.p1 C k x).1 ≠ 0) : V.p7 C k x b = V.p1 C k x := by
  have e : V.p2 C k x = V.p1 C k x := bnd_no h
  rw [p7_2 (by rw [e]; exact h), e]
theorem p1_facts (C : VC) (V : VS) (k : Nat) (x : Sl) : (V.p1 C k x).2.x = V.x ∧ (V.p1 C k x).2.ss = V.ss ∧ (V.p1 C k x).2.S.log.length ≤ V.S.log.length + C.chunk ∧ (V.p1 C k x).2.S.wr ≤ V.S.wr + C.chunk := by
  unfold VS.p1
  split
  · have := cbV_log C V k x.block.toNat
    exact ⟨rfl, rfl, this.1, this.2⟩
  · exact ⟨rfl, rfl, by show V.S.log.length ≤ _; omega, by show V.S.wr ≤ _; omega⟩
theorem freeV_facts (C : VC) (V : VS) (k : Nat) (h : V.freeE C k = 0) : (V.freeV C k).x = V.x.clear k ∧ (V.freeV C k).ss.length = V.ss.length ∧ (V.freeV C k).S.log.length ≤ V.S.log.length + 1 ∧ (V.freeV C k).S.wr ≤ V.S.wr + 1 := by
  have hs := setV_log C V k nilS
  have hf := flush_log (V.setV C k nilS).S 2
  unfold VS.freeE at h
  unfold VS.freeV
  by_cases e : V.setE C k = 0
  · rw [if_pos e]
    have ex : (V.setV C k nilS).x = V.x.clear k := by unfold VS.setV; rw [if_pos e]; rfl
    have es : (V.setV C k nilS).ss.length = V.ss.length := by unfold VS.setV; rw [if_pos e, if_pos e, List.length_set]
    exact ⟨ex, es, Nat.le_trans hf.1 hs.1, by show (DS.flush _ 2).wr ≤ _; rw [hf.2]; exact hs.2⟩
  · rw [if_neg e] at h
    exact absurd h e
theorem p2_facts (C : VC) (V : VS) (k : Nat) (x : Sl) (hx : V.x.sl[k]? = some x) (hnl : x.valid = false → x = nilS) (h : (V.p2 C k x).1 = 0) : (V.p2 C k x).2.x = V.x.clear k ∧ (V.p2 C k x).2.ss.length = V.ss.length ∧ (V.p2 C k x).2.S.log.length ≤ V.S.log.length + C.chunk + 1 ∧ (V.p2 C k x).2.S.wr ≤ V.S.wr + C.chunk + 1 := by
  obtain ⟨f1, f2, f3, f4⟩ := p1_facts C V k x
  have e1 : (V.p1 C k x).1 = 0 := by
    rcases Classical.em ((V.p1 C k x).1 = 0) with e | e
    · exact e
    · have : V.p2 C k x = V.p1 C k x := bnd_no e
      rw [this] at h
      exact absurd h e
  have e2 : V.p2 C k x = if x.valid = true then ((V.p1 C k x).2.freeE C k, (V.p1 C k x).2.freeV C k) else (0, (V.p1 C k x).2) := bnd_ok e1
  rw [e2] at h ⊢
  rcases hv : x.valid with _ | _
  · rw [if_neg (by simp)]
    refine ⟨?_, by rw [f2], by dsimp only; omega, by dsimp only; omega⟩
    dsimp only
    rw [f1]
    have := hnl hv
    subst this
    unfold CS.clear
    have hk := (List.getElem?_eq_some_iff.1 hx).1
    have he := (List.getElem?_eq_some_iff.1 hx).2
    have : V.x.sl.set k nilS = V.x.sl := by
      rw [← he]
      exact List.set_getElem_self hk
    rw [this]
  · rw [hv, if_pos rfl] at h
    rw [if_pos rfl]
    obtain ⟨g1, g2, g3, g4⟩ := freeV_facts C _ k h
    refine ⟨by dsimp only; rw [g1, f1], by dsimp only; rw [g2, f2], by dsimp only; omega, by dsimp only; omega⟩
theorem victim_at {s : CS} (h : s.Ok) : ∃ (k : Nat) (x : Sl), s.victim = (k : Int) ∧ s.sl[k]? = some x := by
  have hl := h.len
  have hle : ∀ p, 0 ≤ least p s.sl → ∃ (k : Nat) (x : Sl), least p s.sl = (k : Int) ∧ s.sl[k]? = some x := by
    intro p hp
    rcases leastTo_range p s.sl s.sl.length (Nat.le_refl _) with hr | hr
    · unfold least at hp; omega
    · refine ⟨(least p s.sl).toNat, s.sl[(least p s.sl).toNat]'(by unfold least; omega), by omega, List.getElem?_eq_getElem (by unfold least; omega)⟩
  unfold CS.victim
  split
  · rename_i hi
    rcases idxOf_cases (fun x => !x.valid) s.sl with ⟨e, -⟩ | ⟨i, x, e, hx, -⟩
    · omega
    · exact ⟨i, x, e, hx⟩
  · split
    · rename_i h2
      exact hle _ h2
    · refine hle _ ?_
      rcases leastTo_range (fun _ => true) s.sl s.sl.length (Nat.le_refl _) with hr | hr
      · have := leastTo_no (fun _ => true) s.sl s.sl.length (Nat.le_refl _) hr 0 _ (by omega) (List.getElem?_eq_getElem (by omega))
        cases this
      · exact hr.1
theorem find_clear {s : CS} {b : Int} (h : s.find b = -1) (k : Nat) : (s.clear k).find b = -1 := by
  rcases idxOf_cases (fun x => x.valid && x.block == b) s.sl with ⟨-, hn⟩ | ⟨i, x, e, -⟩
  · refine idxOf_no _ _ (fun j y hy => ?_)
    rcases set_get (show (s.sl.set k nilS)[j]? = some y from hy) with ⟨-, rfl⟩ | ⟨-, hy⟩
    · rfl
    · exact hn j y hy
  · have : s.find b = (i : Int) := e
    omega
def PrS (W : World) (Fv : Nat → Prop) (C : VC) (p : Int × VS) (w : World) : Prop := p.1 = 0 ∧ ∃ Fv1, VolAt w Fv1 C p.2 ∧ Turn Fv Fv1 W w
def PrP (W : World) (Fv : Nat → Prop) (C : VC) (k : Nat) (p : Int × VS) (e : Ending) (w : World) : Prop := e = .returned (.tuple #[.int .i64 (if p.1 = 0 then (k : Int) else 0), .int .i64 p.1]) ∧ ∃ Fv1, VolAt w Fv1 C p.2 ∧ Turn Fv Fv1 W w
end Go.Proofs.YtogchafnnkajfaaGreat
namespace Go.Proofs.YtogchafnnkajfaaGreat
set_option linter.unusedVariables false
open Go.RowKit
attribute [local go_sem] Oper.semAt_some m_write m_read m_flush m_size
set_option maxRecDepth 100000 in
set_option maxHeartbeats 8000000 in
theorem vpromote_any (W : World) (Fv : Nat → Prop) (C : VC) (V : VS) (b k : Nat) (x : Sl) (h : VolAt W Fv C V) (hok : V.x.Ok) (hvic : V.x.victim = (k : Int)) (hx : V.x.sl[k]? = some x) (hlen : V.x.sl.length = V.ss.length) (hf : V.x.find (b : Int) = -1) (hnm : ¬ (b : Int) ∈ V.x.ms) (hb2 : b ≤ 16777215) (hclk : V.x.clk < 1099511627776)
    (hch : C.chunk ≤ 127) (hn0 : C.n0 ≤ 65536) (hn1 : C.n1 ≤ 65536) (hn2 : C.n2 ≤ 65536) (hlog : V.S.log.length + 2 * C.chunk + 2 < 1000000) (hwr : V.S.wr + 2 * C.chunk + 2 ≤ 999999) :
    Calls Tryz.prog 98 #[.pointer (some ⟨C.v, 0, none⟩), .int .i64 (b : Int)] W (PrP W Fv C k (V.p7 C k x b)) := by
  have hkl : k < V.x.sl.length := (List.getElem?_eq_some_iff.1 hx).1
  have hln := hok.len
  have hnl := hok.nl x (List.mem_of_getElem? hx)
  have hbl := hok.blk x (List.mem_of_getElem? hx)
  have hu1 : (k : Int) < (V.x.sl.length : Int) := by omega
  have HOK := Lib.hid hok
  have HX := Lib.hid hx
  have HNL := Lib.hid hnl
  have HBL := Lib.hid hbl
  have HF := Lib.hid hf
  have HNM := Lib.hid hnm
  have HVIC := Lib.hid hvic
  have HLEN := Lib.hid hlen
  have HW := Lib.hid h
  have hxd : x.valid = false → x.dirty = false := fun e => by rw [hnl e]; rfl
  have HXD := Lib.hid hxd
  obtain ⟨Fc, A, c, B, d, h0⟩ := h
  obtain ⟨bR, rfl⟩ := h0.form (by omega)
  have H0 := Lib.hid h0
  obtain ⟨c0, c1, c2, c3, c4, c5, c6, c7, c8, c9⟩ := h0.cells
  have HV := Lib.hid (cvictim_any W (some ⟨bR, 0, none⟩) B V.x.sl.length c V.x.ms.length d V.x hok rfl rfl (Reads.of_own h0.row) h0.mis)
  unfold csV at HV
  rw [hvic] at HV
  clear hok hx hf hnm hvic h0 hnl hbl hlen hxd c0 c4 c5 c6 c7 c8 c9
  go_enter Tryz.func98, Tryz.ntmps98
  go_upto_region 2 with (go_at_call 137; refine HV.out.mono ?_; rintro e w1 ⟨rfl, hb1⟩)
  clear HV c1 c2 c3
  have HH := Lib.hid (H0.out.keep hb1)
  have HT := Lib.hid (Turn.of_below (F := Fv) hb1)
  clear H0 hb1 HW
  obtain ⟨c0, c1, c2, c3, c4, c5, c6, c7, c8, c9⟩ := HH.out.cells
  obtain ⟨p0, p1, p2, p3⟩ := HH.out.slotC HX.out
  clear c0 c2 c3 c4 c5 c6 c7 c8 c9 p0 p2 p3
  have HP7 : Hid (∀ p, p = V.p7 C k x b → _) := fun p hp => hp
  go_upto_if 37 with (fail)
  go_cut [] (fun wx => PrS W Fv C (V.p1 C k x) wx)
  case first =>
    rcases hd : x.dirty with _ | _
    · rw [hd] at p1
      have HE : Hid (V.p1 C k x = (0, V)) := by show _ = _; unfold VS.p1; rw [hd]; rfl
      clear hd
      go_wp2_with fail
      go_meet
      case rel =>
        unfold PrS
        rw [HE.out]
        exact ⟨rfl, Fv, ⟨_, _, _, _, _, HH.out⟩, HT.out⟩
    · rw [hd] at p1
      have hxv : x.valid = true := by
        rcases hv : x.valid with _ | _
        · rw [HXD.out hv] at hd; cases hd
        · rfl
      have hbb := (HBL.out hxv).1
      have HE : Hid (V.p1 C k x = (V.cbE C k x.block.toNat, V.cbV C k x.block.toNat)) := by show _ = _; unfold VS.p1; rw [hd]; rfl
      have HCP := Lib.hid (vcopy_any w1 Fv C V k x.block.toNat x ⟨_, _, _, _, _, HH.out⟩ HX.out (by omega) (by omega) (by omega) hch hn0 hn1 (by omega) (by omega))
      clear hd hxv hbb
      generalize V.cbE C k x.block.toNat = e1 at *
      generalize V.cbV C k x.block.toNat = V1 at *
      go_upto_region 6 with (go_at_call 127; refine HCP.out.mono ?_; rintro e w2 ⟨rfl, Fv2, hv2, ht2⟩)
      have HV2 := Lib.hid hv2
      have HT2 := Lib.hid (HT.out.trans ht2)
      clear HCP hv2 ht2 c1 p1
      by_cases h1 : e1 = 0
      rotate_left
      · have hq : (e1 != 0) = true := by simpa using h1
        go_wp2_with fail
        go_ret2
        unfold PrP
        rw [p7_1 (by rw [HE.out]; exact h1), HE.out]
        dsimp only
        rw [if_neg h1]
        exact ⟨rfl, Fv2, HV2.out, HT2.out⟩
      · subst h1
        go_wp2_with fail
        go_meet
        case rel =>
          unfold PrS
          rw [HE.out]
          exact ⟨rfl, Fv2, HV2.out, HT2.out⟩
  case rest =>
    unfold PrS at hcut
    obtain ⟨h1, Fv1, hv1, ht1⟩ := hcut
    clear HH HT c1 p1
    obtain ⟨f1, f2, f3, f4⟩ := p1_facts C V k x
    have HE2 : Hid (V.p2 C k x = if x.valid = true then ((V.p1 C k x).2.freeE C k, (V.p1 C k x).2.freeV C k) else (0, (V.p1 C k x).2)) := bnd_ok h1
    generalize (V.p1 C k x).2 = V1 at *
    have HX1 := Lib.hid (show V1.x.sl[k]? = some x by rw [f1]; exact HX.out)
    have hu2 : (k : Int) < (V1.x.sl.length : Int) := by rw [f1]; exact hu1
    have HL1 : Hid (V1.x.sl.length = V1.ss.length) := by show _ = _; rw [f1, f2]; exact HLEN.out
    have HLL : Hid (V1.ss.length ≤ 1024 ∧ k < V1.ss.length) := by
      have := HLEN.out
      rw [← f2] at this
      exact ⟨by omega, by omega⟩
    obtain ⟨Fc, A, c', B', d', h⟩ := hv1.tight
    obtain ⟨bR1, rfl⟩ := h.form (by rw [f1]; omega)
    have HH := Lib.hid h
    have HT := Lib.hid ht1
    obtain ⟨c0, c1, c2, c3, c4, c5, c6, c7, c8, c9⟩ := h.cells
    obtain ⟨p0, p1, p2, p3⟩ := h.slotC HX1.out
    clear c0 c2 c3 c4 c5 c6 c7 c8 c9 p1 p2 p3 h ht1 hv1 h1 f1 f2
    go_upto_if 53 with (fail)
    go_cut [] (fun wx => PrS W Fv C (V.p2 C k x) wx)
    case first =>
      rcases hd : x.valid with _ | _
      · rw [hd] at p0
        have HE : Hid (V.p2 C k x = (0, V1)) := by show _ = _; rw [HE2.out, hd]; rfl
        clear hd
        go_wp2_with fail
        go_meet
        case rel =>
          unfold PrS
          rw [HE.out]
          exact ⟨rfl, Fv1, ⟨_, _, _, _, _, HH.out.fv (fun j hj => hj.1)⟩, HT.out⟩
      · rw [hd] at p0
        have HE : Hid (V.p2 C k x = (V1.freeE C k, V1.freeV C k)) := by show _ = _; rw [HE2.out, hd]; rfl
        have HCP := Lib.hid (vfree_any wc _ C V1 k ⟨_, _, _, _, _, HH.out⟩ HL1.out HLL.out.1 HLL.out.2 hn2 (by omega) (by omega))
        clear hd
        generalize V1.freeE C k = e1 at *
        generalize V1.freeV C k = V2 at *
        go_upto_region 10 with (go_at_call 61; refine HCP.out.mono ?_; rintro e w2 ⟨rfl, Fv2, hv2, ht2⟩)
        have HV2 := Lib.hid hv2
        have HT2 := Lib.hid (HT.out.trans ht2.tg)
        clear HCP hv2 ht2 c1 p0
        by_cases h1 : e1 = 0
        rotate_left
        · have hq : (e1 != 0) = true := by simpa using h1
          go_wp2_with fail
          go_ret2
          unfold PrP
          rw [p7_2 (by rw [HE.out]; exact h1), HE.out]
          dsimp only
          rw [if_neg h1]
          exact ⟨rfl, Fv2, HV2.out, HT2.out⟩
        · subst h1
          go_wp2_with fail
          go_meet
          case rel =>
            unfold PrS
            rw [HE.out]
            exact ⟨rfl, Fv2, HV2.out, HT2.out⟩
    case rest =>
      unfold PrS at hcut
      obtain ⟨h2, Fv2, hv2, ht2⟩ := hcut
      clear HH HT c1 p0 HE2 HX1 HL1 HLL hu2 f3 f4
      obtain ⟨g1, g2, g3, g4⟩ := p2_facts C V k x HX.out HNL.out h2
      have HE3 : Hid (V.p3 C k x = (((V.p2 C k x).2.S.chkF 0, { (V.p2 C k x).2 with S := (V.p2 C k x).2.S.flush 0 }) : Int × VS)) := bnd_ok h2
      generalize (V.p2 C k x).2 = V2 at *
      have HX2 := Lib.hid g1
      have HS2 := Lib.hid g2
      obtain ⟨Fc, A, c', B', d', h⟩ := hv2
      obtain ⟨c0, c1, c2, c3, c4, c5, c6, c7, c8, c9⟩ := h.cells
      have HH := Lib.hid h
      have HT := Lib.hid ht2
      have HFL := Lib.hid (csflush_any wc Fc C.g C.s2 C.m C.n2 C.s0 0 C.n0 V2.S V2.ss (C.chunk : Int) V2.md V2.op h.cache h.sp0 h.o0 (by omega))
      clear h ht2 h2 g1 g2 c0 c1 c2 c3 c4 c6 c7 c8 c9
      have hfl := flush_log V2.S 0
      go_upto_region 13 with (go_at_call 189; refine HFL.out.mono ?_; rintro e w3 ⟨rfl, Fc3, hc3, ht3⟩)
      have hx3 := HH.out.turn hc3 ht3
      have HT3 := Lib.hid (HT.out.trans (HH.out.wide ht3))
      have HE3' : Hid (V.p3 C k x = (V2.S.chkF 0, { V2 with S := V2.S.flush 0 })) := HE3.out
      have HX3 : Hid (({ V2 with S := V2.S.flush 0 } : VS).x = V.x.clear k ∧ ({ V2 with S := V2.S.flush 0 } : VS).ss.length = V.ss.length ∧ ({ V2 with S := V2.S.flush 0 } : VS).S.log.length ≤ V.S.log.length + C.chunk + 1 ∧ ({ V2 with S := V2.S.flush 0 } : VS).S.wr ≤ V.S.wr + C.chunk + 1) := ⟨HX2.out, HS2.out, Nat.le_trans hfl.1 g3, by show (V2.S.flush 0).wr ≤ _; rw [hfl.2]; exact g4⟩
      have HH3 : Hid (VolIn w3 Fc3 _ C { V2 with S := V2.S.flush 0 } A c' B' d') := hx3
      clear hx3 hc3 ht3 HFL HH HT HE3 HX2 HS2 hfl g3 g4 c5
      generalize V2.S.chkF 0 = e3 at *
      generalize ({ V2 with S := V2.S.flush 0 } : VS) = V3 at *
      by_cases h3 : e3 = 0
      rotate_left
      · have hq : (e3 != 0) = true := by simpa using h3
        go_wp2_with fail
        go_ret2
        unfold PrP
        rw [p7_3 (by rw [HE3'.out]; exact h3), HE3'.out]
        dsimp only
        rw [if_neg h3]
        exact ⟨rfl, _, ⟨_, _, _, _, _, HH3.out⟩, HT3.out⟩
      subst h3
      have HE4 : Hid (V.p4 C k x b = V3.f4 C k b) := (bnd_ok (p := V.p3 C k x) (by rw [HE3'.out])).trans (by rw [HE3'.out])
      have hmul1 : k * C.chunk ≤ 1024 * 127 := Nat.mul_le_mul (by omega) hch
      have hmul2 : b * C.chunk ≤ 16777215 * 127 := Nat.mul_le_mul hb2 hch
      have em1 : IntKind.i64.wrap ((k : Int) * (C.chunk : Int)) = ((k * C.chunk : Nat) : Int) := by
        rw [← Int.natCast_mul]; exact IntWalk.i64_in _ (by omega)
      have em2 : IntKind.i64.wrap ((b : Int) * (C.chunk : Int)) = ((b * C.chunk : Nat) : Int) := by
        rw [← Int.natCast_mul]; exact IntWalk.i64_in _ (by omega)
      unfold VS.f4 at HE4
      have HLG := Lib.hid (vcp_log V3.S 0 C.n0 (b * C.chunk) 1 C.n1 (k * C.chunk))
      have HST := Lib.hid (vcp_stuck V3.S 0 C.n0 (b * C.chunk) 1 C.n1 (k * C.chunk))
      generalize k * C.chunk = ka at *
      generalize b * C.chunk = ba at *
      have HSU : Hid (∀ i, vcp V3.S 0 C.n0 ba 1 C.n1 ka (i + 1) = if (vcp V3.S 0 C.n0 ba 1 C.n1 ka i).1 ≠ 0 then vcp V3.S 0 C.n0 ba 1 C.n1 ka i else vcpOne (vcp V3.S 0 C.n0 ba 1 C.n1 ka i).2 0 C.n0 ba 1 C.n1 ka i) := fun i => rfl
      have HLW : Hid (V.S.log.length + 2 * C.chunk + 2 < 1000000 ∧ V.S.wr + 2 * C.chunk + 2 ≤ 999999) := ⟨hlog, hwr⟩
      have HV3 : Hid (VolAt w3 _ C { V3 with S := V3.S }) := ⟨_, _, _, _, _, HH3.out⟩
      obtain ⟨c0, c1, c2, c3, c4, c5, c6, c7, c8, c9⟩ := HH3.out.cells
      clear c0 c1 c2 c3 c5 c6 c7 c8 c9 hlog hwr HE3'
      go_wp2_with fail
      clear c4
      go_loopw [73] (fun z wr => ∃ i : Nat, z = .int .i64 i ∧ i ≤ C.chunk ∧ (vcp V3.S 0 C.n0 ba 1 C.n1 ka i).1 = 0 ∧ ∃ Fv', VolAt wr Fv' C { V3 with S := (vcp V3.S 0 C.n0 ba 1 C.n1 ka i).2 } ∧ Turn Fv Fv' W wr) (fun z _ => C.chunk - (intOf z).toNat)
      case atStart => exact ⟨0, rfl, Nat.zero_le _, rfl, _, HV3.out, HT3.out⟩
      case round =>
        clear HV3 HH3 HT3
        obtain ⟨i, rfl, hi, hz, Fv', hv, ht⟩ := hrel
        have HZ := Lib.hid hz
        have HT := Lib.hid ht
        have hl1 := HLG.out i
        have hlx := HX3.out.2.2
        have hlw := HLW.out
        obtain ⟨L, hL⟩ : ∃ L, vcp V3.S 0 C.n0 ba 1 C.n1 ka i = L := ⟨_, rfl⟩
        rw [hL] at hv hl1 HZ
        have HL := Lib.hid hL
        obtain ⟨eL, SL⟩ := L
        dsimp only at hv hl1 HZ
        obtain ⟨Fc, A, c', B, d', h⟩ := hv
        obtain ⟨c0, c1, c2, c3, c4, c5, c6, c7, c8, c9⟩ := h.cells
        have H := Lib.hid h
        clear hz ht h hL c0 c1 c2 c3 c7 c8 c9
        by_cases hlt : i < C.chunk
        · have u1 : (i : Int) < (C.chunk : Int) := by omega
          have e1 : IntKind.i64.wrap ((i : Int) + 1) = ((i + 1 : Nat) : Int) := by rw [IntWalk.i64_in _ (by omega)]; rfl
          have e2 : IntKind.i64.wrap ((ka : Int) + (i : Int)) = (ka : Int) + (i : Int) := IntWalk.i64_in _ (by omega)
          have e3 : IntKind.i64.wrap ((ba : Int) + (i : Int)) = (ba : Int) + (i : Int) := IntWalk.i64_in _ (by omega)
          have HRD : Hid (∀ w, Below wr.heap.size wr w → _) := fun w hw => cread_any w Fc C.g C.s2 C.m C.n2 C.s0 0 C.n0 SL V3.ss (C.chunk : Int) V3.md V3.op ((ba : Int) + (i : Int)) (H.out.cache.keep hw) (H.out.sp0.below hw H.out.sp0.lt) hn0
          go_upto_region 18 with (fail)
          have kk : wr.drew.cell? ⟨C.v, 4, none⟩ = some (.int .i64 (C.chunk : Int)) ∧ wr.drew.cell? ⟨C.v, 5, none⟩ = some (.iface 176 (.pointer (some ⟨C.s0, 0, none⟩))) := ⟨c4, c5⟩
          go_region_held3 (fun w' => w'.cell? ⟨C.v, 4, none⟩ = some (.int .i64 (C.chunk : Int)) ∧ w'.cell? ⟨C.v, 5, none⟩ = some (.iface 176 (.pointer (some ⟨C.s0, 0, none⟩))))
            (first | with_reducible exact kk | with_reducible exact z1)
            (first | (go_at_call 190; refine (HRD.out wr.drew (Below.refl _ wr).drew).mono ?_; rintro e w2 ⟨rfl, hb2⟩; have z1 : w2.cell? ⟨C.v, 4, none⟩ = some (.int .i64 (C.chunk : Int)) ∧ w2.cell? ⟨C.v, 5, none⟩ = some (.iface 176 (.pointer (some ⟨C.s0, 0, none⟩))) := ⟨(hb2.cell (p := ⟨C.v, 4, none⟩) H.out.vol.lt).trans c4, (hb2.cell (p := ⟨C.v, 5, none⟩) H.out.vol.lt).trans c5⟩))
          have HX2 := Lib.hid (H.out.keep ((Below.refl _ wr).drew.trans hb2))
          have HT2 := Lib.hid (HT.out.trans (Turn.of_below (F := Fv') ((Below.refl _ wr).drew.trans hb2)))
          have hlt2 : SL.sread 0 C.n0 ((ba : Int) + (i : Int)) < 18446744073709551616 := H.out.cache.lt
          obtain ⟨hq4, hq5⟩ := z1
          obtain ⟨-, -, -, -, c4, c5, c6, -, -, -⟩ := HX2.out.cells
          clear hb2 kk hq4 hq5 HRD
          have hS1 := HSU.out i
          rw [HL.out] at hS1
          unfold vcpOne at hS1
          rw [if_neg (by dsimp only; rw [HZ.out]; exact fun e => e rfl)] at hS1
          dsimp only at hS1
          by_cases hr : SL.sE 0 C.n0 ((ba : Int) + (i : Int)) = 0
          rotate_left
          · have hr2 : (SL.sE 0 C.n0 ((ba : Int) + (i : Int)) == 0) = false := by simpa using hr
            have hr3 : (SL.sE 0 C.n0 ((ba : Int) + (i : Int)) != 0) = true := by simpa using hr
            rw [if_pos hr] at hS1
            have HS1 := Lib.hid hS1
            clear hS1
            go_wp2_with fail
            go_ret2
            have hst := HST.out (i + 1) (by rw [HS1.out]; exact hr) (C.chunk - (i + 1))
            rw [show i + 1 + (C.chunk - (i + 1)) = C.chunk by omega, HS1.out] at hst
            have h4 := HE4.out
            rw [hst] at h4
            unfold PrP
            rw [p7_4 (by rw [h4]; exact hr), h4]
            dsimp only
            rw [if_neg hr]
            exact ⟨rfl, Fv', ⟨_, _, _, _, _, HX2.out⟩, HT2.out⟩
          · rw [if_neg (by rw [hr]; exact fun e => e rfl)] at hS1
            have HS1 := Lib.hid hS1
            have HWT : Hid (∀ w, Below w2.heap.size w2 w → _) := fun w hw => cwrite_any w Fc C.g C.s2 C.m C.n2 C.s1 1 C.n1 SL V3.ss (C.chunk : Int) V3.md V3.op ((ka : Int) + (i : Int)) (SL.sread 0 C.n0 ((ba : Int) + (i : Int))) (HX2.out.cache.keep hw) (HX2.out.sp1.below hw HX2.out.sp1.lt) HX2.out.o1 hn1 hlt2 (by omega) (by omega)
            clear hS1
            rw [hr]
            go_upto_region 20 with (fail)
            go_still_tail 16, (by kernel_rfl)
            change wpList _ _ _ _ _ w2.drew
            clear c4 c5 c6
            go_upto_region 21 with (go_at_call 192; refine (HWT.out w2.drew (Below.refl _ w2).drew).mono ?_; rintro e w3 ⟨rfl, Fc3, hc3, ht3⟩)
            have htd : Turn Fc Fc3 w2 w3 := (Turn.of_below (F := Fc) (Below.refl _ w2).drew).trans ht3
            have HX3' := Lib.hid (HX2.out.turn hc3 htd)
            have HT3 := Lib.hid (HT2.out.trans (HX2.out.wide htd))
            clear hc3 ht3 htd HWT
            generalize hwv : SL.swE 1 C.n1 ((ka : Int) + (i : Int)) = we at *
            clear hwv
            by_cases hw : we = 0
            rotate_left
            · have hw2 : (we != 0) = true := by simpa using hw
              go_wp2_with fail
              go_ret2
              have hst := HST.out (i + 1) (by rw [HS1.out]; exact hw) (C.chunk - (i + 1))
              rw [show i + 1 + (C.chunk - (i + 1)) = C.chunk by omega, HS1.out] at hst
              have h4 := HE4.out
              rw [hst] at h4
              unfold PrP
              rw [p7_4 (by rw [h4]; exact hw), h4]
              dsimp only
              rw [if_neg hw]
              exact ⟨rfl, _, ⟨_, _, _, _, _, HX3'.out⟩, HT3.out⟩
            · subst hw
              go_wp2_with fail
              go_roundw
              case rel => exact ⟨i + 1, by go_num, by omega, by rw [HS1.out], _, ⟨_, _, _, _, _, by rw [HS1.out]; exact HX3'.out⟩, HT3.out⟩
              case measure => simp [intOf]; omega
        · obtain rfl : i = C.chunk := by omega
          have hnl : ¬ (C.chunk : Int) < (C.chunk : Int) := by omega
          have hE4 : V.p4 C k x b = (eL, { V3 with S := SL }) := by rw [HE4.out, HL.out]
          have HE5 : Hid (V.p5 C k x b = (SL.chkF 1, { V3 with S := SL.flush 1 })) := (bnd_ok (p := V.p4 C k x b) (by rw [hE4]; exact HZ.out)).trans (by rw [hE4])
          have HFL := Lib.hid (csflush_any wr Fc C.g C.s2 C.m C.n2 C.s1 1 C.n1 SL V3.ss (C.chunk : Int) V3.md V3.op H.out.cache H.out.sp1 H.out.o1 (by omega))
          have hfl := flush_log SL 1
          clear hE4 c4 c5
          go_upto_region 25 with (go_at_call 189; refine HFL.out.mono ?_; rintro e w2 ⟨rfl, Fc3, hc3, ht3⟩)
          have hx3 := H.out.turn hc3 ht3
          have HT3 := Lib.hid (HT.out.trans (H.out.wide ht3))
          have HX5 : Hid (({ V3 with S := SL.flush 1 } : VS).x = V.x.clear k ∧ ({ V3 with S := SL.flush 1 } : VS).ss.length = V.ss.length ∧ ({ V3 with S := SL.flush 1 } : VS).S.log.length ≤ V.S.log.length + 2 * C.chunk + 1 ∧ ({ V3 with S := SL.flush 1 } : VS).S.wr ≤ V.S.wr + 2 * C.chunk + 1) := ⟨HX3.out.1, HX3.out.2.1, by have := hfl.1; show (SL.flush 1).log.length ≤ _; omega, by show (SL.flush 1).wr ≤ _; rw [hfl.2]; omega⟩
          have HH5 : Hid (VolIn w2 Fc3 _ C { V3 with S := SL.flush 1 } A c' B d') := hx3
          clear hx3 hc3 ht3 HFL hfl c6 HX3 H HT HL HLG HST HSU HE4 HZ
          generalize SL.chkF 1 = e5 at *
          generalize ({ V3 with S := SL.flush 1 } : VS) = V5 at *
          by_cases h5 : e5 = 0
          rotate_left
          · have hq : (e5 != 0) = true := by simpa using h5
            go_wp2_with fail
            go_ret2
            unfold PrP
            rw [p7_5 (by rw [HE5.out]; exact h5), HE5.out]
            dsimp only
            rw [if_neg h5]
            exact ⟨rfl, _, ⟨_, _, _, _, _, HH5.out⟩, HT3.out⟩
          subst h5
          have HE6 : Hid (V.p6 C k x b = V5.f6 C k b) := (bnd_ok (p := V.p5 C k x b) (by rw [HE5.out])).trans (by rw [HE5.out])
          unfold VS.f6 at HE6
          obtain ⟨c0, c1, c2, c3, c4, c5, c6, c7, c8, c9⟩ := HH5.out.cells
          have hlx := HX5.out.2
          have hle := HLEN.out
          have HMP := Lib.hid (mput_ok w2 Fc3 C.g C.s2 C.m C.n2 V5.S V5.ss (C.chunk : Int) V5.md V5.op k ⟨true, false, (b : Int), 0⟩ HH5.out.cache (by omega) (by omega) (by dsimp only; omega) (fun e => by cases e) hn2 (by omega) (by omega))
          unfold Sl.v at HMP
          dsimp only at HMP
          clear c1 c2 c3 c4 c5 c6 c7 c8 c9 HE5
          go_upto_region 28 with (go_at_call 138; refine HMP.out.mono ?_; rintro e w3 ⟨rfl, Fc4, hc4, ht4⟩)
          have hx6 := HH5.out.turn hc4 ht4
          have HT6 := Lib.hid (HT3.out.trans (HH5.out.wide ht4))
          have hlg6 := swrite_log V5.S 2 C.n2 (1 + (k : Int)) (Sl.word ⟨true, false, (b : Int), 0⟩)
          have HH6 : Hid (VolAt w3 _ C { V5 with S := V5.S.swrite 2 C.n2 (1 + (k : Int)) (Sl.word ⟨true, false, (b : Int), 0⟩), ss := if V5.S.swE 2 C.n2 (1 + (k : Int)) = 0 then V5.ss.set k ⟨true, false, (b : Int), 0⟩ else V5.ss }) := ⟨_, _, _, _, _, hx6⟩
          have HX6 : Hid (({ V5 with S := V5.S.swrite 2 C.n2 (1 + (k : Int)) (Sl.word ⟨true, false, (b : Int), 0⟩), ss := if V5.S.swE 2 C.n2 (1 + (k : Int)) = 0 then V5.ss.set k ⟨true, false, (b : Int), 0⟩ else V5.ss } : VS).x = V.x.clear k) := HX5.out.1
          clear hx6 hc4 ht4 HMP HH5 HT3 hlg6 hlx HX5 c0 hle
          generalize ({ V5 with S := V5.S.swrite 2 C.n2 (1 + (k : Int)) (Sl.word ⟨true, false, (b : Int), 0⟩), ss := if V5.S.swE 2 C.n2 (1 + (k : Int)) = 0 then V5.ss.set k ⟨true, false, (b : Int), 0⟩ else V5.ss } : VS) = V6 at *
          generalize V5.S.swE 2 C.n2 (1 + (k : Int)) = e6 at *
          by_cases h6 : e6 = 0
          rotate_left
          · have hq : (e6 != 0) = true := by simpa using h6
            go_wp2_with fail
            go_ret2
            unfold PrP
            rw [p7_6 (by rw [HE6.out]; exact h6), HE6.out]
            dsimp only
            rw [if_neg h6]
            exact ⟨rfl, _, HH6.out, HT6.out⟩
          subst h6
          have HE7 : Hid (V.p7 C k x b = (0, { V6 with x := V6.x.place k (b : Int) })) := (bnd_ok (p := V.p6 C k x b) (by rw [HE6.out])).trans (by rw [HE6.out])
          obtain ⟨Fg, hhg, htg⟩ : ∃ Fg, VolAt w3 Fg C V6 ∧ Turn Fv Fg W w3 := ⟨_, HH6.out, HT6.out⟩
          have HT6 := Lib.hid htg
          obtain ⟨Fc, A, c', B', d', h⟩ := hhg.tight
          clear hhg htg
          obtain ⟨c0, c1, c2, c3, c4, c5, c6, c7, c8, c9⟩ := h.cells
          have hok6 : V6.x.Ok := by rw [HX6.out]; exact HOK.out.clear k
          have hl6 : V6.x.sl.length = V.x.sl.length := by rw [HX6.out]; exact List.length_set
          have hx6 : V6.x.sl[k]? = some nilS := by rw [HX6.out]; exact List.getElem?_set_self hkl
          have hf6 : V6.x.find (b : Int) = -1 := by rw [HX6.out]; exact find_clear HF.out k
          have hnm6 : ¬ (b : Int) ∈ V6.x.ms := by rw [HX6.out]; exact HNM.out
          have hclk6 : V6.x.clk < 1099511627776 := by rw [HX6.out]; exact hclk
          have HPL := Lib.hid (cplace_any w3 A B' V6.x.sl.length c' V6.x.ms.length d' V6.x hok6 rfl rfl (Reads.of_own h.row) h.mis k nilS hx6 rfl (b : Int) (by omega) hf6 hnm6 hclk6)
          have HLP : Hid ((V6.x.place k (b : Int)).sl.length ≤ 1024) := by show (V6.x.sl.set k _).length ≤ 1024; rw [List.length_set, hl6]; omega
          have HH := Lib.hid h
          unfold csV at HPL
          clear c0 c4 c5 c6 c7 c8 c9 h hok6 hl6 hx6 hf6 hnm6 hclk6 HE6 HX6
          go_upto_region 31 with (go_at_call 139; refine HPL.out.mono ?_; rintro e w4 ⟨v, rfl, ⟨a, n', m', B2, d2, rfl, rfl, rfl, hS, hBr, hka, hkB⟩, hb4⟩; have h7 := HH.out.keep hb4; obtain ⟨-, c1, c2, c3, -, -, -, -, -, -⟩ := h7.cells; have f1 := h7.vol.free 1; have f2 := h7.vol.free 2; have f3 := h7.vol.free 3; have HH7 := Lib.hid h7; have HS := Lib.hid hS; have HBr := Lib.hid hBr; have HKB := Lib.hid hkB; have HB4 := Lib.hid hb4; clear h7 hS hBr hkB hb4; unfold csV)
          have hfin := HH7.out.put (k := w3.heap.size) (fun j hj => hj.2) HS.out HBr.out hka HKB.out HLP.out (d' := d2)
          have htf : Turn (fun j => Fg j ∧ j < w3.heap.size) (fun j => (Fg j ∧ j < w3.heap.size) ∨ w3.heap.size ≤ j) w3 (put3v w4 C.v a (V6.x.place k (b : Int)).sl.length (V6.x.place k (b : Int)).clk B2 (V6.x.place k (b : Int)).ms.length d2) := ⟨((Fr.of_below HB4.out).trans ((fr_put3v w4 C.v a (V6.x.place k (b : Int)).sl.length (V6.x.place k (b : Int)).clk B2 (V6.x.place k (b : Int)).ms.length d2).mono (fun j _ hj => by subst hj; exact HH7.out.iv))), fun j hj => hj.elim .inl .inr⟩
          have HFIN := Lib.hid hfin
          have HTF := Lib.hid (HT6.out.trans htf.tg)
          clear hfin htf c1 c2 c3 f1 f2 f3
          change Code.wp _ _ _ _ (put3v w4 C.v a (V6.x.place k (b : Int)).sl.length (V6.x.place k (b : Int)).clk B2 (V6.x.place k (b : Int)).ms.length d2)
          generalize put3v w4 C.v a (V6.x.place k (b : Int)).sl.length (V6.x.place k (b : Int)).clk B2 (V6.x.place k (b : Int)).ms.length d2 = w5 at *
          go_wp2_with fail
          go_ret2
          unfold PrP
          rw [HE7.out]
          dsimp only
          rw [if_pos rfl]
          exact ⟨rfl, _, ⟨_, _, _, _, _, HFIN.out⟩, HTF.out⟩
end Go.Proofs.YtogchafnnkajfaaGreat
namespace Go.Proofs.YtogchafnnkajfaaGreat
set_option linter.unusedVariables false
open Go.RowKit
attribute [local go_sem] Oper.semAt_some m_write m_read m_flush m_size
theorem div_wrap (a b : Nat) (h : a ≤ 1000000000000) : IntKind.i64.wrap ((a : Int) / (b : Int)) = ((a / b : Nat) : Int) := by
  have hle : a / b ≤ a := Nat.div_le_self a b
  rw [← Int.natCast_ediv]
  generalize a / b = q at *
  rw [IntWalk.i64_in _ (by omega)]
set_option maxHeartbeats 1000000 in
theorem vsize_any (W : World) (Fv : Nat → Prop) (C : VC) (V : VS) (h : VolAt W Fv C V) :
    Calls Tryz.prog 46 #[.pointer (some ⟨C.v, 0, none⟩)] W fun e w' => e = .returned (.int .i64 (C.n0 : Int)) ∧ W = w' := by
  obtain ⟨Fc, A, c, B, d, h⟩ := h
  obtain ⟨-, -, -, -, -, c5, -, -, -, -⟩ := h.cells
  have HS := Lib.hid h.sp0
  clear h
  go_enter Tryz.func46, Tryz.ntmps46
  go_wp2_with (go_at_call 191; refine (ssize_any W C.s0 C.g 0 C.n0 HS.out).mono ?_; rintro e w' ⟨rfl, rfl⟩)
  go_ret
  exact ⟨rfl, rfl⟩
def VS.slt (C : VC) (V : VS) (a : Nat) : Int × Int × VS :=
  if C.n0 / C.chunk ≤ a / C.chunk then (-1, 0, V)
  else if 0 ≤ V.x.find ((a / C.chunk : Nat) : Int) then (V.x.find ((a / C.chunk : Nat) : Int), 0, { V with x := V.x.touch (V.x.find ((a / C.chunk : Nat) : Int)).toNat })
  else if (V.x.miss ((a / C.chunk : Nat) : Int)).2 = false then (-1, 0, { V with x := (V.x.miss ((a / C.chunk : Nat) : Int)).1 })
  else (if ((({ V with x := (V.x.miss ((a / C.chunk : Nat) : Int)).1 } : VS)).prm C (a / C.chunk)).1 = 0 then (V.x.miss ((a / C.chunk : Nat) : Int)).1.victim else 0, (({ V with x := (V.x.miss ((a / C.chunk : Nat) : Int)).1 } : VS)).prm C (a / C.chunk))
def SlP (W : World) (Fv : Nat → Prop) (C : VC) (q : Int × Int × VS) (e : Ending) (w : World) : Prop := e = .returned (.tuple #[.int .i64 q.1, .int .i64 q.2.1]) ∧ ∃ Fv', VolAt w Fv' C q.2.2 ∧ Turn Fv Fv' W w
theorem find_at {s : CS} {b : Int} (h : 0 ≤ s.find b) : ∃ (k : Nat) (x : Sl), s.find b = (k : Int) ∧ s.sl[k]? = some x ∧ x.valid = true ∧ x.block = b := by
  rcases idxOf_cases (fun x => x.valid && x.block == b) s.sl with ⟨e, -⟩ | ⟨i, x, e, hx, hp, -⟩
  · have : s.find b = -1 := e
    omega
  · simp at hp
    exact ⟨i, x, e, hx, hp.1, hp.2⟩
theorem find_neg {s : CS} {b : Int} (h : ¬ 0 ≤ s.find b) : s.find b = -1 := by
  rcases idxOf_cases (fun x => x.valid && x.block == b) s.sl with ⟨e, -⟩ | ⟨i, x, e, hx, hp, -⟩
  · exact e
  · have : s.find b = (i : Int) := e
    omega
theorem miss_facts (s : CS) (b : Int) : (s.miss b).1.sl = s.sl ∧ (s.miss b).1.clk = s.clk ∧ (s.miss b).1.find b = s.find b ∧ ((s.miss b).2 = true → ¬ b ∈ (s.miss b).1.ms) := by
  unfold CS.miss
  split
  · refine ⟨rfl, rfl, rfl, fun _ hm => ?_⟩
    have := (List.mem_filter.1 hm).2
    simp at this
  · refine ⟨rfl, rfl, rfl, fun e => ?_⟩
    cases e
set_option maxHeartbeats 1000000 in
theorem vslot_range (W : World) (Fv : Nat → Prop) (C : VC) (V : VS) (a : Int) (h : VolAt W Fv C V) (ha : a < 0 ∨ (C.n0 : Int) ≤ a) :
    Calls Tryz.prog 54 #[.pointer (some ⟨C.v, 0, none⟩), .int .i64 a] W fun e w' => e = .returned (.tuple #[.int .i64 0, .int .i64 1]) ∧ W = w' := by
  have HS := Lib.hid (vsize_any W Fv C V h)
  clear h
  by_cases h1 : a < 0
  · clear ha
    go_enter Tryz.func54, Tryz.ntmps54
    go_wp2_with fail
    go_ret2
    exact ⟨rfl, rfl⟩
  · have h2 : (C.n0 : Int) ≤ a := by omega
    clear ha
    go_enter Tryz.func54, Tryz.ntmps54
    go_wp2_with (go_at_call 46; refine HS.out.mono ?_; rintro e w' ⟨rfl, rfl⟩)
    go_ret2
    exact ⟨rfl, rfl⟩
set_option maxHeartbeats 1000000 in
theorem vslot_closed (W : World) (Fv : Nat → Prop) (C : VC) (V : VS) (a : Nat) (h : VolAt W Fv C V) (ha : a < C.n0) (hc : V.closed = true) :
    Calls Tryz.prog 54 #[.pointer (some ⟨C.v, 0, none⟩), .int .i64 (a : Int)] W fun e w' => e = .returned (.tuple #[.int .i64 0, .int .i64 20]) ∧ W = w' := by
  have HS := Lib.hid (vsize_any W Fv C V h)
  obtain ⟨Fc, A, c, B, d, h⟩ := h
  obtain ⟨-, -, -, -, -, -, -, -, -, c9⟩ := h.cells
  rw [hc] at c9
  have h1 : ¬ (a : Int) < 0 := by omega
  have h2 : ¬ (C.n0 : Int) ≤ (a : Int) := by omega
  clear h hc
  go_enter Tryz.func54, Tryz.ntmps54
  go_wp2_with (go_at_call 46; refine HS.out.mono ?_; rintro e w' ⟨rfl, rfl⟩)
  go_ret2
  exact ⟨rfl, rfl⟩
set_option maxRecDepth 100000 in
set_option maxHeartbeats 8000000 in
theorem vslot_any (W : World) (Fv : Nat → Prop) (C : VC) (V : VS) (a : Nat) (h : VolAt W Fv C V) (hok : V.x.Ok) (hlen : V.x.sl.length = V.ss.length) (hclo : V.closed = false) (ha : a < C.n0) (hclk : V.x.clk < 1099511627776) (hc1 : 1 ≤ C.chunk)
    (hch : C.chunk ≤ 127) (hn0 : C.n0 ≤ 65536) (hn1 : C.n1 ≤ 65536) (hn2 : C.n2 ≤ 65536) (hlog : V.S.log.length + 2 * C.chunk + 2 < 1000000) (hwr : V.S.wr + 2 * C.chunk + 2 ≤ 999999) :
    Calls Tryz.prog 54 #[.pointer (some ⟨C.v, 0, none⟩), .int .i64 (a : Int)] W (SlP W Fv C (V.slt C a)) := by
  have HS := Lib.hid (vsize_any W Fv C V h)
  have HSQ : Hid (∀ q, Calls Tryz.prog 46 #[.pointer (some ⟨C.v, 0, none⟩)] (W.drewN q) fun e w' => e = .returned (.int .i64 (C.n0 : Int)) ∧ ∃ m, w' = (W.drewN q).drewN m) := fun q => (vsize_any (W.drewN q) Fv C V (h.keep (below_drewN (Below.refl _ W) q))).mono fun e w' he => ⟨he.1, 0, he.2.symm⟩
  have hbl := Nat.div_le_self a C.chunk
  have hnl := Nat.div_le_self C.n0 C.chunk
  have hE : V.slt C a = if C.n0 / C.chunk ≤ a / C.chunk then (-1, 0, V)
    else if 0 ≤ V.x.find ((a / C.chunk : Nat) : Int) then (V.x.find ((a / C.chunk : Nat) : Int), 0, { V with x := V.x.touch (V.x.find ((a / C.chunk : Nat) : Int)).toNat })
    else if (V.x.miss ((a / C.chunk : Nat) : Int)).2 = false then (-1, 0, { V with x := (V.x.miss ((a / C.chunk : Nat) : Int)).1 })
    else (if ((({ V with x := (V.x.miss ((a / C.chunk : Nat) : Int)).1 } : VS)).prm C (a / C.chunk)).1 = 0 then (V.x.miss ((a / C.chunk : Nat) : Int)).1.victim else 0, (({ V with x := (V.x.miss ((a / C.chunk : Nat) : Int)).1 } : VS)).prm C (a / C.chunk)) := rfl
  generalize V.slt C a = rR at *
  have e1 := div_wrap a C.chunk (by omega)
  have e2 := div_wrap C.n0 C.chunk (by omega)
  generalize hB : a / C.chunk = b at *
  generalize hNB : C.n0 / C.chunk = nb at *
  have hb16 : b ≤ 16777215 := by omega
  have t0 : ¬ (C.chunk : Int) = 0 := by omega
  have t1 : ¬ (a : Int) < 0 := by omega
  have t2 : ¬ (C.n0 : Int) ≤ (a : Int) := by omega
  have hln := hok.len
  obtain ⟨Fc, A, c, B, d, h0⟩ := h
  have H0 := Lib.hid h0
  obtain ⟨c0, c1, c2, c3, c4, c5, c6, c7, c8, c9⟩ := h0.cells
  rw [hclo] at c9
  have HE := Lib.hid hE
  have HOK := Lib.hid hok
  have HLEN := Lib.hid hlen
  have HCLO := Lib.hid hclo
  clear hE h0 hB hNB hok hlen hclo c0 c1 c2 c3 c5 c6 c7 c8
  go_enter Tryz.func54, Tryz.ntmps54
  go_upto_region 5 with (go_at_call 46; refine HS.out.mono ?_; rintro e w' ⟨rfl, rfl⟩)
  clear HS
  go_quiet ((go_at_call 46; exact Calls.quiet_of (HSQ.out _)))
  have HB1 : Hid (Below W.heap.size W (W.drewN nq)) := below_drewN (Below.refl _ W) nq
  have HH := Lib.hid (H0.out.keep HB1.out)
  have HT := Lib.hid (Turn.of_below (F := Fv) HB1.out)
  clear HSQ H0 HB1 c4 c9
  generalize W.drewN nq = w1 at *
  obtain ⟨c0, c1, c2, c3, c4, c5, c6, c7, c8, c9⟩ := HH.out.cells
  clear c0 c5 c6 c7 c8 c9
  by_cases hnb : nb ≤ b
  · have u1 : (nb : Int) ≤ (b : Int) := by omega
    clear c1 c2 c3 c4
    go_wp2_with fail
    go_ret2
    unfold SlP
    rw [HE.out, if_pos hnb]
    exact ⟨rfl, Fv, ⟨_, _, _, _, _, HH.out⟩, HT.out⟩
  have u1 : ¬ (nb : Int) ≤ (b : Int) := by omega
  have HF := Lib.hid (cFind_any w1 A B V.x.sl.length c V.x.ms.length d V.x HOK.out (b : Int) rfl rfl (Reads.of_own HH.out.row) HH.out.mis)
  unfold csV at HF
  go_upto_region 9 with (go_at_call 95; refine HF.out.mono ?_; rintro e w2 ⟨rfl, hb2⟩)
  have HH2 := Lib.hid (HH.out.keep hb2)
  have HT2 := Lib.hid (HT.out.trans (Turn.of_below (F := Fv) hb2))
  clear HF HH HT hb2 c1 c2 c3 c4
  by_cases hfi : 0 ≤ V.x.find (b : Int)
  · obtain ⟨k, x, hk, hx, hv, hxb⟩ := find_at hfi
    have HE1 : Hid (rR = ((k : Int), 0, { V with x := V.x.touch k })) := by
      show _ = _
      rw [HE.out, if_neg hnb, if_pos hfi, hk]
      rfl
    obtain ⟨Fc, A, c, B, d, h⟩ := VolAt.tight ⟨_, _, _, _, _, HH2.out⟩
    have HTO := Lib.hid (ctouch_any w2 A B V.x.sl.length c V.x.ms.length d V.x HOK.out rfl rfl (Reads.of_own h.row) h.mis k x hx hv hclk)
    have HH := Lib.hid h
    have HLP : Hid ((V.x.touch k).sl.length ≤ 1024) := by show (V.x.sl.set k _).length ≤ 1024; rw [List.length_set]; omega
    obtain ⟨c0, c1, c2, c3, c4, c5, c6, c7, c8, c9⟩ := h.cells
    rw [hk]
    have u2 : (0 : Int) ≤ (k : Int) := by omega
    unfold csV at HTO
    clear c0 c4 c5 c6 c7 c8 c9 h hk hx hv hxb hfi HE HH2
    go_upto_region 11 with (go_at_call 96; refine HTO.out.mono ?_; rintro e w3 ⟨v, rfl, ⟨a', n', m', B2, d2, rfl, rfl, rfl, hS, hBr, hka, hkB⟩, hb3⟩; have HS := Lib.hid hS; have HBr := Lib.hid hBr; have HKB := Lib.hid hkB; have HB3 := Lib.hid hb3; clear hS hBr hkB hb3 c1 c2 c3; unfold csV)
    have hC0 := Cs.new w3 58 #[.slice (some ⟨a', 0, none⟩) (V.x.touch k).sl.length (V.x.touch k).sl.length, .int .i64 (V.x.touch k).clk, .slice B2 (V.x.touch k).ms.length d2]
    have hb4 : Below w3.heap.size w3 (w3.alloc (.cells #[.slice (some ⟨a', 0, none⟩) (V.x.touch k).sl.length (V.x.touch k).sl.length, .int .i64 (V.x.touch k).clk, .slice B2 (V.x.touch k).ms.length d2] 58)) := (Below.refl _ w3).alloc (Nat.le_refl _) _
    have HS4 := Lib.hid (HS.out.below hb4 HS.out.lt)
    have HBr4 := Lib.hid (HBr.out.keep hb4)
    have HB4 := Lib.hid (HB3.out.trans (hb4.mono HB3.out.size))
    obtain ⟨t, ht⟩ : ∃ t, w3.heap.size = t := ⟨_, rfl⟩
    rw [ht] at hC0 ⊢
    clear ht hb4 HS HBr HB3
    generalize (w3.alloc (.cells #[.slice (some ⟨a', 0, none⟩) (V.x.touch k).sl.length (V.x.touch k).sl.length, .int .i64 (V.x.touch k).clk, .slice B2 (V.x.touch k).ms.length d2] 58)) = w4 at *
    have h7 := HH.out.keep HB4.out
    obtain ⟨-, c1, c2, c3, -, -, -, -, -, -⟩ := h7.cells
    have f1 := h7.vol.free 1
    have f2 := h7.vol.free 2
    have f3 := h7.vol.free 3
    obtain ⟨y0, y1, y2⟩ := hC0.three
    have HH7 := Lib.hid h7
    clear h7 hC0
    go_upto_region 13 with (fail)
    have hfin := HH7.out.put (k := w2.heap.size) (fun j hj => hj.2) HS4.out HBr4.out hka HKB.out HLP.out (d' := d2)
    have htf : Turn (fun j => Fv j ∧ j < w2.heap.size) (fun j => (Fv j ∧ j < w2.heap.size) ∨ w2.heap.size ≤ j) w2 (put3v w4 C.v a' (V.x.touch k).sl.length (V.x.touch k).clk B2 (V.x.touch k).ms.length d2) := ⟨((Fr.of_below HB4.out).trans ((fr_put3v w4 C.v a' (V.x.touch k).sl.length (V.x.touch k).clk B2 (V.x.touch k).ms.length d2).mono (fun j _ hj => by subst hj; exact HH7.out.iv))), fun j hj => hj.elim .inl .inr⟩
    have HFIN := Lib.hid hfin
    have HTF := Lib.hid (HT2.out.trans htf.tg)
    clear hfin htf c1 c2 c3 f1 f2 f3 y0 y1 y2
    change Code.wp _ _ _ _ (put3v w4 C.v a' (V.x.touch k).sl.length (V.x.touch k).clk B2 (V.x.touch k).ms.length d2)
    generalize put3v w4 C.v a' (V.x.touch k).sl.length (V.x.touch k).clk B2 (V.x.touch k).ms.length d2 = w5 at *
    go_wp2_with fail
    go_ret2
    unfold SlP
    rw [HE1.out]
    exact ⟨rfl, _, ⟨_, _, _, _, _, HFIN.out⟩, HTF.out⟩
  · have hfn := find_neg hfi
    obtain ⟨m1, m2, m3, m4⟩ := miss_facts V.x (b : Int)
    have HE1 : Hid (rR = if (V.x.miss (b : Int)).2 = false then (-1, 0, { V with x := (V.x.miss (b : Int)).1 }) else (if ((({ V with x := (V.x.miss (b : Int)).1 } : VS)).prm C b).1 = 0 then (V.x.miss (b : Int)).1.victim else 0, (({ V with x := (V.x.miss (b : Int)).1 } : VS)).prm C b)) := by
      show _ = _
      rw [HE.out, if_neg hnb, if_neg hfi]
    obtain ⟨Fc, A, c, B, d, h⟩ := VolAt.tight ⟨_, _, _, _, _, HH2.out⟩
    have HMI := Lib.hid (cmiss_any w2 A B V.x.sl.length c V.x.ms.length d V.x HOK.out rfl rfl (Reads.of_own h.row) h.mis (b : Int) (by omega) hfn)
    have HOK2 := Lib.hid (CS.Ok.miss HOK.out (b : Int) (by omega) hfn)
    have HH := Lib.hid h
    have HLP : Hid ((V.x.miss (b : Int)).1.sl.length ≤ 1024) := by show _ ≤ _; rw [m1]; omega
    have HL2 : Hid ((V.x.miss (b : Int)).1.sl.length = V.ss.length) := by show _ = _; rw [m1]; exact HLEN.out
    have HF2 : Hid ((V.x.miss (b : Int)).1.find (b : Int) = -1) := by show _ = _; rw [m3]; exact hfn
    have HM4 := Lib.hid m4
    have HCK : Hid ((V.x.miss (b : Int)).1.clk < 1099511627776) := by show _ < _; rw [m2]; exact hclk
    obtain ⟨c0, c1, c2, c3, c4, c5, c6, c7, c8, c9⟩ := h.cells
    rw [hfn]
    unfold csV at HMI
    clear c0 c4 c5 c6 c7 c8 c9 h hfi hfn m1 m2 m3 m4 HE HH2
    generalize (V.x.miss (b : Int)).1 = x1 at *
    generalize (V.x.miss (b : Int)).2 = is at *
    go_upto_region 15 with (go_at_call 97; refine HMI.out.mono ?_; rintro e w3 ⟨v, rfl, ⟨a', n', m', B2, d2, rfl, rfl, rfl, hS, hBr, hka, hkB⟩, hb3⟩; have HS := Lib.hid hS; have HBr := Lib.hid hBr; have HKB := Lib.hid hkB; have HB3 := Lib.hid hb3; clear hS hBr hkB hb3 c1 c2 c3; unfold csV)
    have hC0 := Cs.new w3 58 #[.slice (some ⟨a', 0, none⟩) x1.sl.length x1.sl.length, .int .i64 x1.clk, .slice B2 x1.ms.length d2]
    have hb4 : Below w3.heap.size w3 (w3.alloc (.cells #[.slice (some ⟨a', 0, none⟩) x1.sl.length x1.sl.length, .int .i64 x1.clk, .slice B2 x1.ms.length d2] 58)) := (Below.refl _ w3).alloc (Nat.le_refl _) _
    have HS4 := Lib.hid (HS.out.below hb4 HS.out.lt)
    have HBr4 := Lib.hid (HBr.out.keep hb4)
    have HB4 := Lib.hid (HB3.out.trans (hb4.mono HB3.out.size))
    obtain ⟨t, ht⟩ : ∃ t, w3.heap.size = t := ⟨_, rfl⟩
    rw [ht] at hC0 ⊢
    clear ht hb4 HS HBr HB3
    generalize (w3.alloc (.cells #[.slice (some ⟨a', 0, none⟩) x1.sl.length x1.sl.length, .int .i64 x1.clk, .slice B2 x1.ms.length d2] 58)) = w4 at *
    have h7 := HH.out.keep HB4.out
    obtain ⟨-, c1, c2, c3, -, -, -, -, -, -⟩ := h7.cells
    have f1 := h7.vol.free 1
    have f2 := h7.vol.free 2
    have f3 := h7.vol.free 3
    obtain ⟨y0, y1, y2⟩ := hC0.three
    have HH7 := Lib.hid h7
    clear h7 hC0
    go_upto_region 18 with (fail)
    have hfin := HH7.out.put (k := w2.heap.size) (fun j hj => hj.2) HS4.out HBr4.out hka HKB.out HLP.out (d' := d2)
    have htf : Turn (fun j => Fv j ∧ j < w2.heap.size) (fun j => (Fv j ∧ j < w2.heap.size) ∨ w2.heap.size ≤ j) w2 (put3v w4 C.v a' x1.sl.length x1.clk B2 x1.ms.length d2) := ⟨((Fr.of_below HB4.out).trans ((fr_put3v w4 C.v a' x1.sl.length x1.clk B2 x1.ms.length d2).mono (fun j _ hj => by subst hj; exact HH7.out.iv))), fun j hj => hj.elim .inl .inr⟩
    have HFIN := Lib.hid hfin
    have HTF := Lib.hid (HT2.out.trans htf.tg)
    clear hfin htf c1 c2 c3 f1 f2 f3 y0 y1 y2
    change Code.wp _ _ _ _ (put3v w4 C.v a' x1.sl.length x1.clk B2 x1.ms.length d2)
    generalize put3v w4 C.v a' x1.sl.length x1.clk B2 x1.ms.length d2 = w5 at *
    cases is
    · have HE2 : Hid (rR = (-1, 0, { V with x := x1 })) := by
        show _ = _
        rw [HE1.out]
        rfl
      go_wp2_with fail
      go_ret2
      unfold SlP
      rw [HE2.out]
      exact ⟨rfl, _, ⟨_, _, _, _, _, HFIN.out⟩, HTF.out⟩
    · obtain ⟨k, x, hvk, hxk⟩ := victim_at HOK2.out
      have HPM := Lib.hid (vpromote_any w5 _ C { V with x := x1 } b k x ⟨_, _, _, _, _, HFIN.out⟩ HOK2.out hvk hxk HL2.out HF2.out (HM4.out rfl) hb16 HCK.out hch hn0 hn1 hn2 hlog hwr)
      have hat : x1.at_ k = x := CS.at_eq hxk
      have hP : ({ V with x := x1 } : VS).prm C b = ({ V with x := x1 } : VS).p7 C k x b := by
        unfold VS.prm
        dsimp only
        rw [hvk, Int.toNat_natCast, hat]
      have HE2 : Hid (rR = (if (({ V with x := x1 } : VS).p7 C k x b).1 = 0 then (k : Int) else 0, ({ V with x := x1 } : VS).p7 C k x b)) := by
        show _ = _
        rw [HE1.out, if_neg (by simp), hP, hvk]
      clear hvk hxk hat hP HE1
      generalize ({ V with x := x1 } : VS).p7 C k x b = p at *
      unfold PrP at HPM
      obtain ⟨pe, pv⟩ := p
      dsimp only at HPM HE2
      generalize (if pe = 0 then (k : Int) else 0) = r at *
      go_wp2_with (go_at_call 98; refine HPM.out.mono ?_; rintro e w6 ⟨rfl, Fv6, hv6, ht6⟩; have HV6 := Lib.hid hv6; have HT6 := Lib.hid ht6; clear hv6 ht6)
      go_ret2
      unfold SlP
      rw [HE2.out]
      exact ⟨rfl, _, HV6.out, HTF.out.trans HT6.out⟩
end Go.Proofs.YtogchafnnkajfaaGreat
namespace Go.Proofs.YtogchafnnkajfaaGreat
set_option linter.unusedVariables false
structure Bd (V V' : VS) (n c : Nat) : Prop where
  ok : V'.x.Ok
  len : V'.x.sl.length = V'.ss.length
  sll : V'.x.sl.length = V.x.sl.length
  clk : V'.x.clk ≤ V.x.clk + c
  log : V'.S.log.length ≤ V.S.log.length + n
  wr : V'.S.wr ≤ V.S.wr + n
  md : V'.md = V.md
  op : V'.op = V.op
  pm : V'.pm = V.pm
  clo : V'.closed = V.closed
theorem Bd.refl {V : VS} (h : V.x.Ok) (hl : V.x.sl.length = V.ss.length) : Bd V V 0 0 := ⟨h, hl, rfl, by omega, Nat.le_refl _, by omega, rfl, rfl, rfl, rfl⟩
theorem Bd.trans {V V1 V2 : VS} {n m c d : Nat} (h : Bd V V1 n c) (k : Bd V1 V2 m d) : Bd V V2 (n + m) (c + d) :=
  ⟨k.ok, k.len, k.sll.trans h.sll, by have := h.clk; have := k.clk; omega, by have := h.log; have := k.log; omega, by have := h.wr; have := k.wr; omega, k.md.trans h.md, k.op.trans h.op, k.pm.trans h.pm, k.clo.trans h.clo⟩
theorem Bd.mono {V V' : VS} {n m c d : Nat} (h : Bd V V' n c) (hn : n ≤ m) (hc : c ≤ d) : Bd V V' m d :=
  ⟨h.ok, h.len, h.sll, by have := h.clk; omega, by have := h.log; omega, by have := h.wr; omega, h.md, h.op, h.pm, h.clo⟩
theorem Bd.fl {V V' : VS} {n c : Nat} (h : Bd V V' n c) (i : Int) : Bd V { V' with S := V'.S.flush i } n c :=
  ⟨h.ok, h.len, h.sll, h.clk, Nat.le_trans (flush_log V'.S i).1 h.log, by show (V'.S.flush i).wr ≤ _; rw [(flush_log V'.S i).2]; exact h.wr, h.md, h.op, h.pm, h.clo⟩
theorem Bd.sw {V V' : VS} {n c : Nat} (h : Bd V V' n c) (i m : Nat) (a : Int) (v : Nat) : Bd V { V' with S := V'.S.swrite i m a v } (n + 1) c :=
  ⟨h.ok, h.len, h.sll, h.clk, by have := swrite_log V'.S i m a v; have := h.log; show (V'.S.swrite i m a v).log.length ≤ _; omega, by have := swrite_wr V'.S i m a v; have := h.wr; show (V'.S.swrite i m a v).wr ≤ _; omega, h.md, h.op, h.pm, h.clo⟩
theorem Bd.cp {V V' : VS} {n c : Nat} (h : Bd V V' n c) (p np a q nq b i : Nat) : Bd V { V' with S := (vcp V'.S p np a q nq b i).2 } (n + i) c := by
  have h1 := vcp_log V'.S p np a q nq b i
  exact ⟨h.ok, h.len, h.sll, h.clk, by have := h.log; show (vcp V'.S p np a q nq b i).2.log.length ≤ _; omega, by have := h.wr; show (vcp V'.S p np a q nq b i).2.wr ≤ _; omega, h.md, h.op, h.pm, h.clo⟩
theorem Bd.cb {C : VC} {V V' : VS} {n c : Nat} (h : Bd V V' n c) (k b : Nat) : Bd V (V'.cbV C k b) (n + C.chunk) c := by
  have h1 := cbV_log C V' k b
  exact ⟨h.ok, h.len, h.sll, h.clk, by have := h.log; omega, by have := h.wr; omega, h.md, h.op, h.pm, h.clo⟩
theorem Bd.st {C : VC} {V V' : VS} {n c : Nat} (h : Bd V V' n c) (k : Nat) (s : Sl) (hok : CS.Ok ⟨V'.x.sl.set k s, V'.x.clk, V'.x.ms⟩) : Bd V (V'.setV C k s) (n + 1) c := by
  have h1 := setV_log C V' k s
  have hl := h.len
  have e1 : (V'.setV C k s).x = if V'.setE C k = 0 then ⟨V'.x.sl.set k s, V'.x.clk, V'.x.ms⟩ else V'.x := rfl
  have e2 : (V'.setV C k s).ss = if V'.setE C k = 0 then V'.ss.set k ⟨s.valid, s.dirty, s.block, 0⟩ else V'.ss := rfl
  refine ⟨?_, ?_, ?_, ?_, by have := h.log; omega, by have := h.wr; omega, h.md, h.op, h.pm, h.clo⟩
  · rw [e1]; split
    · exact hok
    · exact h.ok
  · rw [e1, e2]; split
    · show (V'.x.sl.set k s).length = (V'.ss.set k _).length
      rw [List.length_set, List.length_set]; exact hl
    · exact hl
  · rw [e1]; split
    · show (V'.x.sl.set k s).length = _
      rw [List.length_set]; exact h.sll
    · exact h.sll
  · rw [e1]; split
    · exact h.clk
    · exact h.clk
theorem Bd.fr {C : VC} {V V' : VS} {n c : Nat} (h : Bd V V' n c) (k : Nat) : Bd V (V'.freeV C k) (n + 1) c := by
  have h1 := h.st (C := C) k nilS (h.ok.clear k)
  unfold VS.freeV
  split
  · exact h1.fl 2
  · exact h1
theorem bnd_cases {P : VS → Prop} {p : Int × VS} {f : VS → Int × VS} (h1 : P p.2) (h2 : p.1 = 0 → P (f p.2).2) : P (bnd p f).2 := by
  unfold bnd
  split
  · rename_i e; exact h2 e
  · exact h1
section
variable {C : VC} {V : VS} {k b : Nat} {x : Sl}
theorem Bd.p1 (h : V.x.Ok) (hl : V.x.sl.length = V.ss.length) : Bd V (V.p1 C k x).2 C.chunk 0 := by
  have h0 := Bd.refl h hl
  unfold VS.p1
  split
  · have := h0.cb (C := C) k x.block.toNat
    exact this.mono (by omega) (Nat.le_refl _)
  · exact h0.mono (by omega) (Nat.le_refl _)
theorem Bd.p2 (h : V.x.Ok) (hl : V.x.sl.length = V.ss.length) : Bd V (V.p2 C k x).2 (C.chunk + 1) 0 := by
  have h1 := Bd.p1 (C := C) (k := k) (x := x) h hl
  unfold VS.p2
  refine bnd_cases (P := fun V' => Bd V V' (C.chunk + 1) 0) (h1.mono (by omega) (Nat.le_refl _)) (fun _ => ?_)
  split
  · exact h1.fr k
  · exact h1.mono (by omega) (Nat.le_refl _)
theorem Bd.p3 (h : V.x.Ok) (hl : V.x.sl.length = V.ss.length) : Bd V (V.p3 C k x).2 (C.chunk + 1) 0 := by
  have h1 := Bd.p2 (C := C) (k := k) (x := x) h hl
  exact bnd_cases (P := fun V' => Bd V V' (C.chunk + 1) 0) h1 (fun _ => h1.fl 0)
theorem Bd.p4 (h : V.x.Ok) (hl : V.x.sl.length = V.ss.length) : Bd V (V.p4 C k x b).2 (2 * C.chunk + 1) 0 := by
  have h1 := Bd.p3 (C := C) (k := k) (x := x) h hl
  refine bnd_cases (P := fun V' => Bd V V' (2 * C.chunk + 1) 0) (h1.mono (by omega) (Nat.le_refl _)) (fun _ => ?_)
  have := h1.cp 0 C.n0 (b * C.chunk) 1 C.n1 (k * C.chunk) C.chunk
  exact this.mono (by omega) (Nat.le_refl _)
theorem Bd.p5 (h : V.x.Ok) (hl : V.x.sl.length = V.ss.length) : Bd V (V.p5 C k x b).2 (2 * C.chunk + 1) 0 := by
  have h1 := Bd.p4 (C := C) (k := k) (x := x) (b := b) h hl
  exact bnd_cases (P := fun V' => Bd V V' (2 * C.chunk + 1) 0) h1 (fun _ => h1.fl 1)
theorem Bd.p6 (h : V.x.Ok) (hl : V.x.sl.length = V.ss.length) : Bd V (V.p6 C k x b).2 (2 * C.chunk + 2) 0 := by
  have h1 := Bd.p5 (C := C) (k := k) (x := x) (b := b) h hl
  refine bnd_cases (P := fun V' => Bd V V' (2 * C.chunk + 2) 0) (h1.mono (by omega) (Nat.le_refl _)) (fun _ => ?_)
  generalize (V.p5 C k x b).2 = V5 at *
  have h2 := h1.sw 2 C.n2 (1 + (k : Int)) (Sl.word ⟨true, false, (b : Int), 0⟩)
  refine ⟨h2.ok, ?_, h2.sll, h2.clk, h2.log, h2.wr, h2.md, h2.op, h2.pm, h2.clo⟩
  have e : (V5.f6 C k b).2.ss = if V5.S.swE 2 C.n2 (1 + (k : Int)) = 0 then V5.ss.set k ⟨true, false, (b : Int), 0⟩ else V5.ss := rfl
  show V5.x.sl.length = (V5.f6 C k b).2.ss.length
  rw [e]
  split
  · rw [List.length_set]; exact h1.len
  · exact h1.len
theorem p6_ok (hx : V.x.sl[k]? = some x) (hnl : x.valid = false → x = nilS) (h : (V.p6 C k x b).1 = 0) : (V.p6 C k x b).2.x = V.x.clear k := by
  have go : ∀ {p : Int × VS} {f : VS → Int × VS}, (bnd p f).1 = 0 → p.1 = 0 := by
    intro p f hh
    rcases Classical.em (p.1 = 0) with e | e
    · exact e
    · rw [bnd_no e] at hh; exact hh
  have e5 : (V.p5 C k x b).1 = 0 := go h
  have e4 : (V.p4 C k x b).1 = 0 := go e5
  have e3 : (V.p3 C k x).1 = 0 := go e4
  have e2 : (V.p2 C k x).1 = 0 := go e3
  have h6 : V.p6 C k x b = (V.p5 C k x b).2.f6 C k b := bnd_ok e5
  have h5 : V.p5 C k x b = ((V.p4 C k x b).2.S.chkF 1, { (V.p4 C k x b).2 with S := (V.p4 C k x b).2.S.flush 1 }) := bnd_ok e4
  have h4 : V.p4 C k x b = (V.p3 C k x).2.f4 C k b := bnd_ok e3
  have h3 : V.p3 C k x = ((V.p2 C k x).2.S.chkF 0, { (V.p2 C k x).2 with S := (V.p2 C k x).2.S.flush 0 }) := bnd_ok e2
  have h2 := (p2_facts C V k x hx hnl e2).1
  rw [h6]
  show (V.p5 C k x b).2.x = _
  rw [h5]
  show (V.p4 C k x b).2.x = _
  rw [h4]
  show (V.p3 C k x).2.x = _
  rw [h3]
  exact h2
theorem Bd.p7 (h : V.x.Ok) (hl : V.x.sl.length = V.ss.length) (hx : V.x.sl[k]? = some x) (hb : b ≤ 16777215) (hf : V.x.find (b : Int) = -1) (hc : V.x.clk < 1099511627776) : Bd V (V.p7 C k x b).2 (2 * C.chunk + 2) 1 := by
  have h1 := Bd.p6 (C := C) (k := k) (x := x) (b := b) h hl
  refine bnd_cases (P := fun V' => Bd V V' (2 * C.chunk + 2) 1) (h1.mono (Nat.le_refl _) (by omega)) (fun e => ?_)
  have hx6 := p6_ok hx (h.nl x (List.mem_of_getElem? hx)) e
  generalize (V.p6 C k x b).2 = V6 at *
  refine ⟨?_, ?_, ?_, ?_, h1.log, h1.wr, h1.md, h1.op, h1.pm, h1.clo⟩
  · show (V6.x.place k (b : Int)).Ok
    rw [hx6]
    exact (h.clear k).place k (b : Int) (by omega) (find_clear hf k) hc
  · show (V6.x.sl.set k _).length = _
    rw [List.length_set]; exact h1.len
  · show (V6.x.sl.set k _).length = _
    rw [List.length_set]; exact h1.sll
  · show V6.x.clk + 1 ≤ _
    have := h1.clk
    omega
end
theorem Bd.slt {C : VC} {V : VS} {a : Nat} (h : V.x.Ok) (hl : V.x.sl.length = V.ss.length) (ha : a < C.n0) (hn0 : C.n0 ≤ 65536) (hc : V.x.clk < 1099511627776) : Bd V (V.slt C a).2.2 (2 * C.chunk + 2) 1 := by
  have h0 := Bd.refl h hl
  have hbl := Nat.div_le_self a C.chunk
  unfold VS.slt
  generalize a / C.chunk = b at *
  split
  · exact h0.mono (by omega) (by omega)
  · split
    · rename_i hf
      obtain ⟨k, x, hk, hx, hv, -⟩ := find_at hf
      rw [hk, Int.toNat_natCast]
      refine ⟨h.touch k x hx hv hc, ?_, ?_, ?_, by show V.S.log.length ≤ _; omega, by show V.S.wr ≤ _; omega, rfl, rfl, rfl, rfl⟩
      · show (V.x.sl.set k _).length = V.ss.length
        rw [List.length_set]; exact hl
      · show (V.x.sl.set k _).length = _
        rw [List.length_set]
      · show V.x.clk + 1 ≤ _; omega
    · rename_i hf
      have hfn := find_neg hf
      obtain ⟨m1, m2, m3, m4⟩ := miss_facts V.x (b : Int)
      have hok := h.miss (b : Int) (by omega) hfn
      have h1 : Bd V ({ V with x := (V.x.miss (b : Int)).1 } : VS) 0 0 := ⟨hok, by rw [m1]; exact hl, by rw [m1], by rw [m2]; omega, Nat.le_refl _, by show V.S.wr ≤ _; omega, rfl, rfl, rfl, rfl⟩
      split
      · exact h1.mono (by omega) (by omega)
      · obtain ⟨k, x, hvk, hxk⟩ := victim_at hok
        have hP : ({ V with x := (V.x.miss (b : Int)).1 } : VS).prm C b = ({ V with x := (V.x.miss (b : Int)).1 } : VS).p7 C k x b := by
          unfold VS.prm
          dsimp only
          rw [hvk, Int.toNat_natCast, CS.at_eq hxk]
        show Bd V (VS.prm C _ b).2 _ _
        rw [hP]
        have := h1.trans (Bd.p7 (C := C) (k := k) (x := x) (b := b) h1.ok h1.len hxk (by omega) (by rw [show ({ V with x := (V.x.miss (b : Int)).1 } : VS).x = (V.x.miss (b : Int)).1 from rfl, m3]; exact hfn) (by rw [show ({ V with x := (V.x.miss (b : Int)).1 } : VS).x = (V.x.miss (b : Int)).1 from rfl, m2]; exact hc))
        exact this.mono (by omega) (by omega)
theorem slt_ok {C : VC} {V : VS} {a : Nat} (h : V.x.Ok) (hl : V.x.sl.length = V.ss.length) (ha : a < C.n0) (hn0 : C.n0 ≤ 65536) (hc : V.x.clk < 1099511627776) (he : (V.slt C a).2.1 = 0) :
    (V.slt C a).1 = -1 ∨ ∃ (k : Nat) (x : Sl), (V.slt C a).1 = (k : Int) ∧ k < V.x.sl.length ∧ (V.slt C a).2.2.x.sl[k]? = some x ∧ x.valid = true ∧ x.block = ((a / C.chunk : Nat) : Int) := by
  have hbl := Nat.div_le_self a C.chunk
  unfold VS.slt at he ⊢
  generalize a / C.chunk = b at *
  split
  · exact .inl rfl
  · rename_i hnb
    rw [if_neg hnb] at he
    split
    · rename_i hf
      obtain ⟨k, x, hk, hx, hv, hb⟩ := find_at hf
      refine .inr ⟨k, { V.x.at_ k with stamp := V.x.clk + 1 }, hk, (List.getElem?_eq_some_iff.1 hx).1, ?_, ?_, ?_⟩
      · rw [hk, Int.toNat_natCast]
        show (V.x.sl.set k _)[k]? = _
        rw [List.getElem?_set_self (List.getElem?_eq_some_iff.1 hx).1]
      · rw [CS.at_eq hx]; exact hv
      · rw [CS.at_eq hx]; exact hb
    · rename_i hf
      rw [if_neg hf] at he
      have hfn := find_neg hf
      obtain ⟨m1, m2, m3, m4⟩ := miss_facts V.x (b : Int)
      have hok := h.miss (b : Int) (by omega) hfn
      split
      · exact .inl rfl
      · rename_i hm
        rw [if_neg hm] at he
        obtain ⟨k, x, hvk, hxk⟩ := victim_at hok
        have hP : ({ V with x := (V.x.miss (b : Int)).1 } : VS).prm C b = ({ V with x := (V.x.miss (b : Int)).1 } : VS).p7 C k x b := by
          unfold VS.prm
          dsimp only
          rw [hvk, Int.toNat_natCast, CS.at_eq hxk]
        rw [hP] at he ⊢
        dsimp only at he ⊢
        have e6 : (({ V with x := (V.x.miss (b : Int)).1 } : VS).p6 C k x b).1 = 0 := by
          rcases Classical.em ((({ V with x := (V.x.miss (b : Int)).1 } : VS).p6 C k x b).1 = 0) with e | e
          · exact e
          · rw [p7_6 e] at he; exact he
        have hx6 := p6_ok (V := ({ V with x := (V.x.miss (b : Int)).1 } : VS)) (C := C) (b := b) hxk (hok.nl x (List.mem_of_getElem? hxk)) e6
        have h7 : ({ V with x := (V.x.miss (b : Int)).1 } : VS).p7 C k x b = (0, { (({ V with x := (V.x.miss (b : Int)).1 } : VS).p6 C k x b).2 with x := (({ V with x := (V.x.miss (b : Int)).1 } : VS).p6 C k x b).2.x.place k (b : Int) }) := bnd_ok e6
        have hkl : k < V.x.sl.length := by
          have := (List.getElem?_eq_some_iff.1 hxk).1
          rw [m1] at this
          exact this
        refine .inr ⟨k, ⟨true, false, (b : Int), (V.x.miss (b : Int)).1.clk + 1⟩, by rw [if_pos he]; exact hvk, hkl, ?_, rfl, rfl⟩
        · rw [h7]
          dsimp only
          rw [hx6]
          show ((List.set _ k nilS).set k _)[k]? = _
          rw [List.getElem?_set_self (by rw [List.length_set]; show k < (V.x.miss (b : Int)).1.sl.length; rw [m1]; exact hkl)]
          rfl
end Go.Proofs.YtogchafnnkajfaaGreat
namespace Go.Proofs.YtogchafnnkajfaaGreat
set_option linter.unusedVariables false
open Go.RowKit
attribute [local go_sem] Oper.semAt_some m_write m_read m_flush m_size
theorem VolIn.stuckT {W : World} {Fc Fv : Nat → Prop} {C : VC} {V : VS} {A B : Option Addr} {c d : Nat} (h : VolIn W Fc Fv C V A c B d) : VolIn (W.setCell ⟨C.v, 8, none⟩ (.bool true)) Fc Fv C { V with stuck := true } A c B d := by
  have hf := fr_set W C.v 8 (.bool true)
  exact ⟨h.cache.fr hf (fun j hj e => h.ov (e ▸ hj)), h.inC, Cs.fr h.sp0 hf (fun e => h.v0 e.symm), Cs.fr h.sp1 hf (fun e => h.v1 e.symm), h.o0, h.o1, h.i0, h.i1, Cs.put (l := [_, _, _, _, _, _, _, _, _, _]) h.vol _, h.ov, h.iv, h.v0, h.v1, own_fr h.row hf (fun b hb e => (h.rowO b hb).2.2.2.1 e), h.rowO,
    h.mis.fr hf (fun h0 p hp e => (h.misO p hp (ms_ne h0)).2.1 e), fun p hp hm => ⟨(h.misO p hp hm).1, (h.misO p hp hm).2.1, (h.misO p hp hm).2.2.1, (h.misO p hp hm).2.2.2.1, Nat.lt_of_lt_of_le (h.misO p hp hm).2.2.2.2 hf.size⟩⟩
theorem VolIn.closeT {W : World} {Fc Fv : Nat → Prop} {C : VC} {V : VS} {A B : Option Addr} {c d : Nat} (h : VolIn W Fc Fv C V A c B d) (q : Bool) : VolIn (W.setCell ⟨C.v, 9, none⟩ (.bool q)) Fc Fv C { V with closed := q } A c B d := by
  have hf := fr_set W C.v 9 (.bool q)
  exact ⟨h.cache.fr hf (fun j hj e => h.ov (e ▸ hj)), h.inC, Cs.fr h.sp0 hf (fun e => h.v0 e.symm), Cs.fr h.sp1 hf (fun e => h.v1 e.symm), h.o0, h.o1, h.i0, h.i1, Cs.put (l := [_, _, _, _, _, _, _, _, _, _]) h.vol _, h.ov, h.iv, h.v0, h.v1, own_fr h.row hf (fun b hb e => (h.rowO b hb).2.2.2.1 e), h.rowO,
    h.mis.fr hf (fun h0 p hp e => (h.misO p hp (ms_ne h0)).2.1 e), fun p hp hm => ⟨(h.misO p hp hm).1, (h.misO p hp hm).2.1, (h.misO p hp hm).2.2.1, (h.misO p hp hm).2.2.2.1, Nat.lt_of_lt_of_le (h.misO p hp hm).2.2.2.2 hf.size⟩⟩
def VS.loseV (C : VC) (V : VS) (k : Nat) : VS := if V.freeE C k = 0 then V.freeV C k else { V.freeV C k with stuck := true, x := (V.freeV C k).x.clear k }
set_option maxRecDepth 100000 in
set_option maxHeartbeats 4000000 in
theorem vlose_any (W : World) (Fv : Nat → Prop) (C : VC) (V : VS) (k : Nat) (h : VolAt W Fv C V) (hok : V.x.Ok) (hlen : V.x.sl.length = V.ss.length) (hk : k < V.x.sl.length) (hn : C.n2 ≤ 65536) (hlog : V.S.log.length < 1000000) (hwr : V.S.wr ≤ 1000000) :
    Calls Tryz.prog 141 #[.pointer (some ⟨C.v, 0, none⟩), .int .i64 (k : Int)] W (VolP W Fv C (.tuple #[]) (V.loseV C k)) := by
  have hln := hok.len
  have hsl : (V.freeV C k).x.sl.length = V.x.sl.length := (Bd.fr (C := C) (Bd.refl hok hlen) k).sll
  have HFR := Lib.hid (vfree_any W Fv C V k h hlen (by omega) (by omega) hn hlog hwr)
  have hE : V.loseV C k = if V.freeE C k = 0 then V.freeV C k else { V.freeV C k with stuck := true, x := (V.freeV C k).x.clear k } := rfl
  generalize V.loseV C k = rV at *
  generalize V.freeE C k = e1 at *
  generalize V.freeV C k = V1 at *
  have HE := Lib.hid hE
  have hk1 : k < V1.x.sl.length := by rw [hsl]; exact hk
  have hu1 : (k : Int) < (V1.x.sl.length : Int) := by omega
  clear hE h hok hlen hsl
  go_enter Tryz.func141, Tryz.ntmps141
  by_cases h1 : e1 = 0
  · have HE2 : Hid (rV = V1) := HE.out.trans (if_pos h1)
    subst h1
    clear HE
    go_wp2_with (go_at_call 61; refine HFR.out.mono ?_; rintro e w1 ⟨rfl, Fv1, hv1, ht1⟩; have HV1 := Lib.hid hv1; have HT1 := Lib.hid ht1; clear hv1 ht1)
    refine bodyPost_end (v := .tuple #[]) (by simp [results, Tryz.f141, go_sem]) rfl ?_
    rw [HE2.out]
    exact ⟨rfl, Fv1, HV1.out, HT1.out⟩
  · have hq : (e1 != 0) = true := by simpa using h1
    go_upto_region 1 with (go_at_call 61; refine HFR.out.mono ?_; rintro e w1 ⟨rfl, Fv1, hv1, ht1⟩; obtain ⟨Fc, A, c, B, d, h⟩ := hv1.tight; clear hv1)
    obtain ⟨bR, rfl⟩ := h.form (by omega)
    have HH := Lib.hid h
    have HT := Lib.hid ht1
    obtain ⟨c0, c1, c2, c3, c4, c5, c6, c7, c8, c9⟩ := h.cells
    have f8 := h.vol.free 8
    clear c0 c1 c2 c3 c4 c5 c6 c7 c9 h ht1 HFR
    go_upto_region 2 with (fail)
    have HH2 := Lib.hid HH.out.stuckT
    have HT2 : Hid (Turn (fun j => Fv1 j ∧ j < w1.heap.size) (fun j => Fv1 j ∧ j < w1.heap.size) w1 (w1.setCell ⟨C.v, 8, none⟩ (.bool true))) := (Turn.refl _ w1).set (.inl HH.out.iv) _
    clear c8 f8
    generalize w1.setCell ⟨C.v, 8, none⟩ (.bool true) = w2 at *
    obtain ⟨-, c1, -, -, -, -, -, -, -, -⟩ := HH2.out.cells
    dsimp only at c1
    obtain ⟨x, hx3⟩ := sl_put (l := V1.x.sl) (i := k) hk1
    obtain ⟨p0, p1, p2, p3⟩ := HH2.out.slotC (x := x) hx3
    have r0 := HH2.out.row.frozenAt (k * 4)
    have r1 := HH2.out.row.frozenAt (k * 4 + 1)
    have r2 := HH2.out.row.frozenAt (k * 4 + 2)
    have r3 := HH2.out.row.frozenAt (k * 4 + 3)
    clear hx3
    go_wp2_with fail
    refine bodyPost_end (v := .tuple #[]) (by simp [results, Tryz.f141, go_sem]) rfl ?_
    have h3 := HH2.out.slot k nilS hk1
    rw [HE.out, if_neg h1]
    have ht3 : Turn (fun j => Fv1 j ∧ j < w1.heap.size) (fun j => Fv1 j ∧ j < w1.heap.size) w2 (put4 w2 bR k nilS) := ⟨(fr_put4 w2 bR k nilS).mono (fun j _ hj => by subst hj; exact (HH2.out.rowO _ rfl).2.2.2.2), fun j hj => .inl hj⟩
    exact ⟨rfl, _, ⟨_, _, _, _, _, h3⟩, HT.out.trans (HT2.out.trans ht3).tg⟩
end Go.Proofs.YtogchafnnkajfaaGreat
namespace Go.Proofs.YtogchafnnkajfaaGreat
set_option linter.unusedVariables false
open Go.RowKit
attribute [local go_sem] Oper.semAt_some m_write m_read m_flush m_size
def VS.wr0 (C : VC) (V : VS) (a : Int) (v : Nat) : VS := { V with S := V.S.swrite 0 C.n0 a v }
def VS.wr1 (C : VC) (V : VS) (a : Int) (v : Nat) : VS := { V with S := V.S.swrite 1 C.n1 a v }
def VS.thr (C : VC) (V : VS) (k a v : Nat) : Int × VS :=
  if V.S.swE 0 C.n0 (a : Int) ≠ 0 then (V.S.swE 0 C.n0 (a : Int), (V.wr0 C a v).loseV C k)
  else if (V.wr0 C a v).S.swE 1 C.n1 ((k * C.chunk + a % C.chunk : Nat) : Int) ≠ 0 then (0, ((V.wr0 C a v).wr1 C ((k * C.chunk + a % C.chunk : Nat) : Int) v).loseV C k)
  else (0, (V.wr0 C a v).wr1 C ((k * C.chunk + a % C.chunk : Nat) : Int) v)
def VS.bc1 (C : VC) (V : VS) (k : Nat) (x : Sl) : Int × VS := if x.dirty = true then (0, V) else bnd (V.setE C k, V.setV C k { x with dirty := true }) (fun V1 => (V1.S.chkF 2, { V1 with S := V1.S.flush 2 }))
def VS.bck (C : VC) (V : VS) (k a v : Nat) (x : Sl) : Int × VS := bnd (V.bc1 C k x) (fun V => (V.S.swE 1 C.n1 ((k * C.chunk + a % C.chunk : Nat) : Int), V.wr1 C ((k * C.chunk + a % C.chunk : Nat) : Int) v))
theorem tmod_nat (a b : Nat) : (a : Int).tmod (b : Int) = ((a % b : Nat) : Int) := by rw [Int.tmod_eq_emod_of_nonneg (by omega)]; rfl
theorem emod_n33 (a b : Nat) : (a : Int) % (b : Int) = ((a % b : Nat) : Int) := rfl
set_option maxRecDepth 100000 in
set_option maxHeartbeats 4000000 in
theorem vthr_any (W : World) (Fv : Nat → Prop) (C : VC) (V : VS) (k a v : Nat) (h : VolAt W Fv C V) (hok : V.x.Ok) (hlen : V.x.sl.length = V.ss.length) (hk : k < V.x.sl.length) (ha : a ≤ 65536) (hv : v < 18446744073709551616) (hc1 : 1 ≤ C.chunk)
    (hch : C.chunk ≤ 127) (hn0 : C.n0 ≤ 65536) (hn1 : C.n1 ≤ 65536) (hn : C.n2 ≤ 65536) (hlog : V.S.log.length + 3 < 1000000) (hwr : V.S.wr ≤ 999990) :
    Calls Tryz.prog 101 #[.pointer (some ⟨C.v, 0, none⟩), .int .i64 (k : Int), .int .i64 (a : Int), .int .u64 (v : Int)] W (VolP W Fv C (.int .i64 (V.thr C k a v).1) (V.thr C k a v).2) := by
  have hln := hok.len
  have hE : V.thr C k a v = if V.S.swE 0 C.n0 (a : Int) ≠ 0 then (V.S.swE 0 C.n0 (a : Int), (V.wr0 C a v).loseV C k)
    else if (V.wr0 C a v).S.swE 1 C.n1 ((k * C.chunk + a % C.chunk : Nat) : Int) ≠ 0 then (0, ((V.wr0 C a v).wr1 C ((k * C.chunk + a % C.chunk : Nat) : Int) v).loseV C k)
    else (0, (V.wr0 C a v).wr1 C ((k * C.chunk + a % C.chunk : Nat) : Int) v) := rfl
  generalize V.thr C k a v = rR at *
  have hmul1 : k * C.chunk ≤ 1024 * 127 := Nat.mul_le_mul (by omega) hch
  have hmod := Nat.mod_lt a (show 0 < C.chunk by omega)
  have em1 : IntKind.i64.wrap ((k : Int) * (C.chunk : Int)) = ((k * C.chunk : Nat) : Int) := by
    rw [← Int.natCast_mul]; exact IntWalk.i64_in _ (by omega)
  have em2 := tmod_nat a C.chunk
  have em3 := emod_n33 a C.chunk
  have em4 : IntKind.i64.wrap (((k * C.chunk : Nat) : Int) + ((a % C.chunk : Nat) : Int)) = ((k * C.chunk + a % C.chunk : Nat) : Int) := by
    rw [IntWalk.i64_in _ (by omega)]; rfl
  have hB1 : Bd V (V.wr0 C a v) 1 0 := (Bd.refl hok hlen).sw 0 C.n0 (a : Int) v
  have hB2 : Bd V ((V.wr0 C a v).wr1 C ((k * C.chunk + a % C.chunk : Nat) : Int) v) 2 0 := hB1.sw 1 C.n1 ((k * C.chunk + a % C.chunk : Nat) : Int) v
  have hW1 : (V.wr0 C a v).S = V.S.swrite 0 C.n0 (a : Int) v := rfl
  generalize hka : k * C.chunk = ka at *
  generalize hkm : a % C.chunk = am at *
  have em5 : (ka : Int) + (am : Int) = ((ka + am : Nat) : Int) := rfl
  have hjb : ka + am ≤ 140000 := by omega
  generalize hj : ka + am = j at *
  obtain ⟨Fc, A, c, B, d, h⟩ := h.tight
  obtain ⟨c0, c1, c2, c3, c4, c5, c6, c7, c8, c9⟩ := h.cells
  have HW := Lib.hid (cwrite_any W Fc C.g C.s2 C.m C.n2 C.s0 0 C.n0 V.S V.ss (C.chunk : Int) V.md V.op (a : Int) v h.cache h.sp0 h.o0 hn0 hv (by omega) (by omega))
  have HE := Lib.hid hE
  have HH := Lib.hid h
  have t0 : ¬ (C.chunk : Int) = 0 := by omega
  have t0' : ¬ C.chunk = 0 := by omega
  clear hE h c0 c1 c2 c3 c4 c6 c7 c8 c9 hka hkm hmul1 hok hlen hj
  go_enter Tryz.func101, Tryz.ntmps101
  go_upto_region 2 with (go_at_call 192; refine HW.out.mono ?_; rintro e w1 ⟨rfl, Fc1, hc1', ht1⟩)
  have HH1 : Hid (VolIn w1 Fc1 _ C (V.wr0 C a v) A c B d) := HH.out.turn hc1' ht1
  have HT1 := Lib.hid (HH.out.wide ht1)
  clear HW hc1' ht1 c5 hW1
  generalize V.wr0 C a v = V1 at *
  generalize V.S.swE 0 C.n0 (a : Int) = e1 at *
  by_cases h1 : e1 = 0
  rotate_left
  · have hq : (e1 != 0) = true := by simpa using h1
    have HLO : Hid (∀ q, Calls _ _ _ (w1.drewN q) _) := fun q => vlose_any (w1.drewN q) _ C V1 k ⟨_, _, _, _, _, HH1.out.keep (below_drewN (Below.refl _ w1) q)⟩ hB1.ok hB1.len (by rw [hB1.sll]; exact hk) hn (by have := hB1.log; omega) (by have := hB1.wr; omega)
    have HE1 : Hid (rR = (e1, V1.loseV C k)) := HE.out.trans (if_pos h1)
    clear HE hB2
    go_quiet (fail)
    go_wp2_with (go_at_call 141; refine (HLO.out nq).mono ?_; rintro e w2 ⟨rfl, Fv2, hv2, ht2⟩; have HV2 := Lib.hid hv2; have HT2 := Lib.hid (HT1.out.trans ((Turn.of_below (below_drewN (Below.refl _ w1) nq)).trans ht2)); clear hv2 ht2)
    go_ret
    rw [HE1.out]
    exact ⟨rfl, _, HV2.out, HT2.out.tg⟩
  · subst h1
    have HE1 : Hid (rR = if V1.S.swE 1 C.n1 (j : Int) ≠ 0 then (0, (V1.wr1 C (j : Int) v).loseV C k) else (0, V1.wr1 C (j : Int) v)) := HE.out.trans (if_neg (fun e => e rfl))
    have HWT : Hid (∀ w, Below w1.heap.size w1 w → _) := fun w hw => cwrite_any w Fc1 C.g C.s2 C.m C.n2 C.s1 1 C.n1 V1.S V1.ss (C.chunk : Int) V1.md V1.op (j : Int) v (HH1.out.cache.keep hw) (HH1.out.sp1.below hw HH1.out.sp1.lt) HH1.out.o1 hn1 hv (by have := hB1.log; omega) (by have := hB1.wr; omega)
    obtain ⟨c0, c1, c2, c3, c4, c5, c6, c7, c8, c9⟩ := HH1.out.cells
    clear HE c0 c1 c2 c3 c5 c7 c8 c9
    go_still_tail 25, (by kernel_rfl)
    change wpList _ _ _ _ _ w1.drew
    clear c4 c6
    go_upto_if 44 with (go_at_call 192; refine (HWT.out w1.drew (Below.refl _ w1).drew).mono ?_; rintro e w3 ⟨rfl, Fc3, hc3, ht3⟩)
    have htd : Turn Fc1 Fc3 w1 w3 := (Turn.of_below (F := Fc1) (Below.refl _ w1).drew).trans ht3
    have HX3 : Hid (VolIn w3 Fc3 _ C (V1.wr1 C (j : Int) v) A c B d) := HH1.out.turn hc3 htd
    have HT3 := Lib.hid (HT1.out.trans (HH1.out.wide htd))
    clear hc3 ht3 htd HWT
    generalize V1.wr1 C (j : Int) v = V2 at *
    generalize V1.S.swE 1 C.n1 (j : Int) = e2 at *
    by_cases h2 : e2 = 0
    · have HE2 : Hid (rR = (0, V2)) := HE1.out.trans (if_neg (fun e => e h2))
      subst h2
      clear HE1
      go_wp2_with fail
      go_ret
      rw [HE2.out]
      exact ⟨rfl, _, ⟨_, _, _, _, _, HX3.out⟩, HT3.out.tg⟩
    · have hq : (e2 != 0) = true := by simpa using h2
      have HE2 : Hid (rR = (0, V2.loseV C k)) := HE1.out.trans (if_pos h2)
      have HLO := Lib.hid (vlose_any w3 _ C V2 k ⟨_, _, _, _, _, HX3.out⟩ hB2.ok hB2.len (by rw [hB2.sll]; exact hk) hn (by have := hB2.log; omega) (by have := hB2.wr; omega))
      clear HE1
      go_wp2_with (go_at_call 141; refine HLO.out.mono ?_; rintro e w4 ⟨rfl, Fv2, hv2, ht2⟩; have HV2 := Lib.hid hv2; have HT2 := Lib.hid (HT3.out.trans ht2); clear hv2 ht2)
      go_ret
      rw [HE2.out]
      exact ⟨rfl, _, HV2.out, HT2.out.tg⟩
set_option maxRecDepth 100000 in
set_option maxHeartbeats 4000000 in
theorem vbck_any (W : World) (Fv : Nat → Prop) (C : VC) (V : VS) (k a v : Nat) (x : Sl) (h : VolAt W Fv C V) (hok : V.x.Ok) (hlen : V.x.sl.length = V.ss.length) (hx : V.x.sl[k]? = some x) (hxv : x.valid = true) (ha : a ≤ 65536) (hv : v < 18446744073709551616) (hc1 : 1 ≤ C.chunk)
    (hch : C.chunk ≤ 127) (hn0 : C.n0 ≤ 65536) (hn1 : C.n1 ≤ 65536) (hn : C.n2 ≤ 65536) (hlog : V.S.log.length + 3 < 1000000) (hwr : V.S.wr ≤ 999990) :
    Calls Tryz.prog 102 #[.pointer (some ⟨C.v, 0, none⟩), .int .i64 (k : Int), .int .i64 (a : Int), .int .u64 (v : Int)] W (VolP W Fv C (.int .i64 (V.bck C k a v x).1) (V.bck C k a v x).2) := by
  obtain ⟨xv, xd, xb, xs⟩ := x
  dsimp only at hxv
  subst hxv
  have hln := hok.len
  have hk : k < V.x.sl.length := (List.getElem?_eq_some_iff.1 hx).1
  have hu1 : (k : Int) < (V.x.sl.length : Int) := by omega
  have hbk := (hok.blk _ (List.mem_of_getElem? hx) rfl).1
  dsimp only at hbk
  have hmul1 : k * C.chunk ≤ 1024 * 127 := Nat.mul_le_mul (by omega) hch
  have hmod := Nat.mod_lt a (show 0 < C.chunk by omega)
  have em1 : IntKind.i64.wrap ((k : Int) * (C.chunk : Int)) = ((k * C.chunk : Nat) : Int) := by
    rw [← Int.natCast_mul]; exact IntWalk.i64_in _ (by omega)
  have em2 := tmod_nat a C.chunk
  have em3 := emod_n33 a C.chunk
  have em4 : IntKind.i64.wrap (((k * C.chunk : Nat) : Int) + ((a % C.chunk : Nat) : Int)) = ((k * C.chunk + a % C.chunk : Nat) : Int) := by
    rw [IntWalk.i64_in _ (by omega)]; rfl
  have hE : V.bck C k a v ⟨true, xd, xb, xs⟩ = bnd (V.bc1 C k ⟨true, xd, xb, xs⟩) (fun V => (V.S.swE 1 C.n1 ((k * C.chunk + a % C.chunk : Nat) : Int), V.wr1 C ((k * C.chunk + a % C.chunk : Nat) : Int) v)) := rfl
  generalize V.bck C k a v ⟨true, xd, xb, xs⟩ = rR at *
  generalize hka : k * C.chunk = ka at *
  generalize hkm : a % C.chunk = am at *
  have em5 : (ka : Int) + (am : Int) = ((ka + am : Nat) : Int) := rfl
  have hjb : ka + am ≤ 140000 := by omega
  generalize hj : ka + am = j at *
  have hB1 : Bd V (V.setV C k ⟨true, true, xb, xs⟩) 1 0 := by
    have := (Bd.refl hok hlen).st (C := C) k ⟨true, true, xb, xs⟩ (by have := hok.setD k _ hx rfl true; unfold CS.setD at this; rw [CS.at_eq hx] at this; exact this)
    exact this
  obtain ⟨Fc, A, c, B, d, h⟩ := h.tight
  obtain ⟨bR, rfl⟩ := h.form (by omega)
  obtain ⟨c0, c1, c2, c3, c4, c5, c6, c7, c8, c9⟩ := h.cells
  obtain ⟨p0, p1, p2, p3⟩ := h.slotC hx
  have hb0 : Below W.heap.size W (W.alloc (.cells #[.bool true, .bool xd, .int .i64 xb, .int .i64 xs] 31)) := (Below.refl _ W).alloc (Nat.le_refl _) _
  have hC0 := Cs.new W 31 #[.bool true, .bool xd, .int .i64 xb, .int .i64 xs]
  have HE := Lib.hid hE
  have HH := Lib.hid h
  have HX := Lib.hid hx
  have HLEN := Lib.hid hlen
  have HOK := Lib.hid hok
  have t0 : ¬ (C.chunk : Int) = 0 := by omega
  have t0' : ¬ C.chunk = 0 := by omega
  clear hE h c0 c2 c3 c4 c5 c6 c7 c8 c9 hka hkm hmul1 hok hlen hx hj
  go_enter Tryz.func102, Tryz.ntmps102
  go_upto_region 2 with (fail)
  have HH1 := Lib.hid (HH.out.keep hb0)
  have HT1 := Lib.hid (Turn.of_below (F := Fv) hb0)
  have HB0 := Lib.hid hb0
  clear hb0 c1 p0 p1 p2 p3
  obtain ⟨t, ht⟩ : ∃ t, W.heap.size = t := ⟨_, rfl⟩
  rw [ht] at hC0 ⊢
  have HTE := Lib.hid ht
  clear ht
  generalize (W.alloc (.cells #[.bool true, .bool xd, .int .i64 xb, .int .i64 xs] 31)) = w1 at *
  have y1 : w1.cell? ⟨t, 1, none⟩ = some (.bool xd) := hC0.cell 1
  have f1 := hC0.free 1
  have HC0 := Lib.hid hC0
  clear hC0
  go_upto_if 23 with (fail)
  go_cut [] (fun wx => PrS W Fv C (V.bc1 C k ⟨true, xd, xb, xs⟩) wx)
  case first =>
    cases xd
    · have HE1 : Hid (V.bc1 C k ⟨true, false, xb, xs⟩ = bnd (V.setE C k, V.setV C k ⟨true, true, xb, xs⟩) (fun V1 => (V1.S.chkF 2, { V1 with S := V1.S.flush 2 }))) := rfl
      have hC3 : Cs (w1.setCell ⟨t, 1, none⟩ (.bool true)) t 31 #[.bool true, .bool true, .int .i64 xb, .int .i64 xs] := Cs.put (l := [_, _, _, _]) HC0.out _
      have hf3 := fr_set w1 t 1 (.bool true)
      have hX3 := HH1.out.fr hf3 (fun j hj e => by subst e; have h1 := hj.2; have h2 := HTE.out; omega)
      have HT3 := Lib.hid (((Turn.of_below (F := fun j => Fv j ∧ j < W.heap.size) HB0.out).set (b := t) (i := 1) (.inr (Nat.le_of_eq HTE.out)) (.bool true)).tg)
      have hlx := HLEN.out
      have HST := Lib.hid (vset_any (w1.setCell ⟨t, 1, none⟩ (.bool true)) _ C V k ⟨true, true, xb, xs⟩ ⟨_, _, _, _, _, hX3⟩ hlx (by omega) (by omega) hbk (fun e => by cases e) hn (by omega) (by omega))
      clear hX3 hf3
      go_upto_region 4 with (fail)
      clear y1 f1
      generalize (w1.setCell ⟨t, 1, none⟩ (.bool true)) = w3 at *
      have y0 : w3.cell? ⟨t, 0, none⟩ = some (.bool true) := hC3.cell 0
      have y1 : w3.cell? ⟨t, 1, none⟩ = some (.bool true) := hC3.cell 1
      have y2 : w3.cell? ⟨t, 2, none⟩ = some (.int .i64 xb) := hC3.cell 2
      have y3 : w3.cell? ⟨t, 3, none⟩ = some (.int .i64 xs) := hC3.cell 3
      unfold Sl.v at HST
      dsimp only at HST
      clear hC3 hlx
      go_upto_region 5 with (go_at_call 113; refine HST.out.mono ?_; rintro e w4 ⟨rfl, Fv4, hv4, ht4⟩)
      have HT4 := Lib.hid (HT3.out.trans ht4)
      clear ht4 y0 y1 y2 y3 HST
      generalize V.setV C k ⟨true, true, xb, xs⟩ = V2 at *
      generalize V.setE C k = e2 at *
      by_cases h2 : e2 = 0
      rotate_left
      · have hq : (e2 != 0) = true := by simpa using h2
        have HE2 : Hid (rR = (e2, V2)) := by
          show _ = _
          have e1 : V.bc1 C k ⟨true, false, xb, xs⟩ = (e2, V2) := HE1.out.trans (bnd_no h2)
          rw [HE.out, bnd_no (by rw [e1]; exact h2), e1]
        have HVV := Lib.hid hv4
        clear hv4 HE1
        go_wp2_with fail
        go_ret
        rw [HE2.out]
        exact ⟨rfl, _, HVV.out, HT4.out⟩
      · have HE2 : Hid (V.bc1 C k ⟨true, false, xb, xs⟩ = (V2.S.chkF 2, { V2 with S := V2.S.flush 2 })) := HE1.out.trans (bnd_ok h2)
        subst h2
        clear HE1
        obtain ⟨Fc, A, c, B, d, h⟩ := hv4
        obtain ⟨c0, -, -, -, -, -, -, -, -, -⟩ := h.cells
        have HX := Lib.hid h
        have HFL := Lib.hid (cmflush_any w4 Fc C.g C.s2 C.m C.n2 V2.S V2.ss (C.chunk : Int) V2.md V2.op h.cache (by have := hB1.log; omega))
        clear h
        go_upto_region 8 with (go_at_call 64; refine HFL.out.mono ?_; rintro e w5 ⟨rfl, Fc3, hc3, ht3⟩)
        have HV5 : Hid (VolAt w5 _ C { V2 with S := V2.S.flush 2 }) := ⟨_, _, _, _, _, HX.out.turn hc3 ht3⟩
        have HT5 := Lib.hid (HT4.out.trans (HX.out.wide ht3))
        clear HFL hc3 ht3 HX c0
        generalize ({ V2 with S := V2.S.flush 2 } : VS) = V3 at *
        generalize V2.S.chkF 2 = e3 at *
        by_cases h3 : e3 = 0
        rotate_left
        · have hq : (e3 != 0) = true := by simpa using h3
          have HE3 : Hid (rR = (e3, V3)) := by
            show _ = _
            rw [HE.out, bnd_no (by rw [HE2.out]; exact h3), HE2.out]
          go_wp2_with fail
          go_ret
          rw [HE3.out]
          exact ⟨rfl, _, HV5.out, HT5.out⟩
        · subst h3
          go_wp2_with fail
          go_meet
          case rel =>
            unfold PrS
            rw [HE2.out]
            exact ⟨rfl, _, HV5.out, HT5.out⟩
    · have HE1 : Hid (V.bc1 C k ⟨true, true, xb, xs⟩ = (0, V)) := rfl
      go_wp2_with fail
      go_meet
      case rel =>
        unfold PrS
        rw [HE1.out]
        exact ⟨rfl, Fv, ⟨_, _, _, _, _, HH1.out.fv (fun j hj => hj.1)⟩, HT1.out⟩
  case rest =>
    unfold PrS at hcut
    obtain ⟨h1, Fv1, hv1, ht1⟩ := hcut
    clear HH1 HT1 y1 f1 HC0
    have hB2 : Bd V (V.bc1 C k ⟨true, xd, xb, xs⟩).2 1 0 := by
      unfold VS.bc1
      split
      · exact (Bd.refl HOK.out HLEN.out).mono (by omega) (Nat.le_refl _)
      · exact bnd_cases (P := fun V' => Bd V V' 1 0) hB1 (fun _ => hB1.fl 2)
    have HE2 : Hid (rR = ((V.bc1 C k ⟨true, xd, xb, xs⟩).2.S.swE 1 C.n1 (j : Int), (V.bc1 C k ⟨true, xd, xb, xs⟩).2.wr1 C (j : Int) v)) := HE.out.trans (bnd_ok h1)
    clear HE h1
    generalize (V.bc1 C k ⟨true, xd, xb, xs⟩).2 = V3 at *
    obtain ⟨Fc, A, c, B, d, h⟩ := hv1
    obtain ⟨c0, c1, c2, c3, c4, c5, c6, c7, c8, c9⟩ := h.cells
    have HH := Lib.hid h
    have HT := Lib.hid ht1
    have HWT : Hid (∀ w, Below wc.heap.size wc w → _) := fun w hw => cwrite_any w Fc C.g C.s2 C.m C.n2 C.s1 1 C.n1 V3.S V3.ss (C.chunk : Int) V3.md V3.op (j : Int) v (HH.out.cache.keep hw) (HH.out.sp1.below hw HH.out.sp1.lt) HH.out.o1 hn1 hv (by have := hB2.log; omega) (by have := hB2.wr; omega)
    clear h ht1 c0 c1 c2 c3 c5 c7 c8 c9
    go_upto_region 10 with (fail)
    go_still_tail 22, (by kernel_rfl)
    change wpList _ _ _ _ _ wc.drew
    clear c4 c6
    go_wp2_with (go_at_call 192; refine (HWT.out wc.drew (Below.refl _ wc).drew).mono ?_; rintro e w3 ⟨rfl, Fc3, hc3, ht3⟩; have HX3 : Hid (VolIn w3 Fc3 _ C (V3.wr1 C (j : Int) v) A c B d) := HH.out.turn hc3 ((Turn.of_below (F := Fc) (Below.refl _ wc).drew).trans ht3); have HT3 := Lib.hid (HT.out.trans (HH.out.wide ((Turn.of_below (F := Fc) (Below.refl _ wc).drew).trans ht3))); clear hc3 ht3)
    go_ret
    rw [HE2.out]
    exact ⟨rfl, _, ⟨_, _, _, _, _, HX3.out⟩, HT3.out⟩
end Go.Proofs.YtogchafnnkajfaaGreat
