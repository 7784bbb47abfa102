/-
  The law RelocateSound.
-/
import Derived.Test.YtpcjdmbnlhjlaaaRelM
import Derived.Test.YtpcjdmbnlhjlaaaSndC
namespace Go.Proofs.Ytpcjdmbnlhjlaaa
set_option linter.unusedVariables false
open Go.RowKit
attribute [local go_sem] Oper.semAt_some

theorem few_any (A : Option Addr) (n c : Nat) (W : World) : Calls Try.prog 25 #[.slice A n c] W fun e w' => e = .returned (.bool (decide (n ≤ 24))) ∧ W = w' := by
  by_cases h : n ≤ 24
  · have t1 : (n : Int) ≤ 24 := by omega
    have d1 : decide ((n : Int) ≤ 24) = true := by simpa using t1
    go_enter Try.func25, Try.ntmps25
    go_wp2_with fail
    go_ret
    exact ⟨by simp [h], rfl⟩
  · have t1 : ¬ (n : Int) ≤ 24 := by omega
    have d1 : decide ((n : Int) ≤ 24) = false := by simpa using t1
    go_enter Try.func25, Try.ntmps25
    go_wp2_with fail
    go_ret
    exact ⟨by simp [], rfl⟩

set_option maxRecDepth 100000 in
set_option maxHeartbeats 8000000 in
theorem sound34_any (As Am : Option Addr) (n c lm cm : Nat) (ls : List Stp) (mv : List Int) (ext : Int) (W : World) (hn : ls.length = n) (hs : Reads W As (svs ls)) (hok : StpOk ls) (hm : mv.length = lm) (hmv : Reads W Am (iv mv)) (hmw : I64 mv) (he : -9223372036854775808 ≤ ext ∧ ext ≤ 9223372036854775807) :
    Calls Try.prog 5 #[.slice As n c, .slice Am lm cm, .int .i64 ext] W fun e w' => e = .returned (.bool true) ∧ Below W.heap.size W w' := by
  have HN := Lib.hid hn
  have HS := Lib.hid hs
  have HOK := Lib.hid hok
  have HM := Lib.hid hm
  have HMV := Lib.hid hmv
  have HMW := Lib.hid hmw
  clear hn hs hok hm hmv hmw
  go_enter Try.func5, Try.ntmps5
  go_wp2_with fail
  refine (few_any As n c W).mono ?_
  rintro e W0 ⟨rfl, rfl⟩
  by_cases h24 : n ≤ 24
  · have d1 : decide (n ≤ 24) = true := by simpa using h24
    have u1 := Int.tmod_lt_of_pos ext (b := (3 : Int)) (by omega)
    have u2 : -(3 : Int) < ext.tmod 3 := Int.lt_tmod_of_pos ext (by omega)
    obtain ⟨T, hT⟩ : ∃ T, ext.tmod 3 = T := ⟨_, rfl⟩
    rw [hT] at u1 u2
    have u3 : IntKind.i64.wrap (T + 3) = T + 3 := IntWalk.i64_in _ (by omega)
    have u4 := Int.tmod_lt_of_pos (T + 3) (b := (3 : Int)) (by omega)
    have u5 := Int.tmod_nonneg (3 : Int) (show 0 ≤ T + 3 by omega)
    obtain ⟨V, hV⟩ : ∃ V, (T + 3).tmod 3 = V := ⟨_, rfl⟩
    rw [hV] at u4 u5
    obtain ⟨x, hx⟩ : ∃ x : Nat, 1 + V = (x : Int) := ⟨(1 + V).toNat, by omega⟩
    have u6 : IntKind.i64.wrap (1 + V) = (x : Int) := by rw [IntWalk.i64_in _ (by omega)]; exact hx
    have u7 : IntKind.i64.wrap (4 * (x : Int)) = ((4 * x : Nat) : Int) := by rw [IntWalk.i64_in _ (by omega)]; rfl
    have hx1 : 1 ≤ x ∧ x ≤ 3 := by omega
    obtain ⟨z, hz⟩ : ∃ z, 4 * x = z := ⟨_, rfl⟩
    have hmod : z % x = 0 := by rw [← hz]; exact Nat.mul_mod_left 4 x
    have hzl : 1 ≤ z ∧ z ≤ 12 := by omega
    rw [hz] at u7
    clear hx u4 u5
    go_wp2_with fail
    refine (words2_any z 3 W (by omega)).mono ?_
    rintro e W1 ⟨v1, rfl, ho1, hb1⟩
    obtain ⟨A5, c5, hv1⟩ := own_form ho1
    subst hv1
    have HO5 := Lib.hid ho1
    have HB5 := Lib.hid hb1
    clear ho1 hb1
    go_wp2_with fail
    refine (words2_any z 80 W1 (by omega)).mono ?_
    rintro e W2 ⟨v2, rfl, ho2, hb2⟩
    obtain ⟨A6, c6, hv2⟩ := own_form ho2
    subst hv2
    have HO6 := Lib.hid ho2
    have HB6 := Lib.hid hb2
    clear ho2 hb2
    have hl0 := wordsL_length 3 z
    have hl1 := wordsL_length 80 z
    have hw0 := wordsL_w 3 z
    have hw1 := wordsL_w 80 z
    generalize hg0 : wordsL 3 z = l0 at *
    have HE0 := Lib.hid hg0
    clear hg0
    generalize wordsL 80 z = l1 at *
    have HL0 := Lib.hid hl0
    have HL1 := Lib.hid hl1
    clear hl0 hl1
    go_wp2_with fail
    have hv : ([⟨A5, c5, l0⟩, ⟨A6, c6, l1⟩].map Im.v).toArray = #[Value.slice A5 z c5, Value.slice A6 z c6] := by simp [Im.v, HL0.out, HL1.out]
    have HC6 : Hid (Cs (W2.alloc (.cells #[Value.slice A5 z c5, Value.slice A6 z c6] 30)) W2.heap.size 30 ([⟨A5, c5, l0⟩, ⟨A6, c6, l1⟩].map Im.v).toArray) := by show Cs _ _ _ _; rw [hv]; exact Cs.new W2 _ _
    clear hv
    have hb7 : Below W2.heap.size W2 (W2.alloc (.cells #[Value.slice A5 z c5, Value.slice A6 z c6] 30)) := (Below.refl _ _).alloc (Nat.le_refl _) _
    have HR5 := Lib.hid (((Reads.of_own HO5.out).keep HB6.out).keep hb7)
    have HR6 := Lib.hid ((Reads.of_own HO6.out).keep hb7)
    have hw5s : W.heap.size ≤ W1.heap.size := HB5.out.size
    have hw6s : W1.heap.size ≤ W2.heap.size := HB6.out.size
    have HB7 := Lib.hid ((HB5.out.trans (HB6.out.mono hw5s)).trans (hb7.mono (by omega)))
    clear hb7 HB5 HB6 HO5 HO6
    refine (loaded_any _ W2.heap.size 2 2 [⟨A5, c5, l0⟩, ⟨A6, c6, l1⟩] HC6.out rfl (by omega) (by intro p hp; simp at hp; rcases hp with rfl | rfl; exact HR5.out; exact HR6.out) (by intro p hp; simp at hp; rcases hp with rfl | rfl; rw [HL0.out]; exact ⟨hzl.1, by omega, hw0⟩; rw [HL1.out]; exact ⟨hzl.1, by omega, hw1⟩)).mono ?_
    rintro e V1 ⟨g, rfl, hd, hbV⟩
    have HBV := Lib.hid (HB7.out.trans (hbV.mono HB7.out.size))
    obtain ⟨F, hdF, hge⟩ : ∃ F : Nat → Prop, DskAt V1 F g (DS.full [l0, l1]) ∧ ∀ j, F j → W.heap.size ≤ j ∧ j < V1.heap.size := ⟨_, hd.tight, by intro j hj; have := hj.1; simp at this; exact ⟨by omega, hj.2⟩⟩
    have HD := Lib.hid hdF
    have HGE := Lib.hid hge
    clear hd hge hbV HB7 HC6 HR5 HR6 hdF
    go_wp2_with fail
    refine (spans_any V1 _ g (DS.full [l0, l1]) HD.out (by intro x hx; simp [DS.full] at hx; rcases hx with rfl | rfl; show 1 ≤ l0.length; rw [HL0.out]; exact hzl.1; show 1 ≤ l1.length; rw [HL1.out]; exact hzl.1)).mono ?_
    rintro e V2 ⟨v2, sps, rfl, hsl, hown, hsp, hb2⟩
    have hsl2 : sps.length = 2 := hsl
    obtain ⟨s0, s1, rfl⟩ : ∃ s0 s1, sps = [s0, s1] := by
      rcases sps with _ | ⟨s0, _ | ⟨s1, _ | ⟨q, r⟩⟩⟩
      · simp at hsl2
      · simp at hsl2
      · exact ⟨s0, s1, rfl⟩
      · simp at hsl2
    obtain ⟨hs0, hsg0⟩ := hsp 0 s0 rfl
    obtain ⟨hs1, hsg1⟩ := hsp 1 s1 rfl
    change SpanAt V2 s0 g 0 l0.length at hs0
    change SpanAt V2 s1 g 1 l1.length at hs1
    rw [HL0.out] at hs0
    rw [HL1.out] at hs1
    change V2.ownsRow V1.heap.size _ 1 v2 2 _ at hown
    obtain ⟨bL, cL, hvL, hbL, hbLl⟩ := hown.form (by omega)
    subst hvL
    have HD2 := Lib.hid (HD.out.keep hb2)
    have HS0 := Lib.hid hs0
    have HS1 := Lib.hid hs1
    have HL := Lib.hid hown
    have HB2 := Lib.hid (HBV.out.trans (hb2.mono HBV.out.size))
    have hVs : W.heap.size ≤ V1.heap.size := HBV.out.size
    have hV2s : V1.heap.size ≤ V2.heap.size := hb2.size
    have hs0l := Cs.lt hs0
    have hs1l := Cs.lt hs1
    clear hs0 hs1 hown hb2 hsp hsl hsl2 HBV HD
    go_wp2_with fail
    have hdr := Cs.new V2 63 #[.pointer (some ⟨g, 0, none⟩), .slice (some ⟨bL, 0, none⟩) 2 cL, .int .i64 (x : Int), .int .i64 0, .slice Am lm cm, .int .i64 0, .pointer none]
    obtain ⟨K, hKe⟩ : ∃ K : Dk, K = ⟨W.heap.size, V2.heap.size, g, s0, s1, bL, cL, Am, lm, cm, mv, z, x⟩ := ⟨_, rfl⟩
    have hK : K.Ok := by rw [hKe]; exact ⟨by show z ≤ _; omega, hx1.1, by show x ≤ 4; omega, hmod, HM.out, HMW.out⟩
    have hb3 : Below V2.heap.size V2 (V2.alloc (.cells #[.pointer (some ⟨g, 0, none⟩), .slice (some ⟨bL, 0, none⟩) 2 cL, .int .i64 (x : Int), .int .i64 0, .slice Am lm cm, .int .i64 0, .pointer none] 63)) := (Below.refl _ _).alloc (Nat.le_refl _) _
    have hsz3 : (V2.alloc (.cells #[.pointer (some ⟨g, 0, none⟩), .slice (some ⟨bL, 0, none⟩) 2 cL, .int .i64 (x : Int), .int .i64 0, .slice Am lm cm, .int .i64 0, .pointer none] 63)).heap.size = V2.heap.size + 1 := by simp
    generalize V2.alloc _ = V3 at *
    have hB3 := HB2.out.trans (hb3.mono HB2.out.size)
    have hsl0 : (DS.full [l0, l1]).log.length = 0 := rfl
    obtain ⟨F0, hF0⟩ : ∃ F0 : Nat → Prop, F0 = fun j => F j ∨ j = s0 ∨ j = s1 ∨ j = V2.heap.size ∨ j = bL := ⟨_, rfl⟩
    have hlt0 : ∀ j, F0 j → W.heap.size ≤ j ∧ j < V3.heap.size := by
      intro j hj
      rw [hF0] at hj
      have := HGE.out j
      rcases hj with hj | rfl | rfl | rfl | rfl
      · have := HGE.out j hj; omega
      · omega
      · omega
      · omega
      · omega
    have hf1 : ¬ F s0 := fun e => by have := HGE.out _ e; omega
    have hf2 : ¬ F s1 := fun e => by have := HGE.out _ e; omega
    have hf3 : ¬ F V2.heap.size := fun e => by have := HGE.out _ e; omega
    have hf4 : ¬ F bL := fun e => by have := HGE.out _ e; omega
    have hst := MR.start z x l0 l1 HL0.out HL1.out
    have hzz : ZZ K V3 F0 (l0.map Sec.start) 0 := by
      rw [hKe, hF0]
      refine ⟨fun j hj => (hlt0 j (by rw [hF0]; exact hj)).1, F, DS.full [l0, l1], 0, 0, .pointer none, ⟨HD2.out.keep hb3, Cs.below HS0.out hb3 hs0l, Cs.below HS1.out hb3 hs1l, hf1, hf2, .inr (.inl rfl), .inr (.inr (.inl rfl)), ⟨fun j hj => .inl hj, hdr, own_lower (own_keepB HL.out hb3) (Nat.zero_le _), hf3, .inr (.inr (.inr (.inl rfl))), hf4, .inr (.inr (.inr (.inr rfl))), fun w' hw' => HMV.out.keep (hB3.trans (hw'.mono (Nat.le_refl _))), hB3.size⟩⟩, hst.1, hst.2, by omega, Int.le_refl _, by omega⟩
    have HZ := Lib.hid hzz
    have HB3 := Lib.hid hB3
    have HLT := Lib.hid hlt0
    have hdp : K.dp = V2.heap.size := by rw [hKe]
    have hkg : K.g = g := by rw [hKe]
    have hkB : K.B = W.heap.size := by rw [hKe]
    have hkn : K.n = z := by rw [hKe]
    have HD0 : Hid (K.dp = V2.heap.size ∧ K.g = g ∧ K.B = W.heap.size ∧ K.n = z) := ⟨hdp, hkg, hkB, hkn⟩
    clear hdp hkg hkB hkn hKe hzz hB3 hlt0 hf1 hf2 hf3 hf4 hst hF0 hb3 hdr HD2 HS0 HS1 HL HB2 hsz3 hsl0
    refine (words2_any z 3 V3 (by omega)).mono ?_
    rintro e V4 ⟨v4, rfl, ho4, hb4⟩
    rw [HE0.out] at ho4
    obtain ⟨A9, c9, hv4⟩ := own_form ho4
    subst hv4
    have HZ4 := Lib.hid (HZ.out.fr (Fr.of_below (G := fun _ => False) hb4) (fun _ _ h => h) (fun _ h => h.elim))
    have HB4 := Lib.hid (HB3.out.trans (hb4.mono HB3.out.size))
    have hi : ∀ w', Fr F0 V4 w' → Reads w' A9 (uv l0) := fun w' hf => Reads.of_own (own_fr ho4 hf (fun b hb hj => by have := own_ge ho4 b hb; have := HLT.out b hj; omega))
    have hsr : ∀ w', Fr F0 V4 w' → Reads w' As (svs ls) := fun w' hf => HS.out.keep (HB4.out.trans (hf.below HB4.out.size (fun j hj => (HLT.out j hj).1)))
    have hL : 1 + (n + 2) * (z + 4) ≤ 80000 := by
      have := Nat.mul_le_mul (show n + 2 ≤ 26 by omega) (show z + 4 ≤ 16 by omega)
      omega
    have hs := sound_any (w := V4) (F := F0) K.dp (drv_dev hK) l0 ls A9 As c9 c n HZ4.out (by rw [HD0.out.2.2.1]; exact HB4.out.size) (by rw [HL0.out, HD0.out.2.2.2]) (by rw [HD0.out.2.2.2]; omega) (by rw [HD0.out.2.2.2]; omega) HN.out hi hsr hw0 HOK.out (by rw [HD0.out.2.2.2]; exact hL) (by omega)
    rw [HD0.out.1, HD0.out.2.1, HD0.out.2.2.2] at hs
    have HSD := Lib.hid hs
    clear hs hi hsr ho4 hb4 HZ HB3 HZ4 hL
    go_wp2_with fail
    refine HSD.out.mono ?_
    rintro e V5 ⟨rfl, F5, ht5⟩
    have HB5 := Lib.hid (HB4.out.trans (ht5.1.below HB4.out.size (fun j hj => (HLT.out j hj).1)))
    clear ht5 HSD
    go_wp2_with fail
    refine (awake34_any _).mono ?_
    rintro e w1 ⟨rfl, hb1⟩
    go_wp2_with fail
    go_ret
    exact ⟨rfl, HB5.out.trans (hb1.mono HB5.out.size)⟩
  · have d1 : decide (n ≤ 24) = false := by simpa using h24
    go_wp2_with fail
    refine (awake34_any _).mono ?_
    rintro e w1 ⟨rfl, hb1⟩
    go_wp2_with fail
    go_ret
    exact ⟨rfl, hb1⟩

end Go.Proofs.Ytpcjdmbnlhjlaaa
