/-
  law34.start.
-/
import Derived.Test.YtpcjdmbnlhjlaaaRelI
import Derived.Test.YtpcjdmbnlhjlaaaRelE
import Derived.Test.YtpcjdmbnlhjlaaaTrkA
namespace Go.Proofs.Ytpcjdmbnlhjlaaa
set_option linter.unusedVariables false
open Go.RowKit
attribute [local go_sem] Oper.semAt_some

theorem opE_zero {n0 n1 : Nat} {ext done : Int} (h : opE n0 n1 ext done = 0) : 1 ≤ ext ∧ ext ≤ 1024 ∧ n0 = n1 ∧ n0 % ext.toNat = 0 ∧ 0 ≤ done ∧ done ≤ ((n0 / ext.toNat : Nat) : Int) := by
  unfold opE at h
  by_cases a1 : ext < 1 ∨ 1024 < ext
  · rw [if_pos a1] at h; cases h
  · rw [if_neg a1] at h
    by_cases a2 : n0 ≠ n1 ∨ n0 % ext.toNat ≠ 0
    · rw [if_pos a2] at h; cases h
    · rw [if_neg a2] at h
      by_cases a3 : done < 0 ∨ ((n0 / ext.toNat : Nat) : Int) < done
      · rw [if_pos a3] at h; cases h
      · have e1 : n0 = n1 := Classical.byContradiction fun h => a2 (.inl h)
        have e2 : n0 % ext.toNat = 0 := Classical.byContradiction fun h => a2 (.inr h)
        exact ⟨by omega, by omega, e1, e2, by omega, by omega⟩

/-- What start leaves of both sides, where they are opened. -/
structure P34 (lo : Nat) (W : World) (Fm : Nat → Prop) (pb g s0 s1 m rb bO cO bN cN bL cL n : Nat) (S : DS) (ext done : Nat) (cp : Bool) (rdone : Nat) (rcp : Bool) (old new : List Nat) : Prop where
  mov : MovAt W Fm g s0 s1 m n S ext done cp
  pair : Cs W pb 38 #[.pointer (some ⟨g, 0, none⟩), .slice (some ⟨bL, 0, none⟩) 2 cL, .pointer (some ⟨m, 0, none⟩), .pointer (some ⟨rb, 0, none⟩)]
  spans : W.ownsRow 0 74 1 (.slice (some ⟨bL, 0, none⟩) 2 cL) 2 (spv [s0, s1])
  ref : Cs W rb 52 #[.slice (some ⟨bO, 0, none⟩) n cO, .slice (some ⟨bN, 0, none⟩) n cN, .int .i64 (ext : Int), .int .i64 (rdone : Int), .bool rcp]
  ownO : W.ownsRow 0 32 1 (.slice (some ⟨bO, 0, none⟩) n cO) n (uv old)
  ownN : W.ownsRow 0 32 1 (.slice (some ⟨bN, 0, none⟩) n cN) n (uv new)
  ne : bO ≠ bN
  ap : ¬ Fm pb ∧ ¬ Fm rb ∧ ¬ Fm bO ∧ ¬ Fm bN ∧ ¬ Fm bL
  lo_ : lo < pb ∧ lo < rb ∧ lo < bO ∧ lo < bN ∧ lo < bL
  lof : ∀ j, Fm j → lo < j

def StartP (W : World) (n0 n1 : Nat) (l0 l1 : List Nat) (ext done : Int) (e : Ending) (W' : World) : Prop :=
  ∃ pb, e = .returned (.tuple #[.pointer (some ⟨pb, 0, none⟩), .bool true]) ∧ Below W.heap.size W W' ∧ W.heap.size ≤ pb ∧
    (opE n0 n1 ext done ≠ 0 → W'.cell? ⟨pb, 2, none⟩ = some (.pointer none)) ∧
    (opE n0 n1 ext done = 0 → ∃ Fm g s0 s1 m rb bO cO bN cN bL cL, ∀ lo, lo < W.heap.size → P34 lo W' Fm pb g s0 s1 m rb bO cO bN cN bL cL n0 (DS.full [l0, l1]) ext.toNat done.toNat false done.toNat false l0 l1)

set_option maxRecDepth 100000 in
set_option maxHeartbeats 8000000 in
theorem start34_any (W : World) (A0 A1 : Option Addr) (n0 n1 c0 c1 : Nat) (l0 l1 : List Nat) (hA0 : Reads W A0 (uv l0)) (hA1 : Reads W A1 (uv l1)) (h0 : l0.length = n0) (h1 : l1.length = n1) (hn0 : 1 ≤ n0 ∧ n0 ≤ 60000) (hn1 : 1 ≤ n1 ∧ n1 ≤ 60000) (hw0 : W64 l0) (hw1 : W64 l1) (ext done : Int) :
    Calls Try.prog 10 #[.slice A0 n0 c0, .slice A1 n1 c1, .int .i64 ext, .int .i64 done] W (StartP W n0 n1 l0 l1 ext done) := by
  have HN0 := Lib.hid h0
  have HN1 := Lib.hid h1
  have HA0 := Lib.hid hA0
  have HA1 := Lib.hid hA1
  obtain ⟨i0, hi0, hz0, hz1, hz2⟩ := info_parts u64_info
  clear h0 h1 hA0 hA1
  go_enter Try.func10, Try.ntmps10
  go_wp2_with (first
    | (at_builtin; refine wpList_append_reads _ (by rfl) _ _ _ (by rfl) W.heap.size 32 i0 _ 1 8 Try.underlying30 hi0 hz0 hz1 hz2 rfl (by omega) (.slice none 0 0) 0 [] (by rfl) (World.ownsRow_nil _ _ _ _) A1 n1 c1 (uv l1) (by rfl) (by rw [uv_length, HN1.out]; omega) (HA1.out.keep HB5.out) (uv_one l1) (by simp only [maxLen]; omega) (by omega) (HB5.out.size) ?_; intro v6 w6 hown6 hg6 hat6; obtain ⟨A6, c6, hv6⟩ := own_form hown6; subst hv6; simp only [Nat.zero_add, List.nil_append] at hown6; have HO6 := Lib.hid hown6; have HB6 := Lib.hid ((Below.refl w5.heap.size w5).grown hg6 (Nat.le_refl _) (by intro k hk; simp [Value.ownBlock] at hk)); clear hown6 hg6 hat6)
    | (at_builtin; refine wpList_append_reads _ (by rfl) _ _ _ (by rfl) W.heap.size 32 i0 _ 1 8 Try.underlying30 hi0 hz0 hz1 hz2 rfl (by omega) (.slice none 0 0) 0 [] (by rfl) (World.ownsRow_nil _ _ _ _) A0 n0 c0 (uv l0) (by rfl) (by rw [uv_length, HN0.out]; omega) HA0.out (uv_one l0) (by simp only [maxLen]; omega) (by omega) (Nat.le_refl _) ?_; intro v5 w5 hown5 hg5 hat5; obtain ⟨A5, c5, hv5⟩ := own_form hown5; subst hv5; simp only [Nat.zero_add, List.nil_append] at hown5; have HO5 := Lib.hid hown5; have HB5 := Lib.hid ((Below.refl W.heap.size W).grown hg5 (Nat.le_refl _) (by intro k hk; simp [Value.ownBlock] at hk)); clear hown5 hg5 hat5))
  have hv : ([⟨A5, c5, l0⟩, ⟨A6, c6, l1⟩].map Im.v).toArray = #[Value.slice A5 n0 c5, Value.slice A6 n1 c6] := by simp [Im.v, HN0.out, HN1.out]
  have HC6 : Hid (Cs (w6.alloc (.cells #[Value.slice A5 n0 c5, Value.slice A6 n1 c6] 30)) w6.heap.size 30 ([⟨A5, c5, l0⟩, ⟨A6, c6, l1⟩].map Im.v).toArray) := by show Cs _ _ _ _; rw [hv]; exact Cs.new w6 _ _
  clear hv
  have hb7 : Below w6.heap.size w6 (w6.alloc (.cells #[Value.slice A5 n0 c5, Value.slice A6 n1 c6] 30)) := (Below.refl _ _).alloc (Nat.le_refl _) _
  have HR5 := Lib.hid (((Reads.of_own HO5.out).keep HB6.out).keep hb7)
  have HR6 := Lib.hid ((Reads.of_own HO6.out).keep hb7)
  have hw5s : W.heap.size ≤ w5.heap.size := HB5.out.size
  have hw6s : w5.heap.size ≤ w6.heap.size := HB6.out.size
  have HB7 := Lib.hid ((HB5.out.trans (HB6.out.mono hw5s)).trans (hb7.mono (by omega)))
  clear hb7 HB5 HB6 HO5 HO6
  refine (loaded_any _ w6.heap.size 2 2 [⟨A5, c5, l0⟩, ⟨A6, c6, l1⟩] HC6.out rfl (by omega) (by intro p hp; simp at hp; rcases hp with rfl | rfl; exact HR5.out; exact HR6.out) (by intro p hp; simp at hp; rcases hp with rfl | rfl; rw [HN0.out]; exact ⟨hn0.1, by omega, hw0⟩; rw [HN1.out]; exact ⟨hn1.1, by omega, hw1⟩)).mono ?_
  rintro e V ⟨g, rfl, hd, hbV⟩
  have HBV := Lib.hid (HB7.out.trans (hbV.mono HB7.out.size))
  obtain ⟨F, hdF, hge⟩ : ∃ F : Nat → Prop, DskAt V F g (DS.full [l0, l1]) ∧ ∀ j, F j → W.heap.size ≤ j ∧ j < V.heap.size := ⟨_, hd.tight, by intro j hj; have := hj.1; simp at this; exact ⟨by omega, hj.2⟩⟩
  have HD := Lib.hid hdF
  have HGE := Lib.hid hge
  clear hd hge hbV HB7 HC6 HR5 HR6 hdF
  go_wp2_with fail
  refine (spans_any V _ g (DS.full [l0, l1]) HD.out (by intro x hx; simp [DS.full] at hx; rcases hx with rfl | rfl; show 1 ≤ l0.length; rw [HN0.out]; exact hn0.1; show 1 ≤ l1.length; rw [HN1.out]; exact hn1.1)).mono ?_
  rintro e V2 ⟨v2, sps, rfl, hsl, hown, hsp, hb2⟩
  have hsl2 : sps.length = 2 := hsl
  obtain ⟨s0, s1, rfl⟩ : ∃ s0 s1, sps = [s0, s1] := by
    rcases sps with _ | ⟨s0, _ | ⟨s1, _ | ⟨q, r⟩⟩⟩
    · simp at hsl2
    · simp at hsl2
    · exact ⟨s0, s1, rfl⟩
    · simp at hsl2
  obtain ⟨hs0, hsg0⟩ := hsp 0 s0 rfl
  obtain ⟨hs1, hsg1⟩ := hsp 1 s1 rfl
  change SpanAt V2 s0 g 0 l0.length at hs0
  change SpanAt V2 s1 g 1 l1.length at hs1
  rw [HN0.out] at hs0
  rw [HN1.out] at hs1
  change V2.ownsRow V.heap.size _ 1 v2 2 _ at hown
  obtain ⟨bL, cL, hvL, hbL, hbLl⟩ := hown.form (by omega)
  subst hvL
  have x0 : V2.cell? ⟨bL, 0, none⟩ = some (.iface 114 (.pointer (some ⟨s0, 0, none⟩))) := (hown.cellAt 0 (by omega)).trans rfl
  have x1 : V2.cell? ⟨bL, 1, none⟩ = some (.iface 114 (.pointer (some ⟨s1, 0, none⟩))) := (hown.cellAt 1 (by omega)).trans rfl
  have HD2 := Lib.hid (HD.out.keep hb2)
  have HS0 := Lib.hid hs0
  have HS1 := Lib.hid hs1
  have HL := Lib.hid hown
  have HB2 := Lib.hid (HBV.out.trans (hb2.mono HBV.out.size))
  have hVs : W.heap.size ≤ V.heap.size := HBV.out.size
  have hV2s : V.heap.size ≤ V2.heap.size := hb2.size
  have hl2 : (DS.full [l0, l1]).dr.length = 2 := rfl
  have hne0 : bL ≠ s0 := own_cs_ne hown hs0 (by decide)
  have hne1 : bL ≠ s1 := own_cs_ne hown hs1 (by decide)
  have hs0l := Cs.lt hs0
  have hs1l := Cs.lt hs1
  clear hs0 hs1 hown hb2 hsp hsl hsl2 hl2 HBV HD
  go_wp2_with fail
  go_region_held3 (fun w' => w'.cell? ⟨bL, 0, none⟩ = some (.iface 114 (.pointer (some ⟨s0, 0, none⟩))) ∧ w'.cell? ⟨bL, 1, none⟩ = some (.iface 114 (.pointer (some ⟨s1, 0, none⟩))))
    (first | exact yy | exact ⟨x0, x1⟩)
    ((go_at_call 33; refine (ropen34_any V2.drew g s0 s1 n0 n1 (Cs.below HS0.out (Below.refl _ _).drew hs0l) (Cs.below HS1.out (Below.refl _ _).drew hs1l) (by omega) (by omega) ext done).mono ?_; rintro e V3 ⟨vm, rfl, hb3, hm0, hm1⟩; have yy : V3.cell? ⟨bL, 0, none⟩ = some (.iface 114 (.pointer (some ⟨s0, 0, none⟩))) ∧ V3.cell? ⟨bL, 1, none⟩ = some (.iface 114 (.pointer (some ⟨s1, 0, none⟩))) := ⟨(hb3.cell (p := ⟨bL, 0, none⟩) (by simpa using hbLl)).trans x0, (hb3.cell (p := ⟨bL, 1, none⟩) (by simpa using hbLl)).trans x1⟩))
  have hb23 : Below V2.heap.size V2 V3 := (Below.refl _ V2).drew.trans hb3
  have HB3 := Lib.hid (HB2.out.trans (hb23.mono HB2.out.size))
  have hV3s : V2.heap.size ≤ V3.heap.size := hb23.size
  have HD3 := Lib.hid (HD2.out.keep hb23)
  have HS03 : Hid (SpanAt V3 s0 g 0 n0) := Cs.below HS0.out hb23 hs0l
  have HS13 : Hid (SpanAt V3 s1 g 1 n1) := Cs.below HS1.out hb23 hs1l
  have HL3 := Lib.hid (own_keepB HL.out hb23)
  have HM0 := Lib.hid hm0
  have HM1 := Lib.hid hm1
  clear hb3 hb23 hm0 hm1 yy x0 x1 HD2 HS0 HS1 HL HB2
  by_cases hop : opE n0 n1 ext done = 0
  · obtain ⟨m, rfl, hmn, hmc⟩ := HM1.out hop
    have HOP := Lib.hid hop
    have HMC := Lib.hid hmc
    have hml := hmc.lt
    have hmn : V2.heap.size ≤ m := hmn
    clear hop HM0 HM1 hmc
    go_wp2_with (first
    | (at_builtin; refine wpList_append_reads _ (by rfl) _ _ _ (by rfl) w5.heap.size 32 i0 _ 1 8 Try.underlying30 hi0 hz0 hz1 hz2 rfl (by omega) (.slice none 0 0) 0 [] (by rfl) (World.ownsRow_nil _ _ _ _) A1 n1 c1 (uv l1) (by rfl) (by rw [uv_length, HN1.out]; omega) (HA1.out.keep HB5.out) (uv_one l1) (by simp only [maxLen]; omega) (by omega) (Nat.le_refl _) ?_; intro v6 w6 hown6 hg6 hat6; simp only [Nat.zero_add, List.nil_append] at hown6; obtain ⟨bN, cN, hv6, hbN, hbNl⟩ := hown6.form (by omega); subst hv6; have HO6 := Lib.hid hown6; have HB6 := Lib.hid ((Below.refl w5.heap.size w5).grown hg6 (Nat.le_refl _) (by intro k hk; simp [Value.ownBlock] at hk)); clear hown6 hg6 hat6)
    | (at_builtin; refine wpList_append_reads _ (by rfl) _ _ _ (by rfl) V3.heap.size 32 i0 _ 1 8 Try.underlying30 hi0 hz0 hz1 hz2 rfl (by omega) (.slice none 0 0) 0 [] (by rfl) (World.ownsRow_nil _ _ _ _) A0 n0 c0 (uv l0) (by rfl) (by rw [uv_length, HN0.out]; omega) (HA0.out.keep HB3.out) (uv_one l0) (by simp only [maxLen]; omega) (by omega) (Nat.le_refl _) ?_; intro v5 w5 hown5 hg5 hat5; simp only [Nat.zero_add, List.nil_append] at hown5; obtain ⟨bO, cO, hv5, hbO, hbOl⟩ := hown5.form (by omega); subst hv5; have HO5 := Lib.hid hown5; have HB53 := Lib.hid ((Below.refl V3.heap.size V3).grown hg5 (Nat.le_refl _) (by intro k hk; simp [Value.ownBlock] at hk)); have HB5 := Lib.hid (HB3.out.trans (HB53.out.mono HB3.out.size)); have hw5s : V3.heap.size ≤ w5.heap.size := HB53.out.size; clear hown5 hg5 hat5))
    refine (rropen34_any w6 _ _ n0 n1 cO cN (by omega) (by omega) ext done).mono ?_
    rintro e w7 ⟨vr, rfl, hb7, hr0, hr1⟩
    obtain ⟨rb, rfl, hrn, hrc⟩ := hr1 HOP.out
    have HRC := Lib.hid hrc
    have HB67 := Lib.hid hb7
    have hrl := hrc.lt
    clear hr0 hr1 hrc hb7
    go_wp2_with fail
    go_ret2
    have hs5 : V3.heap.size ≤ w5.heap.size := HB53.out.size
    have hs6 : w5.heap.size ≤ w6.heap.size := HB6.out.size
    have hs7 : w6.heap.size ≤ w7.heap.size := HB67.out.size
    have b56 : Below V3.heap.size V3 w6 := HB53.out.trans (HB6.out.mono hs5)
    have b57 : Below V3.heap.size V3 w7 := b56.trans (HB67.out.mono (by omega))
    have bE := b57.alloc (by omega) (.cells #[.pointer (some ⟨g, 0, none⟩), .slice (some ⟨bL, 0, none⟩) 2 cL, .pointer (some ⟨m, 0, none⟩), .pointer (some ⟨rb, 0, none⟩)] 38)
    obtain ⟨p1, p2, p3, p4, p5, p6⟩ := opE_zero HOP.out
    refine ⟨w7.heap.size, rfl, HB3.out.trans (bE.mono HB3.out.size), by omega, fun e => absurd HOP.out e, fun _ => ⟨fun j => F j ∨ j = s0 ∨ j = s1 ∨ j = m, g, s0, s1, m, rb, bO, cO, bN, cN, bL, cL, fun lo hlo => ?_⟩⟩
    subst p3
    obtain ⟨q, rfl⟩ : ∃ q : Nat, ext = (q : Int) := ⟨ext.toNat, by omega⟩
    obtain ⟨d, rfl⟩ : ∃ d : Nat, done = (d : Int) := ⟨done.toNat, by omega⟩
    rw [Int.toNat_natCast, Int.toNat_natCast]
    have hF : ∀ j, F j → W.heap.size ≤ j ∧ j < V.heap.size := HGE.out
    have a6E : Below w6.heap.size w6 (w7.alloc (.cells #[.pointer (some ⟨g, 0, none⟩), .slice (some ⟨bL, 0, none⟩) 2 cL, .pointer (some ⟨m, 0, none⟩), .pointer (some ⟨rb, 0, none⟩)] 38)) := HB67.out.alloc hs7 _
    have a5E : Below w5.heap.size w5 (w7.alloc (.cells #[.pointer (some ⟨g, 0, none⟩), .slice (some ⟨bL, 0, none⟩) 2 cL, .pointer (some ⟨m, 0, none⟩), .pointer (some ⟨rb, 0, none⟩)] 38)) := HB6.out.trans (a6E.mono hs6)
    refine ⟨⟨F, ⟨HD3.out.keep bE, fun j hj => .inl hj, Cs.below HS03.out bE (by omega), Cs.below HS13.out bE (by omega), fun e => by have := hF _ e; omega, fun e => by have := hF _ e; omega, .inr (.inl rfl), .inr (.inr (.inl rfl)), fun e => by have := hF _ e; omega, .inr (.inr (.inr rfl)), by omega, by omega, HMC.out.below bE hml⟩⟩, Cs.new w7 _ _, ?_, HRC.out.below (Below.alloc (Below.refl _ w7) (Nat.le_refl _) _) hrl, own_lower (own_keepB HO5.out a5E) (Nat.zero_le _), own_lower (own_keepB HO6.out a6E) (Nat.zero_le _), by omega, ⟨?_, ?_, ?_, ?_, ?_⟩, by omega, ?_⟩
    · exact own_lower (own_keepB HL3.out bE) (Nat.zero_le _)
    · rintro (h | h | h | h)
      · have := hF _ h; omega
      · omega
      · omega
      · omega
    · rintro (h | h | h | h)
      · have := hF _ h; omega
      · omega
      · omega
      · omega
    · rintro (h | h | h | h)
      · have := hF _ h; omega
      · omega
      · omega
      · omega
    · rintro (h | h | h | h)
      · have := hF _ h; omega
      · omega
      · omega
      · omega
    · rintro (h | h | h | h)
      · have := hF _ h; omega
      · exact hne0 h
      · exact hne1 h
      · omega
    · rintro j (h | h | h | h)
      · have := hF _ h; omega
      · omega
      · omega
      · omega
  · have hvm := HM0.out hop
    subst hvm
    have HOP := Lib.hid hop
    clear hop HM0 HM1
    go_wp2_with (first
    | (at_builtin; refine wpList_append_reads _ (by rfl) _ _ _ (by rfl) w5.heap.size 32 i0 _ 1 8 Try.underlying30 hi0 hz0 hz1 hz2 rfl (by omega) (.slice none 0 0) 0 [] (by rfl) (World.ownsRow_nil _ _ _ _) A1 n1 c1 (uv l1) (by rfl) (by rw [uv_length, HN1.out]; omega) (HA1.out.keep HB5.out) (uv_one l1) (by simp only [maxLen]; omega) (by omega) (Nat.le_refl _) ?_; intro v6 w6 hown6 hg6 hat6; simp only [Nat.zero_add, List.nil_append] at hown6; obtain ⟨bN, cN, hv6, hbN, hbNl⟩ := hown6.form (by omega); subst hv6; have HO6 := Lib.hid hown6; have HB6 := Lib.hid ((Below.refl w5.heap.size w5).grown hg6 (Nat.le_refl _) (by intro k hk; simp [Value.ownBlock] at hk)); clear hown6 hg6 hat6)
    | (at_builtin; refine wpList_append_reads _ (by rfl) _ _ _ (by rfl) V3.heap.size 32 i0 _ 1 8 Try.underlying30 hi0 hz0 hz1 hz2 rfl (by omega) (.slice none 0 0) 0 [] (by rfl) (World.ownsRow_nil _ _ _ _) A0 n0 c0 (uv l0) (by rfl) (by rw [uv_length, HN0.out]; omega) (HA0.out.keep HB3.out) (uv_one l0) (by simp only [maxLen]; omega) (by omega) (Nat.le_refl _) ?_; intro v5 w5 hown5 hg5 hat5; simp only [Nat.zero_add, List.nil_append] at hown5; obtain ⟨bO, cO, hv5, hbO, hbOl⟩ := hown5.form (by omega); subst hv5; have HO5 := Lib.hid hown5; have HB53 := Lib.hid ((Below.refl V3.heap.size V3).grown hg5 (Nat.le_refl _) (by intro k hk; simp [Value.ownBlock] at hk)); have HB5 := Lib.hid (HB3.out.trans (HB53.out.mono HB3.out.size)); have hw5s : V3.heap.size ≤ w5.heap.size := HB53.out.size; clear hown5 hg5 hat5))
    refine (rropen34_any w6 _ _ n0 n1 cO cN (by omega) (by omega) ext done).mono ?_
    rintro e w7 ⟨vr, rfl, hb7, hr0, hr1⟩
    have hvr := hr0 HOP.out
    subst hvr
    have HB67 := Lib.hid hb7
    clear hr0 hr1 hb7
    go_wp2_with fail
    go_ret2
    have hs5 : V3.heap.size ≤ w5.heap.size := HB53.out.size
    have hs6 : w5.heap.size ≤ w6.heap.size := HB6.out.size
    have hs7 : w6.heap.size ≤ w7.heap.size := HB67.out.size
    have b56 : Below V3.heap.size V3 w6 := HB53.out.trans (HB6.out.mono hs5)
    have b57 : Below V3.heap.size V3 w7 := b56.trans (HB67.out.mono (by omega))
    have bE := b57.alloc (by omega) (.cells #[.pointer (some ⟨g, 0, none⟩), .slice (some ⟨bL, 0, none⟩) 2 cL, .pointer none, .pointer none] 38)
    exact ⟨w7.heap.size, rfl, HB3.out.trans (bE.mono HB3.out.size), by omega, fun _ => (Cs.new w7 38 #[.pointer (some ⟨g, 0, none⟩), .slice (some ⟨bL, 0, none⟩) 2 cL, .pointer none, .pointer none]).cell 2, fun e => absurd e HOP.out⟩

end Go.Proofs.Ytpcjdmbnlhjlaaa
