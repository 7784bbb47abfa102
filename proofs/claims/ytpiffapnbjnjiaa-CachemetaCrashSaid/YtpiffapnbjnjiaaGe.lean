/-
  law32.device.
  cachemeta.widths, sealed.
  The words of a cache, in plain numbers.
  cachemeta.number, Size, Word.
  cachemeta.head, first.
  cachemeta.first.
  block.WriteAll, where each write is OK.
  One disk, in plain terms.
-/
import Derived.Test.YtpiffapnbjnjiaaGd
import Derived.Deep.DeepCutAuto
namespace Go.Proofs.Ytpiffapnbjnjiaa
set_option linter.unusedVariables false
open Go.RowKit
attribute [local go_sem] Oper.semAt_some

theorem DskAt.tight {W : World} {F : Nat → Prop} {g : Nat} {S : DS} (h : DskAt W F g S) : DskAt W (fun j => F j ∧ j < W.heap.size) g S := by
  obtain ⟨ho, dv, lv, mb, zs, hl, hi⟩ := h
  exact ⟨ho, dv, lv, mb, zs, hl, hi.lt hl⟩

/-- A disk in new memory, and its span. -/
def DevAt (W0 W : World) (F : Nat → Prop) (g sp n : Nat) (S : DS) : Prop :=
  DskAt W F g S ∧ SpanAt W sp g 0 n ∧ ¬ F sp ∧ (∀ j, F j → W0.heap.size ≤ j) ∧ W0.heap.size ≤ sp

def DeviceP (W : World) (l : List Nat) (e : Ending) (W' : World) : Prop :=
  ∃ F g sp, e = .returned (.tuple #[.pointer (some ⟨g, 0, none⟩), spanV sp, .bool true]) ∧ DevAt W W' F g sp l.length (DS.full [l]) ∧ Below W.heap.size W W'

set_option maxRecDepth 100000 in
set_option maxHeartbeats 2000000 in
theorem device_any (W : World) (A : Option Addr) (n c : Nat) (l : List Nat) (hA : Reads W A (uv l)) (hn : l.length = n) (h1 : 1 ≤ n) (h2 : n ≤ 65536) (hw : W64 l) :
    Calls Try.prog 11 #[.slice A n c] W (DeviceP W l) := by
  have HN := Lib.hid hn
  have HA := Lib.hid hA
  obtain ⟨i0, hi0, hz0, hz1, hz2⟩ := info_parts u64_info
  clear hn hA
  go_enter Try.func11, Try.ntmps11
  go_wp2_with (at_builtin; refine wpList_append_reads _ (by rfl) _ _ _ (by rfl) W.heap.size 28 i0 _ 1 8 Try.underlying25 hi0 hz0 hz1 hz2 rfl (by omega) (.slice none 0 0) 0 [] (by rfl) (World.ownsRow_nil _ _ _ _) A n c (uv l) (by rfl) (by rw [uv_length, HN.out]; omega) HA.out (uv_one l) (by simp only [maxLen]; omega) (by omega) (Nat.le_refl _) ?_; intro v5 w5 hown5 hg5 hat5; obtain ⟨A5, c5, hv5⟩ := own_form hown5; subst hv5; simp only [Nat.zero_add, List.nil_append] at hown5; have HO5 := Lib.hid hown5; have HB5 := Lib.hid ((Below.refl W.heap.size W).grown hg5 (Nat.le_refl _) (by intro k hk; simp [Value.ownBlock] at hk)); clear hown5 hg5 hat5)
  have hw5 : W.heap.size ≤ w5.heap.size := HB5.out.size
  have HC5 := Lib.hid (Cs.new w5 25 ([⟨A5, c5, l⟩].map Im.v).toArray)
  have hv : ([⟨A5, c5, l⟩].map Im.v).toArray = #[Value.slice A5 n c5] := by simp [Im.v, HN.out]
  have HC5 : Hid (Cs (w5.alloc (.cells #[Value.slice A5 n c5] 25)) w5.heap.size 25 ([⟨A5, c5, l⟩].map Im.v).toArray) := by show Cs _ _ _ _; rw [hv]; exact Cs.new w5 _ _
  clear hv
  have hb6 : Below w5.heap.size w5 (w5.alloc (.cells #[Value.slice A5 n c5] 25)) := (Below.refl _ _).alloc (Nat.le_refl _) _
  have hR6 := (Reads.of_own HO5.out).keep hb6
  refine (loaded_any _ w5.heap.size 1 1 [⟨A5, c5, l⟩] HC5.out rfl (by omega) (by intro p hp; simp at hp; subst hp; exact hR6) (by intro p hp; simp at hp; subst hp; rw [HN.out]; exact ⟨h1, h2, hw⟩)).mono ?_
  rintro e V ⟨g, rfl, hd, hbV⟩
  have hWV : Below W.heap.size W V := (HB5.out.trans (hb6.mono hw5)).trans (hbV.mono (by simp; omega))
  have HD := Lib.hid hd.tight
  have hge : ∀ j, ((w5.alloc (.cells #[Value.slice A5 n c5] 25)).heap.size ≤ j ∧ j < V.heap.size) → W.heap.size ≤ j := by intro j hj; have := hj.1; simp at this; omega
  have HGE := Lib.hid hge
  clear hd hge hR6 hb6 HC5 hbV
  go_wp2_with fail
  refine (spans_any V _ g (DS.full [l]) HD.out (by intro x hx; simp [DS.full] at hx; subst hx; show 1 ≤ l.length; rw [HN.out]; exact h1)).mono ?_
  rintro e V2 ⟨v2, sps, rfl, hsl, hown, hsp, hb2⟩
  obtain ⟨A2, c2, hv2⟩ := own_form hown
  subst hv2
  change sps.length = 1 at hsl
  obtain ⟨sp, rfl⟩ : ∃ sp, sps = [sp] := by
    rcases sps with _ | ⟨sp, _ | ⟨q, r⟩⟩
    · simp at hsl
    · exact ⟨sp, rfl⟩
    · simp at hsl
  obtain ⟨hs0, hsg⟩ := hsp 0 sp rfl
  change SpanAt V2 sp g 0 l.length at hs0
  obtain ⟨b2, off2, hA2, hb2l, hc2⟩ := Reads.of_own hown (by simp [spv])
  subst hA2
  have hcell := hc2 0 _ rfl
  have HD2 := Lib.hid (HD.out.keep hb2)
  have HS0 := Lib.hid hs0
  have hl1 : ((DS.full [l]).dr.length : Int) = 1 := rfl
  have hl2 : (DS.full [l]).dr.length = 1 := rfl
  have hbf := hWV.trans (hb2.mono hWV.size)
  rw [hl2] at *
  unfold spanV at hcell
  rw [Nat.add_zero] at hcell
  have hVs : W.heap.size ≤ V.heap.size := hWV.size
  clear hown hsp hc2 hs0 hsl hl1 hl2 hWV hb2
  go_wp2_with fail
  go_quiet (fail)
  go_wp2_with fail
  go_ret3
  exact ⟨_, g, sp, rfl, ⟨HD2.out.drewN _, HS0.out, fun h => by have := h.2; omega, HGE.out, Nat.le_trans hVs hsg⟩, below_drewN hbf _⟩

end Go.Proofs.Ytpiffapnbjnjiaa

namespace Go.Proofs.Ytpiffapnbjnjiaa
set_option linter.unusedVariables false
open Go.RowKit

def wHead : List Int := [11, 7, 2, 1, 16, 16]
def wSlot : List Int := [24, 1, 1, 22, 16]

set_option maxHeartbeats 400000 in
theorem widths0_any (w : World) :
    Calls Try.prog 44 #[.int .i64 0] w fun e w' => e = .returned (.tuple #[.slice (some ⟨w.heap.size, 0, none⟩) 6 6, .int .i64 4]) ∧ Reads w' (some ⟨w.heap.size, 0, none⟩) (iv wHead) ∧ Below w.heap.size w w' := by
  go_enter Try.func44, Try.ntmps44
  go_wp2_with fail
  go_ret2
  exact ⟨rfl, (Reads.new w #[.int .i64 11, .int .i64 7, .int .i64 2, .int .i64 1, .int .i64 16, .int .i64 16] _).keep (((Below.refl _ _).alloc (Nat.le_refl _) _).alloc (by simp) _), (((Below.refl _ w).alloc (Nat.le_refl _) _).alloc (by simp) _).alloc (by simp; omega) _⟩
set_option maxHeartbeats 400000 in
theorem widths1_any (w : World) :
    Calls Try.prog 44 #[.int .i64 1] w fun e w' => e = .returned (.tuple #[.slice (some ⟨w.heap.size + 1, 0, none⟩) 5 5, .int .i64 4]) ∧ Reads w' (some ⟨w.heap.size + 1, 0, none⟩) (iv wSlot) ∧ Below w.heap.size w w' := by
  go_enter Try.func44, Try.ntmps44
  go_wp2_with fail
  go_ret2
  refine ⟨rfl, ?_, (((Below.refl _ w).alloc (Nat.le_refl _) _).alloc (by simp) _).alloc (by simp; omega) _⟩
  have := Reads.new (w.alloc (.cells #[.int .i64 11, .int .i64 7, .int .i64 2, .int .i64 1, .int .i64 16, .int .i64 16] 3)) #[.int .i64 24, .int .i64 1, .int .i64 1, .int .i64 22, .int .i64 16] 3
  rw [World.size_alloc] at this
  exact this.keep ((Below.refl _ _).alloc (Nat.le_refl _) _)

/-- The widths of a kind. -/
def wOf (kind : Nat) : List Int := if kind = 0 then wHead else wSlot
theorem wOf_len (kind : Nat) : (wOf kind).length = if kind = 0 then 6 else 5 := by unfold wOf; split <;> rfl
theorem widths_any (kind : Nat) (hk : kind ≤ 1) (w : World) :
    Calls Try.prog 44 #[.int .i64 (kind : Int)] w fun e w' => ∃ g, e = .returned (.tuple #[.slice (some ⟨g, 0, none⟩) (wOf kind).length (wOf kind).length, .int .i64 4]) ∧ Reads w' (some ⟨g, 0, none⟩) (iv (wOf kind)) ∧ Below w.heap.size w w' := by
  rcases (show kind = 0 ∨ kind = 1 by omega) with rfl | rfl
  · refine (widths0_any w).mono ?_
    rintro e w' ⟨rfl, h⟩
    exact ⟨_, rfl, h⟩
  · refine (widths1_any w).mono ?_
    rintro e w' ⟨rfl, h⟩
    exact ⟨_, rfl, h⟩

/-- The fields, cut to their widths, k of them. -/
def mkG (ws : List Int) (vs : List Nat) : Nat → List Nat
  | 0 => vs
  | k + 1 => (mkG ws vs k).set k ((vs[k]?.getD 0) &&& (2 ^ (ws[k]?.getD 0).toNat - 1))
theorem mkG_length (ws : List Int) (vs : List Nat) (k : Nat) : (mkG ws vs k).length = vs.length := by
  induction k with
  | zero => rfl
  | succ k ih => simp [mkG, ih]
theorem mkG_at (ws : List Int) (vs : List Nat) (k j : Nat) (h : k ≤ j) : (mkG ws vs k)[j]?.getD 0 = vs[j]?.getD 0 := by
  induction k with
  | zero => rfl
  | succ k ih => rw [mkG, List.getElem?_set_ne (by omega)]; exact ih (by omega)
theorem mkG_w (ws : List Int) (vs : List Nat) (h : W64 vs) (k : Nat) : W64 (mkG ws vs k) := by
  induction k with
  | zero => exact h
  | succ k ih => exact ih.set k _ (and_lt _ (h.at k))
theorem wOf_at (kind k : Nat) (h : k < (wOf kind).length) : 1 ≤ (wOf kind)[k]?.getD 0 ∧ (wOf kind)[k]?.getD 0 ≤ 24 := by
  unfold wOf at *
  split
  · rename_i hk
    rw [if_pos hk] at h
    change k < 6 at h
    match k, h with
    | 0, _ | 1, _ | 2, _ | 3, _ | 4, _ | 5, _ => decide
  · rename_i hk
    rw [if_neg hk] at h
    change k < 5 at h
    match k, h with
    | 0, _ | 1, _ | 2, _ | 3, _ | 4, _ => decide
theorem mk_bits (x n : Nat) (hx : x < 18446744073709551616) (hn : n < 64) : bits BinOp.and IntKind.u64 (x : Int) (IntKind.u64.wrap (IntKind.u64.wrap (2 ^ n) - 1)) = ((x &&& (2 ^ n - 1) : Nat) : Int) := by
  have := two_pow_lt n hn
  rw [ones_wrap n hn, u64_and_nat _ _ hx (by omega)]
theorem reads_cell (w : World) (g : Nat) (ws : List Int) (hr : Reads w (some ⟨g, 0, none⟩) (iv ws)) (k : Nat) (hk : k < ws.length) : w.cell? ⟨g, k, none⟩ = some (.int .i64 (ws[k]?.getD 0)) := by
  obtain ⟨b, off, e, _, hc⟩ := hr.i (by omega)
  simp only [Option.some.injEq, Addr.mk.injEq] at e
  obtain ⟨rfl, rfl, _⟩ := e
  have := hc k hk
  rwa [Nat.zero_add] at this

/-- The checksum of a word. -/
def sumW (x : Nat) : Nat := shortC (extendC 0 [x])
theorem sumW_lt (x : Nat) : sumW x < 65536 := shortC_lt _
def cutG (kind : Nat) (vs : List Nat) : List Nat := (mkG (wOf kind) vs (wOf kind).length).set 4 0
def sealG (kind : Nat) (vs : List Nat) : Nat := wordR (wOf kind) ((cutG kind vs).set 4 (sumW (wordR (wOf kind) (cutG kind vs))))
theorem cutG_w (kind : Nat) (vs : List Nat) (h : W64 vs) : W64 (cutG kind vs) := (mkG_w _ _ h _).set _ _ (by omega)
theorem cutG_length (kind : Nat) (vs : List Nat) : (cutG kind vs).length = vs.length := by rw [cutG, List.length_set, mkG_length]

set_option maxRecDepth 100000 in
set_option maxHeartbeats 1000000 in
theorem sealed_any (kind : Nat) (hk : kind ≤ 1) (A : Option Addr) (c n : Nat) (vs : List Nat) (w : World) (hA : Reads w A (uv vs)) (hn : vs.length = n) (hn2 : n = (wOf kind).length) (hw : W64 vs) :
    Calls Try.prog 48 #[.int .i64 (kind : Int), .slice A n c] w fun e w' => e = .returned (.int .u64 (sealG kind vs : Int)) ∧ Below w.heap.size w w' := by
  have hn56 : 5 ≤ n ∧ n ≤ 6 := by rw [hn2, wOf_len]; split <;> omega
  have HN := Lib.hid hn
  have HN2 := Lib.hid hn2
  have HA := Lib.hid hA
  have HW := Lib.hid hw
  have HAT := Lib.hid (wOf_at kind)
  have hwid := widths_any kind hk w
  rw [← hn2] at hwid
  have HWI := Lib.hid hwid
  have hwl : (wOf kind).length = n := hn2.symm
  have HWL := Lib.hid hwl
  have HSG : Hid (sealG kind vs = wordR (wOf kind) ((cutG kind vs).set 4 (sumW (wordR (wOf kind) (cutG kind vs))))) := rfl
  have HCG : Hid (cutG kind vs = (mkG (wOf kind) vs n).set 4 0) := by show _ = _; rw [cutG, hwl]
  have hcw := cutG_w kind vs hw
  have HCL : Hid ((cutG kind vs).length = n) := by show _ = _; rw [cutG_length, hn]
  generalize wOf kind = ws at *
  clear hn hn2 hA hw hwid hwl
  go_enter Try.func48, Try.ntmps48
  go_wp2_with fail
  refine HWI.out.mono ?_
  rintro e w1 ⟨gw, rfl, hr, hb⟩
  have HR := Lib.hid hr
  clear hr HWI
  go_wp2_with fail
  have hAk := HA.out.keep hb
  have hcl := clone_any A c vs w1 hAk (by rw [HN.out]; omega)
  rw [HN.out] at hcl
  refine hcl.mono ?_
  rintro e w2 ⟨v, rfl, hown, hb2⟩
  obtain ⟨gl, cl, rfl, hgl, hgl2⟩ := hown.form (by omega)
  have HO := Lib.hid hown
  have hw12 : w.heap.size ≤ w1.heap.size := hb.size
  clear hown hcl hAk
  go_wp2_with fail
  go_loopw [21] (fun i wr => ∃ j : Nat, j ≤ n ∧ i = .int .i64 j ∧ wr.ownsRow w1.heap.size 28 1 (.slice (some ⟨gl, 0, none⟩) n cl) n (uv (mkG ws vs j)) ∧ Below w1.heap.size w1 wr) (fun i _ => n - (intOf i).toNat)
  case atStart => exact ⟨0, by omega, rfl, HO.out, hb2⟩
  case round =>
    obtain ⟨j, hj, rfl, hown, hbr⟩ := hrel
    by_cases hlt : j < n
    · have hh := HAT.out j (by rw [HWL.out]; exact hlt)
      have hc1 := reads_cell _ _ _ (HR.out.keep hbr) j (by rw [HWL.out]; exact hlt)
      have hc2 := hown.cellAt j (by omega)
      have hf := hown.frozenAt j
      rw [uv_at _ _ (by rw [mkG_length, HN.out]; exact hlt), mkG_at _ _ _ _ (Nat.le_refl _)] at hc2
      have hx := HW.out.at j
      have hst := (hown.stored j (.int .u64 (((vs[j]?.getD 0) &&& (2 ^ (ws[j]?.getD 0).toNat - 1) : Nat) : Int))).1
      rw [uv_set] at hst
      have HST : Hid ((wr.setCell ⟨gl, j, none⟩ (.int .u64 (((vs[j]?.getD 0) &&& (2 ^ (ws[j]?.getD 0).toNat - 1) : Nat) : Int))).ownsRow w1.heap.size 28 1 (.slice (some ⟨gl, 0, none⟩) n cl) n (uv (mkG ws vs (j + 1)))) := hst
      have hbs := hbr.setCell (p := ⟨gl, j, none⟩) hgl (.int .u64 (((vs[j]?.getD 0) &&& (2 ^ (ws[j]?.getD 0).toNat - 1) : Nat) : Int))
      have hmb := mk_bits (vs[j]?.getD 0) (ws[j]?.getD 0).toNat hx (by omega)
      generalize (vs[j]?.getD 0) = x at *
      generalize (ws[j]?.getD 0) = m at *
      clear hst hown
      generalize (x &&& (2 ^ m.toNat - 1)) = y at HST hbs hmb
      go_wp2_with fail
      go_still_tail 9, (by kernel_rfl)
      go_wp2_with fail
      go_roundw
      case rel => exact ⟨j + 1, by omega, by go_num, World.ownsRow.drew HST.out, hbs.drew⟩
      case measure => simp [intOf]; omega
    · have hjn : j = n := by omega
      subst hjn
      have f4 := hown.frozenAt 4
      have hc4 := hown.cellAt 4 (by omega)
      rw [uv_at _ _ (by rw [mkG_length, HN.out]; omega)] at hc4
      have hst := (hown.stored 4 (.int .u64 (0 : Int))).1
      rw [show (Value.int IntKind.u64 0) = .int .u64 ((0 : Nat) : Int) from rfl, uv_set, ← HCG.out] at hst
      have HST := Lib.hid hst
      have hbs := hbr.setCell (p := ⟨gl, 4, none⟩) hgl (.int .u64 (0 : Int))
      generalize (mkG ws vs j)[4]?.getD 0 = x4 at hc4
      clear hst hown
      go_upto_region 9 with (fail)
      generalize (wr.setCell _ _) = V at HST hbs ⊢
      clear hc4 f4 hbr
      go_wp2_with fail
      refine (fields_all (some ⟨gw, 0, none⟩) (some ⟨gl, 0, none⟩) j cl j j ws (cutG kind vs) V HWL.out HCL.out (HR.out.keep hbs) (Reads.of_own HST.out) (by omega) hcw).mono ?_
      rintro e V1 ⟨rfl, hb3⟩
      have HO3 := Lib.hid (own_keepB HST.out hb3)
      have hbs3 := hbs.trans (hb3.mono hbs.size)
      have hxlt : wordR ws (cutG kind vs) < 18446744073709551616 := by unfold wordR; split; exact wordF_lt _ _; omega
      generalize hx0 : wordR ws (cutG kind vs) = x0 at *
      have HX0 := Lib.hid hx0
      generalize wordE ws (cutG kind vs) = e0
      clear hb3 HST hx0
      go_wp2_with fail
      have hR4 : Reads (V1.alloc (.cells #[.int .u64 (x0 : Int)] 28)) (some ⟨V1.heap.size, 0, none⟩) (uv [x0]) := Reads.new V1 _ _
      have hO4 := HO3.out.alloc (.cells #[.int .u64 (x0 : Int)] 28)
      have hb4 := hbs3.alloc hbs3.size (.cells #[.int .u64 (x0 : Int)] 28)
      have HO4 := Lib.hid hO4
      generalize hq : V1.heap.size = b1 at *
      generalize (V1.alloc _) = V2 at HO4 hR4 hb4 ⊢
      clear hq hO4
      refine (words_sum (some ⟨b1, 0, none⟩) 1 1 [x0] V2 rfl hR4 (by intro y hy; simp at hy; omega) (by omega)).mono ?_
      rintro e V3 ⟨rfl, hb5⟩
      have HO5 := Lib.hid (own_keepB HO4.out hb5)
      have hbs5 := hb4.trans (hb5.mono hb4.size)
      have hext := extendC_lt 0 [x0]
      have HSW : Hid (sumW x0 = shortC (extendC 0 [x0])) := rfl
      generalize extendC 0 [x0] = ex at *
      clear hb5 HO4 hR4 hb4
      go_wp2_with fail
      refine (short_any ex V3 hext).mono ?_
      rintro e V4 ⟨rfl, rfl⟩
      rw [← HSW.out]
      have hsl := sumW_lt x0
      have f4 := HO5.out.frozenAt 4
      have hc4 := HO5.out.cellAt 4 (by omega)
      rw [uv_at _ _ (by rw [HCL.out]; omega)] at hc4
      have hst := (HO5.out.stored 4 (.int .u64 (sumW x0 : Int))).1
      rw [uv_set] at hst
      have HST := Lib.hid hst
      have hbs6 := hbs5.setCell (p := ⟨gl, 4, none⟩) hgl (.int .u64 (sumW x0 : Int))
      have hcw2 := hcw.set 4 (sumW x0) (by omega)
      have HCL2 : Hid (((cutG kind vs).set 4 (sumW x0)).length = j) := by show _ = _; rw [List.length_set, HCL.out]
      generalize (cutG kind vs)[4]?.getD 0 = c4 at hc4
      generalize sumW x0 = sw at *
      clear hst
      go_wp2_with fail
      generalize (V3.setCell _ _) = V5 at HST hbs6 ⊢
      clear hc4 f4
      refine (fields_all (some ⟨gw, 0, none⟩) (some ⟨gl, 0, none⟩) j cl j j ws ((cutG kind vs).set 4 sw) V5 HWL.out HCL2.out (HR.out.keep hbs6) (Reads.of_own HST.out) (by omega) hcw2).mono ?_
      rintro e V6 ⟨rfl, hb7⟩
      have hfin := hb.trans ((hbs6.trans (hb7.mono hbs6.size)).mono hw12)
      go_wp2_with fail
      go_ret
      exact ⟨by rw [HSG.out]; rfl, hfin⟩

end Go.Proofs.Ytpiffapnbjnjiaa

namespace Go.Proofs.Ytpiffapnbjnjiaa
set_option linter.unusedVariables false
open Go.RowKit

theorem low_bits (x : Int) (n : Nat) (hn : n ≤ 64) : bits BinOp.and IntKind.u64 (IntKind.u64.wrap x) ((2 ^ n - 1 : Nat) : Int) = ((x % ((2 ^ n : Nat) : Int)).toNat : Int) := by
  obtain ⟨y, e, hy⟩ := any_u64 x
  have h2 : 2 ^ n ≤ 18446744073709551616 := by
    have := Nat.pow_le_pow_right (n := 2) (by omega) hn
    simpa using this
  have h0 : 0 < 2 ^ n := Nat.pow_pos (by omega)
  rw [e, u64_and_nat _ _ hy (by omega), Nat.and_two_pow_sub_one_eq_mod]
  congr 1
  have h : IntKind.u64.wrap x = x % 18446744073709551616 := by simp [IntKind.wrap, IntKind.signed, IntKind.bits]
  rw [h] at e
  obtain ⟨q, hq⟩ : 2 ^ n ∣ 18446744073709551616 := by
    have := Nat.pow_dvd_pow 2 hn
    simpa using this
  have hm : (x % ((2 ^ n : Nat) : Int)) = ((y % 2 ^ n : Nat) : Int) := by
    rw [Int.natCast_emod, ← e]
    have : (18446744073709551616 : Int) = ((2 ^ n : Nat) : Int) * (q : Int) := by rw [← Int.natCast_mul, ← hq]; rfl
    exact (Int.emod_emod_of_dvd x ⟨(q : Int), this⟩).symm
  rw [hm]; rfl

theorem or_fits (a b n : Nat) (h : a < 2 ^ n) : a ||| (b * 2 ^ n) = a + b * 2 ^ n := by
  rw [Nat.or_comm, ← Nat.shiftLeft_eq, ← Nat.shiftLeft_add_eq_or_of_lt h, Nat.add_comm]

theorem shl_u (a n : Nat) (h : a * 2 ^ n < 18446744073709551616) : IntKind.u64.wrap ((a : Int) * ((2 ^ n : Nat) : Int)) = ((a * 2 ^ n : Nat) : Int) := by
  rw [← Int.natCast_mul, wrap_nat, Nat.mod_eq_of_lt h]

theorem mod_nat (x : Int) (n : Nat) (h : 0 < n) : (x % (n : Int)).toNat < n := by
  have := Int.emod_lt_of_pos x (b := (n : Int)) (by omega)
  omega

/-- The word 0 without its checksum. -/
def hdB (a b c d : Nat) : Nat := a + b * 2048 + c * 262144 + d * 1048576 + 17219 * 137438953472
/-- The word 0. -/
def hdW (a b c d : Nat) : Nat := hdB a b c d + sumW (hdB a b c d) * 2097152
/-- The word of a slot without its checksum. -/
def slB (a d : Nat) : Nat := a + 16777216 + d * 33554432
/-- The word of a slot. -/
def slW (a d : Nat) : Nat := slB a d + sumW (slB a d) * 281474976710656

set_option maxRecDepth 100000 in
theorem word_hd (K L C B S : Nat) (hK : K < 2048) (hL : L < 128) (hC : C < 4) (hB : B < 2) (hS : S < 65536) :
    wordR wHead [K, L, C, B, S, 17219] = K + L * 2048 + C * 262144 + B * 1048576 + S * 2097152 + 17219 * 137438953472 := by
  have hf : upto (fldOf wHead) 6 = [⟨0, 2047, by omega, by omega⟩, ⟨11, 127, by omega, by omega⟩, ⟨18, 3, by omega, by omega⟩, ⟨20, 1, by omega, by omega⟩, ⟨21, 65535, by omega, by omega⟩, ⟨37, 65535, by omega, by omega⟩] := by rfl
  have hl : wHead.length = 6 := rfl
  have hfit : fitsB (upto (fldOf wHead) 6) [K, L, C, B, S, 17219] = true := by
    rw [hf]
    simp [fitsB]
    omega
  unfold wordR
  rw [hl, if_pos ⟨rfl, by decide, hfit⟩, hf]
  simp only [wordF, List.getElem?_cons_zero, Option.getD_some, List.tail_cons, Nat.shiftLeft_eq, Nat.or_zero]
  rw [Nat.mod_eq_of_lt (by omega), Nat.mod_eq_of_lt (by omega), Nat.mod_eq_of_lt (by omega), Nat.mod_eq_of_lt (by omega), Nat.mod_eq_of_lt (by omega), Nat.mod_eq_of_lt (by omega)]
  rw [← Nat.or_assoc, ← Nat.or_assoc, ← Nat.or_assoc, ← Nat.or_assoc]
  rw [show K * 2 ^ 0 = K by omega, or_fits K L 11 (by omega), or_fits (K + L * 2 ^ 11) C 18 (by omega), or_fits (K + L * 2 ^ 11 + C * 2 ^ 18) B 20 (by omega), or_fits (K + L * 2 ^ 11 + C * 2 ^ 18 + B * 2 ^ 20) S 21 (by omega), or_fits (K + L * 2 ^ 11 + C * 2 ^ 18 + B * 2 ^ 20 + S * 2 ^ 21) 17219 37 (by omega)]

set_option maxRecDepth 100000 in
theorem word_sl (K B S : Nat) (hK : K < 16777216) (hB : B < 2) (hS : S < 65536) :
    wordR wSlot [K, 1, B, 0, S] = K + 16777216 + B * 33554432 + S * 281474976710656 := by
  have hf : upto (fldOf wSlot) 5 = [⟨0, 16777215, by omega, by omega⟩, ⟨24, 1, by omega, by omega⟩, ⟨25, 1, by omega, by omega⟩, ⟨26, 4194303, by omega, by omega⟩, ⟨48, 65535, by omega, by omega⟩] := by rfl
  have hl : wSlot.length = 5 := rfl
  have hfit : fitsB (upto (fldOf wSlot) 5) [K, 1, B, 0, S] = true := by
    rw [hf]
    simp [fitsB]
    omega
  unfold wordR
  rw [hl, if_pos ⟨rfl, by decide, hfit⟩, hf]
  simp only [wordF, List.getElem?_cons_zero, Option.getD_some, List.tail_cons, Nat.shiftLeft_eq, Nat.or_zero]
  have m1 : K * 2 ^ 0 % 18446744073709551616 = K := by omega
  have m2 : 1 * 2 ^ 24 % 18446744073709551616 = 16777216 := by simp
  have m3 : B * 2 ^ 25 % 18446744073709551616 = B * 33554432 := by rw [Nat.mod_eq_of_lt (by omega)]
  have m4 : 0 * 2 ^ 26 % 18446744073709551616 = 0 := by simp
  have m5 : S * 2 ^ 48 % 18446744073709551616 = S * 281474976710656 := by rw [Nat.mod_eq_of_lt (by omega)]
  rw [m1, m2, m3, m4, m5, Nat.zero_or, ← Nat.or_assoc, ← Nat.or_assoc]
  have o1 := or_fits K 1 24 (by omega)
  have o2 := or_fits (K + 16777216) B 25 (by omega)
  have o3 := or_fits (K + 16777216 + B * 33554432) S 48 (by omega)
  simp only [Nat.reducePow, Nat.one_mul] at o1
  simp only [Nat.reducePow] at o2
  simp only [Nat.reducePow] at o3
  rw [o1, o2, o3]

set_option maxRecDepth 100000 in
theorem seal_head (a b c d s : Nat) : sealG 0 [a, b, c, d, s, 17219] = hdW (a % 2048) (b % 128) (c % 4) (d % 2) := by
  have hm : cutG 0 [a, b, c, d, s, 17219] = [a &&& (2 ^ 11 - 1), b &&& (2 ^ 7 - 1), c &&& (2 ^ 2 - 1), d &&& (2 ^ 1 - 1), 0, 17219] := by simp [cutG, wOf, mkG, wHead]
  have h1 : a % 2048 < 2048 := Nat.mod_lt _ (by omega)
  have h2 : b % 128 < 128 := Nat.mod_lt _ (by omega)
  have h3 : c % 4 < 4 := Nat.mod_lt _ (by omega)
  have h4 : d % 2 < 2 := Nat.mod_lt _ (by omega)
  have hB : hdB (a % 2048) (b % 128) (c % 4) (d % 2) = a % 2048 + (b % 128) * 2048 + (c % 4) * 262144 + (d % 2) * 1048576 + 0 * 2097152 + 17219 * 137438953472 := by unfold hdB; omega
  have hw : wOf 0 = wHead := rfl
  unfold sealG hdW
  rw [hm, Nat.and_two_pow_sub_one_eq_mod, Nat.and_two_pow_sub_one_eq_mod, Nat.and_two_pow_sub_one_eq_mod, Nat.and_two_pow_sub_one_eq_mod, hw]
  have e1 := word_hd _ _ _ _ 0 h1 h2 h3 h4 (by omega)
  rw [e1, ← hB]
  have hs := sumW_lt (hdB (a % 2048) (b % 128) (c % 4) (d % 2))
  rw [show ([a % 2048, b % 128, c % 4, d % 2, 0, 17219] : List Nat).set 4 (sumW (hdB (a % 2048) (b % 128) (c % 4) (d % 2))) = [a % 2048, b % 128, c % 4, d % 2, sumW (hdB (a % 2048) (b % 128) (c % 4) (d % 2)), 17219] from rfl]
  generalize sumW (hdB (a % 2048) (b % 128) (c % 4) (d % 2)) = q at *
  rw [word_hd _ _ _ _ q h1 h2 h3 h4 hs, hB]
  omega

set_option maxRecDepth 100000 in
theorem seal_slot (a d s : Nat) : sealG 1 [a, 1, d, 0, s] = slW (a % 16777216) (d % 2) := by
  have hm : cutG 1 [a, 1, d, 0, s] = [a &&& (2 ^ 24 - 1), 1, d &&& (2 ^ 1 - 1), 0, 0] := by simp [cutG, wOf, mkG, wSlot]
  have h1 : a % 16777216 < 16777216 := Nat.mod_lt _ (by omega)
  have h4 : d % 2 < 2 := Nat.mod_lt _ (by omega)
  have hB : slB (a % 16777216) (d % 2) = a % 16777216 + 16777216 + (d % 2) * 33554432 + 0 * 281474976710656 := by unfold slB; omega
  have hw : wOf 1 = wSlot := rfl
  unfold sealG slW
  rw [hm, Nat.and_two_pow_sub_one_eq_mod, Nat.and_two_pow_sub_one_eq_mod, hw]
  have e1 := word_sl _ _ 0 h1 h4 (by omega)
  rw [e1, ← hB]
  have hs := sumW_lt (slB (a % 16777216) (d % 2))
  rw [show ([a % 16777216, 1, d % 2, 0, 0] : List Nat).set 4 (sumW (slB (a % 16777216) (d % 2))) = [a % 16777216, 1, d % 2, 0, sumW (slB (a % 16777216) (d % 2))] from rfl]
  generalize sumW (slB (a % 16777216) (d % 2)) = q at *
  rw [word_sl _ _ q h1 h4 hs, hB]
  omega

theorem hdW_lt (a b c d : Nat) (h1 : a < 2048) (h2 : b < 128) (h3 : c < 4) (h4 : d < 2) : hdW a b c d < 9007199254740992 := by
  have := sumW_lt (hdB a b c d)
  unfold hdW
  generalize sumW (hdB a b c d) = q at *
  unfold hdB
  omega
theorem slW_lt (a d : Nat) (h1 : a < 16777216) (h4 : d < 2) : slW a d < 18446744073709551616 := by
  have := sumW_lt (slB a d)
  unfold slW
  generalize sumW (slB a d) = q at *
  unfold slB
  omega

end Go.Proofs.Ytpiffapnbjnjiaa

namespace Go.Proofs.Ytpiffapnbjnjiaa
set_option linter.unusedVariables false
open Go.RowKit
attribute [local go_sem] Oper.semAt_some

def b01 (b : Bool) : Nat := if b = true then 1 else 0
theorem b01_lt (b : Bool) : b01 b < 2 := by cases b <;> decide

theorem number_any (b : Bool) (W : World) :
    Calls Try.prog 53 #[.bool b] W fun e w' => e = .returned (.int .u64 (b01 b : Int)) ∧ W = w' := by
  cases b
  · go_enter Try.func53, Try.ntmps53
    go_wp2_with fail
    go_ret
    exact ⟨rfl, rfl⟩
  · go_enter Try.func53, Try.ntmps53
    go_wp2_with fail
    go_ret
    exact ⟨rfl, rfl⟩

/-- Size. -/
def mSize (n : Int) : Int := if n < 1 ∨ 1024 < n then 0 else n + 1
theorem msize_any (n : Int) (W : World) :
    Calls Try.prog 21 #[.int .i64 n] W fun e w' => e = .returned (.int .i64 (mSize n)) ∧ W = w' := by
  by_cases h1 : n < 1
  · have HE : Hid (mSize n = 0) := by show _ = _; unfold mSize; rw [if_pos (.inl h1)]
    go_enter Try.func21, Try.ntmps21
    go_wp2_with fail
    go_ret
    exact ⟨by rw [HE.out]; rfl, rfl⟩
  · by_cases h2 : 1024 < n
    · have HE : Hid (mSize n = 0) := by show _ = _; unfold mSize; rw [if_pos (.inr h2)]
      go_enter Try.func21, Try.ntmps21
      go_wp2_with fail
      go_ret
      exact ⟨by rw [HE.out]; rfl, rfl⟩
    · have HE : Hid (mSize n = n + 1) := by show _ = _; unfold mSize; rw [if_neg (by omega)]
      have e2 : IntKind.i64.wrap (n + 1) = n + 1 := IntWalk.i64_in _ (by omega)
      go_enter Try.func21, Try.ntmps21
      go_wp2_with fail
      go_ret
      exact ⟨by rw [HE.out]; rfl, rfl⟩

theorem low_nat (x : Int) (y n : Nat) (hn : n ≤ 64) (e : IntKind.u64.wrap x = (y : Int)) (hy : y < 18446744073709551616) : y &&& (2 ^ n - 1) = (x % ((2 ^ n : Nat) : Int)).toNat := by
  have h := low_bits x n hn
  have h2 : 2 ^ n ≤ 18446744073709551616 := by
    have := Nat.pow_le_pow_right (n := 2) (by omega) hn
    simpa using this
  have h0 : 0 < 2 ^ n := Nat.pow_pos (by omega)
  rw [e, u64_and_nat _ _ hy (by omega)] at h
  exact Int.ofNat.inj h

/-- A slot. -/
structure Sl where
  valid : Bool
  dirty : Bool
  block : Int
  stamp : Int
deriving DecidableEq
def Sl.cells (s : Sl) : List Value := [.bool s.valid, .bool s.dirty, .int .i64 s.block, .int .i64 s.stamp]
def Sl.v (s : Sl) : Value := .agg #[.bool s.valid, .bool s.dirty, .int .i64 s.block, .int .i64 s.stamp]
/-- The word of a slot. -/
def Sl.word (s : Sl) : Nat := if s.valid = true then slW (s.block % 16777216).toNat (b01 s.dirty) else 0
theorem low24 (x : Int) (y : Nat) (e : IntKind.u64.wrap x = (y : Int)) (hy : y < 18446744073709551616) : y % 16777216 = (x % 16777216).toNat := by
  have h := low_nat x y 24 (by omega) e hy
  rw [Nat.and_two_pow_sub_one_eq_mod] at h
  exact h

set_option maxRecDepth 100000 in
set_option maxHeartbeats 1000000 in
theorem mword_any (s : Sl) (W : World) :
    Calls Try.prog 23 #[s.v] W fun e w' => e = .returned (.int .u64 (s.word : Int)) ∧ Below W.heap.size W w' := by
  obtain ⟨v, d, b, st⟩ := s
  obtain ⟨b1, e1, hb1⟩ := any_u64 b
  have HB := Lib.hid (low24 b b1 e1 hb1)
  unfold Sl.v
  have hb0 : Below W.heap.size W (W.alloc (.cells #[.bool v, .bool d, .int .i64 b, .int .i64 st] 50)) := (Below.refl _ W).alloc (Nat.le_refl _) _
  cases v
  · have HE : Hid ((Sl.mk false d b st).word = 0) := rfl
    go_enter Try.func23, Try.ntmps23
    go_wp2_with fail
    go_ret
    exact ⟨by rw [HE.out]; rfl, hb0⟩
  · have HE : Hid ((Sl.mk true d b st).word = slW (b % 16777216).toNat (b01 d)) := rfl
    have hd2 := b01_lt d
    have HS : Hid (sealG 1 [b1, 1, b01 d, 0, 0] = slW (b1 % 16777216) (b01 d)) := by show _ = _; rw [seal_slot, Nat.mod_eq_of_lt hd2]
    go_enter Try.func23, Try.ntmps23
    go_wp2_with fail
    have C0 := Cs.new W 50 #[.bool true, .bool d, .int .i64 b, .int .i64 st]
    have x1 := C0.cell 1
    have x2 := C0.cell 2
    change _ = some (Value.bool d) at x1
    change _ = some (Value.int .i64 b) at x2
    have hg : W.heap.size < (W.alloc (.cells #[.bool true, .bool d, .int .i64 b, .int .i64 st] 50)).heap.size := C0.lt
    have hlt := b01_lt d
    have hwv : W64 [b1, 1, b01 d, 0, 0] := by
      intro x hx
      simp only [List.mem_cons, List.not_mem_nil, or_false] at hx
      omega
    have HW := Lib.hid hwv
    generalize (W.alloc _) = V at *
    generalize hgq : W.heap.size = g at *
    clear C0 hwv
    have hr := Reads.new V.drew #[.int .u64 (b1 : Int), .int .u64 1, .int .u64 (b01 d : Int), .int .u64 0, .int .u64 0] 28
    have HR := Lib.hid hr
    clear hr
    have hbA : Below V.heap.size V (V.alloc (.cells #[.int .u64 (b1 : Int), .int .u64 1, .int .u64 (b01 d : Int), .int .u64 0, .int .u64 0] 28)).drew := ((Below.refl _ V).alloc (Nat.le_refl _) _).drew
    have y1 := (hbA.cell (p := ⟨g, 1, none⟩) hg).trans x1
    have y2 := (hbA.cell (p := ⟨g, 2, none⟩) hg).trans x2
    go_region_held3 (fun w' => w'.cell? ⟨g, 1, none⟩ = some (.bool d) ∧ w'.cell? ⟨g, 2, none⟩ = some (.int .i64 b)) (first | exact z12 | exact ⟨y1, y2⟩ | exact ⟨x1, x2⟩)
      (first
        | (go_at_call 53; refine (number_any d _).mono ?_; rintro e w1 ⟨rfl, rfl⟩)
        | (go_at_call 48; refine (sealed_any 1 (by omega) (some ⟨V.heap.size, 0, none⟩) 5 5 [b1, 1, b01 d, 0, 0] _ HR.out rfl rfl HW.out).mono ?_; rintro e w2 ⟨rfl, hb2⟩; have hb3 : Below V.heap.size V w2 := hbA.trans (hb2.mono hbA.size); have z12 : w2.cell? ⟨g, 1, none⟩ = some (.bool d) ∧ w2.cell? ⟨g, 2, none⟩ = some (.int .i64 b) := ⟨(hb3.cell (p := ⟨g, 1, none⟩) hg).trans x1, (hb3.cell (p := ⟨g, 2, none⟩) hg).trans x2⟩))
    go_wp2_with fail
    go_ret
    exact ⟨by rw [HE.out, HS.out, ← HB.out]; rfl, by rw [hgq]; exact hb0.trans (hb3.mono (Nat.le_of_lt hg))⟩
end Go.Proofs.Ytpiffapnbjnjiaa

namespace Go.Proofs.Ytpiffapnbjnjiaa
set_option linter.unusedVariables false
open Go.RowKit
attribute [local go_sem] Oper.semAt_some

/-- The word 0 of a cache. -/
def hdI (n : Nat) (chunk mode : Int) (op : Bool) : Nat := hdW (n % 2048) (chunk % 128).toNat (mode % 4).toNat (b01 op)
theorem low_mod (x : Int) (y n : Nat) (hn : n ≤ 64) (e : IntKind.u64.wrap x = (y : Int)) (hy : y < 18446744073709551616) : y % 2 ^ n = (x % ((2 ^ n : Nat) : Int)).toNat := by
  have h := low_nat x y n hn e hy
  rwa [Nat.and_two_pow_sub_one_eq_mod] at h

set_option maxRecDepth 100000 in
set_option maxHeartbeats 1000000 in
theorem mhead_any (W : World) (m n c : Nat) (A : Option Addr) (x : Value) (chunk mode : Int) (op : Bool) (hC : Cs W m 89 #[x, .slice A n c, .int .i64 chunk, .int .i64 mode, .bool op]) (hn : n ≤ 1000000) :
    Calls Try.prog 56 #[.pointer (some ⟨m, 0, none⟩)] W fun e w' => e = .returned (.int .u64 (hdI n chunk mode op : Int)) ∧ Below W.heap.size W w' := by
  obtain ⟨c1, e1, hc1⟩ := any_u64 chunk
  obtain ⟨d1, e2, hd1⟩ := any_u64 mode
  have e0 : IntKind.u64.wrap (n : Int) = (n : Int) := by rw [wrap_nat, Nat.mod_eq_of_lt (by omega)]
  have hb := b01_lt op
  have HS : Hid (sealG 0 [n, c1, d1, b01 op, 0, 17219] = hdI n chunk mode op) := by
    show _ = _
    have h1 := low_mod chunk c1 7 (by omega) e1 hc1
    have h2 := low_mod mode d1 2 (by omega) e2 hd1
    rw [seal_head, Nat.mod_eq_of_lt hb]
    unfold hdI
    rw [← show c1 % 128 = (chunk % 128).toNat from h1, ← show d1 % 4 = (mode % 4).toNat from h2]
  have x1 := hC.cell 1
  have x2 := hC.cell 2
  have x3 := hC.cell 3
  have x4 := hC.cell 4
  change _ = some (Value.slice A n c) at x1
  change _ = some (Value.int .i64 chunk) at x2
  change _ = some (Value.int .i64 mode) at x3
  change _ = some (Value.bool op) at x4
  have hg : m < W.heap.size := hC.lt
  have hwv : W64 [n, c1, d1, b01 op, 0, 17219] := by
    intro x hx
    simp only [List.mem_cons, List.not_mem_nil, or_false] at hx
    omega
  have HW := Lib.hid hwv
  clear hwv hC
  have HR := Lib.hid (Reads.new W.drew #[.int .u64 (n : Int), .int .u64 (c1 : Int), .int .u64 (d1 : Int), .int .u64 (b01 op : Int), .int .u64 0, .int .u64 17219] 28)
  have hbA : Below W.heap.size W (W.alloc (.cells #[.int .u64 (n : Int), .int .u64 (c1 : Int), .int .u64 (d1 : Int), .int .u64 (b01 op : Int), .int .u64 0, .int .u64 17219] 28)).drew := ((Below.refl _ W).alloc (Nat.le_refl _) _).drew
  have y := fun k => hbA.cell (p := ⟨m, k, none⟩) hg
  have yy := And.intro ((y 1).trans x1) (And.intro ((y 2).trans x2) (And.intro ((y 3).trans x3) ((y 4).trans x4)))
  clear y
  go_enter Try.func56, Try.ntmps56
  go_wp2_with fail
  go_region_held3 (fun w' => w'.cell? ⟨m, 1, none⟩ = some (.slice A n c) ∧ w'.cell? ⟨m, 2, none⟩ = some (.int .i64 chunk) ∧ w'.cell? ⟨m, 3, none⟩ = some (.int .i64 mode) ∧ w'.cell? ⟨m, 4, none⟩ = some (.bool op)) (first | exact z | exact yy | exact ⟨x1, x2, x3, x4⟩)
    (first
      | (go_at_call 53; refine (number_any op _).mono ?_; rintro e w1 ⟨rfl, rfl⟩)
      | (go_at_call 48; refine (sealed_any 0 (by omega) (some ⟨W.heap.size, 0, none⟩) 6 6 [n, c1, d1, b01 op, 0, 17219] _ HR.out rfl rfl HW.out).mono ?_; rintro e w2 ⟨rfl, hb2⟩; have hb3 : Below W.heap.size W w2 := hbA.trans (hb2.mono hbA.size); have z : w2.cell? ⟨m, 1, none⟩ = some (.slice A n c) ∧ w2.cell? ⟨m, 2, none⟩ = some (.int .i64 chunk) ∧ w2.cell? ⟨m, 3, none⟩ = some (.int .i64 mode) ∧ w2.cell? ⟨m, 4, none⟩ = some (.bool op) := ⟨(hb3.cell (p := ⟨m, 1, none⟩) hg).trans x1, (hb3.cell (p := ⟨m, 2, none⟩) hg).trans x2, (hb3.cell (p := ⟨m, 3, none⟩) hg).trans x3, (hb3.cell (p := ⟨m, 4, none⟩) hg).trans x4⟩))
  go_wp2_with fail
  go_ret
  exact ⟨by rw [HS.out]; rfl, hb3⟩

end Go.Proofs.Ytpiffapnbjnjiaa

namespace Go.Proofs.Ytpiffapnbjnjiaa
set_option linter.unusedVariables false
open Go.RowKit
attribute [local go_sem] Oper.semAt_some

theorem m_write (k sp : Nat) (W : World) : Sem.run Try.prog (method (k + 1) 126 (.pointer (some ⟨sp, 0, none⟩)) "Write") W = .ok (111, .pointer (some ⟨sp, 0, none⟩)) W := by kernel_rfl
theorem m_flush (k sp : Nat) (W : World) : Sem.run Try.prog (method (k + 1) 126 (.pointer (some ⟨sp, 0, none⟩)) "Flush") W = .ok (108, .pointer (some ⟨sp, 0, none⟩)) W := by kernel_rfl
theorem m_read (k sp : Nat) (W : World) : Sem.run Try.prog (method (k + 1) 126 (.pointer (some ⟨sp, 0, none⟩)) "Read") W = .ok (109, .pointer (some ⟨sp, 0, none⟩)) W := by kernel_rfl
theorem m_size (k sp : Nat) (W : World) : Sem.run Try.prog (method (k + 1) 126 (.pointer (some ⟨sp, 0, none⟩)) "Size") W = .ok (110, .pointer (some ⟨sp, 0, none⟩)) W := by kernel_rfl

theorem wput_log (S : DS) (d a v : Nat) : (S.wput d a v).log.length ≤ S.log.length + 1 := by
  unfold DS.wput
  simp
theorem write_log (S : DS) (d a : Int) (v : Nat) : (S.write d a v).log.length ≤ S.log.length + 1 := by
  unfold DS.write
  split
  · omega
  · split
    · show S.log.length ≤ _; omega
    · have := wput_log S.burnt d.toNat a.toNat v
      have h2 : S.burnt.log = S.log := by unfold DS.burnt; rfl
      rw [h2] at this
      exact this
theorem swrite_log (S : DS) (i n : Nat) (a : Int) (v : Nat) : (S.swrite i n a v).log.length ≤ S.log.length + 1 := by
  unfold DS.swrite
  split
  · exact write_log _ _ _ _
  · omega

/-- first. -/
def DS.first (S : DS) (i n w : Nat) : DS := if S.swE i n 0 ≠ 0 then S.swrite i n 0 w else (S.swrite i n 0 w).flush (i : Int)
def DS.firstR (S : DS) (i n w : Nat) : Int := if S.swE i n 0 ≠ 0 then S.swE i n 0 else (S.swrite i n 0 w).chkF (i : Int)
def FirstP (W : World) (F : Nat → Prop) (g i n w : Nat) (S : DS) (e : Ending) (W' : World) : Prop :=
  e = .returned (.int .i64 (S.firstR i n w)) ∧ ∃ F', DskAt W' F' g (S.first i n w) ∧ Turn F F' W W'

set_option maxRecDepth 100000 in
set_option maxHeartbeats 1000000 in
theorem first_any (W : World) (F : Nat → Prop) (g sp i n m w : Nat) (S : DS) (y1 y2 y3 y4 : Value) (h : DskAt W F g S) (hs : SpanAt W sp g i n) (hsp : ¬ F sp) (hC : Cs W m 89 #[spanV sp, y1, y2, y3, y4]) (hm : ¬ F m) (hn : n ≤ 65536) (hv : w < 18446744073709551616) (hlog : S.log.length < 1000000) (hwr : S.wr ≤ 1000000000) :
    Calls Try.prog 54 #[.pointer (some ⟨m, 0, none⟩), .int .u64 (w : Int)] W (FirstP W F g i n w S) := by
  have x0 := hC.cell 0
  change _ = some (spanV sp) at x0
  unfold spanV at x0
  go_enter Try.func54, Try.ntmps54
  go_wp2_with fail
  rw [m_write]
  go_wp2_with fail
  refine (swrite_any W F g sp i n S 0 w h hs hsp hn hv (Nat.le_of_lt hlog) hwr).mono ?_
  rintro e w1 ⟨rfl, F1, hd1, ht1⟩
  have HD1 := Lib.hid hd1
  have HS1 : Hid (SpanAt w1 sp g i n) := Cs.fr hs ht1.1 hsp
  have HC1 := Lib.hid (hC.fr ht1.1 hm)
  have hsp1 := ht1.out (Cs.lt hs) hsp
  have hl1 := swrite_log S i n 0 w
  have x1 := HC1.out.cell 0
  change _ = some (spanV sp) at x1
  unfold spanV at x1
  have HF : Hid (S.first i n w = if S.swE i n 0 ≠ 0 then S.swrite i n 0 w else (S.swrite i n 0 w).flush (i : Int)) := rfl
  have HR : Hid (S.firstR i n w = if S.swE i n 0 ≠ 0 then S.swE i n 0 else (S.swrite i n 0 w).chkF (i : Int)) := rfl
  generalize S.swE i n 0 = q at *
  generalize S.swrite i n 0 w = S1 at *
  clear h hs hC x0
  by_cases hq : q = 0
  · subst hq
    go_wp2_with fail
    rw [m_flush]
    go_wp2_with fail
    refine (sflush_any w1 F1 g sp i n S1 HD1.out HS1.out hsp1 (by omega)).mono ?_
    rintro e w2 ⟨rfl, F2, hd2, ht2⟩
    go_wp2_with fail
    go_ret
    exact ⟨by rw [HR.out, if_neg (by simp)]; rfl, F2, by rw [HF.out, if_neg (by simp)]; exact hd2, ht1.trans ht2⟩
  · have hq2 : (q != 0) = true := by simpa using hq
    go_wp2_with fail
    go_ret
    exact ⟨by rw [HR.out, if_pos hq]; rfl, F1, by rw [HF.out, if_pos hq]; exact hd1, ht1⟩

end Go.Proofs.Ytpiffapnbjnjiaa

namespace Go.Proofs.Ytpiffapnbjnjiaa
set_option linter.unusedVariables false
open Go.RowKit
attribute [local go_sem] Oper.semAt_some

/-- Behind k writes of a list, from a on. -/
def DS.wrs (S : DS) (i n : Nat) (a : Int) (l : List Nat) : Nat → DS
  | 0 => S
  | k + 1 => (S.wrs i n a l k).swrite i n (a + k) (l[k]?.getD 0)
theorem wput_wr (S : DS) (d a v : Nat) : (S.wput d a v).wr ≤ S.wr + 1 := by
  unfold DS.wput
  exact Int.le_refl _
theorem write_wr (S : DS) (d a : Int) (v : Nat) : (S.write d a v).wr ≤ S.wr + 1 := by
  unfold DS.write
  split
  · omega
  · split
    · show S.wr ≤ _; omega
    · exact wput_wr S.burnt d.toNat a.toNat v
theorem swrite_wr (S : DS) (i n : Nat) (a : Int) (v : Nat) : (S.swrite i n a v).wr ≤ S.wr + 1 := by
  unfold DS.swrite
  split
  · exact write_wr _ _ _ _
  · omega
theorem wrs_le (S : DS) (i n : Nat) (a : Int) (l : List Nat) (k : Nat) : (S.wrs i n a l k).log.length ≤ S.log.length + k ∧ (S.wrs i n a l k).wr ≤ S.wr + k := by
  induction k with
  | zero => exact ⟨Nat.le_refl _, by show S.wr ≤ _; omega⟩
  | succ k ih =>
    have h1 := swrite_log (S.wrs i n a l k) i n (a + k) (l[k]?.getD 0)
    have h2 := swrite_wr (S.wrs i n a l k) i n (a + k) (l[k]?.getD 0)
    exact ⟨by show ((S.wrs i n a l k).swrite i n (a + k) (l[k]?.getD 0)).log.length ≤ _; omega, by show ((S.wrs i n a l k).swrite i n (a + k) (l[k]?.getD 0)).wr ≤ _; omega⟩

def WallP (W : World) (F : Nat → Prop) (g : Nat) (S : DS) (e : Ending) (W' : World) : Prop :=
  e = .returned (.int .i64 0) ∧ ∃ F', DskAt W' F' g S ∧ Turn F F' W W'

set_option maxRecDepth 100000 in
set_option maxHeartbeats 2000000 in
theorem wall_any (W : World) (F : Nat → Prop) (g sp i n b m c : Nat) (a : Int) (l : List Nat) (S : DS) (h : DskAt W F g S) (hs : SpanAt W sp g i n) (hsp : ¬ F sp) (hC : Cs W b 28 (uv l).toArray) (hbF : ¬ F b) (hm : l.length = m) (hm0 : m ≤ 65536) (hn : n ≤ 65536) (hw : W64 l)
    (ha : 0 ≤ a ∧ a + m ≤ n) (h0 : 1 ≤ m) (hlog : S.log.length ≤ 100000) (hwr : S.wr ≤ 1000000) (hok : ∀ k, k < m → (S.wrs i n a l k).swE i n (a + k) = 0) :
    Calls Try.prog 55 #[spanV sp, .int .i64 a, .slice (some ⟨b, 0, none⟩) m c] W (WallP W F g (S.wrs i n a l m)) := by
  have HI : Hid (insB (n : Int) a (m : Int) = true) := by show _ = _; unfold insB; exact decide_eq_true (by omega)
  have HM := Lib.hid hm
  have HW := Lib.hid hw
  have HOK := Lib.hid hok
  have HD := Lib.hid h
  have HS := Lib.hid hs
  have HC := Lib.hid hC
  have HLE := Lib.hid (wrs_le S i n a l)
  have hbl := hC.lt
  have hspl := Cs.lt hs
  clear hm hw hok h hs hC
  unfold spanV
  go_enter Try.func55, Try.ntmps55
  go_wp2_with fail
  rw [m_size]
  go_wp2_with fail
  refine (ssize_any W sp g i n HS.out).mono ?_
  rintro e w' ⟨rfl, rfl⟩
  go_wp2_with fail
  refine (inside_any (n : Int) a (m : Int) _ (by omega) (by omega)).mono ?_
  rintro e w' ⟨rfl, rfl⟩
  rw [HI.out]
  go_wp2_with fail
  go_loopw [19] (fun x wr => ∃ j : Nat, j ≤ m ∧ x = .int .i64 j ∧ ∃ F', DskAt wr F' g (S.wrs i n a l j) ∧ Turn F F' W wr) (fun x _ => m - (intOf x).toNat)
  case atStart => exact ⟨0, by omega, rfl, F, HD.out, Turn.refl _ _⟩
  case round =>
    obtain ⟨j, hj, rfl, F', hd, ht⟩ := hrel
    by_cases hlt : j < m
    · have hx1 := (HC.out.fr ht.1 hbF).cell j
      have hx2 : (uv l).toArray[j]? = some (.int .u64 ((l[j]?.getD 0 : Nat) : Int)) := by
        rw [List.getElem?_toArray]
        exact uv_at l j (by rw [HM.out]; exact hlt)
      rw [hx2] at hx1
      have hxl := HW.out.at j
      have hsp1 := ht.out hspl hsp
      have hs1 : Hid (SpanAt wr sp g i n) := Cs.fr HS.out ht.1 hsp
      have hq := HOK.out j hlt
      have hle := HLE.out j
      have hnext : Hid (S.wrs i n a l (j + 1) = (S.wrs i n a l j).swrite i n (a + j) (l[j]?.getD 0)) := rfl
      have e2 : IntKind.i64.wrap (a + j) = a + j := IntWalk.i64_in _ (by omega)
      have HD1 := Lib.hid hd
      have ht1 := Lib.hid ht
      clear hx2 hd ht
      generalize S.wrs i n a l j = S1 at *
      generalize l[j]?.getD 0 = v at *
      go_wp2_with fail
      rw [m_write]
      go_wp2_with fail
      refine (swrite_any _ F' g sp i n S1 (a + j) v HD1.out hs1.out hsp1 hn hxl (by omega) (by omega)).mono ?_
      rintro e w1 ⟨rfl, F1, hd1, ht2⟩
      rw [hq]
      go_wp2_with fail
      go_roundw
      case rel => exact ⟨j + 1, by omega, by go_num, F1, by rw [hnext.out]; exact hd1, ht1.out.trans ht2⟩
      case measure => simp [intOf]; omega
    · have hjm : j = m := by omega
      subst hjm
      have HD1 := Lib.hid hd
      go_wp2_with fail
      go_ret
      exact ⟨rfl, F', HD1.out, ht⟩

end Go.Proofs.Ytpiffapnbjnjiaa

namespace Go.Proofs.Ytpiffapnbjnjiaa
set_option linter.unusedVariables false
open Go.RowKit

/-- An array of one disk. -/
def one (now dur : List Nat) (log : List (Nat × Nat × Nat)) (fuse : Int) (down : Bool) (wr : Int) : DS := ⟨[(now, dur, false)], log, fuse, down, wr⟩

theorem one_chk (now dur : List Nat) (log : List (Nat × Nat × Nat)) (fuse : Int) (wr a : Int) (h : 0 ≤ a ∧ a < now.length) : (one now dur log fuse false wr).chk 0 a = 0 := by
  have hs : (one now dur log fuse false wr).size 0 = now.length := rfl
  have h1 : (one now dur log fuse false wr).cPla 0 a = 0 := by unfold DS.cPla; rw [hs, if_neg (by omega)]
  unfold DS.chk
  rw [h1]
  rfl
theorem one_chk_down (now dur : List Nat) (log : List (Nat × Nat × Nat)) (fuse : Int) (wr a : Int) : (one now dur log fuse true wr).chk 0 a = 5 := rfl
theorem one_chkF (now dur : List Nat) (log : List (Nat × Nat × Nat)) (fuse : Int) (wr : Int) : (one now dur log fuse false wr).chkF 0 = 0 := rfl
theorem one_chkF_down (now dur : List Nat) (log : List (Nat × Nat × Nat)) (fuse : Int) (wr : Int) : (one now dur log fuse true wr).chkF 0 = 5 := rfl

theorem one_swE (now dur : List Nat) (log : List (Nat × Nat × Nat)) (fuse : Int) (wr a : Int) (h : 0 ≤ a ∧ a < now.length) : (one now dur log fuse false wr).swE 0 now.length a = if fuse = 1 then 5 else 0 := by
  unfold DS.swE
  rw [if_pos h]
  unfold DS.writeE
  rw [show (((0 : Nat) : Int)) = 0 from rfl, one_chk now dur log fuse wr a h, if_neg (by simp)]
  rfl
theorem one_swE_down (now dur : List Nat) (log : List (Nat × Nat × Nat)) (fuse : Int) (wr a : Int) (h : 0 ≤ a ∧ a < now.length) : (one now dur log fuse true wr).swE 0 now.length a = 5 := by
  unfold DS.swE
  rw [if_pos h]
  rfl
theorem one_sE (now dur : List Nat) (log : List (Nat × Nat × Nat)) (fuse : Int) (wr a : Int) (h : 0 ≤ a ∧ a < now.length) : (one now dur log fuse false wr).sE 0 now.length a = 0 := by
  unfold DS.sE
  rw [if_pos h]
  exact one_chk now dur log fuse wr a h
theorem one_sread (now dur : List Nat) (log : List (Nat × Nat × Nat)) (fuse : Int) (wr a : Int) (h : 0 ≤ a ∧ a < now.length) : (one now dur log fuse false wr).sread 0 now.length a = now[a.toNat]?.getD 0 := by
  unfold DS.sread
  rw [if_pos h]
  unfold DS.read
  rw [show (((0 : Nat) : Int)) = 0 from rfl, one_chk now dur log fuse wr a h, if_pos rfl]
  rfl
theorem one_swrite (now dur : List Nat) (log : List (Nat × Nat × Nat)) (fuse : Int) (wr a : Int) (v : Nat) (h : 0 ≤ a ∧ a < now.length) (hf : fuse ≠ 1) :
    (one now dur log fuse false wr).swrite 0 now.length a v = one (now.set a.toNat v) dur (log ++ [(0, a.toNat, v)]) (if 0 < fuse then fuse - 1 else fuse) false (wr + 1) := by
  unfold DS.swrite
  rw [if_pos h]
  unfold DS.write
  rw [show (((0 : Nat) : Int)) = 0 from rfl, one_chk now dur log fuse wr a h, if_neg (by simp), if_neg (show ¬ (one now dur log fuse false wr).fuse = 1 from hf)]
  rfl
theorem one_swrite_fuse (now dur : List Nat) (log : List (Nat × Nat × Nat)) (wr a : Int) (v : Nat) (h : 0 ≤ a ∧ a < now.length) :
    (one now dur log 1 false wr).swrite 0 now.length a v = one now dur log 0 true wr := by
  unfold DS.swrite
  rw [if_pos h]
  unfold DS.write
  rw [show (((0 : Nat) : Int)) = 0 from rfl, one_chk now dur log 1 wr a h, if_neg (by simp)]
  rfl
theorem one_swrite_down (now dur : List Nat) (log : List (Nat × Nat × Nat)) (fuse : Int) (wr a : Int) (v n : Nat) : (one now dur log fuse true wr).swrite 0 n a v = one now dur log fuse true wr := by
  unfold DS.swrite
  split
  · rfl
  · rfl
theorem others_none (log : List (Nat × Nat × Nat)) (h : ∀ r ∈ log, r.1 = 0) : others 0 log = [] := by
  unfold others
  rw [List.filter_eq_nil_iff]
  intro r hr
  simp [h r hr]
theorem one_flush (now dur : List Nat) (log : List (Nat × Nat × Nat)) (fuse : Int) (wr : Int) (h : ∀ r ∈ log, r.1 = 0) : (one now dur log fuse false wr).flush 0 = one now (flDur now 0 log dur) [] fuse false wr := by
  unfold DS.flush
  rw [one_chkF, if_neg (by simp)]
  have ho : others (0 : Int).toNat (one now dur log fuse false wr).log = [] := others_none log h
  rw [ho]
  unfold DS.flTo
  have ht : (one now dur log fuse false wr).log.take (one now dur log fuse false wr).log.length = log := List.take_length
  rw [ht]
  rfl
theorem one_flush_down (now dur : List Nat) (log : List (Nat × Nat × Nat)) (fuse : Int) (wr : Int) : (one now dur log fuse true wr).flush 0 = one now dur log fuse true wr := rfl

theorem one_full (l : List Nat) : DS.full [l] = one l l [] 0 false 0 := rfl

/-- The durable words are the words, but where something is logged. -/
structure Syn (now dur : List Nat) (log : List (Nat × Nat × Nat)) : Prop where
  len : dur.length = now.length
  idx : ∀ r ∈ log, r.1 = 0
  off : ∀ k, (∀ r ∈ log, r.2.1 ≠ k) → dur[k]? = now[k]?
theorem Syn.refl (now : List Nat) : Syn now now [] := ⟨rfl, by simp, fun _ _ => rfl⟩
theorem Syn.set {now dur : List Nat} {log : List (Nat × Nat × Nat)} (h : Syn now dur log) (a v : Nat) : Syn (now.set a v) dur (log ++ [(0, a, v)]) := by
  refine ⟨by rw [List.length_set]; exact h.len, ?_, ?_⟩
  · intro r hr
    rcases List.mem_append.1 hr with hr | hr
    · exact h.idx r hr
    · simp at hr; rw [hr]
  · intro k hk
    have h1 := h.off k (fun r hr => hk r (List.mem_append.2 (.inl hr)))
    have h2 := hk (0, a, v) (List.mem_append.2 (.inr (by simp)))
    rw [h1, List.getElem?_set_ne h2]
theorem Syn.flush {now dur : List Nat} {log : List (Nat × Nat × Nat)} (h : Syn now dur log) : flDur now 0 log dur = now := by
  induction log generalizing dur with
  | nil =>
    apply List.ext_getElem?
    intro k
    exact h.off k (by simp)
  | cons r l ih =>
    unfold flDur
    rw [if_pos (h.idx r (by simp))]
    refine ih ⟨by rw [List.length_set]; exact h.len, fun q hq => h.idx q (by simp [hq]), fun k hk => ?_⟩
    by_cases e : r.2.1 = k
    · subst e
      rw [List.getElem?_set_self']
      by_cases hl : r.2.1 < now.length
      · have hd : r.2.1 < dur.length := by rw [h.len]; exact hl
        rw [List.getElem?_eq_getElem (l := dur) hd, List.getElem?_eq_getElem (l := now) hl]
        rfl
      · have hd : dur.length ≤ r.2.1 := by rw [h.len]; omega
        rw [List.getElem?_eq_none (l := dur) hd, List.getElem?_eq_none (l := now) (by omega)]
        rfl
    · rw [List.getElem?_set_ne e]
      exact h.off k (by intro q hq; simp at hq; rcases hq with rfl | hq; exact e; exact hk q hq)
theorem one_flush_syn {now dur : List Nat} {log : List (Nat × Nat × Nat)} (h : Syn now dur log) (fuse wr : Int) : (one now dur log fuse false wr).flush 0 = one now now [] fuse false wr := by
  rw [one_flush _ _ _ _ _ h.idx, h.flush]
theorem one_first {now dur : List Nat} {log : List (Nat × Nat × Nat)} (h : Syn now dur log) (wr : Int) (w n : Nat) (hn : now.length = n) (h1 : 1 ≤ n) : (one now dur log 0 false wr).first 0 n w = one (now.set 0 w) (now.set 0 w) [] 0 false (wr + 1) ∧ (one now dur log 0 false wr).firstR 0 n w = 0 := by
  subst hn
  have e := one_swE now dur log 0 wr 0 (by omega)
  rw [if_neg (by omega)] at e
  have e2 := one_swrite now dur log 0 wr 0 w (by omega) (by omega)
  rw [if_neg (by omega)] at e2
  constructor
  · unfold DS.first
    rw [if_neg (by simp [e]), e2]
    exact one_flush_syn (h.set 0 w) 0 (wr + 1)
  · unfold DS.firstR
    rw [if_neg (by simp [e]), e2]
    rfl
/-- A list, set from a on. -/
def setFrom (now : List Nat) (a : Nat) (l : List Nat) : Nat → List Nat
  | 0 => now
  | k + 1 => (setFrom now a l k).set (a + k) (l[k]?.getD 0)
theorem setFrom_length (now : List Nat) (a : Nat) (l : List Nat) (k : Nat) : (setFrom now a l k).length = now.length := by
  induction k with
  | zero => rfl
  | succ k ih => rw [setFrom, List.length_set, ih]
theorem one_wrs {now dur : List Nat} {log : List (Nat × Nat × Nat)} (h : Syn now dur log) (wr : Int) (a n : Nat) (l : List Nat) (k : Nat) (hn : now.length = n) (hk : a + k ≤ n) :
    ∃ lg, (one now dur log 0 false wr).wrs 0 n a l k = one (setFrom now a l k) dur lg 0 false (wr + k) ∧ Syn (setFrom now a l k) dur lg := by
  induction k with
  | zero => exact ⟨log, by simp [DS.wrs, setFrom], h⟩
  | succ k ih =>
    obtain ⟨lg, e, hs⟩ := ih (by omega)
    have hl : (setFrom now a l k).length = n := by rw [setFrom_length, hn]
    have e2 := one_swrite (setFrom now a l k) dur lg 0 (wr + k) ((a : Int) + k) (l[k]?.getD 0) (by omega) (by omega)
    rw [hl, if_neg (by omega), show ((a : Int) + (k : Int)).toNat = a + k by omega] at e2
    refine ⟨lg ++ [(0, a + k, l[k]?.getD 0)], ?_, hs.set _ _⟩
    rw [DS.wrs, e, e2]
    congr 1
    omega
theorem one_wrs_ok {now dur : List Nat} {log : List (Nat × Nat × Nat)} (h : Syn now dur log) (wr : Int) (a n : Nat) (l : List Nat) (k : Nat) (hn : now.length = n) (hk : a + k < n) :
    ((one now dur log 0 false wr).wrs 0 n a l k).swE 0 n ((a : Int) + k) = 0 := by
  obtain ⟨lg, e, hs⟩ := one_wrs h wr a n l k hn (by omega)
  have hl : (setFrom now a l k).length = n := by rw [setFrom_length, hn]
  have e2 := one_swE (setFrom now a l k) dur lg 0 (wr + k) ((a : Int) + k) (by omega)
  rw [hl, if_neg (by omega)] at e2
  rw [e, e2]

end Go.Proofs.Ytpiffapnbjnjiaa
