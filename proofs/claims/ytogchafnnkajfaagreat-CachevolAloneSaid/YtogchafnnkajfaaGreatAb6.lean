/-
  Merged texts (TrkD TrkGV TrkFW TrkGW VpO VpS VolN VolO VolQ SndV SndW SndX SndY SndZ KRC RmH RvA RvB RvC): what the row proofs use of them.
-/
import Derived.Test.YtogchafnnkajfaaGreatAb5
import Derived.Deep.RegionHeldLaw
import Derived.Deep.DeepCutAuto
import Derived.Deep.CutBlock
import Derived.Deep.RegionHeld3
import Derived.BigQuiet
import Derived.Deep.QuietTactic
import Derived.Maps.OwnSet
import Derived.Laws.StructEq
import Derived.BigRegion
import Derived.StillTailTactics
namespace Go.Proofs.YtogchafnnkajfaaGreat
set_option linter.unusedVariables false
open Go.RowKit
attribute [local go_sem] Oper.semAt_some

theorem sector_info : (Tryz.prog.info? 184).map (fun i => (i.zero, i.size, i.bytes)) = some (some (.agg #[.slice none 0 0, .bool false, .int .u64 0]), 3, 40) := by kernel_rfl
theorem own_one2 (W : World) (v base : Nat) (hb : base ≤ W.heap.size) : (W.alloc (.cells #[.int .u64 (v : Int)] 26)).ownsRow base 26 1 (.slice (some ⟨W.heap.size, 0, none⟩) 1 1) 1 (uv [v]) :=
  ⟨by rfl, .inr ⟨W.heap.size, 1, #[.int .u64 (v : Int)], rfl, hb, heap_alloc_new W _, Nat.le_refl _, by simp only [maxLen]; omega, by rfl, by rfl⟩⟩
set_option maxRecDepth 100000 in
set_option maxHeartbeats 4000000 in
theorem tracked_any (W : World) (A : Option Addr) (n c : Nat) (l : List Nat) (hA : Reads W A (uv l)) (hl : l.length = n) (hn1 : 1 ≤ n) (hn : n ≤ 100000) (hw : W64 l) :
    Calls Tryz.prog 72 #[.slice A n c] W fun e w' => ∃ tb, e = .returned (.pointer (some ⟨tb, 0, none⟩)) ∧ TrAt w' (fun j => W.heap.size ≤ j) tb (l.map Sec.start) ∧ Below W.heap.size W w' := by
  have HA := Lib.hid hA
  have HL := Lib.hid hl
  have HW := Lib.hid hw
  obtain ⟨b0, off, rfl, hb0, hc0⟩ := hA (by rw [uv_length, hl]; omega)
  have HC := Lib.hid hc0
  obtain ⟨is, his, hs0, hs1, hs2⟩ := info_parts sector_info
  clear hA hl hw hc0
  go_enter Tryz.func72, Tryz.ntmps72
  go_wp2_with fail
  have hbA : Below W.heap.size W (W.alloc (.cells #[Value.slice none 0 0] 182)) := (Below.refl _ W).alloc (Nat.le_refl _) _
  have hcA := Cs.new W 182 #[Value.slice none 0 0]
  go_loopw [4] (fun s wx => ∃ (k : Nat) (ys : List TS) (v : Value), s = .int .i64 k ∧ k ≤ n ∧ ys.map TS.x = (l.take k).map Sec.start ∧ Cs wx W.heap.size 182 #[v] ∧ wx.ownsRow W.heap.size 184 3 v k (tcells ys) ∧ (∀ y ∈ ys, wx.ownsRow W.heap.size 26 1 y.v y.x.sm.length (uv y.x.sm)) ∧ Below W.heap.size W wx) (fun s _ => n - (intOf s).toNat)
  case atStart => exact ⟨0, [], _, rfl, Nat.zero_le _, rfl, hcA, World.ownsRow_nil _ _ _ _, by simp, hbA⟩
  case round =>
    rename World => wx
    clear hcA hbA
    obtain ⟨k, ys, v, rfl, hk, hys, hcs, hown, hrd, hb⟩ := hrel
    obtain ⟨A1, c1, rfl⟩ := own_form hown
    have c4 := hcs.cell 0
    have f4 := hcs.free 0
    change wx.cell? ⟨W.heap.size, 0, none⟩ = some (.slice A1 k c1) at c4
    have HYS := Lib.hid hys
    have HCS := Lib.hid hcs
    have HO := Lib.hid hown
    have HRD := Lib.hid hrd
    have HB := Lib.hid hb
    have hyl : ys.length = k := by
      have := congrArg List.length hys
      rw [List.length_map, List.length_map, List.length_take, HL.out] at this
      omega
    have htl : (tcells ys).length = k * 3 := by rw [tcells_length, hyl]
    have HTL := Lib.hid htl
    clear hys hcs hown hrd hb hyl htl
    by_cases hlt : k < n
    · have t1 : (k : Int) < (n : Int) := by omega
      have e1 : IntKind.i64.wrap ((k : Int) + 1) = ((k + 1 : Nat) : Int) := IntWalk.i64_in _ (by omega)
      obtain ⟨z, hz⟩ : ∃ z, l[k]? = some z := ⟨_, List.getElem?_eq_getElem (by rw [HL.out]; exact hlt)⟩
      have k0 : wx.cell? ⟨b0, off + k, none⟩ = some (.int .u64 (z : Int)) := (HB.out.cell (p := ⟨b0, off + k, none⟩) hb0).trans (HC.out k _ (by simp [uv, hz]))
      have HZ := Lib.hid hz
      have hsz : W.heap.size < wx.heap.size := HCS.out.lt
      clear hz
      have hb0w : b0 < wx.heap.size := Nat.lt_of_lt_of_le hb0 HB.out.size
      have m0 := (World.cell?_alloc_lt wx (.cells #[.int .u64 (z : Int)] 26) ⟨b0, off + k, none⟩ hb0w).trans k0
      have m1 := (World.cell?_alloc_lt wx (.cells #[.int .u64 (z : Int)] 26) ⟨W.heap.size, 0, none⟩ hsz).trans c4
      have m2 := (World.cell?_alloc_lt (wx.alloc (.cells #[.int .u64 (z : Int)] 26)) (.cells #[.slice (some ⟨wx.heap.size, 0, none⟩) 1 1, .bool true, .int .u64 (z : Int)] 184) ⟨W.heap.size, 0, none⟩ (by simp; omega)).trans m1
      go_upto_region 5 with (fail)
      have hOW : Hid (((wx.alloc (.cells #[.int .u64 (z : Int)] 26)).alloc (.cells #[.slice (some ⟨wx.heap.size, 0, none⟩) 1 1, .bool true, .int .u64 (z : Int)] 184)).drew.ownsRow W.heap.size 184 3 (.slice A1 k c1) k (tcells ys)) := World.ownsRow.drew (World.ownsRow.alloc (World.ownsRow.alloc HO.out _) _)
      have hsz1 : (wx.alloc (.cells #[.int .u64 (z : Int)] 26)).heap.size = wx.heap.size + 1 := by simp
      have HR2 : Hid (Reads (((wx.alloc (.cells #[.int .u64 (z : Int)] 26)).alloc (.cells #[.slice (some ⟨wx.heap.size, 0, none⟩) 1 1, .bool true, .int .u64 (z : Int)] 184)).drew) (some ⟨wx.heap.size + 1, 0, none⟩) [.slice (some ⟨wx.heap.size, 0, none⟩) 1 1, .bool true, .int .u64 (z : Int)]) := by
        have := (Reads.new (wx.alloc (.cells #[.int .u64 (z : Int)] 26)) #[.slice (some ⟨wx.heap.size, 0, none⟩) 1 1, .bool true, .int .u64 (z : Int)] 184).keep (Below.refl _ _).drew
        rw [hsz1] at this
        exact this
      clear hsz1
      have HB3 : Hid (Below W.heap.size W (((wx.alloc (.cells #[.int .u64 (z : Int)] 26)).alloc (.cells #[.slice (some ⟨wx.heap.size, 0, none⟩) 1 1, .bool true, .int .u64 (z : Int)] 184)).drew)) := ((HB.out.alloc (by omega) _).alloc (by simp; omega) _).drew
      have HC3 : Hid (Cs (((wx.alloc (.cells #[.int .u64 (z : Int)] 26)).alloc (.cells #[.slice (some ⟨wx.heap.size, 0, none⟩) 1 1, .bool true, .int .u64 (z : Int)] 184)).drew) W.heap.size 182 #[.slice A1 k c1]) := (HCS.out.alloc _).alloc _
      have HNE := Lib.hid (cs_own_ne HCS.out HO.out (by decide))
      go_region_law ((refine step_append_reads (((wx.alloc (.cells #[.int .u64 (z : Int)] 26)).alloc (.cells #[.slice (some ⟨wx.heap.size, 0, none⟩) 1 1, .bool true, .int .u64 (z : Int)] 184)).drew) (by rfl) (.tmp 17) (.tmp 28) _ (by rfl) W.heap.size 184 is _ 3 40 Tryz.underlying180 his hs0 hs1 hs2 rfl (by omega) (.slice A1 k c1) k (tcells ys) (by rfl) hOW.out (some ⟨wx.heap.size + 1, 0, none⟩) 1 1 [.slice (some ⟨wx.heap.size, 0, none⟩) 1 1, .bool true, .int .u64 (z : Int)] (by rfl) (by rfl) HR2.out (by simp [Value.oneCell']) (by simp only [maxLen]; omega) (by omega) (by simp; omega) ?_; intro v5 w5 hown5 hg5 hat5; obtain ⟨A5, c5, hv5⟩ := own_form hown5; subst hv5; have hc5 := HC3.out.grown hg5 (fun e => HNE.out _ e.symm rfl); have q5 := hc5.cell 0; have f5 := hc5.free 0))
      all_goals
        have HO5 := Lib.hid hown5
        have HC5 := Lib.hid hc5
        have HG5 := Lib.hid hg5
        have HB5 := Lib.hid (HB3.out.trans (((Below.refl W.heap.size (((wx.alloc (.cells #[.int .u64 (z : Int)] 26)).alloc (.cells #[.slice (some ⟨wx.heap.size, 0, none⟩) 1 1, .bool true, .int .u64 (z : Int)] 184)).drew)).grown hg5 (by simp; omega) (own_base HO.out))))
        clear hown5 hg5 hat5 hc5 q5 f5
        go_wp2_with fail
        go_roundw
        case rel =>
          have hpre : ∀ b, (Value.slice A5 (k + 1) c5).ownBlock = some b → b ≠ W.heap.size := cs_own_ne HC5.out HO5.out (by decide)
          have hf := fr_set w5 W.heap.size 0 (.slice A5 (k + 1) c5)
          refine ⟨k + 1, ys ++ [⟨wx.heap.size, 1, Sec.start z⟩], .slice A5 (k + 1) c5, by go_num, by omega, ?_, heap_setCell_same w5 W.heap.size 0 _ _ _ HC5.out, ?_, ?_, HB5.out.trans (hf.below HB5.out.size (fun j hj => by omega))⟩
          · rw [List.map_append, HYS.out, take_snoc' l k z HZ.out, List.map_append]
            rfl
          · rw [tcells_snoc]
            exact own_fr HO5.out hf hpre
          · intro y hy
            rcases List.mem_append.1 hy with hy | hy
            · have h1 := HRD.out y hy
              have h2 : (((wx.alloc (.cells #[.int .u64 (z : Int)] 26)).alloc (.cells #[.slice (some ⟨wx.heap.size, 0, none⟩) 1 1, .bool true, .int .u64 (z : Int)] 184)).drew).ownsRow W.heap.size 26 1 y.v y.x.sm.length (uv y.x.sm) := World.ownsRow.drew (World.ownsRow.alloc (World.ownsRow.alloc h1 _) _)
              have h3 : w5.ownsRow W.heap.size 26 1 y.v y.x.sm.length (uv y.x.sm) := own_fr h2 (fr_grown HG5.out) (fun b hb e => own_own_ne h2 hOW.out (by decide) b b hb e rfl)
              exact own_fr h3 hf (cs_own_ne HC5.out h3 (by decide))
            · rw [List.mem_singleton.1 hy]
              have h1 : (wx.alloc (.cells #[.int .u64 (z : Int)] 26)).ownsRow W.heap.size 26 1 (.slice (some ⟨wx.heap.size, 0, none⟩) 1 1) 1 (uv [z]) := own_one2 wx z W.heap.size (Nat.le_of_lt hsz)
              have h2 : (((wx.alloc (.cells #[.int .u64 (z : Int)] 26)).alloc (.cells #[.slice (some ⟨wx.heap.size, 0, none⟩) 1 1, .bool true, .int .u64 (z : Int)] 184)).drew).ownsRow W.heap.size 26 1 (.slice (some ⟨wx.heap.size, 0, none⟩) 1 1) 1 (uv [z]) := World.ownsRow.drew (World.ownsRow.alloc h1 _)
              have h3 := own_fr h2 (fr_grown HG5.out) (fun b hb e => own_own_ne h2 hOW.out (by decide) b b hb e rfl)
              exact own_fr h3 hf (cs_own_ne HC5.out h3 (by decide))
        case measure => simp [intOf]; omega
    · have hkn : k = n := by omega
      subst hkn
      obtain ⟨bR, cR, hA1, hbR, hbRl⟩ := HO.out.form (by omega)
      injection hA1 with hA1 _ hcR
      subst hA1
      subst hcR
      go_wp2_with fail
      go_ret
      have hyl : ys.length = k := by
        have := congrArg List.length HYS.out
        rw [List.length_map, List.length_map, List.length_take, HL.out] at this
        omega
      have htk : l.take k = l := by rw [← HL.out]; exact List.take_length
      have hys := HYS.out
      rw [htk] at hys
      refine ⟨W.heap.size, rfl, ⟨bR, c1, ys, hys, ⟨by rw [hyl]; exact HCS.out, by rw [hyl]; exact own_lower HO.out (Nat.zero_le _), ?_, Nat.le_refl _, hbR⟩⟩, HB.out⟩
      intro y hy
      have h1 := HRD.out y hy
      obtain ⟨z, hz, e⟩ := List.mem_map.1 (show y.x ∈ l.map Sec.start by rw [← hys]; exact List.mem_map_of_mem hy)
      refine ⟨own_lower h1 (Nat.zero_le _), ?_, own_base h1 y.b rfl, ?_, ?_⟩
      · rw [← e]; simp [Sec.start]
      · rw [← e]
        intro q hq
        rw [List.mem_singleton.1 hq]
        exact HW.out z hz
      · rw [← e]; exact HW.out z hz

end Go.Proofs.YtogchafnnkajfaaGreat

namespace Go.Proofs.YtogchafnnkajfaaGreat
set_option linter.unusedVariables false
open Go.RowKit
attribute [local go_sem] Oper.semAt_some d_read d_write d_flush d_size d_nila

/-- A step. -/
structure Stp where
  kind : Int
  place : Int
  val : Nat
  keep : Nat
def Stp.cells (x : Stp) : List Value := [.int .i64 x.kind, .int .i64 x.place, .int .u64 (x.val : Int), .int .u64 (x.keep : Int)]
def svs (l : List Stp) : List Value := l.flatMap Stp.cells
def StpOk (l : List Stp) : Prop := ∀ x ∈ l, (-9223372036854775808 ≤ x.place ∧ x.place ≤ 9223372036854775807) ∧ x.val < 18446744073709551616 ∧ x.keep < 18446744073709551616
theorem svs_at (l : List Stp) (i : Nat) (x : Stp) (h : l[i]? = some x) (j : Nat) (hj : j < 4) : (svs l)[i * 4 + j]? = x.cells[j]? := by
  induction l generalizing i with
  | nil => simp at h
  | cons y r ih =>
    unfold svs
    rw [List.flatMap_cons]
    rcases i with _ | i
    · simp at h
      subst h
      rw [List.getElem?_append_left (by show _ < 4; omega)]
      congr 1
      omega
    · rw [List.getElem?_append_right (by show 4 ≤ _; omega)]
      have := ih i (by simpa using h)
      rw [← this]
      show (svs r)[_]? = _
      congr 1
      show (i + 1) * 4 + j - 4 = _
      omega
theorem svs_length (l : List Stp) : (svs l).length = l.length * 4 := by
  induction l with
  | nil => rfl
  | cons y r ih =>
    unfold svs at *
    rw [List.flatMap_cons, List.length_append, ih, List.length_cons]
    show 4 + _ = _
    omega
theorem svs_read {w : World} {A : Option Addr} {l : List Stp} (h : Reads w A (svs l)) (hl : l.length ≠ 0) : ∃ b o, A = some ⟨b, o, none⟩ ∧ b < w.heap.size ∧ ∀ i x, l[i]? = some x → w.cell? ⟨b, o + i * 4, none⟩ = some (.int .i64 x.kind) ∧ w.cell? ⟨b, o + i * 4 + 1, none⟩ = some (.int .i64 x.place) ∧ w.cell? ⟨b, o + i * 4 + 2, none⟩ = some (.int .u64 (x.val : Int)) ∧ w.cell? ⟨b, o + i * 4 + 3, none⟩ = some (.int .u64 (x.keep : Int)) := by
  obtain ⟨b, o, e, hb, hc⟩ := h (by rw [svs_length]; omega)
  refine ⟨b, o, e, hb, fun i x hx => ⟨?_, ?_, ?_, ?_⟩⟩
  · exact hc (i * 4 + 0) _ ((svs_at l i x hx 0 (by omega)).trans rfl)
  · exact hc (i * 4 + 1) _ ((svs_at l i x hx 1 (by omega)).trans rfl)
  · exact hc (i * 4 + 2) _ ((svs_at l i x hx 2 (by omega)).trans rfl)
  · exact hc (i * 4 + 3) _ ((svs_at l i x hx 3 (by omega)).trans rfl)

theorem svs_cell {w : World} {b o : Nat} {l : List Stp} (h : Reads w (some ⟨b, o, none⟩) (svs l)) (i : Nat) (x : Stp) (hx : l[i]? = some x) : w.cell? ⟨b, o + i * 4, none⟩ = some (.int .i64 x.kind) ∧ w.cell? ⟨b, o + i * 4 + 1, none⟩ = some (.int .i64 x.place) ∧ w.cell? ⟨b, o + i * 4 + 2, none⟩ = some (.int .u64 (x.val : Int)) ∧ w.cell? ⟨b, o + i * 4 + 3, none⟩ = some (.int .u64 (x.keep : Int)) := by
  obtain ⟨b', o', e, -, hc⟩ := svs_read h (by intro e; rw [List.length_eq_zero_iff.1 e] at hx; simp at hx)
  injection e with e
  injection e with e1 e2
  subst e1; subst e2
  exact hc i x hx

section
variable {B n L ga : Nat} {D : World → (Nat → Prop) → List Sec → Bool → Nat → Nat → Prop} {Z : World → (Nat → Prop) → List Sec → Nat → Prop}

end

end Go.Proofs.YtogchafnnkajfaaGreat

namespace Go.Proofs.YtogchafnnkajfaaGreat
set_option linter.unusedVariables false
open Go.RowKit
attribute [local go_sem] Oper.semAt_some d_read d_write d_flush d_size

section
variable {B n L ga : Nat} {D : World → (Nat → Prop) → List Sec → Bool → Nat → Nat → Prop} {Z : World → (Nat → Prop) → List Sec → Nat → Prop}

set_option maxRecDepth 100000 in
set_option maxHeartbeats 4000000 in
theorem again_anyW (b1 b2 b3 b4 b5 : Nat) {w : World} {F G : Nat → Prop} {t : List Sec} {k : Bool} {c p tb : Nat} (C : DevC B n L ga 39 #[.pointer (some ⟨b1, 0, none⟩), .pointer (some ⟨b2, 0, none⟩), .pointer (some ⟨b3, 0, none⟩), .pointer (some ⟨b4, 0, none⟩), .pointer (some ⟨b5, 0, none⟩)] D Z) (h : DTr D B n w F G t k c p tb) (hn : n ≤ 1000) (hc : c + n + 2 ≤ L) (hL : L ≤ 90000) (kw : Nat) (hkw : kw < 18446744073709551616) :
    Calls Tryz.prog 77 #[.pointer (some ⟨tb, 0, none⟩), .pointer (some ⟨ga, 0, none⟩), .func (.func 39) #[] #[.pointer (some ⟨b1, 0, none⟩), .pointer (some ⟨b2, 0, none⟩), .pointer (some ⟨b3, 0, none⟩), .pointer (some ⟨b4, 0, none⟩), .pointer (some ⟨b5, 0, none⟩)], .int .u64 (kw : Int)] w fun e w' => ∃ p' F' G' t', e = .returned (.tuple #[.iface 39 (.pointer (some ⟨p', 0, none⟩)), .bool true]) ∧ DTr D B n w' F' G' t' true (c + n + 2) p' tb ∧ Turn (FU F G) (FU F' G') w w' := by
  have HH := Lib.hid h
  have HC := Lib.hid C
  have htl := h.tl
  clear h C
  go_enter Tryz.func77, Tryz.ntmps77
  go_wp2_with fail
  refine (failed_any w G tb t HH.out.tr (by omega)).mono ?_
  rintro e w1 ⟨rfl, htr1, hf1⟩
  have ht1 : Turn G G w w1 := ⟨hf1, fun j hj => .inl hj⟩
  obtain ⟨G1, hG1⟩ : ∃ G1 : Nat → Prop, G1 = G := ⟨_, rfl⟩
  have hG2 := hG1.symm
  rw [show Turn G G w w1 = Turn G G1 w w1 by rw [hG1]] at ht1
  rw [← hG1] at htr1
  clear hG1 hG2 hf1
  have gb1 : ∀ j, G1 j → B ≤ j := ht1.ge HH.out.wb HH.out.gb
  have wb1 : B ≤ w1.heap.size := Nat.le_trans HH.out.wb ht1.1.size
  obtain ⟨hd1, dj1⟩ := dev_trk HC.out HH.out.d HH.out.dj HH.out.gb ht1
  have HD1 := Lib.hid hd1
  have HT1 := Lib.hid (ht1.right (F := F))
  have HR1 := Lib.hid htr1
  have HJ1 := Lib.hid dj1
  clear ht1 hd1 htr1 dj1
  go_wp2_with fail
  refine (keep_any kw w1 hkw).mono ?_
  rintro e w2 ⟨v, bs, rfl, ho, hbl, hb2⟩
  obtain ⟨A, cc, rfl⟩ := own_form ho
  obtain ⟨htr2, dj2⟩ := trk_dev HR1.out HJ1.out (Turn.of_below (F := FT F w) hb2)
  have hd2 := HC.out.dfr (HC.out.dti HD1.out) (Fr.of_below (G := fun _ => False) hb2) (fun _ _ h => h) (fun _ h => h.elim)
  have wb2 : B ≤ w2.heap.size := Nat.le_trans wb1 hb2.size
  have hap : ∀ b, (Value.slice A 192 cc).ownBlock = some b → ¬ FT (FT F w) w1 b := fun b hb hf => by have := own_ge ho b hb; have := hf.2; omega
  have HD2 := Lib.hid hd2
  have HT2 := Lib.hid (HT1.out.trans (Turn.of_below (F := FU (FT F w) G1) hb2))
  have HR2 := Lib.hid htr2
  have HJ2 : Hid (∀ j, FT (FT F w) w1 j → ¬ FT G1 w1 j) := fun j hj hg => HJ1.out j hj.1 hg.1
  have HO := Lib.hid ho
  have HAP := Lib.hid hap
  clear ho hb2 htr2 dj2 hd2 hap HD1 HR1
  go_wp2_with fail
  refine (HC.out.restart A cc _ bs HD2.out (by omega) HO.out hbl HAP.out).mono ?_
  rintro e w3 ⟨rfl, F3, ht3, hz3⟩
  obtain ⟨htr3, dj3⟩ := trk_dev HR2.out HJ2.out ht3
  have wb3 : B ≤ w3.heap.size := Nat.le_trans wb2 ht3.1.size
  have HZ3 := Lib.hid hz3
  have HT3 : Hid (Turn (FU F G) (FU F3 (FT (FT G1 w1) w2)) w w3) := by
    refine HT2.out.trans ⟨ht3.1.mono (fun j _ hj => .inl hj.1), fun j hj => hj.elim (fun a => (ht3.2 j a).elim (fun b => .inl (.inl b.1)) .inr) (fun a => .inl (.inr a.1.1))⟩
  have HR3 := Lib.hid htr3
  have HJ3 := Lib.hid dj3
  clear hz3 htr3 dj3 ht3 HD2 HR2 HJ2 HO HAP HJ1 HT1 HT2 hbl
  go_wp2_with fail
  refine (HC.out.opens HZ3.out (by omega)).mono ?_
  rintro e w4 ⟨p4, F4, rfl, ht4, hd4⟩
  obtain ⟨htr4, dj4⟩ := trk_dev HR3.out HJ3.out ht4
  have HT4 := Lib.hid (HT3.out.trans (ht4.left (G := FT (FT G1 w1) w2)))
  have h4 : DTr D B n w4 F4 (FT (FT (FT G1 w1) w2) w3) (tFailed t) true (c + 2) p4 tb := ⟨hd4, htr4, dj4, by unfold tFailed; rw [List.length_map]; exact htl, fun a => by have := sm_failed HH.out.sm a; omega, fun j hj => gb1 j hj.1.1.1, Nat.le_trans wb3 ht4.1.size⟩
  obtain ⟨rb, cap, c4⟩ := htr4.len
  rw [h4.tl] at c4
  have H4 := Lib.hid h4
  have HS := Lib.hid (fun q => HC.out.size (HC.out.dfr hd4 ((Fr.refl (fun _ => False) w4).drewN q) (fun _ _ h => h) (fun _ h => h.elim)))
  clear hd4 htr4 dj4 ht4 h4 HZ3 HR3 HJ3 HT3
  go_wp2_with fail
  go_quiet ((go_at_call 46; exact Calls.quiet_of (HS.out _)))
  clear c4 HS
  go_wp2_with fail
  refine (all_any HC.out (DTr.drewN HC.out H4.out _) hn (by omega) hL).mono ?_
  rintro e w5 ⟨rfl, F5, G5, t5, h5, ht5⟩
  go_wp2_with fail
  go_ret2
  refine ⟨p4, F5, G5, t5, rfl, by rw [show c + n + 2 = c + 2 + n by omega]; exact h5, HT4.out.trans ((Turn.drewN' (Turn.refl _ w4) _).trans ht5)⟩
end

end Go.Proofs.YtogchafnnkajfaaGreat

namespace Go.Proofs.YtogchafnnkajfaaGreat
set_option linter.unusedVariables false
open Go.RowKit
attribute [local go_sem] Oper.semAt_some d_read d_write d_flush d_size d_nila

section
variable {B n L ga : Nat} {D : World → (Nat → Prop) → List Sec → Bool → Nat → Nat → Prop} {Z : World → (Nat → Prop) → List Sec → Nat → Prop}

set_option maxRecDepth 100000 in
set_option maxHeartbeats 40000000 in
theorem sound_anyW (b1 b2 b3 b4 b5 : Nat) {w : World} {F : Nat → Prop} (C : DevC B n L ga 39 #[.pointer (some ⟨b1, 0, none⟩), .pointer (some ⟨b2, 0, none⟩), .pointer (some ⟨b3, 0, none⟩), .pointer (some ⟨b4, 0, none⟩), .pointer (some ⟨b5, 0, none⟩)] D Z) (l0 : List Nat) (ls : List Stp) (Ai As : Option Addr) (ci cs m : Nat) (hz : Z w F (l0.map Sec.start) 0) (hB : B ≤ w.heap.size) (hn : l0.length = n) (hn1 : 1 ≤ n) (hn2 : n ≤ 1000) (hm : ls.length = m)
    (hi : ∀ w', Fr F w w' → Reads w' Ai (uv l0)) (hs : ∀ w', Fr F w w' → Reads w' As (svs ls)) (hw : W64 l0) (hok : StpOk ls) (hc : 1 + (m + 2) * (n + 4) ≤ L) (hL : L ≤ 90000) :
    Calls Tryz.prog 41 #[.pointer (some ⟨ga, 0, none⟩), .func (.func 39) #[] #[.pointer (some ⟨b1, 0, none⟩), .pointer (some ⟨b2, 0, none⟩), .pointer (some ⟨b3, 0, none⟩), .pointer (some ⟨b4, 0, none⟩), .pointer (some ⟨b5, 0, none⟩)], .slice Ai n ci, .slice As m cs] w fun e w' => e = .returned (.bool true) ∧ ∃ F', Turn F F' w w' := by
  have HC := Lib.hid C
  have HZ := Lib.hid hz
  have HI := Lib.hid hi
  have HS := Lib.hid hs
  have HW := Lib.hid hw
  have HOK := Lib.hid hok
  have HM := Lib.hid hm
  have HN := Lib.hid hn
  clear C hz hi hs hw hok hm hn
  go_enter Tryz.func41, Tryz.ntmps41
  go_wp2_with fail
  refine (tracked_any w Ai n ci l0 (HI.out w (Fr.refl _ _)) HN.out hn1 (by omega) HW.out).mono ?_
  rintro e w1 ⟨tb, rfl, htr1, hb1⟩
  have HZ1 := Lib.hid (HC.out.zfr (HC.out.zti HZ.out) (Fr.of_below (G := fun _ => False) hb1) (fun _ _ h => h) (fun _ h => h.elim))
  have HT1 : Hid (Turn F (FU (FT F w) (fun j => w.heap.size ≤ j)) w w1) := ⟨Fr.of_below hb1, fun j hj => hj.elim (fun a => .inl a.1) .inr⟩
  have HR1 := Lib.hid htr1
  have hsz1 := hb1.size
  clear htr1 hb1
  go_wp2_with fail
  refine (HC.out.opens HZ1.out (by omega)).mono ?_
  rintro e w2 ⟨p2, F2, rfl, ht2, hd2⟩
  obtain ⟨htr2, dj2⟩ := trk_dev HR1.out (fun j hj hg => by have := hj.2; omega) ht2
  have H2 : Hid (DTr D B n w2 F2 (FT (fun j => w.heap.size ≤ j) w1) (l0.map Sec.start) true 1 p2 tb) := ⟨hd2, htr2, dj2, by rw [List.length_map]; exact HN.out, fun a => by
    unfold tAt
    rw [List.getElem?_map]
    rcases l0[a]? with _ | x
    · exact Nat.zero_le _
    · exact Nat.le_succ 1, fun j hj => Nat.le_trans hB hj.1, Nat.le_trans hB (Nat.le_trans hsz1 ht2.1.size)⟩
  have HT2 := Lib.hid (HT1.out.trans (ht2.left (G := fun j => w.heap.size ≤ j)))
  have HSz := Lib.hid (HC.out.size hd2)
  clear hd2 htr2 dj2 ht2 HZ1 HR1 HT1
  go_wp2_with fail
  refine HSz.out.mono ?_
  rintro e w3 ⟨rfl, q3, rfl⟩
  have H3 := Lib.hid (DTr.drewN HC.out H2.out q3)
  have HT3 := Lib.hid (Turn.drewN' HT2.out q3)
  have hnz : n ≠ 0 := by omega
  have hnb : ((n : Int) == 0) = false := by simpa using hnz
  clear H2 HT2 HSz
  generalize w2.drewN q3 = w3 at *
  go_wp2_with fail
  go_loopw [10, 12] (fun s10 s12 wx => ∃ (i p' c : Nat) (F' G' : Nat → Prop) (t' : List Sec) (k : Bool), s10 = .iface 39 (.pointer (some ⟨p', 0, none⟩)) ∧ s12 = .int .i64 i ∧ i ≤ m ∧ c ≤ 1 + i * (n + 4) ∧ DTr D B n wx F' G' t' k c p' tb ∧ Turn F (FU F' G') w wx) (fun _ s12 _ => m - (intOf s12).toNat)
  case atStart => exact ⟨0, p2, 1, _, _, _, _, rfl, rfl, Nat.zero_le _, by omega, H3.out, HT3.out⟩
  case round =>
    rename World => wx
    clear H3 HT3
    obtain ⟨i, p, c, F1, G1, tk, k, rfl, rfl, him, hci, hh, htn⟩ := hrel
    have HD := Lib.hid hh
    have HT := Lib.hid htn
    clear hh htn
    by_cases hlt : i < m
    · obtain ⟨x, hx⟩ : ∃ x, ls[i]? = some x := ⟨_, List.getElem?_eq_getElem (by rw [HM.out]; exact hlt)⟩
      obtain ⟨bs, os, rfl, hbs, hcs⟩ := svs_read (HS.out wx HT.out.1) (by rw [HM.out]; omega)
      obtain ⟨c0, c1, c2, c3⟩ := hcs i x hx
      obtain ⟨hxp, hxv, hxk⟩ := HOK.out x (List.mem_of_getElem? hx)
      have HX := Lib.hid hx
      clear hcs hx
      obtain ⟨kd, pl, v, kp⟩ := x
      dsimp only at c0 c1 c2 c3 hxp hxv hxk
      have t1 : (i : Int) < (m : Int) := by omega
      have u1 := Int.tmod_lt_of_pos pl (b := (n : Int)) (by omega)
      have u2 : -(n : Int) < pl.tmod n := Int.lt_tmod_of_pos pl (by omega)
      obtain ⟨T, hT⟩ : ∃ T, pl.tmod (n : Int) = T := ⟨_, rfl⟩
      rw [hT] at u1 u2
      have u3 : IntKind.i64.wrap (T + (n : Int)) = T + (n : Int) := IntWalk.i64_in _ (by omega)
      obtain ⟨a, ha⟩ : ∃ a : Nat, (T + (n : Int)).tmod (n : Int) = (a : Int) := ⟨((T + (n : Int)).tmod (n : Int)).toNat, by have := Int.tmod_nonneg (n : Int) (show 0 ≤ T + (n : Int) by omega); omega⟩
      have han : a < n := by have := Int.tmod_lt_of_pos (T + (n : Int)) (b := (n : Int)) (by omega); omega
      go_upto_block 2 with (fail)
      go_cut [14] (fun s14 wy => ∃ (r : Int) (c' : Nat) (F' G' : Nat → Prop) (t' : List Sec) (k' : Bool), s14 = .int .i64 r ∧ (r = 0 ∨ r = 5) ∧ c' ≤ c + 1 ∧ DTr D B n wy F' G' t' k' c' p tb ∧ Turn F (FU F' G') w wy)
      case first =>
        have htl := HD.out.tl
        have hsm := HD.out.sm a
        have hcl : c < L := by
          have := Nat.mul_le_mul_right (n + 4) (show i ≤ m by omega)
          simp only [Nat.add_mul] at hc
          omega
        by_cases k0 : kd = 0
        · subst k0
          go_upto_region 14 with (fail)
          go_region_held3 (fun w' => w'.cell? ⟨bs, os + i * 4 + 2, none⟩ = some (.int .u64 (v : Int)))
            (first | exact yy | exact c2)
            ((go_at_call 31; refine (HC.out.write a v (HC.out.dfr HD.out.d ((Fr.refl (fun _ => False) wx).drew) (fun _ _ h => h) (fun _ h => h.elim)) han hxv hcl).mono ?_; rintro e w2 ⟨r, F2, rfl, ht2, hr2, hd2⟩; have ht2' : Turn F1 F2 wx w2 := (Turn.drewN' (Turn.refl F1 wx) 1).trans ht2; have ht2'' := HT.out.trans (ht2'.left (G := G1)); have yy : w2.cell? ⟨bs, os + i * 4 + 2, none⟩ = some (.int .u64 (v : Int)) := (svs_cell (HS.out w2 ht2''.1) i _ HX.out).2.2.1))
          obtain ⟨htr2, dj2⟩ := trk_dev HD.out.tr HD.out.dj ht2'
          have HR2 := Lib.hid htr2
          have HJ2 := Lib.hid dj2
          have HT2 := Lib.hid ht2''
          have wb2 : B ≤ w2.heap.size := Nat.le_trans HD.out.wb ht2'.1.size
          have gb2 : ∀ j, FT G1 wx j → B ≤ j := fun j hj => HD.out.gb j hj.1
          clear htr2 dj2 ht2 ht2' ht2'' c0 c1 c2 c3
          have c2 := yy
          clear yy
          rcases hr2 with rfl | rfl
          · have HD2 : Hid (D w2 F2 (tWrote tk a v true) false (c + 1) p) := hd2
            clear hd2
            go_wp2_with fail
            refine (wrote_any w2 _ tb tk HR2.out a v true (by omega) hxv (by omega) (by omega)).mono ?_
            rintro e w3 ⟨rfl, G3, htr3, ht3⟩
            obtain ⟨hd3, dj3⟩ := dev_trk HC.out HD2.out HJ2.out gb2 ht3
            have H3 : Hid (DTr D B n w3 (FT F2 w2) G3 (tWrote tk a v true) false (c + 1) p tb) := ⟨hd3, htr3, dj3, by unfold tWrote; rw [List.length_set]; exact htl, fun b => sm_wrote HD.out.sm a v true b, ht3.ge wb2 gb2, Nat.le_trans wb2 ht3.1.size⟩
            have HT3 := Lib.hid (HT2.out.trans (ht3.right (F := F2)))
            clear hd3 htr3 dj3 ht3
            go_wp2_with fail
            go_meet
            case rel => exact ⟨0, c + 1, _, _, _, _, rfl, .inl rfl, Nat.le_refl _, H3.out, HT3.out⟩
          · have HD2 : Hid (D w2 F2 (tWrote tk a v false) false (c + 1) p) := hd2
            clear hd2
            go_wp2_with fail
            refine (wrote_any w2 _ tb tk HR2.out a v false (by omega) hxv (by omega) (by omega)).mono ?_
            rintro e w3 ⟨rfl, G3, htr3, ht3⟩
            obtain ⟨hd3, dj3⟩ := dev_trk HC.out HD2.out HJ2.out gb2 ht3
            have H3 : Hid (DTr D B n w3 (FT F2 w2) G3 (tWrote tk a v false) false (c + 1) p tb) := ⟨hd3, htr3, dj3, by unfold tWrote; rw [List.length_set]; exact htl, fun b => sm_wrote HD.out.sm a v false b, ht3.ge wb2 gb2, Nat.le_trans wb2 ht3.1.size⟩
            have HT3 := Lib.hid (HT2.out.trans (ht3.right (F := F2)))
            clear hd3 htr3 dj3 ht3
            go_wp2_with fail
            go_meet
            case rel => exact ⟨5, c + 1, _, _, _, _, rfl, .inr rfl, Nat.le_refl _, H3.out, HT3.out⟩
        · have q0 : (kd == 0) = false := by simpa using k0
          by_cases k1 : kd = 1
          · subst k1
            clear q0 k0
            go_wp2_with fail
            refine (HC.out.read a false HD.out.d han hcl (fun e => by cases e)).mono ?_
            rintro e w2 ⟨v2, r, F2, rfl, hv2, ht2, hor⟩
            obtain ⟨htr2, dj2⟩ := trk_dev HD.out.tr HD.out.dj ht2
            have HR2 := Lib.hid htr2
            have HJ2 := Lib.hid dj2
            have wb2 : B ≤ w2.heap.size := Nat.le_trans HD.out.wb ht2.1.size
            have gb2 : ∀ j, FT G1 wx j → B ≤ j := fun j hj => HD.out.gb j hj.1
            have HT2 := Lib.hid (HT.out.trans (ht2.left (G := G1)))
            clear htr2 dj2 ht2 c0 c1 c2 c3
            rcases hor with ⟨rfl, hm2, hd2⟩ | ⟨hk2, rfl, hd2⟩
            · have HD2 := Lib.hid hd2
              clear hd2
              go_wp2_with fail
              refine (reads_any w2 _ tb tk HR2.out a v2 false (by omega) hv2 hm2 (by omega) (by omega)).mono ?_
              rintro e w3 ⟨rfl, G3, htr3, ht3⟩
              obtain ⟨hd3, dj3⟩ := dev_trk HC.out HD2.out HJ2.out gb2 ht3
              have H3 : Hid (DTr D B n w3 (FT F2 w2) G3 (tRead tk a v2 false) k (c + 1) p tb) := ⟨hd3, htr3, dj3, by unfold tRead; rw [List.length_set]; exact htl, fun b => by have := sm_read HD.out.sm (by omega) a v2 false b; omega, ht3.ge wb2 gb2, Nat.le_trans wb2 ht3.1.size⟩
              have HT3 := Lib.hid (HT2.out.trans (ht3.right (F := F2)))
              clear hd3 htr3 dj3 ht3 hm2
              go_wp2_with fail
              go_meet
              case rel => exact ⟨0, c + 1, _, _, _, _, rfl, .inl rfl, Nat.le_refl _, H3.out, HT3.out⟩
            · have H3 : Hid (DTr D B n w2 F2 (FT G1 wx) tk k (c + 1) p tb) := ⟨hd2, HR2.out, HJ2.out, htl, fun b => by have := HD.out.sm b; omega, gb2, wb2⟩
              clear hd2
              go_wp2_with fail
              go_meet
              case rel => exact ⟨5, c + 1, _, _, _, _, rfl, .inr rfl, Nat.le_refl _, H3.out, HT2.out⟩
          · have q1 : (kd == 1) = false := by simpa using k1
            by_cases k2 : kd = 2
            · subst k2
              clear q0 k0 q1 k1
              go_wp2_with fail
              refine (HC.out.flush HD.out.d hcl).mono ?_
              rintro e w2 ⟨r, F2, rfl, ht2, hor⟩
              obtain ⟨htr2, dj2⟩ := trk_dev HD.out.tr HD.out.dj ht2
              have HR2 := Lib.hid htr2
              have HJ2 := Lib.hid dj2
              have wb2 : B ≤ w2.heap.size := Nat.le_trans HD.out.wb ht2.1.size
              have gb2 : ∀ j, FT G1 wx j → B ≤ j := fun j hj => HD.out.gb j hj.1
              have HT2 := Lib.hid (HT.out.trans (ht2.left (G := G1)))
              clear htr2 dj2 ht2 c0 c1 c2 c3
              rcases hor with ⟨rfl, hd2⟩ | ⟨rfl, hd2⟩
              · have HD2 := Lib.hid hd2
                clear hd2
                go_wp2_with fail
                refine (flushed_any w2 _ tb tk HR2.out (by omega)).mono ?_
                rintro e w3 ⟨rfl, G3, htr3, ht3⟩
                obtain ⟨hd3, dj3⟩ := dev_trk HC.out HD2.out HJ2.out gb2 ht3
                have H3 : Hid (DTr D B n w3 (FT F2 w2) G3 (tFlushed tk) false (c + 1) p tb) := ⟨hd3, htr3, dj3, by unfold tFlushed; rw [List.length_map]; exact htl, fun b => by have := sm_flushed HD.out.sm (by omega) b; omega, ht3.ge wb2 gb2, Nat.le_trans wb2 ht3.1.size⟩
                have HT3 := Lib.hid (HT2.out.trans (ht3.right (F := F2)))
                clear hd3 htr3 dj3 ht3
                go_wp2_with fail
                go_meet
                case rel => exact ⟨0, c + 1, _, _, _, _, rfl, .inl rfl, Nat.le_refl _, H3.out, HT3.out⟩
              · have H3 : Hid (DTr D B n w2 F2 (FT G1 wx) tk false (c + 1) p tb) := ⟨hd2, HR2.out, HJ2.out, htl, fun b => by have := HD.out.sm b; omega, gb2, wb2⟩
                clear hd2
                go_wp2_with fail
                go_meet
                case rel => exact ⟨5, c + 1, _, _, _, _, rfl, .inr rfl, Nat.le_refl _, H3.out, HT2.out⟩
            · have q2 : (kd == 2) = false := by simpa using k2
              by_cases k3 : kd = 3
              · subst k3
                clear q0 k0 q1 k1 q2 k2
                go_wp2_with fail
                go_meet
                case rel => exact ⟨5, c, _, _, _, _, rfl, .inr rfl, Nat.le_succ _, HD.out, HT.out⟩
              · have q3 : (kd == 3) = false := by simpa using k3
                by_cases k4 : kd = 4
                · subst k4
                  clear q0 k0 q1 k1 q2 k2 q3 k3
                  have e1 : IntKind.i64.wrap (1 + (a : Int)) = ((a + 1 : Nat) : Int) := by rw [IntWalk.i64_in _ (by omega)]; omega
                  go_wp2_with fail
                  refine (HC.out.fuse (a + 1) HD.out.d (by omega) hcl).mono ?_
                  rintro e w2 ⟨rfl, F2, ht2, hd2⟩
                  have H2 := Lib.hid (HD.out.dev ht2 hd2 (Nat.le_succ c))
                  have HT2 := Lib.hid (HT.out.trans (ht2.left (G := G1)))
                  clear ht2 hd2 c0 c1 c2 c3
                  go_wp2_with fail
                  go_meet
                  case rel => exact ⟨0, c + 1, _, _, _, _, rfl, .inl rfl, Nat.le_refl _, H2.out, HT2.out⟩
                · have q4 : (kd == 4) = false := by simpa using k4
                  clear k0 k1 k2 k3 k4
                  go_wp2_with fail
                  go_meet
                  case rel => exact ⟨0, c, _, _, _, _, rfl, .inl rfl, Nat.le_succ _, HD.out, HT.out⟩
      case rest =>
        obtain ⟨r, c', F2, G2, t2, k2, rfl, hr, hcc, hh2, ht2⟩ := hcut
        have hsz : n + 2 + c' ≤ L := by
          have := Nat.mul_le_mul_right (n + 4) (show i ≤ m by omega)
          simp only [Nat.add_mul] at hc
          omega
        have hnew : c' + n + 2 ≤ 1 + (i + 1) * (n + 4) := by simp only [Nat.add_mul]; omega
        have hmL : m ≤ 90000 := by have := Nat.le_mul_of_pos_right (m + 2) (show 0 < n + 4 by omega); omega
        have e5 : IntKind.i64.wrap ((i : Int) + 1) = ((i + 1 : Nat) : Int) := by rw [IntWalk.i64_in _ (by omega)]; rfl
        obtain ⟨-, -, -, d3⟩ := svs_cell (HS.out wc ht2.1) i _ HX.out
        dsimp only at d3
        have H2 := Lib.hid hh2
        have HT2 := Lib.hid ht2
        clear hh2 ht2 c0 c1 c2 c3
        rcases hr with rfl | rfl
        · go_wp2_with fail
          go_roundw
          case rel => exact ⟨i + 1, p, c', _, _, _, _, rfl, by go_num, by omega, by omega, H2.out, HT2.out⟩
          case measure => simp [intOf]; omega
        · go_wp2_with fail
          refine (again_anyW b1 b2 b3 b4 b5 HC.out H2.out hn2 (by omega) hL kp hxk).mono ?_
          rintro e w4 ⟨p4, F4, G4, t4, rfl, h4, ht4⟩
          have H4 := Lib.hid h4
          have HT4 := Lib.hid (HT2.out.trans ht4)
          clear h4 ht4
          go_wp2_with fail
          go_roundw
          case rel => exact ⟨i + 1, p4, c' + n + 2, _, _, _, _, rfl, by go_num, by omega, hnew, H4.out, HT4.out⟩
          case measure => simp [intOf]; omega
    · have hin : i = m := by omega
      subst hin
      go_wp2_with fail
      refine (again_anyW b1 b2 b3 b4 b5 HC.out HD.out hn2 (by simp only [Nat.add_mul] at hc; omega) hL 0 (by omega)).mono ?_
      rintro e w4 ⟨p4, F4, G4, t4, rfl, h4, ht4⟩
      have H4 := Lib.hid h4
      have HT4 := Lib.hid (HT.out.trans ht4)
      clear h4 ht4
      go_wp2_with fail
      refine (all_any HC.out H4.out hn2 (by simp only [Nat.add_mul] at hc; omega) hL).mono ?_
      rintro e w5 ⟨rfl, F5, G5, t5, h5, ht5⟩
      have HT5 := Lib.hid (HT4.out.trans ht5)
      clear h5 ht5
      go_wp2_with fail
      go_ret
      exact ⟨rfl, _, HT5.out⟩
end

end Go.Proofs.YtogchafnnkajfaaGreat

namespace Go.Proofs.YtogchafnnkajfaaGreat
set_option linter.unusedVariables false

section
variable {C : VC} {V : VS} {t : List Sec} {k : Bool}

/-- The disks alone have changed, and not to be seen. -/
theorem VI.eqS {S S' : DS} {sl : List Sl} {pm : Bool} {ok : Nat → Nat → Prop} (h : VI C S sl pm ok) (h1 : S'.dr = S.dr) (h2 : S'.log = S.log) : VI C S' sl pm ok := h.shr (Shr.eq h.k.hea h1 h2)

theorem Bd.lose {V V' : VS} {n c : Nat} (h : Bd V V' n c) (k : Nat) : Bd V (V'.loseV C k) (n + 1) c := by
  have h1 := h.fr (C := C) k
  unfold VS.loseV
  split
  · exact h1
  · refine ⟨h1.ok.clear k, ?_, ?_, h1.clk, h1.log, h1.wr, h1.md, h1.op, h1.pm, h1.clo⟩
    · show (List.set _ _ _).length = _
      rw [List.length_set]; exact h1.len
    · show (List.set _ _ _).length = _
      rw [List.length_set]; exact h1.sll
/-- What Write leaves. -/
theorem Bd.wrt {a v : Nat} (hok : V.x.Ok) (hlen : V.x.sl.length = V.ss.length) (hclk : V.x.clk < 1099511627776) (ha : a < C.n0) (hn0 : C.n0 ≤ 65536) : Bd V (V.wrt C a v).2 (2 * C.chunk + 5) 1 := by
  have h0 := Bd.slt (C := C) hok hlen ha hn0 hclk
  have hso := slt_ok (C := C) hok hlen ha hn0 hclk
  unfold VS.wrt
  split
  · exact h0.mono (by omega) (Nat.le_refl _)
  · rename_i he
    have he : (V.slt C a).2.1 = 0 := by
      rcases Classical.em ((V.slt C a).2.1 = 0) with e | e
      · exact e
      · exact absurd e he
    split
    · exact (h0.sw 0 C.n0 (a : Int) v).mono (by omega) (Nat.le_refl _)
    · rename_i hneg
      rcases hso he with e2 | ⟨j, x, e2, hj, hx, hxv, hxb⟩
      · omega
      · rw [e2, Int.toNat_natCast, CS.at_eq hx]
        split
        · -- back
          have hsd := h0.ok.setD j x hx hxv true
          unfold CS.setD at hsd
          rw [CS.at_eq hx] at hsd
          have hb1 : Bd V ((V.slt C a).2.2.bc1 C j x).2 (2 * C.chunk + 3) 1 := by
            unfold VS.bc1
            split
            · exact h0.mono (by omega) (Nat.le_refl _)
            · have h1 := h0.st (C := C) j { x with dirty := true } hsd
              exact bnd_cases (P := fun V' => Bd V V' (2 * C.chunk + 3) 1) h1 (fun _ => h1.fl 2)
          unfold VS.bck
          refine bnd_cases (P := fun V' => Bd V V' (2 * C.chunk + 5) 1) (hb1.mono (by omega) (Nat.le_refl _)) (fun _ => ?_)
          exact (hb1.sw 1 C.n1 ((j * C.chunk + a % C.chunk : Nat) : Int) v).mono (by omega) (Nat.le_refl _)
        · -- through
          have h1 : Bd V ((V.slt C a).2.2.wr0 C a v) (2 * C.chunk + 3) 1 := h0.sw 0 C.n0 (a : Int) v
          have h2 : Bd V (((V.slt C a).2.2.wr0 C a v).wr1 C ((j * C.chunk + a % C.chunk : Nat) : Int) v) (2 * C.chunk + 4) 1 := h1.sw 1 C.n1 ((j * C.chunk + a % C.chunk : Nat) : Int) v
          unfold VS.thr
          split
          · exact (h1.lose (C := C) j).mono (by omega) (Nat.le_refl _)
          · split
            · exact (h2.lose (C := C) j).mono (by omega) (Nat.le_refl _)
            · exact h2.mono (by omega) (Nat.le_refl _)

/-- Write, where the power is away. -/
theorem wrt_down {a v : Nat} (hh : Hea V.S [C.n0, C.n1, C.n2]) (hd : V.S.down = true) (hok : V.x.Ok) (hlen : V.x.sl.length = V.ss.length) (hclk : V.x.clk < 1099511627776) (hn2 : V.x.sl.length + 1 = C.n2) (hc : 1 ≤ C.chunk) (ha : a < C.n0) (hn0 : C.n0 ≤ 65536) (hn1 : V.x.sl.length * C.chunk ≤ C.n1) :
    (V.wrt C a v).1 = 5 ∧ (V.wrt C a v).2.S = V.S := by
  obtain ⟨s1, s2⟩ := slt_down hh hd hok hn2 hc ha hn0 hn1
  have hso := slt_ok (C := C) hok hlen ha hn0 hclk
  unfold VS.wrt
  rcases s2 with e | e
  · rw [if_neg (fun x => x e)]
    have hso := hso e
    generalize V.slt C a = q at *
    obtain ⟨qk, qe, qV⟩ := q
    dsimp only at *
    have hhq : Hea qV.S [C.n0, C.n1, C.n2] := by rw [s1]; exact hh
    have hdq : qV.S.down = true := by rw [s1]; exact hd
    obtain ⟨w1, w2⟩ := wr_down hhq hdq (i := 0) (n := C.n0) rfl a v ha
    rcases hso with rfl | ⟨j, x, rfl, hj, hx, hxv, -⟩
    · rw [if_pos (by omega)]
      exact ⟨w1, w2.trans s1⟩
    · rw [if_neg (by omega), Int.toNat_natCast, CS.at_eq hx]
      have hm := (blk_at a C.chunk hc).2
      have hmm := Nat.mul_le_mul_right C.chunk (show j + 1 ≤ V.x.sl.length by omega)
      rw [Nat.add_mul, Nat.one_mul] at hmm
      split
      · unfold VS.bck
        have hb1 : (qV.bc1 C j x = (0, qV)) ∨ ((qV.bc1 C j x).1 = 5 ∧ (qV.bc1 C j x).2.S = qV.S) := by
          unfold VS.bc1
          split
          · exact .inl rfl
          · right
            obtain ⟨u1, u2⟩ := wr_down hhq hdq (i := 2) (n := C.n2) rfl (1 + j) (Sl.word { x with dirty := true }) (by omega)
            have e1 : qV.setE C j = 5 := u1
            have e2 : (qV.setV C j { x with dirty := true }).S = qV.S := u2
            rw [bnd_no (p := (qV.setE C j, qV.setV C j { x with dirty := true })) (show qV.setE C j ≠ 0 by rw [e1]; decide)]
            exact ⟨e1, e2⟩
        rcases hb1 with hb1 | ⟨hb1, hb2⟩
        · rw [hb1, bnd_ok rfl]
          obtain ⟨u1, u2⟩ := wr_down hhq hdq (i := 1) (n := C.n1) rfl (j * C.chunk + a % C.chunk) v (by omega)
          exact ⟨u1, Eq.trans u2 s1⟩
        · rw [bnd_no (by rw [hb1]; decide)]
          exact ⟨hb1, hb2.trans s1⟩
      · unfold VS.thr
        rw [if_pos (by rw [w1]; decide)]
        have hwS : (qV.wr0 C a v).S = qV.S := w2
        have hfd := free_down (V := qV.wr0 C a v) (C := C) (k := j) (by rw [hwS]; exact hhq) (by rw [hwS]; exact hdq) (by omega)
        exact ⟨w1, by dsimp only; rw [hfd.2.2, hwS, s1]⟩
  · rw [if_pos (by rw [e]; decide)]
    exact ⟨e, s1⟩
/-- Write. -/
theorem DR.write (h : DR C V t k) {a v : Nat} (ha : a < C.n0) (hn0 : C.n0 ≤ 65536) (hclk : V.x.clk < 1099511627776) (hn1 : V.x.sl.length * C.chunk ≤ C.n1) :
    ((V.wrt C a v).1 = 0 ∨ (V.wrt C a v).1 = 5) ∧ DR C (V.wrt C a v).2 (tWrote t a v (decide ((V.wrt C a v).1 = 0))) false := by
  have hbd := Bd.wrt (C := C) (v := v) h.ok h.len hclk ha hn0
  have hal : a < t.length := by rw [h.tl]; exact ha
  have hn2' : (V.wrt C a v).2.x.sl.length + 1 = C.n2 := by rw [hbd.sll]; exact h.n2
  have hcl' : (V.wrt C a v).2.closed = false := by rw [hbd.clo]; exact h.clo
  have htl : ∀ d, (tWrote t a v d).length = C.n0 := fun d => by unfold tWrote; rw [List.length_set]; exact h.tl
  have hpm : (V.wrt C a v).2.pm = V.pm := hbd.pm
  rcases h.st with ⟨hd, hVI, hkn, hcalm⟩ | ⟨hk, hd, hh, sl, hVK⟩
  · rcases wrt_ou (a := a) (v := v) hVI rfl hd h.ok h.len hclk ha hn0 with ⟨r1, r2, r3, r4, r5, r6, r7⟩ | ⟨r1, r2, r3, sl, r4⟩
    · refine ⟨.inl r1, hbd.ok, hbd.len, hcl', hn2', h.ch, htl _, .inl ⟨r2, ?_, ?_, fun e => by cases e⟩⟩
      · rw [hpm]
        exact r4.mono (fun b u _ hu => (okT_wrote hal b u).2 hu)
      · intro b s hs hsk
        unfold tWrote at hs
        rcases set_cases hs with ⟨rfl, rfl⟩ | ⟨hb, hs⟩
        · exact r6
        · exact r7 b _ hb (hkn b s hs hsk)
    · exact ⟨r2, hbd.ok, hbd.len, hcl', hn2', h.ch, htl _, .inr ⟨rfl, r3, r4.hea, sl, by rw [hpm]; exact r4.mono (fun b u _ hu => (okT_wrote hal b u).2 hu)⟩⟩
  · obtain ⟨w1, w2⟩ := wrt_down (v := v) hh hd h.ok h.len hclk h.n2 h.ch ha hn0 hn1
    exact ⟨.inr w1, hbd.ok, hbd.len, hcl', hn2', h.ch, htl _, .inr ⟨rfl, by rw [w2]; exact hd, by rw [w2]; exact hh, sl, by rw [w2, hpm]; exact hVK.mono (fun b u _ hu => (okT_wrote hal b u).2 (.inl hu))⟩⟩
/-- Flush. -/
theorem DR.flush (h : DR C V t k) : (V.flE = 0 ∧ DR C V.flV (tFlushed t) false) ∨ (V.flE = 5 ∧ DR C V.flV t false) := by
  rcases h.st with ⟨hd, hVI, hkn, hcalm⟩ | ⟨hk, hd, hh, sl, hVK⟩
  · left
    obtain ⟨f1, f2, f3, f4, f5, f6, f7, f8⟩ := fls_ou hVI hd
    refine ⟨f1, h.ok, h.len, h.clo, h.n2, h.ch, by unfold tFlushed; rw [List.length_map]; exact h.tl, .inl ⟨f2, ?_, ?_, fun e => by cases e⟩⟩
    · refine f4.mono (fun b u hb hu => ?_)
      have hbl : b < t.length := by rw [h.tl]; exact hb
      unfold okT tFlushed
      rw [List.getElem?_map, List.getElem?_eq_getElem hbl]
      refine ⟨_, rfl, ?_⟩
      unfold Sec.flushed
      split
      · rename_i e
        show u ∈ [(t[b]'hbl).val]
        rw [List.mem_singleton]
        exact VV.uniq f4.k hu (f6 b _ (hkn b _ (List.getElem?_eq_getElem hbl) e))
      · obtain ⟨s, hs, hm⟩ := f8.k.okv hb hu
        rw [List.getElem?_eq_getElem hbl] at hs
        injection hs with hs
        rw [hs]
        exact hm
    · intro b s hs hsk
      unfold tFlushed at hs
      obtain ⟨s0, hs0, rfl⟩ := map_cases hs
      unfold Sec.flushed at hsk ⊢
      split
      · rename_i e
        exact f6 b _ (hkn b s0 hs0 e)
      · rename_i e
        rw [if_neg e] at hsk
        exact absurd hsk e
  · right
    obtain ⟨a1, a2⟩ := fl_down hh hd (i := 1) (n := C.n1) rfl
    obtain ⟨b1, b2⟩ := fl_down hh hd (i := 2) (n := C.n2) rfl
    obtain ⟨c1, c2⟩ := fl_down hh hd (i := 0) (n := C.n0) rfl
    have hE : V.flE = 5 := by
      unfold VS.flE
      rw [if_pos (show V.S.chkF 1 ≠ 0 from fun e => by rw [show V.S.chkF 1 = 5 from a1] at e; cases e)]
      exact a1
    have hS : V.flV.S = V.S := by
      show ((V.S.flush 1).flush 2).flush 0 = V.S
      rw [show V.S.flush 1 = V.S from a2, show V.S.flush 2 = V.S from b2, show V.S.flush 0 = V.S from c2]
    exact ⟨hE, h.ok, h.len, h.clo, h.n2, h.ch, h.tl, .inr ⟨rfl, by rw [hS]; exact hd, by rw [hS]; exact hh, sl, by rw [hS]; exact hVK⟩⟩
/-- The power will fail. -/
theorem DR.fuse (h : DR C V t k) (x : Int) : DR C { V with S := { V.S with fuse := x } } t false := by
  rcases h.st with ⟨hd, hVI, hkn, hcalm⟩ | ⟨hk, hd, hh, sl, hVK⟩
  · exact ⟨h.ok, h.len, h.clo, h.n2, h.ch, h.tl, .inl ⟨hd, hVI.eqS rfl rfl, fun a s hs hsk => (hkn a s hs hsk).now rfl rfl, fun e => by cases e⟩⟩
  · exact ⟨h.ok, h.len, h.clo, h.n2, h.ch, h.tl, .inr ⟨rfl, hd, hh.of rfl rfl, sl, hVK.shr (Shr.eq hh rfl rfl)⟩⟩
/-- Open. -/
theorem ZR.dr {S : DS} (h : ZR C S (okT t)) (htl : t.length = C.n0) (hkn : ∀ (a : Nat) (s : Sec), t[a]? = some s → s.kn = true → s.sm = [s.val]) {mode : Int} (hm : mode = 1 ∨ mode = 2) : DR C ((opn0 S mode).bgn C mode) t true := by
  obtain ⟨v1, v2, v3, v4, v5, v6, v7, -⟩ := h.opened hm
  refine ⟨v4, v5, v7, v1.k.n2.symm, v1.k.ch, htl, .inl ⟨v3.dn, ?_, ?_, fun _ => ⟨v3.fu, by rw [v6]; exact v1⟩⟩⟩
  · rw [v6]
    exact v1.mono (fun a v _ hv => v2 a v hv)
  · intro a s hs hsk
    have ha : a < C.n0 := by rw [← htl]; exact (List.getElem?_eq_some_iff.1 hs).1
    obtain ⟨v, hv⟩ := VV.ex v1.k ha
    obtain ⟨s', hs', hm'⟩ := v2 a v hv
    rw [hs] at hs'
    injection hs' with hs'
    subst hs'
    rw [hkn a s hs hsk, List.mem_singleton] at hm'
    rw [← hm']
    exact hv
end

theorem failed_okT (t : List Sec) (a v : Nat) : okT (tFailed t) a v ↔ okT t a v := by
  unfold okT tFailed
  constructor
  · rintro ⟨s, hs, hv⟩
    obtain ⟨s0, hs0, rfl⟩ := map_cases hs
    exact ⟨s0, hs0, hv⟩
  · rintro ⟨s, hs, hv⟩
    exact ⟨s.failed, by rw [List.getElem?_map, hs]; rfl, hv⟩
theorem failed_kn (t : List Sec) : ∀ (a : Nat) (s : Sec), (tFailed t)[a]? = some s → s.kn = true → s.sm = [s.val] := by
  intro a s hs hk
  unfold tFailed at hs
  obtain ⟨s0, hs0, rfl⟩ := map_cases hs
  cases hk
/-- A new cache. -/
theorem ZR.fmt {C : VC} {S : DS} (h : NF C S) (hst : ∀ i, i < 3 → Stl S i) (ws : List Nat) (K : Nat) (hK : 1 ≤ K ∧ K ≤ 1024) (hc : 1 ≤ C.chunk ∧ C.chunk ≤ 64) (h2 : S.now 2 = fmtW ws K (C.chunk : Int)) (hl : ws.length = K + 1) (hn2 : C.n2 = K + 1) (hn1 : K * C.chunk ≤ C.n1) :
    ZR C S (okT ((S.now 0).map Sec.start)) := by
  obtain ⟨o1, o2, o3, o4⟩ := open_fmt ws K (C.chunk : Int) hK (by omega) (by omega)
  obtain ⟨g1, g2, g3, g4, g5, g6⟩ := hdI_fields K (C.chunk : Int) 0 false (by omega) (by omega) (by omega)
  have hk : opK (S.now 2) = K := by unfold opK; rw [h2, o2]; exact g2
  have hCc : opC (S.now 2) = C.chunk := by unfold opC; rw [h2, o2]; exact Int.ofNat.inj g3
  have hsl : slotsU (S.now 2) (opK (S.now 2)) = List.replicate K Sl.nil := by rw [hk, h2]; exact o3
  have hget : ∀ {j : Nat} {y : Sl}, (List.replicate K Sl.nil)[j]? = some y → y.valid = false := by
    intro j y hy
    have := (List.getElem?_replicate.symm.trans hy)
    split at this
    · injection this with this
      rw [← this]; rfl
    · cases this
  refine ⟨h, hst, by rw [h2]; exact o1, hCc.symm, by rw [hk, hCc]; omega, ?_, by rw [hk]; exact hn2, ?_, ?_⟩
  · rw [hsl]
    unfold badS
    rw [List.any_eq_false]
    intro y hy
    obtain ⟨j, hj⟩ := List.mem_iff_getElem?.1 hy
    rw [hget hj]
    simp
  · intro j y i hy _ hv
    rw [hsl] at hy
    rw [hget hy] at hv
    cases hv
  · intro a v ha hv
    rcases hv with ⟨j, z, hz, hzv, -⟩ | ⟨-, hn⟩
    · rw [List.getElem?_map] at hz
      rw [hsl] at hz
      rcases hy : (List.replicate K Sl.nil)[j]? with _ | y
      · rw [hy] at hz; cases hz
      · rw [hy] at hz
        injection hz with hz
        subst hz
        have := hget hy
        obtain ⟨e1, -⟩ := kept_valid hzv
        rw [e1, this] at hzv
        cases hzv
    · exact ⟨Sec.start v, by rw [List.getElem?_map, hn]; rfl, List.mem_singleton.2 rfl⟩

end Go.Proofs.YtogchafnnkajfaaGreat

namespace Go.Proofs.YtogchafnnkajfaaGreat
set_option linter.unusedVariables false

section
variable {C : VC} {S : DS} {sl : List Sl} {ok ok' : Nat → Nat → Prop} {t : List Sec}
/-- In the mode WriteThrough each word that the origin may hold is one that the sector may read. -/
theorem VK.alone (h : VK C S sl false ok) {a v : Nat} (ha : a < C.n0) (hc : S.Cand 0 a v) : ok a v := by
  by_cases hk : ∃ (k : Nat) (x : Sl), sl[k]? = some x ∧ x.valid = true ∧ x.block = ((a / C.chunk : Nat) : Int)
  · obtain ⟨k, x, hx, hv, hb⟩ := hk
    obtain ⟨l0, l1, l2⟩ := h.lens
    have hn2 := h.n2
    have hkl := (List.getElem?_eq_some_iff.1 hx).1
    have hw : (S.now 2)[1 + k]? = some ((S.now 2)[1 + k]'(by omega)) := List.getElem?_eq_getElem (by omega)
    have hcw := h.hea.la 2 _ _ hw
    have hne : (S.now 2)[1 + k]'(by omega) ≠ dwd x.block true := fun e => h.m rfl k x hx hv (by rw [e] at hcw; exact hcw)
    obtain ⟨e1, e2⟩ := blk_at a C.chunk h.ch
    have := h.b k x _ (a % C.chunk) v hx hv hcw hne e2
    rw [toNat_blk hb, e1] at this
    exact this hc
  · exact h.bo a v ha (fun k x hx hv hb => hk ⟨k, x, hx, hv, hb⟩) hc

/-- The disks behind a power failure: the origin alone. -/
structure ZA (C : VC) (S : DS) (ok : Nat → Nat → Prop) : Prop where
  nf : NF C S
  st : ∀ i, i < 3 → Stl S i
  lg : S.log = []
  v : ∀ a v, a < C.n0 → (S.now 0)[a]? = some v → ok a v

theorem ZA.crash (h : VK C S sl false ok) (hlog : ∀ r ∈ S.log, r.1 < S.dr.length) (bs : List Bool) : ZA C (S.restart bs) ok ∧ (S.restart bs).wr = S.wr := by
  obtain ⟨r1, r2, r3, r4, r5, r6, r7⟩ := restart_at h.hea hlog bs
  have hns : ∀ i, i < 3 → [C.n0, C.n1, C.n2][i]? ≠ none := by
    intro i hi
    obtain rfl | rfl | rfl : i = 0 ∨ i = 1 ∨ i = 2 := by omega
    · simp
    · simp
    · simp
  exact ⟨⟨⟨r1, r4, r3⟩, fun i hi b x hx => (r7 i b x (hns i hi)).1 hx, r2, fun a v ha hv => h.alone ha ((r6 0 C.n0 rfl).2 a v hv)⟩, r5⟩

theorem load_drv (S : DS) (i : Nat) (l : List Nat) (hi : i < S.dr.length) (k : Nat) : (S.load i l).drv k = if k = i then (l, l, (S.drv i).2.2) else S.drv k :=
  drv_set (S.load i l) S.dr i k _ hi rfl
theorem load_now (S : DS) (i : Nat) (l : List Nat) (hi : i < S.dr.length) (k : Nat) : (S.load i l).now k = (if k = i then l else S.now k) ∧ (S.load i l).dur k = (if k = i then l else S.dur k) := by
  unfold DS.now DS.dur
  rw [load_drv S i l hi k]
  by_cases hk : k = i
  · rw [if_pos hk, if_pos hk, if_pos hk]; exact ⟨rfl, rfl⟩
  · rw [if_neg hk, if_neg hk, if_neg hk]; exact ⟨rfl, rfl⟩

/-- A disk loaded anew. -/
theorem ZA.load (h : ZA C S ok) {i n : Nat} (hi : [C.n0, C.n1, C.n2][i]? = some n) (h0 : i ≠ 0) (l : List Nat) (hl : l.length = n) : ZA C (S.load i l) ok := by
  have hlt := h.nf.hea.lt hi
  have hw := load_now S i l hlt
  have hlg : (S.load i l).log = [] := h.lg
  have hc : ∀ k b x, (S.load i l).Cand k b x ↔ ((S.load i l).dur k)[b]? = some x := fun k b x => ⟨fun hx => hx.elim id (fun ⟨r, hr, _⟩ => by rw [hlg] at hr; cases hr), .inl⟩
  have hc0 : ∀ k b x, S.Cand k b x ↔ (S.dur k)[b]? = some x := fun k b x => ⟨fun hx => hx.elim id (fun ⟨r, hr, _⟩ => by rw [h.lg] at hr; cases hr), .inl⟩
  refine ⟨⟨⟨?_, ?_, ?_, ?_⟩, h.nf.dn, h.nf.fu⟩, ?_, hlg, ?_⟩
  · show (S.dr.set i _).length = _
    rw [List.length_set]; exact h.nf.hea.nd
  · intro k m hk
    rw [(hw k).1, (hw k).2, load_drv S i l hlt k]
    obtain ⟨q1, q2, q3⟩ := h.nf.hea.nn k m hk
    by_cases e : k = i
    · rw [if_pos e, if_pos e, if_pos e]
      subst e
      rw [hi] at hk
      injection hk with hk
      exact ⟨by rw [hl, hk], by rw [hl, hk], q3⟩
    · rw [if_neg e, if_neg e, if_neg e]
      exact ⟨q1, q2, q3⟩
  · intro k j _
    rw [(hw k).1, (hw k).2]
    by_cases e : k = i
    · rw [if_pos e, if_pos e]
    · rw [if_neg e, if_neg e]
      exact h.nf.hea.sy k j (fun r hr => by rw [h.lg] at hr; cases hr)
  · intro k j v hv
    rw [hc, (hw k).2]
    rw [(hw k).1] at hv
    by_cases e : k = i
    · rw [if_pos e] at hv ⊢; exact hv
    · rw [if_neg e] at hv ⊢; exact (hc0 k j v).1 (h.nf.hea.la k j v hv)
  · intro k hk b x hx
    rw [hc, (hw k).2] at hx
    rw [(hw k).1]
    by_cases e : k = i
    · rw [if_pos e] at hx ⊢; exact hx
    · rw [if_neg e] at hx ⊢
      exact h.st k hk b x ((hc0 k b x).2 hx)
  · intro a v ha hv
    rw [(hw 0).1, if_neg (fun e => h0 e.symm)] at hv
    exact h.v a v ha hv

theorem ZR.mono (h : ZR C S ok) (ho : ∀ a v, a < C.n0 → VV C S ((slotsU (S.now 2) (opK (S.now 2))).map (kept (opM (S.now 2)) (opO (S.now 2)))) a v → ok a v → ok' a v) : ZR C S ok' :=
  ⟨h.nf, h.st, h.op, h.hC, h.h1, h.hb, h.n2, h.eq, fun a v ha hv => ho a v ha hv (h.v a v ha hv)⟩
/-- .. and the metadata formatted: as a cache whose every slot is empty. -/
theorem ZA.fmt (h : ZA C S ok) (ws : List Nat) (K : Nat) (hK : 1 ≤ K ∧ K ≤ 1024) (hc : 1 ≤ C.chunk ∧ C.chunk ≤ 64) (h2 : S.now 2 = fmtW ws K (C.chunk : Int)) (hl : ws.length = K + 1) (hn2 : C.n2 = K + 1) (hn1 : K * C.chunk ≤ C.n1) : ZR C S ok := by
  refine (ZR.fmt h.nf h.st ws K hK hc h2 hl hn2 hn1).mono fun a v ha _ ho => ?_
  obtain ⟨s, hs, hv⟩ := ho
  obtain ⟨u, hu, rfl⟩ := map_cases hs
  have : v = u := by
    have := hv
    exact List.mem_singleton.1 this
  subst this
  exact h.v a v ha hu
end

end Go.Proofs.YtogchafnnkajfaaGreat

namespace Go.Proofs.YtogchafnnkajfaaGreat
set_option linter.unusedVariables false
open Go.RowKit
attribute [local go_sem] Oper.semAt_some m_write m_read m_flush m_size

/-- .. and the words of the cache in memory. -/
theorem VolIn.meta_ {W : World} {Fc Fv : Nat → Prop} {C : VC} {V : VS} {A B : Option Addr} {c d : Nat} (h : VolIn W Fc Fv C V A c B d) : ∃ A' c', Cs W C.m 160 #[spanV C.s2, .slice A' V.ss.length c', .int .i64 (C.chunk : Int), .int .i64 V.md, .bool V.op] := by
  obtain ⟨F, A', c', h⟩ := h.cache
  exact ⟨A', c', h.meta_⟩

set_option maxRecDepth 100000 in
set_option maxHeartbeats 8000000 in
theorem vbegin_any (W : World) (Fv : Nat → Prop) (C : VC) (V : VS) (mode : Int) (h : VolAt W Fv C V) (hnb : NB C V) (hm : mode = 1 ∨ mode = 2) (n : Nat) (hN : V.x.sl.length = n)
    (hch : C.chunk ≤ 127) (hn0 : C.n0 ≤ 65536) (hn1 : C.n1 ≤ 65536) (hn2 : C.n2 ≤ 65536) (hlog : V.S.log.length + n * (C.chunk + 2) + C.chunk < 999980) (hwr : V.S.wr + (n * (C.chunk + 2) : Nat) + C.chunk ≤ 999980) :
    Calls Tryz.prog 60 #[.pointer (some ⟨C.v, 0, none⟩), .int .i64 mode] W (VolP W Fv C (.int .i64 0) (V.bgn C mode)) := by
  have hln := hnb.ok.len
  rw [hN] at hln
  have HNB := Lib.hid hnb
  have HN := Lib.hid hN
  have hZ : n * (C.chunk + 2) = n * (C.chunk + 1) + n := by rw [show C.chunk + 2 = (C.chunk + 1) + 1 by omega, Nat.mul_add n (C.chunk + 1) 1, Nat.mul_one]
  rw [hZ] at hlog hwr
  have HMK : Hid (∀ k, k < n → k * (C.chunk + 1) + (C.chunk + 1) ≤ n * (C.chunk + 1)) := fun k hk => by
    have := Nat.mul_le_mul_right (C.chunk + 1) (show k + 1 ≤ n by omega)
    rwa [Nat.add_mul, Nat.one_mul] at this
  generalize hY : n * (C.chunk + 1) = Y at *
  have HYY := Lib.hid hY
  clear hY
  have HLW : Hid (V.S.log.length + (Y + n) + C.chunk < 999980 ∧ V.S.wr + (Y + n : Nat) + C.chunk ≤ 999980) := ⟨hlog, hwr⟩
  have HMD := Lib.hid hm
  obtain ⟨Fc, A, c, B, d, h⟩ := h
  obtain ⟨bR, rfl⟩ := h.form (by omega)
  obtain ⟨Am, cm, hmt⟩ := h.meta_
  obtain ⟨c0, c1, c2, c3, c4, c5, c6, c7, c8, c9⟩ := h.cells
  rw [hN] at c1
  have H0 := Lib.hid h
  have HCA := Lib.hid (clean_any W C.m _ _ _ _ _ hmt)
  clear h hnb hN hlog hwr hm hmt hZ c1 c2 c3 c4 c5 c6 c7 c8 c9
  go_enter Tryz.func60, Tryz.ntmps60
  go_upto_if 18 with (go_at_call 111; refine HCA.out.mono ?_; rintro e w1 ⟨rfl, rfl⟩)
  go_cut [] (fun wx => ∃ Fv', VolAtR wx Fv' C (V.bgA C) (some ⟨bR, 0, none⟩) c ∧ Turn Fv Fv' W wx)
  case first =>
    rcases hop : V.op with _ | _
    · have HE : Hid (V.bgA C = V) := by show _ = _; unfold VS.bgA; rw [hop]; rfl
      clear hop
      go_wp2_with fail
      go_meet
      case rel => exact ⟨Fv, by rw [HE.out]; exact ⟨_, _, _, H0.out⟩, Turn.refl _ _⟩
    · have HE : Hid (V.bgA C = { V.bg1 C n with S := (V.bg1 C n).S.flush 2 }) := by show _ = _; unfold VS.bgA; rw [hop, if_pos rfl, HN.out]
      obtain ⟨-, c1, -, -, -, -, -, -, -, -⟩ := H0.out.cells
      rw [HN.out] at c1
      clear hop
      go_wp2_with fail
      clear c1 c0
      go_loopw [26] (fun z wr => ∃ (k : Nat) (Fv' : Nat → Prop), z = .int .i64 k ∧ k ≤ n ∧ VolAtR wr Fv' C (V.bg1 C k) (some ⟨bR, 0, none⟩) c ∧ Turn Fv Fv' W wr) (fun z _ => n - (intOf z).toNat)
      case atStart => exact ⟨0, Fv, rfl, Nat.zero_le _, ⟨_, _, _, H0.out⟩, Turn.refl _ _⟩
      case round =>
        clear H0 HCA
        obtain ⟨k, Fv', rfl, hk, hv, ht⟩ := hrel
        obtain ⟨i1, i2, i3, i4⟩ := HNB.out.bg1 k (by rw [HN.out]; exact hk)
        have HI := Lib.hid i1
        have HT := Lib.hid ht
        have hbl := i4.log
        have hbw := i4.wr
        have hmd := i4.md
        have hlw := HLW.out
        have hsl : (V.bg1 C k).x.sl.length = n := by rw [i3, HN.out]
        have hss : n = (V.bg1 C k).ss.length := by rw [← hsl]; exact i1.len
        have hst : V.bg1 C (k + 1) = if gone V.md ((V.bg1 C k).x.at_ k) = true then (V.bg1 C k).setV C k nilS else V.bg1 C k := rfl
        generalize hVk : V.bg1 C k = Vk at *
        by_cases hlt : k < n
        · have u1 : (k : Int) < (n : Int) := by omega
          have e1 : IntKind.i64.wrap ((k : Int) + 1) = ((k + 1 : Nat) : Int) := by rw [IntWalk.i64_in _ (by omega)]; rfl
          obtain ⟨x, hx⟩ : ∃ x, Vk.x.sl[k]? = some x := ⟨_, List.getElem?_eq_getElem (by omega)⟩
          rw [CS.at_eq hx] at hst
          have HST := Lib.hid hst
          obtain ⟨Fc, B, d, h⟩ := hv.tight
          obtain ⟨p0, p1, p2, p3⟩ := h.slotC hx
          have hb0 : Below wr.heap.size wr (wr.alloc (.cells #[.bool x.valid, .bool x.dirty, .int .i64 x.block, .int .i64 x.stamp] 31)) := (Below.refl _ wr).alloc (Nat.le_refl _) _
          have hC0 := Cs.new wr 31 #[.bool x.valid, .bool x.dirty, .int .i64 x.block, .int .i64 x.stamp]
          have HX := Lib.hid hx
          have HSL := Lib.hid hsl
          have HSS := Lib.hid hss
          have HMDV := Lib.hid hmd
          have H := Lib.hid h
          clear hst hv ht h hx hsl hss i1 i2 i3 i4 hVk hmd
          go_upto_region 5 with (fail)
          clear p0 p1 p2 p3
          have HX2 := Lib.hid (H.out.keep hb0)
          have HT2 := Lib.hid (HT.out.trans (Turn.of_below (F := Fv') hb0))
          clear hb0 H HT
          obtain ⟨t, ht⟩ : ∃ t, wr.heap.size = t := ⟨_, rfl⟩
          rw [ht] at hC0 ⊢
          generalize (wr.alloc (.cells #[.bool x.valid, .bool x.dirty, .int .i64 x.block, .int .i64 x.stamp] 31)) = w2 at *
          have y0 : w2.cell? ⟨t, 0, none⟩ = some (.bool x.valid) := hC0.cell 0
          have y1 : w2.cell? ⟨t, 1, none⟩ = some (.bool x.dirty) := hC0.cell 1
          clear hC0 ht
          obtain ⟨Am2, cm2, hmt2⟩ := HX2.out.meta_
          obtain ⟨c0, -, -, -, -, -, -, -, -, -⟩ := HX2.out.cells
          have HMO := Lib.hid (mode_any w2 C.m _ _ _ _ _ hmt2)
          rw [HMDV.out] at HMO
          clear hmt2
          have HSE := Lib.hid (vsetR_any w2 _ C Vk k nilS _ _ ⟨_, _, _, HX2.out.fv (fun j hj => hj.1)⟩ (by rw [HSL.out]; exact HSS.out) (by rw [← HSS.out]; omega) (by rw [← HSS.out]; omega) (by unfold nilS; dsimp only; omega) (fun _ => ⟨rfl, rfl⟩) hn2 (by omega) (by omega))
          rw [(HI.out.nf.st k (by have := HI.out.n2; rw [HSL.out] at this; omega) nilS).1] at HSE
          unfold Sl.v nilS at HSE
          unfold nilS at HST
          clear HI hbl hbw hlw
          rcases hv : x.valid with _ | _
          · have HG : Hid (V.bg1 C (k + 1) = Vk) := HST.out.trans (if_neg (by unfold gone; rw [hv]; simp))
            rw [hv] at y0
            clear HST HSE hv
            go_wp2_with fail
            go_roundw
            case rel => exact ⟨k + 1, Fv', by go_num, by omega, by rw [HG.out]; exact ⟨_, _, _, HX2.out.fv (fun j hj => hj.1)⟩, HT2.out⟩
            case measure => simp [intOf]; omega
          · by_cases hm1 : V.md = 1
            · have HG : Hid (V.bg1 C (k + 1) = Vk.setV C k nilS) := HST.out.trans (if_pos (by unfold gone; rw [hv, hm1]; simp))
              rw [hv] at y0
              have q1 : (V.md != 1) = false := by simpa using hm1
              clear HST hv hm1
              go_upto_region 6 with (go_at_call 112; refine HMO.out.mono ?_; rintro e wz ⟨rfl, rfl⟩)
              clear y0 y1
              go_upto_region 7 with (go_at_call 113; refine HSE.out.mono ?_; rintro e w3 ⟨rfl, Fv3, hv3, ht3⟩; have HV3 := Lib.hid hv3; have HT3 := Lib.hid (HT2.out.trans ht3); clear hv3 ht3)
              go_wp2_with fail
              go_roundw
              case rel => exact ⟨k + 1, Fv3, by go_num, by omega, by rw [HG.out]; exact HV3.out, HT3.out⟩
              case measure => simp [intOf]; omega
            · have q1 : (V.md != 1) = true := by simpa using hm1
              rcases hd : x.dirty with _ | _
              · have HG : Hid (V.bg1 C (k + 1) = Vk.setV C k nilS) := HST.out.trans (if_pos (by unfold gone; rw [hv, hd]; simp))
                rw [hv] at y0
                rw [hd] at y1
                clear HST hv hm1 hd
                go_upto_region 6 with (go_at_call 112; refine HMO.out.mono ?_; rintro e wz ⟨rfl, rfl⟩)
                clear y0 y1
                go_upto_region 7 with (go_at_call 113; refine HSE.out.mono ?_; rintro e w3 ⟨rfl, Fv3, hv3, ht3⟩; have HV3 := Lib.hid hv3; have HT3 := Lib.hid (HT2.out.trans ht3); clear hv3 ht3)
                go_wp2_with fail
                go_roundw
                case rel => exact ⟨k + 1, Fv3, by go_num, by omega, by rw [HG.out]; exact HV3.out, HT3.out⟩
                case measure => simp [intOf]; omega
              · have HG : Hid (V.bg1 C (k + 1) = Vk) := HST.out.trans (if_neg (by unfold gone; rw [hv, hd]; simp [hm1]))
                rw [hv] at y0
                rw [hd] at y1
                clear HST HSE hv hm1 hd
                go_wp2_with (go_at_call 112; refine HMO.out.mono ?_; rintro e wz ⟨rfl, rfl⟩)
                go_roundw
                case rel => exact ⟨k + 1, Fv', by go_num, by omega, by rw [HG.out]; exact ⟨_, _, _, HX2.out.fv (fun j hj => hj.1)⟩, HT2.out⟩
                case measure => simp [intOf]; omega
        · have hkn : k = n := by omega
          have u1 : ¬ (k : Int) < (n : Int) := by omega
          obtain ⟨Fc, B, d, h⟩ := hv
          obtain ⟨c0, -, -, -, -, -, -, -, -, -⟩ := h.cells
          have HX := Lib.hid h
          have HFL := Lib.hid (cmflush_any wr Fc C.g C.s2 C.m C.n2 Vk.S Vk.ss (C.chunk : Int) Vk.md Vk.op h.cache (by omega))
          obtain ⟨-, -, hfz⟩ := i1.fl
          rw [hfz] at HFL
          have HE2 : Hid (V.bgA C = { Vk with S := Vk.S.flush 2 }) := by
            show _ = _
            rw [HE.out, ← hVk, hkn]
          clear h ht hst hsl hss i1 i2 i3 i4 hVk hmd hkn hbl hbw hlw hfz
          go_wp2_with (go_at_call 64; refine HFL.out.mono ?_; rintro e w3 ⟨rfl, Fc3, hc3, ht3⟩; have HX3 := Lib.hid (HX.out.turn hc3 ht3); have HT3 := Lib.hid (HT.out.trans (HX.out.wide ht3)); clear hc3 ht3)
          go_meet
          case rel => exact ⟨_, by rw [HE2.out]; exact ⟨_, _, _, HX3.out⟩, HT3.out⟩
  case rest =>
    obtain ⟨Fv1, hv1, ht1⟩ := hcut
    obtain ⟨a1, a2, a3, a4⟩ := HNB.out.bgA
    have HA1 := Lib.hid a1
    have HA4 := Lib.hid a4
    have HSL : Hid ((V.bgA C).x.sl.length = n) := by show _ = _; rw [a3, HN.out]
    have HE1 : Hid (V.bgB C mode = if mode = 1 then (V.bgA C).bg3 C (V.bgA C).x.sl.length else V.bgA C) := rfl
    generalize V.bgA C = V1 at *
    rw [HSL.out] at HE1
    have HV1 := Lib.hid hv1
    have HT1 := Lib.hid ht1
    clear hv1 ht1 a1 a2 a3 a4 H0 HCA c0
    have hbB := HNB.out.bgB mode
    have HBB := Lib.hid hbB
    clear hbB
    go_upto_if 65 with (fail)
    go_cut [] (fun wx => ∃ Fv', VolAt wx Fv' C (V.bgB C mode) ∧ Turn Fv Fv' W wx)
    case first =>
      rcases HMD.out with rfl | rfl
      · have HE2 : Hid (V.bgB C 1 = V1.bg3 C n) := HE1.out.trans (if_pos rfl)
        obtain ⟨Fc, B, d, h⟩ := HV1.out
        obtain ⟨-, c1, -, -, -, -, -, -, -, -⟩ := h.cells
        rw [HSL.out] at c1
        clear HE1 h
        go_wp2_with fail
        clear c1
        go_loopw [73] (fun z wr => ∃ (k : Nat) (Fv' : Nat → Prop), z = .int .i64 k ∧ k ≤ n ∧ VolAtR wr Fv' C (V1.bg3 C k) (some ⟨bR, 0, none⟩) c ∧ Turn Fv Fv' W wr) (fun z _ => n - (intOf z).toNat)
        case atStart => exact ⟨0, Fv1, rfl, Nat.zero_le _, HV1.out, HT1.out⟩
        case round =>
          clear HV1 HT1
          obtain ⟨k, Fv', rfl, hk, hv, ht⟩ := hrel
          obtain ⟨i1, i2, i3, i4⟩ := HA1.out.bg3 k (by rw [HSL.out]; exact hk)
          have HI := Lib.hid i1
          have HT := Lib.hid ht
          have hbl := (HA4.out.trans i4).log
          have hbw := (HA4.out.trans i4).wr
          rw [HN.out] at hbl hbw
          have hlw := HLW.out
          have hmk := HMK.out k
          have hsl : (V1.bg3 C k).x.sl.length = n := by rw [i3, HSL.out]
          have hss : n = (V1.bg3 C k).ss.length := by rw [← hsl]; exact i1.len
          have hst : V1.bg3 C (k + 1) = if ((V1.bg3 C k).x.at_ k).dirty = true then (V1.bg3 C k).clV C k ((V1.bg3 C k).x.at_ k).block.toNat ((V1.bg3 C k).x.at_ k) else V1.bg3 C k := rfl
          generalize hVk : V1.bg3 C k = Vk at *
          by_cases hlt : k < n
          · have hmk := hmk hlt
            have u1 : (k : Int) < (n : Int) := by omega
            have e1 : IntKind.i64.wrap ((k : Int) + 1) = ((k + 1 : Nat) : Int) := by rw [IntWalk.i64_in _ (by omega)]; rfl
            obtain ⟨x, hx⟩ : ∃ x, Vk.x.sl[k]? = some x := ⟨_, List.getElem?_eq_getElem (by omega)⟩
            rw [CS.at_eq hx] at hst
            have HST := Lib.hid hst
            obtain ⟨Fc, B, d, h⟩ := hv.tight
            obtain ⟨p0, p1, p2, p3⟩ := h.slotC hx
            have hb0 : Below wr.heap.size wr (wr.alloc (.cells #[.bool x.valid, .bool x.dirty, .int .i64 x.block, .int .i64 x.stamp] 31)) := (Below.refl _ wr).alloc (Nat.le_refl _) _
            have hC0 := Cs.new wr 31 #[.bool x.valid, .bool x.dirty, .int .i64 x.block, .int .i64 x.stamp]
            have HX := Lib.hid hx
            have HSL2 := Lib.hid hsl
            have HSS := Lib.hid hss
            have H := Lib.hid h
            clear hst hv ht h hx hsl hss i1 i2 i3 i4 hVk
            go_upto_region 17 with (fail)
            clear p0 p1 p2 p3
            have HX2 := Lib.hid (H.out.keep hb0)
            have HT2 := Lib.hid (HT.out.trans (Turn.of_below (F := Fv') hb0))
            clear hb0 H HT
            obtain ⟨t, ht⟩ : ∃ t, wr.heap.size = t := ⟨_, rfl⟩
            rw [ht] at hC0 ⊢
            generalize (wr.alloc (.cells #[.bool x.valid, .bool x.dirty, .int .i64 x.block, .int .i64 x.stamp] 31)) = w2 at *
            have y1 : w2.cell? ⟨t, 1, none⟩ = some (.bool x.dirty) := hC0.cell 1
            clear hC0 ht
            rcases hd : x.dirty with _ | _
            · have HG : Hid (V1.bg3 C (k + 1) = Vk) := HST.out.trans (if_neg (by rw [hd]; simp))
              rw [hd] at y1
              clear HST hd
              go_wp2_with fail
              go_roundw
              case rel => exact ⟨k + 1, Fv', by go_num, by omega, by rw [HG.out]; exact ⟨_, _, _, HX2.out.fv (fun j hj => hj.1)⟩, HT2.out⟩
              case measure => simp [intOf]; omega
            · have HG : Hid (V1.bg3 C (k + 1) = Vk.clV C k x.block.toNat x) := HST.out.trans (if_pos hd)
              have hv := HI.out.dirty HX.out hd
              have hbb := (HI.out.ok.blk x (List.mem_of_getElem? HX.out) hv).1
              have hkn2 : 1 + k < C.n2 := by have := HI.out.n2; rw [HSL2.out] at this; omega
              obtain ⟨z1, -⟩ := HI.out.nf.cl HX.out hkn2 (HI.out.fast HX.out) (HI.out.wh k x HX.out hv)
              have HCL := Lib.hid (vcleanR_any w2 _ C Vk k x.block.toNat x _ _ ⟨_, _, _, HX2.out.fv (fun j hj => hj.1)⟩ HX.out (by omega) hv (by rw [HSL2.out]; exact HSS.out) (by rw [← HSS.out]; omega) (by omega) hch hn0 hn1 hn2 (by omega) (by omega))
              rw [z1] at HCL
              rw [hd] at y1
              clear HST hd hv hbb z1 HI hbl hbw hlw hmk
              generalize Vk.clV C k x.block.toNat x = V2 at *
              go_upto_region 19 with (go_at_call 86; refine HCL.out.mono ?_; rintro e w3 ⟨rfl, Fv3, hv3, ht3⟩; have HV3 := Lib.hid hv3; have HT3 := Lib.hid (HT2.out.trans ht3); clear hv3 ht3)
              clear y1
              go_wp2_with fail
              go_roundw
              case rel => exact ⟨k + 1, Fv3, by go_num, by omega, by rw [HG.out]; exact HV3.out, HT3.out⟩
              case measure => simp [intOf]; omega
          · have hkn : k = n := by omega
            have u1 : ¬ (k : Int) < (n : Int) := by omega
            have HE3 : Hid (V.bgB C 1 = Vk) := by
              show _ = _
              rw [HE2.out, ← hVk, hkn]
            have HV := Lib.hid hv.at_
            clear hv ht hst hsl hss i1 i2 i3 i4 hVk hkn hbl hbw hlw hmk HI
            go_wp2_with fail
            go_meet
            case rel => exact ⟨Fv', by rw [HE3.out]; exact HV.out, HT.out⟩
      · have HE2 : Hid (V.bgB C 2 = V1) := HE1.out.trans (if_neg (by decide))
        go_wp2_with fail
        go_meet
        case rel => exact ⟨Fv1, by rw [HE2.out]; exact HV1.out.at_, HT1.out⟩
    case rest =>
      clear HV1 HT1
      obtain ⟨Fv2, hv2, ht2⟩ := hcut
      obtain ⟨b1, b2, b3, b4⟩ := HBB.out
      have HEB : Hid (V.bgn C mode = { V.bgB C mode with S := (V.bgB C mode).S.first 2 C.n2 (hdI (V.bgB C mode).ss.length (C.chunk : Int) mode true), md := mode, op := true }) := rfl
      obtain ⟨f1, -⟩ := b1.nf.first (by have := b1.n2; omega) (hdI (V.bgB C mode).ss.length (C.chunk : Int) mode true)
      have hbl := b4.log
      have hbw := b4.wr
      rw [HN.out, show C.chunk + 2 = (C.chunk + 1) + 1 by omega, Nat.mul_add n (C.chunk + 1) 1, Nat.mul_one] at hbl hbw
      have hlw := HLW.out
      have hYY := HYY.out
      have hss : (V.bgB C mode).ss.length = n := by rw [← b1.len, b3, HN.out]
      generalize V.bgB C mode = V2 at *
      obtain ⟨Fc, A, c', B, d, h⟩ := hv2
      obtain ⟨c0, -, -, -, -, -, -, -, -, -⟩ := h.cells
      have HX := Lib.hid h
      have HT := Lib.hid ht2
      have hn2p : 1 ≤ C.n2 := by have := b1.n2; omega
      have HBG := Lib.hid (cbeginK wc Fc C.g C.s2 C.m C.n2 V2.S V2.ss (C.chunk : Int) V2.md mode V2.op h.cache HMD.out f1 hn2p hn2 (by rw [hss]; omega) (by omega) (by omega))
      clear h ht2 b1 b2 b3 b4 hbl hbw hlw hss hYY f1
      go_wp2_with (go_at_call 114; refine HBG.out.mono ?_; rintro e w3 ⟨rfl, Fc3, hc3, ht3⟩; have HX3 := Lib.hid (HX.out.turn hc3 ht3); have HT3 := Lib.hid (HT.out.trans (HX.out.wide ht3)); clear hc3 ht3)
      go_ret
      refine ⟨rfl, _, ?_, HT3.out⟩
      rw [HEB.out]
      exact ⟨_, _, _, _, _, HX3.out⟩

end Go.Proofs.YtogchafnnkajfaaGreat

namespace Go.Proofs.YtogchafnnkajfaaGreat
set_option linter.unusedVariables false
open Go.RowKit
attribute [local go_sem] Oper.semAt_some m_write m_read m_flush m_size

/-- How a function in a map reads. -/
def fnR : Value → Option (DataW Unit × List MemPlace)
  | .func (.func n) a b => if a.size = 0 ∧ b.size = 0 then some (.lit (.int .i64 (n : Int)), []) else none
  | _ => some (.lit (.bool false), [])
theorem fnR_inv {v : Value} {n : Nat} {ps : List MemPlace} (h : fnR v = some (.lit (.int .i64 (n : Int)), ps)) : v = .func (.func n) #[] #[] := by
  unfold fnR at h
  split at h
  · rename_i m a b
    split at h
    · rename_i hs
      obtain ⟨h1, h2⟩ := hs
      rw [Array.size_eq_zero_iff] at h1 h2
      subst h1
      subst h2
      simp only [Option.some.injEq, Prod.mk.injEq, DataW.lit.injEq, Lit.int.injEq, true_and] at h
      have : m = n := Int.ofNat.inj h.1
      subst this
      rfl
    · cases h
  · injection h with h
    injection h with h
    injection h with h
    cases h
/-- The map of the modes. -/
def ModesD : DataW Unit := (((DataW.map []).put (.int .i64 1) (.lit (.int .i64 ((101 : Nat) : Int)))).put (.int .i64 2) (.lit (.int .i64 ((102 : Nat) : Int))))
def MoP (W : World) (e : Ending) (w : World) : Prop := e = .returned (.map (some W.heap.size)) ∧ w.ownsMap Tryz.prog 3 fnR W.heap.size 2 ModesD ∧ Below W.heap.size W w
set_option maxHeartbeats 1000000 in
theorem modes_any (W : World) : Calls Tryz.prog 56 #[] W (MoP W) := by
  have hmm := @run_makeMap Tryz.prog
  obtain ⟨W2, hr2, ho2, hg2⟩ := (World.ownsMap_made W Tryz.prog 3 fnR).update (t := 103) (Maps.int_keyed Tryz.underlying3) Tryz.underlying103 (by unfold maxLen; omega) (Maps.keyOf_int_mk Tryz.underlying3 (i64_wf 1 (by omega))) (val := .func (.func 101) #[] #[]) (d := .lit (.int .i64 ((101 : Nat) : Int))) (ps := []) rfl
  obtain ⟨W3, hr3, ho3, hg3⟩ := ho2.update (t := 103) (Maps.int_keyed Tryz.underlying3) Tryz.underlying103 (by unfold maxLen; omega) (Maps.keyOf_int_mk Tryz.underlying3 (i64_wf 2 (by omega))) (val := .func (.func 102) #[] #[]) (d := .lit (.int .i64 ((102 : Nat) : Int))) (ps := []) rfl
  have hb : Below W.heap.size W W3 := (((Below.refl _ W).alloc (Nat.le_refl _) (.map #[] 0)).grown hg2 (by simp) (fun j e => by injection e with e; omega)).grown hg3 (by have := hg2.size; simp at this; omega) (fun j e => by injection e with e; omega)
  have HB := Lib.hid hb
  have HO := Lib.hid ho3
  clear hg2 hg3 ho2 ho3 hb
  go_enter Tryz.func56, Tryz.ntmps56
  go_wp2_with fail
  go_ret
  exact ⟨rfl, HO.out, HB.out⟩

end Go.Proofs.YtogchafnnkajfaaGreat

namespace Go.Proofs.YtogchafnnkajfaaGreat
set_option linter.unusedVariables false
open Go.RowKit
attribute [local go_sem] Oper.semAt_some m_write m_read m_flush m_size

theorem zero_fn (w : World) : (zeroValue 99).run Tryz.prog w = .ok .nilFunc w := by kernel_rfl
/-- A mode is looked up. -/
theorem modes_look (w : World) (b : Nat) (h : w.ownsMap Tryz.prog 3 fnR b 2 ModesD) (mode : Int) (hm : mode = 1 ∨ mode = 2) :
    (Instr.lookup 103 (.map (some b)) (.int .i64 mode) true).run Tryz.prog w = .ok (.tuple #[putV (decide (mode = 2)), .bool true]) w := by
  have key : ∀ (n : Nat) (mode : Int), ModesD.atKey (.int .i64 mode) (.lit (.bool false)) = .lit (.int .i64 (n : Int)) → Maps.has ModesD (.int .i64 mode) = true → -9223372036854775808 ≤ mode ∧ mode ≤ 9223372036854775807 →
      (Instr.lookup 103 (.map (some b)) (.int .i64 mode) true).run Tryz.prog w = .ok (.tuple #[.func (.func n) #[] #[], .bool true]) w := by
    intro n mode h1 h2 hb
    obtain ⟨v, ps, hrun, hv⟩ := h.look_ok (Maps.int_keyed Tryz.underlying3) Tryz.underlying103 (zero_fn w) (zd := .lit (.bool false)) (zp := []) rfl (Maps.keyOf_int_mk Tryz.underlying3 (i64_wf mode hb))
    rw [h1] at hv
    rw [fnR_inv hv, h2] at hrun
    exact hrun
  rcases hm with rfl | rfl
  · exact key _ 1 rfl rfl (by omega)
  · exact key _ 2 rfl rfl (by omega)
theorem modes_none (w : World) (b : Nat) (h : w.ownsMap Tryz.prog 3 fnR b 2 ModesD) (mode : Int) (h1 : mode ≠ 1) (h2 : mode ≠ 2) (hb : -9223372036854775808 ≤ mode ∧ mode ≤ 9223372036854775807) :
    ∃ v, (Instr.lookup 103 (.map (some b)) (.int .i64 mode) true).run Tryz.prog w = .ok (.tuple #[v, .bool false]) w := by
  obtain ⟨v, ps, hrun, hv⟩ := h.look_ok (Maps.int_keyed Tryz.underlying3) Tryz.underlying103 (zero_fn w) (zd := .lit (.bool false)) (zp := []) rfl (Maps.keyOf_int_mk Tryz.underlying3 (i64_wf mode hb))
  have hh : Maps.has ModesD (.int .i64 mode) = false := by
    unfold ModesD
    rw [Maps.has_put_other (by intro e; injection e with _ e; exact h2 e), Maps.has_put_other (by intro e; injection e with _ e; exact h1 e)]
    rfl
  rw [hh] at hrun
  exact ⟨v, hrun⟩

/-- What Open leaves. -/
def OpnP (W : World) (F0 : Nat → Prop) (g s0 s1 s2 n0 n1 n2 : Nat) (S : DS) (mode : Int) (e : Ending) (w : World) : Prop :=
  (opnE (S.now 2) n0 n1 mode ≠ 0 ∧ e = .returned (.tuple #[.pointer none, .int .i64 (opnE (S.now 2) n0 n1 mode)]) ∧ ∃ F', Turn F0 F' W w) ∨
  (opnE (S.now 2) n0 n1 mode = 0 ∧ ∃ m v Fv', e = .returned (.tuple #[.pointer (some ⟨v, 0, none⟩), .int .i64 0]) ∧ VolAt w Fv' ⟨g, s0, s1, s2, m, v, n0, n1, n2, opC (S.now 2)⟩ ((opn0 S mode).bgn ⟨g, s0, s1, s2, m, v, n0, n1, n2, opC (S.now 2)⟩ mode) ∧ Turn F0 Fv' W w)

set_option maxRecDepth 100000 in
set_option maxHeartbeats 8000000 in
theorem vopen_any (W : World) (F F0 : Nat → Prop) (g s0 s1 s2 n0 n1 n2 : Nat) (S : DS) (mode : Int) (h : DskAt W F g S) (hs0 : SpanAt W s0 g 0 n0) (hs1 : SpanAt W s1 g 1 n1) (hs2 : SpanAt W s2 g 2 n2) (hf : ∀ j, F j → F0 j) (hf0 : F0 s0) (hf1 : F0 s1) (hf2 : F0 s2) (hF0 : ¬ F s0) (hF1 : ¬ F s1) (hF2 : ¬ F s2) (h02 : s0 ≠ s2) (h12 : s1 ≠ s2)
    (hea : Hea S [n0, n1, n2]) (hdn : S.down = false) (hfu : S.fuse = 0) (hw : W64 (S.now 2)) (hn0 : n0 ≤ 65536) (hn1 : n1 ≤ 65536) (hn2 : n2 ≤ 65536) (hn2' : 1 ≤ n2) (hlog : S.log.length ≤ 700000) (hwr : S.wr ≤ 700000) (hmo : -9223372036854775808 ≤ mode ∧ mode ≤ 9223372036854775807) :
    Calls Tryz.prog 24 #[spanV s0, spanV s1, spanV s2, .int .i64 mode] W (OpnP W F0 g s0 s1 s2 n0 n1 n2 S mode) := by
  have HMD := Lib.hid (modes_any W)
  have HD := Lib.hid h
  have HS0 := Lib.hid hs0
  have HS1 := Lib.hid hs1
  have HS2 := Lib.hid hs2
  have HNF : Hid (∀ c, NF ⟨g, s0, s1, s2, c, c, n0, n1, n2, c⟩ S) := fun c => ⟨hea, hdn, hfu⟩
  have HL2 : Hid ((S.now 2).length = n2) := (hea.nn 2 n2 rfl).1
  have HE : Hid (opnE (S.now 2) n0 n1 mode = if mode ≠ 1 ∧ mode ≠ 2 then 1 else if openE (S.now 2) ≠ 0 then openE (S.now 2) else if n1 < opK (S.now 2) * opC (S.now 2) then 3 else if badS (slotsU (S.now 2) (opK (S.now 2))) (n0 / opC (S.now 2)) = true then 24 else 0) := rfl
  have HF : Hid (∀ j, F j → F0 j) := hf
  have HW64 := Lib.hid hw
  clear h hs0 hs1 hs2 hf hea hdn hfu hw
  unfold spanV
  go_enter Tryz.func24, Tryz.ntmps24
  by_cases hm : mode ≠ 1 ∧ mode ≠ 2
  · have HE1 : Hid (opnE (S.now 2) n0 n1 mode = 1) := HE.out.trans (if_pos hm)
    go_upto_region 2 with (go_at_call 56; refine HMD.out.mono ?_; rintro e w1 ⟨rfl, ho1, hb1⟩; have HB1 := Lib.hid hb1; obtain ⟨vz, hlk⟩ := modes_none w1 _ ho1 mode hm.1 hm.2 hmo; clear ho1 hb1)
    go_wp2_with fail
    go_ret2
    refine .inl ?_
    rw [HE1.out]
    exact ⟨by decide, rfl, F0, Turn.of_below HB1.out⟩
  · have HE1 := Lib.hid (HE.out.trans (if_neg hm))
    have hm12 : mode = 1 ∨ mode = 2 := by
      by_cases e1 : mode = 1
      · exact .inl e1
      · by_cases e2 : mode = 2
        · exact .inr e2
        · exact absurd ⟨e1, e2⟩ hm
    have HM := Lib.hid hm12
    obtain ⟨N, hN⟩ : ∃ N : Nat, (if decide (mode = 2) = true then 102 else 101) = N := ⟨_, rfl⟩
    have HN : Hid (putV (decide (mode = 2)) = .func (.func N) #[] #[]) := by show _ = _; unfold putV; rw [hN]
    clear hm hm12 HE hN
    go_upto_region 4 with (go_at_call 56; refine HMD.out.mono ?_; rintro e w1 ⟨rfl, ho1, hb1⟩; have HB1 := Lib.hid hb1; have hlk := modes_look w1 _ ho1 mode HM.out; rw [HN.out] at hlk; clear ho1 hb1)
    have HD1 := Lib.hid (HD.out.keep HB1.out)
    have HS01 := Lib.hid (Cs.below HS0.out HB1.out HS0.out.lt)
    have HS11 := Lib.hid (Cs.below HS1.out HB1.out HS1.out.lt)
    have HS21 := Lib.hid (Cs.below HS2.out HB1.out HS2.out.lt)
    have HOP := Lib.hid (openK w1 F g s2 n2 (S.now 2) S HD1.out HS21.out hF2 ((HNF.out 0).fl (i := 2) (n := n2) rfl).1 (by
      intro a h1 h2
      obtain ⟨-, hN, hs, -⟩ := (HNF.out 0).fl (i := 2) (n := n2) rfl
      have := (rd_out hN.hea hN.dn (i := 2) (n := n2) rfl a.toNat (by omega)).1
      rw [show ((a.toNat : Nat) : Int) = a by omega] at this
      exact this) (by
      intro a h1 h2
      obtain ⟨-, hN, hs, -⟩ := (HNF.out 0).fl (i := 2) (n := n2) rfl
      have := (rd_out hN.hea hN.dn (i := 2) (n := n2) rfl a.toNat (by omega)).2
      rw [show ((a.toNat : Nat) : Int) = a by omega, hs.now] at this
      rw [this]
      rfl) HL2.out hn2' hn2 HW64.out (by omega))
    unfold spanV at HOP
    clear hlk HMD
    go_wp2_with fail
    refine HOP.out.mono ?_
    rintro e w2 ⟨F2, hd2, ht2, ⟨hne, rfl⟩ | ⟨hz, m, base, rfl, hWm, hmb, hFm, hMt⟩⟩
    · have HE2 : Hid (opnE (S.now 2) n0 n1 mode = openE (S.now 2)) := HE1.out.trans (if_pos hne)
      have HT2 := Lib.hid ((Turn.of_below (F := F0) HB1.out).trans (turn_wide HF.out ht2))
      have hq : (openE (S.now 2) != 0) = true := by simpa using hne
      clear HE1 hd2 ht2 HOP HS01 HS11 HS21 HD1
      go_wp2_with fail
      go_ret2
      refine .inl ?_
      rw [HE2.out]
      exact ⟨hne, rfl, _, HT2.out⟩
    · obtain ⟨Am, cm, hC, hrow⟩ := hMt
      obtain ⟨o1, o2, o3, o4, o5⟩ := open_cs (S.now 2) hz
      have HE2 : Hid (opnE (S.now 2) n0 n1 mode = if n1 < opK (S.now 2) * opC (S.now 2) then 3 else if badS (slotsU (S.now 2) (opK (S.now 2))) (n0 / opC (S.now 2)) = true then 24 else 0) := HE1.out.trans (if_neg (fun e => e hz))
      have hC : Cs w2 m 160 #[spanV s2, .slice Am (slotsU (S.now 2) (opK (S.now 2))).length cm, .int .i64 (opC (S.now 2) : Int), .int .i64 (opM (S.now 2)), .bool (opO (S.now 2))] := hC
      have hrow : w2.ownsRow base 31 4 (.slice Am (slotsU (S.now 2) (opK (S.now 2))).length cm) (slotsU (S.now 2) (opK (S.now 2))).length (scs (slotsU (S.now 2) (opK (S.now 2)))) := hrow
      have HNB : Hid (∀ v, ¬ n1 < opK (S.now 2) * opC (S.now 2) → badS (slotsU (S.now 2) (opK (S.now 2))) (n0 / opC (S.now 2)) = false → NB ⟨g, s0, s1, s2, m, v, n0, n1, n2, opC (S.now 2)⟩ (opn0 S mode)) := fun v h1 h2 => opn_nb (C := ⟨g, s0, s1, s2, m, v, n0, n1, n2, opC (S.now 2)⟩) ⟨(HNF.out 0).hea, (HNF.out 0).dn, (HNF.out 0).fu⟩ hz rfl h1 h2
      have HO0 : Hid (opn0 S mode = ⟨S.flush 2, ⟨slotsU (S.now 2) (opK (S.now 2)), 0, []⟩, slotsU (S.now 2) (opK (S.now 2)), opM (S.now 2), opO (S.now 2), decide (mode = 2), false, false⟩) := rfl
      have hl := slotsU_length (S.now 2) (opK (S.now 2))
      have hln := o1.len
      change 1 ≤ (slotsU (S.now 2) (opK (S.now 2))).length ∧ (slotsU (S.now 2) (opK (S.now 2))).length ≤ 1024 at hln
      have hblk : ∀ (k : Nat) (x : Sl), (slotsU (S.now 2) (opK (S.now 2)))[k]? = some x → x.valid = true → 0 ≤ x.block ∧ x.block ≤ 16777215 := fun k x hx hv => (o1.blk x (List.mem_of_getElem? hx) hv).1
      have hqz : (openE (S.now 2) != 0) = false := by simpa using hz
      have HBGN : Hid (∀ C : VC, (opn0 S mode).bgn C mode = (opn0 S mode).bgn C mode) := fun _ => rfl
      generalize slotsU (S.now 2) (opK (S.now 2)) = ss at *
      generalize hCE : opC (S.now 2) = ch at *
      have HCE := Lib.hid hCE
      clear hCE
      generalize opK (S.now 2) = K at *
      subst hl
      generalize hRE : opnE (S.now 2) n0 n1 mode = rE at *
      have HRE := Lib.hid hRE
      clear hRE
      generalize hVE : opn0 S mode = V0 at *
      have HVE0 := Lib.hid hVE
      clear hVE
      generalize opM (S.now 2) = md at *
      generalize opO (S.now 2) = op at *
      have HMB : Hid (w1.heap.size ≤ m ∧ m < base) := ⟨hWm, hmb⟩
      have hsz1 : W.heap.size ≤ w1.heap.size := HB1.out.size
      have hca : CacheAt w2 (fun j => F2 j ∨ j = s2 ∨ m ≤ j) g s2 m n2 (S.flush 2) ss (ch : Int) md op := by
        have h2m : s2 < m := Nat.lt_of_lt_of_le HS21.out.lt hWm
        refine ⟨F2, Am, cm, hd2, fun j hj => .inl hj, Cs.fr HS21.out ht2.1 hF2, ht2.out HS21.out.lt hF2, .inr (.inl rfl), by omega, fun e => by have := hFm _ e; omega, .inr (.inr (Nat.le_refl _)), hC, own_lower hrow (Nat.zero_le _), fun b hb => ?_⟩
        have hbb := (hrow.lt b hb).1
        exact ⟨fun e => by have := hFm _ e; omega, by omega, by omega, .inr (.inr (by omega))⟩
      have HCA := Lib.hid hca.tight
      have HFM := Lib.hid hFm
      have HS02 := Lib.hid (Cs.fr HS01.out ht2.1 hF0)
      have HS12 := Lib.hid (Cs.fr HS11.out ht2.1 hF1)
      have HNS : Hid (¬ (F2 s0 ∨ s0 = s2 ∨ m ≤ s0) ∧ ¬ (F2 s1 ∨ s1 = s2 ∨ m ≤ s1)) := by
        have q0 := HS01.out.lt
        have q1 := HS11.out.lt
        exact ⟨fun e => e.elim (ht2.out q0 hF0) (fun e => e.elim h02 (fun e => by omega)), fun e => e.elim (ht2.out q1 hF1) (fun e => e.elim h12 (fun e => by omega))⟩
      have HT2 := Lib.hid ((Turn.of_below (F := F0) HB1.out).trans (turn_wide HF.out ht2))
      have HCH := Lib.hid (chunk_any w2 m _ _ _ _ _ hC)
      have HC := Lib.hid hC
      have HROW := Lib.hid hrow
      have HLN := Lib.hid hln
      have HBLK := Lib.hid hblk
      have hml : m < w2.heap.size := hC.lt
      clear hca hFm ht2 hC hrow hln hblk hd2 HOP HS01 HS11 HS21 HD1 o1 o2 o5 HE1 hWm hmb hz HBGN
      go_upto_region 8 with (go_at_call 58; refine HCH.out.mono ?_; rintro e wz ⟨rfl, rfl⟩)
      have hCv := Cs.new w2 101 #[.pointer (some ⟨m, 0, none⟩), .slice none 0 0, .int .i64 0, .slice none 0 0, .int .i64 (ch : Int), .iface 176 (.pointer (some ⟨s0, 0, none⟩)), .iface 176 (.pointer (some ⟨s1, 0, none⟩)), .func (.func N) #[] #[], .bool false, .bool false]
      have hb3 : Below w2.heap.size w2 (w2.alloc (.cells #[.pointer (some ⟨m, 0, none⟩), .slice none 0 0, .int .i64 0, .slice none 0 0, .int .i64 (ch : Int), .iface 176 (.pointer (some ⟨s0, 0, none⟩)), .iface 176 (.pointer (some ⟨s1, 0, none⟩)), .func (.func N) #[] #[], .bool false, .bool false] 101)) := (Below.refl _ w2).alloc (Nat.le_refl _) _
      have HSZ3 : Hid ((w2.alloc (.cells #[.pointer (some ⟨m, 0, none⟩), .slice none 0 0, .int .i64 0, .slice none 0 0, .int .i64 (ch : Int), .iface 176 (.pointer (some ⟨s0, 0, none⟩)), .iface 176 (.pointer (some ⟨s1, 0, none⟩)), .func (.func N) #[] #[], .bool false, .bool false] 101)).heap.size = w2.heap.size + 1) := by show _ = _; simp
      obtain ⟨v, hv⟩ : ∃ v, w2.heap.size = v := ⟨_, rfl⟩
      have HVE := Lib.hid hv
      rw [hv] at hCv HSZ3 ⊢
      clear hv
      generalize (w2.alloc (.cells #[.pointer (some ⟨m, 0, none⟩), .slice none 0 0, .int .i64 0, .slice none 0 0, .int .i64 (ch : Int), .iface 176 (.pointer (some ⟨s0, 0, none⟩)), .iface 176 (.pointer (some ⟨s1, 0, none⟩)), .func (.func N) #[] #[], .bool false, .bool false] 101)) = w3 at *
      have HSL := Lib.hid (slots_any w3 base m cm ss.length Am ss _ _ _ _ rfl (HC.out.below hb3 (by rw [HVE.out]; have := hml; rw [HVE.out] at this; exact this)) (own_keepB HROW.out hb3) (by have := HLN.out; omega))
      have HCV := Lib.hid hCv
      have HB3 := Lib.hid hb3
      clear hCv hb3 HCH
      go_upto_region 9 with (go_at_call 59; refine HSL.out.mono ?_; rintro e w4 ⟨vs, rfl, hown4, hb4⟩; obtain ⟨A4, c4, hv4⟩ := own_form hown4; subst hv4; have HO4 := Lib.hid hown4; have HB4 := Lib.hid hb4; clear hown4 hb4)
      have HC4 := Lib.hid (HCV.out.below HB4.out HCV.out.lt)
      have HB24 := Lib.hid (HB3.out.trans (HB4.out.mono (by rw [HSZ3.out, HVE.out]; omega)))
      have HS03 := Lib.hid (Cs.below HS02.out HB24.out HS02.out.lt)
      have HS13 := Lib.hid (Cs.below HS12.out HB24.out HS12.out.lt)
      have HSQ1 : Hid (∀ q, Calls Tryz.prog 191 #[.pointer (some ⟨s1, 0, none⟩)] (w4.drewN q) fun e w' => e = .returned (.int .i64 (n1 : Int)) ∧ ∃ m, w' = (w4.drewN q).drewN m) := fun q => (ssize_any (w4.drewN q) s1 g 1 n1 HS13.out).mono fun e w' he => ⟨he.1, 0, he.2.symm⟩
      obtain ⟨-, -, -, -, c4c, -, -, -, -, -⟩ : w4.cell? ⟨v, 0, none⟩ = some (.pointer (some ⟨m, 0, none⟩)) ∧ w4.cell? ⟨v, 1, none⟩ = some (.slice none 0 0) ∧ w4.cell? ⟨v, 2, none⟩ = some (.int .i64 0) ∧ w4.cell? ⟨v, 3, none⟩ = some (.slice none 0 0) ∧ w4.cell? ⟨v, 4, none⟩ = some (.int .i64 (ch : Int)) ∧ True ∧ True ∧ True ∧ True ∧ True := ⟨HC4.out.cell 0, HC4.out.cell 1, HC4.out.cell 2, HC4.out.cell 3, HC4.out.cell 4, trivial, trivial, trivial, trivial, trivial⟩
      have hln := HLN.out
      have hmul : ss.length * ch ≤ 1024 * 64 := Nat.mul_le_mul (by omega) o4
      have em : IntKind.i64.wrap ((ss.length : Int) * (ch : Int)) = ((ss.length * ch : Nat) : Int) := by
        rw [← Int.natCast_mul]; exact IntWalk.i64_in _ (by omega)
      generalize hP : ss.length * ch = P at *
      clear HSL hP
      go_quiet ((go_at_call 191; exact Calls.quiet_of (HSQ1.out _)))
      have HB5 : Hid (Below w2.heap.size w2 (w4.drewN nq)) := below_drewN HB24.out nq
      have HC5 : Hid (Cs (w4.drewN nq) v 101 #[.pointer (some ⟨m, 0, none⟩), .slice none 0 0, .int .i64 0, .slice none 0 0, .int .i64 (ch : Int), .iface 176 (.pointer (some ⟨s0, 0, none⟩)), .iface 176 (.pointer (some ⟨s1, 0, none⟩)), .func (.func N) #[] #[], .bool false, .bool false]) := HC4.out
      have HO5 : Hid ((w4.drewN nq).ownsRow w3.heap.size 31 4 (.slice A4 ss.length c4) ss.length (scs ss)) := own_keepB HO4.out (below_drewN (Below.refl _ w4) nq)
      have HS05 : Hid (SpanAt (w4.drewN nq) s0 g 0 n0) := HS03.out
      have HS15 : Hid (SpanAt (w4.drewN nq) s1 g 1 n1) := HS13.out
      clear HSQ1 HC4 HB24 HS03 HS13 HO4 HB4 HC HROW HCV HB3 c4c em
      generalize w4.drewN nq = w5 at *
      by_cases h3 : n1 < P
      · have HE3 : Hid (rE = 3) := HE2.out.trans (if_pos h3)
        have u1 : (n1 : Int) < (P : Int) := by omega
        go_wp2_with fail
        go_ret2
        refine .inl ?_
        rw [HRE.out, HE3.out]
        exact ⟨by decide, rfl, _, HT2.out.trans (Turn.of_below HB5.out)⟩
      · have HE3 : Hid (rE = if badS ss (n0 / ch) = true then 24 else 0) := HE2.out.trans (if_neg h3)
        have HNB2 : Hid (badS ss (n0 / ch) = false → NB ⟨g, s0, s1, s2, m, v, n0, n1, n2, ch⟩ V0) := fun hb => HNB.out v h3 hb
        have u1 : ¬ (n1 : Int) < (P : Int) := by omega
        have e2 := div_wrap n0 ch (by omega)
        have hql := Nat.div_le_self n0 ch
        generalize n0 / ch = q at *
        have t0 : ¬ (ch : Int) = 0 := by omega
        have t0' : ¬ ch = 0 := by omega
        go_wp2_with fail
        clear HE2 HNB
        go_loopw [59] (fun z wr => ∃ i : Nat, z = .int .i64 i ∧ i ≤ ss.length ∧ (∀ (j : Nat) (x : Sl), j < i → ss[j]? = some x → x.valid = true → x.block < (q : Int)) ∧ Below w5.heap.size w5 wr) (fun z _ => ss.length - (intOf z).toNat)
        case atStart => exact ⟨0, rfl, Nat.zero_le _, fun j x hj => by omega, Below.refl _ _⟩
        case round =>
          obtain ⟨i, rfl, hi, hall, hbr⟩ := hrel
          have HALL := Lib.hid hall
          have HBR := Lib.hid hbr
          clear hall hbr
          by_cases hlt : i < ss.length
          · have u2 : (i : Int) < (ss.length : Int) := by omega
            have e1 : IntKind.i64.wrap ((i : Int) + 1) = ((i + 1 : Nat) : Int) := by rw [IntWalk.i64_in _ (by omega)]; rfl
            obtain ⟨x, hx⟩ : ∃ x, ss[i]? = some x := ⟨_, List.getElem?_eq_getElem hlt⟩
            have hrw := own_keepB HO5.out HBR.out
            obtain ⟨bR, oR, hA, hbl, hcs⟩ := scs_read (Reads.of_own hrw) (by omega)
            subst hA
            obtain ⟨p0, p1, p2, p3⟩ := hcs i x hx
            have hb6 : Below wr.heap.size wr (wr.alloc (.cells #[.bool x.valid, .bool x.dirty, .int .i64 x.block, .int .i64 x.stamp] 31)) := (Below.refl _ wr).alloc (Nat.le_refl _) _
            have hC6 := Cs.new wr 31 #[.bool x.valid, .bool x.dirty, .int .i64 x.block, .int .i64 x.stamp]
            have HX := Lib.hid hx
            clear hx hcs hrw
            go_upto_region 14 with (fail)
            clear p0 p1 p2 p3
            have HB6 := Lib.hid (HBR.out.trans (hb6.mono HBR.out.size))
            obtain ⟨t, ht⟩ : ∃ t, wr.heap.size = t := ⟨_, rfl⟩
            rw [ht] at hC6 ⊢
            clear ht hb6 HBR
            generalize (wr.alloc (.cells #[.bool x.valid, .bool x.dirty, .int .i64 x.block, .int .i64 x.stamp] 31)) = w6 at *
            have y0 : w6.cell? ⟨t, 0, none⟩ = some (.bool x.valid) := hC6.cell 0
            have y2 : w6.cell? ⟨t, 2, none⟩ = some (.int .i64 x.block) := hC6.cell 2
            clear hC6
            rcases hxv : x.valid with _ | _
            · rw [hxv] at y0
              have HN1 : Hid (∀ (j : Nat) (z : Sl), j < i + 1 → ss[j]? = some z → z.valid = true → z.block < (q : Int)) := by
                intro j z hj hz hzv
                by_cases e : j = i
                · subst e
                  rw [HX.out] at hz
                  injection hz with hz
                  subst hz
                  rw [hxv] at hzv
                  cases hzv
                · exact HALL.out j z (by omega) hz hzv
              clear hxv
              go_quiet (fail)
              clear y0 y2
              go_wp2_with fail
              go_roundw
              case rel => exact ⟨i + 1, by go_num, by omega, HN1.out, below_drewN HB6.out _⟩
              case measure => simp [intOf]; omega
            · rw [hxv] at y0
              have HS06 := Lib.hid (Cs.below HS05.out HB6.out HS05.out.lt)
              have HC6 := Lib.hid (HC5.out.below HB6.out HC5.out.lt)
              have y4 : w6.cell? ⟨v, 4, none⟩ = some (.int .i64 (ch : Int)) := HC6.out.cell 4
              have HSQ0 : Hid (∀ k, Calls Tryz.prog 191 #[.pointer (some ⟨s0, 0, none⟩)] (w6.drewN k) fun e w' => e = .returned (.int .i64 (n0 : Int)) ∧ ∃ m, w' = (w6.drewN k).drewN m) := fun k => (ssize_any (w6.drewN k) s0 g 0 n0 HS06.out).mono fun e w' he => ⟨he.1, 0, he.2.symm⟩
              by_cases hbq : (q : Int) ≤ x.block
              · have HE4 : Hid (rE = 24) := HE3.out.trans (if_pos (badS_yes HX.out hxv hbq))
                clear hxv
                go_quiet ((go_at_call 191; exact Calls.quiet_of (HSQ0.out _)))
                clear y0 y2 y4
                go_wp2_with fail
                go_ret2
                refine .inl ?_
                rw [HRE.out, HE4.out]
                exact ⟨by decide, rfl, _, HT2.out.trans (Turn.of_below (HB5.out.trans ((below_drewN HB6.out _).mono HB5.out.size)))⟩
              · have HN1 : Hid (∀ (j : Nat) (z : Sl), j < i + 1 → ss[j]? = some z → z.valid = true → z.block < (q : Int)) := by
                  intro j z hj hz hzv
                  by_cases e : j = i
                  · subst e
                    rw [HX.out] at hz
                    injection hz with hz
                    subst hz
                    omega
                  · exact HALL.out j z (by omega) hz hzv
                clear hxv
                go_quiet ((go_at_call 191; exact Calls.quiet_of (HSQ0.out _)))
                clear y0 y2 y4
                go_wp2_with fail
                go_roundw
                case rel => exact ⟨i + 1, by go_num, by omega, HN1.out, below_drewN HB6.out _⟩
                case measure => simp [intOf]; omega
          · have hin : i = ss.length := by omega
            have u2 : ¬ (i : Int) < (ss.length : Int) := by omega
            have hbF : badS ss q = false := by
              unfold badS
              rw [List.any_eq_false]
              intro x hx
              obtain ⟨j, hj⟩ := List.mem_iff_getElem?.1 hx
              rcases hv : x.valid with _ | _
              · simp
              · have := HALL.out j x (by have := (List.getElem?_eq_some_iff.1 hj).1; omega) hj hv
                simp
                omega
            have HE4 : Hid (rE = 0) := HE3.out.trans (if_neg (by rw [hbF]; simp))
            have HNB3 := Lib.hid (HNB2.out hbF)
            have HC6 := Lib.hid (HC5.out.below HBR.out HC5.out.lt)
            have HB6 := Lib.hid (HB5.out.trans (HBR.out.mono HB5.out.size))
            have HO6 := Lib.hid (own_keepB HO5.out HBR.out)
            have HS06 := Lib.hid (Cs.below HS05.out HBR.out HS05.out.lt)
            have HS16 := Lib.hid (Cs.below HS15.out HBR.out HS15.out.lt)
            have y1 : wr.cell? ⟨v, 1, none⟩ = some (.slice none 0 0) := HC6.out.cell 1
            have y2 : wr.cell? ⟨v, 2, none⟩ = some (.int .i64 0) := HC6.out.cell 2
            have y3 : wr.cell? ⟨v, 3, none⟩ = some (.slice none 0 0) := HC6.out.cell 3
            have f1 := HC6.out.free 1
            have f2 := HC6.out.free 2
            have f3 := HC6.out.free 3
            clear hin hbF HC5 HB5 HO5 HS05 HS15 HBR HALL HE3 HNB2 e2
            go_upto_region 18 with (fail)
            have hfS : Fr (fun j => j = v) wr (((wr.setCell ⟨v, 1, none⟩ (.slice A4 ss.length c4)).setCell ⟨v, 2, none⟩ (.int .i64 0)).setCell ⟨v, 3, none⟩ (.slice none 0 0)) := (((Fr.refl (fun j => j = v) wr).set (.inl rfl) _).set (.inl rfl) _).set (.inl rfl) _
            have hCF : Cs (((wr.setCell ⟨v, 1, none⟩ (.slice A4 ss.length c4)).setCell ⟨v, 2, none⟩ (.int .i64 0)).setCell ⟨v, 3, none⟩ (.slice none 0 0)) v 101 #[.pointer (some ⟨m, 0, none⟩), .slice A4 ss.length c4, .int .i64 0, .slice none 0 0, .int .i64 (ch : Int), .iface 176 (.pointer (some ⟨s0, 0, none⟩)), .iface 176 (.pointer (some ⟨s1, 0, none⟩)), .func (.func N) #[] #[], .bool false, .bool false] := by
              have h1 : Cs (wr.setCell ⟨v, 1, none⟩ (.slice A4 ss.length c4)) v 101 #[.pointer (some ⟨m, 0, none⟩), .slice A4 ss.length c4, .int .i64 0, .slice none 0 0, .int .i64 (ch : Int), .iface 176 (.pointer (some ⟨s0, 0, none⟩)), .iface 176 (.pointer (some ⟨s1, 0, none⟩)), .func (.func N) #[] #[], .bool false, .bool false] := Cs.put (l := [_, _, _, _, _, _, _, _, _, _]) HC6.out _
              have h2 : Cs ((wr.setCell ⟨v, 1, none⟩ (.slice A4 ss.length c4)).setCell ⟨v, 2, none⟩ (.int .i64 0)) v 101 #[.pointer (some ⟨m, 0, none⟩), .slice A4 ss.length c4, .int .i64 0, .slice none 0 0, .int .i64 (ch : Int), .iface 176 (.pointer (some ⟨s0, 0, none⟩)), .iface 176 (.pointer (some ⟨s1, 0, none⟩)), .func (.func N) #[] #[], .bool false, .bool false] := Cs.put (l := [_, _, _, _, _, _, _, _, _, _]) h1 _
              exact Cs.put (l := [_, _, _, _, _, _, _, _, _, _]) h2 _
            have hv2 := HVE.out
            have hs0l := HS02.out.lt
            have hs1l := HS12.out.lt
            have hVI : VolIn (((wr.setCell ⟨v, 1, none⟩ (.slice A4 ss.length c4)).setCell ⟨v, 2, none⟩ (.int .i64 0)).setCell ⟨v, 3, none⟩ (.slice none 0 0)) (fun j => (F2 j ∨ j = s2 ∨ m ≤ j) ∧ j < w2.heap.size) (fun j => (F2 j ∨ j = s2 ∨ m ≤ j) ∨ j = s0 ∨ j = s1) ⟨g, s0, s1, s2, m, v, n0, n1, n2, ch⟩ V0 A4 c4 none 0 := by
              rw [HO0.out]
              refine ⟨(HCA.out.keep HB6.out).fr hfS (fun j hj e => by subst e; have := hj.2; omega), fun j hj => .inl hj.1, Cs.fr HS06.out hfS (by show ¬ s0 = v; omega), Cs.fr HS16.out hfS (by show ¬ s1 = v; omega), fun e => HNS.out.1 e.1, fun e => HNS.out.2 e.1, .inr (.inl rfl), .inr (.inr rfl), ?_, fun e => by have := e.2; dsimp only at this; omega, .inl (.inr (.inr (by show m ≤ v; omega))), by show v ≠ s0; omega, by show v ≠ s1; omega, own_fr (own_lower HO6.out (Nat.zero_le _)) hfS (fun b hb e => ?_), fun b hb => ?_, ?_, fun p hp => by cases hp⟩
              · have := hCF
                rw [← HN.out] at this
                exact this
              · have := (HO6.out.lt b hb).1
                have := HSZ3.out
                omega
              · have h1 := (HO6.out.lt b hb).1
                have h2 := HSZ3.out
                exact ⟨fun e => by have := e.2; omega, by show b ≠ s0; omega, by show b ≠ s1; omega, by show b ≠ v; omega, .inl (.inr (.inr (by omega)))⟩
              · intro h0
                exact absurd rfl h0
            have hBF : Below w2.heap.size w2 (((wr.setCell ⟨v, 1, none⟩ (.slice A4 ss.length c4)).setCell ⟨v, 2, none⟩ (.int .i64 0)).setCell ⟨v, 3, none⟩ (.slice none 0 0)) := ((HB6.out.setCell (p := ⟨v, 1, none⟩) (by show w2.heap.size ≤ v; omega) _).setCell (p := ⟨v, 2, none⟩) (by show w2.heap.size ≤ v; omega) _).setCell (p := ⟨v, 3, none⟩) (by show w2.heap.size ≤ v; omega) _
            have htF : Turn F0 (fun j => (F2 j ∨ j = s2 ∨ m ≤ j) ∨ j = s0 ∨ j = s1) W (((wr.setCell ⟨v, 1, none⟩ (.slice A4 ss.length c4)).setCell ⟨v, 2, none⟩ (.int .i64 0)).setCell ⟨v, 3, none⟩ (.slice none 0 0)) := by
              refine ⟨HT2.out.1.trans (Fr.of_below hBF), fun j hj => ?_⟩
              rcases hj with (hj | rfl | hj) | rfl | rfl
              · exact HT2.out.2 j (.inr hj)
              · exact .inl hf2
              · have := HMB.out.1
                exact .inr (by omega)
              · exact .inl hf0
              · exact .inl hf1
            have HVI : Hid (VolAt _ _ ⟨g, s0, s1, s2, m, v, n0, n1, n2, ch⟩ V0) := ⟨_, _, _, _, _, hVI⟩
            have HTF := Lib.hid htF
            have hlen : V0.x.sl.length = ss.length := by rw [HO0.out]
            have hS0 : V0.S = S.flush 2 := by rw [HO0.out]
            have hfl := flush_log S 2
            have hcm : ss.length * (ch + 2) ≤ 1024 * 66 := Nat.mul_le_mul (by omega) (by omega)
            have HBG := Lib.hid (vbegin_any _ _ ⟨g, s0, s1, s2, m, v, n0, n1, n2, ch⟩ V0 mode HVI.out HNB3.out HM.out ss.length hlen (by show ch ≤ 127; omega) hn0 hn1 hn2 (by rw [hS0]; show (S.flush 2).log.length + ss.length * (ch + 2) + ch < _; omega) (by rw [hS0]; show (S.flush 2).wr + (ss.length * (ch + 2) : Nat) + ch ≤ _; rw [hfl.2]; omega))
            clear hfS hCF hv2 hs0l hs1l hVI hBF htF hlen hS0 hfl hcm y1 y2 y3 f1 f2 f3 HC6 HO6 HS06 HS16 HNB3 HVI
            generalize (((wr.setCell ⟨v, 1, none⟩ (.slice A4 ss.length c4)).setCell ⟨v, 2, none⟩ (.int .i64 0)).setCell ⟨v, 3, none⟩ (.slice none 0 0)) = w7 at *
            go_wp2_with (go_at_call 60; refine HBG.out.mono ?_; rintro e w8 ⟨rfl, Fv8, hv8, ht8⟩; have HV8 := Lib.hid hv8; have HT8 := Lib.hid (HTF.out.trans ht8); clear hv8 ht8)
            go_ret2
            refine .inr ⟨HRE.out.trans HE4.out, m, v, Fv8, rfl, ?_, HT8.out⟩
            rw [HVE0.out, HCE.out]
            exact HV8.out

end Go.Proofs.YtogchafnnkajfaaGreat

namespace Go.Proofs.YtogchafnnkajfaaGreat
set_option linter.unusedVariables false
open Go.RowKit
attribute [local go_sem] Oper.semAt_some m_write m_read m_flush m_size

/-- Where the opener's things lie. -/
structure Sk where
  B : Nat
  g : Nat
  s0 : Nat
  s1 : Nat
  s2 : Nat
  n0 : Nat
  n1 : Nat
  n2 : Nat
  ch : Nat
  b1 : Nat
  b2 : Nat
  b3 : Nat
  bL : Nat
  cL : Nat
  A : Option Addr
  lm : Nat
  cm : Nat
  ml : List Int
section
variable {K : Sk} {w w' : World} {Fm F : Nat → Prop} {nn : Nat}
end

section
variable {K : Sk} {w w' : World} {F : Nat → Prop} {t : List Sec} {k : Bool} {c p : Nat}
theorem DR.n1 {C : VC} {V : VS} (h : DR C V t k) : V.x.sl.length * C.chunk ≤ C.n1 := by
  obtain ⟨sl, pm, hv⟩ := h.vk
  have h1 := hv.n1
  have h2 := hv.n2
  have h3 := h.n2
  rw [show V.x.sl.length = sl.length by omega]
  exact h1
/-- The disks below a volume. -/
theorem VolIn.disk {Fc Fv : Nat → Prop} {C : VC} {V : VS} {A B : Option Addr} {cc d : Nat} (h : VolIn w Fc Fv C V A cc B d) : ∃ Fd A' c', CacheIn w Fd Fc C.g C.s2 C.m C.n2 V.S V.ss A' c' (C.chunk : Int) V.md V.op := h.cache
end

end Go.Proofs.YtogchafnnkajfaaGreat

namespace Go.Proofs.YtogchafnnkajfaaGreat
set_option linter.unusedVariables false
open Go.RowKit
attribute [local go_sem] Oper.semAt_some m_write m_read m_flush m_size

end Go.Proofs.YtogchafnnkajfaaGreat

namespace Go.Proofs.YtogchafnnkajfaaGreat
set_option linter.unusedVariables false
open Go.RowKit
attribute [local go_sem] Oper.semAt_some m_write m_read m_flush m_size

/-- The words that are made from a number. -/
def wV (seed : Int) (k : Nat) : Nat := (IntKind.u64.wrap (seed + IntKind.u64.wrap ((k : Int) * 11400714819323198485))).toNat
def wordsL (seed : Int) (n : Nat) : List Nat := (List.range n).map (wV seed)
theorem wordsL_length (seed : Int) (n : Nat) : (wordsL seed n).length = n := by simp [wordsL]
theorem wordsL_succ (seed : Int) (n : Nat) : wordsL seed (n + 1) = wordsL seed n ++ [wV seed n] := by simp [wordsL, List.range_succ]
theorem wV_eq (seed : Int) (k : Nat) : IntKind.u64.wrap (seed + IntKind.u64.wrap ((k : Int) * 11400714819323198485)) = (wV seed k : Int) ∧ wV seed k < 18446744073709551616 := by
  obtain ⟨y, ey, hy⟩ := any_u64 (seed + IntKind.u64.wrap ((k : Int) * 11400714819323198485))
  unfold wV
  generalize IntKind.u64.wrap ((k : Int) * 11400714819323198485) = z at *
  rw [ey]
  exact ⟨rfl, by simpa using hy⟩
theorem wordsL_w (seed : Int) (n : Nat) : W64 (wordsL seed n) := by
  intro x hx
  obtain ⟨k, _, rfl⟩ := List.mem_map.1 hx
  exact (wV_eq seed k).2
theorem words2_any (n : Nat) (seed : Int) (W : World) (hn : n ≤ 1000) :
    Calls Tryz.prog 16 #[.int .i64 (n : Int), .int .u64 seed] W fun e W' => ∃ v, e = .returned v ∧ W'.ownsRow W.heap.size 26 1 v n (uv (wordsL seed n)) ∧ Below W.heap.size W W' := by
  obtain ⟨i0, hi0, hz0, hz1, hz2⟩ := info_parts u64_info
  go_enter Tryz.func16, Tryz.ntmps16
  go_wp2_with fail
  go_loopw [5, 6] (fun v i wr => ∃ (k : Nat), k ≤ n ∧ i = .int .i64 k ∧ wr.ownsRow W.heap.size 26 1 v k (uv (wordsL seed k)) ∧ Below W.heap.size W wr) (fun _ i _ => n - (intOf i).toNat)
  case atStart => exact ⟨0, Nat.zero_le _, rfl, World.ownsRow_nil _ _ _ _, Below.refl _ _⟩
  case round =>
    obtain ⟨k, hk, rfl, hown, hb⟩ := hrel
    obtain ⟨A1, c1, rfl⟩ := own_form hown
    have HO := Lib.hid hown
    have hkl : (uv (wordsL seed k)).length = k := by rw [uv_length, wordsL_length]
    have HKL := Lib.hid hkl
    clear hown hkl
    by_cases hlt : k < n
    · go_wp2_with (at_builtin; refine wpList_append_reads _ (by rfl) _ _ _ (by rfl) W.heap.size 26 i0 _ 1 8 Tryz.underlying29 hi0 hz0 hz1 hz2 (by rfl) (by omega) (.slice A1 k c1) k (uv (wordsL seed k)) (by rfl) (HO.out.alloc _) (some ⟨wr.heap.size, 0, none⟩) 1 1 _ (by rfl) (by rfl) (Reads.new _ _ _) (by simp [Value.oneCell']) (by simp only [maxLen]; omega) (by omega) (by have := hb.size; simp; omega) ?_; intro v1 w6 hown6 hg6 hat6; have hbb := app_below HO.out hg6 hb.size)
      obtain ⟨ey, hy⟩ := wV_eq seed k
      rw [ey] at hown6
      have ho : w6.ownsRow W.heap.size 26 1 v1 (k + 1) (uv (wordsL seed (k + 1))) := by rw [wordsL_succ, uv_append]; exact hown6
      go_roundw
      case rel => exact ⟨k + 1, by omega, by go_num, ho, hb.trans hbb⟩
      case measure => simp [intOf]; omega
    · have hkn : k = n := by omega
      subst hkn
      go_wp2_with fail
      go_ret
      exact ⟨_, rfl, HO.out, hb⟩

theorem few_any (A : Option Addr) (n c : Nat) (W : World) : Calls Tryz.prog 35 #[.slice A n c] W fun e w' => e = .returned (.bool (decide (n ≤ 24))) ∧ W = w' := by
  by_cases h : n ≤ 24
  · have t1 : (n : Int) ≤ 24 := by omega
    have d1 : decide ((n : Int) ≤ 24) = true := by simpa using t1
    go_enter Tryz.func35, Tryz.ntmps35
    go_wp2_with fail
    go_ret
    exact ⟨by simp [h], rfl⟩
  · have t1 : ¬ (n : Int) ≤ 24 := by omega
    have d1 : decide ((n : Int) ≤ 24) = false := by simpa using t1
    go_enter Tryz.func35, Tryz.ntmps35
    go_wp2_with fail
    go_ret
    exact ⟨by simp [], rfl⟩

/-- The words of a new cache. -/
def newW (k chunk : Nat) : List Nat := fmtW (List.replicate (k + 1) 0) k (chunk : Int)
theorem words33_any (k chunk : Nat) (W : World) (hk : 1 ≤ k ∧ k ≤ 1024) (hc : 1 ≤ chunk ∧ chunk ≤ 64) :
    Calls Tryz.prog 19 #[.int .i64 (k : Int), .int .i64 (chunk : Int)] W fun e W' => ∃ v, e = .returned v ∧ W'.ownsRow W.heap.size 26 1 v (k + 1) (uv (newW k chunk)) ∧ Below W.heap.size W W' := by
  have e1 : IntKind.i64.wrap ((k : Int) + 1) = ((k + 1 : Nat) : Int) := by rw [IntWalk.i64_in _ (by omega)]; rfl
  obtain ⟨n, hn⟩ : ∃ n, k + 1 = n := ⟨_, rfl⟩
  rw [hn] at e1 ⊢
  have HN := Lib.hid hn
  have hkn : k + 1 ≤ n := by omega
  have hn2 : n ≤ 65536 := by omega
  clear hn
  have hmk := fun w => run_make_u64 n (by omega) w
  go_enter Tryz.func19, Tryz.ntmps19
  go_wp2_with fail
  refine (rformat_ok _ W.heap.size W.heap.size W.heap.size n n k (chunk : Int) (List.replicate n 0) (World.ownsRow_lit (size := 1) W (uv (List.replicate n 0)).toArray n (Nat.le_refl _) (by simp only [maxLen]; omega) (by simp [uv])) (List.length_replicate ..) (Nat.le_refl _) hk hkn hn2 (by omega) (by simp)).mono ?_
  rintro e w2 ⟨rfl, ho, hb⟩
  go_wp2_with fail
  go_ret
  refine ⟨_, rfl, ?_, ((Below.refl _ W).alloc (Nat.le_refl _) _).trans (hb.mono (Nat.le_refl _))⟩
  rw [show newW k chunk = setZ ((List.replicate n 0).set 0 (hdI k (chunk : Int) 0 false)) k by rw [← HN.out]; exact (fmtW_eq ..)]
  exact ho


theorem newW_length (k chunk : Nat) : (newW k chunk).length = k + 1 := by unfold newW; rw [fmtW_length, List.length_replicate]
theorem newW_w (k chunk : Nat) : W64 (newW k chunk) := by
  unfold newW
  rw [fmtW_eq]
  have h0 : ∀ j (l : List Nat), W64 l → W64 (setZ l j) := by
    intro j
    induction j with
    | zero => exact fun l h => h
    | succ j ih =>
      intro l h x hx
      rcases List.mem_or_eq_of_mem_set hx with hx | rfl
      · exact ih l h x hx
      · omega
  refine h0 k _ ?_
  intro x hx
  rcases List.mem_or_eq_of_mem_set hx with hx | rfl
  · rw [(List.mem_replicate.1 hx).2]; omega
  · exact hdI_lt _ _ _ _
/-- New disks. -/
theorem full3 (C : VC) (l0 l1 l2 : List Nat) (h0 : l0.length = C.n0) (h1 : l1.length = C.n1) (h2 : l2.length = C.n2) : NF C (DS.full [l0, l1, l2]) ∧ ∀ i, i < 3 → Stl (DS.full [l0, l1, l2]) i := by
  have key : ∀ i j : Nat, ((DS.full [l0, l1, l2]).dur i)[j]? = ((DS.full [l0, l1, l2]).now i)[j]? := by
    intro i j
    rcases i with _ | _ | _ | i <;> rfl
  refine ⟨⟨⟨rfl, ?_, fun i j _ => key i j, fun i j v hv => .inl ((key i j).trans hv)⟩, rfl, rfl⟩, ?_⟩
  · intro i m hi
    rcases i with _ | _ | _ | i
    · simp at hi; subst hi; exact ⟨h0, h0, rfl⟩
    · simp at hi; subst hi; exact ⟨h1, h1, rfl⟩
    · simp at hi; subst hi; exact ⟨h2, h2, rfl⟩
    · simp at hi
  · intro i hi b x hx
    rcases hx with hx | ⟨r, hr, -⟩
    · exact (key i b).symm.trans hx
    · cases hr

end Go.Proofs.YtogchafnnkajfaaGreat

namespace Go.Proofs.YtogchafnnkajfaaGreat
set_option linter.unusedVariables false
open Go.RowKit
attribute [local go_sem] Oper.semAt_some m_write m_read m_flush m_size

/-- Where the opener's things lie. -/
structure Sa where
  B : Nat
  g : Nat
  s0 : Nat
  s1 : Nat
  s2 : Nat
  n0 : Nat
  n1 : Nat
  n2 : Nat
  ch : Nat
  b1 : Nat
  b2 : Nat
  b3 : Nat
  b4 : Nat
  b5 : Nat
  bL : Nat
  cL : Nat
structure Sa.Ok (K : Sa) : Prop where
  n0_ : K.n0 = 9
  n1_ : K.n1 = K.ch * 2
  n2_ : K.n2 = 3
  ch_ : 1 ≤ K.ch ∧ K.ch ≤ 3
  s02 : K.s0 ≠ K.s2
  s12 : K.s1 ≠ K.s2
def Sa.C (K : Sa) (m v : Nat) : VC := ⟨K.g, K.s0, K.s1, K.s2, m, v, K.n0, K.n1, K.n2, K.ch⟩
/-- The opener, beside the volume (or the disks). -/
structure SVa (K : Sa) (w : World) (Fm F : Nat → Prop) (fst : Bool) : Prop where
  inF : ∀ j, Fm j → F j
  m1 : Cs w K.b1 4 #[.bool fst]
  m2 : Cs w K.b2 37 #[.pointer (some ⟨K.g, 0, none⟩)]
  m3 : Cs w K.b3 3 #[.int .i64 (K.ch : Int)]
  m4 : Cs w K.b4 3 #[.int .i64 2]
  m5 : Cs w K.b5 38 #[.slice (some ⟨K.bL, 0, none⟩) 3 K.cL]
  row : w.ownsRow 0 55 1 (.slice (some ⟨K.bL, 0, none⟩) 3 K.cL) 3 (spv [K.s0, K.s1, K.s2])
  nm : ¬ Fm K.b1 ∧ ¬ Fm K.b2 ∧ ¬ Fm K.b3 ∧ ¬ Fm K.b4 ∧ ¬ Fm K.b5 ∧ ¬ Fm K.bL
  im : F K.b1 ∧ F K.b2 ∧ F K.b3 ∧ F K.b4 ∧ F K.b5 ∧ F K.bL
  wB : K.B ≤ w.heap.size

section
variable {K : Sa} {w w' : World} {Fm F : Nat → Prop} {fst : Bool}
theorem SVa.fr (h : SVa K w Fm F fst) {H : Nat → Prop} (hf : Fr H w w') (hn : ∀ j, F j → ¬ H j) (hb : ∀ j, H j → K.B ≤ j) : SVa K w' Fm F fst :=
  ⟨h.inF, h.m1.fr hf (hn _ h.im.1), h.m2.fr hf (hn _ h.im.2.1), h.m3.fr hf (hn _ h.im.2.2.1), h.m4.fr hf (hn _ h.im.2.2.2.1), h.m5.fr hf (hn _ h.im.2.2.2.2.1), own_fr h.row hf (fun b hb => by simp [Value.ownBlock] at hb; rw [← hb]; exact hn _ h.im.2.2.2.2.2), h.nm, h.im, Nat.le_trans h.wB hf.size⟩
theorem SVa.turn (h : SVa K w Fm F fst) (hge : ∀ j, F j → K.B ≤ j) {Fm' : Nat → Prop} (ht : Turn Fm Fm' w w') : SVa K w' Fm' (FU F Fm') fst :=
  ⟨fun j hj => .inr hj, h.m1.fr ht.1 h.nm.1, h.m2.fr ht.1 h.nm.2.1, h.m3.fr ht.1 h.nm.2.2.1, h.m4.fr ht.1 h.nm.2.2.2.1, h.m5.fr ht.1 h.nm.2.2.2.2.1, own_fr h.row ht.1 (fun b hb => by simp [Value.ownBlock] at hb; rw [← hb]; exact h.nm.2.2.2.2.2),
    ⟨ht.out h.m1.lt h.nm.1, ht.out h.m2.lt h.nm.2.1, ht.out h.m3.lt h.nm.2.2.1, ht.out h.m4.lt h.nm.2.2.2.1, ht.out h.m5.lt h.nm.2.2.2.2.1, ht.out (own_lt h.row _ rfl) h.nm.2.2.2.2.2⟩, ⟨.inl h.im.1, .inl h.im.2.1, .inl h.im.2.2.1, .inl h.im.2.2.2.1, .inl h.im.2.2.2.2.1, .inl h.im.2.2.2.2.2⟩, Nat.le_trans h.wB ht.1.size⟩
theorem SVa.wide (h : SVa K w Fm F fst) {Fm' : Nat → Prop} (ht : Turn Fm Fm' w w') : Turn F (FU F Fm') w w' :=
  ⟨ht.1.mono (fun j _ hj => h.inF j hj), fun j hj => hj.elim .inl (fun e => (ht.2 j e).elim (fun e' => .inl (h.inF j e')) .inr)⟩
theorem SVa.tight (h : SVa K w Fm F fst) : SVa K w (FT Fm w) (FT F w) fst :=
  ⟨fun j hj => ⟨h.inF j hj.1, hj.2⟩, h.m1, h.m2, h.m3, h.m4, h.m5, h.row, ⟨fun e => h.nm.1 e.1, fun e => h.nm.2.1 e.1, fun e => h.nm.2.2.1 e.1, fun e => h.nm.2.2.2.1 e.1, fun e => h.nm.2.2.2.2.1 e.1, fun e => h.nm.2.2.2.2.2 e.1⟩, ⟨⟨h.im.1, h.m1.lt⟩, ⟨h.im.2.1, h.m2.lt⟩, ⟨h.im.2.2.1, h.m3.lt⟩, ⟨h.im.2.2.2.1, h.m4.lt⟩, ⟨h.im.2.2.2.2.1, h.m5.lt⟩, ⟨h.im.2.2.2.2.2, own_lt h.row _ rfl⟩⟩, h.wB⟩
theorem SVa.less (h : SVa K w Fm F fst) {Fd : Nat → Prop} (hd : ∀ j, Fd j → Fm j) : SVa K w Fd F fst :=
  ⟨fun j hj => h.inF j (hd j hj), h.m1, h.m2, h.m3, h.m4, h.m5, h.row, ⟨fun e => h.nm.1 (hd _ e), fun e => h.nm.2.1 (hd _ e), fun e => h.nm.2.2.1 (hd _ e), fun e => h.nm.2.2.2.1 (hd _ e), fun e => h.nm.2.2.2.2.1 (hd _ e), fun e => h.nm.2.2.2.2.2 (hd _ e)⟩, h.im, h.wB⟩
end
theorem DR.vkp {C : VC} {V : VS} {t : List Sec} {k : Bool} (h : DR C V t k) : ∃ sl, VK C V.S sl V.pm (okT t) := by
  rcases h.st with ⟨-, hi, -⟩ | ⟨-, -, -, sl, hv⟩
  · exact ⟨_, hi.k⟩
  · exact ⟨sl, hv⟩

/-- The device. -/
def SDa (K : Sa) (w : World) (F : Nat → Prop) (t : List Sec) (k : Bool) (c p : Nat) : Prop :=
  (∀ j, F j → K.B ≤ j) ∧ ∃ Fv m V fst, VolAt w Fv (K.C m p) V ∧ SVa K w Fv F fst ∧ V.pm = false ∧ DR (K.C m p) V t k ∧ V.S.log.length ≤ 40 * c ∧ V.S.wr ≤ (40 * c : Nat) ∧ V.x.clk ≤ (c : Int) ∧ fst = false
/-- The disks, with the power back. -/
def SZa (K : Sa) (w : World) (F : Nat → Prop) (t : List Sec) (c : Nat) : Prop :=
  (∀ j, F j → K.B ≤ j) ∧ ∃ Fd S fst, DskAt w Fd K.g S ∧ SpanAt w K.s0 K.g 0 K.n0 ∧ SpanAt w K.s1 K.g 1 K.n1 ∧ SpanAt w K.s2 K.g 2 K.n2 ∧ (¬ Fd K.s0 ∧ ¬ Fd K.s1 ∧ ¬ Fd K.s2) ∧ (F K.s0 ∧ F K.s1 ∧ F K.s2) ∧ SVa K w Fd F fst ∧ ZA (K.C 0 0) S (okT t) ∧ (fst = true → S.now 2 = newW 2 K.ch) ∧ t.length = K.n0 ∧ (∀ (a : Nat) (s : Sec), t[a]? = some s → s.kn = true → s.sm = [s.val]) ∧
    S.log.length ≤ 40 * c ∧ S.wr ≤ (40 * c : Nat)

section
variable {K : Sa} {w w' : World} {F : Nat → Prop} {t : List Sec} {k : Bool} {c p : Nat}
theorem SDa.fr (h : SDa K w F t k c p) {H : Nat → Prop} (hf : Fr H w w') (hn : ∀ j, F j → ¬ H j) (hb : ∀ j, H j → K.B ≤ j) : SDa K w' F t k c p := by
  obtain ⟨hge, Fv, m, V, fst, hv, hs, r⟩ := h
  exact ⟨hge, Fv, m, V, fst, hv.fr hf (fun j hj => hn j (hs.inF j hj)), hs.fr hf hn hb, r⟩
theorem SDa.tight (h : SDa K w F t k c p) : SDa K w (FT F w) t k c p := by
  obtain ⟨hge, Fv, m, V, fst, hv, hs, r⟩ := h
  exact ⟨fun j hj => hge j hj.1, FT Fv w, m, V, fst, hv.tight, hs.tight, r⟩
theorem SZa.fr (h : SZa K w F t c) {H : Nat → Prop} (hf : Fr H w w') (hn : ∀ j, F j → ¬ H j) (hb : ∀ j, H j → K.B ≤ j) : SZa K w' F t c := by
  obtain ⟨hge, Fd, S, fst, hd, h0, h1, h2, hnd, hi, hs, r⟩ := h
  exact ⟨hge, Fd, S, fst, hd.fr hf (fun j hj => hn j (hs.inF j hj)), Cs.fr h0 hf (hn _ hi.1), Cs.fr h1 hf (hn _ hi.2.1), Cs.fr h2 hf (hn _ hi.2.2), hnd, hi, hs.fr hf hn hb, r⟩
theorem SZa.tight (h : SZa K w F t c) : SZa K w (FT F w) t c := by
  obtain ⟨hge, Fd, S, fst, hd, h0, h1, h2, hnd, hi, hs, r⟩ := h
  exact ⟨fun j hj => hge j hj.1, FT Fd w, S, fst, hd.tight, h0, h1, h2, ⟨fun e => hnd.1 e.1, fun e => hnd.2.1 e.1, fun e => hnd.2.2 e.1⟩, ⟨⟨hi.1, Cs.lt h0⟩, ⟨hi.2.1, Cs.lt h1⟩, ⟨hi.2.2, Cs.lt h2⟩⟩, hs.tight, r⟩

theorem sda_size (h : SDa K w F t k c p) : Calls Tryz.prog 46 #[.pointer (some ⟨p, 0, none⟩)] w fun e w' => e = .returned (.int .i64 (K.n0 : Int)) ∧ ∃ q, w' = w.drewN q := by
  obtain ⟨hge, Fv, m, V, fst, hv, -⟩ := h
  exact (vsize_any w Fv (K.C m p) V hv).mono fun e w' he => ⟨he.1, 0, he.2.symm⟩
theorem sda_read (hK : K.Ok) (a : Nat) (st : Bool) (h : SDa K w F t k c p) (ha : a < K.n0) (hc : c < 1000) (hst : st = true → k = true) :
    Calls Tryz.prog 22 #[.pointer (some ⟨p, 0, none⟩), .int .i64 (a : Int)] w fun e w' => ∃ (v : Nat) (r : Int) (F' : Nat → Prop), e = .returned (.tuple #[.int .u64 (v : Int), .int .i64 r]) ∧ v < 18446744073709551616 ∧ Turn F F' w w' ∧
      ((r = 0 ∧ tMay t a v ∧ SDa K w' F' (tRead t a v st) k (c + 1) p) ∨ (k = false ∧ r = 5 ∧ SDa K w' F' t k (c + 1) p)) := by
  obtain ⟨hge, Fv, m, V, fst, hv, hs, hpm, hr, hl, hw, hcl, hnn⟩ := h
  have hn0 := hK.n0_
  have hn1 := hK.n1_
  have hn2 := hK.n2_
  have hch := hK.ch_
  have hbd := Bd.slt (C := K.C m p) (a := a) hr.ok hr.len ha (by show K.n0 ≤ _; omega) (by omega)
  have hb1 := hbd.log
  have hb2 := hbd.wr
  have hb3 := hbd.clk
  change _ ≤ V.S.log.length + (2 * K.ch + 2) at hb1
  change _ ≤ V.S.wr + ((2 * K.ch + 2 : Nat) : Int) at hb2
  refine (vread_any w Fv (K.C m p) V a hv hr.ok hr.len hr.clo ha (by omega) hr.ch (by show K.ch ≤ 127; omega) (by show K.n0 ≤ _; omega) (by show K.n1 ≤ _; omega) (by show K.n2 ≤ _; omega) (by show _ + 2 * K.ch + 2 < _; omega) (by show _ + 2 * (K.ch : Int) + 2 ≤ _; omega)).mono ?_
  rintro e w' ⟨rfl, hvl, Fv', hv', ht⟩
  refine ⟨_, _, FU F Fv', rfl, hvl, hs.wide ht, ?_⟩
  have hge' := (hs.wide ht).ge hs.wB hge
  have hs' := hs.turn hge ht
  rcases hr.read ha (by show K.n0 ≤ _; omega) (by omega) hr.n1 st hst with ⟨r1, r2, r3⟩ | ⟨r1, r2, r3⟩
  · exact .inl ⟨r1, r2, hge', Fv', m, _, fst, hv', hs', hbd.pm.trans hpm, r3, by omega, by omega, by omega, hnn⟩
  · exact .inr ⟨r1, r2, hge', Fv', m, _, fst, hv', hs', hbd.pm.trans hpm, r3, by omega, by omega, by omega, hnn⟩
theorem sda_write (hK : K.Ok) (a v : Nat) (h : SDa K w F t k c p) (ha : a < K.n0) (hv64 : v < 18446744073709551616) (hc : c < 1000) :
    Calls Tryz.prog 31 #[.pointer (some ⟨p, 0, none⟩), .int .i64 (a : Int), .int .u64 (v : Int)] w fun e w' => ∃ (r : Int) (F' : Nat → Prop), e = .returned (.int .i64 r) ∧ Turn F F' w w' ∧ (r = 0 ∨ r = 5) ∧ SDa K w' F' (tWrote t a v (decide (r = 0))) false (c + 1) p := by
  obtain ⟨hge, Fv, m, V, fst, hv, hs, hpm, hr, hl, hw, hcl, hnn⟩ := h
  have hn0 := hK.n0_
  have hn1 := hK.n1_
  have hn2 := hK.n2_
  have hch := hK.ch_
  have hbd := Bd.wrt (C := K.C m p) (a := a) (v := v) hr.ok hr.len (by omega) ha (by show K.n0 ≤ _; omega)
  have hb1 := hbd.log
  have hb2 := hbd.wr
  have hb3 := hbd.clk
  change _ ≤ V.S.log.length + (2 * K.ch + 5) at hb1
  change _ ≤ V.S.wr + ((2 * K.ch + 5 : Nat) : Int) at hb2
  refine (vwrite_any w Fv (K.C m p) V a v hv hr.ok hr.len hr.clo ha hv64 (by omega) hr.ch (by show K.ch ≤ 127; omega) (by show K.n0 ≤ _; omega) (by show K.n1 ≤ _; omega) (by show K.n2 ≤ _; omega) (by show _ + 2 * K.ch + 6 < _; omega) (by show _ + 2 * (K.ch : Int) + 6 ≤ _; omega)).mono ?_
  rintro e w' ⟨rfl, Fv', hv', ht⟩
  obtain ⟨r1, r2⟩ := hr.write (v := v) ha (by show K.n0 ≤ _; omega) (by omega) hr.n1
  exact ⟨_, FU F Fv', rfl, hs.wide ht, r1, (hs.wide ht).ge hs.wB hge, Fv', m, _, fst, hv', hs.turn hge ht, hbd.pm.trans hpm, r2, by omega, by omega, by omega, hnn⟩
theorem sda_flush (hK : K.Ok) (h : SDa K w F t k c p) (hc : c < 1000) :
    Calls Tryz.prog 34 #[.pointer (some ⟨p, 0, none⟩)] w fun e w' => ∃ (r : Int) (F' : Nat → Prop), e = .returned (.int .i64 r) ∧ Turn F F' w w' ∧ ((r = 0 ∧ SDa K w' F' (tFlushed t) false (c + 1) p) ∨ (r = 5 ∧ SDa K w' F' t false (c + 1) p)) := by
  obtain ⟨hge, Fv, m, V, fst, hv, hs, hpm, hr, hl, hw, hcl, hnn⟩ := h
  have q1 := flush_log V.S 1
  have q2 := flush_log (V.S.flush 1) 2
  have q3 := flush_log ((V.S.flush 1).flush 2) 0
  have hb1 : V.flV.S.log.length ≤ 40 * (c + 1) := by show (((V.S.flush 1).flush 2).flush 0).log.length ≤ _; omega
  have hb2 : V.flV.S.wr ≤ (40 * (c + 1) : Nat) := by show (((V.S.flush 1).flush 2).flush 0).wr ≤ _; rw [q3.2, q2.2, q1.2]; omega
  have hb3 : V.flV.x.clk ≤ ((c + 1 : Nat) : Int) := by show V.x.clk ≤ _; omega
  refine (vflush_any w Fv (K.C m p) V hv hr.clo (by omega)).mono ?_
  rintro e w' ⟨rfl, Fv', hv', ht⟩
  refine ⟨_, FU F Fv', rfl, hs.wide ht, ?_⟩
  rcases hr.flush with ⟨r1, r2⟩ | ⟨r1, r2⟩
  · exact .inl ⟨r1, (hs.wide ht).ge hs.wB hge, Fv', m, _, fst, hv', hs.turn hge ht, hpm, r2, hb1, hb2, hb3, hnn⟩
  · exact .inr ⟨r1, (hs.wide ht).ge hs.wB hge, Fv', m, _, fst, hv', hs.turn hge ht, hpm, r2, hb1, hb2, hb3, hnn⟩
theorem sda_fuse (x : Nat) (h : SDa K w F t k c p) (hx : x ≤ 1000000) :
    Calls Tryz.prog 76 #[.pointer (some ⟨K.g, 0, none⟩), .int .i64 (x : Int)] w fun e w' => e = .returned (.tuple #[]) ∧ ∃ (F' : Nat → Prop), Turn F F' w w' ∧ SDa K w' F' t false (c + 1) p := by
  obtain ⟨hge, Fv, m, V, fst, hv, hs, hpm, hr, hl, hw, hcl, hnn⟩ := h
  obtain ⟨Fc, A, cc, B, d, hv⟩ := hv
  obtain ⟨Fd, A', c', hca⟩ := hv.disk
  refine (fuse_any w Fd K.g V.S (x : Int) hca.dsk (by omega) (by omega)).mono ?_
  rintro e w2 ⟨rfl, hd2, hf2⟩
  have ht2 : Turn Fd Fd w w2 := ⟨hf2, fun j hj => .inl hj⟩
  have hv2 : VolIn w2 _ _ (K.C m p) { V with S := { V.S with fuse := (x : Int) } } A cc B d := hv.turn ⟨_, _, _, hca.turn hd2 ht2⟩ (turn_wide hca.inF ht2)
  have ht3 := hv.wide (turn_wide hca.inF ht2)
  exact ⟨rfl, _, hs.wide ht3, (hs.wide ht3).ge hs.wB hge, _, m, _, fst, ⟨_, _, _, _, _, hv2⟩, hs.turn hge ht3, hpm, hr.fuse (x : Int), by show V.S.log.length ≤ _; omega, by show V.S.wr ≤ _; omega, by show V.x.clk ≤ _; omega, hnn⟩
theorem sda_restart (hK : K.Ok) (A : Option Addr) (cc base : Nat) (bs : List Bool) (h : SDa K w F t k c p) (hc : c < 1000) (ho : w.ownsRow base 4 1 (.slice A 192 cc) 192 (bv bs)) (hb : bs.length = 192) (hn : ∀ b, (Value.slice A 192 cc).ownBlock = some b → ¬ F b) :
    Calls Tryz.prog 120 #[.pointer (some ⟨K.g, 0, none⟩), .slice A 192 cc] w fun e w' => e = .returned (.tuple #[]) ∧ ∃ (F' : Nat → Prop), Turn F F' w w' ∧ SZa K w' F' (tFailed t) (c + 1) := by
  obtain ⟨hge, Fv, m, V, fst, hv, hs, hpm, hr, hl, hw, hcl, hnn⟩ := h
  obtain ⟨Fc, A', c2, B, d, hv⟩ := hv
  obtain ⟨Fd, A'', c3, hca⟩ := hv.disk
  have hdF : ∀ j, Fd j → F j := fun j hj => hs.inF j (hv.inC j (hca.inF j hj))
  obtain ⟨sl, hvk⟩ := hr.vkp
  rw [hpm] at hvk
  obtain ⟨z1, z3⟩ := ZA.crash hvk (fun r hr => (hca.dsk.1.log r hr).1) bs
  refine (arestart_any w Fd K.g base 192 cc V.S A bs hca.dsk ho hb (by omega) (fun b hb hf => hn b hb (hdF b hf)) (by omega)).mono ?_
  rintro e w2 ⟨rfl, hd2, hf2⟩
  have ht2 : Turn Fd Fd w w2 := ⟨hf2, fun j hj => .inl hj⟩
  have hs2 := (hs.less (fun j hj => hv.inC j (hca.inF j hj))).turn hge ht2
  have htw : Turn F (FU F Fd) w w2 := (hs.less (fun j hj => hv.inC j (hca.inF j hj))).wide ht2
  have o0 : ¬ Fd K.s0 := fun e => hv.o0 (hca.inF _ e)
  have o1 : ¬ Fd K.s1 := fun e => hv.o1 (hca.inF _ e)
  have o2 : ¬ Fd K.s2 := hca.spF
  have hst : ∀ (a v : Nat), okT t a v → okT (tFailed t) a v := fun a v hv => (failed_okT t a v).2 hv
  exact ⟨rfl, FU F Fd, htw, htw.ge hs.wB hge, Fd, _, fst, hd2, Cs.fr hv.sp0 hf2 o0, Cs.fr hv.sp1 hf2 o1, Cs.fr hca.span hf2 o2, ⟨o0, o1, o2⟩, ⟨.inl (hs.inF _ hv.i0), .inl (hs.inF _ hv.i1), .inl (hs.inF _ (hv.inC _ hca.spC))⟩, hs2,
    ⟨⟨z1.nf.hea, z1.nf.dn, z1.nf.fu⟩, z1.st, z1.lg, fun a v ha hv => hst a v (z1.v a v ha hv)⟩, (fun e => by rw [hnn] at e; cases e), by unfold tFailed; rw [List.length_map]; exact hr.tl, failed_kn t, by rw [z1.lg]; exact Nat.zero_le _, by rw [z3]; omega⟩
end

end Go.Proofs.YtogchafnnkajfaaGreat

namespace Go.Proofs.YtogchafnnkajfaaGreat
set_option linter.unusedVariables false
open Go.RowKit
attribute [local go_sem] Oper.semAt_some m_write m_read m_flush m_size

/-- The rest of the opener, behind the loads. -/
def AloneO (K : Sa) (w : World) (F : Nat → Prop) (t : List Sec) (c : Nat) (e : Ending) (w' : World) : Prop :=
  ∃ (p : Nat) (F' : Nat → Prop), e = .returned (.tuple #[.iface 39 (.pointer (some ⟨p, 0, none⟩)), .bool true]) ∧ Turn F F' w w' ∧ SDa K w' F' t true (c + 1) p

theorem newW_now (K : Sa) (hK : K.Ok) {S : DS} {ok : Nat → Nat → Prop} (h : ZA (K.C 0 0) S ok) (h2 : S.now 2 = newW 2 K.ch) : ZR (K.C 0 0) S ok := by
  have hc := hK.ch_
  exact h.fmt (List.replicate 3 0) 2 (by omega) (by show 1 ≤ K.ch ∧ K.ch ≤ 64; omega) h2 rfl hK.n2_ (by show 2 * K.ch ≤ K.n1; rw [hK.n1_]; omega)

set_option maxRecDepth 100000 in
set_option maxHeartbeats 8000000 in
theorem sza_open {K : Sa} (hK : K.Ok) {w : World} {F : Nat → Prop} {t : List Sec} {c : Nat} (h : SZa K w F t c) (hc : c < 1000) :
    Calls Tryz.prog 39 #[.pointer (some ⟨K.b1, 0, none⟩), .pointer (some ⟨K.b2, 0, none⟩), .pointer (some ⟨K.b3, 0, none⟩), .pointer (some ⟨K.b4, 0, none⟩), .pointer (some ⟨K.b5, 0, none⟩)] w (AloneO K w F t c) := by
  obtain ⟨hge, Fd, S, fst, hd, h0, h1, h2, hnd, hi, hs, hz, hfs, htl, hkn, hl, hw⟩ := h
  have hn0 := hK.n0_
  have hn1 := hK.n1_
  have hn2 := hK.n2_
  have hch := hK.ch_
  have HTL := Lib.hid htl
  have HKN := Lib.hid hkn
  have HG := Lib.hid hge
  have HBW : Hid (K.B ≤ w.heap.size) := hs.wB
  have HI := Lib.hid hi
  have x1 : w.cell? ⟨K.b1, 0, none⟩ = some (.bool fst) := hs.m1.cell 0
  rcases fst with _ | _
  · have E1 : Hid ((K.ch : Int) * 2 = (K.n1 : Int)) := by show (K.ch : Int) * 2 = (K.n1 : Int); omega
    have u1 : IntKind.i64.wrap ((K.ch : Int) * 2) = (K.ch : Int) * 2 := IntWalk.i64_in _ (by omega)
    have HS := Lib.hid hs
    have HND := Lib.hid hnd
    have H0 := Lib.hid h0
    have H1 := Lib.hid h1
    have H2 := Lib.hid h2
    have HD0 : Hid (DskAt w (FT Fd w) K.g S) := hd.tight
    have HZ1 := Lib.hid (hz.load (i := 1) (n := K.n1) rfl (by decide) (wordsL 70 K.n1) (wordsL_length 70 K.n1))
    have HZ2 := Lib.hid (HZ1.out.load (i := 2) (n := K.n2) rfl (by decide) (newW 2 K.ch) ((newW_length 2 K.ch).trans hn2.symm))
    have HI1 : Hid (1 < S.dr.length) := hz.nf.hea.lt (n := K.n1) rfl
    have HI2 : Hid (2 < (S.load 1 (wordsL 70 K.n1)).dr.length) := HZ1.out.nf.hea.lt (n := K.n2) rfl
    have HLG : Hid (S.log = []) := hz.lg
    have HLn1 : Hid (K.n1 = (S.drv 1).1.length) := (hz.nf.hea.nn 1 K.n1 rfl).1.symm
    have HLn2 : Hid (3 = ((S.load 1 (wordsL 70 K.n1)).drv 2).1.length) := hn2.symm.trans (HZ1.out.nf.hea.nn 2 K.n2 rfl).1.symm
    have HY : Hid (∀ w', Fr (FT Fd w) w w' → w'.cell? ⟨K.b2, 0, none⟩ = some (.pointer (some ⟨K.g, 0, none⟩)) ∧ w'.cell? ⟨K.b3, 0, none⟩ = some (.int .i64 (K.ch : Int)) ∧ w'.cell? ⟨K.b4, 0, none⟩ = some (.int .i64 2)) := fun w' hf => ⟨(HS.out.m2.fr hf (fun e => HS.out.nm.2.1 e.1)).cell 0, (HS.out.m3.fr hf (fun e => HS.out.nm.2.2.1 e.1)).cell 0, (HS.out.m4.fr hf (fun e => HS.out.nm.2.2.2.1 e.1)).cell 0⟩
    have y2 : w.cell? ⟨K.b2, 0, none⟩ = some (.pointer (some ⟨K.g, 0, none⟩)) := hs.m2.cell 0
    have y3 : w.cell? ⟨K.b3, 0, none⟩ = some (.int .i64 (K.ch : Int)) := hs.m3.cell 0
    have y4 : w.cell? ⟨K.b4, 0, none⟩ = some (.int .i64 2) := hs.m4.cell 0
    have HN1 := Lib.hid hn1
    have hn1b : 1 ≤ K.n1 ∧ K.n1 ≤ 6 := by omega
    clear hge hd h0 h1 h2 hnd hi hs hz hkn htl hfs hn1
    go_enter Tryz.func39, Tryz.ntmps39
    go_upto_region 2 with (fail)
    go_wp2_with fail
    go_region_held3 (fun w' => w'.cell? ⟨K.b2, 0, none⟩ = some (.pointer (some ⟨K.g, 0, none⟩)) ∧ w'.cell? ⟨K.b3, 0, none⟩ = some (.int .i64 (K.ch : Int)) ∧ w'.cell? ⟨K.b4, 0, none⟩ = some (.int .i64 2))
      (first | with_reducible exact yy4 | with_reducible exact yy3 | with_reducible exact yy2 | with_reducible exact yy1 | exact ⟨y2, y3, y4⟩)
      ((first
      | (go_at_call 40; have hh := aload_any wc (FT Fd w) K.g 2 (S.load 1 (wordsL 70 K.n1)) Ac cc 3 (newW 2 K.ch) HDc.out HI2.out HZ1.out.lg HRc.out (newW_length 2 K.ch) (by omega) HLn2.out (newW_w 2 K.ch) HGc.out; rw [show ((2 : Nat) : Int) = 2 from rfl] at hh; (with_reducible refine hh.mono ?_); clear hh; rintro e w1 ⟨rfl, hdd, hfd⟩; have HDd := Lib.hid hdd; have HFd := Lib.hid (HFc.out.trans hfd); clear hdd hfd; have yy4 : w1.cell? ⟨K.b2, 0, none⟩ = some (.pointer (some ⟨K.g, 0, none⟩)) ∧ w1.cell? ⟨K.b3, 0, none⟩ = some (.int .i64 (K.ch : Int)) ∧ w1.cell? ⟨K.b4, 0, none⟩ = some (.int .i64 2) := HY.out _ HFd.out)
      | (go_at_call 19; have hh := words33_any 2 K.ch wb (by omega) (by omega); rw [show ((2 : Nat) : Int) = 2 from rfl] at hh; (with_reducible refine hh.mono ?_); clear hh; rintro e wc ⟨vc, rfl, hoc, hbc⟩; change wc.ownsRow _ _ 1 vc 3 _ at hoc; obtain ⟨Ac, cc, hvc⟩ := own_form hoc; subst hvc; have HRc := Lib.hid (Reads.of_own hoc); have HGc : Hid (∀ b off, Ac = some ⟨b, off, none⟩ → ¬ FT Fd w b) := (fun b off hA hj => by have h1 := own_ge hoc b (by rw [hA]; rfl); have h2 := hj.2; have h3 := HFb.out.size; omega); have HDc := Lib.hid (HDb.out.keep hbc); have HFc := Lib.hid (HFb.out.trans (Fr.of_below hbc)); clear hoc hbc; have yy3 : wc.cell? ⟨K.b2, 0, none⟩ = some (.pointer (some ⟨K.g, 0, none⟩)) ∧ wc.cell? ⟨K.b3, 0, none⟩ = some (.int .i64 (K.ch : Int)) ∧ wc.cell? ⟨K.b4, 0, none⟩ = some (.int .i64 2) := HY.out _ HFc.out)
      | (go_at_call 40; have hh := aload_any wa (FT Fd w) K.g 1 S Aa ca K.n1 (wordsL 70 K.n1) HDa.out HI1.out HLG.out HRa.out (wordsL_length 70 K.n1) (by omega) HLn1.out (wordsL_w 70 K.n1) HGa.out; rw [show ((1 : Nat) : Int) = 1 from rfl] at hh; (with_reducible refine hh.mono ?_); clear hh; rintro e wb ⟨rfl, hdb, hfb⟩; have HDb := Lib.hid hdb; have HFb := Lib.hid (HFa.out.trans hfb); clear hdb hfb; have yy2 : wb.cell? ⟨K.b2, 0, none⟩ = some (.pointer (some ⟨K.g, 0, none⟩)) ∧ wb.cell? ⟨K.b3, 0, none⟩ = some (.int .i64 (K.ch : Int)) ∧ wb.cell? ⟨K.b4, 0, none⟩ = some (.int .i64 2) := HY.out _ HFb.out)
      | (go_at_call 16; rw [E1.out]; have hh := words2_any K.n1 70 w.drew (by omega); (with_reducible refine hh.mono ?_); clear hh; rintro e wa ⟨va, rfl, hoa, hba⟩; obtain ⟨Aa, ca, hva⟩ := own_form hoa; subst hva; have HRa := Lib.hid (Reads.of_own hoa); have HGa : Hid (∀ b off, Aa = some ⟨b, off, none⟩ → ¬ FT Fd w b) := (fun b off hA hj => by have h1 : w.heap.size ≤ b := own_ge hoa b (by rw [hA]; rfl); have h2 := hj.2; omega); have HDa := Lib.hid (HD0.out.keep ((Below.refl _ w).drew.trans hba)); have HFa : Hid (Fr (FT Fd w) w wa) := (Fr.refl _ w).drew.trans (Fr.of_below hba); clear hoa hba; have yy1 : wa.cell? ⟨K.b2, 0, none⟩ = some (.pointer (some ⟨K.g, 0, none⟩)) ∧ wa.cell? ⟨K.b3, 0, none⟩ = some (.int .i64 (K.ch : Int)) ∧ wa.cell? ⟨K.b4, 0, none⟩ = some (.int .i64 2) := HY.out _ HFa.out)))
    have hn1 := HN1.out
    have hfu : FU F (FT Fd w) = F := funext fun j => propext ⟨fun h => h.elim id (fun e => HS.out.inF j e.1), .inl⟩
    have ht1 : Turn (FT Fd w) (FT Fd w) w w1 := ⟨HFd.out, fun j hj => .inl hj⟩
    have hs1 := (HS.out.less (Fd := FT Fd w) (fun j hj => hj.1)).turn HG.out ht1
    have ht2 := (HS.out.less (Fd := FT Fd w) (fun j hj => hj.1)).wide ht1
    rw [hfu] at hs1 ht2
    have HS1 := Lib.hid hs1
    have HT1 := Lib.hid ht2
    have H01 := Lib.hid (Cs.fr H0.out HFd.out (fun e => HND.out.1 e.1))
    have H11 := Lib.hid (Cs.fr H1.out HFd.out (fun e => HND.out.2.1 e.1))
    have H21 := Lib.hid (Cs.fr H2.out HFd.out (fun e => HND.out.2.2 e.1))
    have hnd1 : ¬ FT Fd w K.s0 ∧ ¬ FT Fd w K.s1 ∧ ¬ FT Fd w K.s2 := ⟨fun e => HND.out.1 e.1, fun e => HND.out.2.1 e.1, fun e => HND.out.2.2 e.1⟩
    have hz3 := newW_now K hK HZ2.out (by rw [(load_now (S.load 1 (wordsL 70 K.n1)) 2 (newW 2 K.ch) HI2.out 2).1, if_pos rfl])
    have hl3 : ((S.load 1 (wordsL 70 K.n1)).load 2 (newW 2 K.ch)).log = S.log := rfl
    have hw3 : ((S.load 1 (wordsL 70 K.n1)).load 2 (newW 2 K.ch)).wr = S.wr := rfl
    have hd3 := HDd.out
    clear HS HZ1 HZ2 HI1 HI2 HLG HLn1 HLn2 HY y2 y3 y4 yy1 yy2 yy3 yy4 HRa HGa HDa HFa HDb HFb HRc HGc HDc HFc HDd HFd HD0 H0 H1 H2 HND hs1 ht2 ht1 hfu x1 E1 u1
    obtain ⟨S, hS⟩ : ∃ X, X = (S.load 1 (wordsL 70 K.n1)).load 2 (newW 2 K.ch) := ⟨_, rfl⟩
    rw [← hS] at hz3 hl3 hw3 hd3
    obtain ⟨Fd, hFd⟩ : ∃ X, X = FT Fd w := ⟨_, rfl⟩
    rw [← hFd] at hd3 hnd1 HS1
    have HD1 := Lib.hid hd3
    have HND := Lib.hid hnd1
    have HZ := Lib.hid hz3
    have hl : S.log.length ≤ 40 * c := by rw [hl3]; exact hl
    have hw : S.wr ≤ (40 * c : Nat) := by rw [hw3]; exact hw
    clear hl3 hw3 hd3 hnd1 hz3 hS hFd
    have x2 : w1.cell? ⟨K.b1, 0, none⟩ = some (.bool false) := HS1.out.m1.cell 0
    have f2 := HS1.out.m1.free 0
    go_upto_region 5 with (fail)
    have hf2 := fr_set w1 K.b1 0 (.bool false)
    have hb2F : F K.b1 := HS1.out.im.1
    have n21 : K.b2 ≠ K.b1 := cs_ne HS1.out.m1 HS1.out.m2 (by decide)
    have n31 : K.b3 ≠ K.b1 := cs_ne HS1.out.m1 HS1.out.m3 (by decide)
    have n41 : K.b4 ≠ K.b1 := cs_ne HS1.out.m1 HS1.out.m4 (by decide)
    have n51 : K.b5 ≠ K.b1 := cs_ne HS1.out.m1 HS1.out.m5 (by decide)
    have nL1 : K.bL ≠ K.b1 := fun e => cs_own_ne HS1.out.m1 HS1.out.row (by decide) K.bL rfl e
    have ns0 : K.s0 ≠ K.b1 := cs_ne HS1.out.m1 H01.out (by decide)
    have ns1 : K.s1 ≠ K.b1 := cs_ne HS1.out.m1 H11.out (by decide)
    have ns2 : K.s2 ≠ K.b1 := cs_ne HS1.out.m1 H21.out (by decide)
    have hs2 : SVa K (w1.setCell ⟨K.b1, 0, none⟩ (.bool false)) Fd F false :=
      ⟨HS1.out.inF, Cs.put (l := [_]) HS1.out.m1 _, HS1.out.m2.fr hf2 n21, HS1.out.m3.fr hf2 n31, HS1.out.m4.fr hf2 n41, HS1.out.m5.fr hf2 n51, own_fr HS1.out.row hf2 (fun b hb e => by simp [Value.ownBlock] at hb; exact nL1 (hb.trans e)), HS1.out.nm, HS1.out.im, Nat.le_trans HS1.out.wB hf2.size⟩
    have HS2 := Lib.hid hs2
    have HD2 := Lib.hid (HD1.out.fr hf2 (fun j hj e => HS1.out.nm.1 (e ▸ hj)))
    have H02 := Lib.hid (Cs.fr H01.out hf2 ns0)
    have H12 := Lib.hid (Cs.fr H11.out hf2 ns1)
    have H22 := Lib.hid (Cs.fr H21.out hf2 ns2)
    have HT2 := Lib.hid (HT1.out.trans (⟨(Fr.refl F w1).set (.inl hb2F) _, fun j hj => .inl hj⟩ : Turn F F w1 (w1.setCell ⟨K.b1, 0, none⟩ (.bool false))))
    clear hf2 hs2 HS1 HD1 H01 H11 H21 HT1 x2 f2 n21 n31 n41 n51 nL1 ns0 ns1 ns2
    generalize (w1.setCell ⟨K.b1, 0, none⟩ (.bool false)) = w2 at *
    have x3 : w2.cell? ⟨K.b5, 0, none⟩ = some (.slice (some ⟨K.bL, 0, none⟩) 3 K.cL) := HS2.out.m5.cell 0
    have y0 : w2.cell? ⟨K.bL, 0, none⟩ = some (.iface 176 (.pointer (some ⟨K.s0, 0, none⟩))) := HS2.out.row.cellAt 0 (by omega)
    have y1 : w2.cell? ⟨K.bL, 1, none⟩ = some (.iface 176 (.pointer (some ⟨K.s1, 0, none⟩))) := HS2.out.row.cellAt 1 (by omega)
    have y2 : w2.cell? ⟨K.bL, 2, none⟩ = some (.iface 176 (.pointer (some ⟨K.s2, 0, none⟩))) := HS2.out.row.cellAt 2 (by omega)
    have hb3 : Below w2.heap.size w2 w2.drew := (Below.refl _ w2).drew
    have HOP := Lib.hid (vopen_any w2.drew Fd (fun j => Fd j ∨ j = K.s0 ∨ j = K.s1 ∨ j = K.s2) K.g K.s0 K.s1 K.s2 K.n0 K.n1 K.n2 S 1 (HD2.out.keep hb3) H02.out H12.out H22.out (fun j hj => .inl hj) (.inr (.inl rfl)) (.inr (.inr (.inl rfl))) (.inr (.inr (.inr rfl))) HND.out.1 HND.out.2.1 HND.out.2.2 hK.s02 hK.s12 HZ.out.nf.hea HZ.out.nf.dn HZ.out.nf.fu
      (by
        have := HD2.out.1.drv
        unfold DS.now DS.drv
        rcases hx : S.dr[2]? with _ | x
        · intro y hy; simp at hy
        · exact (this x (List.mem_of_getElem? hx)).1) (by omega) (by omega) (by omega) (by omega) (by omega) (by omega) (by omega))
    unfold spanV at HOP
    have hE := (HZ.out.opened (.inl rfl : (1 : Int) = 1 ∨ (1 : Int) = 2)).2.2.2.2.2.2.2.2.2.2
    have HE : Hid (opnE (S.now 2) K.n0 K.n1 1 = 0) := hE
    clear hE hb3
    go_wp2_with fail
    go_region_held3 (fun w' => w'.cell? ⟨K.b5, 0, none⟩ = some (.slice (some ⟨K.bL, 0, none⟩) 3 K.cL) ∧ w'.cell? ⟨K.bL, 0, none⟩ = some (.iface 176 (.pointer (some ⟨K.s0, 0, none⟩))) ∧ w'.cell? ⟨K.bL, 1, none⟩ = some (.iface 176 (.pointer (some ⟨K.s1, 0, none⟩))) ∧ w'.cell? ⟨K.bL, 2, none⟩ = some (.iface 176 (.pointer (some ⟨K.s2, 0, none⟩))))
      (first | with_reducible exact yy | exact ⟨x3, y0, y1, y2⟩)
      ((go_at_call 24; (with_reducible refine HOP.out.mono ?_); rintro e w3 ho; rcases ho with ⟨hne, -⟩ | ⟨-, m, v, Fv', rfl, hv3, ht3⟩; (exact absurd HE.out hne); have HV3 := Lib.hid hv3; have HT3 := Lib.hid ht3; have nF : ∀ {b : Nat} {ty : TypeId} {cs : Array Value}, Cs w2 b ty cs → ty ≠ 178 → ¬ Fd b → ¬ (Fd b ∨ b = K.s0 ∨ b = K.s1 ∨ b = K.s2) := (fun hcs hty hnf e => e.elim hnf (fun e => e.elim (fun e => cs_ne (cs' := _) H02.out hcs (fun q => hty q.symm) e) (fun e => e.elim (fun e => cs_ne H12.out hcs (fun q => hty q.symm) e) (fun e => cs_ne H22.out hcs (fun q => hty q.symm) e)))); clear hv3 ht3; have n3 := nF HS2.out.m5 (by decide) HS2.out.nm.2.2.2.2.1; have nL : ¬ (Fd K.bL ∨ K.bL = K.s0 ∨ K.bL = K.s1 ∨ K.bL = K.s2) := (fun e => e.elim HS2.out.nm.2.2.2.2.2 (fun e => e.elim (fun e => cs_own_ne H02.out HS2.out.row (by decide) K.bL rfl e) (fun e => e.elim (fun e => cs_own_ne H12.out HS2.out.row (by decide) K.bL rfl e) (fun e => cs_own_ne H22.out HS2.out.row (by decide) K.bL rfl e)))); have yy : w3.cell? ⟨K.b5, 0, none⟩ = some (.slice (some ⟨K.bL, 0, none⟩) 3 K.cL) ∧ w3.cell? ⟨K.bL, 0, none⟩ = some (.iface 176 (.pointer (some ⟨K.s0, 0, none⟩))) ∧ w3.cell? ⟨K.bL, 1, none⟩ = some (.iface 176 (.pointer (some ⟨K.s1, 0, none⟩))) ∧ w3.cell? ⟨K.bL, 2, none⟩ = some (.iface 176 (.pointer (some ⟨K.s2, 0, none⟩))) := ⟨(HT3.out.1.cell (b := K.b5) (i := 0) HS2.out.m5.lt n3).trans x3, (HT3.out.1.cell (b := K.bL) (i := 0) (own_lt HS2.out.row _ rfl) nL).trans y0, (HT3.out.1.cell (b := K.bL) (i := 1) (own_lt HS2.out.row _ rfl) nL).trans y1, (HT3.out.1.cell (b := K.bL) (i := 2) (own_lt HS2.out.row _ rfl) nL).trans y2⟩))
    have ht3 : Turn (fun j => Fd j ∨ j = K.s0 ∨ j = K.s1 ∨ j = K.s2) Fv' w2 w3 := (Turn.of_below (Below.refl _ w2).drew).trans HT3.out
    have n1 := nF HS2.out.m1 (by decide) HS2.out.nm.1
    have n2 := nF HS2.out.m2 (by decide) HS2.out.nm.2.1
    have n3' := nF HS2.out.m3 (by decide) HS2.out.nm.2.2.1
    have n4 := nF HS2.out.m4 (by decide) HS2.out.nm.2.2.2.1
    have hsv : SVa K w2 (fun j => Fd j ∨ j = K.s0 ∨ j = K.s1 ∨ j = K.s2) F false := ⟨fun j hj => hj.elim (HS2.out.inF j) (fun e => e.elim (fun e => e ▸ HI.out.1) (fun e => e.elim (fun e => e ▸ HI.out.2.1) (fun e => e ▸ HI.out.2.2))), HS2.out.m1, HS2.out.m2, HS2.out.m3, HS2.out.m4, HS2.out.m5, HS2.out.row, ⟨n1, n2, n3', n4, n3, nL⟩, HS2.out.im, HS2.out.wB⟩
    have HS3 := Lib.hid (hsv.turn HG.out ht3)
    have HT4 := Lib.hid (HT2.out.trans (hsv.wide ht3))
    clear ht3 n1 n2 n3 n3' n4 nL hsv yy HT3 HS2 HD2 H02 H12 H22 x3 y0 y1 y2 HOP
    go_wp2_with fail
    go_ret2
    have hz := HZ.out
    have hZ : ZR (K.C m v) S (okT t) := ⟨⟨hz.nf.hea, hz.nf.dn, hz.nf.fu⟩, hz.st, hz.op, hz.hC, hz.h1, hz.hb, hz.n2, hz.eq, hz.v⟩
    have hV : VolAt w3 Fv' (K.C m v) ((opn0 S 1).bgn (K.C m v) 1) := by
      have h0 := HV3.out
      rw [← show K.ch = opC (S.now 2) from hz.hC] at h0
      exact h0
    have hdr := hZ.dr HTL.out HKN.out (.inl rfl : (1 : Int) = 1 ∨ (1 : Int) = 2)
    obtain ⟨-, -, -, -, -, hpm, -, b1, b2, b3, -⟩ := hZ.opened (.inl rfl : (1 : Int) = 1 ∨ (1 : Int) = 2)
    have hk2 : K.n2 = opK (S.now 2) + 1 := hz.n2
    have hmul : opK (S.now 2) * ((K.C m v).chunk + 2) ≤ 3 * 5 := Nat.mul_le_mul (by omega) (by show K.ch + 2 ≤ 5; omega)
    have hfin : SDa K w3 (FU F Fv') t true (c + 1) v := ⟨HT4.out.ge HBW.out HG.out, Fv', m, (opn0 S 1).bgn (K.C m v) 1, false, hV, HS3.out, hpm, hdr, by omega, by omega, by omega, rfl⟩
    exact ⟨v, FU F Fv', rfl, HT4.out, hfin⟩
  · have HZ := Lib.hid (newW_now K hK hz (hfs rfl))
    have HD := Lib.hid hd
    have H0 := Lib.hid h0
    have H1 := Lib.hid h1
    have H2 := Lib.hid h2
    have HND := Lib.hid hnd
    have HS := Lib.hid hs
    clear hge hd h0 h1 h2 hnd hi hs hz hkn htl hfs
    go_enter Tryz.func39, Tryz.ntmps39
    have HT1 : Hid (Turn F F w w) := Lib.hid ⟨Fr.refl F w, fun j hj => .inl hj⟩
    have HS1 := HS
    have HD1 := HD
    have H01 := H0
    have H11 := H1
    have H21 := H2
    clear HS HD H0 H1 H2
    have HW1 : Hid (w = w) := rfl
    obtain ⟨w1, hw1⟩ : ∃ w1, w = w1 := ⟨_, rfl⟩
    rw [hw1] at HS1 HD1 H01 H11 H21 x1
    rw [show Turn F F w w = Turn F F w w1 by rw [← hw1]] at HT1
    have x2 := x1
    have f2 := HS1.out.m1.free 0
    go_upto_region 5 with (fail)
    rw [hw1]
    have hf2 := fr_set w1 K.b1 0 (.bool false)
    have hb2F : F K.b1 := HS1.out.im.1
    have n21 : K.b2 ≠ K.b1 := cs_ne HS1.out.m1 HS1.out.m2 (by decide)
    have n31 : K.b3 ≠ K.b1 := cs_ne HS1.out.m1 HS1.out.m3 (by decide)
    have n41 : K.b4 ≠ K.b1 := cs_ne HS1.out.m1 HS1.out.m4 (by decide)
    have n51 : K.b5 ≠ K.b1 := cs_ne HS1.out.m1 HS1.out.m5 (by decide)
    have nL1 : K.bL ≠ K.b1 := fun e => cs_own_ne HS1.out.m1 HS1.out.row (by decide) K.bL rfl e
    have ns0 : K.s0 ≠ K.b1 := cs_ne HS1.out.m1 H01.out (by decide)
    have ns1 : K.s1 ≠ K.b1 := cs_ne HS1.out.m1 H11.out (by decide)
    have ns2 : K.s2 ≠ K.b1 := cs_ne HS1.out.m1 H21.out (by decide)
    have hs2 : SVa K (w1.setCell ⟨K.b1, 0, none⟩ (.bool false)) Fd F false :=
      ⟨HS1.out.inF, Cs.put (l := [_]) HS1.out.m1 _, HS1.out.m2.fr hf2 n21, HS1.out.m3.fr hf2 n31, HS1.out.m4.fr hf2 n41, HS1.out.m5.fr hf2 n51, own_fr HS1.out.row hf2 (fun b hb e => by simp [Value.ownBlock] at hb; exact nL1 (hb.trans e)), HS1.out.nm, HS1.out.im, Nat.le_trans HS1.out.wB hf2.size⟩
    have HS2 := Lib.hid hs2
    have HD2 := Lib.hid (HD1.out.fr hf2 (fun j hj e => HS1.out.nm.1 (e ▸ hj)))
    have H02 := Lib.hid (Cs.fr H01.out hf2 ns0)
    have H12 := Lib.hid (Cs.fr H11.out hf2 ns1)
    have H22 := Lib.hid (Cs.fr H21.out hf2 ns2)
    have HT2 := Lib.hid (HT1.out.trans (⟨(Fr.refl F w1).set (.inl hb2F) _, fun j hj => .inl hj⟩ : Turn F F w1 (w1.setCell ⟨K.b1, 0, none⟩ (.bool false))))
    clear hf2 hs2 HS1 HD1 H01 H11 H21 HT1 x2 f2 n21 n31 n41 n51 nL1 ns0 ns1 ns2
    generalize (w1.setCell ⟨K.b1, 0, none⟩ (.bool false)) = w2 at *
    have x3 : w2.cell? ⟨K.b5, 0, none⟩ = some (.slice (some ⟨K.bL, 0, none⟩) 3 K.cL) := HS2.out.m5.cell 0
    have y0 : w2.cell? ⟨K.bL, 0, none⟩ = some (.iface 176 (.pointer (some ⟨K.s0, 0, none⟩))) := HS2.out.row.cellAt 0 (by omega)
    have y1 : w2.cell? ⟨K.bL, 1, none⟩ = some (.iface 176 (.pointer (some ⟨K.s1, 0, none⟩))) := HS2.out.row.cellAt 1 (by omega)
    have y2 : w2.cell? ⟨K.bL, 2, none⟩ = some (.iface 176 (.pointer (some ⟨K.s2, 0, none⟩))) := HS2.out.row.cellAt 2 (by omega)
    have hb3 : Below w2.heap.size w2 w2.drew := (Below.refl _ w2).drew
    have HOP := Lib.hid (vopen_any w2.drew Fd (fun j => Fd j ∨ j = K.s0 ∨ j = K.s1 ∨ j = K.s2) K.g K.s0 K.s1 K.s2 K.n0 K.n1 K.n2 S 1 (HD2.out.keep hb3) H02.out H12.out H22.out (fun j hj => .inl hj) (.inr (.inl rfl)) (.inr (.inr (.inl rfl))) (.inr (.inr (.inr rfl))) HND.out.1 HND.out.2.1 HND.out.2.2 hK.s02 hK.s12 HZ.out.nf.hea HZ.out.nf.dn HZ.out.nf.fu
      (by
        have := HD2.out.1.drv
        unfold DS.now DS.drv
        rcases hx : S.dr[2]? with _ | x
        · intro y hy; simp at hy
        · exact (this x (List.mem_of_getElem? hx)).1) (by omega) (by omega) (by omega) (by omega) (by omega) (by omega) (by omega))
    unfold spanV at HOP
    have hE := (HZ.out.opened (.inl rfl : (1 : Int) = 1 ∨ (1 : Int) = 2)).2.2.2.2.2.2.2.2.2.2
    have HE : Hid (opnE (S.now 2) K.n0 K.n1 1 = 0) := hE
    clear hE hb3
    go_wp2_with fail
    go_region_held3 (fun w' => w'.cell? ⟨K.b5, 0, none⟩ = some (.slice (some ⟨K.bL, 0, none⟩) 3 K.cL) ∧ w'.cell? ⟨K.bL, 0, none⟩ = some (.iface 176 (.pointer (some ⟨K.s0, 0, none⟩))) ∧ w'.cell? ⟨K.bL, 1, none⟩ = some (.iface 176 (.pointer (some ⟨K.s1, 0, none⟩))) ∧ w'.cell? ⟨K.bL, 2, none⟩ = some (.iface 176 (.pointer (some ⟨K.s2, 0, none⟩))))
      (first | with_reducible exact yy | exact ⟨x3, y0, y1, y2⟩)
      ((go_at_call 24; (with_reducible refine HOP.out.mono ?_); rintro e w3 ho; rcases ho with ⟨hne, -⟩ | ⟨-, m, v, Fv', rfl, hv3, ht3⟩; (exact absurd HE.out hne); have HV3 := Lib.hid hv3; have HT3 := Lib.hid ht3; have nF : ∀ {b : Nat} {ty : TypeId} {cs : Array Value}, Cs w2 b ty cs → ty ≠ 178 → ¬ Fd b → ¬ (Fd b ∨ b = K.s0 ∨ b = K.s1 ∨ b = K.s2) := (fun hcs hty hnf e => e.elim hnf (fun e => e.elim (fun e => cs_ne (cs' := _) H02.out hcs (fun q => hty q.symm) e) (fun e => e.elim (fun e => cs_ne H12.out hcs (fun q => hty q.symm) e) (fun e => cs_ne H22.out hcs (fun q => hty q.symm) e)))); clear hv3 ht3; have n3 := nF HS2.out.m5 (by decide) HS2.out.nm.2.2.2.2.1; have nL : ¬ (Fd K.bL ∨ K.bL = K.s0 ∨ K.bL = K.s1 ∨ K.bL = K.s2) := (fun e => e.elim HS2.out.nm.2.2.2.2.2 (fun e => e.elim (fun e => cs_own_ne H02.out HS2.out.row (by decide) K.bL rfl e) (fun e => e.elim (fun e => cs_own_ne H12.out HS2.out.row (by decide) K.bL rfl e) (fun e => cs_own_ne H22.out HS2.out.row (by decide) K.bL rfl e)))); have yy : w3.cell? ⟨K.b5, 0, none⟩ = some (.slice (some ⟨K.bL, 0, none⟩) 3 K.cL) ∧ w3.cell? ⟨K.bL, 0, none⟩ = some (.iface 176 (.pointer (some ⟨K.s0, 0, none⟩))) ∧ w3.cell? ⟨K.bL, 1, none⟩ = some (.iface 176 (.pointer (some ⟨K.s1, 0, none⟩))) ∧ w3.cell? ⟨K.bL, 2, none⟩ = some (.iface 176 (.pointer (some ⟨K.s2, 0, none⟩))) := ⟨(HT3.out.1.cell (b := K.b5) (i := 0) HS2.out.m5.lt n3).trans x3, (HT3.out.1.cell (b := K.bL) (i := 0) (own_lt HS2.out.row _ rfl) nL).trans y0, (HT3.out.1.cell (b := K.bL) (i := 1) (own_lt HS2.out.row _ rfl) nL).trans y1, (HT3.out.1.cell (b := K.bL) (i := 2) (own_lt HS2.out.row _ rfl) nL).trans y2⟩))
    have ht3 : Turn (fun j => Fd j ∨ j = K.s0 ∨ j = K.s1 ∨ j = K.s2) Fv' w2 w3 := (Turn.of_below (Below.refl _ w2).drew).trans HT3.out
    have n1 := nF HS2.out.m1 (by decide) HS2.out.nm.1
    have n2 := nF HS2.out.m2 (by decide) HS2.out.nm.2.1
    have n3' := nF HS2.out.m3 (by decide) HS2.out.nm.2.2.1
    have n4 := nF HS2.out.m4 (by decide) HS2.out.nm.2.2.2.1
    have hsv : SVa K w2 (fun j => Fd j ∨ j = K.s0 ∨ j = K.s1 ∨ j = K.s2) F false := ⟨fun j hj => hj.elim (HS2.out.inF j) (fun e => e.elim (fun e => e ▸ HI.out.1) (fun e => e.elim (fun e => e ▸ HI.out.2.1) (fun e => e ▸ HI.out.2.2))), HS2.out.m1, HS2.out.m2, HS2.out.m3, HS2.out.m4, HS2.out.m5, HS2.out.row, ⟨n1, n2, n3', n4, n3, nL⟩, HS2.out.im, HS2.out.wB⟩
    have HS3 := Lib.hid (hsv.turn HG.out ht3)
    have HT4 := Lib.hid (HT2.out.trans (hsv.wide ht3))
    clear ht3 n1 n2 n3 n3' n4 nL hsv yy HT3 HS2 HD2 H02 H12 H22 x3 y0 y1 y2 HOP
    go_wp2_with fail
    go_ret2
    have hz := HZ.out
    have hZ : ZR (K.C m v) S (okT t) := ⟨⟨hz.nf.hea, hz.nf.dn, hz.nf.fu⟩, hz.st, hz.op, hz.hC, hz.h1, hz.hb, hz.n2, hz.eq, hz.v⟩
    have hV : VolAt w3 Fv' (K.C m v) ((opn0 S 1).bgn (K.C m v) 1) := by
      have h0 := HV3.out
      rw [← show K.ch = opC (S.now 2) from hz.hC] at h0
      exact h0
    have hdr := hZ.dr HTL.out HKN.out (.inl rfl : (1 : Int) = 1 ∨ (1 : Int) = 2)
    obtain ⟨-, -, -, -, -, hpm, -, b1, b2, b3, -⟩ := hZ.opened (.inl rfl : (1 : Int) = 1 ∨ (1 : Int) = 2)
    have hk2 : K.n2 = opK (S.now 2) + 1 := hz.n2
    have hmul : opK (S.now 2) * ((K.C m v).chunk + 2) ≤ 3 * 5 := Nat.mul_le_mul (by omega) (by show K.ch + 2 ≤ 5; omega)
    have hfin : SDa K w3 (FU F Fv') t true (c + 1) v := ⟨HT4.out.ge HBW.out HG.out, Fv', m, (opn0 S 1).bgn (K.C m v) 1, false, hV, HS3.out, hpm, hdr, by omega, by omega, by omega, rfl⟩
    exact ⟨v, FU F Fv', rfl, HT4.out, hfin⟩

theorem sda_dev {K : Sa} (hK : K.Ok) : DevC K.B K.n0 1000 K.g 39 #[.pointer (some ⟨K.b1, 0, none⟩), .pointer (some ⟨K.b2, 0, none⟩), .pointer (some ⟨K.b3, 0, none⟩), .pointer (some ⟨K.b4, 0, none⟩), .pointer (some ⟨K.b5, 0, none⟩)] (SDa K) (SZa K) where
  dfr := fun h hf hn hb => h.fr hf hn hb
  dti := fun h => h.tight
  zfr := fun h hf hn hb => h.fr hf hn hb
  zti := fun h => h.tight
  size := fun h => sda_size h
  read := fun a st h ha hc hst => sda_read hK a st h ha hc hst
  write := fun a v h ha hv hc => sda_write hK a v h ha hv hc
  flush := fun h hc => sda_flush hK h hc
  fuse := fun x h hx hc => sda_fuse x h hx
  restart := fun A cc base bs h hc ho hb hn => sda_restart hK A cc base bs h hc ho hb hn
  opens := fun h hc => sza_open hK h hc

end Go.Proofs.YtogchafnnkajfaaGreat

namespace Go.Proofs.YtogchafnnkajfaaGreat
set_option linter.unusedVariables false
open Go.RowKit
attribute [local go_sem] Oper.semAt_some

theorem rmeta_info : (Tryz.prog.info? 145).map (·.size) = some 4 := by kernel_rfl
set_option maxRecDepth 100000 in
theorem res_meta_tmp {fn : Func} {p u : Tmp} (h : fn.results = #[.cell p 145, .tmp u]) (tmps : Array Value) (W : World) (g : Nat) (a b c d : Value) (hp : tmps.getD p undef = .pointer (some ⟨g, 0, none⟩)) (hg : Cs W g 145 #[a, b, c, d]) :
    (results fn tmps).run Tryz.prog W = .ok (.tuple #[.agg #[a, b, c, d], tmps.getD u undef]) W := by
  have hl : (loadVar 145 ⟨g, 0, none⟩).run Tryz.prog W = .ok (.agg #[a, b, c, d]) W := run_loadVar_row W g 145 145 _ (0, 0) _ hg Tryz.underlying145 rfl rmeta_info
  have hp' : tmps[p]?.getD undef = .pointer (some ⟨g, 0, none⟩) := by simpa using hp
  simp [results, h, hp', asAddr, hl, Result.andThen]

/-- A word is clear and its field. -/
theorem clr_add (w : Nat) : w = clr w 21 + w / 2097152 % 65536 * 2097152 := by
  unfold clr
  simp only [Nat.reducePow, Nat.reduceAdd]
  omega
theorem rsum_add (w : Nat) (hw : w < 18446744073709551616) : rsum w 21 = clr w 21 + sumW (clr w 21) * 2097152 := by
  have hs := sumW_lt (clr w 21)
  unfold rsum
  generalize sumW (clr w 21) = q at *
  unfold clr
  simp only [Nat.reducePow, Nat.reduceAdd]
  have h := or_mid (w % 2097152) q (w / 137438953472) 21 37 (by omega) (by omega)
  simp only [Nat.reducePow] at h
  rw [h]
  omega
theorem form_iff (w : Nat) (hw : w < 18446744073709551616) : hform w = decide (w / 137438953472 % 65536 = 17219 ∧ w = rsum w 21) := by
  have h1 := clr_add w
  have h2 := rsum_add w hw
  unfold hform
  rw [decide_eq_decide, h2]
  generalize clr w 21 = c at *
  generalize sumW c = q at *
  generalize w / 2097152 % 65536 = f at *
  clear h2
  constructor
  · rintro ⟨a, b⟩
    exact ⟨a, h1.trans (by rw [b])⟩
  · rintro ⟨a, b⟩
    exact ⟨a, Nat.eq_of_mul_eq_mul_right (by decide) (Nat.add_left_cancel (h1.symm.trans b))⟩

def ROpenP (W : World) (ws : List Nat) (e : Ending) (W' : World) : Prop :=
  Below W.heap.size W W' ∧
    ((openE ws ≠ 0 ∧ e = .returned (.tuple #[.agg #[.slice none 0 0, .int .i64 0, .int .i64 0, .bool false], .int .i64 (openE ws)])) ∨
     (openE ws = 0 ∧ ∃ v, e = .returned (.tuple #[.agg #[v, .int .i64 (((ws[0]?.getD 0) / 2048 % 128 : Nat) : Int), .int .i64 (((ws[0]?.getD 0) / 262144 % 4 : Nat) : Int), .bool (decide ((ws[0]?.getD 0) / 1048576 % 2 = 0))], .int .i64 0]) ∧
      W'.ownsRow W.heap.size 31 4 v ((ws[0]?.getD 0) % 2048) (scs (slotsU ws ((ws[0]?.getD 0) % 2048)))))

theorem own_ne {W : World} {base base' : Nat} {e e' : TypeId} {s s' n n' : Nat} {v v' : Value} {xs xs' : List Value} (h : W.ownsRow base e s v n xs) (h' : W.ownsRow base' e' s' v' n' xs') (hne : e ≠ e') : v.ownBlock = none ∨ v.ownBlock ≠ v'.ownBlock := by
  rcases h.2 with ⟨rfl, _⟩ | ⟨g, cap, cur, rfl, _, hb, _⟩
  · exact .inl rfl
  · refine .inr fun ee => ?_
    rcases h'.2 with ⟨rfl, _⟩ | ⟨g', cap', cur', rfl, _, hb', _⟩
    · simp [Value.ownBlock] at ee
    · obtain rfl : g = g' := by simpa [Value.ownBlock] using ee
      rw [hb] at hb'
      simp at hb'
      exact hne hb'.2

theorem fr_put4r (W : World) (g : Nat) (a' b' c' d' : Value) : Fr (fun j => j = g) W ((((W.setCell ⟨g, 0, none⟩ a').setCell ⟨g, 1, none⟩ b').setCell ⟨g, 2, none⟩ c').setCell ⟨g, 3, none⟩ d') :=
  ((((Fr.refl (fun j => j = g) W).set (b := g) (.inl rfl) _).set (b := g) (.inl rfl) _).set (b := g) (.inl rfl) _).set (b := g) (.inl rfl) _

set_option maxRecDepth 100000 in
set_option maxHeartbeats 8000000 in
theorem ropen_any (W : World) (A : Option Addr) (c n : Nat) (ws : List Nat) (hA : Reads W A (uv ws)) (hn : ws.length = n) (h1 : 1 ≤ n) (hn2 : n ≤ 65536) (hw : W64 ws) :
    Calls Tryz.prog 81 #[.slice A n c] W (ROpenP W ws) := by
  have HN := Lib.hid hn
  have HW := Lib.hid hw
  obtain ⟨b, off, rfl, hbl, hc⟩ := hA.u (by omega)
  have HC := Lib.hid hc
  have c0 := hc 0 (by omega)
  rw [Nat.add_zero] at c0
  have hw0 := hw.at 0
  have HE : Hid (openE ws = if hform (ws[0]?.getD 0) = false then 2 else if hbad (ws[0]?.getD 0) n = true then 24 else if allOk ws ((ws[0]?.getD 0) % 2048) = false then 24 else 0) := by show _ = _; rw [← HN.out]; rfl
  generalize hwq : ws[0]?.getD 0 = w at *
  have HWQ := Lib.hid hwq
  clear hwq hc hw hn hA
  have t1 : ¬ (n : Int) < 1 := by omega
  have HF := Lib.hid (form_iff w hw0)
  have e37 : bits .and .u64 ((w : Int) / 137438953472) 65535 = ((w / 137438953472 % 65536 : Nat) : Int) := by
    have e := u64_and_nat (w / 137438953472) 65535 (by omega) (by omega)
    have e3 := Nat.and_two_pow_sub_one_eq_mod (w / 137438953472) 16
    simp only [Nat.reducePow, Nat.reduceSub] at e3
    rw [e3] at e
    exact e
  have e11 : bits .and .u64 ((w : Int) / 2048) 127 = ((w / 2048 % 128 : Nat) : Int) := by
    have e := u64_and_nat (w / 2048) 127 (by omega) (by omega)
    have e3 := Nat.and_two_pow_sub_one_eq_mod (w / 2048) 7
    simp only [Nat.reducePow, Nat.reduceSub] at e3
    rw [e3] at e
    exact e
  have e18 : bits .and .u64 ((w : Int) / 262144) 3 = ((w / 262144 % 4 : Nat) : Int) := by
    have e := u64_and_nat (w / 262144) 3 (by omega) (by omega)
    have e3 := Nat.and_two_pow_sub_one_eq_mod (w / 262144) 2
    simp only [Nat.reducePow, Nat.reduceSub] at e3
    rw [e3] at e
    exact e
  have e20 : bits .and .u64 ((w : Int) / 1048576) 1 = ((w / 1048576 % 2 : Nat) : Int) := by
    have e := u64_and_nat (w / 1048576) 1 (by omega) (by omega)
    rw [Nat.and_one_is_mod] at e
    exact e
  have e00 : bits .and .u64 (w : Int) 2047 = ((w % 2048 : Nat) : Int) := by
    have e := u64_and_nat w 2047 hw0 (by omega)
    have e3 := Nat.and_two_pow_sub_one_eq_mod w 11
    simp only [Nat.reducePow, Nat.reduceSub] at e3
    rw [e3] at e
    exact e
  have e53 : (w : Int) / 9007199254740992 = ((w / 9007199254740992 : Nat) : Int) := by omega
  have HBD : Hid (hbad w n = decide (w / 9007199254740992 ≠ 0 ∨ w % 2048 < 1 ∨ 1024 < w % 2048 ∨ w / 2048 % 128 < 1 ∨ 64 < w / 2048 % 128 ∨ w / 262144 % 4 = 3 ∨ n < w % 2048 + 1)) := rfl
  have ha : w % 2048 < 2048 := Nat.mod_lt _ (by omega)
  have hb : w / 2048 % 128 < 128 := Nat.mod_lt _ (by omega)
  have hcc : w / 262144 % 4 < 4 := Nat.mod_lt _ (by omega)
  have hdd : w / 1048576 % 2 < 2 := Nat.mod_lt _ (by omega)
  have HRS := Lib.hid (rsum21_any w)
  generalize w / 137438953472 % 65536 = tg at *
  generalize hqA : w % 2048 = Q at *
  generalize hqB : w / 2048 % 128 = Bc at *
  generalize hqM : w / 262144 % 4 = M at *
  generalize hqO : w / 1048576 % 2 = O at *
  generalize hqz : w / 9007199254740992 = z53 at *
  have HQ := Lib.hid (And.intro hqA (And.intro hqB (And.intro hqM hqO)))
  clear hqA hqB hqM hqO hqz
  generalize hrs : rsum w 21 = rs at *
  have n0 : IntKind.i64.wrap (Q : Int) = Q := IntWalk.i64_in _ (by omega)
  have n1 : IntKind.i64.wrap (Bc : Int) = Bc := IntWalk.i64_in _ (by omega)
  have n2 : IntKind.i64.wrap (M : Int) = M := IntWalk.i64_in _ (by omega)
  have hO0 : ((O : Int) == 0) = decide (O = 0) := by rw [Bool.eq_iff_iff]; simp
  have hbE : Below W.heap.size W (W.alloc (.cells #[.slice none 0 0, .int .i64 0, .int .i64 0, .bool false] 145)) := (Below.refl _ W).alloc (Nat.le_refl _) _
  have hCE := Cs.new W 145 #[.slice none 0 0, .int .i64 0, .int .i64 0, .bool false]
  have c0' := (hbE.cell (p := ⟨b, off, none⟩) hbl).trans c0
  go_enter Tryz.func81, Tryz.ntmps81
  go_upto_region 4 with (fail)
  generalize (W.alloc (.cells #[.slice none 0 0, .int .i64 0, .int .i64 0, .bool false] 145)) = W0 at *
  go_cut [28] (fun s28 wx => s28 = .bool (!hform w) ∧ Below W0.heap.size W0 wx)
  case first =>
    by_cases q1 : tg = 17219
    · have t2 : ((tg : Int) != 17219) = false := by rw [q1]; rfl
      by_cases q2 : w = rs
      · have t3 : ((w : Int) != (rs : Int)) = false := by simp; omega
        have Q2 := Lib.hid q2
        clear q2
        go_wp2_with (go_at_call 42; refine (HRS.out W0 hw0).mono ?_; rintro e w1 ⟨rfl, hb1⟩)
        go_meet
        case rel => exact ⟨by rw [HF.out]; simp [q1, Q2.out], hb1⟩
      · have t3 : ((w : Int) != (rs : Int)) = true := by simp; omega
        go_wp2_with (go_at_call 42; refine (HRS.out W0 hw0).mono ?_; rintro e w1 ⟨rfl, hb1⟩)
        go_meet
        case rel => exact ⟨by rw [HF.out]; simp [q1, q2], hb1⟩
    · have t2 : ((tg : Int) != 17219) = true := by simp; omega
      go_wp2_with fail
      go_meet
      case rel => exact ⟨by rw [HF.out]; simp [q1], Below.refl _ _⟩
  case rest =>
    obtain ⟨rfl, hbx⟩ := hcut
    have HBX := Lib.hid (hbE.trans (hbx.mono hbE.size))
    have HCE := Lib.hid (hCE.below hbx hCE.lt)
    clear hbE hCE hbx c0' HRS e37
    have z0 : wc.cell? ⟨W.heap.size, 0, none⟩ = some (.slice none 0 0) := HCE.out.cell 0
    have z1 : wc.cell? ⟨W.heap.size, 1, none⟩ = some (.int .i64 0) := HCE.out.cell 1
    have z2 : wc.cell? ⟨W.heap.size, 2, none⟩ = some (.int .i64 0) := HCE.out.cell 2
    have z3 : wc.cell? ⟨W.heap.size, 3, none⟩ = some (.bool false) := HCE.out.cell 3
    have f0 := HCE.out.free 0
    have f1 := HCE.out.free 1
    have f2 := HCE.out.free 2
    have f3 := HCE.out.free 3
    by_cases hf : hform w = true
    rotate_left
    · have hf2 : hform w = false := by simpa using hf
      rw [hf2]
      have hE2 : openE ws = 2 := by rw [HE.out, if_pos hf2]
      go_wp2_with fail
      (try simp only [Exit.inBlock, Exit.then])
      refine bodyPost_ret (res_meta_tmp rfl _ _ W.heap.size _ _ _ _ rfl (Cs.put4 HCE.out _ _ _ _)) rfl ?_
      exact ⟨below_put4 HBX.out (Nat.le_refl _) _ _ _ _, .inl ⟨by rw [hE2]; decide, by rw [hE2]; rfl⟩⟩
    · rw [hf]
      have HE3 : Hid (openE ws = if hbad w n = true then 24 else if allOk ws Q = false then 24 else 0) := by show _ = _; rw [HE.out, if_neg (by simp [hf])]
      clear HE hf HF z0 z1 z2 z3 f0 f1 f2 f3
      go_upto_region 8 with (fail)
      have hC5 := Cs.new wc 145 #[.slice none 0 0, .int .i64 (Bc : Int), .int .i64 (M : Int), .bool (decide (O = 0))]
      have hb5 : Below wc.heap.size wc (wc.alloc (.cells #[.slice none 0 0, .int .i64 (Bc : Int), .int .i64 (M : Int), .bool (decide (O = 0))] 145)) := (Below.refl _ _).alloc (Nat.le_refl _) _
      have HCE1 := Lib.hid (HCE.out.below hb5 HCE.out.lt)
      have HB1 := Lib.hid (HBX.out.trans (hb5.mono HBX.out.size))
      have hszs : (wc.alloc (.cells #[.slice none 0 0, .int .i64 (Bc : Int), .int .i64 (M : Int), .bool (decide (O = 0))] 145)).heap.size = wc.heap.size + 1 := World.size_alloc _ _
      have hWs : W.heap.size < wc.heap.size := HCE.out.lt
      generalize (wc.alloc (.cells #[.slice none 0 0, .int .i64 (Bc : Int), .int .i64 (M : Int), .bool (decide (O = 0))] 145)) = W1 at *
      generalize wc.heap.size = s5 at *
      have m1 : W1.cell? ⟨s5, 1, none⟩ = some (.int .i64 (Bc : Int)) := hC5.cell 1
      have m2 : W1.cell? ⟨s5, 2, none⟩ = some (.int .i64 (M : Int)) := hC5.cell 2
      have HC5 := Lib.hid hC5
      clear hb5 hC5 HCE HBX hO0 e11 e18 e20 e00
      go_cut [78] (fun s78 wx => s78 = .bool (hbad w n) ∧ wx = W1)
      case first =>
        by_cases q1 : z53 = 0
        rotate_left
        · have t2 : ((z53 : Int) != 0) = true := by simp; omega
          have HMS : Hid (mSize (Q : Int) = mSize (Q : Int)) := rfl
          go_wp2_with (go_at_call 87; refine (rsize_any (Q : Int) W1).mono ?_; rintro e w6 ⟨rfl, rfl⟩; rw [HMS.out])
          go_meet
          case rel => exact ⟨by rw [HBD.out, decide_eq_true (by omega)], rfl⟩
        · have t2 : ((z53 : Int) != 0) = false := by simp; omega
          by_cases q2 : Q < 1
          · have t3 : (Q : Int) < 1 := by omega
            have HMS : Hid (mSize (Q : Int) = mSize (Q : Int)) := rfl
            go_wp2_with (go_at_call 87; refine (rsize_any (Q : Int) W1).mono ?_; rintro e w6 ⟨rfl, rfl⟩; rw [HMS.out])
            go_meet
            case rel => exact ⟨by rw [HBD.out, decide_eq_true (by omega)], rfl⟩
          · have t3 : ¬ (Q : Int) < 1 := by omega
            by_cases q2b : 1024 < Q
            · have t3b : (1024 : Int) < (Q : Int) := by omega
              have HMS : Hid (mSize (Q : Int) = mSize (Q : Int)) := rfl
              go_wp2_with (go_at_call 87; refine (rsize_any (Q : Int) W1).mono ?_; rintro e w6 ⟨rfl, rfl⟩; rw [HMS.out])
              go_meet
              case rel => exact ⟨by rw [HBD.out, decide_eq_true (by omega)], rfl⟩
            · have t3b : ¬ (1024 : Int) < (Q : Int) := by omega
              have HMS : Hid (mSize (Q : Int) = (Q : Int) + 1) := by show _ = _; unfold mSize; rw [if_neg (by omega)]
              by_cases q3 : Bc < 1
              · have t4 : (Bc : Int) < 1 := by omega
                go_wp2_with (go_at_call 87; refine (rsize_any (Q : Int) W1).mono ?_; rintro e w6 ⟨rfl, rfl⟩; rw [HMS.out])
                go_meet
                case rel => exact ⟨by rw [HBD.out, decide_eq_true (by omega)], rfl⟩
              · have t4 : ¬ (Bc : Int) < 1 := by omega
                by_cases q4 : 64 < Bc
                · have t5 : (64 : Int) < (Bc : Int) := by omega
                  go_wp2_with (go_at_call 87; refine (rsize_any (Q : Int) W1).mono ?_; rintro e w6 ⟨rfl, rfl⟩; rw [HMS.out])
                  go_meet
                  case rel => exact ⟨by rw [HBD.out, decide_eq_true (by omega)], rfl⟩
                · have t5 : ¬ (64 : Int) < (Bc : Int) := by omega
                  by_cases q5 : M = 3
                  · have t6 : ((M : Int) == 3) = true := by simp; omega
                    go_wp2_with (go_at_call 87; refine (rsize_any (Q : Int) W1).mono ?_; rintro e w6 ⟨rfl, rfl⟩; rw [HMS.out])
                    go_meet
                    case rel => exact ⟨by rw [HBD.out, decide_eq_true (by omega)], rfl⟩
                  · have t6 : ((M : Int) == 3) = false := by simp; omega
                    by_cases q6 : n < Q + 1
                    · have t7 : (n : Int) < (Q : Int) + 1 := by omega
                      go_wp2_with (go_at_call 87; refine (rsize_any (Q : Int) W1).mono ?_; rintro e w6 ⟨rfl, rfl⟩; rw [HMS.out])
                      go_meet
                      case rel => exact ⟨by rw [HBD.out, decide_eq_true (by omega)], rfl⟩
                    · have t7 : ¬ (n : Int) < (Q : Int) + 1 := by omega
                      go_wp2_with (go_at_call 87; refine (rsize_any (Q : Int) W1).mono ?_; rintro e w6 ⟨rfl, rfl⟩; rw [HMS.out])
                      go_meet
                      case rel => exact ⟨by rw [HBD.out]; congr 1; rw [Bool.eq_iff_iff]; simp; omega, rfl⟩
      case rest =>
        obtain ⟨rfl, rfl⟩ := hcut
        by_cases hbd : hbad w n = true
        · rw [hbd]
          have hE24 : openE ws = 24 := by rw [HE3.out, if_pos hbd]
          have z0 : wc.cell? ⟨W.heap.size, 0, none⟩ = some (.slice none 0 0) := HCE1.out.cell 0
          have z1 : wc.cell? ⟨W.heap.size, 1, none⟩ = some (.int .i64 0) := HCE1.out.cell 1
          have z2 : wc.cell? ⟨W.heap.size, 2, none⟩ = some (.int .i64 0) := HCE1.out.cell 2
          have z3 : wc.cell? ⟨W.heap.size, 3, none⟩ = some (.bool false) := HCE1.out.cell 3
          have f0 := HCE1.out.free 0
          have f1 := HCE1.out.free 1
          have f2 := HCE1.out.free 2
          have f3 := HCE1.out.free 3
          go_wp2_with fail
          (try simp only [Exit.inBlock, Exit.then])
          refine bodyPost_ret (res_meta_tmp rfl _ _ W.heap.size _ _ _ _ rfl (Cs.put4 HCE1.out _ _ _ _)) rfl ?_
          exact ⟨below_put4 HB1.out (Nat.le_refl _) _ _ _ _, .inl ⟨by rw [hE24]; decide, by rw [hE24]; rfl⟩⟩
        · have hbd2 : hbad w n = false := by simpa using hbd
          rw [hbd2]
          have hq := HBD.out
          rw [hbd2] at hq
          have hq2 := of_decide_eq_false hq.symm
          have qA : 1 ≤ Q ∧ Q ≤ 1024 ∧ Q + 1 ≤ n := by omega
          have HE4 : Hid (openE ws = if allOk ws Q = false then 24 else 0) := by show _ = _; rw [HE3.out, if_neg hbd]
          obtain ⟨ii, hii, hy0, hy1, hy2⟩ := info_parts int_info
          obtain ⟨is, his, hz0, hz1, hz2⟩ := info_parts slot_info
          clear hq hq2 hbd hbd2 HE3 HBD n0 n1 n2 m1 m2 e53 hb hcc hdd t1 c0
          go_wp2_with fail
          go_loopw [7, 8] (fun v i wr => ∃ (k : Nat) (vs : Value), k ≤ Q ∧ i = .int .i64 k ∧ Cs wr s5 145 #[vs, .int .i64 (Bc : Int), .int .i64 (M : Int), .bool (decide (O = 0))] ∧ Cs wr W.heap.size 145 #[.slice none 0 0, .int .i64 0, .int .i64 0, .bool false] ∧ wr.ownsRow (s5 + 1) 31 4 vs k (scs (slotsU ws k)) ∧ wr.ownsRow (s5 + 1) 3 1 v (seenB ws k).length (iv (seenB ws k)) ∧ (seenB ws k).length ≤ k ∧ allOk ws k = true ∧ Below W.heap.size W wr ∧ s5 + 1 ≤ wr.heap.size) (fun _ i _ => Q - (intOf i).toNat)
          case atStart => exact ⟨0, _, Nat.zero_le _, rfl, HC5.out, HCE1.out, World.ownsRow_nil _ _ _ _, World.ownsRow_nil _ _ _ _, Nat.zero_le _, rfl, HB1.out, by omega⟩
          case round =>
            rename World => wx
            obtain ⟨k, vs, hk, rfl, hC, hZ, hown, hsn, hsl, hok, hb, hsz⟩ := hrel
            obtain ⟨A3, c3, rfl⟩ := own_form hown
            obtain ⟨A7, c7, hv7⟩ := own_form hsn
            subst hv7
            have HCk := Lib.hid hC
            have HZk := Lib.hid hZ
            have HOk := Lib.hid hown
            have HSk := Lib.hid hsn
            have HBk := Lib.hid hb
            have HOKk := Lib.hid hok
            clear hC hZ hown hsn hb hok HC5 HCE1 HB1
            by_cases hlt : k < Q
            · have hcw := (HBk.out.cell (p := ⟨b, off + (1 + k), none⟩) hbl).trans (HC.out (1 + k) (by rw [HN.out]; omega))
              have hxl := HW.out.at (1 + k)
              have HOKA : Hid (okAt ws k = (slotOk (ws[1 + k]?.getD 0) && !((slotS (ws[1 + k]?.getD 0)).valid && decide ((slotS (ws[1 + k]?.getD 0)).block ∈ seenB ws k)))) := rfl
              have HSBS : Hid (seenB ws (k + 1) = if (slotS (ws[1 + k]?.getD 0)).valid = true then seenB ws k ++ [(slotS (ws[1 + k]?.getD 0)).block] else seenB ws k) := rfl
              have HSUS := Lib.hid (slotsU_succ ws k)
              generalize ws[1 + k]?.getD 0 = x at *
              have e1 : IntKind.i64.wrap (1 + (k : Int)) = 1 + k := IntWalk.i64_in _ (by omega)
              go_wp2_with fail
              refine (rfrom_any x wx hxl).mono ?_
              rintro e w5 ⟨s', rfl, hs', hb5⟩
              have HSX := Lib.hid hs'
              obtain ⟨sv, sd, sb, sst⟩ := s'
              unfold Sl.v
              go_upto_region 15 with (fail)
              clear hs' hcw e1
              have hb6 : Below w5.heap.size w5 (w5.alloc (.cells #[.bool sv, .bool sd, .int .i64 sb, .int .i64 sst] 31)) := (Below.refl _ _).alloc (Nat.le_refl _) _
              have hb56 := hb5.trans (hb6.mono hb5.size)
              have hCs := Cs.new w5 31 #[.bool sv, .bool sd, .int .i64 sb, .int .i64 sst]
              have HC6 := Lib.hid (HCk.out.below hb56 HCk.out.lt)
              have HZ6 := Lib.hid (HZk.out.below hb56 HZk.out.lt)
              have HO6 := Lib.hid (own_keepB HOk.out hb56)
              have HS6 := Lib.hid (own_keepB HSk.out hb56)
              have HB6 := Lib.hid (HBk.out.trans (hb56.mono HBk.out.size))
              have hsz6 : s5 + 1 ≤ (w5.alloc (.cells #[.bool sv, .bool sd, .int .i64 sb, .int .i64 sst] 31)).heap.size := Nat.le_trans hsz hb56.size
              have HOB : Hid (∀ b', (Value.slice A3 k c3).ownBlock = some b' → s5 + 1 ≤ b' ∧ b' < w5.heap.size) := fun b' hb' => ⟨own_base HOk.out b' hb', Nat.lt_of_lt_of_le (own_lt HOk.out b' hb') hb5.size⟩
              have HOB7 : Hid (∀ b', (Value.slice A7 (seenB ws k).length c7).ownBlock = some b' → s5 + 1 ≤ b' ∧ b' < w5.heap.size) := fun b' hb' => ⟨own_base HSk.out b' hb', Nat.lt_of_lt_of_le (own_lt HSk.out b' hb') hb5.size⟩
              have hl6 : w5.heap.size < (w5.alloc (.cells #[.bool sv, .bool sd, .int .i64 sb, .int .i64 sst] 31)).heap.size := hCs.lt
              have hsz5 : s5 + 1 ≤ w5.heap.size := Nat.le_trans hsz hb5.size
              generalize (w5.alloc (.cells #[.bool sv, .bool sd, .int .i64 sb, .int .i64 sst] 31)) = V at *
              generalize w5.heap.size = s6 at *
              have k0 : V.cell? ⟨s6, 0, none⟩ = some (.bool sv) := hCs.cell 0
              have k1 : V.cell? ⟨s6, 1, none⟩ = some (.bool sd) := hCs.cell 1
              have k2 : V.cell? ⟨s6, 2, none⟩ = some (.int .i64 sb) := hCs.cell 2
              have k3 : V.cell? ⟨s6, 3, none⟩ = some (.int .i64 sst) := hCs.cell 3
              clear hb6 hb56 hb5 HCk HZk HOk HSk HBk hCs hsz
              by_cases hsok : slotOk x = true
              rotate_left
              · have hsok2 : slotOk x = false := by simpa using hsok
                rw [hsok2]
                have hE24 : openE ws = 24 := by rw [HE4.out, if_pos (allOk_false ws k Q hlt (by rw [HOKA.out, hsok2]; rfl))]
                have z0 : V.cell? ⟨W.heap.size, 0, none⟩ = some (.slice none 0 0) := HZ6.out.cell 0
                have z1 : V.cell? ⟨W.heap.size, 1, none⟩ = some (.int .i64 0) := HZ6.out.cell 1
                have z2 : V.cell? ⟨W.heap.size, 2, none⟩ = some (.int .i64 0) := HZ6.out.cell 2
                have z3 : V.cell? ⟨W.heap.size, 3, none⟩ = some (.bool false) := HZ6.out.cell 3
                have f0 := HZ6.out.free 0
                have f1 := HZ6.out.free 1
                have f2 := HZ6.out.free 2
                have f3 := HZ6.out.free 3
                go_wp2_with fail
                (try simp only [Exit.inBlock, Exit.then])
                refine bodyPost_ret (res_meta_tmp rfl _ _ W.heap.size _ _ _ _ rfl (Cs.put4 HZ6.out _ _ _ _)) rfl ?_
                exact ⟨below_put4 HB6.out (Nat.le_refl _) _ _ _ _, .inl ⟨by rw [hE24]; decide, by rw [hE24]; rfl⟩⟩
              · rw [hsok]
                have hsx := HSX.out hsok
                rw [← hsx] at HOKA HSBS HSUS
                have HOK2 : Hid (okAt ws k = !(sv && decide (sb ∈ seenB ws k))) := by show _ = _; rw [HOKA.out, hsok]; rfl
                clear hsx HSX HOKA hsok
                generalize hSB : seenB ws k = L at *
                cases sv
                · have hS2 : seenB ws (k + 1) = L := by rw [HSBS.out]; rfl
                  have HS2 := Lib.hid hS2
                  have hokn : allOk ws (k + 1) = true := by rw [allOk, HOKk.out, HOK2.out]; rfl
                  have HOKN := Lib.hid hokn
                  clear hS2 hokn HSBS
                  by_cases h0L : (0 : Int) < (L.length : Int)
                  · go_wp2_with fail
                    refine wp_loop_rounds 1 ?_
                    rw [rounds_succ]
                    have y1 : V.cell? ⟨s5, 0, none⟩ = some (.slice A3 k c3) := HC6.out.cell 0
                    go_wp2_with (at_builtin; refine wpList_append_reads _ (by rfl) (.tmp 123) (.tmp 125) _ (by rfl) (s5 + 1) 31 is _ 4 24 Tryz.underlying56 his hz0 hz1 hz2 (by rfl) (by omega) (.slice A3 k c3) k (scs (slotsU ws k)) (by rfl) (HO6.out.alloc _) (some ⟨V.heap.size, 0, none⟩) 1 1 [.bool false, .bool sd, .int .i64 sb, .int .i64 sst] (by rfl) (by rfl) (Reads.new _ _ _) (by simp [Value.oneCell']) (by simp only [maxLen]; omega) (by omega) (by simp; omega) ?_; intro v9 w9 hown9 hg9 hat9; obtain ⟨A9, c9, hv9⟩ := own_form hown9; subst hv9; have hm5 : some s5 ≠ (Value.slice A3 k c3).ownBlock := (fun e => by have := (HOB.out s5 e.symm).1; omega); have HC9 := Lib.hid ((HC6.out.alloc _).grown hg9 hm5); have c90 : w9.cell? ⟨s5, 0, none⟩ = some (.slice A3 k c3) := HC9.out.cell 0; have f90 := HC9.out.free 0)
                    have hmW : some W.heap.size ≠ (Value.slice A3 k c3).ownBlock := fun e => by have := (HOB.out _ e.symm).1; omega
                    have hrow : w9.ownsRow (s5 + 1) 31 4 (.slice A9 (k + 1) c9) (k + 1) (scs (slotsU ws (k + 1))) := by
                      have e : scs (slotsU ws (k + 1)) = scs (slotsU ws k) ++ [.bool false, .bool sd, .int .i64 sb, .int .i64 sst] := by rw [HSUS.out, scs_snoc]; rfl
                      rw [e]
                      exact hown9
                    have hdiff := own_ne (HS6.out.alloc (.cells #[.bool false, .bool sd, .int .i64 sb, .int .i64 sst] 31)) (HO6.out.alloc (.cells #[.bool false, .bool sd, .int .i64 sb, .int .i64 sst] 31)) (by decide)
                    have hs9 := (HS6.out.alloc _).kept hg9 hdiff
                    have hfs := fr_set w9 s5 0 (.slice A9 (k + 1) c9)
                    have HCF : Hid (Cs (w9.setCell ⟨s5, 0, none⟩ (.slice A9 (k + 1) c9)) s5 145 #[.slice A9 (k + 1) c9, .int .i64 (Bc : Int), .int .i64 (M : Int), .bool (decide (O = 0))]) := heap_setCell_same w9 s5 0 _ _ (.slice A9 (k + 1) c9) HC9.out
                    have HZF := Lib.hid (((HZ6.out.alloc _).grown hg9 hmW).fr hfs (by show ¬ _ = _; omega))
                    have HOF := Lib.hid (own_fr hrow hfs (fun b' hb' e => by have := own_base hrow b' hb'; omega))
                    have HSF := Lib.hid (own_fr hs9 hfs (fun b' hb' e => by have := own_base hs9 b' hb'; omega))
                    have hBA : Below W.heap.size W (V.alloc (.cells #[.bool false, .bool sd, .int .i64 sb, .int .i64 sst] 31)) := HB6.out.alloc HB6.out.size _
                    have HBF := Lib.hid ((hBA.grown hg9 hBA.size (fun j e => by have := (HOB.out j e).1; omega)).setCell (p := ⟨s5, 0, none⟩) (Nat.le_of_lt hWs) (.slice A9 (k + 1) c9))
                    have hszF : s5 + 1 ≤ (w9.setCell ⟨s5, 0, none⟩ (.slice A9 (k + 1) c9)).heap.size := by
                      rw [World.size_setCell]
                      exact Nat.le_trans (Nat.le_trans hsz6 (by simp)) hg9.size
                    clear hown9 hg9 hat9 hrow hs9 hfs hdiff hmW hm5 hBA
                    go_wp2_with fail
                    go_roundw
                    case rel => exact ⟨k + 1, _, by omega, by go_num, HCF.out, HZF.out, HOF.out, by rw [HS2.out]; exact HSF.out, by rw [HS2.out]; omega, HOKN.out, HBF.out, hszF⟩
                    case measure => simp [intOf]; omega
                  · go_wp2_with fail
                    refine wp_loop_rounds 1 ?_
                    rw [rounds_succ]
                    have y1 : V.cell? ⟨s5, 0, none⟩ = some (.slice A3 k c3) := HC6.out.cell 0
                    go_wp2_with (at_builtin; refine wpList_append_reads _ (by rfl) (.tmp 123) (.tmp 125) _ (by rfl) (s5 + 1) 31 is _ 4 24 Tryz.underlying56 his hz0 hz1 hz2 (by rfl) (by omega) (.slice A3 k c3) k (scs (slotsU ws k)) (by rfl) (HO6.out.alloc _) (some ⟨V.heap.size, 0, none⟩) 1 1 [.bool false, .bool sd, .int .i64 sb, .int .i64 sst] (by rfl) (by rfl) (Reads.new _ _ _) (by simp [Value.oneCell']) (by simp only [maxLen]; omega) (by omega) (by simp; omega) ?_; intro v9 w9 hown9 hg9 hat9; obtain ⟨A9, c9, hv9⟩ := own_form hown9; subst hv9; have hm5 : some s5 ≠ (Value.slice A3 k c3).ownBlock := (fun e => by have := (HOB.out s5 e.symm).1; omega); have HC9 := Lib.hid ((HC6.out.alloc _).grown hg9 hm5); have c90 : w9.cell? ⟨s5, 0, none⟩ = some (.slice A3 k c3) := HC9.out.cell 0; have f90 := HC9.out.free 0)
                    have hmW : some W.heap.size ≠ (Value.slice A3 k c3).ownBlock := fun e => by have := (HOB.out _ e.symm).1; omega
                    have hrow : w9.ownsRow (s5 + 1) 31 4 (.slice A9 (k + 1) c9) (k + 1) (scs (slotsU ws (k + 1))) := by
                      have e : scs (slotsU ws (k + 1)) = scs (slotsU ws k) ++ [.bool false, .bool sd, .int .i64 sb, .int .i64 sst] := by rw [HSUS.out, scs_snoc]; rfl
                      rw [e]
                      exact hown9
                    have hdiff := own_ne (HS6.out.alloc (.cells #[.bool false, .bool sd, .int .i64 sb, .int .i64 sst] 31)) (HO6.out.alloc (.cells #[.bool false, .bool sd, .int .i64 sb, .int .i64 sst] 31)) (by decide)
                    have hs9 := (HS6.out.alloc _).kept hg9 hdiff
                    have hfs := fr_set w9 s5 0 (.slice A9 (k + 1) c9)
                    have HCF : Hid (Cs (w9.setCell ⟨s5, 0, none⟩ (.slice A9 (k + 1) c9)) s5 145 #[.slice A9 (k + 1) c9, .int .i64 (Bc : Int), .int .i64 (M : Int), .bool (decide (O = 0))]) := heap_setCell_same w9 s5 0 _ _ (.slice A9 (k + 1) c9) HC9.out
                    have HZF := Lib.hid (((HZ6.out.alloc _).grown hg9 hmW).fr hfs (by show ¬ _ = _; omega))
                    have HOF := Lib.hid (own_fr hrow hfs (fun b' hb' e => by have := own_base hrow b' hb'; omega))
                    have HSF := Lib.hid (own_fr hs9 hfs (fun b' hb' e => by have := own_base hs9 b' hb'; omega))
                    have hBA : Below W.heap.size W (V.alloc (.cells #[.bool false, .bool sd, .int .i64 sb, .int .i64 sst] 31)) := HB6.out.alloc HB6.out.size _
                    have HBF := Lib.hid ((hBA.grown hg9 hBA.size (fun j e => by have := (HOB.out j e).1; omega)).setCell (p := ⟨s5, 0, none⟩) (Nat.le_of_lt hWs) (.slice A9 (k + 1) c9))
                    have hszF : s5 + 1 ≤ (w9.setCell ⟨s5, 0, none⟩ (.slice A9 (k + 1) c9)).heap.size := by
                      rw [World.size_setCell]
                      exact Nat.le_trans (Nat.le_trans hsz6 (by simp)) hg9.size
                    clear hown9 hg9 hat9 hrow hs9 hfs hdiff hmW hm5 hBA
                    go_wp2_with fail
                    go_roundw
                    case rel => exact ⟨k + 1, _, by omega, by go_num, HCF.out, HZF.out, HOF.out, by rw [HS2.out]; exact HSF.out, by rw [HS2.out]; omega, HOKN.out, HBF.out, hszF⟩
                    case measure => simp [intOf]; omega
                · have hS2 : seenB ws (k + 1) = L ++ [sb] := by rw [HSBS.out]; rfl
                  have HS2 := Lib.hid hS2
                  clear hS2 HSBS
                  go_wp2_with fail
                  go_loopw [11] (fun j wr => ∃ (jj q : Nat), jj ≤ L.length ∧ j = .int .i64 jj ∧ wr = V.drewN q ∧ Hid (∀ i, i < jj → L[i]?.getD 0 ≠ sb)) (fun j _ => L.length - (intOf j).toNat)
                  case atStart => exact ⟨0, 0, Nat.zero_le _, rfl, rfl, fun i hi => absurd hi (by omega)⟩
                  case round =>
                    obtain ⟨jj, q, hjj, rfl, rfl, hne⟩ := hrel
                    by_cases hjl : jj < L.length
                    · obtain ⟨b7, cap7, hA, -, hb7⟩ := HS6.out.form (by omega)
                      injection hA with hA2 _ hcap
                      subst hA2
                      subst hcap
                      have cj := (HS6.out.cellAt jj (by omega)).trans (iv_at L jj hjl)
                      have t1 : (jj : Int) < (L.length : Int) := by omega
                      have HIN : Hid (L[jj]?.getD 0 ∈ L) := by
                        show _ ∈ _
                        rw [List.getElem?_eq_getElem hjl, Option.getD_some]
                        exact List.getElem_mem _
                      have HNX : Hid (L[jj]?.getD 0 ≠ sb → ∀ i, i < jj + 1 → L[i]?.getD 0 ≠ sb) := fun h i hi => by
                        by_cases e : i = jj
                        · rw [e]; exact h
                        · exact hne.out i (by omega)
                      generalize L[jj]?.getD 0 = y at *
                      by_cases hy : y = sb
                      · have hyb : (y == sb) = true := by simpa using hy
                        have hE24 : openE ws = 24 := by
                          rw [HE4.out, if_pos (allOk_false ws k Q hlt _)]
                          rw [HOK2.out, decide_eq_true (hy ▸ HIN.out)]
                          rfl
                        clear hy
                        have z0 : V.cell? ⟨W.heap.size, 0, none⟩ = some (.slice none 0 0) := HZ6.out.cell 0
                        have f0 := HZ6.out.free 0
                        have z1 : V.cell? ⟨W.heap.size, 1, none⟩ = some (.int .i64 0) := HZ6.out.cell 1
                        have f1 := HZ6.out.free 1
                        have z2 : V.cell? ⟨W.heap.size, 2, none⟩ = some (.int .i64 0) := HZ6.out.cell 2
                        have f2 := HZ6.out.free 2
                        have z3 : V.cell? ⟨W.heap.size, 3, none⟩ = some (.bool false) := HZ6.out.cell 3
                        have f3 := HZ6.out.free 3
                        go_wp2_with fail
                        go_quiet (fail)
                        go_wp2_with fail
                        (try simp only [Exit.inBlock, Exit.then])
                        refine bodyPost_ret (res_meta_tmp rfl _ _ W.heap.size _ _ _ _ rfl (Cs.put4 (show Cs (V.drewN _) W.heap.size _ _ from HZ6.out) _ _ _ _)) rfl ?_
                        exact ⟨below_put4 (below_drewN HB6.out _) (Nat.le_refl _) _ _ _ _, .inl ⟨by rw [hE24]; decide, by rw [hE24]; rfl⟩⟩
                      · have hyb : (y == sb) = false := by simpa using hy
                        go_wp2_with fail
                        go_quiet (fail)
                        go_wp2_with fail
                        go_roundw
                        case rel => exact ⟨jj + 1, _, by omega, by go_num, rfl, HNX.out hy⟩
                        case measure => simp [intOf]; omega
                    · have hjL : jj = L.length := by omega
                      have hnm : ¬ sb ∈ L := by
                        intro hm
                        obtain ⟨i, hi, e⟩ := List.getElem_of_mem hm
                        have := hne.out i (by omega)
                        rw [List.getElem?_eq_getElem hi, Option.getD_some] at this
                        exact this e
                      have hokn : allOk ws (k + 1) = true := by rw [allOk, HOKk.out, HOK2.out, decide_eq_false hnm]; rfl
                      have HOKN := Lib.hid hokn
                      have hbq := below_drewN (Below.refl V.heap.size V) q
                      have HC7 := Lib.hid (HC6.out.below hbq HC6.out.lt)
                      have HZ7 := Lib.hid (HZ6.out.below hbq HZ6.out.lt)
                      have HO7 := Lib.hid (own_keepB HO6.out hbq)
                      have HS7 := Lib.hid (own_keepB HS6.out hbq)
                      have HB7 := Lib.hid (below_drewN HB6.out q)
                      have hsz7 : s5 + 1 ≤ (V.drewN q).heap.size := hsz6
                      have hl7 : s6 < (V.drewN q).heap.size := hl6
                      have l0 : (V.drewN q).cell? ⟨s6, 0, none⟩ = some (.bool true) := k0
                      have l1 : (V.drewN q).cell? ⟨s6, 1, none⟩ = some (.bool sd) := k1
                      have l2 : (V.drewN q).cell? ⟨s6, 2, none⟩ = some (.int .i64 sb) := k2
                      have l3 : (V.drewN q).cell? ⟨s6, 3, none⟩ = some (.int .i64 sst) := k3
                      clear hokn hbq k0 k1 k2 k3 HC6 HZ6 HO6 HS6 HB6 hsz6 hl6
                      generalize V.drewN q = U at *
                      have t1 : ¬ (jj : Int) < (L.length : Int) := by omega
                      go_upto_region 24 with (at_builtin; refine wpList_append_reads _ (by rfl) (.tmp 117) (.tmp 120) _ (by rfl) (s5 + 1) 3 ii _ 1 8 Tryz.underlying22 hii hy0 hy1 hy2 (by rfl) (by omega) (.slice A7 L.length c7) L.length (iv L) (by rfl) (HS7.out.alloc _) (some ⟨U.heap.size, 0, none⟩) 1 1 [.int .i64 sb] (by rfl) (by rfl) (Reads.new _ _ _) (by simp [Value.oneCell']) (by simp only [maxLen]; omega) (by omega) (by simp; omega) ?_; intro v8 w8 hown8 hg8 hat8; obtain ⟨A8, c8, hv8⟩ := own_form hown8; subst hv8)
                      have hm7 : some s5 ≠ (Value.slice A7 L.length c7).ownBlock := fun e => by have := (HOB7.out s5 e.symm).1; omega
                      have hz7 : some W.heap.size ≠ (Value.slice A7 L.length c7).ownBlock := fun e => by have := (HOB7.out _ e.symm).1; omega
                      have hs7 : some s6 ≠ (Value.slice A7 L.length c7).ownBlock := fun e => by have := (HOB7.out s6 e.symm).2; omega
                      have hdif := own_ne (HO7.out.alloc (.cells #[.int .i64 sb] 3)) (HS7.out.alloc (.cells #[.int .i64 sb] 3)) (by decide)
                      have hba : Below U.heap.size U (U.alloc (.cells #[.int .i64 sb] 3)) := (Below.refl _ _).alloc (Nat.le_refl _) _
                      have HC8 := Lib.hid ((HC7.out.alloc _).grown hg8 hm7)
                      have HZ8 := Lib.hid ((HZ7.out.alloc _).grown hg8 hz7)
                      have HO8 := Lib.hid ((HO7.out.alloc _).kept hg8 hdif)
                      have HS8 : Hid (w8.ownsRow (s5 + 1) 3 1 (.slice A8 (L.length + 1) c8) (L ++ [sb]).length (iv (L ++ [sb]))) := by
                        show w8.ownsRow _ _ _ _ _ _
                        rw [iv_append, List.length_append]
                        exact hown8
                      have hBA8 : Below W.heap.size W (U.alloc (.cells #[.int .i64 sb] 3)) := HB7.out.alloc HB7.out.size _
                      have HB8 := Lib.hid (hBA8.grown hg8 hBA8.size (fun j e => by have := (HOB7.out j e).1; omega))
                      have hsz8 : s5 + 1 ≤ w8.heap.size := Nat.le_trans (Nat.le_trans hsz7 hba.size) hg8.size
                      have k0 := hg8.cell (a := ⟨s6, 0, none⟩) ((hba.cell (p := ⟨s6, 0, none⟩) hl7).trans l0) hs7
                      have k1 := hg8.cell (a := ⟨s6, 1, none⟩) ((hba.cell (p := ⟨s6, 1, none⟩) hl7).trans l1) hs7
                      have k2 := hg8.cell (a := ⟨s6, 2, none⟩) ((hba.cell (p := ⟨s6, 2, none⟩) hl7).trans l2) hs7
                      have k3 := hg8.cell (a := ⟨s6, 3, none⟩) ((hba.cell (p := ⟨s6, 3, none⟩) hl7).trans l3) hs7
                      clear hown8 hg8 hat8 hm7 hz7 hs7 hdif hba hBA8 l0 l1 l2 l3 HC7 HZ7 HO7 HS7 HB7 hsz7
                      have y1 : w8.cell? ⟨s5, 0, none⟩ = some (.slice A3 k c3) := HC8.out.cell 0
                      go_wp2_with (at_builtin; refine wpList_append_reads _ (by rfl) (.tmp 123) (.tmp 125) _ (by rfl) (s5 + 1) 31 is _ 4 24 Tryz.underlying56 his hz0 hz1 hz2 (by rfl) (by omega) (.slice A3 k c3) k (scs (slotsU ws k)) (by rfl) (HO8.out.alloc _) (some ⟨w8.heap.size, 0, none⟩) 1 1 [.bool true, .bool sd, .int .i64 sb, .int .i64 sst] (by rfl) (by rfl) (Reads.new _ _ _) (by simp [Value.oneCell']) (by simp only [maxLen]; omega) (by omega) (by simp; omega) ?_; intro v9 w9 hown9 hg9 hat9; obtain ⟨A9, c9, hv9⟩ := own_form hown9; subst hv9; have hm5 : some s5 ≠ (Value.slice A3 k c3).ownBlock := (fun e => by have := (HOB.out s5 e.symm).1; omega); have HC9 := Lib.hid ((HC8.out.alloc _).grown hg9 hm5); have c90 : w9.cell? ⟨s5, 0, none⟩ = some (.slice A3 k c3) := HC9.out.cell 0; have f90 := HC9.out.free 0)
                      have hmW : some W.heap.size ≠ (Value.slice A3 k c3).ownBlock := fun e => by have := (HOB.out _ e.symm).1; omega
                      have hrow : w9.ownsRow (s5 + 1) 31 4 (.slice A9 (k + 1) c9) (k + 1) (scs (slotsU ws (k + 1))) := by
                        have e : scs (slotsU ws (k + 1)) = scs (slotsU ws k) ++ [.bool true, .bool sd, .int .i64 sb, .int .i64 sst] := by rw [HSUS.out, scs_snoc]; rfl
                        rw [e]
                        exact hown9
                      have hdiff := own_ne (HS8.out.alloc (.cells #[.bool true, .bool sd, .int .i64 sb, .int .i64 sst] 31)) (HO8.out.alloc (.cells #[.bool true, .bool sd, .int .i64 sb, .int .i64 sst] 31)) (by decide)
                      have hs9 := (HS8.out.alloc _).kept hg9 hdiff
                      have hfs := fr_set w9 s5 0 (.slice A9 (k + 1) c9)
                      have HCF : Hid (Cs (w9.setCell ⟨s5, 0, none⟩ (.slice A9 (k + 1) c9)) s5 145 #[.slice A9 (k + 1) c9, .int .i64 (Bc : Int), .int .i64 (M : Int), .bool (decide (O = 0))]) := heap_setCell_same w9 s5 0 _ _ (.slice A9 (k + 1) c9) HC9.out
                      have HZF := Lib.hid (((HZ8.out.alloc _).grown hg9 hmW).fr hfs (by show ¬ _ = _; omega))
                      have HOF := Lib.hid (own_fr hrow hfs (fun b' hb' e => by have := own_base hrow b' hb'; omega))
                      have HSF := Lib.hid (own_fr hs9 hfs (fun b' hb' e => by have := own_base hs9 b' hb'; omega))
                      have hBA : Below W.heap.size W (w8.alloc (.cells #[.bool true, .bool sd, .int .i64 sb, .int .i64 sst] 31)) := HB8.out.alloc HB8.out.size _
                      have HBF := Lib.hid ((hBA.grown hg9 hBA.size (fun j e => by have := (HOB.out j e).1; omega)).setCell (p := ⟨s5, 0, none⟩) (Nat.le_of_lt hWs) (.slice A9 (k + 1) c9))
                      have hszF : s5 + 1 ≤ (w9.setCell ⟨s5, 0, none⟩ (.slice A9 (k + 1) c9)).heap.size := by
                        rw [World.size_setCell]
                        exact Nat.le_trans (Nat.le_trans hsz8 (by simp)) hg9.size
                      clear hown9 hg9 hat9 hrow hs9 hfs hdiff hmW hm5 hBA
                      go_wp2_with fail
                      go_roundw
                      case rel => exact ⟨k + 1, _, by omega, by go_num, HCF.out, HZF.out, HOF.out, by rw [HS2.out]; exact HSF.out, by rw [HS2.out, List.length_append]; simp; omega, HOKN.out, HBF.out, hszF⟩
                      case measure => simp [intOf]; omega
            · have hkn : k = Q := by omega
              subst hkn
              have hok1 := HOKk.out
              obtain ⟨y0, y1, y2, y3⟩ := (⟨HCk.out.cell 0, HCk.out.cell 1, HCk.out.cell 2, HCk.out.cell 3⟩ : wx.cell? ⟨s5, 0, none⟩ = some (.slice A3 k c3) ∧ wx.cell? ⟨s5, 1, none⟩ = some (.int .i64 (Bc : Int)) ∧ wx.cell? ⟨s5, 2, none⟩ = some (.int .i64 (M : Int)) ∧ wx.cell? ⟨s5, 3, none⟩ = some (.bool (decide (O = 0))))
              have z0 : wx.cell? ⟨W.heap.size, 0, none⟩ = some (.slice none 0 0) := HZk.out.cell 0
              have z1 : wx.cell? ⟨W.heap.size, 1, none⟩ = some (.int .i64 0) := HZk.out.cell 1
              have z2 : wx.cell? ⟨W.heap.size, 2, none⟩ = some (.int .i64 0) := HZk.out.cell 2
              have z3 : wx.cell? ⟨W.heap.size, 3, none⟩ = some (.bool false) := HZk.out.cell 3
              have f0 := HZk.out.free 0
              have f1 := HZk.out.free 1
              have f2 := HZk.out.free 2
              have f3 := HZk.out.free 3
              go_wp2_with fail
              (try simp only [Exit.inBlock, Exit.then])
              refine bodyPost_ret (res_meta_tmp rfl _ _ W.heap.size _ _ _ _ rfl (Cs.put4 HZk.out _ _ _ _)) rfl ?_
              refine ⟨below_put4 HBk.out (Nat.le_refl _) _ _ _ _, .inr ⟨by rw [HE4.out, hok1]; rfl, .slice A3 k c3, ?_, ?_⟩⟩
              · have e := HWQ.out
                obtain ⟨q1, q2, q3, q4⟩ := HQ.out
                rw [e, q2, q3, q4]
                rfl
              · have e := HWQ.out
                obtain ⟨q1, q2, q3, q4⟩ := HQ.out
                rw [e, q1]
                exact own_lower (own_fr HOk.out (fr_put4r wx W.heap.size _ _ _ _) (fun b' hb' e => by have := own_base HOk.out b' hb'; omega)) (by omega)
end Go.Proofs.YtogchafnnkajfaaGreat

namespace Go.Proofs.YtogchafnnkajfaaGreat
set_option linter.unusedVariables false
open Go.RowKit Go.Shelf
attribute [local go_sem] Oper.semAt_some

end Go.Proofs.YtogchafnnkajfaaGreat

namespace Go.Proofs.YtogchafnnkajfaaGreat
set_option linter.unusedVariables false
open Go.RowKit
attribute [local go_sem] Oper.semAt_some

/-- Where the definition's volume lies, its sizes and what never changes. -/
structure RC where
  r : Nat
  bo : Nat
  co : Nat
  bf : Nat
  cf : Nat
  bm : Nat
  cm : Nat
  n0 : Nat
  n1 : Nat
  n2 : Nat
  chunk : Nat
  mode : Int
structure RvIn (W : World) (F : Nat → Prop) (K : RC) (clo : Bool) (R : RV) (A : Option Addr) (c : Nat) (B : Option Addr) (d : Nat) : Prop where
  vol : Cs W K.r 88 #[.slice (some ⟨K.bo, 0, none⟩) K.n0 K.co, .slice (some ⟨K.bf, 0, none⟩) K.n1 K.cf, .slice (some ⟨K.bm, 0, none⟩) K.n2 K.cm, .slice A R.x.sl.length c, .int .i64 R.x.clk, .slice B R.x.ms.length d, .int .i64 (K.chunk : Int), .int .i64 K.mode, .bool clo]
  ro : W.ownsRow 0 26 1 (.slice (some ⟨K.bo, 0, none⟩) K.n0 K.co) K.n0 (uv R.o)
  rf : W.ownsRow 0 26 1 (.slice (some ⟨K.bf, 0, none⟩) K.n1 K.cf) K.n1 (uv R.f)
  rm : W.ownsRow 0 26 1 (.slice (some ⟨K.bm, 0, none⟩) K.n2 K.cm) K.n2 (uv R.m)
  lo : R.o.length = K.n0
  lf : R.f.length = K.n1
  lm : R.m.length = K.n2
  row : W.ownsRow 0 31 4 (.slice A R.x.sl.length c) R.x.sl.length (scs R.x.sl)
  mis : Reads W B (Go.Proofs.YtogchafnnkajfaaGreat.iv R.x.ms)
  misO : ∀ p, B = some p → R.x.ms ≠ [] → p.block ≠ K.r ∧ p.block ≠ K.bo ∧ p.block ≠ K.bf ∧ p.block ≠ K.bm ∧ F p.block ∧ (∀ b, (Value.slice A R.x.sl.length c).ownBlock = some b → p.block ≠ b) ∧ p.block < W.heap.size
  rowO : ∀ b, (Value.slice A R.x.sl.length c).ownBlock = some b → F b
  ne : K.bo ≠ K.bf ∧ K.bo ≠ K.bm ∧ K.bf ≠ K.bm
  inF : F K.r ∧ F K.bo ∧ F K.bf ∧ F K.bm
def RvAt (W : World) (F : Nat → Prop) (K : RC) (clo : Bool) (R : RV) : Prop := ∃ A c B d, RvIn W F K clo R A c B d

section
variable {W W' : World} {F G : Nat → Prop} {K : RC} {clo : Bool} {R : RV} {A B : Option Addr} {c d : Nat}
theorem RvIn.fr (h : RvIn W F K clo R A c B d) (hf : Fr G W W') (hn : ∀ j, F j → ¬ G j) : RvIn W' F K clo R A c B d :=
  ⟨h.vol.fr hf (hn _ h.inF.1), own_fr h.ro hf (fun b hb => by simp [Value.ownBlock] at hb; rw [← hb]; exact hn _ h.inF.2.1), own_fr h.rf hf (fun b hb => by simp [Value.ownBlock] at hb; rw [← hb]; exact hn _ h.inF.2.2.1), own_fr h.rm hf (fun b hb => by simp [Value.ownBlock] at hb; rw [← hb]; exact hn _ h.inF.2.2.2), h.lo, h.lf, h.lm,
    own_fr h.row hf (fun b hb => hn _ (h.rowO b hb)), h.mis.fr hf (fun h0 p hp => hn _ (h.misO p hp (ms_ne h0)).2.2.2.2.1),
    fun p hp hm => ⟨(h.misO p hp hm).1, (h.misO p hp hm).2.1, (h.misO p hp hm).2.2.1, (h.misO p hp hm).2.2.2.1, (h.misO p hp hm).2.2.2.2.1, (h.misO p hp hm).2.2.2.2.2.1, Nat.lt_of_lt_of_le (h.misO p hp hm).2.2.2.2.2.2 hf.size⟩, h.rowO, h.ne, h.inF⟩
theorem RvAt.fr (h : RvAt W F K clo R) (hf : Fr G W W') (hn : ∀ j, F j → ¬ G j) : RvAt W' F K clo R := by
  obtain ⟨A, c, B, d, h⟩ := h
  exact ⟨A, c, B, d, h.fr hf hn⟩
theorem RvIn.keep (h : RvIn W F K clo R A c B d) (hb : Below W.heap.size W W') : RvIn W' F K clo R A c B d := h.fr (G := fun _ => False) (Fr.of_below hb) (fun _ _ h => h)
theorem RvAt.keep (h : RvAt W F K clo R) (hb : Below W.heap.size W W') : RvAt W' F K clo R := h.fr (G := fun _ => False) (Fr.of_below hb) (fun _ _ h => h)
theorem RvIn.tight (h : RvIn W F K clo R A c B d) : RvIn W (fun j => F j ∧ j < W.heap.size) K clo R A c B d :=
  ⟨h.vol, h.ro, h.rf, h.rm, h.lo, h.lf, h.lm, h.row, h.mis, fun p hp hm => ⟨(h.misO p hp hm).1, (h.misO p hp hm).2.1, (h.misO p hp hm).2.2.1, (h.misO p hp hm).2.2.2.1, ⟨(h.misO p hp hm).2.2.2.2.1, (h.misO p hp hm).2.2.2.2.2.2⟩, (h.misO p hp hm).2.2.2.2.2⟩, fun b hb => ⟨h.rowO b hb, own_lt h.row b hb⟩, h.ne, ⟨h.inF.1, h.vol.lt⟩, ⟨h.inF.2.1, own_lt h.ro _ rfl⟩, ⟨h.inF.2.2.1, own_lt h.rf _ rfl⟩, ⟨h.inF.2.2.2, own_lt h.rm _ rfl⟩⟩
theorem RvIn.rne (h : RvIn W F K clo R A c B d) : K.bo ≠ K.r ∧ K.bf ≠ K.r ∧ K.bm ≠ K.r ∧ ∀ b, (Value.slice A R.x.sl.length c).ownBlock = some b → b ≠ K.r ∧ b ≠ K.bo ∧ b ≠ K.bf ∧ b ≠ K.bm :=
  ⟨fun e => cs_own_ne h.vol h.ro (by decide) _ rfl e, fun e => cs_own_ne h.vol h.rf (by decide) _ rfl e, fun e => cs_own_ne h.vol h.rm (by decide) _ rfl e,
    fun b hb => ⟨cs_own_ne h.vol h.row (by decide) b hb, fun e => own_own_ne h.row h.ro (by decide) b K.bo hb rfl e, fun e => own_own_ne h.row h.rf (by decide) b K.bf hb rfl e, fun e => own_own_ne h.row h.rm (by decide) b K.bm hb rfl e⟩⟩
/-- A word of the cache's words is set. -/
theorem RvIn.setM (h : RvIn W F K clo R A c B d) (i v : Nat) : RvIn (W.setCell ⟨K.bm, i, none⟩ (.int .u64 (v : Int))) F K clo { R with m := R.m.set i v } A c B d := by
  have hf := fr_set W K.bm i (.int .u64 (v : Int))
  obtain ⟨e1, e2, e3, e4⟩ := h.rne
  have hst := (h.rm.stored i (.int .u64 (v : Int))).1
  rw [uv_set] at hst
  exact ⟨h.vol.fr hf (fun e => e3 e.symm), own_fr h.ro hf (fun b hb e => by simp [Value.ownBlock] at hb; exact h.ne.2.1 (hb.trans e)), own_fr h.rf hf (fun b hb e => by simp [Value.ownBlock] at hb; exact h.ne.2.2 (hb.trans e)), hst, h.lo, h.lf, by rw [List.length_set]; exact h.lm, own_fr h.row hf (fun b hb e => (e4 b hb).2.2.2 e), h.mis.fr hf (fun h0 p hp e => (h.misO p hp (ms_ne h0)).2.2.2.1 e), fun p hp hm => ⟨(h.misO p hp hm).1, (h.misO p hp hm).2.1, (h.misO p hp hm).2.2.1, (h.misO p hp hm).2.2.2.1, (h.misO p hp hm).2.2.2.2.1, (h.misO p hp hm).2.2.2.2.2.1, Nat.lt_of_lt_of_le (h.misO p hp hm).2.2.2.2.2.2 hf.size⟩, h.rowO, h.ne, h.inF⟩
theorem RvIn.cells (h : RvIn W F K clo R A c B d) : W.cell? ⟨K.r, 0, none⟩ = some (.slice (some ⟨K.bo, 0, none⟩) K.n0 K.co) ∧ W.cell? ⟨K.r, 1, none⟩ = some (.slice (some ⟨K.bf, 0, none⟩) K.n1 K.cf) ∧ W.cell? ⟨K.r, 2, none⟩ = some (.slice (some ⟨K.bm, 0, none⟩) K.n2 K.cm) ∧ W.cell? ⟨K.r, 3, none⟩ = some (.slice A R.x.sl.length c) ∧ W.cell? ⟨K.r, 4, none⟩ = some (.int .i64 R.x.clk) ∧ W.cell? ⟨K.r, 5, none⟩ = some (.slice B R.x.ms.length d) ∧ W.cell? ⟨K.r, 6, none⟩ = some (.int .i64 (K.chunk : Int)) ∧ W.cell? ⟨K.r, 7, none⟩ = some (.int .i64 K.mode) ∧ W.cell? ⟨K.r, 8, none⟩ = some (.bool clo) :=
  ⟨h.vol.cell 0, h.vol.cell 1, h.vol.cell 2, h.vol.cell 3, h.vol.cell 4, h.vol.cell 5, h.vol.cell 6, h.vol.cell 7, h.vol.cell 8⟩
end

theorem rwhole_any (W : World) (F : Nat → Prop) (K : RC) (clo : Bool) (R : RV) (b : Nat) (h : RvAt W F K clo R) (hb : b ≤ 16777216) (hc : K.chunk ≤ 127) :
    Calls Tryz.prog 82 #[.pointer (some ⟨K.r, 0, none⟩), .int .i64 (b : Int)] W fun e w' => e = .returned (.bool (decide ((b + 1) * K.chunk ≤ K.n0))) ∧ Below W.heap.size W w' := by
  obtain ⟨A, c, B, d, h⟩ := h
  obtain ⟨x0, x1, x2, x3, x4, x5, x6, x7, x8⟩ := h.cells
  have hm : (b + 1) * K.chunk ≤ 16777217 * 127 := Nat.mul_le_mul (by omega) hc
  have e1 : IntKind.i64.wrap ((b : Int) + 1) = ((b + 1 : Nat) : Int) := by rw [IntWalk.i64_in _ (by omega)]; rfl
  obtain ⟨q, hq⟩ : ∃ q, b + 1 = q := ⟨_, rfl⟩
  rw [hq] at hm e1 ⊢
  obtain ⟨p, hp⟩ : ∃ p, q * K.chunk = p := ⟨_, rfl⟩
  have e2 : IntKind.i64.wrap ((q : Int) * (K.chunk : Int)) = (p : Int) := by rw [← Int.natCast_mul, hp, IntWalk.i64_in _ (by omega)]
  rw [hp] at hm ⊢
  clear hq hp
  go_enter Tryz.func82, Tryz.ntmps82
  go_wp2_with fail
  go_region
  go_wp2_with fail
  go_ret
  exact ⟨rfl, below_drewN (Below.refl _ W) _⟩

/-- What a call of the definition's package leaves. -/
def RvP (W : World) (F : Nat → Prop) (K : RC) (clo : Bool) (R : RV) (w : World) : Prop := ∃ F', RvAt w F' K clo R ∧ Turn F F' W w

theorem rput_any (W : World) (F : Nat → Prop) (K : RC) (clo : Bool) (R : RV) (k : Nat) (x : Sl) (h : RvAt W F K clo R) (hx : R.x.sl[k]? = some x) (hn2 : R.x.sl.length + 1 ≤ K.n2) (hl : K.n2 ≤ 65536) :
    Calls Tryz.prog 83 #[.pointer (some ⟨K.r, 0, none⟩), .int .i64 (k : Int)] W fun e w' => e = .returned (.tuple #[]) ∧ RvP W F K clo { R with m := R.m.set (1 + k) x.word } w' := by
  obtain ⟨A, c, B, d, h⟩ := h
  obtain ⟨x0, x1, x2, x3, x4, x5, x6, x7, x8⟩ := h.cells
  have hk := (List.getElem?_eq_some_iff.1 hx).1
  obtain ⟨a, o, rfl, hal, hc⟩ := scs_read (Reads.of_own h.row) (by omega)
  obtain ⟨y0, y1, y2, y3⟩ := hc k x hx
  clear hc
  have H := Lib.hid h
  have hm := h.rm.cellAt (1 + k) (by omega)
  rw [uv_at _ _ (by rw [h.lm]; omega)] at hm
  have fm := h.rm.frozenAt (1 + k)
  have e1 : IntKind.i64.wrap (1 + (k : Int)) = ((1 + k : Nat) : Int) := by rw [IntWalk.i64_in _ (by omega)]; omega
  have e3 : ((1 + k : Nat) : Int) < (K.n2 : Int) := by omega
  have hwd := rword_any x W.drew
  unfold Sl.v at hwd
  change Calls _ _ _ _ (fun e w' => _ ∧ Below W.heap.size W.drew w') at hwd
  have HWD := Lib.hid hwd
  clear hwd
  have HX := Lib.hid hx
  have HMD := Lib.hid hn2
  have hkl : k < R.x.sl.length := hk
  clear hx hn2
  go_enter Tryz.func83, Tryz.ntmps83
  go_wp2_with fail
  go_region_with (go_at_call 14; go_loud (with_reducible refine HWD.out.mono ?_; rintro e w1 ⟨rfl, hb1⟩; have hb2 : Below W.heap.size W w1 := (Below.refl W.heap.size W).drew.trans hb1; have h1 := Lib.hid (H.out.keep hb2); have z2 := h1.out.cells.2.2.1; have z3 := h1.out.cells.2.2.2.1; have zm := h1.out.rm.cellAt (1 + k) (by omega); rw [uv_at _ _ (by rw [h1.out.lm]; omega)] at zm; have zf := h1.out.rm.frozenAt (1 + k)))
  all_goals
    refine bodyPost_end (v := .tuple #[]) (by simp [results, Tryz.f83, go_sem]) rfl ?_
    exact ⟨rfl, F, ⟨_, _, _, _, h1.out.setM (1 + k) x.word⟩, (Fr.of_below hb2).set (.inl h1.out.inF.2.2.2) _, fun j hj => .inl hj⟩

end Go.Proofs.YtogchafnnkajfaaGreat

namespace Go.Proofs.YtogchafnnkajfaaGreat
set_option linter.unusedVariables false
open Go.RowKit
attribute [local go_sem] Oper.semAt_some

def rput3 (W : World) (r : Nat) (A : Option Addr) (n c : Nat) (clk : Int) (B : Option Addr) (m d : Nat) : World := (((W.setCell ⟨r, 3, none⟩ (.slice A n c)).setCell ⟨r, 4, none⟩ (.int .i64 clk)).setCell ⟨r, 5, none⟩ (.slice B m d))
theorem fr_rput3 (W : World) (r : Nat) (A : Option Addr) (n c : Nat) (clk : Int) (B : Option Addr) (m d : Nat) : Fr (fun j => j = r) W (rput3 W r A n c clk B m d) := (((Fr.refl (fun j => j = r) W).set (.inl rfl) _).set (.inl rfl) _).set (.inl rfl) _

/-- A new state is stored. -/
theorem RvIn.setX {W : World} {F : Nat → Prop} {K : RC} {clo : Bool} {R : RV} {A B : Option Addr} {c d k : Nat} (h : RvIn W F K clo R A c B d) (hlt : ∀ j, F j → j < k) {x' : CS} {A' B' : Option Addr} {n' c' m' d' : Nat} (hn : x'.sl.length = n') (hm : x'.ms.length = m')
    (hS : W.ownsRow k 31 4 (.slice A' n' c') n' (scs x'.sl)) (hB : Reads W B' (Go.Proofs.YtogchafnnkajfaaGreat.iv x'.ms)) (hkB : ∀ p, B' = some p → k ≤ p.block ∧ ∀ b, (Value.slice A' n' c').ownBlock = some b → p.block ≠ b) :
    RvIn (rput3 W K.r A' n' c' x'.clk B' m' d') (fun j => F j ∨ k ≤ j) K clo { R with x := x' } A' c' B' d' := by
  subst hn hm
  have hf := fr_rput3 W K.r A' x'.sl.length c' x'.clk B' x'.ms.length d'
  have hrk := hlt _ h.inF.1
  have hok := hlt _ h.inF.2.1
  have hfk := hlt _ h.inF.2.2.1
  have hmk := hlt _ h.inF.2.2.2
  obtain ⟨e1, e2, e3, e4⟩ := h.rne
  refine ⟨?_, own_fr h.ro hf (fun b hb e => by simp [Value.ownBlock] at hb; exact e1 (hb.trans e)), own_fr h.rf hf (fun b hb e => by simp [Value.ownBlock] at hb; exact e2 (hb.trans e)), own_fr h.rm hf (fun b hb e => by simp [Value.ownBlock] at hb; exact e3 (hb.trans e)), h.lo, h.lf, h.lm,
    own_lower (own_fr hS hf (fun b hb e => by have := (hS.lt b hb).1; omega)) (Nat.zero_le _), hB.fr hf (fun _ p hp e => by have := (hkB p hp).1; omega), ?_, fun b hb => .inr (hS.lt b hb).1, h.ne, .inl h.inF.1, .inl h.inF.2.1, .inl h.inF.2.2.1, .inl h.inF.2.2.2⟩
  · have h1 : Cs (W.setCell ⟨K.r, 3, none⟩ (.slice A' x'.sl.length c')) K.r 88 #[.slice (some ⟨K.bo, 0, none⟩) K.n0 K.co, .slice (some ⟨K.bf, 0, none⟩) K.n1 K.cf, .slice (some ⟨K.bm, 0, none⟩) K.n2 K.cm, .slice A' x'.sl.length c', .int .i64 R.x.clk, .slice B R.x.ms.length d, .int .i64 (K.chunk : Int), .int .i64 K.mode, .bool clo] := Cs.put (l := [_, _, _, _, _, _, _, _, _]) h.vol _
    have h2 : Cs ((W.setCell ⟨K.r, 3, none⟩ (.slice A' x'.sl.length c')).setCell ⟨K.r, 4, none⟩ (.int .i64 x'.clk)) K.r 88 #[.slice (some ⟨K.bo, 0, none⟩) K.n0 K.co, .slice (some ⟨K.bf, 0, none⟩) K.n1 K.cf, .slice (some ⟨K.bm, 0, none⟩) K.n2 K.cm, .slice A' x'.sl.length c', .int .i64 x'.clk, .slice B R.x.ms.length d, .int .i64 (K.chunk : Int), .int .i64 K.mode, .bool clo] := Cs.put (l := [_, _, _, _, _, _, _, _, _]) h1 _
    exact Cs.put (l := [_, _, _, _, _, _, _, _, _]) h2 _
  · intro p hp hm
    obtain ⟨q1, q2⟩ := hkB p hp
    have hm' : (Go.Proofs.YtogchafnnkajfaaGreat.iv x'.ms).length ≠ 0 := fun e => hm (by
      unfold Go.Proofs.YtogchafnnkajfaaGreat.iv at e
      simpa using e)
    obtain ⟨b, o, e, hlt', -⟩ := hB hm'
    rw [hp] at e
    injection e with e
    subst e
    exact ⟨by omega, by omega, by omega, by omega, .inr q1, q2, Nat.lt_of_lt_of_le hlt' hf.size⟩
/-- A state comes back from a call and is stored. -/
theorem RvIn.fin {W W1 : World} {F : Nat → Prop} {K : RC} {clo : Bool} {R : RV} {A B : Option Addr} {c d : Nat} (h : RvIn W F K clo R A c B d) (hlt : ∀ j, F j → j < W.heap.size) (hb : Below W.heap.size W W1) {x' : CS} {A' B' : Option Addr} {n' c' m' d' : Nat} (hn : x'.sl.length = n') (hm : x'.ms.length = m')
    (hS : W1.ownsRow W.heap.size 31 4 (.slice A' n' c') n' (scs x'.sl)) (hB : Reads W1 B' (Go.Proofs.YtogchafnnkajfaaGreat.iv x'.ms)) (hkB : ∀ p, B' = some p → W.heap.size ≤ p.block ∧ ∀ b, (Value.slice A' n' c').ownBlock = some b → p.block ≠ b) :
    RvAt (rput3 W1 K.r A' n' c' x'.clk B' m' d') (fun j => F j ∨ W.heap.size ≤ j) K clo { R with x := x' } ∧ Turn F (fun j => F j ∨ W.heap.size ≤ j) W (rput3 W1 K.r A' n' c' x'.clk B' m' d') :=
  ⟨⟨_, _, _, _, (h.keep hb).setX hlt hn hm hS hB hkB⟩, (((Fr.of_below hb).set (.inl h.inF.1) _).set (.inl h.inF.1) _).set (.inl h.inF.1) _, fun j hj => hj⟩
theorem RvP.of {W W1 : World} {F F' : Nat → Prop} {K : RC} {clo : Bool} {R : RV} (h : RvAt W1 F' K clo R) (ht : Turn (fun j => F j ∧ j < W.heap.size) F' W W1) : RvP W F K clo R W1 :=
  ⟨F', h, ht.1.mono (fun j _ hj => hj.1), fun j hj => (ht.2 j hj).elim (fun e => .inl e.1) .inr⟩
theorem RvP.trans {W W1 W2 : World} {F F' : Nat → Prop} {K : RC} {clo : Bool} {R : RV} (ht : Turn F F' W W1) (h : RvP W1 F' K clo R W2) : RvP W F K clo R W2 := by
  obtain ⟨F2, h2, ht2⟩ := h
  exact ⟨F2, h2, ht.trans ht2⟩

end Go.Proofs.YtogchafnnkajfaaGreat

namespace Go.Proofs.YtogchafnnkajfaaGreat
set_option linter.unusedVariables false
open Go.RowKit Go.Shelf
attribute [local go_sem] Oper.semAt_some

theorem wp_copy_run {P : Program} (w : World) {o : Oper} {a : Act} {K : Act → World → Prop} {Q : Exit → Act → World → Prop} (s x : Operand) (t tn : TypeId)
    (ho : o.op = .call { callee := .builtin .copy, args := #[s, x], argTypes := #[t, tn] }) (vs vx : Value) (hs : a.eval s = vs) (hx : a.eval x = vx)
    (v' : Value) (w' : World) (hr : (Builtin.copy_ #[t, tn] o.type #[vs, vx]).run P w = .ok v' w') (h : K (a.put o.dst v') w') : o.wp P a w K Q := by
  unfold Oper.wp execOp
  simp only [ho, resolve, invoke, builtin, Sem.run_bind, Sem.run_pure, Result.andThen_ok, List.map_toArray, List.map_cons, List.map_nil, hs, hx, hr]
  exact h
theorem wpList_copy_run {P : Program} (w : World) {ops : Array Oper} {rest : List Oper} {o : Oper} {a : Act} {Q : Exit → Act → World → Prop} (hgd : o.guard = none) (s x : Operand) (t tn : TypeId)
    (ho : o.op = .call { callee := .builtin .copy, args := #[s, x], argTypes := #[t, tn] }) (vs vx : Value) (hs : a.eval s = vs) (hx : a.eval x = vx)
    (v' : Value) (w' : World) (hr : (Builtin.copy_ #[t, tn] o.type #[vs, vx]).run P w = .ok v' w') (h : wpList P ops Q rest (a.put o.dst v') w') : wpList P ops Q (o :: rest) a w :=
  wpList_plain hgd fun _ hK => wp_copy_run w s x t tn ho vs vx hs hx v' w' hr (hK _ _ h)

theorem splice_at {α : Type} (L : List α) (o : Nat) (X : List α) (h : o + X.length ≤ L.length) (j : Nat) : (splice L o X)[j]? = if j < o then L[j]? else if j < o + X.length then X[j - o]? else L[j]? := by
  unfold splice
  have h1 : (L.take o).length = o := by rw [List.length_take]; omega
  rw [List.getElem?_append, h1]
  split
  · rename_i hj
    rw [List.getElem?_take, if_pos hj]
  · rw [List.getElem?_append]
    split
    · rename_i hj
      rw [if_pos (by omega)]
    · rename_i hj
      rw [if_neg (by omega), List.getElem?_drop]
      congr 1
      omega

/-- Words go from one row to another. -/
theorem copy_own {W : World} {base base' g s n m cap cap' : Nat} {L M : List Nat} (h : W.ownsRow base 26 1 (.slice (some ⟨g, 0, none⟩) n cap) n (uv L)) (hL : L.length = n) (h' : W.ownsRow base' 26 1 (.slice (some ⟨s, 0, none⟩) m cap') m (uv M)) (hM : M.length = m) (off so c : Nat) (h1 : off + c ≤ n) (h2 : so + c ≤ m) :
    ∃ W', (∀ (ty : TypeId) (dc sl sc : Nat), c ≤ sl → (Builtin.copy_ #[29, 29] ty #[.slice (some ⟨g, off, none⟩) c dc, .slice (some ⟨s, so, none⟩) sl sc]).run Tryz.prog W = .ok (.int .i64 (c : Int)) W') ∧ W'.ownsRow base 26 1 (.slice (some ⟨g, 0, none⟩) n cap) n (uv (cpL L off M so c)) ∧ Fr (· = g) W W' := by
  obtain ⟨i0, hi0, hz0, hz1, hz2⟩ := info_parts u64_info
  have hxl := h.1
  rcases h.2 with ⟨e, -⟩ | ⟨g', cap1, cur, e, hb, hh, hn, hcm, hcs, ht⟩
  · cases e
  · injection e with e1 e2 e3
    injection e1 with e1
    injection e1 with e1
    subst e1
    subst e3
    have hcl : cur.toList.length = cap := by rw [Array.length_toList, hcs, Nat.mul_one]
    rw [Nat.mul_one] at ht hxl
    have hX : (uv ((M.drop so).take c)).length = c := by rw [uv_length, List.length_take, List.length_drop]; omega
    have hg : Cs W g 26 cur.toList.toArray := by show _ = _; rw [Array.toArray_toList]; exact hh
    have hfit : off + (uv ((M.drop so).take c)).length ≤ cur.toList.length := by rw [hX, hcl]; omega
    have hat : ∀ j : Nat, (uv (cpL L off M so c))[j]? = (((splice cur.toList off (uv ((M.drop so).take c))).take n))[j]? := by
      intro j
      rw [List.getElem?_take]
      have e0 : (uv (cpL L off M so c))[j]? = ((cpL L off M so c)[j]?).map (fun x : Nat => Value.int .u64 (x : Int)) := by unfold uv; rw [List.getElem?_map]
      have e1 : ∀ j : Nat, j < n → cur.toList[j]? = (L[j]?).map (fun x : Nat => Value.int .u64 (x : Int)) := by
        intro j hj
        have : (cur.toList.take n)[j]? = (uv L)[j]? := by rw [ht]
        rw [List.getElem?_take, if_pos hj] at this
        rw [this]
        unfold uv
        rw [List.getElem?_map]
      rw [e0, cpL_at, splice_at _ _ _ hfit, hX, hL]
      by_cases hj : j < n
      · rw [if_pos hj]
        by_cases hjo : j < off
        · rw [if_neg (by omega), if_pos hjo, e1 j hj]
        · rw [if_neg hjo]
          by_cases hjc : j < off + c
          · rw [if_pos ⟨by omega, hjc, hj⟩, if_pos hjc]
            unfold uv
            rw [List.getElem?_map, List.getElem?_take, if_pos (by omega), List.getElem?_drop, List.getElem?_eq_getElem (by omega)]
            rfl
          · rw [if_neg (by omega), if_neg hjc, e1 j hj]
      · rw [if_neg hj, if_neg (by omega), List.getElem?_eq_none (by omega)]
        rfl
    refine ⟨W.setRow g (splice cur.toList off (uv ((M.drop so).take c))).toArray, ?_, ?_, Fr.row (Fr.refl _ W)⟩
    · intro ty dc sl sc hsl
      have hr := run_copyS (P := Tryz.prog) W 29 29 ty 26 1 g off c dc ⟨s, so, none⟩ sl sc cur.toList 26 (uv ((M.drop so).take c)) Tryz.underlying29 (by rw [hi0, Option.map_some, hz1]) hg (by rw [hX, Nat.mul_one]; exact (Nat.min_eq_right hsl).symm) (fun j v hj => by
        have hlt := (List.getElem?_eq_some_iff.1 hj).1
        rw [hX] at hlt
        rw [Addr.add_lit, h'.cellAt (so + j) (by omega)]
        unfold uv at hj ⊢
        rw [List.getElem?_map, List.getElem?_take, if_pos hlt, List.getElem?_drop] at hj
        rw [List.getElem?_map]
        exact hj) hfit (uv_one _)
      rw [show Nat.min sl c = c from Nat.min_eq_right hsl] at hr
      exact hr
    · refine own_make (setRow_heap W g _ _ 26 _ hh) hb hn hcm (by rw [length_splice _ _ _ hfit, hcl, Nat.mul_one]) ?_ (by rw [uv_length, cpL_length, hL, Nat.mul_one])
      rw [Nat.mul_one]
      exact List.ext_getElem? (fun j => (hat j).symm)

section
variable {W W' : World} {F : Nat → Prop} {K : RC} {clo : Bool} {R : RV} {A B : Option Addr} {c d : Nat}
theorem RvIn.newO (h : RvIn W F K clo R A c B d) (hf : Fr (· = K.bo) W W') {o' : List Nat} (hst : W'.ownsRow 0 26 1 (.slice (some ⟨K.bo, 0, none⟩) K.n0 K.co) K.n0 (uv o')) (hl : o'.length = K.n0) : RvIn W' F K clo { R with o := o' } A c B d := by
  obtain ⟨e1, e2, e3, e4⟩ := h.rne
  exact ⟨h.vol.fr hf (fun e => e1 e.symm), hst, own_fr h.rf hf (fun b hb e => by simp [Value.ownBlock] at hb; exact h.ne.1 (hb.trans e).symm), own_fr h.rm hf (fun b hb e => by simp [Value.ownBlock] at hb; exact h.ne.2.1 (hb.trans e).symm), hl, h.lf, h.lm, own_fr h.row hf (fun b hb e => (e4 b hb).2.1 e), h.mis.fr hf (fun h0 p hp e => (h.misO p hp (ms_ne h0)).2.1 e), fun p hp hm => ⟨(h.misO p hp hm).1, (h.misO p hp hm).2.1, (h.misO p hp hm).2.2.1, (h.misO p hp hm).2.2.2.1, (h.misO p hp hm).2.2.2.2.1, (h.misO p hp hm).2.2.2.2.2.1, Nat.lt_of_lt_of_le (h.misO p hp hm).2.2.2.2.2.2 hf.size⟩, h.rowO, h.ne, h.inF⟩
end

theorem cap_of {W : World} {base g n cap : Nat} {e : TypeId} {xs : List Value} (h : W.ownsRow base e 1 (.slice (some ⟨g, 0, none⟩) n cap) n xs) : n ≤ cap := by
  rcases h.2 with ⟨e, -⟩ | ⟨g', cap1, cur, e, hb, hh, hn, -⟩
  · cases e
  · injection e with e1 e2 e3
    omega

set_option maxRecDepth 100000 in
set_option maxHeartbeats 2000000 in
theorem rback_any (W : World) (F : Nat → Prop) (K : RC) (clo : Bool) (R : RV) (k : Nat) (x : Sl) (cl : Bool) (h : RvAt W F K clo R) (hok : R.x.Ok) (hx : R.x.sl[k]? = some x) (hv : x.valid = true) (hn2 : R.x.sl.length + 1 ≤ K.n2) (hl : K.n2 ≤ 65536) (hb0 : 0 ≤ x.block) (hwh : (x.block.toNat + 1) * K.chunk ≤ K.n0) (hf : (k + 1) * K.chunk ≤ K.n1) (hc : 1 ≤ K.chunk) (hn0 : K.n0 ≤ 65536) (hn1 : K.n1 ≤ 65536) :
    Calls Tryz.prog 84 #[.pointer (some ⟨K.r, 0, none⟩), .int .i64 (k : Int), .bool cl] W fun e w' => e = .returned (.tuple #[]) ∧ RvP W F K clo (R.back K.chunk k cl) w' := by
  obtain ⟨A, c, B, d, h⟩ := h
  have h := h.tight
  obtain ⟨x0, x1, x2, x3, x4, x5, x6, x7, x8⟩ := h.cells
  have hk := (List.getElem?_eq_some_iff.1 hx).1
  obtain ⟨a, o, rfl, hal, hcc⟩ := scs_read (Reads.of_own h.row) (by omega)
  obtain ⟨-, -, y2, -⟩ := hcc k x hx
  clear hcc
  obtain ⟨b, hb⟩ : ∃ b : Nat, x.block = (b : Int) := ⟨x.block.toNat, by omega⟩
  rw [hb] at y2
  rw [show x.block.toNat = b by omega] at hwh
  rw [Nat.add_mul, Nat.one_mul] at hwh hf
  obtain ⟨p, hp⟩ : ∃ p, b * K.chunk = p := ⟨_, rfl⟩
  obtain ⟨q, hq⟩ : ∃ q, k * K.chunk = q := ⟨_, rfl⟩
  rw [hp] at hwh
  rw [hq] at hf
  have hbn : b ≤ 65536 := by
    have := Nat.le_mul_of_pos_right b (show 0 < K.chunk by omega)
    omega
  have e1 : IntKind.i64.wrap ((b : Int) * (K.chunk : Int)) = (p : Int) := by rw [← Int.natCast_mul, hp, IntWalk.i64_in _ (by omega)]
  have e2 : IntKind.i64.wrap ((b : Int) + 1) = ((b + 1 : Nat) : Int) := by rw [IntWalk.i64_in _ (by omega)]; rfl
  obtain ⟨b1, hb1⟩ : ∃ b1, b + 1 = b1 := ⟨_, rfl⟩
  obtain ⟨pc, hpc⟩ : ∃ pc, p + K.chunk = pc := ⟨_, rfl⟩
  rw [hb1] at e2
  have e3 : IntKind.i64.wrap ((b1 : Int) * (K.chunk : Int)) = (pc : Int) := by rw [← Int.natCast_mul, ← hb1, Nat.add_mul, Nat.one_mul, hp, hpc, IntWalk.i64_in _ (by omega)]
  have e4 : IntKind.i64.wrap ((k : Int) * (K.chunk : Int)) = (q : Int) := by rw [← Int.natCast_mul, hq, IntWalk.i64_in _ (by omega)]
  have c0 := cap_of h.ro
  have c1 := cap_of h.rf
  have t1 : (p : Int) ≤ (pc : Int) := by omega
  have t2 : (pc : Int) ≤ (K.co : Int) := by omega
  have t3 : (q : Int) ≤ (K.n1 : Int) := by omega
  have t4 : (K.n1 : Int) ≤ (K.cf : Int) := by omega
  have t1' : p ≤ pc := by omega
  have t2' : pc ≤ K.co := by omega
  have t3' : q ≤ K.n1 := by omega
  have e5 : pc - p = K.chunk := by omega
  have t5 : ¬ K.co = p := by omega
  have t6 : ¬ K.cf = q := by omega
  obtain ⟨W1, hrun, hown, hfr⟩ := copy_own (W := W.drew) h.ro h.lo h.rf h.lf p q K.chunk hwh hf
  have HRUN := Lib.hid hrun
  have H1 := Lib.hid (RvIn.newO h ((Fr.refl (· = K.bo) W).drew.trans hfr) hown (by rw [cpL_length]; exact h.lo))
  have HT1 : Hid (Turn (fun j => F j ∧ j < W.heap.size) (fun j => F j ∧ j < W.heap.size) W W1) := ⟨((Fr.refl (· = K.bo) W).drew.trans hfr).mono (fun j _ e => e ▸ h.inF.2.1), fun j hj => .inl hj⟩
  clear hrun hown hfr
  have HPC := Lib.hid hpc
  have H := Lib.hid h
  have HX := Lib.hid hx
  have HN := Lib.hid hn2
  have HOK := Lib.hid hok
  have HP := Lib.hid hp
  have HQ := Lib.hid hq
  clear h hx hn2 hok hp hq hb1 hpc
  go_enter Tryz.func84, Tryz.ntmps84
  go_wp2_with fail
  go_still_tail 29, (by kernel_rfl)
  change wpList _ _ _ _ _ W.drew
  refine wpList_copy_run _ rfl (.tmp 33) (.tmp 44) _ _ rfl (.slice (some ⟨K.bo, p, none⟩) K.chunk (K.co - p)) (.slice (some ⟨K.bf, q, none⟩) (K.n1 - q) (K.cf - q)) (by simp [Act.eval]) (by simp [Act.eval]) _ _ (HRUN.out _ _ _ _ (by omega)) ?_
  obtain ⟨x0, x1, x2, x3, x4, x5, x6, x7, x8⟩ := H1.out.cells
  have hcl := rsetd_any W1 _ B R.x.sl.length c R.x.ms.length d R.x HOK.out rfl rfl (Reads.of_own H1.out.row) H1.out.mis k x HX.out hv false
  unfold csV at hcl
  have HCL := Lib.hid hcl
  clear hcl HRUN e1 e2 e3 e4 e5 t1 t2 t3 t4 t5 t6 t1' t2' t3' c0 c1
  go_wp2_with fail
  refine HCL.out.mono ?_
  rintro e w1 ⟨⟨v, rfl, A', n', c', m', B', d', rfl, hn, hm, hS, hM⟩, hb1⟩
  unfold csV
  have h1 := H1.out.tight
  have h1' := h1.keep hb1
  obtain ⟨z0, z1, z2, z3, z4, z5, z6, z7, z8⟩ := h1'.cells
  have f3 := h1'.vol.free 3
  have f4 := h1'.vol.free 4
  have f5 := h1'.vol.free 5
  have hfin := h1.fin (d' := d') (fun j hj => hj.2) hb1 hn hm hS (own_reads hM) (fun p hp => by subst hp; exact ⟨(hM.lt p.block rfl).1, fun b hb e => own_own_ne hS hM (by decide) b p.block hb rfl e.symm⟩)
  have HFIN := Lib.hid hfin
  clear h1 h1' hfin hS hM x0 x1 x2 x3 x4 x5 x6 x7 x8
  have hxs : (R.x.setD k false).sl[k]? = some { x with dirty := false } := by
    show (R.x.sl.set k { R.x.at_ k with dirty := false })[k]? = _
    rw [CS.at_eq HX.out, List.getElem?_set_self hk]
  have hsz : (R.x.setD k false).sl.length = R.x.sl.length := by show (List.set _ _ _).length = _; rw [List.length_set]
  have hRB : R.back K.chunk k cl = ⟨cpL R.o p R.f q K.chunk, R.f, if cl = true then R.m.set (1 + k) { x with dirty := false }.word else R.m, R.x.setD k false⟩ := by
    unfold RV.back
    rw [CS.at_eq HX.out, CS.at_eq hxs, hb, Int.toNat_natCast, HP.out, HQ.out]
  have HRB := Lib.hid hRB
  have HXS := Lib.hid hxs
  clear hRB hxs
  cases cl
  · go_wp2_with fail
    refine bodyPost_end (v := .tuple #[]) (by simp [results, Tryz.f84, go_sem]) rfl ?_
    rw [HRB.out]
    obtain ⟨F', q1, q2⟩ := RvP.trans HT1.out (RvP.of HFIN.out.1 HFIN.out.2)
    exact ⟨rfl, RvP.of q1 q2⟩
  · go_wp2_with fail
    change Calls _ _ _ (rput3 w1 K.r A' n' c' (R.x.setD k false).clk B' m' d') _
    refine (rput_any _ _ K clo _ k { x with dirty := false } HFIN.out.1 HXS.out (by show (R.x.setD k false).sl.length + 1 ≤ K.n2; rw [hsz]; exact HN.out) hl).mono ?_
    rintro e w2 ⟨rfl, hp⟩
    go_wp2_with fail
    refine bodyPost_end (v := .tuple #[]) (by simp [results, Tryz.f84, go_sem]) rfl ?_
    rw [HRB.out]
    obtain ⟨F1, p1, p2⟩ := RvP.trans HFIN.out.2 hp
    obtain ⟨F', q1, q2⟩ := RvP.trans HT1.out (RvP.of p1 p2)
    exact ⟨rfl, RvP.of q1 q2⟩

end Go.Proofs.YtogchafnnkajfaaGreat
