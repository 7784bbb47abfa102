/-
  What is known of sectors: Tracked.
-/
import Derived.Test.YtpcjdmbnlhjlaaaTrkC
import Derived.Deep.RegionHeldLaw
namespace Go.Proofs.Ytpcjdmbnlhjlaaa
set_option linter.unusedVariables false
open Go.RowKit
attribute [local go_sem] Oper.semAt_some

theorem sector_info : (Try.prog.info? 121).map (fun i => (i.zero, i.size, i.bytes)) = some (some (.agg #[.slice none 0 0, .bool false, .int .u64 0]), 3, 40) := by kernel_rfl
theorem tcells_one (l : List TS) : ∀ u ∈ tcells l, u.oneCell' = true := by
  intro u hu
  simp only [tcells, List.mem_flatMap, TS.cells, List.mem_cons, List.not_mem_nil, or_false] at hu
  obtain ⟨y, _, h | h | h⟩ := hu <;> (rw [h]; rfl)

theorem own_one2 (W : World) (v base : Nat) (hb : base ≤ W.heap.size) : (W.alloc (.cells #[.int .u64 (v : Int)] 32)).ownsRow base 32 1 (.slice (some ⟨W.heap.size, 0, none⟩) 1 1) 1 (uv [v]) :=
  ⟨by rfl, .inr ⟨W.heap.size, 1, #[.int .u64 (v : Int)], rfl, hb, heap_alloc_new W _, Nat.le_refl _, by simp only [maxLen]; omega, by rfl, by rfl⟩⟩
set_option maxRecDepth 100000 in
set_option maxHeartbeats 4000000 in
theorem tracked_any (W : World) (A : Option Addr) (n c : Nat) (l : List Nat) (hA : Reads W A (uv l)) (hl : l.length = n) (hn1 : 1 ≤ n) (hn : n ≤ 100000) (hw : W64 l) :
    Calls Try.prog 44 #[.slice A n c] W fun e w' => ∃ tb, e = .returned (.pointer (some ⟨tb, 0, none⟩)) ∧ TrAt w' (fun j => W.heap.size ≤ j) tb (l.map Sec.start) ∧ Below W.heap.size W w' := by
  have HA := Lib.hid hA
  have HL := Lib.hid hl
  have HW := Lib.hid hw
  obtain ⟨b0, off, rfl, hb0, hc0⟩ := hA (by rw [uv_length, hl]; omega)
  have HC := Lib.hid hc0
  obtain ⟨is, his, hs0, hs1, hs2⟩ := info_parts sector_info
  clear hA hl hw hc0
  go_enter Try.func44, Try.ntmps44
  go_wp2_with fail
  have hbA : Below W.heap.size W (W.alloc (.cells #[Value.slice none 0 0] 119)) := (Below.refl _ W).alloc (Nat.le_refl _) _
  have hcA := Cs.new W 119 #[Value.slice none 0 0]
  go_loopw [4] (fun s wx => ∃ (k : Nat) (ys : List TS) (v : Value), s = .int .i64 k ∧ k ≤ n ∧ ys.map TS.x = (l.take k).map Sec.start ∧ Cs wx W.heap.size 119 #[v] ∧ wx.ownsRow W.heap.size 121 3 v k (tcells ys) ∧ (∀ y ∈ ys, wx.ownsRow W.heap.size 32 1 y.v y.x.sm.length (uv y.x.sm)) ∧ Below W.heap.size W wx) (fun s _ => n - (intOf s).toNat)
  case atStart => exact ⟨0, [], _, rfl, Nat.zero_le _, rfl, hcA, World.ownsRow_nil _ _ _ _, by simp, hbA⟩
  case round =>
    rename World => wx
    clear hcA hbA
    obtain ⟨k, ys, v, rfl, hk, hys, hcs, hown, hrd, hb⟩ := hrel
    obtain ⟨A1, c1, rfl⟩ := own_form hown
    have c4 := hcs.cell 0
    have f4 := hcs.free 0
    change wx.cell? ⟨W.heap.size, 0, none⟩ = some (.slice A1 k c1) at c4
    have HYS := Lib.hid hys
    have HCS := Lib.hid hcs
    have HO := Lib.hid hown
    have HRD := Lib.hid hrd
    have HB := Lib.hid hb
    have hyl : ys.length = k := by
      have := congrArg List.length hys
      rw [List.length_map, List.length_map, List.length_take, HL.out] at this
      omega
    have htl : (tcells ys).length = k * 3 := by rw [tcells_length, hyl]
    have HTL := Lib.hid htl
    clear hys hcs hown hrd hb hyl htl
    by_cases hlt : k < n
    · have t1 : (k : Int) < (n : Int) := by omega
      have e1 : IntKind.i64.wrap ((k : Int) + 1) = ((k + 1 : Nat) : Int) := IntWalk.i64_in _ (by omega)
      obtain ⟨z, hz⟩ : ∃ z, l[k]? = some z := ⟨_, List.getElem?_eq_getElem (by rw [HL.out]; exact hlt)⟩
      have k0 : wx.cell? ⟨b0, off + k, none⟩ = some (.int .u64 (z : Int)) := (HB.out.cell (p := ⟨b0, off + k, none⟩) hb0).trans (HC.out k _ (by simp [uv, hz]))
      have HZ := Lib.hid hz
      have hsz : W.heap.size < wx.heap.size := HCS.out.lt
      clear hz
      have hb0w : b0 < wx.heap.size := Nat.lt_of_lt_of_le hb0 HB.out.size
      have m0 := (World.cell?_alloc_lt wx (.cells #[.int .u64 (z : Int)] 32) ⟨b0, off + k, none⟩ hb0w).trans k0
      have m1 := (World.cell?_alloc_lt wx (.cells #[.int .u64 (z : Int)] 32) ⟨W.heap.size, 0, none⟩ hsz).trans c4
      have m2 := (World.cell?_alloc_lt (wx.alloc (.cells #[.int .u64 (z : Int)] 32)) (.cells #[.slice (some ⟨wx.heap.size, 0, none⟩) 1 1, .bool true, .int .u64 (z : Int)] 121) ⟨W.heap.size, 0, none⟩ (by simp; omega)).trans m1
      go_upto_region 5 with (fail)
      have hOW : Hid (((wx.alloc (.cells #[.int .u64 (z : Int)] 32)).alloc (.cells #[.slice (some ⟨wx.heap.size, 0, none⟩) 1 1, .bool true, .int .u64 (z : Int)] 121)).drew.ownsRow W.heap.size 121 3 (.slice A1 k c1) k (tcells ys)) := World.ownsRow.drew (World.ownsRow.alloc (World.ownsRow.alloc HO.out _) _)
      have hsz1 : (wx.alloc (.cells #[.int .u64 (z : Int)] 32)).heap.size = wx.heap.size + 1 := by simp
      have HR2 : Hid (Reads (((wx.alloc (.cells #[.int .u64 (z : Int)] 32)).alloc (.cells #[.slice (some ⟨wx.heap.size, 0, none⟩) 1 1, .bool true, .int .u64 (z : Int)] 121)).drew) (some ⟨wx.heap.size + 1, 0, none⟩) [.slice (some ⟨wx.heap.size, 0, none⟩) 1 1, .bool true, .int .u64 (z : Int)]) := by
        have := (Reads.new (wx.alloc (.cells #[.int .u64 (z : Int)] 32)) #[.slice (some ⟨wx.heap.size, 0, none⟩) 1 1, .bool true, .int .u64 (z : Int)] 121).keep (Below.refl _ _).drew
        rw [hsz1] at this
        exact this
      clear hsz1
      have HB3 : Hid (Below W.heap.size W (((wx.alloc (.cells #[.int .u64 (z : Int)] 32)).alloc (.cells #[.slice (some ⟨wx.heap.size, 0, none⟩) 1 1, .bool true, .int .u64 (z : Int)] 121)).drew)) := ((HB.out.alloc (by omega) _).alloc (by simp; omega) _).drew
      have HC3 : Hid (Cs (((wx.alloc (.cells #[.int .u64 (z : Int)] 32)).alloc (.cells #[.slice (some ⟨wx.heap.size, 0, none⟩) 1 1, .bool true, .int .u64 (z : Int)] 121)).drew) W.heap.size 119 #[.slice A1 k c1]) := (HCS.out.alloc _).alloc _
      have HNE := Lib.hid (cs_own_ne HCS.out HO.out (by decide))
      go_region_law ((refine step_append_reads (((wx.alloc (.cells #[.int .u64 (z : Int)] 32)).alloc (.cells #[.slice (some ⟨wx.heap.size, 0, none⟩) 1 1, .bool true, .int .u64 (z : Int)] 121)).drew) (by rfl) (.tmp 17) (.tmp 28) _ (by rfl) W.heap.size 121 is _ 3 40 Try.underlying117 his hs0 hs1 hs2 rfl (by omega) (.slice A1 k c1) k (tcells ys) (by rfl) hOW.out (some ⟨wx.heap.size + 1, 0, none⟩) 1 1 [.slice (some ⟨wx.heap.size, 0, none⟩) 1 1, .bool true, .int .u64 (z : Int)] (by rfl) (by rfl) HR2.out (by simp [Value.oneCell']) (by simp only [maxLen]; omega) (by omega) (by simp; omega) ?_; intro v5 w5 hown5 hg5 hat5; obtain ⟨A5, c5, hv5⟩ := own_form hown5; subst hv5; have hc5 := HC3.out.grown hg5 (fun e => HNE.out _ e.symm rfl); have q5 := hc5.cell 0; have f5 := hc5.free 0))
      all_goals
        have HO5 := Lib.hid hown5
        have HC5 := Lib.hid hc5
        have HG5 := Lib.hid hg5
        have HB5 := Lib.hid (HB3.out.trans (((Below.refl W.heap.size (((wx.alloc (.cells #[.int .u64 (z : Int)] 32)).alloc (.cells #[.slice (some ⟨wx.heap.size, 0, none⟩) 1 1, .bool true, .int .u64 (z : Int)] 121)).drew)).grown hg5 (by simp; omega) (own_base HO.out))))
        clear hown5 hg5 hat5 hc5 q5 f5
        go_wp2_with fail
        go_roundw
        case rel =>
          have hpre : ∀ b, (Value.slice A5 (k + 1) c5).ownBlock = some b → b ≠ W.heap.size := cs_own_ne HC5.out HO5.out (by decide)
          have hf := fr_set w5 W.heap.size 0 (.slice A5 (k + 1) c5)
          refine ⟨k + 1, ys ++ [⟨wx.heap.size, 1, Sec.start z⟩], .slice A5 (k + 1) c5, by go_num, by omega, ?_, heap_setCell_same w5 W.heap.size 0 _ _ _ HC5.out, ?_, ?_, HB5.out.trans (hf.below HB5.out.size (fun j hj => by omega))⟩
          · rw [List.map_append, HYS.out, take_snoc' l k z HZ.out, List.map_append]
            rfl
          · rw [tcells_snoc]
            exact own_fr HO5.out hf hpre
          · intro y hy
            rcases List.mem_append.1 hy with hy | hy
            · have h1 := HRD.out y hy
              have h2 : (((wx.alloc (.cells #[.int .u64 (z : Int)] 32)).alloc (.cells #[.slice (some ⟨wx.heap.size, 0, none⟩) 1 1, .bool true, .int .u64 (z : Int)] 121)).drew).ownsRow W.heap.size 32 1 y.v y.x.sm.length (uv y.x.sm) := World.ownsRow.drew (World.ownsRow.alloc (World.ownsRow.alloc h1 _) _)
              have h3 : w5.ownsRow W.heap.size 32 1 y.v y.x.sm.length (uv y.x.sm) := own_fr h2 (fr_grown HG5.out) (fun b hb e => own_own_ne h2 hOW.out (by decide) b b hb e rfl)
              exact own_fr h3 hf (cs_own_ne HC5.out h3 (by decide))
            · rw [List.mem_singleton.1 hy]
              have h1 : (wx.alloc (.cells #[.int .u64 (z : Int)] 32)).ownsRow W.heap.size 32 1 (.slice (some ⟨wx.heap.size, 0, none⟩) 1 1) 1 (uv [z]) := own_one2 wx z W.heap.size (Nat.le_of_lt hsz)
              have h2 : (((wx.alloc (.cells #[.int .u64 (z : Int)] 32)).alloc (.cells #[.slice (some ⟨wx.heap.size, 0, none⟩) 1 1, .bool true, .int .u64 (z : Int)] 121)).drew).ownsRow W.heap.size 32 1 (.slice (some ⟨wx.heap.size, 0, none⟩) 1 1) 1 (uv [z]) := World.ownsRow.drew (World.ownsRow.alloc h1 _)
              have h3 := own_fr h2 (fr_grown HG5.out) (fun b hb e => own_own_ne h2 hOW.out (by decide) b b hb e rfl)
              exact own_fr h3 hf (cs_own_ne HC5.out h3 (by decide))
        case measure => simp [intOf]; omega
    · have hkn : k = n := by omega
      subst hkn
      obtain ⟨bR, cR, hA1, hbR, hbRl⟩ := HO.out.form (by omega)
      injection hA1 with hA1 _ hcR
      subst hA1
      subst hcR
      go_wp2_with fail
      go_ret
      have hyl : ys.length = k := by
        have := congrArg List.length HYS.out
        rw [List.length_map, List.length_map, List.length_take, HL.out] at this
        omega
      have htk : l.take k = l := by rw [← HL.out]; exact List.take_length
      have hys := HYS.out
      rw [htk] at hys
      refine ⟨W.heap.size, rfl, ⟨bR, c1, ys, hys, ⟨by rw [hyl]; exact HCS.out, by rw [hyl]; exact own_lower HO.out (Nat.zero_le _), ?_, Nat.le_refl _, hbR⟩⟩, HB.out⟩
      intro y hy
      have h1 := HRD.out y hy
      obtain ⟨z, hz, e⟩ := List.mem_map.1 (show y.x ∈ l.map Sec.start by rw [← hys]; exact List.mem_map_of_mem hy)
      refine ⟨own_lower h1 (Nat.zero_le _), ?_, own_base h1 y.b rfl, ?_, ?_⟩
      · rw [← e]; simp [Sec.start]
      · rw [← e]
        intro q hq
        rw [List.mem_singleton.1 hq]
        exact HW.out z hz
      · rw [← e]; exact HW.out z hz

end Go.Proofs.Ytpcjdmbnlhjlaaa
