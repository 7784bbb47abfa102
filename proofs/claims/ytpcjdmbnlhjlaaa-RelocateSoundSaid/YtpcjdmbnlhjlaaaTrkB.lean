/-
  What is known of sectors: Wrote, Failed, Flushed, Reads, Tracked.
-/
import Derived.Test.YtpcjdmbnlhjlaaaTrkA
import Derived.BigRegion
namespace Go.Proofs.Ytpcjdmbnlhjlaaa
set_option linter.unusedVariables false
open Go.RowKit
attribute [local go_sem] Oper.semAt_some

theorem tAt_map {ys : List TS} {a : Nat} {y : TS} (h : ys[a]? = some y) : tAt (ys.map TS.x) a = y.x := by
  apply tAt_eq
  rw [List.getElem?_map, h]
  rfl
theorem TrIn.wider {W : World} {G : Nat → Prop} {tb rb cap : Nat} {ys : List TS} (h : TrIn W G tb rb cap ys) (n : Nat) : TrIn W (fun j => G j ∨ n ≤ j) tb rb cap ys := h.mono (fun j hj => .inl hj)

theorem TrIn.wr3 {W : World} {G : Nat → Prop} {tb rb cap : Nat} {ys : List TS} (h : TrIn W G tb rb cap ys) (a : Nat) (y : TS) (hy : ys[a]? = some y) (bN cN L v : Nat) (d : Bool) (hL : y.x.sm.length = L) (ho : W.ownsRow 0 32 1 (.slice (some ⟨bN, 0, none⟩) (L + 1) cN) (L + 1) (uv (y.x.sm ++ [v]))) (hg : G bN) (hv : v < 18446744073709551616) :
    W.cell? ⟨rb, a * 3, none⟩ = some y.v ∧ W.frozen? ⟨rb, a * 3, none⟩ = false ∧
    (W.setCell ⟨rb, a * 3, none⟩ (.slice (some ⟨bN, 0, none⟩) (L + 1) cN)).cell? ⟨rb, a * 3 + 1, none⟩ = some (.bool y.x.kn) ∧ (W.setCell ⟨rb, a * 3, none⟩ (.slice (some ⟨bN, 0, none⟩) (L + 1) cN)).frozen? ⟨rb, a * 3 + 1, none⟩ = false ∧
    ((W.setCell ⟨rb, a * 3, none⟩ (.slice (some ⟨bN, 0, none⟩) (L + 1) cN)).setCell ⟨rb, a * 3 + 1, none⟩ (.bool d)).cell? ⟨rb, a * 3 + 2, none⟩ = some (.int .u64 (y.x.val : Int)) ∧ ((W.setCell ⟨rb, a * 3, none⟩ (.slice (some ⟨bN, 0, none⟩) (L + 1) cN)).setCell ⟨rb, a * 3 + 1, none⟩ (.bool d)).frozen? ⟨rb, a * 3 + 2, none⟩ = false ∧
    TrIn (((W.setCell ⟨rb, a * 3, none⟩ (.slice (some ⟨bN, 0, none⟩) (L + 1) cN)).setCell ⟨rb, a * 3 + 1, none⟩ (.bool d)).setCell ⟨rb, a * 3 + 2, none⟩ (.int .u64 (v : Int))) G tb rb cap (((ys.set a ⟨bN, cN, ⟨y.x.sm ++ [v], y.x.kn, y.x.val⟩⟩).set a ⟨bN, cN, ⟨y.x.sm ++ [v], d, y.x.val⟩⟩).set a ⟨bN, cN, ⟨y.x.sm ++ [v], d, v⟩⟩) := by
  have ha := (List.getElem?_eq_some_iff.1 hy).1
  obtain ⟨k0, k1, k2, kf⟩ := h.at_ a y hy
  have hl6 : (y.x.sm ++ [v]).length = L + 1 := by simp [hL]
  have hd := h.rd y (List.mem_of_getElem? hy)
  have h1 := h.put0 a y hy bN cN (y.x.sm ++ [v]) (hl6.symm ▸ ho) (by simp) hg (by
    intro z hz
    rcases List.mem_append.1 hz with hz | hz
    · exact hd.2.2.2.1 z hz
    · exact (List.mem_singleton.1 hz) ▸ hv)
  rw [hl6] at h1
  obtain ⟨m0, m1, m2, mf⟩ := h1.at_ a _ (List.getElem?_set_self ha)
  have h2 := h1.put1 a _ (List.getElem?_set_self ha) d
  obtain ⟨u0, u1, u2, uf⟩ := h2.at_ a _ (List.getElem?_set_self (by simpa using ha))
  have h3 := h2.put2 a _ (List.getElem?_set_self (by simpa using ha)) v hv
  exact ⟨k0, kf _, m1, mf _, u2, uf _, h3⟩

set_option maxRecDepth 100000 in
set_option maxHeartbeats 4000000 in
theorem wrote_any (W : World) (G : Nat → Prop) (tb : Nat) (t : List Sec) (h : TrAt W G tb t) (a v : Nat) (d : Bool) (ha : a < t.length) (hv : v < 18446744073709551616) (hb : (tAt t a).sm.length ≤ 100000) (ht : t.length ≤ 100000) :
    Calls Try.prog 45 #[.pointer (some ⟨tb, 0, none⟩), .int .i64 (a : Int), .int .u64 (v : Int), .bool d] W fun e w' => e = .returned (.tuple #[]) ∧ ∃ G', TrAt w' G' tb (tWrote t a v d) ∧ Turn G G' W w' := by
  obtain ⟨rb, cap, ys, rfl, hi⟩ := h
  rw [List.length_map] at ha ht
  obtain ⟨y, hy⟩ : ∃ y, ys[a]? = some y := ⟨_, List.getElem?_eq_getElem ha⟩
  have hym := List.mem_of_getElem? hy
  rw [tAt_map hy] at hb
  obtain ⟨c0, c1, c2, cf⟩ := hi.at_ a y hy
  have c4 : W.cell? ⟨tb, 0, none⟩ = some (.slice (some ⟨rb, 0, none⟩) ys.length cap) := hi.tr.cell 0
  have hrd := hi.rd y hym
  have HI := Lib.hid hi
  have HY := Lib.hid hy
  have HR := Lib.hid (Reads.of_own hrd.1)
  have hrbl := hi.rb_lt
  obtain ⟨L, hL⟩ : ∃ L, y.x.sm.length = L := ⟨_, rfl⟩
  have HL := Lib.hid hL
  have hLu : (uv y.x.sm).length = L := by rw [uv_length, hL]
  have HLU := Lib.hid hLu
  unfold TS.v at c0
  rw [hL] at c0 hb
  have f0 := cf (a * 3)
  have f1 := cf (a * 3 + 1)
  have f2 := cf (a * 3 + 2)
  have HD := Lib.hid hrd
  have t1 : ¬ (a : Int) < 0 := by omega
  have t2 : ¬ (ys.length : Int) ≤ (a : Int) := by omega
  have t3 : (a : Int) < (ys.length : Int) := by omega
  obtain ⟨i0, hi0, hz0, hz1, hz2⟩ := info_parts u64_info
  clear hi hy hL hLu hrd hym cf
  have han : a < ys.length := ha
  obtain ⟨n, hnn⟩ : ∃ n, ys.length = n := ⟨_, rfl⟩
  rw [hnn] at c4 t2 t3
  clear hnn
  go_enter Try.func45, Try.ntmps45
  go_wp2_with (first
    | (at_builtin; refine wpList_append_reads _ (by rfl) _ _ _ (by rfl) W.heap.size 32 i0 _ 1 8 Try.underlying30 hi0 hz0 hz1 hz2 rfl (by omega) (.slice A5 L c5) L (uv y.x.sm) (by rfl) (HO5.out.alloc _) (some ⟨w5.heap.size, 0, none⟩) 1 1 _ (by rfl) (by rfl) (Reads.new _ _ _) (by simp [Value.oneCell']) (by simp only [maxLen]; omega) (by omega) (Nat.le_trans hw5 (by simp)) ?_; intro v6 w6 hown6 hg6 hat6; obtain ⟨bN, cN, hv6, hbN, hbNl⟩ := hown6.form (by omega); subst hv6; have HB6 := Lib.hid ((HB5.out.alloc hw5 _).grown hg6 (Nat.le_trans hw5 (by simp)) (own_base HO5.out)); have ho6 : w6.ownsRow 0 32 1 (.slice (some ⟨bN, 0, none⟩) (L + 1) cN) (L + 1) (uv (y.x.sm ++ [v])) := (by rw [uv_append]; exact own_lower hown6 (Nat.zero_le _)); clear hown6 hg6 hat6; obtain ⟨k0, j0, m1, j1, u2, j2, h3⟩ := ((HI.out.wider W.heap.size).keep HB6.out).wr3 a y HY.out bN cN L v d HL.out ho6 (.inr hbN) hv; have H3 := Lib.hid h3)
    | (at_builtin; refine wpList_append_reads _ (by rfl) _ _ _ (by rfl) W.heap.size 32 i0 _ 1 8 Try.underlying30 hi0 hz0 hz1 hz2 rfl (by omega) (.slice none 0 0) 0 [] (by rfl) (World.ownsRow_nil _ _ _ _) (some ⟨y.b, 0, none⟩) L y.c (uv y.x.sm) (by rfl) (by have := HLU.out; omega) HR.out (uv_one _) (by simp only [maxLen]; omega) (by omega) (Nat.le_refl _) ?_; intro v5 w5 hown5 hg5 hat5; obtain ⟨A5, c5, hv5⟩ := own_form hown5; subst hv5; simp only [Nat.zero_add, List.nil_append] at hown5; have HO5 := Lib.hid hown5; have HB5 := Lib.hid ((Below.refl W.heap.size W).grown hg5 (Nat.le_refl _) (by intro k hk; simp [Value.ownBlock] at hk)); have hw5 : W.heap.size ≤ w5.heap.size := HB5.out.size; clear hown5 hg5 hat5))
  refine bodyPost_end (v := .tuple #[]) (by simp [results, Try.f45, go_sem]) rfl ?_
  refine ⟨rfl, _, ⟨rb, cap, _, ?_, H3.out⟩, ?_⟩
  · unfold tWrote
    rw [tAt_map HY.out]
    simp only [List.map_set, List.set_set]
    rfl
  · have hgr := HI.out.gr
    refine ⟨?_, fun j hj => hj⟩
    exact (((Fr.of_below HB6.out).mono (H := G) (fun j _ hj => hj) |>.set (.inl hgr) _).set (.inl hgr) _).set (.inl hgr) _


/-- The first k sectors have been treated by f. -/
def tPart (f : Sec → Sec) (t : List Sec) (k : Nat) : List Sec := (t.take k).map f ++ t.drop k
theorem tPart_zero (f : Sec → Sec) (t : List Sec) : tPart f t 0 = t := by simp [tPart]
theorem tPart_all (f : Sec → Sec) (t : List Sec) : tPart f t t.length = t.map f := by simp [tPart]
theorem tPart_length (f : Sec → Sec) (t : List Sec) (k : Nat) : (tPart f t k).length = t.length := by simp [tPart]; omega
theorem tPart_at (f : Sec → Sec) (t : List Sec) (k : Nat) (hk : k < t.length) : (tPart f t k)[k]? = t[k]? := by
  unfold tPart
  rw [List.getElem?_append_right (by simp; omega), List.length_map, List.length_take, Nat.min_eq_left (by omega), Nat.sub_self, List.getElem?_drop, Nat.add_zero]
theorem tPart_step (f : Sec → Sec) (t : List Sec) (k : Nat) (x : Sec) (hx : t[k]? = some x) : (tPart f t k).set k (f x) = tPart f t (k + 1) := by
  obtain ⟨hk, e⟩ := List.getElem?_eq_some_iff.1 hx
  unfold tPart
  rw [List.set_append_right _ _ (by simp; omega), List.length_map, List.length_take, Nat.min_eq_left (by omega), Nat.sub_self, List.drop_eq_getElem_cons hk, List.set_cons_zero, List.take_add_one, hx]
  simp

theorem own_one (W : World) (v : Nat) : (W.alloc (.cells #[.int .u64 (v : Int)] 32)).ownsRow 0 32 1 (.slice (some ⟨W.heap.size, 0, none⟩) 1 1) 1 (uv [v]) :=
  ⟨by rfl, .inr ⟨W.heap.size, 1, #[.int .u64 (v : Int)], rfl, Nat.zero_le _, heap_alloc_new W _, Nat.le_refl _, by simp only [maxLen]; omega, by rfl, by rfl⟩⟩

set_option maxRecDepth 100000 in
set_option maxHeartbeats 4000000 in
theorem failed_any (W : World) (G : Nat → Prop) (tb : Nat) (t : List Sec) (h : TrAt W G tb t) (ht : t.length ≤ 100000) :
    Calls Try.prog 54 #[.pointer (some ⟨tb, 0, none⟩)] W fun e w' => e = .returned (.tuple #[]) ∧ TrAt w' G tb (tFailed t) ∧ Fr G W w' := by
  obtain ⟨rb, cap, ys0, rfl, hi0⟩ := h
  rw [List.length_map] at ht
  obtain ⟨n, hn⟩ : ∃ n, ys0.length = n := ⟨_, rfl⟩
  have HN := Lib.hid hn
  have HI0 := Lib.hid hi0
  clear hi0
  rw [hn] at ht
  clear hn
  go_enter Try.func54, Try.ntmps54
  go_wp2_with fail
  go_loopw [2] (fun s wx => ∃ (k : Nat) (ys : List TS), s = .int .i64 k ∧ k ≤ n ∧ ys.map TS.x = tPart Sec.failed (ys0.map TS.x) k ∧ TrIn wx G tb rb cap ys ∧ Fr G W wx) (fun s _ => n - (intOf s).toNat)
  case atStart => exact ⟨0, ys0, rfl, Nat.zero_le _, (tPart_zero _ _).symm, HI0.out, Fr.refl _ _⟩
  case round =>
    rename World => wx
    obtain ⟨k, ys, rfl, hk, hys, hi, hf⟩ := hrel
    have hl : ys.length = n := by
      have := congrArg List.length hys
      rw [List.length_map, tPart_length, List.length_map, HN.out] at this
      exact this
    have c4 : wx.cell? ⟨tb, 0, none⟩ = some (.slice (some ⟨rb, 0, none⟩) n cap) := by rw [← hl]; exact hi.tr.cell 0
    have HYS := Lib.hid hys
    have HF := Lib.hid hf
    have HL := Lib.hid hl
    clear hys hf hl
    by_cases hlt : k < n
    · have t1 : (k : Int) < (n : Int) := by omega
      have e1 : IntKind.i64.wrap ((k : Int) + 1) = ((k + 1 : Nat) : Int) := IntWalk.i64_in _ (by omega)
      obtain ⟨y, hy⟩ : ∃ y, ys[k]? = some y := ⟨_, List.getElem?_eq_getElem (by rw [HL.out]; exact hlt)⟩
      obtain ⟨c0, c1, c2, cf⟩ := hi.at_ k y hy
      have f1 := cf (k * 3 + 1)
      have H1 := Lib.hid (hi.put1 k y hy false)
      have HY := Lib.hid hy
      have hgr := hi.gr
      clear hi hy cf
      go_wp2_with fail
      go_roundw
      case rel =>
        refine ⟨k + 1, _, by go_num, by omega, ?_, H1.out, HF.out.set (.inl hgr) _⟩
        have h0 : (ys0.map TS.x)[k]? = some y.x := by
          have this : (ys.map TS.x)[k]? = (tPart Sec.failed (ys0.map TS.x) k)[k]? := by rw [HYS.out]
          rw [tPart_at _ _ _ (by rw [List.length_map, HN.out]; exact hlt), List.getElem?_map, HY.out] at this
          exact this.symm
        rw [List.map_set, HYS.out]
        exact tPart_step _ _ _ _ h0
      case measure => simp [intOf]; omega
    · have hkn : k = n := by omega
      subst hkn
      go_wp2_with fail
      refine bodyPost_end (v := .tuple #[]) (by simp [results, Try.f54, go_sem]) rfl ?_
      refine ⟨rfl, ⟨rb, cap, ys, ?_, hi⟩, HF.out⟩
      rw [HYS.out]
      have := tPart_all Sec.failed (ys0.map TS.x)
      rw [List.length_map, HN.out] at this
      exact this


set_option maxRecDepth 100000 in
set_option maxHeartbeats 4000000 in
theorem flushed_any (W : World) (G : Nat → Prop) (tb : Nat) (t : List Sec) (h : TrAt W G tb t) (ht : t.length ≤ 100000) :
    Calls Try.prog 47 #[.pointer (some ⟨tb, 0, none⟩)] W fun e w' => e = .returned (.tuple #[]) ∧ ∃ G', TrAt w' G' tb (tFlushed t) ∧ Turn G G' W w' := by
  obtain ⟨rb, cap, ys0, rfl, hi0⟩ := h
  rw [List.length_map] at ht
  obtain ⟨n, hn⟩ : ∃ n, ys0.length = n := ⟨_, rfl⟩
  have HN := Lib.hid hn
  have HI0 := Lib.hid (hi0.wider W.heap.size)
  have hgr := hi0.gr
  clear hi0
  rw [hn] at ht
  clear hn
  go_enter Try.func47, Try.ntmps47
  go_wp2_with fail
  go_loopw [2] (fun s wx => ∃ (k : Nat) (ys : List TS), s = .int .i64 k ∧ k ≤ n ∧ ys.map TS.x = tPart Sec.flushed (ys0.map TS.x) k ∧ TrIn wx (fun j => G j ∨ W.heap.size ≤ j) tb rb cap ys ∧ Fr G W wx) (fun s _ => n - (intOf s).toNat)
  case atStart => exact ⟨0, ys0, rfl, Nat.zero_le _, (tPart_zero _ _).symm, HI0.out, Fr.refl _ _⟩
  case round =>
    rename World => wx
    obtain ⟨k, ys, rfl, hk, hys, hi, hf⟩ := hrel
    have hl : ys.length = n := by
      have := congrArg List.length hys
      rw [List.length_map, tPart_length, List.length_map, HN.out] at this
      exact this
    have c4 : wx.cell? ⟨tb, 0, none⟩ = some (.slice (some ⟨rb, 0, none⟩) n cap) := by rw [← hl]; exact hi.tr.cell 0
    have HYS := Lib.hid hys
    have HF := Lib.hid hf
    have HL := Lib.hid hl
    have hsz : W.heap.size ≤ wx.heap.size := hf.size
    clear hys hf hl
    by_cases hlt : k < n
    · have t1 : (k : Int) < (n : Int) := by omega
      have e1 : IntKind.i64.wrap ((k : Int) + 1) = ((k + 1 : Nat) : Int) := IntWalk.i64_in _ (by omega)
      obtain ⟨y, hy⟩ : ∃ y, ys[k]? = some y := ⟨_, List.getElem?_eq_getElem (by rw [HL.out]; exact hlt)⟩
      have h0 : (ys0.map TS.x)[k]? = some y.x := by
        have this : (ys.map TS.x)[k]? = (tPart Sec.flushed (ys0.map TS.x) k)[k]? := by rw [HYS.out]
        rw [tPart_at _ _ _ (by rw [List.length_map, HN.out]; exact hlt), List.getElem?_map, hy] at this
        exact this.symm
      have HS := Lib.hid (tPart_step Sec.flushed _ _ _ h0)
      clear h0
      obtain ⟨c0, c1, c2, cf⟩ := hi.at_ k y hy
      have hd := hi.rd y (List.mem_of_getElem? hy)
      have hrb := hi.rb_lt
      by_cases hkn : y.x.kn = true
      · have hfl : y.x.flushed = ⟨[y.x.val], true, y.x.val⟩ := by unfold Sec.flushed; rw [if_pos hkn, hkn]
        rw [hkn] at c1
        have hb : Below wx.heap.size wx (wx.alloc (.cells #[.int .u64 (y.x.val : Int)] 32)) := (Below.refl _ _).alloc (Nat.le_refl _) _
        have hi2 := hi.keep hb
        obtain ⟨k0, k1, k2, kf⟩ := hi2.at_ k y hy
        have j0 := kf (k * 3)
        have ho : (wx.alloc (.cells #[.int .u64 (y.x.val : Int)] 32)).ownsRow 0 32 1 (.slice (some ⟨wx.heap.size, 0, none⟩) 1 1) 1 (uv [y.x.val]) := own_one wx y.x.val
        have H1 := Lib.hid (hi2.put0 k y hy wx.heap.size 1 [y.x.val] ho (by simp) (.inr hsz) (by intro z hz; rw [List.mem_singleton.1 hz]; exact hd.2.2.2.2))
        have HFL := Lib.hid hfl
        have HKN := Lib.hid hkn
        have HF2 : Hid (Fr G W (wx.alloc (.cells #[.int .u64 (y.x.val : Int)] 32))) := HF.out.alloc _
        have HW : Hid ((wx.alloc (.cells #[.int .u64 (y.x.val : Int)] 32)).setCell ⟨rb, k * 3, none⟩ (.slice (some ⟨wx.heap.size, 0, none⟩) [y.x.val].length 1) = (wx.setCell ⟨rb, k * 3, none⟩ (.slice (some ⟨wx.heap.size, 0, none⟩) 1 1)).alloc (.cells #[.int .u64 (y.x.val : Int)] 32)) := World.setCell_alloc_past _ _ _ _ hrb
        clear hi hi2 hy cf hd hfl kf ho hb hkn k1 k2
        unfold TS.v at k0 c0
        go_wp2_with fail
        go_roundw
        case rel =>
          refine ⟨k + 1, _, by go_num, by omega, ?_, HW.out ▸ H1.out, HW.out ▸ HF2.out.set (.inl hgr) _⟩
          rw [List.map_set, HYS.out, ← HS.out, HFL.out, HKN.out]
        case measure => simp [intOf]; omega
      · have hfl : y.x.flushed = y.x := by unfold Sec.flushed; rw [if_neg hkn]
        have hkf : y.x.kn = false := by simpa using hkn
        rw [hkf] at c1
        rw [hfl] at HS
        have HYE : Hid (ys.map TS.x = tPart Sec.flushed (ys0.map TS.x) (k + 1)) := by
          show _ = _
          rw [← HS.out, ← HYS.out]
          apply List.ext_getElem?
          intro j
          by_cases e : k = j
          · subst e
            rw [List.getElem?_set_self (by rw [List.length_map, HL.out]; exact hlt), List.getElem?_map, hy]
            rfl
          · rw [List.getElem?_set_ne e]
        have HI := Lib.hid hi
        clear hi hy cf hd hfl hkn hkf
        go_wp2_with fail
        go_roundw
        case rel => exact ⟨k + 1, ys, by go_num, by omega, HYE.out, HI.out, HF.out⟩
        case measure => simp [intOf]; omega
    · have hkn : k = n := by omega
      subst hkn
      go_wp2_with fail
      refine bodyPost_end (v := .tuple #[]) (by simp [results, Try.f47, go_sem]) rfl ?_
      refine ⟨rfl, _, ⟨rb, cap, ys, ?_, hi⟩, HF.out, fun j hj => hj⟩
      rw [HYS.out]
      have := tPart_all Sec.flushed (ys0.map TS.x)
      rw [List.length_map, HN.out] at this
      exact this

end Go.Proofs.Ytpcjdmbnlhjlaaa
