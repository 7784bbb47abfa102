/-
  What is known of sectors: Reads.
-/
import Derived.Test.YtpcjdmbnlhjlaaaTrkB
namespace Go.Proofs.Ytpcjdmbnlhjlaaa
set_option linter.unusedVariables false
open Go.RowKit
attribute [local go_sem] Oper.semAt_some

set_option maxRecDepth 100000 in
set_option maxHeartbeats 4000000 in
theorem reads_any (W : World) (G : Nat → Prop) (tb : Nat) (t : List Sec) (h : TrAt W G tb t) (a v : Nat) (st : Bool) (ha : a < t.length) (hv : v < 18446744073709551616) (hm : tMay t a v) (hb : (tAt t a).sm.length ≤ 100000) (ht : t.length ≤ 100000) :
    Calls Try.prog 46 #[.pointer (some ⟨tb, 0, none⟩), .int .i64 (a : Int), .int .u64 (v : Int), .bool st] W fun e w' => e = .returned (.bool true) ∧ ∃ G', TrAt w' G' tb (tRead t a v st) ∧ Turn G G' W w' := by
  obtain ⟨rb, cap, ys, rfl, hi⟩ := h
  rw [List.length_map] at ha ht
  obtain ⟨y, hy⟩ : ∃ y, ys[a]? = some y := ⟨_, List.getElem?_eq_getElem ha⟩
  unfold tMay at hm
  rw [tAt_map hy] at hb hm
  obtain ⟨c0, c1, c2, cf⟩ := hi.at_ a y hy
  have c4 : W.cell? ⟨tb, 0, none⟩ = some (.slice (some ⟨rb, 0, none⟩) ys.length cap) := hi.tr.cell 0
  have hrd := hi.rd y (List.mem_of_getElem? hy)
  have HI := Lib.hid hi
  have HY := Lib.hid hy
  have HD := Lib.hid hrd
  have HO := Lib.hid hrd.1
  have hrbl := hi.rb_lt
  have hgr := hi.gr
  obtain ⟨L, hL⟩ : ∃ L, y.x.sm.length = L := ⟨_, rfl⟩
  have HL := Lib.hid hL
  unfold TS.v at c0
  rw [hL] at c0 hb
  have f0 := cf (a * 3)
  have f1 := cf (a * 3 + 1)
  have f2 := cf (a * 3 + 2)
  have t1 : ¬ (a : Int) < 0 := by omega
  have t2 : ¬ (ys.length : Int) ≤ (a : Int) := by omega
  have t3 : (a : Int) < (ys.length : Int) := by omega
  have hlt := HI.out
  have han : a < ys.length := ha
  clear hi hy hL hrd cf hlt
  obtain ⟨n, hnn⟩ : ∃ n, ys.length = n := ⟨_, rfl⟩
  rw [hnn] at c4 t2 t3
  clear hnn
  rcases hk : y.x.kn with _ | _
  · unfold Sec.may at hm
    rw [hk, if_neg (by decide)] at hm
    rw [hk] at c1
    have HK := Lib.hid hk
    obtain ⟨mm, hmm⟩ := List.mem_iff_getElem?.1 hm
    have hmL : mm < L := by rw [← HL.out]; exact (List.getElem?_eq_some_iff.1 hmm).1
    have HMM := Lib.hid hmm
    clear hk hm hmm
    go_enter Try.func46, Try.ntmps46
    go_wp2_with fail
    go_loopw [10, 11] (fun s10 s11 wx => ∃ (b : Bool) (i : Nat), s10 = .bool b ∧ s11 = .int .i64 i ∧ i ≤ L ∧ wx = W ∧ (mm < i → b = true)) (fun _ s11 _ => L - (intOf s11).toNat)
    case atStart => exact ⟨false, 0, rfl, rfl, Nat.zero_le _, rfl, fun h => by omega⟩
    case round =>
      obtain ⟨b, i, rfl, rfl, hil, rfl, hbt⟩ := hrel
      by_cases hlt : i < L
      · have t5 : (i : Int) < (L : Int) := by omega
        have e1 : IntKind.i64.wrap ((i : Int) + 1) = ((i + 1 : Nat) : Int) := IntWalk.i64_in _ (by omega)
        obtain ⟨z, hz⟩ : ∃ z, y.x.sm[i]? = some z := ⟨_, List.getElem?_eq_getElem (by rw [HL.out]; exact hlt)⟩
        have k0 : wr.cell? ⟨y.b, i, none⟩ = some (.int .u64 (z : Int)) := (HO.out.cellAt i (by rw [HL.out]; omega)).trans (by simp [uv, hz])
        have HQ : Hid (i = mm → z = v) := by
          intro e
          rw [e, HMM.out] at hz
          injection hz with hz
          exact hz.symm
        clear hz
        cases b
        · by_cases hzv : z = v
          · have t6 : ((z : Int) == (v : Int)) = true := by rw [hzv]; simp
            clear hzv
            go_wp2_with fail
            go_roundw
            case rel => exact ⟨true, i + 1, rfl, by go_num, by omega, (by first | rfl | trivial), fun _ => rfl⟩
            case measure => simp [intOf]; omega
          · have t6 : ((z : Int) == (v : Int)) = false := by simp; omega
            have HNE : Hid (¬ i = mm) := fun e => hzv (HQ.out e)
            clear hzv
            go_wp2_with fail
            go_roundw
            case rel => exact ⟨false, i + 1, rfl, by go_num, by omega, (by first | rfl | trivial), fun h => by have := HNE.out; exact hbt (by omega)⟩
            case measure => simp [intOf]; omega
        · go_wp2_with fail
          go_roundw
          case rel => exact ⟨true, i + 1, rfl, by go_num, by omega, (by first | rfl | trivial), fun _ => rfl⟩
          case measure => simp [intOf]; omega
      · have hb1 : b = true := hbt (by omega)
        subst hb1
        have h1 := HI.out.put1 a y HY.out true
        obtain ⟨k0, k1, k2, kf⟩ := h1.at_ a _ (List.getElem?_set_self han)
        have j2 := kf (a * 3 + 2)
        have h2 := h1.put2 a _ (List.getElem?_set_self han) v hv
        obtain ⟨m0, m1, m2, mf⟩ := h2.at_ a _ (List.getElem?_set_self (by rw [List.length_set]; exact han))
        have j0 := mf (a * 3)
        have HR0 : Hid (tRead (ys.map TS.x) a v false = ((ys.set a ⟨y.b, y.c, ⟨y.x.sm, true, y.x.val⟩⟩).set a ⟨y.b, y.c, ⟨y.x.sm, true, v⟩⟩).map TS.x) := by
          show _ = _
          unfold tRead Sec.read
          rw [tAt_map HY.out, if_neg (by rw [HK.out]; decide)]
          simp only [List.map_set, List.set_set]
          rfl
        have HR1 : Hid (∀ b c, tRead (ys.map TS.x) a v true = (((ys.set a ⟨y.b, y.c, ⟨y.x.sm, true, y.x.val⟩⟩).set a ⟨y.b, y.c, ⟨y.x.sm, true, v⟩⟩).set a ⟨b, c, ⟨[v], true, v⟩⟩).map TS.x) := by
          show ∀ b c, _ = _
          intro b c
          unfold tRead Sec.read
          rw [tAt_map HY.out, if_neg (by rw [HK.out]; decide)]
          simp only [List.map_set, List.set_set]
          rfl
        have hF2 : Fr G wr ((wr.setCell ⟨rb, a * 3 + 1, none⟩ (.bool true)).setCell ⟨rb, a * 3 + 2, none⟩ (.int .u64 (v : Int))) := ((Fr.refl G wr).set (.inl hgr) _).set (.inl hgr) _
        have H2 := Lib.hid h2
        have HF2 := Lib.hid hF2
        cases st
        · clear h1 h2 hF2 k0 k1 m1 m2 m0 j0 mf kf
          go_wp2_with fail
          go_ret
          exact ⟨rfl, G, ⟨rb, cap, _, HR0.out.symm, H2.out⟩, HF2.out, fun j hj => .inl hj⟩
        · have hb0 : Below ((wr.setCell ⟨rb, a * 3 + 1, none⟩ (.bool true)).setCell ⟨rb, a * 3 + 2, none⟩ (.int .u64 (v : Int))).heap.size ((wr.setCell ⟨rb, a * 3 + 1, none⟩ (.bool true)).setCell ⟨rb, a * 3 + 2, none⟩ (.int .u64 (v : Int))) (((wr.setCell ⟨rb, a * 3 + 1, none⟩ (.bool true)).setCell ⟨rb, a * 3 + 2, none⟩ (.int .u64 (v : Int))).alloc (.cells #[.int .u64 (v : Int)] 32)) := (Below.refl _ _).alloc (Nat.le_refl _) _
          have h3 := (h2.wider wr.heap.size).keep hb0
          have hsz : wr.heap.size ≤ ((wr.setCell ⟨rb, a * 3 + 1, none⟩ (.bool true)).setCell ⟨rb, a * 3 + 2, none⟩ (.int .u64 (v : Int))).heap.size := hF2.size
          have hrb2 := h2.rb_lt
          have h4 := h3.put0 a _ (List.getElem?_set_self (by rw [List.length_set]; exact han)) ((wr.setCell ⟨rb, a * 3 + 1, none⟩ (.bool true)).setCell ⟨rb, a * 3 + 2, none⟩ (.int .u64 (v : Int))).heap.size 1 [v] (own_one _ v) (by simp) (.inr hsz) (by intro z hz; exact (List.mem_singleton.1 hz) ▸ hv)
          have HW : Hid ((((wr.setCell ⟨rb, a * 3 + 1, none⟩ (.bool true)).setCell ⟨rb, a * 3 + 2, none⟩ (.int .u64 (v : Int))).alloc (.cells #[.int .u64 (v : Int)] 32)).setCell ⟨rb, a * 3, none⟩ (.slice (some ⟨((wr.setCell ⟨rb, a * 3 + 1, none⟩ (.bool true)).setCell ⟨rb, a * 3 + 2, none⟩ (.int .u64 (v : Int))).heap.size, 0, none⟩) [v].length 1) = (((wr.setCell ⟨rb, a * 3 + 1, none⟩ (.bool true)).setCell ⟨rb, a * 3 + 2, none⟩ (.int .u64 (v : Int))).setCell ⟨rb, a * 3, none⟩ (.slice (some ⟨((wr.setCell ⟨rb, a * 3 + 1, none⟩ (.bool true)).setCell ⟨rb, a * 3 + 2, none⟩ (.int .u64 (v : Int))).heap.size, 0, none⟩) 1 1)).alloc (.cells #[.int .u64 (v : Int)] 32)) := World.setCell_alloc_past _ _ _ _ hrb2
          have hse : ((wr.setCell ⟨rb, a * 3 + 1, none⟩ (.bool true)).setCell ⟨rb, a * 3 + 2, none⟩ (.int .u64 (v : Int))).heap.size = wr.heap.size := by simp
          rw [HW.out, hse] at h4
          have H4 := Lib.hid h4
          have HF4 := Lib.hid ((hF2.set (b := rb) (i := a * 3) (.inl hgr) (.slice (some ⟨wr.heap.size, 0, none⟩) 1 1)).alloc (.cells #[.int .u64 (v : Int)] 32))
          clear h1 h2 h3 h4 hF2 k0 k1 m1 m2 mf kf hb0 HW hsz hrb2 hse
          unfold TS.v at m0
          go_wp2_with fail
          go_ret
          exact ⟨rfl, _, ⟨rb, cap, _, (HR1.out _ _).symm, H4.out⟩, HF4.out, fun j hj => hj⟩
  · unfold Sec.may at hm
    rw [hk, if_pos rfl] at hm
    subst hm
    rw [hk] at c1
    have HR : Hid (tRead (ys.map TS.x) a y.x.val st = ys.map TS.x) := by
      show _ = _
      unfold tRead Sec.read
      rw [tAt_map HY.out, if_pos hk]
      apply List.ext_getElem?
      intro j
      by_cases e : a = j
      · subst e
        rw [List.getElem?_set_self (by rw [List.length_map]; exact han), List.getElem?_map, HY.out]
        rfl
      · rw [List.getElem?_set_ne e]
    clear hk
    go_enter Try.func46, Try.ntmps46
    go_wp2_with fail
    go_ret
    exact ⟨rfl, G, ⟨rb, cap, ys, HR.out.symm, HI.out⟩, Turn.refl _ _⟩

end Go.Proofs.Ytpcjdmbnlhjlaaa
