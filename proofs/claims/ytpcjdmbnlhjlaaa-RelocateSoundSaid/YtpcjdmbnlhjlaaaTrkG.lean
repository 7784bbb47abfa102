/-
  Soundness of a device that is given by its contracts: make.Sound.
-/
import Derived.Test.YtpcjdmbnlhjlaaaTrkF
import Derived.Test.YtpcjdmbnlhjlaaaTrkD
import Derived.Deep.DeepCutAuto
import Derived.Deep.CutBlock
import Derived.Deep.RegionHeld3
namespace Go.Proofs.Ytpcjdmbnlhjlaaa
set_option linter.unusedVariables false
open Go.RowKit
attribute [local go_sem] Oper.semAt_some d_read d_write d_flush d_size d_nila

/-- A step. -/
structure Stp where
  kind : Int
  place : Int
  val : Nat
  keep : Nat
def Stp.cells (x : Stp) : List Value := [.int .i64 x.kind, .int .i64 x.place, .int .u64 (x.val : Int), .int .u64 (x.keep : Int)]
def svs (l : List Stp) : List Value := l.flatMap Stp.cells
def StpOk (l : List Stp) : Prop := ∀ x ∈ l, (-9223372036854775808 ≤ x.place ∧ x.place ≤ 9223372036854775807) ∧ x.val < 18446744073709551616 ∧ x.keep < 18446744073709551616
theorem svs_at (l : List Stp) (i : Nat) (x : Stp) (h : l[i]? = some x) (j : Nat) (hj : j < 4) : (svs l)[i * 4 + j]? = x.cells[j]? := by
  induction l generalizing i with
  | nil => simp at h
  | cons y r ih =>
    unfold svs
    rw [List.flatMap_cons]
    rcases i with _ | i
    · simp at h
      subst h
      rw [List.getElem?_append_left (by show _ < 4; omega)]
      congr 1
      omega
    · rw [List.getElem?_append_right (by show 4 ≤ _; omega)]
      have := ih i (by simpa using h)
      rw [← this]
      show (svs r)[_]? = _
      congr 1
      show (i + 1) * 4 + j - 4 = _
      omega
theorem svs_length (l : List Stp) : (svs l).length = l.length * 4 := by
  induction l with
  | nil => rfl
  | cons y r ih =>
    unfold svs at *
    rw [List.flatMap_cons, List.length_append, ih, List.length_cons]
    show 4 + _ = _
    omega
theorem svs_read {w : World} {A : Option Addr} {l : List Stp} (h : Reads w A (svs l)) (hl : l.length ≠ 0) : ∃ b o, A = some ⟨b, o, none⟩ ∧ b < w.heap.size ∧ ∀ i x, l[i]? = some x → w.cell? ⟨b, o + i * 4, none⟩ = some (.int .i64 x.kind) ∧ w.cell? ⟨b, o + i * 4 + 1, none⟩ = some (.int .i64 x.place) ∧ w.cell? ⟨b, o + i * 4 + 2, none⟩ = some (.int .u64 (x.val : Int)) ∧ w.cell? ⟨b, o + i * 4 + 3, none⟩ = some (.int .u64 (x.keep : Int)) := by
  obtain ⟨b, o, e, hb, hc⟩ := h (by rw [svs_length]; omega)
  refine ⟨b, o, e, hb, fun i x hx => ⟨?_, ?_, ?_, ?_⟩⟩
  · exact hc (i * 4 + 0) _ ((svs_at l i x hx 0 (by omega)).trans rfl)
  · exact hc (i * 4 + 1) _ ((svs_at l i x hx 1 (by omega)).trans rfl)
  · exact hc (i * 4 + 2) _ ((svs_at l i x hx 2 (by omega)).trans rfl)
  · exact hc (i * 4 + 3) _ ((svs_at l i x hx 3 (by omega)).trans rfl)

theorem svs_cell {w : World} {b o : Nat} {l : List Stp} (h : Reads w (some ⟨b, o, none⟩) (svs l)) (i : Nat) (x : Stp) (hx : l[i]? = some x) : w.cell? ⟨b, o + i * 4, none⟩ = some (.int .i64 x.kind) ∧ w.cell? ⟨b, o + i * 4 + 1, none⟩ = some (.int .i64 x.place) ∧ w.cell? ⟨b, o + i * 4 + 2, none⟩ = some (.int .u64 (x.val : Int)) ∧ w.cell? ⟨b, o + i * 4 + 3, none⟩ = some (.int .u64 (x.keep : Int)) := by
  obtain ⟨b', o', e, -, hc⟩ := svs_read h (by intro e; rw [List.length_eq_zero_iff.1 e] at hx; simp at hx)
  injection e with e
  injection e with e1 e2
  subst e1; subst e2
  exact hc i x hx

section
variable {B n L ga : Nat} {D : World → (Nat → Prop) → List Sec → Bool → Nat → Nat → Prop} {Z : World → (Nat → Prop) → List Sec → Nat → Prop}

set_option maxRecDepth 100000 in
set_option maxHeartbeats 40000000 in
theorem sound_any (op : Nat) {w : World} {F : Nat → Prop} (C : DevC B n L ga 29 #[.pointer (some ⟨op, 0, none⟩)] D Z) (l0 : List Nat) (ls : List Stp) (Ai As : Option Addr) (ci cs m : Nat) (hz : Z w F (l0.map Sec.start) 0) (hB : B ≤ w.heap.size) (hn : l0.length = n) (hn1 : 1 ≤ n) (hn2 : n ≤ 1000) (hm : ls.length = m)
    (hi : ∀ w', Fr F w w' → Reads w' Ai (uv l0)) (hs : ∀ w', Fr F w w' → Reads w' As (svs ls)) (hw : W64 l0) (hok : StpOk ls) (hc : 1 + (m + 2) * (n + 4) ≤ L) (hL : L ≤ 90000) :
    Calls Try.prog 28 #[.pointer (some ⟨ga, 0, none⟩), .func (.func 29) #[.pointer (some ⟨op, 0, none⟩)] #[], .slice Ai n ci, .slice As m cs] w fun e w' => e = .returned (.bool true) ∧ ∃ F', Turn F F' w w' := by
  have HC := Lib.hid C
  have HZ := Lib.hid hz
  have HI := Lib.hid hi
  have HS := Lib.hid hs
  have HW := Lib.hid hw
  have HOK := Lib.hid hok
  have HM := Lib.hid hm
  have HN := Lib.hid hn
  clear C hz hi hs hw hok hm hn
  go_enter Try.func28, Try.ntmps28
  go_wp2_with fail
  refine (tracked_any w Ai n ci l0 (HI.out w (Fr.refl _ _)) HN.out hn1 (by omega) HW.out).mono ?_
  rintro e w1 ⟨tb, rfl, htr1, hb1⟩
  have HZ1 := Lib.hid (HC.out.zfr (HC.out.zti HZ.out) (Fr.of_below (G := fun _ => False) hb1) (fun _ _ h => h) (fun _ h => h.elim))
  have HT1 : Hid (Turn F (FU (FT F w) (fun j => w.heap.size ≤ j)) w w1) := ⟨Fr.of_below hb1, fun j hj => hj.elim (fun a => .inl a.1) .inr⟩
  have HR1 := Lib.hid htr1
  have hsz1 := hb1.size
  clear htr1 hb1
  go_wp2_with fail
  refine (HC.out.opens HZ1.out (by omega)).mono ?_
  rintro e w2 ⟨p2, F2, rfl, ht2, hd2⟩
  obtain ⟨htr2, dj2⟩ := trk_dev HR1.out (fun j hj hg => by have := hj.2; omega) ht2
  have H2 : Hid (DTr D B n w2 F2 (FT (fun j => w.heap.size ≤ j) w1) (l0.map Sec.start) true 1 p2 tb) := ⟨hd2, htr2, dj2, by rw [List.length_map]; exact HN.out, fun a => by
    unfold tAt
    rw [List.getElem?_map]
    rcases l0[a]? with _ | x
    · exact Nat.zero_le _
    · exact Nat.le_succ 1, fun j hj => Nat.le_trans hB hj.1, Nat.le_trans hB (Nat.le_trans hsz1 ht2.1.size)⟩
  have HT2 := Lib.hid (HT1.out.trans (ht2.left (G := fun j => w.heap.size ≤ j)))
  have HSz := Lib.hid (HC.out.size hd2)
  clear hd2 htr2 dj2 ht2 HZ1 HR1 HT1
  go_wp2_with fail
  refine HSz.out.mono ?_
  rintro e w3 ⟨rfl, q3, rfl⟩
  have H3 := Lib.hid (DTr.drewN HC.out H2.out q3)
  have HT3 := Lib.hid (Turn.drewN' HT2.out q3)
  have hnz : n ≠ 0 := by omega
  have hnb : ((n : Int) == 0) = false := by simpa using hnz
  clear H2 HT2 HSz
  generalize w2.drewN q3 = w3 at *
  go_wp2_with fail
  go_loopw [10, 12] (fun s10 s12 wx => ∃ (i p' c : Nat) (F' G' : Nat → Prop) (t' : List Sec) (k : Bool), s10 = .iface 61 (.pointer (some ⟨p', 0, none⟩)) ∧ s12 = .int .i64 i ∧ i ≤ m ∧ c ≤ 1 + i * (n + 4) ∧ DTr D B n wx F' G' t' k c p' tb ∧ Turn F (FU F' G') w wx) (fun _ s12 _ => m - (intOf s12).toNat)
  case atStart => exact ⟨0, p2, 1, _, _, _, _, rfl, rfl, Nat.zero_le _, by omega, H3.out, HT3.out⟩
  case round =>
    rename World => wx
    clear H3 HT3
    obtain ⟨i, p, c, F1, G1, tk, k, rfl, rfl, him, hci, hh, htn⟩ := hrel
    have HD := Lib.hid hh
    have HT := Lib.hid htn
    clear hh htn
    by_cases hlt : i < m
    · obtain ⟨x, hx⟩ : ∃ x, ls[i]? = some x := ⟨_, List.getElem?_eq_getElem (by rw [HM.out]; exact hlt)⟩
      obtain ⟨bs, os, rfl, hbs, hcs⟩ := svs_read (HS.out wx HT.out.1) (by rw [HM.out]; omega)
      obtain ⟨c0, c1, c2, c3⟩ := hcs i x hx
      obtain ⟨hxp, hxv, hxk⟩ := HOK.out x (List.mem_of_getElem? hx)
      have HX := Lib.hid hx
      clear hcs hx
      obtain ⟨kd, pl, v, kp⟩ := x
      dsimp only at c0 c1 c2 c3 hxp hxv hxk
      have t1 : (i : Int) < (m : Int) := by omega
      have u1 := Int.tmod_lt_of_pos pl (b := (n : Int)) (by omega)
      have u2 : -(n : Int) < pl.tmod n := Int.lt_tmod_of_pos pl (by omega)
      obtain ⟨T, hT⟩ : ∃ T, pl.tmod (n : Int) = T := ⟨_, rfl⟩
      rw [hT] at u1 u2
      have u3 : IntKind.i64.wrap (T + (n : Int)) = T + (n : Int) := IntWalk.i64_in _ (by omega)
      obtain ⟨a, ha⟩ : ∃ a : Nat, (T + (n : Int)).tmod (n : Int) = (a : Int) := ⟨((T + (n : Int)).tmod (n : Int)).toNat, by have := Int.tmod_nonneg (n : Int) (show 0 ≤ T + (n : Int) by omega); omega⟩
      have han : a < n := by have := Int.tmod_lt_of_pos (T + (n : Int)) (b := (n : Int)) (by omega); omega
      go_upto_block 2 with (fail)
      go_cut [14] (fun s14 wy => ∃ (r : Int) (c' : Nat) (F' G' : Nat → Prop) (t' : List Sec) (k' : Bool), s14 = .int .i64 r ∧ (r = 0 ∨ r = 5) ∧ c' ≤ c + 1 ∧ DTr D B n wy F' G' t' k' c' p tb ∧ Turn F (FU F' G') w wy)
      case first =>
        have htl := HD.out.tl
        have hsm := HD.out.sm a
        have hcl : c < L := by
          have := Nat.mul_le_mul_right (n + 4) (show i ≤ m by omega)
          simp only [Nat.add_mul] at hc
          omega
        by_cases k0 : kd = 0
        · subst k0
          go_upto_region 14 with (fail)
          go_region_held3 (fun w' => w'.cell? ⟨bs, os + i * 4 + 2, none⟩ = some (.int .u64 (v : Int)))
            (first | exact yy | exact c2)
            ((go_at_call 87; refine (HC.out.write a v (HC.out.dfr HD.out.d ((Fr.refl (fun _ => False) wx).drew) (fun _ _ h => h) (fun _ h => h.elim)) han hxv hcl).mono ?_; rintro e w2 ⟨r, F2, rfl, ht2, hr2, hd2⟩; have ht2' : Turn F1 F2 wx w2 := (Turn.drewN' (Turn.refl F1 wx) 1).trans ht2; have ht2'' := HT.out.trans (ht2'.left (G := G1)); have yy : w2.cell? ⟨bs, os + i * 4 + 2, none⟩ = some (.int .u64 (v : Int)) := (svs_cell (HS.out w2 ht2''.1) i _ HX.out).2.2.1))
          obtain ⟨htr2, dj2⟩ := trk_dev HD.out.tr HD.out.dj ht2'
          have HR2 := Lib.hid htr2
          have HJ2 := Lib.hid dj2
          have HT2 := Lib.hid ht2''
          have wb2 : B ≤ w2.heap.size := Nat.le_trans HD.out.wb ht2'.1.size
          have gb2 : ∀ j, FT G1 wx j → B ≤ j := fun j hj => HD.out.gb j hj.1
          clear htr2 dj2 ht2 ht2' ht2'' c0 c1 c2 c3
          have c2 := yy
          clear yy
          rcases hr2 with rfl | rfl
          · have HD2 : Hid (D w2 F2 (tWrote tk a v true) false (c + 1) p) := hd2
            clear hd2
            go_wp2_with fail
            refine (wrote_any w2 _ tb tk HR2.out a v true (by omega) hxv (by omega) (by omega)).mono ?_
            rintro e w3 ⟨rfl, G3, htr3, ht3⟩
            obtain ⟨hd3, dj3⟩ := dev_trk HC.out HD2.out HJ2.out gb2 ht3
            have H3 : Hid (DTr D B n w3 (FT F2 w2) G3 (tWrote tk a v true) false (c + 1) p tb) := ⟨hd3, htr3, dj3, by unfold tWrote; rw [List.length_set]; exact htl, fun b => sm_wrote HD.out.sm a v true b, ht3.ge wb2 gb2, Nat.le_trans wb2 ht3.1.size⟩
            have HT3 := Lib.hid (HT2.out.trans (ht3.right (F := F2)))
            clear hd3 htr3 dj3 ht3
            go_wp2_with fail
            go_meet
            case rel => exact ⟨0, c + 1, _, _, _, _, rfl, .inl rfl, Nat.le_refl _, H3.out, HT3.out⟩
          · have HD2 : Hid (D w2 F2 (tWrote tk a v false) false (c + 1) p) := hd2
            clear hd2
            go_wp2_with fail
            refine (wrote_any w2 _ tb tk HR2.out a v false (by omega) hxv (by omega) (by omega)).mono ?_
            rintro e w3 ⟨rfl, G3, htr3, ht3⟩
            obtain ⟨hd3, dj3⟩ := dev_trk HC.out HD2.out HJ2.out gb2 ht3
            have H3 : Hid (DTr D B n w3 (FT F2 w2) G3 (tWrote tk a v false) false (c + 1) p tb) := ⟨hd3, htr3, dj3, by unfold tWrote; rw [List.length_set]; exact htl, fun b => sm_wrote HD.out.sm a v false b, ht3.ge wb2 gb2, Nat.le_trans wb2 ht3.1.size⟩
            have HT3 := Lib.hid (HT2.out.trans (ht3.right (F := F2)))
            clear hd3 htr3 dj3 ht3
            go_wp2_with fail
            go_meet
            case rel => exact ⟨5, c + 1, _, _, _, _, rfl, .inr rfl, Nat.le_refl _, H3.out, HT3.out⟩
        · have q0 : (kd == 0) = false := by simpa using k0
          by_cases k1 : kd = 1
          · subst k1
            clear q0 k0
            go_wp2_with fail
            refine (HC.out.read a false HD.out.d han hcl (fun e => by cases e)).mono ?_
            rintro e w2 ⟨v2, r, F2, rfl, hv2, ht2, hor⟩
            obtain ⟨htr2, dj2⟩ := trk_dev HD.out.tr HD.out.dj ht2
            have HR2 := Lib.hid htr2
            have HJ2 := Lib.hid dj2
            have wb2 : B ≤ w2.heap.size := Nat.le_trans HD.out.wb ht2.1.size
            have gb2 : ∀ j, FT G1 wx j → B ≤ j := fun j hj => HD.out.gb j hj.1
            have HT2 := Lib.hid (HT.out.trans (ht2.left (G := G1)))
            clear htr2 dj2 ht2 c0 c1 c2 c3
            rcases hor with ⟨rfl, hm2, hd2⟩ | ⟨hk2, rfl, hd2⟩
            · have HD2 := Lib.hid hd2
              clear hd2
              go_wp2_with fail
              refine (reads_any w2 _ tb tk HR2.out a v2 false (by omega) hv2 hm2 (by omega) (by omega)).mono ?_
              rintro e w3 ⟨rfl, G3, htr3, ht3⟩
              obtain ⟨hd3, dj3⟩ := dev_trk HC.out HD2.out HJ2.out gb2 ht3
              have H3 : Hid (DTr D B n w3 (FT F2 w2) G3 (tRead tk a v2 false) k (c + 1) p tb) := ⟨hd3, htr3, dj3, by unfold tRead; rw [List.length_set]; exact htl, fun b => by have := sm_read HD.out.sm (by omega) a v2 false b; omega, ht3.ge wb2 gb2, Nat.le_trans wb2 ht3.1.size⟩
              have HT3 := Lib.hid (HT2.out.trans (ht3.right (F := F2)))
              clear hd3 htr3 dj3 ht3 hm2
              go_wp2_with fail
              go_meet
              case rel => exact ⟨0, c + 1, _, _, _, _, rfl, .inl rfl, Nat.le_refl _, H3.out, HT3.out⟩
            · have H3 : Hid (DTr D B n w2 F2 (FT G1 wx) tk k (c + 1) p tb) := ⟨hd2, HR2.out, HJ2.out, htl, fun b => by have := HD.out.sm b; omega, gb2, wb2⟩
              clear hd2
              go_wp2_with fail
              go_meet
              case rel => exact ⟨5, c + 1, _, _, _, _, rfl, .inr rfl, Nat.le_refl _, H3.out, HT2.out⟩
          · have q1 : (kd == 1) = false := by simpa using k1
            by_cases k2 : kd = 2
            · subst k2
              clear q0 k0 q1 k1
              go_wp2_with fail
              refine (HC.out.flush HD.out.d hcl).mono ?_
              rintro e w2 ⟨r, F2, rfl, ht2, hor⟩
              obtain ⟨htr2, dj2⟩ := trk_dev HD.out.tr HD.out.dj ht2
              have HR2 := Lib.hid htr2
              have HJ2 := Lib.hid dj2
              have wb2 : B ≤ w2.heap.size := Nat.le_trans HD.out.wb ht2.1.size
              have gb2 : ∀ j, FT G1 wx j → B ≤ j := fun j hj => HD.out.gb j hj.1
              have HT2 := Lib.hid (HT.out.trans (ht2.left (G := G1)))
              clear htr2 dj2 ht2 c0 c1 c2 c3
              rcases hor with ⟨rfl, hd2⟩ | ⟨rfl, hd2⟩
              · have HD2 := Lib.hid hd2
                clear hd2
                go_wp2_with fail
                refine (flushed_any w2 _ tb tk HR2.out (by omega)).mono ?_
                rintro e w3 ⟨rfl, G3, htr3, ht3⟩
                obtain ⟨hd3, dj3⟩ := dev_trk HC.out HD2.out HJ2.out gb2 ht3
                have H3 : Hid (DTr D B n w3 (FT F2 w2) G3 (tFlushed tk) false (c + 1) p tb) := ⟨hd3, htr3, dj3, by unfold tFlushed; rw [List.length_map]; exact htl, fun b => by have := sm_flushed HD.out.sm (by omega) b; omega, ht3.ge wb2 gb2, Nat.le_trans wb2 ht3.1.size⟩
                have HT3 := Lib.hid (HT2.out.trans (ht3.right (F := F2)))
                clear hd3 htr3 dj3 ht3
                go_wp2_with fail
                go_meet
                case rel => exact ⟨0, c + 1, _, _, _, _, rfl, .inl rfl, Nat.le_refl _, H3.out, HT3.out⟩
              · have H3 : Hid (DTr D B n w2 F2 (FT G1 wx) tk false (c + 1) p tb) := ⟨hd2, HR2.out, HJ2.out, htl, fun b => by have := HD.out.sm b; omega, gb2, wb2⟩
                clear hd2
                go_wp2_with fail
                go_meet
                case rel => exact ⟨5, c + 1, _, _, _, _, rfl, .inr rfl, Nat.le_refl _, H3.out, HT2.out⟩
            · have q2 : (kd == 2) = false := by simpa using k2
              by_cases k3 : kd = 3
              · subst k3
                clear q0 k0 q1 k1 q2 k2
                go_wp2_with fail
                go_meet
                case rel => exact ⟨5, c, _, _, _, _, rfl, .inr rfl, Nat.le_succ _, HD.out, HT.out⟩
              · have q3 : (kd == 3) = false := by simpa using k3
                by_cases k4 : kd = 4
                · subst k4
                  clear q0 k0 q1 k1 q2 k2 q3 k3
                  have e1 : IntKind.i64.wrap (1 + (a : Int)) = ((a + 1 : Nat) : Int) := by rw [IntWalk.i64_in _ (by omega)]; omega
                  go_wp2_with fail
                  refine (HC.out.fuse (a + 1) HD.out.d (by omega) hcl).mono ?_
                  rintro e w2 ⟨rfl, F2, ht2, hd2⟩
                  have H2 := Lib.hid (HD.out.dev ht2 hd2 (Nat.le_succ c))
                  have HT2 := Lib.hid (HT.out.trans (ht2.left (G := G1)))
                  clear ht2 hd2 c0 c1 c2 c3
                  go_wp2_with fail
                  go_meet
                  case rel => exact ⟨0, c + 1, _, _, _, _, rfl, .inl rfl, Nat.le_refl _, H2.out, HT2.out⟩
                · have q4 : (kd == 4) = false := by simpa using k4
                  clear k0 k1 k2 k3 k4
                  go_wp2_with fail
                  go_meet
                  case rel => exact ⟨0, c, _, _, _, _, rfl, .inl rfl, Nat.le_succ _, HD.out, HT.out⟩
      case rest =>
        obtain ⟨r, c', F2, G2, t2, k2, rfl, hr, hcc, hh2, ht2⟩ := hcut
        have hsz : n + 2 + c' ≤ L := by
          have := Nat.mul_le_mul_right (n + 4) (show i ≤ m by omega)
          simp only [Nat.add_mul] at hc
          omega
        have hnew : c' + n + 2 ≤ 1 + (i + 1) * (n + 4) := by simp only [Nat.add_mul]; omega
        have hmL : m ≤ 90000 := by have := Nat.le_mul_of_pos_right (m + 2) (show 0 < n + 4 by omega); omega
        have e5 : IntKind.i64.wrap ((i : Int) + 1) = ((i + 1 : Nat) : Int) := by rw [IntWalk.i64_in _ (by omega)]; rfl
        obtain ⟨-, -, -, d3⟩ := svs_cell (HS.out wc ht2.1) i _ HX.out
        dsimp only at d3
        have H2 := Lib.hid hh2
        have HT2 := Lib.hid ht2
        clear hh2 ht2 c0 c1 c2 c3
        rcases hr with rfl | rfl
        · go_wp2_with fail
          go_roundw
          case rel => exact ⟨i + 1, p, c', _, _, _, _, rfl, by go_num, by omega, by omega, H2.out, HT2.out⟩
          case measure => simp [intOf]; omega
        · go_wp2_with fail
          refine (again_any op HC.out H2.out hn2 (by omega) hL kp hxk).mono ?_
          rintro e w4 ⟨p4, F4, G4, t4, rfl, h4, ht4⟩
          have H4 := Lib.hid h4
          have HT4 := Lib.hid (HT2.out.trans ht4)
          clear h4 ht4
          go_wp2_with fail
          go_roundw
          case rel => exact ⟨i + 1, p4, c' + n + 2, _, _, _, _, rfl, by go_num, by omega, hnew, H4.out, HT4.out⟩
          case measure => simp [intOf]; omega
    · have hin : i = m := by omega
      subst hin
      go_wp2_with fail
      refine (again_any op HC.out HD.out hn2 (by simp only [Nat.add_mul] at hc; omega) hL 0 (by omega)).mono ?_
      rintro e w4 ⟨p4, F4, G4, t4, rfl, h4, ht4⟩
      have H4 := Lib.hid h4
      have HT4 := Lib.hid (HT.out.trans ht4)
      clear h4 ht4
      go_wp2_with fail
      refine (all_any HC.out H4.out hn2 (by simp only [Nat.add_mul] at hc; omega) hL).mono ?_
      rintro e w5 ⟨rfl, F5, G5, t5, h5, ht5⟩
      have HT5 := Lib.hid (HT4.out.trans ht5)
      clear h5 ht5
      go_wp2_with fail
      go_ret
      exact ⟨rfl, _, HT5.out⟩
end

end Go.Proofs.Ytpcjdmbnlhjlaaa
