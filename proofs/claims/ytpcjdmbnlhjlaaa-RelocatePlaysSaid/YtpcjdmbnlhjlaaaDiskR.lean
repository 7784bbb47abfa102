/-
  Disks: Restart.
-/
import Derived.Test.YtpcjdmbnlhjlaaaGd
import Derived.Test.YtpcjdmbnlhjlaaaDiskP
import Derived.BigRegion
namespace Go.Proofs.Ytpcjdmbnlhjlaaa
set_option linter.unusedVariables false
open Go.RowKit
attribute [local go_sem] Oper.semAt_some

theorem DS.Ok.setDur {S : DS} (h : S.Ok) {i j v : Nat} (hi : i < S.dr.length) (hv : v < 18446744073709551616) : (S.setDur i j v).Ok := by
  have hm : S.drv i ∈ S.dr := by unfold DS.drv; rw [List.getElem?_eq_getElem hi]; exact List.getElem_mem _
  have hd := h.drv _ hm
  have hlen : ∀ k, ((S.setDur i j v).drv k).1.length = (S.drv k).1.length := by
    intro k
    rw [drv_set (S.setDur i j v) S.dr i k _ hi rfl]
    by_cases e : k = i
    · subst e; rw [if_pos rfl]
    · rw [if_neg e]; rfl
  refine ⟨by simp only [DS.setDur, List.length_set]; exact h.nd, ?_, ?_, h.fuse, h.wr⟩
  · intro x hx
    simp only [DS.setDur] at hx
    rcases List.mem_or_eq_of_mem_set hx with hx | rfl
    · exact h.drv x hx
    · exact ⟨hd.1, hd.2.1.set _ _ hv, by simp; exact hd.2.2.1, hd.2.2.2⟩
  · intro r hr
    rw [hlen]
    simp only [DS.setDur, List.length_set] at hr ⊢
    exact h.log r hr
/-- A disk's words become those that are durable. -/
def DS.cpOne (S : DS) (i : Nat) : DS := { S with dr := S.dr.set i ((S.drv i).2.1, (S.drv i).2.1, (S.drv i).2.2) }
theorem DS.Ok.cpOne {S : DS} (h : S.Ok) {i : Nat} (hi : i < S.dr.length) : (S.cpOne i).Ok := by
  have hm : S.drv i ∈ S.dr := by unfold DS.drv; rw [List.getElem?_eq_getElem hi]; exact List.getElem_mem _
  have hd := h.drv _ hm
  have hlen : ∀ k, ((S.cpOne i).drv k).1.length = (S.drv k).1.length := by
    intro k
    rw [drv_set (S.cpOne i) S.dr i k _ hi rfl]
    by_cases e : k = i
    · subst e; rw [if_pos rfl]; exact hd.2.2.1
    · rw [if_neg e]; rfl
  refine ⟨by simp only [DS.cpOne, List.length_set]; exact h.nd, ?_, ?_, h.fuse, h.wr⟩
  · intro x hx
    simp only [DS.cpOne] at hx
    rcases List.mem_or_eq_of_mem_set hx with hx | rfl
    · exact h.drv x hx
    · exact ⟨hd.2.1, hd.2.1, rfl, by rw [hd.2.2.1]; exact hd.2.2.2⟩
  · intro r hr
    rw [hlen]
    simp only [DS.cpOne, List.length_set] at hr ⊢
    exact h.log r hr
/-- Behind k of the unflushed writes. -/
def DS.rsTo (S : DS) (bs : List Bool) : Nat → DS
  | 0 => S
  | k + 1 => if bs[k]?.getD false = true then (S.rsTo bs k).setDur (S.log[k]?.getD (0, 0, 0)).1 (S.log[k]?.getD (0, 0, 0)).2.1 (S.log[k]?.getD (0, 0, 0)).2.2 else S.rsTo bs k
def DS.cpTo (S : DS) : Nat → DS
  | 0 => S
  | k + 1 => (S.cpTo k).cpOne k
/-- What Restart leaves. -/
def DS.restart (S : DS) (bs : List Bool) : DS := { (S.rsTo bs S.log.length).cpTo S.dr.length with log := [], fuse := 0, down := false }
theorem rsTo_len (S : DS) (bs : List Bool) (k : Nat) : (S.rsTo bs k).dr.length = S.dr.length ∧ (S.rsTo bs k).log = S.log ∧ (S.rsTo bs k).fuse = S.fuse ∧ (S.rsTo bs k).down = S.down ∧ (S.rsTo bs k).wr = S.wr := by
  induction k with
  | zero => exact ⟨rfl, rfl, rfl, rfl, rfl⟩
  | succ k ih =>
    rw [DS.rsTo]
    split
    · exact ⟨by simp only [DS.setDur, List.length_set]; exact ih.1, ih.2.1, ih.2.2.1, ih.2.2.2.1, ih.2.2.2.2⟩
    · exact ih
theorem cpTo_len (S : DS) (k : Nat) : (S.cpTo k).dr.length = S.dr.length ∧ (S.cpTo k).log = S.log ∧ (S.cpTo k).fuse = S.fuse ∧ (S.cpTo k).down = S.down ∧ (S.cpTo k).wr = S.wr := by
  induction k with
  | zero => exact ⟨rfl, rfl, rfl, rfl, rfl⟩
  | succ k ih =>
    rw [DS.cpTo]
    exact ⟨by simp only [DS.cpOne, List.length_set]; exact ih.1, ih.2.1, ih.2.2.1, ih.2.2.2.1, ih.2.2.2.2⟩

def RestartP (W : World) (F : Nat → Prop) (g : Nat) (S : DS) (bs : List Bool) (e : Ending) (W' : World) : Prop :=
  e = .returned (.tuple #[]) ∧ DskAt W' F g (S.restart bs) ∧ Fr F W W'

set_option maxRecDepth 100000 in
set_option maxHeartbeats 4000000 in
theorem arestart_any (W : World) (F : Nat → Prop) (g base n c : Nat) (S : DS) (A : Option Addr) (bs : List Bool) (h : DskAt W F g S) (hA : W.ownsRow base 4 1 (.slice A n c) n (bv bs)) (hn : bs.length = n) (hn2 : n ≤ 1000) (hAF : ∀ b, (Value.slice A n c).ownBlock = some b → ¬ F b) (hlog : S.log.length ≤ 1000000) :
    Calls Try.prog 55 #[.pointer (some ⟨g, 0, none⟩), .slice A n c] W (RestartP W F g S bs) := by
  obtain ⟨ho, dv, lv, mb, zs, hl, hin⟩ := h
  obtain ⟨Al, cl, hlv⟩ := own_form hl.log
  subst hlv
  obtain ⟨x0, x1, x2, x3, x4, x5⟩ := hl.cells
  have HN := Lib.hid hn
  have HAO := Lib.hid hA
  have HAF := Lib.hid hAF
  obtain ⟨LL, hLL⟩ : ∃ LL, S.log.length = LL := ⟨_, rfl⟩
  have HLL := Lib.hid hLL
  rw [hLL] at x2 hlog
  have HL0 := Lib.hid hl
  have HIN0 := Lib.hid hin
  have HO := Lib.hid ho
  have hgl := hl.arr.lt
  have hgF := hin.arr
  clear x0 x1 x3 x4 x5 hl hin ho hn hA hAF hLL
  go_enter Try.func55, Try.ntmps55
  go_wp2_with fail
  go_loopw [13] (fun i wr => ∃ (k : Nat) (zk : List Dl), k ≤ LL ∧ i = .int .i64 k ∧ DLay wr g (S.rsTo bs k) dv (.slice Al S.log.length cl) mb zk ∧ DIn F g dv (.slice Al S.log.length cl) mb zk ∧ (S.rsTo bs k).Ok ∧ Fr F W wr) (fun i _ => LL - (intOf i).toNat)
  case atStart => exact ⟨0, zs, Nat.zero_le _, rfl, HL0.out, HIN0.out, HO.out, Fr.refl _ _⟩
  case round =>
    rename World => wx
    obtain ⟨k, zk, hk, rfl, hl, hin, hok, hfr⟩ := hrel
    have HLk := Lib.hid hl
    have HINk := Lib.hid hin
    have HOKk := Lib.hid hok
    have HFk := Lib.hid hfr
    have HR := Lib.hid (rsTo_len S bs k)
    clear HL0 HIN0 HO x2
    by_cases hlt : k < LL
    · have hkl : k < S.log.length := by rw [HLL.out]; exact hlt
      obtain ⟨r, hr⟩ : ∃ r, S.log[k]? = some r := ⟨_, List.getElem?_eq_getElem hkl⟩
      have hrow := hl.log
      rw [HR.out.2.1] at hrow
      obtain ⟨bl, capl, hA, -, hbl⟩ := hrow.form (by omega)
      injection hA with hA2 _ hcap
      subst hA2
      subst hcap
      obtain ⟨q0, q1, q2⟩ := rcells_at S.log k r hr
      have c0 := (hrow.cellAt (k * 3) (by omega)).trans q0
      have c1 := (hrow.cellAt (k * 3 + 1) (by omega)).trans q1
      have c2 := (hrow.cellAt (k * 3 + 2) (by omega)).trans q2
      have hrm : r ∈ (S.rsTo bs k).log := by rw [HR.out.2.1]; exact List.mem_of_getElem? hr
      have hrb := hok.log r hrm
      have HRS : Hid (S.rsTo bs (k + 1) = if bs[k]?.getD false = true then (S.rsTo bs k).setDur r.1 r.2.1 r.2.2 else S.rsTo bs k) := by show _ = _; rw [DS.rsTo, hr]; rfl
      obtain ⟨d, j, v⟩ := r
      change d < (S.rsTo bs k).dr.length ∧ j < ((S.rsTo bs k).drv d).1.length ∧ v < 18446744073709551616 at hrb
      clear hrow q0 q1 q2 hl hin hok hfr hrm hr
      go_upto_region 3 with (fail)
      have hC5 := Cs.new wx 112 #[.int .i64 (d : Int), .int .i64 (j : Int), .int .u64 (v : Int)]
      have hb5 : Below wx.heap.size wx (wx.alloc (.cells #[.int .i64 (d : Int), .int .i64 (j : Int), .int .u64 (v : Int)] 112)) := (Below.refl _ _).alloc (Nat.le_refl _) _
      have HL5 := Lib.hid (HLk.out.keep hb5)
      have HF5 := Lib.hid (HFk.out.alloc (.cells #[.int .i64 (d : Int), .int .i64 (j : Int), .int .u64 (v : Int)] 112))
      have HA5 := Lib.hid (own_fr HAO.out HF5.out HAF.out)
      clear hb5 HLk HFk c0 c1 c2
      generalize (wx.alloc (.cells #[.int .i64 (d : Int), .int .i64 (j : Int), .int .u64 (v : Int)] 112)) = V at *
      generalize wx.heap.size = s5 at *
      have k0 : V.cell? ⟨s5, 0, none⟩ = some (.int .i64 (d : Int)) := hC5.cell 0
      have k1 : V.cell? ⟨s5, 1, none⟩ = some (.int .i64 (j : Int)) := hC5.cell 1
      have k2 : V.cell? ⟨s5, 2, none⟩ = some (.int .u64 (v : Int)) := hC5.cell 2
      go_cut [27] (fun s27 wy => s27 = .bool (bs[k]?.getD false) ∧ wy = V)
      case first =>
        by_cases hkn : k < n
        · obtain ⟨bA, cA, hA, hbA, hbAl⟩ := HA5.out.form (by omega)
          injection hA with hA2 _ hcA
          subst hA2
          subst hcA
          have ca := (HA5.out.cellAt k (by omega)).trans (bv_at bs k (by rw [HN.out]; exact hkn))
          have t2 : (k : Int) < (n : Int) := by omega
          generalize bs[k]?.getD false = q at *
          go_wp2_with fail
          go_meet
          case rel => exact ⟨rfl, rfl⟩
        · have t2 : ¬ (k : Int) < (n : Int) := by omega
          have hq : bs[k]?.getD false = false := by rw [List.getElem?_eq_none (by rw [HN.out]; omega)]; rfl
          go_wp2_with fail
          go_meet
          case rel => exact ⟨by rw [hq], rfl⟩
      case rest =>
        obtain ⟨rfl, rfl⟩ := hcut
        cases hq : bs[k]?.getD false
        · have hS1 : S.rsTo bs (k + 1) = S.rsTo bs k := by rw [HRS.out, hq]; rfl
          go_wp2_with fail
          go_roundw
          case rel => exact ⟨k + 1, zk, by omega, by go_num, by rw [hS1]; exact HL5.out, HINk.out, by rw [hS1]; exact HOKk.out, HF5.out⟩
          case measure => simp [intOf]; omega
        · have hS1 : S.rsTo bs (k + 1) = (S.rsTo bs k).setDur d j v := by rw [HRS.out, hq]; rfl
          obtain ⟨b, cap, z, hdv, hcl, hz, hzm, hx, e0, e1, e2⟩ := HL5.out.one d hrb.1
          subst hdv
          obtain ⟨x0, x1, x2, x3, x4, x5⟩ := HL5.out.cells
          have hcd := HL5.out.dur z hzm
          have hdrv := HOKk.out.drv z.x (by rw [HL5.out.dr]; exact List.mem_map_of_mem hzm)
          have hjl : j < z.x.2.1.length := by rw [hdrv.2.2.1, hx]; exact hrb.2.1
          have hce : wc.cell? ⟨z.db, j, none⟩ = some (.int .u64 ((z.x.2.1[j]?.getD 0 : Nat) : Int)) := by rw [hcd.cell j, List.getElem?_toArray, uv_at _ _ hjl]
          have hfe := hcd.free j
          have hL6 := HL5.out.dur_set d j v z hz hx
          have hIN6 := HINk.out.setz d z ⟨z.nb, z.db, (z.x.1, z.x.2.1.set j v, z.x.2.2)⟩ hz rfl rfl
          have hF6 := HF5.out.set (b := z.db) (i := j) (.inl (HINk.out.dur z hzm)) (.int .u64 (v : Int))
          have HL6 := Lib.hid hL6
          have HIN6 := Lib.hid hIN6
          have HF6 := Lib.hid hF6
          have HOK6 := Lib.hid (HOKk.out.setDur (j := j) hrb.1 hrb.2.2)
          generalize z.x.2.1.length = zl at *
          generalize z.x.2.1[j]?.getD 0 = old at hce
          have t3 : (d : Int) < ((S.rsTo bs k).dr.length : Int) := by have := hrb.1; omega
          have t4 : (j : Int) < (zl : Int) := by omega
          clear hL6 hIN6 hF6 e0 e2 x1 x2 x3 x4 x5
          go_wp2_with fail
          go_region
          go_wp2_with fail
          go_roundw
          case rel => exact ⟨k + 1, _, by omega, by go_num, by rw [hS1]; exact HL6.out.keep (Below.refl _ _).drew, HIN6.out, by rw [hS1]; exact HOK6.out, HF6.out.drew⟩
          case measure => simp [intOf]; omega
    · have hkn : k = LL := by omega
      subst hkn
      obtain ⟨S1, hS1⟩ : ∃ S1, S.rsTo bs k = S1 := ⟨_, rfl⟩
      rw [hS1] at HLk HOKk HR hl hok
      have HS1 := Lib.hid hS1
      obtain ⟨Ad, cd, hdv⟩ := own_form HLk.out.drv
      subst hdv
      obtain ⟨x0, x1, x2, x3, x4, x5⟩ := HLk.out.cells
      obtain ⟨i0, hi0, hz0, hz1, hz2⟩ := info_parts u64_info
      have hone : (Try.prog.info? 32).map (·.size) = some 1 := by rw [hi0, Option.map_some, hz1]
      have hnd := HOKk.out.nd
      clear x1 x2 x3 x4 x5 hl hok hin hfr hS1
      obtain ⟨nd, hndq⟩ : ∃ nd, S1.dr.length = nd := ⟨_, rfl⟩
      have HND := Lib.hid hndq
      rw [hndq] at x0 hnd
      clear hndq
      go_wp2_with fail
      go_loopw [50] (fun i wr => ∃ (q : Nat) (zq : List Dl), q ≤ nd ∧ i = .int .i64 q ∧ DLay wr g (S1.cpTo q) (.slice Ad S1.dr.length cd) (.slice Al S.log.length cl) mb zq ∧ DIn F g (.slice Ad S1.dr.length cd) (.slice Al S.log.length cl) mb zq ∧ (S1.cpTo q).Ok ∧ Fr F W wr) (fun i _ => nd - (intOf i).toNat)
      case atStart => exact ⟨0, zk, Nat.zero_le _, rfl, HLk.out, HINk.out, HOKk.out, HFk.out⟩
      case round =>
        rename World => wy
        obtain ⟨q, zq, hq, rfl, hl, hin, hok, hfr⟩ := hrel
        have HLq := Lib.hid hl
        have HINq := Lib.hid hin
        have HOKq := Lib.hid hok
        have HFq := Lib.hid hfr
        have HRq := Lib.hid (cpTo_len S1 q)
        clear HLk HINk HOKk HFk hl hin hok hfr x0
        by_cases hlt : q < nd
        · obtain ⟨b, cap, z, hdv, hcl, hz, hzm, hx, c0, c1, c2⟩ := HLq.out.one q (by rw [HRq.out.1, HND.out]; exact hlt)
          injection hdv with hA2 _ hcap
          subst hA2
          subst hcap
          have hdrv := HOKq.out.drv z.x (by rw [HLq.out.dr]; exact List.mem_map_of_mem hzm)
          have hlen := hdrv.2.2.1
          have hb5 : Below wy.heap.size wy (wy.alloc (.cells #[.slice (some ⟨z.nb, 0, none⟩) z.x.1.length z.x.1.length, .slice (some ⟨z.db, 0, none⟩) z.x.2.1.length z.x.2.1.length, .bool z.x.2.2] 89)) := (Below.refl _ _).alloc (Nat.le_refl _) _
          have hC5 := Cs.new wy 89 #[.slice (some ⟨z.nb, 0, none⟩) z.x.1.length z.x.1.length, .slice (some ⟨z.db, 0, none⟩) z.x.2.1.length z.x.2.1.length, .bool z.x.2.2]
          have HL5 := Lib.hid (HLq.out.keep hb5)
          have HF5 := Lib.hid (HFq.out.alloc (.cells #[.slice (some ⟨z.nb, 0, none⟩) z.x.1.length z.x.1.length, .slice (some ⟨z.db, 0, none⟩) z.x.2.1.length z.x.2.1.length, .bool z.x.2.2] 89))
          have HXX := Lib.hid hx
          have HLEN := Lib.hid hlen
          have HDRV := Lib.hid hdrv
          clear hb5 HLq HFq hx hlen hdrv
          go_upto_region 9 with (fail)
          generalize (wy.alloc (.cells #[.slice (some ⟨z.nb, 0, none⟩) z.x.1.length z.x.1.length, .slice (some ⟨z.db, 0, none⟩) z.x.2.1.length z.x.2.1.length, .bool z.x.2.2] 89)) = V at *
          generalize wy.heap.size = s5 at *
          have k0 : V.cell? ⟨s5, 0, none⟩ = some (.slice (some ⟨z.nb, 0, none⟩) z.x.1.length z.x.1.length) := hC5.cell 0
          have k1 : V.cell? ⟨s5, 1, none⟩ = some (.slice (some ⟨z.db, 0, none⟩) z.x.2.1.length z.x.2.1.length) := hC5.cell 1
          have hcn : V.heap[z.nb]? = some (.cells (uv z.x.1).toArray 32 (0, 0)) := HL5.out.now z hzm
          have hcd := HL5.out.dur z hzm
          have hsrc : ∀ (j : Nat) v, (uv z.x.2.1)[j]? = some v → V.cell? ((⟨z.db, 0, none⟩ : Addr).add j) = some v := by
            intro j v hj
            rw [Addr.add_lit, Nat.zero_add, hcd.cell j, List.getElem?_toArray]
            exact hj
          have hcs : (uv z.x.2.1).length = Nat.min z.x.2.1.length z.x.1.length := by rw [uv_length, HLEN.out]; exact (Nat.min_self _).symm
          have hfit : 0 + (uv z.x.2.1).length ≤ (uv z.x.1).toArray.size := by rw [List.size_toArray, uv_length, uv_length, HLEN.out]; omega
          have hfull : (uv z.x.2.1).length = (uv z.x.1).toArray.size := by rw [List.size_toArray, uv_length, uv_length, HLEN.out]
          have hL6 := HL5.out.now_fr q z hz z.x.2.1 HLEN.out (fr_row V z.nb (uv z.x.2.1).toArray) (setRow_heap V z.nb _ _ _ _ hcn)
          have hcp : ({ S1.cpTo q with dr := (S1.cpTo q).dr.set q (z.x.2.1, ((S1.cpTo q).drv q).2.1, ((S1.cpTo q).drv q).2.2) } : DS) = S1.cpTo (q + 1) := by rw [DS.cpTo, DS.cpOne, HXX.out]
          rw [hcp] at hL6
          have hIN6 := HINq.out.setz q z ⟨z.nb, z.db, (z.x.2.1, z.x.2.1, z.x.2.2)⟩ hz rfl rfl
          have hF6 : Fr F W (V.setRow z.nb (uv z.x.2.1).toArray) := HF5.out.trans ((fr_row V z.nb (uv z.x.2.1).toArray).mono (fun j _ e => e ▸ HINq.out.now z hzm))
          have hOK6 : (S1.cpTo (q + 1)).Ok := by rw [DS.cpTo]; exact HOKq.out.cpOne (by rw [HRq.out.1, HND.out]; exact hlt)
          have HL6 := Lib.hid hL6
          have HIN6 := Lib.hid hIN6
          have HF6 := Lib.hid hF6
          have HOK6 := Lib.hid hOK6
          clear hL6 hIN6 hF6 hOK6 hcp c0 c1 c2
          go_wp2_with ((with_reducible refine wpList_copy_own (o := ⟨some 58, _, _, _, _, _⟩) rfl (.tmp 55) (.tmp 57) 30 30 rfl 32 Try.underlying30 hone z.nb 0 z.x.1.length z.x.1.length ⟨z.db, 0, none⟩ z.x.2.1.length z.x.2.1.length rfl rfl (uv z.x.1).toArray 32 hcn (uv z.x.2.1) hcs hsrc hfit (uv_one _) ?_); rw [row_full _ _ hfull])
          clear hcn hcs hsrc hfit hfull k0 k1 hC5
          generalize (V.setRow z.nb (uv z.x.2.1).toArray) = V2 at *
          go_roundw
          case rel => exact ⟨q + 1, _, by omega, by go_num, HL6.out, HIN6.out, HOK6.out, HF6.out⟩
          case measure => simp [intOf]; omega
        · have hqn : q = nd := by omega
          subst hqn
          obtain ⟨y0, y1, y2, y3, y4, y5⟩ := HLq.out.cells
          have f2 := HLq.out.arr.free 2
          have hL1 := (HLq.out.log_set (lv' := .slice none 0 0) (l' := []) (World.grownBy.refl _ _) (World.ownsRow_nil _ _ _ _)).1
          have hL2 := hL1.setDown false
          have hL3 := hL2.setFuse 0
          have hIN3 : DIn F g (.slice Ad S1.dr.length cd) (.slice none 0 0) mb zq := ⟨HINq.out.arr, HINq.out.map, HINq.out.drv, fun b hb => by simp [Value.ownBlock] at hb, HINq.out.now, HINq.out.dur⟩
          have hF3 := ((HFq.out.set (b := g) (i := 2) (.inl hgF) (.slice none 0 0)).set (b := g) (i := 4) (.inl hgF) (.bool false)).set (b := g) (i := 3) (.inl hgF) (.int .i64 0)
          have HL3 := Lib.hid hL3
          have HIN3 := Lib.hid hIN3
          have HF3 := Lib.hid hF3
          have f4 := hL1.arr.free 4
          have f3 := hL2.arr.free 3
          have y4' := hL1.cells.2.2.2.2.1
          have y3' := hL2.cells.2.2.2.1
          have hrs : S.restart bs = { S1.cpTo q with log := [], fuse := 0, down := false } := by
            unfold DS.restart
            rw [HLL.out, HS1.out, ← HR.out.1, HND.out]
          have HRS2 := Lib.hid hrs
          clear hL1 hL2 hL3 hIN3 hF3 hrs
          go_wp2_with fail
          refine bodyPost_end (v := .tuple #[]) (by simp [results, Try.f55, go_sem]) rfl ?_
          have hok : ({ S1.cpTo q with log := [], fuse := 0, down := false } : DS).Ok := ⟨HOKq.out.nd, HOKq.out.drv, (by intro r hr; cases hr), (by show (0 : Int) ≤ 0 ∧ (0 : Int) ≤ 9223372036854775807; omega), HOKq.out.wr⟩
          exact ⟨rfl, by rw [HRS2.out]; exact ⟨hok, _, _, mb, _, HL3.out, HIN3.out⟩, HF3.out⟩

end Go.Proofs.Ytpcjdmbnlhjlaaa
