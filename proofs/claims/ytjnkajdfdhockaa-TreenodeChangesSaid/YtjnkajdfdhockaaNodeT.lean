/-
  ref25.with.
-/
import Derived.Test.YtjnkajdfdhockaaNodeS
namespace Go.Proofs.Ytjnkajdfdhockaa
set_option linter.unusedVariables false
open Go.RowKit

/-- A part: its address, capacity and entries. -/
structure Part where
  A : Option Addr
  c : Nat
  l : List (Int × Nat)
def Part.v (p : Part) : Value := .slice p.A p.l.length p.c
def flat (ps : List Part) : List (Int × Nat) := ps.flatMap Part.l
theorem flat_snoc (ps : List Part) (p : Part) : flat (ps ++ [p]) = flat ps ++ p.l := by simp [flat]
theorem flat_take (ps : List Part) (k : Nat) (h : k < ps.length) : flat (ps.take (k + 1)) = flat (ps.take k) ++ (ps[k]).l := by
  rw [List.take_succ_eq_append_getElem h, flat_snoc]

/-- An append to the entries of a node that lies in a block. -/
theorem app_field {w5 w6 : World} {Bn base n : Nat} {a b v v1 : Value} {xs ys : List Value} {m : Nat}
    (hc : Cs w5 Bn 27 #[a, b, v]) (hr : w5.ownsRow base 52 2 v n xs) (h1 : w6.ownsRow base 52 2 v1 m ys) (hg : w5.grownBy w6 v.ownBlock) (hB : Bn < base) (hs : base ≤ w5.heap.size) :
    Cs w6 Bn 27 #[a, b, v] ∧ Cs (w6.setCell ⟨Bn, 2, none⟩ v1) Bn 27 #[a, b, v1] ∧ (w6.setCell ⟨Bn, 2, none⟩ v1).ownsRow base 52 2 v1 m ys ∧ Below Bn w5 (w6.setCell ⟨Bn, 2, none⟩ v1) ∧ base ≤ (w6.setCell ⟨Bn, 2, none⟩ v1).heap.size := by
  have hc6 : Cs w6 Bn 27 #[a, b, v] := hc.grown hg (hc.not_row hr (by decide))
  have hbl : Below base w5 w6 := (Below.refl _ w5).grown hg hs (own_base hr)
  refine ⟨hc6, hc6.set3, h1.kept (row := some Bn) ⟨rfl, rfl, rfl, by simp, fun j _ hj => Below.heap_setCell _ _ _ j (fun e => hj (by rw [e]))⟩ (.inr (fun e => hc6.not_row h1 (by decide) e.symm)), (hbl.mono (Nat.le_of_lt hB)).setCell (p := ⟨Bn, 2, none⟩) (Nat.le_refl _) _, ?_⟩
  have := hbl.size
  simp
  omega

set_option maxRecDepth 100000 in
set_option maxHeartbeats 1000000 in
theorem with_any (lv sq : Int) (A0 : Option Addr) (n0 c0 gb cb m : Nat) (ps : List Part) (w : World) (hm : ps.length = m) (hgb : Cs w gb 25 (ps.map Part.v).toArray) (hps : ∀ p ∈ ps, Reads w p.A (ev p.l)) (hml : m ≤ 10) (hlen : (flat ps).length ≤ 100000) :
    Calls Try.prog 48 #[.agg #[.int .i64 lv, .int .i64 sq, .slice A0 n0 c0], .slice (some ⟨gb, 0, none⟩) m cb] w fun e w' => ∃ v, e = .returned (.agg #[.int .i64 lv, .int .i64 sq, v]) ∧ w'.ownsRow w.heap.size 52 2 v (flat ps).length (ev (flat ps)) ∧ Below w.heap.size w w' := by
  obtain ⟨i0, hi0, hz0, hz1, hz2⟩ := info_parts entry_info
  have HM := Lib.hid hm
  have HP := Lib.hid hps
  have HG := Lib.hid hgb
  have hgl := hgb.lt
  obtain ⟨W, hW⟩ : ∃ W, W = ((w.alloc (.cells #[.int .i64 lv, .int .i64 sq, .slice A0 n0 c0] 27)).alloc (.cells #[.int .i64 0, .int .i64 0, .slice none 0 0] 27)).alloc (.cells #[.int .i64 lv, .int .i64 sq, .slice none 0 0] 27) := ⟨_, rfl⟩
  have C1 : Cs W (w.heap.size + 1) 27 #[.int .i64 0, .int .i64 0, .slice none 0 0] := by
    rw [hW]; have := (Cs.new (w.alloc (.cells #[.int .i64 lv, .int .i64 sq, .slice A0 n0 c0] 27)) 27 #[.int .i64 0, .int .i64 0, .slice none 0 0]).alloc (.cells #[.int .i64 lv, .int .i64 sq, .slice none 0 0] 27)
    rw [World.size_alloc] at this; exact this
  have C2 : Cs W (w.heap.size + 1 + 1) 27 #[.int .i64 lv, .int .i64 sq, .slice none 0 0] := by
    rw [hW]; have := Cs.new ((w.alloc (.cells #[.int .i64 lv, .int .i64 sq, .slice A0 n0 c0] 27)).alloc (.cells #[.int .i64 0, .int .i64 0, .slice none 0 0] 27)) 27 #[.int .i64 lv, .int .i64 sq, .slice none 0 0]
    rw [World.size_alloc, World.size_alloc] at this; exact this
  have hB : Below w.heap.size w W := by
    rw [hW]; exact ((((Below.refl _ w).alloc (Nat.le_refl _) _).alloc (by simp) _).alloc (by simp; omega) _)
  have hszW : W.heap.size = w.heap.size + 1 + 1 + 1 := by rw [hW]; simp
  have HW := Lib.hid hW
  have K1 := Lib.hid C1
  have K2 := Lib.hid C2
  have hs1 : w.heap.size + 1 + 1 < W.heap.size := by omega
  have hs2 : W.heap.size ≤ w.heap.size + 1 + 1 + 1 := by omega
  clear hm hps hgb hW C1 C2 hszW
  go_enter Try.func48, Try.ntmps48
  go_wp2_with fail
  rw [← HW.out]
  clear HW
  go_loopw [6] (fun i wr => ∃ (k : Nat) (v : Value), k ≤ m ∧ i = .int .i64 k ∧ Cs wr (w.heap.size + 1 + 1) 27 #[.int .i64 lv, .int .i64 sq, v] ∧ wr.ownsRow W.heap.size 52 2 v (flat (ps.take k)).length (ev (flat (ps.take k))) ∧ Below (w.heap.size + 1 + 1) W wr ∧ W.heap.size ≤ wr.heap.size) (fun i _ => m - (intOf i).toNat)
  case atStart => exact ⟨0, _, Nat.zero_le _, rfl, K2.out, World.ownsRow_nil _ _ _ _, Below.refl _ _, Nat.le_refl _⟩
  case round =>
    obtain ⟨k, v, hk, rfl, hc, hrow, hbr, hsz⟩ := hrel
    obtain ⟨A1, c1, rfl⟩ := own_form hrow
    obtain ⟨x0, x1, x2, y0, y1, y2⟩ := hc.at3
    have hbwr := hB.trans (hbr.mono (show w.heap.size ≤ w.heap.size + 1 + 1 by omega))
    by_cases hlt : k < m
    · have hkl : k < ps.length := by rw [HM.out]; exact hlt
      have hfl := flat_take ps k hkl
      have hpm := HP.out _ (List.getElem_mem hkl)
      have hcell := (HG.out.below hbwr hgl).cell k
      rw [List.getElem?_toArray, List.getElem?_map, List.getElem?_eq_getElem hkl] at hcell
      have hlen2 : (flat (ps.take (k + 1))).length ≤ (flat ps).length := by
        have : flat ps = flat (ps.take (k + 1)) ++ flat (ps.drop (k + 1)) := by unfold flat; rw [← List.flatMap_append, List.take_append_drop]
        rw [this, List.length_append]; omega
      rw [hfl, List.length_append] at hlen2
      obtain ⟨p, hp⟩ : ∃ p, ps[k] = p := ⟨_, rfl⟩
      rw [hp] at hfl hpm hcell hlen2
      have hcell2 : wr.cell? ⟨gb, k, none⟩ = some (.slice p.A p.l.length p.c) := hcell
      have hrd := hpm.keep hbwr
      have HFL := Lib.hid hfl
      have HRD := Lib.hid hrd
      have HROW := Lib.hid hrow
      have HC := Lib.hid hc
      obtain ⟨F, hF⟩ : ∃ F, (flat (ps.take k)).length = F := ⟨_, rfl⟩
      rw [hF] at hlen2 HC HROW x2
      have HF := Lib.hid hF
      have ex : ev (flat (ps.take (k + 1))) = ev (flat (ps.take k)) ++ ev p.l := by rw [hfl, ev_append]
      have EX := Lib.hid ex
      clear hfl hcell hpm hp hrow hc hrd ex
      clear hF
      go_wp2_with fail
      go_still_tail 6, (by kernel_rfl)
      change wpList _ _ _ _ _ wr.drew
      refine wpList_append_reads _ (by rfl) (.tmp 19) (.tmp 23) _ (by rfl) W.heap.size 52 i0 _ 2 16 Try.underlying25 hi0 hz0 hz1 hz2 (by rfl) (by omega) (.slice A1 F c1) F (ev (flat (ps.take k))) (by rfl) (World.ownsRow.drew HROW.out) p.A p.l.length p.c (ev p.l) (by rfl) (ev_length _) (show Reads wr.drew _ _ from HRD.out) (ev_one _) (by simp only [maxLen]; omega) (by omega) hsz ?_
      intro v1 w6 hown6 hg6 hat6
      obtain ⟨A2, c2, rfl⟩ := own_form hown6
      have hg7 := grown_undrew hg6
      obtain ⟨s1, s2, s3, s4, s5⟩ := app_field HC.out HROW.out hown6 hg7 (by omega) hsz
      obtain ⟨r0, r1, r2, r3, r4, r5⟩ := s1.at3
      have S2 := Lib.hid s2
      have S3 := Lib.hid s3
      clear s1 s2 s3 hown6 hg6 hat6 hg7 x0 x1 x2 y0 y1 y2 hcell2
      go_wp2_with fail
      go_roundw
      case rel =>
        refine ⟨k + 1, _, by omega, by go_num, S2.out, ?_, hbr.trans s4, s5⟩
        rw [EX.out, HFL.out, List.length_append, HF.out]
        exact S3.out
      case measure => simp [intOf]; omega
    · have hkm : k = m := by omega
      have ht : ps.take k = ps := List.take_of_length_le (by rw [HM.out]; omega)
      rw [ht] at hrow hc x2
      have hC1 := K1.out.below hbr (by omega)
      obtain ⟨d0, d1, d2, d3, d4, d5⟩ := hC1.at3
      have hq := Lib.hid (hC1.put3 (.int .i64 lv) (.int .i64 sq) (.slice A1 (flat ps).length c1))
      have ho := Lib.hid (own_put3 (x := .int .i64 lv) (y := .int .i64 sq) (z := .slice A1 (flat ps).length c1) hC1 hrow)
      have hb := below_put3 hbwr (show w.heap.size ≤ w.heap.size + 1 by omega) (.int .i64 lv) (.int .i64 sq) (.slice A1 (flat ps).length c1)
      have hneq : w.heap.size + 1 ≠ w.heap.size + 1 + 1 := by omega
      clear hkm ht hrow hc hC1
      generalize hFF : (flat ps).length = F at *
      have HFF := Lib.hid hFF
      clear hFF
      go_wp2_with fail
      generalize (((wr.setCell _ _).setCell _ _).setCell _ _) = w8 at hq ho hb ⊢
      clear x0 x1 x2 y0 y1 y2 d0 d1 d2 d3 d4 d5
      obtain ⟨x0, x1, x2, _⟩ := hq.out.at3
      exact bodyPost_ret (v := .agg #[.int .i64 lv, .int .i64 sq, .slice A1 F c1]) (by simp [results, Try.f48, go_sem, x0, x1, x2]) rfl ⟨_, rfl, by rw [HFF.out]; exact own_lower ho.out (show w.heap.size ≤ W.heap.size by omega), hb⟩

end Go.Proofs.Ytjnkajdfdhockaa
