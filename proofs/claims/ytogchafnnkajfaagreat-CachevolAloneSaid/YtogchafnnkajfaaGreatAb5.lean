/-
  Merged texts (VolJ VolK KB VolL VolM VpC VpD VpE VpF VpG VpH VpI VpJ KZ VpK VpL VpM VpN TrkEV TrkFV): what the row proofs use of them.
-/
import Derived.Test.YtogchafnnkajfaaGreatAb4
import Derived.BigQuiet
import Derived.Deep.QuietTactic
namespace Go.Proofs.YtogchafnnkajfaaGreat
set_option linter.unusedVariables false
open Go.RowKit
attribute [local go_sem] Oper.semAt_some m_write m_read m_flush m_size

/-- What Read answers. -/
def VS.rdR (C : VC) (V : VS) (a : Nat) : Nat × Int :=
  if (V.slt C a).2.1 ≠ 0 then (0, (V.slt C a).2.1)
  else if (V.slt C a).1 < 0 then ((V.slt C a).2.2.S.sread 0 C.n0 (a : Int), (V.slt C a).2.2.S.sE 0 C.n0 (a : Int))
  else ((V.slt C a).2.2.S.sread 1 C.n1 (((V.slt C a).1.toNat * C.chunk + a % C.chunk : Nat) : Int), (V.slt C a).2.2.S.sE 1 C.n1 (((V.slt C a).1.toNat * C.chunk + a % C.chunk : Nat) : Int))
/-- What Write does. -/
def VS.wrt (C : VC) (V : VS) (a v : Nat) : Int × VS :=
  if (V.slt C a).2.1 ≠ 0 then ((V.slt C a).2.1, (V.slt C a).2.2)
  else if (V.slt C a).1 < 0 then ((V.slt C a).2.2.S.swE 0 C.n0 (a : Int), (V.slt C a).2.2.wr0 C a v)
  else if (V.slt C a).2.2.pm = true then (V.slt C a).2.2.bck C (V.slt C a).1.toNat a v ((V.slt C a).2.2.x.at_ (V.slt C a).1.toNat)
  else (V.slt C a).2.2.thr C (V.slt C a).1.toNat a v

def RdP (W : World) (Fv : Nat → Prop) (C : VC) (r : Nat × Int) (V' : VS) (e : Ending) (w : World) : Prop := e = .returned (.tuple #[.int .u64 (r.1 : Int), .int .i64 r.2]) ∧ r.1 < 18446744073709551616 ∧ ∃ Fv', VolAt w Fv' C V' ∧ Turn Fv Fv' W w

set_option maxRecDepth 100000 in
set_option maxHeartbeats 4000000 in
theorem vread_any (W : World) (Fv : Nat → Prop) (C : VC) (V : VS) (a : Nat) (h : VolAt W Fv C V) (hok : V.x.Ok) (hlen : V.x.sl.length = V.ss.length) (hclo : V.closed = false) (ha : a < C.n0) (hclk : V.x.clk < 1099511627776) (hc1 : 1 ≤ C.chunk)
    (hch : C.chunk ≤ 127) (hn0 : C.n0 ≤ 65536) (hn1 : C.n1 ≤ 65536) (hn2 : C.n2 ≤ 65536) (hlog : V.S.log.length + 2 * C.chunk + 2 < 1000000) (hwr : V.S.wr + 2 * C.chunk + 2 ≤ 999999) :
    Calls Tryz.prog 22 #[.pointer (some ⟨C.v, 0, none⟩), .int .i64 (a : Int)] W (RdP W Fv C (V.rdR C a) (V.slt C a).2.2) := by
  have HS := Lib.hid (vslot_any W Fv C V a h hok hlen hclo ha hclk hc1 hch hn0 hn1 hn2 hlog hwr)
  have hso := slt_ok (C := C) hok hlen ha hn0 hclk
  have hln := hok.len
  have hE : V.rdR C a = if (V.slt C a).2.1 ≠ 0 then (0, (V.slt C a).2.1)
    else if (V.slt C a).1 < 0 then ((V.slt C a).2.2.S.sread 0 C.n0 (a : Int), (V.slt C a).2.2.S.sE 0 C.n0 (a : Int))
    else ((V.slt C a).2.2.S.sread 1 C.n1 (((V.slt C a).1.toNat * C.chunk + a % C.chunk : Nat) : Int), (V.slt C a).2.2.S.sE 1 C.n1 (((V.slt C a).1.toNat * C.chunk + a % C.chunk : Nat) : Int)) := rfl
  generalize V.rdR C a = rR at *
  generalize V.slt C a = q at *
  obtain ⟨qk, qe, qV⟩ := q
  dsimp only at hE hso ⊢
  unfold SlP at HS
  dsimp only at HS
  have HE := Lib.hid hE
  have HSO := Lib.hid hso
  clear hE hso h hok hlen hclo
  go_enter Tryz.func22, Tryz.ntmps22
  go_upto_region 2 with (go_at_call 54; refine HS.out.mono ?_; rintro e w1 ⟨rfl, Fv1, hv1, ht1⟩; have HV1 := Lib.hid hv1; have HT1 := Lib.hid ht1; clear hv1 ht1)
  clear HS
  by_cases h1 : qe = 0
  rotate_left
  · have hq : (qe != 0) = true := by simpa using h1
    have HE1 : Hid (rR = (0, qe)) := HE.out.trans (if_pos h1)
    clear HE
    go_wp2_with fail
    go_ret2
    rw [HE1.out]
    exact ⟨rfl, by dsimp only; omega, Fv1, HV1.out, HT1.out⟩
  have hso := HSO.out h1
  have HE1 := Lib.hid (HE.out.trans (if_neg (fun e => e h1)))
  subst h1
  clear HE HSO
  obtain ⟨Fc, A, c, B, d, h⟩ := HV1.out
  obtain ⟨c0, c1, c2, c3, c4, c5, c6, c7, c8, c9⟩ := h.cells
  have HH := Lib.hid h
  have HVO : Hid (VolAt w1 Fv1 C qV) := ⟨_, _, _, _, _, h⟩
  clear HV1 h c0 c1 c2 c3 c7 c8 c9
  rcases hso with rfl | ⟨k, x, rfl, hk, -, -, -⟩
  · have HE2 : Hid (rR = (qV.S.sread 0 C.n0 (a : Int), qV.S.sE 0 C.n0 (a : Int))) := HE1.out
    have HRD := Lib.hid (cread_any w1 Fc C.g C.s2 C.m C.n2 C.s0 0 C.n0 qV.S qV.ss (C.chunk : Int) qV.md qV.op (a : Int) HH.out.cache HH.out.sp0 hn0)
    have hlt : qV.S.sread 0 C.n0 (a : Int) < 18446744073709551616 := HH.out.cache.lt
    clear HE1 c4 c6
    go_wp2_with (go_at_call 190; refine HRD.out.mono ?_; rintro e w2 ⟨rfl, hb2⟩; have HB2 := Lib.hid hb2; clear hb2)
    go_ret2
    rw [HE2.out]
    exact ⟨rfl, hlt, Fv1, HVO.out.keep HB2.out, HT1.out.trans (Turn.of_below HB2.out)⟩
  · have hmul1 : k * C.chunk ≤ 1024 * 127 := Nat.mul_le_mul (by omega) hch
    have hmod := Nat.mod_lt a (show 0 < C.chunk by omega)
    have em1 : IntKind.i64.wrap ((k : Int) * (C.chunk : Int)) = ((k * C.chunk : Nat) : Int) := by
      rw [← Int.natCast_mul]; exact IntWalk.i64_in _ (by omega)
    have em2 := tmod_nat a C.chunk
    have em3 := emod_n33 a C.chunk
    have em4 : IntKind.i64.wrap (((k * C.chunk : Nat) : Int) + ((a % C.chunk : Nat) : Int)) = ((k * C.chunk + a % C.chunk : Nat) : Int) := by
      rw [IntWalk.i64_in _ (by omega)]; rfl
    have HE2 : Hid (rR = (qV.S.sread 1 C.n1 ((k * C.chunk + a % C.chunk : Nat) : Int), qV.S.sE 1 C.n1 ((k * C.chunk + a % C.chunk : Nat) : Int))) := HE1.out.trans (if_neg (by omega))
    generalize hka : k * C.chunk = ka at *
    generalize hkm : a % C.chunk = am at *
    have em5 : (ka : Int) + (am : Int) = ((ka + am : Nat) : Int) := rfl
    have hjb : ka + am ≤ 140000 := by omega
    generalize hj : ka + am = j at *
    have em6 : IntKind.i64.wrap (j : Int) = (j : Int) := IntWalk.i64_in _ (by omega)
    have t0 : ¬ (C.chunk : Int) = 0 := by omega
    have t0' : ¬ C.chunk = 0 := by omega
    have t1 : ¬ (k : Int) < 0 := by omega
    have HRD : Hid (∀ w, Below w1.heap.size w1 w → _) := fun w hw => cread_any w Fc C.g C.s2 C.m C.n2 C.s1 1 C.n1 qV.S qV.ss (C.chunk : Int) qV.md qV.op (j : Int) (HH.out.cache.keep hw) (HH.out.sp1.below hw HH.out.sp1.lt) hn1
    have hlt : qV.S.sread 1 C.n1 (j : Int) < 18446744073709551616 := HH.out.cache.lt
    clear HE1 c5 hka hkm hmul1 hj
    go_upto_region 6 with (fail)
    have kk : w1.drew.cell? ⟨C.v, 4, none⟩ = some (.int .i64 (C.chunk : Int)) ∧ w1.drew.cell? ⟨C.v, 6, none⟩ = some (.iface 176 (.pointer (some ⟨C.s1, 0, none⟩))) := ⟨c4, c6⟩
    go_region_held3 (fun w' => w'.cell? ⟨C.v, 4, none⟩ = some (.int .i64 (C.chunk : Int)) ∧ w'.cell? ⟨C.v, 6, none⟩ = some (.iface 176 (.pointer (some ⟨C.s1, 0, none⟩))))
      (first | with_reducible exact kk | with_reducible exact z1)
      (first | (go_at_call 190; (with_reducible refine (HRD.out w1.drew (Below.refl _ w1).drew).mono ?_); rintro e w2 ⟨rfl, hb2⟩; have z1 : w2.cell? ⟨C.v, 4, none⟩ = some (.int .i64 (C.chunk : Int)) ∧ w2.cell? ⟨C.v, 6, none⟩ = some (.iface 176 (.pointer (some ⟨C.s1, 0, none⟩))) := ⟨(hb2.cell (p := ⟨C.v, 4, none⟩) HH.out.vol.lt).trans c4, (hb2.cell (p := ⟨C.v, 6, none⟩) HH.out.vol.lt).trans c6⟩))
    have HB2 : Hid (Below w1.heap.size w1 w2) := (Below.refl _ w1).drew.trans hb2
    clear hb2 kk z1 HRD
    go_wp2_with fail
    go_ret2
    rw [HE2.out]
    exact ⟨rfl, hlt, Fv1, HVO.out.keep HB2.out, HT1.out.trans (Turn.of_below HB2.out)⟩

set_option maxRecDepth 100000 in
set_option maxHeartbeats 4000000 in
theorem vwrite_any (W : World) (Fv : Nat → Prop) (C : VC) (V : VS) (a v : Nat) (h : VolAt W Fv C V) (hok : V.x.Ok) (hlen : V.x.sl.length = V.ss.length) (hclo : V.closed = false) (ha : a < C.n0) (hv : v < 18446744073709551616) (hclk : V.x.clk < 1099511627776) (hc1 : 1 ≤ C.chunk)
    (hch : C.chunk ≤ 127) (hn0 : C.n0 ≤ 65536) (hn1 : C.n1 ≤ 65536) (hn2 : C.n2 ≤ 65536) (hlog : V.S.log.length + 2 * C.chunk + 6 < 1000000) (hwr : V.S.wr + 2 * C.chunk + 6 ≤ 999980) :
    Calls Tryz.prog 31 #[.pointer (some ⟨C.v, 0, none⟩), .int .i64 (a : Int), .int .u64 (v : Int)] W (VolP W Fv C (.int .i64 (V.wrt C a v).1) (V.wrt C a v).2) := by
  have HS := Lib.hid (vslot_any W Fv C V a h hok hlen hclo ha hclk hc1 hch hn0 hn1 hn2 (by omega) (by omega))
  have hso := slt_ok (C := C) hok hlen ha hn0 hclk
  have hbd := Bd.slt (C := C) hok hlen ha hn0 hclk
  have hln := hok.len
  have hE : V.wrt C a v = if (V.slt C a).2.1 ≠ 0 then ((V.slt C a).2.1, (V.slt C a).2.2)
    else if (V.slt C a).1 < 0 then ((V.slt C a).2.2.S.swE 0 C.n0 (a : Int), (V.slt C a).2.2.wr0 C a v)
    else if (V.slt C a).2.2.pm = true then (V.slt C a).2.2.bck C (V.slt C a).1.toNat a v ((V.slt C a).2.2.x.at_ (V.slt C a).1.toNat)
    else (V.slt C a).2.2.thr C (V.slt C a).1.toNat a v := rfl
  generalize V.wrt C a v = rR at *
  generalize V.slt C a = q at *
  obtain ⟨qk, qe, qV⟩ := q
  dsimp only at hE hso hbd ⊢
  unfold SlP at HS
  dsimp only at HS
  have HE := Lib.hid hE
  have HSO := Lib.hid hso
  have HBD := Lib.hid hbd
  clear hE hso h hok hlen hclo hbd
  go_enter Tryz.func31, Tryz.ntmps31
  go_upto_region 2 with (go_at_call 54; refine HS.out.mono ?_; rintro e w1 ⟨rfl, Fv1, hv1, ht1⟩; have HV1 := Lib.hid hv1; have HT1 := Lib.hid ht1; clear hv1 ht1)
  clear HS
  by_cases h1 : qe = 0
  rotate_left
  · have hq : (qe != 0) = true := by simpa using h1
    have HE1 : Hid (rR = (qe, qV)) := HE.out.trans (if_pos h1)
    clear HE
    go_wp2_with fail
    go_ret
    rw [HE1.out]
    exact ⟨rfl, Fv1, HV1.out, HT1.out⟩
  have hso := HSO.out h1
  have HE1 := Lib.hid (HE.out.trans (if_neg (fun e => e h1)))
  subst h1
  clear HE HSO
  have hbl := HBD.out.log
  have hbw := HBD.out.wr
  obtain ⟨Fc, A, c, B, d, h⟩ := HV1.out
  obtain ⟨c0, c1, c2, c3, c4, c5, c6, c7, c8, c9⟩ := h.cells
  have HH := Lib.hid h
  have HVO : Hid (VolAt w1 Fv1 C qV) := ⟨_, _, _, _, _, h⟩
  clear HV1 h c0 c1 c2 c3 c4 c6 c8 c9
  rcases hso with rfl | ⟨k, x, rfl, hk, hx, hxv, -⟩
  · have HE2 : Hid (rR = (qV.S.swE 0 C.n0 (a : Int), qV.wr0 C a v)) := HE1.out
    have HWR := Lib.hid (cwrite_any w1 Fc C.g C.s2 C.m C.n2 C.s0 0 C.n0 qV.S qV.ss (C.chunk : Int) qV.md qV.op (a : Int) v HH.out.cache HH.out.sp0 HH.out.o0 hn0 hv (by omega) (by omega))
    clear HE1 c7
    go_wp2_with (go_at_call 192; refine HWR.out.mono ?_; rintro e w2 ⟨rfl, Fc2, hc2, ht2⟩; have HX2 : Hid (VolIn w2 Fc2 _ C (qV.wr0 C a v) A c B d) := HH.out.turn hc2 ht2; have HT2 := Lib.hid (HT1.out.trans (HH.out.wide ht2)); clear hc2 ht2)
    go_ret
    rw [HE2.out]
    exact ⟨rfl, _, ⟨_, _, _, _, _, HX2.out⟩, HT2.out⟩
  · have t1 : ¬ (k : Int) < 0 := by omega
    have hkl : k < qV.x.sl.length := (List.getElem?_eq_some_iff.1 hx).1
    have HE2 : Hid (rR = if qV.pm = true then qV.bck C k a v x else qV.thr C k a v) := by
      show _ = _
      have := HE1.out.trans (if_neg t1)
      rw [Int.toNat_natCast, CS.at_eq hx] at this
      exact this
    have HBK := Lib.hid (vbck_any w1 Fv1 C qV k a v x HVO.out HBD.out.ok HBD.out.len hx hxv (by omega) hv hc1 hch hn0 hn1 hn2 (by omega) (by omega))
    have HTH := Lib.hid (vthr_any w1 Fv1 C qV k a v HVO.out HBD.out.ok HBD.out.len hkl (by omega) hv hc1 hch hn0 hn1 hn2 (by omega) (by omega))
    clear HE1 c5 hx hxv
    unfold putV at c7
    rcases hpm : qV.pm with _ | _
    · rw [hpm] at c7
      have HE3 : Hid (rR = qV.thr C k a v) := HE2.out.trans (if_neg (by rw [hpm]; simp))
      have c7' : w1.cell? ⟨C.v, 7, none⟩ = some (.func (.func 101) #[] #[]) := c7
      clear HBK HE2 c7 hpm
      generalize qV.thr C k a v = p at *
      go_wp2_with (go_at_call 101; refine HTH.out.mono ?_; rintro e w2 ⟨rfl, Fv2, hv2, ht2⟩; have HV2 := Lib.hid hv2; have HT2 := Lib.hid (HT1.out.trans ht2); clear hv2 ht2)
      go_ret
      rw [HE3.out]
      exact ⟨rfl, _, HV2.out, HT2.out⟩
    · rw [hpm] at c7
      have HE3 : Hid (rR = qV.bck C k a v x) := HE2.out.trans (if_pos hpm)
      have c7' : w1.cell? ⟨C.v, 7, none⟩ = some (.func (.func 102) #[] #[]) := c7
      clear HTH HE2 c7 hpm
      generalize qV.bck C k a v x = p at *
      go_wp2_with (go_at_call 102; refine HBK.out.mono ?_; rintro e w2 ⟨rfl, Fv2, hv2, ht2⟩; have HV2 := Lib.hid hv2; have HT2 := Lib.hid (HT1.out.trans ht2); clear hv2 ht2)
      go_ret
      rw [HE3.out]
      exact ⟨rfl, _, HV2.out, HT2.out⟩

end Go.Proofs.YtogchafnnkajfaaGreat

namespace Go.Proofs.YtogchafnnkajfaaGreat
set_option linter.unusedVariables false
open Go.RowKit
attribute [local go_sem] Oper.semAt_some m_write m_read m_flush m_size

/-- What Flush answers. -/
def VS.flE (V : VS) : Int := if V.S.chkF 1 ≠ 0 then V.S.chkF 1 else if (V.S.flush 1).chkF 2 ≠ 0 then (V.S.flush 1).chkF 2 else ((V.S.flush 1).flush 2).chkF 0
def VS.flV (V : VS) : VS := { V with S := ((V.S.flush 1).flush 2).flush 0 }
/-- The first error of three. -/
def nth3 (a b c : Int) (n : Nat) : Int := if n = 0 then a else if n = 1 then b else c
def fe3 (a b c : Int) : Nat → Int
  | 0 => 0
  | n + 1 => if fe3 a b c n = 0 then nth3 a b c n else fe3 a b c n

set_option maxHeartbeats 1000000 in
theorem vflush_closed (W : World) (Fv : Nat → Prop) (C : VC) (V : VS) (h : VolAt W Fv C V) (hc : V.closed = true) :
    Calls Tryz.prog 34 #[.pointer (some ⟨C.v, 0, none⟩)] W fun e w' => e = .returned (.int .i64 20) ∧ W = w' := by
  obtain ⟨Fc, A, c, B, d, h⟩ := h
  obtain ⟨-, -, -, -, -, -, -, -, -, c9⟩ := h.cells
  rw [hc] at c9
  clear h hc
  go_enter Tryz.func34, Tryz.ntmps34
  go_wp2_with fail
  go_ret
  exact ⟨rfl, rfl⟩

set_option maxRecDepth 100000 in
set_option maxHeartbeats 8000000 in
theorem vflush_any (W : World) (Fv : Nat → Prop) (C : VC) (V : VS) (h : VolAt W Fv C V) (hc : V.closed = false) (hlog : V.S.log.length ≤ 1000000) :
    Calls Tryz.prog 34 #[.pointer (some ⟨C.v, 0, none⟩)] W (VolP W Fv C (.int .i64 V.flE) V.flV) := by
  obtain ⟨Fc, A, c, B, d, h⟩ := h.tight
  obtain ⟨c0, c1, c2, c3, c4, c5, c6, c7, c8, c9⟩ := h.cells
  rw [hc] at c9
  have HH := Lib.hid h
  have hl1 := (flush_log V.S 1).1
  have hl2 := (flush_log (V.S.flush 1) 2).1
  have HF1 := Lib.hid (csflush_any W.drew Fc C.g C.s2 C.m C.n2 C.s1 1 C.n1 V.S V.ss (C.chunk : Int) V.md V.op (h.cache.keep (Below.refl _ W).drew) h.sp1 h.o1 hlog)
  clear h hc c1 c2 c3 c4 c7 c8
  go_enter Tryz.func34, Tryz.ntmps34
  go_upto_region 4 with (fail)
  clear c9
  have kk : W.drew.cell? ⟨C.v, 0, none⟩ = some (.pointer (some ⟨C.m, 0, none⟩)) ∧ W.drew.cell? ⟨C.v, 5, none⟩ = some (.iface 176 (.pointer (some ⟨C.s0, 0, none⟩))) ∧ W.drew.cell? ⟨C.v, 6, none⟩ = some (.iface 176 (.pointer (some ⟨C.s1, 0, none⟩))) := ⟨c0, c5, c6⟩
  go_region_held3 (fun w' => w'.cell? ⟨C.v, 0, none⟩ = some (.pointer (some ⟨C.m, 0, none⟩)) ∧ w'.cell? ⟨C.v, 5, none⟩ = some (.iface 176 (.pointer (some ⟨C.s0, 0, none⟩))) ∧ w'.cell? ⟨C.v, 6, none⟩ = some (.iface 176 (.pointer (some ⟨C.s1, 0, none⟩))))
    (first | with_reducible exact z3 | with_reducible exact z2 | with_reducible exact z1 | with_reducible exact kk | exact ⟨(((Below.refl _ w3).alloc (Nat.le_refl _) _).cell (p := ⟨C.v, 0, none⟩) HM3.out.vol.lt).trans z3.1, (((Below.refl _ w3).alloc (Nat.le_refl _) _).cell (p := ⟨C.v, 5, none⟩) HM3.out.vol.lt).trans z3.2.1, (((Below.refl _ w3).alloc (Nat.le_refl _) _).cell (p := ⟨C.v, 6, none⟩) HM3.out.vol.lt).trans z3.2.2⟩)
    (first
      | (go_at_call 189; (with_reducible refine HF3.out.mono ?_); rintro e w3 ⟨rfl, Fc3, hc3, ht3⟩; have HM3 := Lib.hid (HM2.out.turn hc3 ht3); have HT3 := Lib.hid (HT2.out.trans (HM2.out.wide ht3)); clear hc3 ht3; have z3 : w3.cell? ⟨C.v, 0, none⟩ = some (.pointer (some ⟨C.m, 0, none⟩)) ∧ w3.cell? ⟨C.v, 5, none⟩ = some (.iface 176 (.pointer (some ⟨C.s0, 0, none⟩))) ∧ w3.cell? ⟨C.v, 6, none⟩ = some (.iface 176 (.pointer (some ⟨C.s1, 0, none⟩))) := ⟨HM3.out.cells.1, HM3.out.cells.2.2.2.2.2.1, HM3.out.cells.2.2.2.2.2.2.1⟩)
      | (go_at_call 64; (with_reducible refine HF2.out.mono ?_); rintro e w2 ⟨rfl, Fc2, hc2, ht2⟩; have HM2 := Lib.hid (HM1.out.turn hc2 ht2); have HT2 := Lib.hid (HT1.out.trans (HM1.out.wide ht2)); clear hc2 ht2; have HF3 := Lib.hid (csflush_any w2 Fc2 C.g C.s2 C.m C.n2 C.s0 0 C.n0 ((V.S.flush 1).flush 2) V.ss (C.chunk : Int) V.md V.op HM2.out.cache HM2.out.sp0 HM2.out.o0 (Nat.le_trans hl2 (Nat.le_trans hl1 hlog))); have z2 : w2.cell? ⟨C.v, 0, none⟩ = some (.pointer (some ⟨C.m, 0, none⟩)) ∧ w2.cell? ⟨C.v, 5, none⟩ = some (.iface 176 (.pointer (some ⟨C.s0, 0, none⟩))) ∧ w2.cell? ⟨C.v, 6, none⟩ = some (.iface 176 (.pointer (some ⟨C.s1, 0, none⟩))) := ⟨HM2.out.cells.1, HM2.out.cells.2.2.2.2.2.1, HM2.out.cells.2.2.2.2.2.2.1⟩)
      | (go_at_call 189; (with_reducible refine HF1.out.mono ?_); rintro e w1 ⟨rfl, Fc1, hc1, ht1⟩; have HM1 := Lib.hid (HH.out.turn hc1 ((Turn.of_below (F := Fc) (Below.refl _ W).drew).trans ht1)); have HT1 := Lib.hid (HH.out.wide ((Turn.of_below (F := Fc) (Below.refl _ W).drew).trans ht1)); clear hc1 ht1; have HF2 := Lib.hid (cmflush_any w1 Fc1 C.g C.s2 C.m C.n2 (V.S.flush 1) V.ss (C.chunk : Int) V.md V.op HM1.out.cache (Nat.le_trans hl1 hlog)); have z1 : w1.cell? ⟨C.v, 0, none⟩ = some (.pointer (some ⟨C.m, 0, none⟩)) ∧ w1.cell? ⟨C.v, 5, none⟩ = some (.iface 176 (.pointer (some ⟨C.s0, 0, none⟩))) ∧ w1.cell? ⟨C.v, 6, none⟩ = some (.iface 176 (.pointer (some ⟨C.s1, 0, none⟩))) := ⟨HM1.out.cells.1, HM1.out.cells.2.2.2.2.2.1, HM1.out.cells.2.2.2.2.2.2.1⟩))
  clear z1 z2 z3 kk HF1 HF2 HF3 HM1 HM2 HT1 HT2
  have hE : V.flE = fe3 (V.S.chkF 1) ((V.S.flush 1).chkF 2) (((V.S.flush 1).flush 2).chkF 0) 3 := by
    unfold VS.flE
    by_cases e1 : V.S.chkF 1 = 0
    · rw [if_neg (fun e => e e1)]
      by_cases e2 : (V.S.flush 1).chkF 2 = 0
      · rw [if_neg (fun e => e e2)]
        simp [fe3, nth3, e1, e2]
      · rw [if_pos e2]
        simp [fe3, nth3, e1, e2]
    · rw [if_pos e1]
      simp [fe3, nth3, e1]
  have HE := Lib.hid hE
  have HV3 : Hid (VolAt w3 _ C V.flV) := ⟨_, _, _, _, _, HM3.out⟩
  have hb4 : Below w3.heap.size w3 (w3.alloc (.cells #[.int .i64 (V.S.chkF 1), .int .i64 ((V.S.flush 1).chkF 2), .int .i64 (((V.S.flush 1).flush 2).chkF 0)] 47)) := (Below.refl _ w3).alloc (Nat.le_refl _) _
  have hC4 := Cs.new w3 47 #[.int .i64 (V.S.chkF 1), .int .i64 ((V.S.flush 1).chkF 2), .int .i64 (((V.S.flush 1).flush 2).chkF 0)]
  have HV4 := Lib.hid (HV3.out.keep hb4)
  have HT4 := Lib.hid (HT3.out.trans (Turn.of_below hb4))
  clear hE hb4 HV3 HM3 HT3 HH c0 c5 c6 hl1 hl2
  generalize V.S.chkF 1 = e1 at *
  generalize (V.S.flush 1).chkF 2 = e2 at *
  generalize ((V.S.flush 1).flush 2).chkF 0 = e3 at *
  generalize V.flE = rE at *
  generalize V.flV = rV at *
  obtain ⟨t, ht⟩ : ∃ t, w3.heap.size = t := ⟨_, rfl⟩
  rw [ht] at hC4 ⊢
  clear ht
  generalize (w3.alloc (.cells #[.int .i64 e1, .int .i64 e2, .int .i64 e3] 47)) = w4 at *
  have HC4 := Lib.hid hC4
  clear hC4
  go_wp2_with fail
  go_loop [3, 28] (fun f i => ∃ n : Nat, n ≤ 3 ∧ i = .int .i64 n ∧ f = .int .i64 (fe3 e1 e2 e3 n)) (fun _ i => 3 - (intOf i).toNat)
  case atStart => exact ⟨0, by omega, rfl, rfl⟩
  case round =>
    obtain ⟨n, hn, rfl, rfl⟩ := hrel
    by_cases hlt : n < 3
    · obtain ⟨en, hen, hst⟩ : ∃ en, w4.cell? ⟨t, n, none⟩ = some (.int .i64 en) ∧ fe3 e1 e2 e3 (n + 1) = if fe3 e1 e2 e3 n = 0 then en else fe3 e1 e2 e3 n := by
        obtain rfl | rfl | rfl : n = 0 ∨ n = 1 ∨ n = 2 := by omega
        · exact ⟨e1, HC4.out.cell 0, rfl⟩
        · exact ⟨e2, HC4.out.cell 1, rfl⟩
        · exact ⟨e3, HC4.out.cell 2, rfl⟩
      have HS := Lib.hid hst
      have t1 : (n : Int) < 3 := by omega
      clear hst
      generalize fe3 e1 e2 e3 n = f at *
      by_cases hf : f = 0
      · have HS2 := Lib.hid (HS.out.trans (if_pos hf))
        subst hf
        clear HS
        go_wp2_with fail
        go_round
        case rel => exact ⟨n + 1, by omega, by go_num, by rw [HS2.out]⟩
        case measure => simp [intOf]; omega
      · have hq : (f == 0) = false := by simpa using hf
        have HS2 := Lib.hid (HS.out.trans (if_neg hf))
        clear HS
        go_wp2_with fail
        go_round
        case rel => exact ⟨n + 1, by omega, by go_num, by rw [HS2.out]⟩
        case measure => simp [intOf]; omega
    · obtain rfl : n = 3 := by omega
      have HE2 := Lib.hid HE.out.symm
      clear HE
      generalize fe3 e1 e2 e3 3 = f at *
      go_wp2_with fail
      go_ret
      exact ⟨by rw [HE2.out]; rfl, _, HV4.out, HT4.out.tg⟩

/-- State: a copy. -/
def StP (W : World) (x : CS) (e : Ending) (w : World) : Prop := (∃ v, e = .returned v ∧ RsOut W.heap.size w x v) ∧ Below W.heap.size W w
set_option maxRecDepth 100000 in
set_option maxHeartbeats 4000000 in
theorem vstate_any (W : World) (Fv : Nat → Prop) (C : VC) (V : VS) (h : VolAt W Fv C V) (hl : V.x.sl.length ≤ 1024) (hm : V.x.ms.length ≤ 100) :
    Calls Tryz.prog 26 #[.pointer (some ⟨C.v, 0, none⟩)] W (StP W V.x) := by
  obtain ⟨Fc, A, c, B, d, h⟩ := h
  obtain ⟨ii, hii, hy0, hy1, hy2⟩ := info_parts int_info
  obtain ⟨is, his, hz0, hz1, hz2⟩ := info_parts slot_info'
  have HH := Lib.hid h
  have hb1 : Below W.heap.size W (W.alloc (.cells #[.slice none 0 0, .int .i64 0, .slice none 0 0] 58)) := (Below.refl _ W).alloc (Nat.le_refl _) _
  have hR := Cs.new W 58 #[.slice none 0 0, .int .i64 0, .slice none 0 0]
  have HSZ : Hid ((W.alloc (.cells #[.slice none 0 0, .int .i64 0, .slice none 0 0] 58)).heap.size = W.heap.size + 1) := by show _ = _; simp
  clear h
  go_enter Tryz.func26, Tryz.ntmps26
  go_upto_region 1 with (fail)
  have HX1 := Lib.hid (HH.out.keep hb1)
  have HB1 := Lib.hid hb1
  have HR := Lib.hid hR
  clear hb1 hR HH
  generalize (W.alloc (.cells #[.slice none 0 0, .int .i64 0, .slice none 0 0] 58)) = W1 at *
  obtain ⟨c0, c1, c2, c3, c4, c5, c6, c7, c8, c9⟩ := HX1.out.cells
  have hA := Reads.of_own HX1.out.row
  have hB := HX1.out.mis
  generalize V.x = x at *
  obtain ⟨l, clk, ms⟩ := x
  dsimp only at hl hm c1 c2 c3 hA hB
  have hb2 : Below W1.heap.size W1 (W1.alloc (.cells #[.slice A l.length c, .int .i64 clk, .slice B ms.length d] 58)) := (Below.refl _ W1).alloc (Nat.le_refl _) _
  have hT := Cs.new W1 58 #[.slice A l.length c, .int .i64 clk, .slice B ms.length d]
  have HS2 : Hid ((W1.alloc (.cells #[.slice A l.length c, .int .i64 clk, .slice B ms.length d] 58)).heap.size = W1.heap.size + 1) := by show _ = _; simp
  clear c0 c4 c5 c6 c7 c8 c9 HX1
  go_upto_region 2 with (fail)
  clear c1 c2 c3
  have HA := Lib.hid (hA.keep hb2)
  have HBr := Lib.hid (hB.keep hb2)
  have HBr0 := Lib.hid hB
  have HR2 := Lib.hid (HR.out.below hb2 (by rw [HSZ.out]; omega))
  have HB2 := Lib.hid (HB1.out.trans (hb2.mono (by rw [HSZ.out]; omega)))
  clear hA hB hb2 HR HB1
  obtain ⟨t, ht⟩ : ∃ t, W1.heap.size = t := ⟨_, rfl⟩
  have hts : t = W.heap.size + 1 := by rw [← ht, HSZ.out]
  rw [ht] at hT HS2 ⊢
  have HTS := Lib.hid hts
  have HBr0' : Hid ((iv ms).length ≠ 0 → ∀ p, B = some p → p.block < t) := fun h0 p hp => by
    obtain ⟨b, o, eb, hlt, -⟩ := HBr0.out h0
    rw [hp] at eb; injection eb with eb; subst eb
    show b < t
    omega
  clear ht hts HSZ HBr0
  generalize (W1.alloc (.cells #[.slice A l.length c, .int .i64 clk, .slice B ms.length d] 58)) = W2 at *
  have HT2 := Lib.hid hT
  obtain ⟨p0, p1, p2⟩ := hT.three
  have f0 := hT.free 0
  have f2 := hT.free 2
  clear hT
  go_upto_region 3 with (at_builtin; refine wpList_append_reads _ (by rfl) (.const (.slice none 0 0)) (.tmp 10) _ (by rfl) W2.heap.size 31 is _ 4 24 Tryz.underlying56 his hz0 hz1 hz2 (by rfl) (by omega) (.slice none 0 0) 0 [] (by rfl) (World.ownsRow_nil _ _ _ _) A l.length c (scs l) (by rfl) (by rw [scs_length]) HA.out (scs_one l) (by simp only [maxLen]; omega) (by omega) (Nat.le_refl _) ?_; intro v5 w5 hown5 hg5 hat5; rw [Nat.zero_add, List.nil_append] at hown5; obtain ⟨A5, c5, hv5⟩ := own_form hown5; subst hv5; have hb5 := (Below.refl W2.heap.size W2).grown hg5 (Nat.le_refl _) (fun j e => by simp [Value.ownBlock] at e); have hT5 := HT2.out.grown hg5 (by simp [Value.ownBlock]); have f0 := hT5.free 0; obtain ⟨p0, p1, p2⟩ := hT5.three; have HT5 := Lib.hid hT5; have HB5 := Lib.hid hb5; have HO5 := Lib.hid hown5; clear hown5 hg5 hat5 hT5 hb5)
  have hT6 : Cs (w5.setCell ⟨t, 0, none⟩ (.slice A5 l.length c5)) t 58 #[.slice A5 l.length c5, .int .i64 clk, .slice B ms.length d] := Cs.put (l := [_, _, _]) HT5.out _
  have HO6 := Lib.hid (own_off (i := 0) HO5.out (b := t) (fun g hg e => by have := (HO5.out.lt g hg).1; have := HS2.out; have := HTS.out; subst e; omega) (.slice A5 l.length c5))
  have HB6 : Hid (Below (W.heap.size + 1) W2 (w5.setCell ⟨t, 0, none⟩ (.slice A5 l.length c5))) := ((HB5.out.mono (by rw [HS2.out, HTS.out]; omega)).setCell (p := ⟨t, 0, none⟩) (by show W.heap.size + 1 ≤ t; rw [HTS.out]; omega) _)
  have HBr6 := Lib.hid ((HBr.out.keep HB5.out).fr (fr_set w5 t 0 (.slice A5 l.length c5)) (fun h0 p hp e => by
    have := HBr0'.out h0 p hp
    omega))
  clear p0 p1 p2 f0 f2 HT5 HO5 HB5 HA HT2
  generalize (w5.setCell ⟨t, 0, none⟩ (.slice A5 l.length c5)) = w6 at *
  have HT6 := Lib.hid hT6
  obtain ⟨p0, p1, p2⟩ := hT6.three
  have f2 := hT6.free 2
  have HSZ6 : Hid (W2.heap.size ≤ w6.heap.size) := HB6.out.size
  clear hT6
  go_upto_region 4 with (at_builtin; refine wpList_append_reads _ (by rfl) (.const (.slice none 0 0)) (.tmp 14) _ (by rfl) w6.heap.size 3 ii _ 1 8 Tryz.underlying22 hii hy0 hy1 hy2 (by rfl) (by omega) (.slice none 0 0) 0 [] (by rfl) (World.ownsRow_nil _ _ _ _) B ms.length d (iv ms) (by rfl) (by rw [iv_length, Nat.mul_one]) HBr6.out (iv_one ms) (by simp only [maxLen]; omega) (by omega) (Nat.le_refl _) ?_; intro v7 w7 hown7 hg7 hat7; rw [Nat.zero_add, List.nil_append] at hown7; obtain ⟨A7, c7, hv7⟩ := own_form hown7; subst hv7; have hb7 := (Below.refl w6.heap.size w6).grown hg7 (Nat.le_refl _) (fun j e => by simp [Value.ownBlock] at e); have hT7 := HT6.out.grown hg7 (by simp [Value.ownBlock]); have f2 := hT7.free 2; obtain ⟨p0, p1, p2⟩ := hT7.three; have HT7 := Lib.hid hT7; have HB7 := Lib.hid hb7; have HO7 := Lib.hid hown7; clear hown7 hg7 hat7 hT7 hb7)
  have hT8 : Cs (w7.setCell ⟨t, 2, none⟩ (.slice A7 ms.length c7)) t 58 #[.slice A5 l.length c5, .int .i64 clk, .slice A7 ms.length c7] := Cs.put (l := [_, _, _]) HT7.out _
  have HO8 := Lib.hid (own_off (i := 2) HO7.out (b := t) (fun g hg e => by have := (HO7.out.lt g hg).1; have := HS2.out; have := HTS.out; have := HSZ6.out; subst e; omega) (.slice A7 ms.length c7))
  have HOS8 := Lib.hid (own_off (i := 2) (own_keepB HO6.out HB7.out) (b := t) (fun g hg e => by have := (HO6.out.lt g hg).1; have := HS2.out; have := HTS.out; subst e; omega) (.slice A7 ms.length c7))
  have HB8 : Hid (Below (W.heap.size + 1) W2 (w7.setCell ⟨t, 2, none⟩ (.slice A7 ms.length c7))) := ((HB6.out.trans (HB7.out.mono (by have := HSZ6.out; have := HS2.out; have := HTS.out; omega))).setCell (p := ⟨t, 2, none⟩) (by show W.heap.size + 1 ≤ t; rw [HTS.out]; omega) _)
  clear p0 p1 p2 f2 HT6 HT7 HO6 HO7 HB6 HB7 HBr HBr6
  generalize (w7.setCell ⟨t, 2, none⟩ (.slice A7 ms.length c7)) = w8 at *
  have HR8 := Lib.hid (HR2.out.below HB8.out (Nat.lt_succ_self _))
  have HW8 : Hid (Below W.heap.size W w8) := HB2.out.trans (HB8.out.mono (by omega))
  obtain ⟨p0, p1, p2⟩ := hT8.three
  obtain ⟨r0, r1, r2⟩ := HR8.out.three
  have g0 := HR8.out.free 0
  have g1 := HR8.out.free 1
  have g2 := HR8.out.free 2
  clear hT8
  go_wp2_with fail
  refine bodyPost_ret (res_state rfl _ _ W.heap.size _ _ _ rfl (run_load_state _ _ _ _ _ (Cs.put3 HR8.out _ _ _))) rfl ?_
  refine ⟨⟨_, rfl, A5, l.length, c5, ms.length, A7, c7, rfl, rfl, rfl, ?_, ?_⟩, below_put3 HW8.out (Nat.le_refl _) _ _ _⟩
  · exact own_lower (own_put3 HOS8.out (by have := HS2.out; have := HTS.out; omega) _ _ _) (by have := HS2.out; have := HTS.out; omega)
  · exact own_lower (own_put3 HO8.out (by have := HSZ6.out; have := HS2.out; have := HTS.out; omega) _ _ _) (by have := HSZ6.out; have := HS2.out; have := HTS.out; omega)

end Go.Proofs.YtogchafnnkajfaaGreat

namespace Go.Proofs.YtogchafnnkajfaaGreat
set_option linter.unusedVariables false
open Go.RowKit
attribute [local go_sem] Oper.semAt_some

def BeginK (W : World) (F : Nat → Prop) (g sp m k c : Nat) (A : Option Addr) (chunk mode : Int) (n : Nat) (S : DS) (e : Ending) (W' : World) : Prop :=
  e = .returned (.int .i64 0) ∧ ∃ F', DskAt W' F' g (S.first 2 n (hdI k chunk mode true)) ∧
    Cs W' m 160 #[spanV sp, .slice A k c, .int .i64 chunk, .int .i64 mode, .bool true] ∧ Fr (fun j => F j ∨ j = m) W W' ∧ ∀ j, F' j → F j ∨ W.heap.size ≤ j

set_option maxRecDepth 100000 in
set_option maxHeartbeats 2000000 in
theorem begin1K (W : World) (F : Nat → Prop) (g sp n m k c : Nat) (A : Option Addr) (chunk mode0 : Int) (op : Bool) (S : DS) (h : DskAt W F g S) (hs : SpanAt W sp g 2 n) (hsp : ¬ F sp) (hmF : ¬ F m) (hspm : sp ≠ m) (hC : Cs W m 160 #[spanV sp, .slice A k c, .int .i64 chunk, .int .i64 mode0, .bool op])
    (hy : S.firstR 2 n (hdI k chunk 1 true) = 0) (h1 : 1 ≤ n) (hn2 : n ≤ 65536) (hk : k ≤ 1024) (hlog : S.log.length < 1000000) (hwr : S.wr ≤ 1000000) :
    Calls Tryz.prog 114 #[.pointer (some ⟨m, 0, none⟩), .int .i64 1] W (BeginK W F g sp m k c A chunk 1 n S) := by
  have x0 : W.cell? ⟨m, 0, none⟩ = some (.iface 176 (.pointer (some ⟨sp, 0, none⟩))) := hC.cell 0
  have x1 : W.cell? ⟨m, 1, none⟩ = some (.slice A k c) := hC.cell 1
  have x2 : W.cell? ⟨m, 2, none⟩ = some (.int .i64 chunk) := hC.cell 2
  have x3 : W.cell? ⟨m, 3, none⟩ = some (.int .i64 mode0) := hC.cell 3
  have x4 : W.cell? ⟨m, 4, none⟩ = some (.bool op) := hC.cell 4
  have HDt := Lib.hid h.tight
  have HS := Lib.hid hs
  have HC := Lib.hid hC
  have HSP := Lib.hid hsp
  have hml := hC.lt
  have hspl := Cs.lt hs
  have HF := Lib.hid hy
  have hvl := hdI_lt k chunk 1 true
  clear h hs hC hsp hy
  go_enter Tryz.func114, Tryz.ntmps114
  go_wp2_with fail
  have hb0 : Below W.heap.size W (W.alloc (.cells #[.iface 176 (.pointer (some ⟨sp, 0, none⟩)), .slice A k c, .int .i64 chunk, .int .i64 1, .bool true] 160)) := (Below.refl _ W).alloc (Nat.le_refl _) _
  have hCn := Cs.new W 160 #[.iface 176 (.pointer (some ⟨sp, 0, none⟩)), .slice A k c, .int .i64 chunk, .int .i64 1, .bool true]
  refine (mhead_any _ W.heap.size k c A _ chunk 1 true hCn (by omega)).mono ?_
  rintro e w1 ⟨rfl, hb1⟩
  have hb01 : Below W.heap.size W w1 := hb0.trans (hb1.mono hb0.size)
  have HC1 := Lib.hid (hCn.below hb1 hCn.lt)
  have HB := Lib.hid hb01
  clear hb0 hb1 hCn hb01
  go_wp2_with fail
  have hnF : ¬ (F W.heap.size ∧ W.heap.size < W.heap.size) := fun hh => by omega
  have hspF : ¬ (F sp ∧ sp < W.heap.size) := fun hh => HSP.out hh.1
  have hmF2 : ¬ (F m ∧ m < W.heap.size) := fun hh => hmF hh.1
  have HCm := Lib.hid (HC.out.below HB.out hml)
  refine (first_any w1 _ g sp 2 n W.heap.size (hdI k chunk 1 true) _ _ _ _ _ (HDt.out.keep HB.out) (Cs.below HS.out HB.out hspl) hspF HC1.out hnF hn2 hvl (by omega) (by omega)).mono ?_
  rintro e w2 ⟨rfl, F2, hd2, ht2⟩
  rw [HF.out]
  have HD2 := Lib.hid hd2
  have hCm2 := HCm.out.fr ht2.1 hmF2
  have hmw1 : m < w1.heap.size := HCm.out.lt
  have HM2 := Lib.hid (ht2.out hmw1 hmF2)
  have HT2 := Lib.hid (((Turn.of_below (F := fun j => F j ∧ j < W.heap.size) HB.out).trans ht2).tg)
  have f3 := hCm2.free 3
  have hC4 : Cs (w2.setCell ⟨m, 3, none⟩ (.int .i64 1)) m 160 #[spanV sp, .slice A k c, .int .i64 chunk, .int .i64 1, .bool op] := heap_setCell_same w2 m 3 _ _ (.int .i64 1) hCm2
  have f4 := hC4.free 4
  have y5 : (w2.setCell ⟨m, 3, none⟩ (.int .i64 1)).cell? ⟨m, 4, none⟩ = some (.bool op) := hC4.cell 4
  clear hC4
  have c3 := hCm2.cell 3
  have HC3 : Hid (Cs ((w2.setCell ⟨m, 3, none⟩ (.int .i64 1)).setCell ⟨m, 4, none⟩ (.bool true)) m 160 #[spanV sp, .slice A k c, .int .i64 chunk, .int .i64 1, .bool true]) := heap_setCell_same _ m 4 _ _ (.bool true) (heap_setCell_same w2 m 3 _ _ (.int .i64 1) hCm2)
  have y3 : w2.cell? ⟨m, 3, none⟩ = some (.int .i64 mode0) := c3
  have y4 : w2.cell? ⟨m, 4, none⟩ = some (.bool op) := hCm2.cell 4
  clear c3 ht2 hd2 HF hCm2
  go_wp2_with fail
  go_ret
  refine ⟨rfl, F2, ?_, HC3.out, ?_, HT2.out.2⟩
  · exact (HD2.out.fr (fr_set w2 m 3 _) (fun j hj e => HM2.out (e ▸ hj))).fr (fr_set _ m 4 _) (fun j hj e => HM2.out (e ▸ hj))
  · exact ((HT2.out.1.mono (H := fun j => F j ∨ j = m) (fun j _ hj => Or.inl hj)).set (.inl (.inr rfl)) _).set (.inl (.inr rfl)) _

set_option maxRecDepth 100000 in
set_option maxHeartbeats 2000000 in
theorem begin2K (W : World) (F : Nat → Prop) (g sp n m k c : Nat) (A : Option Addr) (chunk mode0 : Int) (op : Bool) (S : DS) (h : DskAt W F g S) (hs : SpanAt W sp g 2 n) (hsp : ¬ F sp) (hmF : ¬ F m) (hspm : sp ≠ m) (hC : Cs W m 160 #[spanV sp, .slice A k c, .int .i64 chunk, .int .i64 mode0, .bool op])
    (hy : S.firstR 2 n (hdI k chunk 2 true) = 0) (h1 : 1 ≤ n) (hn2 : n ≤ 65536) (hk : k ≤ 1024) (hlog : S.log.length < 1000000) (hwr : S.wr ≤ 1000000) :
    Calls Tryz.prog 114 #[.pointer (some ⟨m, 0, none⟩), .int .i64 2] W (BeginK W F g sp m k c A chunk 2 n S) := by
  have x0 : W.cell? ⟨m, 0, none⟩ = some (.iface 176 (.pointer (some ⟨sp, 0, none⟩))) := hC.cell 0
  have x1 : W.cell? ⟨m, 1, none⟩ = some (.slice A k c) := hC.cell 1
  have x2 : W.cell? ⟨m, 2, none⟩ = some (.int .i64 chunk) := hC.cell 2
  have x3 : W.cell? ⟨m, 3, none⟩ = some (.int .i64 mode0) := hC.cell 3
  have x4 : W.cell? ⟨m, 4, none⟩ = some (.bool op) := hC.cell 4
  have HDt := Lib.hid h.tight
  have HS := Lib.hid hs
  have HC := Lib.hid hC
  have HSP := Lib.hid hsp
  have hml := hC.lt
  have hspl := Cs.lt hs
  have HF := Lib.hid hy
  have hvl := hdI_lt k chunk 2 true
  clear h hs hC hsp hy
  go_enter Tryz.func114, Tryz.ntmps114
  go_wp2_with fail
  have hb0 : Below W.heap.size W (W.alloc (.cells #[.iface 176 (.pointer (some ⟨sp, 0, none⟩)), .slice A k c, .int .i64 chunk, .int .i64 2, .bool true] 160)) := (Below.refl _ W).alloc (Nat.le_refl _) _
  have hCn := Cs.new W 160 #[.iface 176 (.pointer (some ⟨sp, 0, none⟩)), .slice A k c, .int .i64 chunk, .int .i64 2, .bool true]
  refine (mhead_any _ W.heap.size k c A _ chunk 2 true hCn (by omega)).mono ?_
  rintro e w1 ⟨rfl, hb1⟩
  have hb01 : Below W.heap.size W w1 := hb0.trans (hb1.mono hb0.size)
  have HC1 := Lib.hid (hCn.below hb1 hCn.lt)
  have HB := Lib.hid hb01
  clear hb0 hb1 hCn hb01
  go_wp2_with fail
  have hnF : ¬ (F W.heap.size ∧ W.heap.size < W.heap.size) := fun hh => by omega
  have hspF : ¬ (F sp ∧ sp < W.heap.size) := fun hh => HSP.out hh.1
  have hmF2 : ¬ (F m ∧ m < W.heap.size) := fun hh => hmF hh.1
  have HCm := Lib.hid (HC.out.below HB.out hml)
  refine (first_any w1 _ g sp 2 n W.heap.size (hdI k chunk 2 true) _ _ _ _ _ (HDt.out.keep HB.out) (Cs.below HS.out HB.out hspl) hspF HC1.out hnF hn2 hvl (by omega) (by omega)).mono ?_
  rintro e w2 ⟨rfl, F2, hd2, ht2⟩
  rw [HF.out]
  have HD2 := Lib.hid hd2
  have hCm2 := HCm.out.fr ht2.1 hmF2
  have hmw1 : m < w1.heap.size := HCm.out.lt
  have HM2 := Lib.hid (ht2.out hmw1 hmF2)
  have HT2 := Lib.hid (((Turn.of_below (F := fun j => F j ∧ j < W.heap.size) HB.out).trans ht2).tg)
  have f3 := hCm2.free 3
  have hC4 : Cs (w2.setCell ⟨m, 3, none⟩ (.int .i64 2)) m 160 #[spanV sp, .slice A k c, .int .i64 chunk, .int .i64 2, .bool op] := heap_setCell_same w2 m 3 _ _ (.int .i64 2) hCm2
  have f4 := hC4.free 4
  have y5 : (w2.setCell ⟨m, 3, none⟩ (.int .i64 2)).cell? ⟨m, 4, none⟩ = some (.bool op) := hC4.cell 4
  clear hC4
  have c3 := hCm2.cell 3
  have HC3 : Hid (Cs ((w2.setCell ⟨m, 3, none⟩ (.int .i64 2)).setCell ⟨m, 4, none⟩ (.bool true)) m 160 #[spanV sp, .slice A k c, .int .i64 chunk, .int .i64 2, .bool true]) := heap_setCell_same _ m 4 _ _ (.bool true) (heap_setCell_same w2 m 3 _ _ (.int .i64 2) hCm2)
  have y3 : w2.cell? ⟨m, 3, none⟩ = some (.int .i64 mode0) := c3
  have y4 : w2.cell? ⟨m, 4, none⟩ = some (.bool op) := hCm2.cell 4
  clear c3 ht2 hd2 HF hCm2
  go_wp2_with fail
  go_ret
  refine ⟨rfl, F2, ?_, HC3.out, ?_, HT2.out.2⟩
  · exact (HD2.out.fr (fr_set w2 m 3 _) (fun j hj e => HM2.out (e ▸ hj))).fr (fr_set _ m 4 _) (fun j hj e => HM2.out (e ▸ hj))
  · exact ((HT2.out.1.mono (H := fun j => F j ∨ j = m) (fun j _ hj => Or.inl hj)).set (.inl (.inr rfl)) _).set (.inl (.inr rfl)) _

def EndK (W : World) (F : Nat → Prop) (g sp m k c : Nat) (A : Option Addr) (chunk mode : Int) (n : Nat) (S : DS) (e : Ending) (W' : World) : Prop :=
  e = .returned (.int .i64 0) ∧ ∃ F', DskAt W' F' g ((S.flush 2).first 2 n (hdI k chunk mode false)) ∧
    Cs W' m 160 #[spanV sp, .slice A k c, .int .i64 chunk, .int .i64 mode, .bool false] ∧ Fr (fun j => F j ∨ j = m) W W' ∧ ∀ j, F' j → F j ∨ W.heap.size ≤ j

set_option maxRecDepth 100000 in
set_option maxHeartbeats 2000000 in
theorem endK (W : World) (F : Nat → Prop) (g sp n m k c : Nat) (A : Option Addr) (chunk mode : Int) (op : Bool) (S : DS) (h : DskAt W F g S) (hs : SpanAt W sp g 2 n) (hsp : ¬ F sp) (hmF : ¬ F m) (hC : Cs W m 160 #[spanV sp, .slice A k c, .int .i64 chunk, .int .i64 mode, .bool op])
    (hcf : S.chkF 2 = 0) (hy : (S.flush 2).firstR 2 n (hdI k chunk mode false) = 0) (hlog2 : (S.flush 2).log.length < 1000000) (hwr2 : (S.flush 2).wr ≤ 1000000) (h1 : 1 ≤ n) (hn2 : n ≤ 65536) (hk : k ≤ 1024) (hlog : S.log.length < 1000000) (hwr : S.wr ≤ 1000000) :
    Calls Tryz.prog 55 #[.pointer (some ⟨m, 0, none⟩)] W (EndK W F g sp m k c A chunk mode n S) := by
  have x0 : W.cell? ⟨m, 0, none⟩ = some (.iface 176 (.pointer (some ⟨sp, 0, none⟩))) := hC.cell 0
  have HF := Lib.hid hy
  have hvl := hdI_lt k chunk mode false
  go_enter Tryz.func55, Tryz.ntmps55
  go_wp2_with fail
  rw [m_flush]
  go_wp2_with fail
  refine (sflush_any W F g sp 2 n _ h hs hsp (by omega)).mono ?_
  rintro e w0 ⟨rfl, F0, hd0, ht0⟩
  rw [show ((2 : Nat) : Int) = 2 from rfl] at hd0
  rw [show ((2 : Nat) : Int) = 2 from rfl, hcf]
  have HDt := Lib.hid hd0.tight
  have HS : Hid (SpanAt w0 sp g 2 n) := Cs.fr hs ht0.1 hsp
  have HSP := Lib.hid (ht0.out (Cs.lt hs) hsp)
  have hM0 := ht0.out hC.lt hmF
  have HC := Lib.hid (hC.fr ht0.1 hmF)
  have HT0 := Lib.hid ht0
  have hml := HC.out.lt
  have hspl := Cs.lt HS.out
  have y0 : w0.cell? ⟨m, 0, none⟩ = some (.iface 176 (.pointer (some ⟨sp, 0, none⟩))) := HC.out.cell 0
  have y1 : w0.cell? ⟨m, 1, none⟩ = some (.slice A k c) := HC.out.cell 1
  have y2 : w0.cell? ⟨m, 2, none⟩ = some (.int .i64 chunk) := HC.out.cell 2
  have y3 : w0.cell? ⟨m, 3, none⟩ = some (.int .i64 mode) := HC.out.cell 3
  have y4 : w0.cell? ⟨m, 4, none⟩ = some (.bool op) := HC.out.cell 4
  clear h hs hC hsp hy hd0 ht0 x0
  go_wp2_with fail
  have hb0 : Below w0.heap.size w0 (w0.alloc (.cells #[.iface 176 (.pointer (some ⟨sp, 0, none⟩)), .slice A k c, .int .i64 chunk, .int .i64 mode, .bool false] 160)) := (Below.refl _ w0).alloc (Nat.le_refl _) _
  have hCn := Cs.new w0 160 #[.iface 176 (.pointer (some ⟨sp, 0, none⟩)), .slice A k c, .int .i64 chunk, .int .i64 mode, .bool false]
  refine (mhead_any _ w0.heap.size k c A _ chunk mode false hCn (by omega)).mono ?_
  rintro e w1 ⟨rfl, hb1⟩
  have hb01 : Below w0.heap.size w0 w1 := hb0.trans (hb1.mono hb0.size)
  have HC1 := Lib.hid (hCn.below hb1 hCn.lt)
  have HB := Lib.hid hb01
  clear hb0 hb1 hCn hb01
  go_wp2_with fail
  have hnF : ¬ (F0 w0.heap.size ∧ w0.heap.size < w0.heap.size) := fun hh => by omega
  have hspF : ¬ (F0 sp ∧ sp < w0.heap.size) := fun hh => HSP.out hh.1
  have hmF2 : ¬ (F0 m ∧ m < w0.heap.size) := fun hh => hM0 hh.1
  have HCm := Lib.hid (HC.out.below HB.out hml)
  refine (first_any w1 _ g sp 2 n w0.heap.size (hdI k chunk mode false) _ _ _ _ _ (HDt.out.keep HB.out) (Cs.below HS.out HB.out hspl) hspF HC1.out hnF hn2 hvl (by omega) (by omega)).mono ?_
  rintro e w2 ⟨rfl, F2, hd2, ht2⟩
  rw [HF.out]
  have HD2 := Lib.hid hd2
  have hCm2 := HCm.out.fr ht2.1 hmF2
  have hmw1 : m < w1.heap.size := HCm.out.lt
  have HM2 := Lib.hid (ht2.out hmw1 hmF2)
  have HT2 := Lib.hid (HT0.out.trans ((Turn.of_below (F := fun j => F0 j ∧ j < w0.heap.size) HB.out).trans ht2).tg)
  have f4 := hCm2.free 4
  have z4 : w2.cell? ⟨m, 4, none⟩ = some (.bool op) := hCm2.cell 4
  have HC3 : Hid (Cs (w2.setCell ⟨m, 4, none⟩ (.bool false)) m 160 #[spanV sp, .slice A k c, .int .i64 chunk, .int .i64 mode, .bool false]) := heap_setCell_same _ m 4 _ _ (.bool false) hCm2
  clear ht2 hd2 HF hCm2
  go_wp2_with fail
  go_ret
  refine ⟨rfl, F2, ?_, HC3.out, ?_, HT2.out.2⟩
  · exact HD2.out.fr (fr_set w2 m 4 _) (fun j hj e => HM2.out (e ▸ hj))
  · exact (HT2.out.1.mono (H := fun j => F j ∨ j = m) (fun j _ hj => Or.inl hj)).set (.inl (.inr rfl)) _

end Go.Proofs.YtogchafnnkajfaaGreat

namespace Go.Proofs.YtogchafnnkajfaaGreat
set_option linter.unusedVariables false
open Go.RowKit
attribute [local go_sem] Oper.semAt_some m_write m_read m_flush m_size

theorem cbeginK (W : World) (Fc : Nat → Prop) (g sp m n : Nat) (S : DS) (ss : List Sl) (chunk mode0 mode : Int) (op : Bool) (h : CacheAt W Fc g sp m n S ss chunk mode0 op) (hm : mode = 1 ∨ mode = 2)
    (hy : S.firstR 2 n (hdI ss.length chunk mode true) = 0) (h1 : 1 ≤ n) (hn2 : n ≤ 65536) (hk : ss.length ≤ 1024) (hlog : S.log.length < 1000000) (hwr : S.wr ≤ 1000000) :
    Calls Tryz.prog 114 #[.pointer (some ⟨m, 0, none⟩), .int .i64 mode] W fun e W' => e = .returned (.int .i64 0) ∧
      ∃ Fc', CacheAt W' Fc' g sp m n (S.first 2 n (hdI ss.length chunk mode true)) ss chunk mode true ∧ Turn Fc Fc' W W' := by
  obtain ⟨F, A, c, h⟩ := h
  have key : ∀ e W', BeginK W F g sp m ss.length c A chunk mode n S e W' → e = .returned (.int .i64 0) ∧
      ∃ Fc', CacheAt W' Fc' g sp m n (S.first 2 n (hdI ss.length chunk mode true)) ss chunk mode true ∧ Turn Fc Fc' W W' := by
    rintro e W' ⟨rfl, F', hd, hC, hf, hF⟩
    have hout : ∀ b, b < W.heap.size → ¬ F b → ¬ F' b := fun b hb hn hc => (hF b hc).elim hn (fun hl => by omega)
    have hspn : ¬ (F sp ∨ sp = m) := fun e => e.elim h.spF h.spm
    refine ⟨rfl, fun j => Fc j ∨ F' j, ⟨F', A, c, hd, fun j hj => .inr hj, Cs.fr h.span hf hspn, hout sp (Cs.lt h.span) h.spF, .inl h.spC, h.spm, hout m h.meta_.lt h.mF, .inl h.mC, hC,
      own_fr h.row hf (fun b hb e => e.elim (h.own b hb).1 (h.own b hb).2.2.1), fun b hb => ⟨hout b (own_lt h.row b hb) (h.own b hb).1, (h.own b hb).2.1, (h.own b hb).2.2.1, .inl (h.own b hb).2.2.2⟩⟩, ?_, ?_⟩
    · exact hf.mono (fun j _ hj => hj.elim (h.inF j) (fun e => e ▸ h.mC))
    · exact fun j hj => hj.elim .inl (fun hj => (hF j hj).elim (fun hj => .inl (h.inF j hj)) .inr)
  rcases hm with rfl | rfl
  · exact (begin1K W F g sp n m ss.length c A chunk mode0 op S h.dsk h.span h.spF h.mF h.spm h.meta_ hy h1 hn2 hk hlog hwr).mono key
  · exact (begin2K W F g sp n m ss.length c A chunk mode0 op S h.dsk h.span h.spF h.mF h.spm h.meta_ hy h1 hn2 hk hlog hwr).mono key

theorem cendK (W : World) (Fc : Nat → Prop) (g sp m n : Nat) (S : DS) (ss : List Sl) (chunk mode : Int) (op : Bool) (h : CacheAt W Fc g sp m n S ss chunk mode op)
    (hcf : S.chkF 2 = 0) (hy : (S.flush 2).firstR 2 n (hdI ss.length chunk mode false) = 0) (h1 : 1 ≤ n) (hn2 : n ≤ 65536) (hk : ss.length ≤ 1024) (hlog : S.log.length < 1000000) (hwr : S.wr ≤ 1000000) :
    Calls Tryz.prog 55 #[.pointer (some ⟨m, 0, none⟩)] W fun e W' => e = .returned (.int .i64 0) ∧
      ∃ Fc', CacheAt W' Fc' g sp m n ((S.flush 2).first 2 n (hdI ss.length chunk mode false)) ss chunk mode false ∧ Turn Fc Fc' W W' := by
  obtain ⟨F, A, c, h⟩ := h
  have hfl := flush_log S 2
  refine (endK W F g sp n m ss.length c A chunk mode op S h.dsk h.span h.spF h.mF h.meta_ hcf hy (by omega) (by rw [hfl.2]; exact hwr) h1 hn2 hk hlog hwr).mono ?_
  rintro e W' ⟨rfl, F', hd, hC, hf, hF⟩
  have hout : ∀ b, b < W.heap.size → ¬ F b → ¬ F' b := fun b hb hn hc => (hF b hc).elim hn (fun hl => by omega)
  have hspn : ¬ (F sp ∨ sp = m) := fun e => e.elim h.spF h.spm
  refine ⟨rfl, fun j => Fc j ∨ F' j, ⟨F', A, c, hd, fun j hj => .inr hj, Cs.fr h.span hf hspn, hout sp (Cs.lt h.span) h.spF, .inl h.spC, h.spm, hout m h.meta_.lt h.mF, .inl h.mC, hC,
    own_fr h.row hf (fun b hb e => e.elim (h.own b hb).1 (h.own b hb).2.2.1), fun b hb => ⟨hout b (own_lt h.row b hb) (h.own b hb).1, (h.own b hb).2.1, (h.own b hb).2.2.1, .inl (h.own b hb).2.2.2⟩⟩, ?_, ?_⟩
  · exact hf.mono (fun j _ hj => hj.elim (h.inF j) (fun e => e ▸ h.mC))
  · exact fun j hj => hj.elim .inl (fun hj => (hF j hj).elim (fun hj => .inl (h.inF j hj)) .inr)

/-- The oldest dirty slot is written back, again and again: how many times, the error, what becomes of the volume. -/
def VS.clnF (C : VC) : Nat → VS → Nat → Int × Int × VS
  | 0, V, i => ((i : Int), 0, V)
  | m + 1, V, i => if V.x.oldest < 0 then ((i : Int), 0, V) else if V.clE C V.x.oldest.toNat (V.x.at_ V.x.oldest.toNat).block.toNat (V.x.at_ V.x.oldest.toNat) ≠ 0 then ((i : Int), V.clE C V.x.oldest.toNat (V.x.at_ V.x.oldest.toNat).block.toNat (V.x.at_ V.x.oldest.toNat), V.clV C V.x.oldest.toNat (V.x.at_ V.x.oldest.toNat).block.toNat (V.x.at_ V.x.oldest.toNat))
    else VS.clnF C m (V.clV C V.x.oldest.toNat (V.x.at_ V.x.oldest.toNat).block.toNat (V.x.at_ V.x.oldest.toNat)) (i + 1)
theorem Bd.cl {C : VC} {V V' : VS} {n c : Nat} (h : Bd V V' n c) (k b : Nat) (x : Sl) (hx : V'.x.sl[k]? = some x) (hv : x.valid = true) : Bd V (V'.clV C k b x) (n + C.chunk + 1) c := by
  have h1 := h.cb (C := C) k b
  have h2 : Bd V ((V'.cbV C k b).setV C k { x with dirty := false }) (n + C.chunk + 1) c := h1.st (C := C) k _ (by
    have := h.ok.setD k x hx hv false
    unfold CS.setD at this
    rw [CS.at_eq hx] at this
    exact this)
  unfold VS.clV
  split
  · exact h1.mono (by omega) (Nat.le_refl _)
  · split
    · exact h2
    · exact h2.fl 2
theorem oldest_at {s : CS} (h : s.Ok) (ho : ¬ s.oldest < 0) : ∃ (k : Nat) (x : Sl), s.oldest = (k : Int) ∧ s.sl[k]? = some x ∧ x.dirty = true ∧ x.valid = true := by
  have hr := leastTo_range (fun x => x.dirty) s.sl s.sl.length (Nat.le_refl _)
  have hp := leastTo_p (fun x => x.dirty) s.sl s.sl.length (Nat.le_refl _) (by show 0 ≤ s.oldest; omega)
  change s.oldest = -1 ∨ (0 ≤ s.oldest ∧ s.oldest < _) at hr
  change (s.sl[s.oldest.toNat]?.getD nilS).dirty = true at hp
  rcases hr with hr | hr
  · omega
  · have hl : s.oldest.toNat < s.sl.length := by omega
    refine ⟨s.oldest.toNat, s.sl[s.oldest.toNat], by omega, List.getElem?_eq_getElem hl, ?_, ?_⟩
    · rw [List.getElem?_eq_getElem hl] at hp
      exact hp
    · rw [List.getElem?_eq_getElem hl] at hp
      rcases hv : (s.sl[s.oldest.toNat]).valid with _ | _
      · have := h.nl _ (List.getElem_mem hl) hv
        rw [Option.getD_some, this] at hp
        cases hp
      · rfl

set_option maxRecDepth 100000 in
set_option maxHeartbeats 4000000 in
theorem vcleann_any (W : World) (Fv : Nat → Prop) (C : VC) (V : VS) (n : Nat) (h : VolAt W Fv C V) (hok : V.x.Ok) (hlen : V.x.sl.length = V.ss.length) (hclo : V.closed = false) (hn : n ≤ 1024)
    (hch : C.chunk ≤ 127) (hn0 : C.n0 ≤ 65536) (hn1 : C.n1 ≤ 65536) (hn2 : C.n2 ≤ 65536) (hlog : V.S.log.length + n * (C.chunk + 1) + C.chunk < 999990) (hwr : V.S.wr + (n * (C.chunk + 1) : Nat) + C.chunk ≤ 999990) :
    Calls Tryz.prog 47 #[.pointer (some ⟨C.v, 0, none⟩), .int .i64 (n : Int)] W (SlP W Fv C (VS.clnF C n V 0)) := by
  have hln := hok.len
  have HH := Lib.hid h
  have HB0 := Lib.hid (Bd.refl hok hlen)
  have hE : VS.clnF C n V 0 = VS.clnF C n V 0 := rfl
  generalize hR : VS.clnF C n V 0 = rR at *
  have HR := Lib.hid hR
  obtain ⟨Fc, A, c, B, d, h0⟩ := h
  obtain ⟨-, -, -, -, -, -, -, -, -, c9⟩ := h0.cells
  rw [hclo] at c9
  have t0 : ¬ (n : Int) < 0 := by omega
  have HLW : Hid (V.S.log.length + n * (C.chunk + 1) + C.chunk < 999990 ∧ V.S.wr + (n * (C.chunk + 1) : Nat) + C.chunk ≤ 999990) := ⟨hlog, hwr⟩
  clear hE hR h0 hok hlen hclo hlog hwr
  go_enter Tryz.func47, Tryz.ntmps47
  go_wp2_with fail
  clear c9
  go_loopw [18] (fun z wr => ∃ (i : Nat) (V' : VS) (Fv' : Nat → Prop), z = .int .i64 i ∧ i ≤ n ∧ VS.clnF C (n - i) V' i = rR ∧ Bd V V' (i * (C.chunk + 1)) 0 ∧ VolAt wr Fv' C V' ∧ Turn Fv Fv' W wr) (fun z _ => n - (intOf z).toNat)
  case atStart => exact ⟨0, V, Fv, rfl, Nat.zero_le _, HR.out, by rw [Nat.zero_mul]; exact HB0.out, HH.out, Turn.refl _ _⟩
  case round =>
    clear HR HB0 HH
    obtain ⟨i, V', Fv', rfl, hi, hr, hbd, hv, ht⟩ := hrel
    have HT := Lib.hid ht
    have HBD := Lib.hid hbd
    have HRR := Lib.hid hr
    by_cases hlt : i < n
    · obtain ⟨m, hm⟩ : ∃ m, n - i = m + 1 := ⟨n - i - 1, by omega⟩
      rw [hm] at hr
      have HR1 := Lib.hid hr
      have u1 : (i : Int) < (n : Int) := by omega
      have e1 : IntKind.i64.wrap ((i : Int) + 1) = ((i + 1 : Nat) : Int) := by rw [IntWalk.i64_in _ (by omega)]; rfl
      have hmul : i * (C.chunk + 1) + (C.chunk + 1) ≤ n * (C.chunk + 1) := by
        have := Nat.mul_le_mul_right (C.chunk + 1) (show i + 1 ≤ n by omega)
        rwa [Nat.add_mul, Nat.one_mul] at this
      have hlw := HLW.out
      obtain ⟨Fc, A, c, B, d, h⟩ := hv
      have hv : VolAt wr Fv' C V' := ⟨_, _, _, _, _, h⟩
      have HV := Lib.hid hv
      obtain ⟨c0, c1, c2, c3, c4, c5, c6, c7, c8, c9⟩ := h.cells
      have HOL := Lib.hid (coldest_any wr A B V'.x.sl.length c V'.x.ms.length d V'.x hbd.ok rfl rfl (Reads.of_own h.row) h.mis)
      unfold csV at HOL
      clear hr hbd hv ht h c0 c4 c5 c6 c7 c8 c9 HRR
      go_upto_region 9 with (go_at_call 85; refine HOL.out.mono ?_; rintro e w1 ⟨rfl, hb1⟩)
      have HV1 := Lib.hid (HV.out.keep hb1)
      have HT1 := Lib.hid (HT.out.trans (Turn.of_below (F := Fv') hb1))
      clear HOL HV HT hb1 c1 c2 c3
      by_cases ho : V'.x.oldest < 0
      · have HE : Hid (rR = ((i : Int), 0, V')) := by
          show _ = _
          rw [← HR1.out, VS.clnF, if_pos ho]
        go_wp2_with fail
        go_ret2
        unfold SlP
        rw [HE.out]
        exact ⟨rfl, Fv', HV1.out, HT1.out⟩
      · obtain ⟨k, x, hk, hx, hxd, hxv⟩ := oldest_at HBD.out.ok ho
        have hE : rR = if V'.clE C k x.block.toNat x ≠ 0 then ((i : Int), V'.clE C k x.block.toNat x, V'.clV C k x.block.toNat x) else VS.clnF C m (V'.clV C k x.block.toNat x) (i + 1) := by
          rw [← HR1.out, VS.clnF, if_neg ho, hk, Int.toNat_natCast, CS.at_eq hx]
        have hbb := (HBD.out.ok.blk x (List.mem_of_getElem? hx) hxv).1
        have hbl := HBD.out.log
        have hbw := HBD.out.wr
        have hkl := (List.getElem?_eq_some_iff.1 hx).1
        have hsl := HBD.out.sll
        have hle := HBD.out.len
        have HCL := Lib.hid (vclean_any w1 Fv' C V' k x.block.toNat x HV1.out hx (by omega) hxv hle (by omega) (by omega) hch hn0 hn1 hn2 (by omega) (by omega))
        have HB2 := Lib.hid (HBD.out.cl (C := C) k x.block.toNat x hx hxv)
        have HE := Lib.hid hE
        rw [hk]
        have u2 : ¬ (k : Int) < 0 := by omega
        clear hE hk hx hxd hxv ho hbb hbl hbw hkl hsl hle HR1 HV1 HBD
        generalize V'.clE C k x.block.toNat x = e2 at *
        generalize V'.clV C k x.block.toNat x = V2 at *
        go_upto_region 12 with (go_at_call 86; refine HCL.out.mono ?_; rintro e w2 ⟨rfl, Fv2, hv2, ht2⟩; have HV2 := Lib.hid hv2; have HT2 := Lib.hid (HT1.out.trans ht2); clear hv2 ht2)
        clear HCL HT1
        by_cases h2 : e2 = 0
        rotate_left
        · have hq : (e2 != 0) = true := by simpa using h2
          have HE2 : Hid (rR = ((i : Int), e2, V2)) := HE.out.trans (if_pos h2)
          clear HE
          go_wp2_with fail
          go_ret2
          unfold SlP
          rw [HE2.out]
          exact ⟨rfl, Fv2, HV2.out, HT2.out⟩
        · have HE2 : Hid (rR = VS.clnF C m V2 (i + 1)) := HE.out.trans (if_neg (fun e => e h2))
          subst h2
          clear HE
          go_wp2_with fail
          go_roundw
          case rel => exact ⟨i + 1, V2, Fv2, by go_num, by omega, by rw [show n - (i + 1) = m by omega, HE2.out], HB2.out.mono (by rw [Nat.add_mul]; omega) (Nat.le_refl _), HV2.out, HT2.out⟩
          case measure => simp [intOf]; omega
    · have hin : n = i := by omega
      have HE : Hid (rR = ((n : Int), 0, V')) := by
        show _ = _
        rw [← HRR.out, hin, Nat.sub_self]
        rfl
      have HV := Lib.hid hv
      have u1 : ¬ (i : Int) < (n : Int) := by omega
      clear hr hbd hv ht HRR hin
      go_wp2_with fail
      go_ret2
      unfold SlP
      rw [HE.out]
      exact ⟨rfl, Fv', HV.out, HT.out⟩

end Go.Proofs.YtogchafnnkajfaaGreat

namespace Go.Proofs.YtogchafnnkajfaaGreat
set_option linter.unusedVariables false
open Go.RowKit
attribute [local go_sem] Oper.semAt_some m_write m_read m_flush m_size

/-- All slots from k on are freed. -/
def VS.frF (C : VC) : Nat → VS → Nat → Int × VS
  | 0, V, k => (0, V)
  | m + 1, V, k => if (V.x.at_ k).valid = true then (if V.freeE C k ≠ 0 then (V.freeE C k, V.freeV C k) else VS.frF C m (V.freeV C k) (k + 1)) else VS.frF C m V (k + 1)
def VS.dtc (C : VC) (V : VS) : Int × VS := bnd ((VS.clnF C V.x.sl.length V 0).2.1, (VS.clnF C V.x.sl.length V 0).2.2) (fun V1 => bnd (VS.frF C V1.x.sl.length V1 0) (fun V2 => (V2.S.chkF 0, { V2 with S := V2.S.flush 0 })))
theorem Bd.cln {C : VC} (m : Nat) : ∀ {V V' : VS} {n c : Nat}, Bd V V' n c → ∀ i, Bd V (VS.clnF C m V' i).2.2 (n + m * (C.chunk + 1)) c := by
  induction m with
  | zero => intro V V' n c h i; exact h.mono (by omega) (Nat.le_refl _)
  | succ m ih =>
    intro V V' n c h i
    rw [VS.clnF]
    split
    · exact h.mono (by omega) (Nat.le_refl _)
    · rename_i ho
      obtain ⟨k, x, hk, hx, hxd, hxv⟩ := oldest_at h.ok ho
      have hc := h.cl (C := C) k x.block.toNat x hx hxv
      rw [hk, Int.toNat_natCast, CS.at_eq hx]
      split
      · exact hc.mono (by rw [Nat.add_mul]; omega) (Nat.le_refl _)
      · exact (ih hc (i + 1)).mono (by rw [Nat.add_mul]; omega) (Nat.le_refl _)

set_option maxRecDepth 100000 in
set_option maxHeartbeats 4000000 in
theorem vdetach_any (W : World) (Fv : Nat → Prop) (C : VC) (V : VS) (h : VolAt W Fv C V) (hok : V.x.Ok) (hlen : V.x.sl.length = V.ss.length) (hclo : V.closed = false) (n : Nat) (hN : V.x.sl.length = n)
    (hch : C.chunk ≤ 127) (hn0 : C.n0 ≤ 65536) (hn1 : C.n1 ≤ 65536) (hn2 : C.n2 ≤ 65536) (hlog : V.S.log.length + n * (C.chunk + 2) + C.chunk < 999990) (hwr : V.S.wr + (n * (C.chunk + 2) : Nat) + C.chunk ≤ 999990) :
    Calls Tryz.prog 25 #[.pointer (some ⟨C.v, 0, none⟩)] W (VolP W Fv C (.int .i64 (V.dtc C).1) (V.dtc C).2) := by
  have hln := hok.len
  have hmn : n * (C.chunk + 2) = n * (C.chunk + 1) + n := by rw [show C.chunk + 2 = (C.chunk + 1) + 1 by omega, Nat.mul_add n (C.chunk + 1) 1, Nat.mul_one]
  rw [hmn] at hlog hwr
  have HCN := Lib.hid (vcleann_any W Fv C V n h hok hlen hclo (by omega) hch hn0 hn1 hn2 (by omega) (by omega))
  have hB1 := Bd.cln (C := C) n (Bd.refl hok hlen) 0
  have hE : V.dtc C = bnd ((VS.clnF C V.x.sl.length V 0).2.1, (VS.clnF C V.x.sl.length V 0).2.2) (fun V1 => bnd (VS.frF C V1.x.sl.length V1 0) (fun V2 => (V2.S.chkF 0, { V2 with S := V2.S.flush 0 }))) := rfl
  rw [hN] at hE
  generalize V.dtc C = rR at *
  generalize VS.clnF C n V 0 = q at *
  obtain ⟨qi, qe, V1⟩ := q
  dsimp only at hE hB1
  have HE := Lib.hid hE
  obtain ⟨Fc, A, c, B, d, h0⟩ := h
  obtain ⟨c0, c1, c2, c3, c4, c5, c6, c7, c8, c9⟩ := h0.cells
  rw [hN] at c1
  unfold SlP at HCN
  dsimp only at HCN
  have HB1 := Lib.hid hB1
  have HLW : Hid (V.S.log.length + (n * (C.chunk + 1) + n) + C.chunk < 999990 ∧ V.S.wr + (n * (C.chunk + 1) + n : Nat) + C.chunk ≤ 999990) := ⟨hlog, hwr⟩
  have HNL := Lib.hid hN
  have hn1k : n ≤ 1024 := by omega
  have hn1z : 1 ≤ n := by omega
  clear hE h0 hok hlen hclo hlog hwr c0 c2 c3 c4 c5 c6 c7 c8 c9 hB1 hN hmn hln
  go_enter Tryz.func25, Tryz.ntmps25
  go_upto_region 2 with (go_at_call 47; refine HCN.out.mono ?_; rintro e w1 ⟨rfl, Fv1, hv1, ht1⟩; have HV1 := Lib.hid hv1; have HT1 := Lib.hid ht1; clear hv1 ht1)
  clear HCN c1
  by_cases h1 : qe = 0
  rotate_left
  · have hq : (qe != 0) = true := by simpa using h1
    have HE1 : Hid (rR = (qe, V1)) := HE.out.trans (bnd_no h1)
    clear HE
    go_wp2_with fail
    go_ret
    rw [HE1.out]
    exact ⟨rfl, Fv1, HV1.out, HT1.out⟩
  have HE1 : Hid (rR = bnd (VS.frF C V1.x.sl.length V1 0) (fun V2 => (V2.S.chkF 0, { V2 with S := V2.S.flush 0 }))) := HE.out.trans (bnd_ok h1)
  subst h1
  clear HE
  have hsl1 : V1.x.sl.length = n := by rw [HB1.out.sll, HNL.out]
  rw [hsl1] at HE1
  obtain ⟨A1, c1', h1r⟩ := HV1.out.row
  obtain ⟨Fc, B, d, h⟩ := h1r
  obtain ⟨bR, rfl⟩ := h.form (by omega)
  have H1R : Hid (VolAtR w1 Fv1 C V1 (some ⟨bR, 0, none⟩) c1') := ⟨Fc, B, d, h⟩
  obtain ⟨c0, c1, c2, c3, c4, c5, c6, c7, c8, c9⟩ := h.cells
  rw [hsl1] at c1
  have HSL := Lib.hid hsl1
  clear HV1 h c0 c2 c3 c4 c5 c6 c7 c8 c9 hsl1
  go_wp2_with fail
  clear c1
  obtain ⟨q0, hq0⟩ : ∃ q0, VS.frF C n V1 0 = q0 := ⟨_, rfl⟩
  have HQ0 := Lib.hid hq0
  rw [hq0] at HE1
  clear hq0
  go_loopw [30] (fun z wr => ∃ (k : Nat) (V' : VS) (Fv' : Nat → Prop), z = .int .i64 k ∧ k ≤ n ∧ VS.frF C (n - k) V' k = q0 ∧ Bd V1 V' k 0 ∧ VolAtR wr Fv' C V' (some ⟨bR, 0, none⟩) c1' ∧ Turn Fv Fv' W wr) (fun z _ => n - (intOf z).toNat)
  case atStart => exact ⟨0, V1, Fv1, rfl, Nat.zero_le _, HQ0.out, Bd.refl HB1.out.ok HB1.out.len, H1R.out, HT1.out⟩
  case round =>
    clear H1R HT1 HQ0
    obtain ⟨k, V', Fv', rfl, hk, hr, hbd, hv, ht⟩ := hrel
    have HT := Lib.hid ht
    have HBD := Lib.hid hbd
    have HRR := Lib.hid hr
    have hbl := hbd.log
    have hbw := hbd.wr
    have hb1l := HB1.out.log
    have hb1w := HB1.out.wr
    have hlw := HLW.out
    have hsl : V'.x.sl.length = n := by rw [hbd.sll, HSL.out]
    have hle : n = V'.ss.length := by rw [← hsl]; exact hbd.len
    by_cases hlt : k < n
    · obtain ⟨m, hm⟩ : ∃ m, n - k = m + 1 := ⟨n - k - 1, by omega⟩
      rw [hm] at hr
      have u1 : (k : Int) < (n : Int) := by omega
      have e1 : IntKind.i64.wrap ((k : Int) + 1) = ((k + 1 : Nat) : Int) := by rw [IntWalk.i64_in _ (by omega)]; rfl
      obtain ⟨x, hx⟩ : ∃ x, V'.x.sl[k]? = some x := ⟨_, List.getElem?_eq_getElem (by omega)⟩
      have hE : q0 = if x.valid = true then (if V'.freeE C k ≠ 0 then (V'.freeE C k, V'.freeV C k) else VS.frF C m (V'.freeV C k) (k + 1)) else VS.frF C m V' (k + 1) := by
        rw [← hr, VS.frF, CS.at_eq hx]
      have HQ := Lib.hid hE
      obtain ⟨Fc, B, d, h⟩ := hv.tight
      obtain ⟨p0, p1, p2, p3⟩ := h.slotC hx
      have hb0 : Below wr.heap.size wr (wr.alloc (.cells #[.bool x.valid, .bool x.dirty, .int .i64 x.block, .int .i64 x.stamp] 31)) := (Below.refl _ wr).alloc (Nat.le_refl _) _
      have hC0 := Cs.new wr 31 #[.bool x.valid, .bool x.dirty, .int .i64 x.block, .int .i64 x.stamp]
      have HX := Lib.hid hx
      have HSL2 := Lib.hid hsl
      have HLE := Lib.hid hle
      obtain ⟨xv, xd, xb, xs⟩ := x
      dsimp only at p0 p1 p2 p3 hb0 hC0 HQ
      have H := Lib.hid h
      clear hr hE hbd hv ht h HRR hx hsl hle
      cases xv
      · have HQ2 : Hid (VS.frF C m V' (k + 1) = q0) := (HQ.out.trans (if_neg (by simp))).symm
        have HX2 := Lib.hid (H.out.keep hb0)
        have HT2 := Lib.hid (HT.out.trans (Turn.of_below (F := Fv') hb0))
        go_upto_region 7 with (fail)
        clear p0 p1 p2 p3 hb0 HQ H HT
        obtain ⟨t, ht⟩ : ∃ t, wr.heap.size = t := ⟨_, rfl⟩
        rw [ht] at hC0 ⊢
        clear ht
        generalize (wr.alloc (.cells #[.bool false, .bool xd, .int .i64 xb, .int .i64 xs] 31)) = w2 at *
        have y0 : w2.cell? ⟨t, 0, none⟩ = some (.bool false) := hC0.cell 0
        clear hC0
        go_wp2_with fail
        go_roundw
        case rel => exact ⟨k + 1, V', Fv', by go_num, by omega, by rw [show n - (k + 1) = m by omega, HQ2.out], HBD.out.mono (by omega) (Nat.le_refl _), ⟨_, _, _, HX2.out.fv (fun j hj => hj.1)⟩, HT2.out⟩
        case measure => simp [intOf]; omega
      · have HQ2 : Hid (q0 = if V'.freeE C k ≠ 0 then (V'.freeE C k, V'.freeV C k) else VS.frF C m (V'.freeV C k) (k + 1)) := HQ.out.trans (if_pos rfl)
        have HX2 := Lib.hid (H.out.keep hb0)
        have HT2 := Lib.hid (HT.out.trans (Turn.of_below (F := Fv') hb0))
        have HFR := Lib.hid (vfreeR_any (wr.alloc (.cells #[.bool true, .bool xd, .int .i64 xb, .int .i64 xs] 31)) _ C V' k _ _ ⟨_, _, _, HX2.out.fv (fun j hj => hj.1)⟩ (by rw [HSL2.out]; exact HLE.out) (by rw [← HLE.out]; omega) (by rw [← HLE.out]; omega) hn2 (by omega) (by omega))
        have HBF := Lib.hid (HBD.out.fr (C := C) k)
        go_upto_region 7 with (fail)
        clear p0 p1 p2 p3 hb0 HQ H HT
        obtain ⟨t, ht⟩ : ∃ t, wr.heap.size = t := ⟨_, rfl⟩
        rw [ht] at hC0 ⊢
        clear ht
        generalize (wr.alloc (.cells #[.bool true, .bool xd, .int .i64 xb, .int .i64 xs] 31)) = w2 at *
        have y0 : w2.cell? ⟨t, 0, none⟩ = some (.bool true) := hC0.cell 0
        generalize V'.freeE C k = e2 at *
        generalize V'.freeV C k = V2 at *
        clear hC0 HX2
        go_upto_region 9 with (go_at_call 61; refine HFR.out.mono ?_; rintro e w3 ⟨rfl, Fv3, hv3, ht3⟩; have HV3 := Lib.hid hv3; have HT3 := Lib.hid (HT2.out.trans ht3); clear hv3 ht3)
        clear y0 HFR
        by_cases h2 : e2 = 0
        rotate_left
        · have hq : (e2 != 0) = true := by simpa using h2
          have HQ3 : Hid (rR = (e2, V2)) := by
            show _ = _
            rw [HE1.out, HQ2.out, if_pos h2]
            exact bnd_no h2
          clear HQ2
          go_wp2_with fail
          go_ret
          rw [HQ3.out]
          exact ⟨rfl, Fv3, HV3.out.at_, HT3.out⟩
        · have HQ3 : Hid (VS.frF C m V2 (k + 1) = q0) := (HQ2.out.trans (if_neg (fun e => e h2))).symm
          subst h2
          clear HQ2
          go_wp2_with fail
          go_roundw
          case rel => exact ⟨k + 1, V2, Fv3, by go_num, by omega, by rw [show n - (k + 1) = m by omega, HQ3.out], HBF.out, HV3.out, HT3.out⟩
          case measure => simp [intOf]; omega
    · have hkn : n = k := by omega
      have HQ : Hid (rR = (V'.S.chkF 0, { V' with S := V'.S.flush 0 })) := by
        show _ = _
        rw [HE1.out, ← HRR.out, hkn, Nat.sub_self]
        rfl
      have u1 : ¬ (k : Int) < (n : Int) := by omega
      obtain ⟨Fc, B, d, h⟩ := hv
      obtain ⟨c0, c1, c2, c3, c4, c5, c6, c7, c8, c9⟩ := h.cells
      have H := Lib.hid h
      have HFL := Lib.hid (csflush_any wr Fc C.g C.s2 C.m C.n2 C.s0 0 C.n0 V'.S V'.ss (C.chunk : Int) V'.md V'.op h.cache h.sp0 h.o0 (by omega))
      clear hr hbd ht h HRR hkn c0 c1 c2 c3 c4 c6 c7 c8 c9 hsl hle
      go_wp2_with (go_at_call 189; refine HFL.out.mono ?_; rintro e w2 ⟨rfl, Fc3, hc3, ht3⟩; have HX3 : Hid (VolIn w2 Fc3 _ C { V' with S := V'.S.flush 0 } _ _ _ _) := H.out.turn hc3 ht3; have HT3 := Lib.hid (HT.out.trans (H.out.wide ht3)); clear hc3 ht3)
      go_ret
      rw [HQ.out]
      exact ⟨rfl, _, ⟨_, _, _, _, _, HX3.out⟩, HT3.out⟩

/-- What Close leaves. -/
def VS.closV (C : VC) (V : VS) : VS := { V.flV with S := (V.flV.S.flush 2).first 2 C.n2 (hdI V.ss.length (C.chunk : Int) V.md false), op := false, closed := true }
set_option maxRecDepth 100000 in
set_option maxHeartbeats 4000000 in
theorem vclose_any (W : World) (Fv : Nat → Prop) (C : VC) (V : VS) (h : VolAt W Fv C V) (hc : V.closed = false) (hst : V.stuck = false) (he : V.flE = 0) (hcf : V.flV.S.chkF 2 = 0) (hfr : (V.flV.S.flush 2).firstR 2 C.n2 (hdI V.ss.length (C.chunk : Int) V.md false) = 0)
    (h1 : 1 ≤ C.n2) (hn2 : C.n2 ≤ 65536) (hk : V.ss.length ≤ 1024) (hlog : V.S.log.length < 1000000) (hwr : V.S.wr ≤ 1000000) :
    Calls Tryz.prog 23 #[.pointer (some ⟨C.v, 0, none⟩)] W (VolP W Fv C (.int .i64 0) (V.closV C)) := by
  have hfl := vflush_any W Fv C V h hc (by omega)
  rw [he] at hfl
  have HF := Lib.hid hfl
  have HCF := Lib.hid hcf
  have HFR := Lib.hid hfr
  have hlg : V.flV.S.log.length < 1000000 ∧ V.flV.S.wr ≤ 1000000 := by
    have q1 := flush_log V.S 1
    have q2 := flush_log (V.S.flush 1) 2
    have q3 := flush_log ((V.S.flush 1).flush 2) 0
    refine ⟨?_, ?_⟩
    · show (((V.S.flush 1).flush 2).flush 0).log.length < _
      omega
    · show (((V.S.flush 1).flush 2).flush 0).wr ≤ _
      rw [q3.2, q2.2, q1.2]; exact hwr
  have HFI : Hid (V.flV.stuck = V.stuck ∧ V.flV.ss = V.ss ∧ V.flV.md = V.md) := ⟨rfl, rfl, rfl⟩
  have HE : Hid (V.closV C = { V.flV with S := (V.flV.S.flush 2).first 2 C.n2 (hdI V.ss.length (C.chunk : Int) V.md false), op := false, closed := true }) := rfl
  have HST := Lib.hid hst
  generalize V.closV C = rV at *
  generalize V.flV = V1 at *
  clear h hc he hcf hfr hfl hst
  go_enter Tryz.func23, Tryz.ntmps23
  go_upto_region 4 with (go_at_call 34; refine HF.out.mono ?_; rintro e w1 ⟨rfl, Fv1, hv1, ht1⟩; have HV1 := Lib.hid hv1; have HT1 := Lib.hid ht1; clear hv1 ht1)
  obtain ⟨Fc, A, c, B, d, h⟩ := HV1.out.tight
  obtain ⟨c0, c1, c2, c3, c4, c5, c6, c7, c8, c9⟩ := h.cells
  rw [HFI.out.1, HST.out] at c8
  have HX := Lib.hid h
  have HEN := Lib.hid (cendK w1 Fc C.g C.s2 C.m C.n2 V1.S V1.ss (C.chunk : Int) V1.md V1.op h.cache HCF.out (by rw [HFI.out.2.1, HFI.out.2.2]; exact HFR.out) h1 hn2 (by rw [HFI.out.2.1]; exact hk) hlg.1 hlg.2)
  clear HF HV1 h c1 c2 c3 c4 c5 c6 c7 c9
  go_upto_region 7 with (go_at_call 55; refine HEN.out.mono ?_; rintro e w2 ⟨rfl, Fc2, hc2, ht2⟩; have HX2 := Lib.hid (HX.out.turn hc2 ht2); have HT2 := Lib.hid (HT1.out.trans (HX.out.wide ht2).tg); clear hc2 ht2)
  have f9 := HX2.out.vol.free 9
  obtain ⟨-, -, -, -, -, -, -, -, -, c9⟩ := HX2.out.cells
  have HX3 := Lib.hid (HX2.out.closeT true)
  have HT3 := Lib.hid (HT2.out.set (b := C.v) (i := 9) (HT2.out.2 _ HX2.out.iv) (.bool true))
  clear c0 c8 HEN
  go_wp2_with fail
  go_ret
  refine ⟨rfl, _, ?_, HT3.out⟩
  rw [HE.out, ← HFI.out.2.1, ← HFI.out.2.2]
  exact ⟨_, _, _, _, _, HX3.out⟩

end Go.Proofs.YtogchafnnkajfaaGreat

namespace Go.Proofs.YtogchafnnkajfaaGreat
set_option linter.unusedVariables false

section
variable {S : DS} {ns : List Nat} {i n : Nat}
theorem wr_out (h : Hea S ns) (hd : S.down = false) (hi : ns[i]? = some n) (j v : Nat) (hj : j < n) :
    (S.swE i n (j : Int) = 0 ∧ (S.swrite i n (j : Int) v).down = false ∧ (S.fuse = 0 → (S.swrite i n (j : Int) v).fuse = 0) ∧ Wro S (S.swrite i n (j : Int) v) ns i j v) ∨
    (S.fuse ≠ 0 ∧ S.swE i n (j : Int) = 5 ∧ (S.swrite i n (j : Int) v).down = true ∧ Shr S (S.swrite i n (j : Int) v) ns) := by
  have e1 := h.swE hi j hj
  have e2 := h.swrite hi j v hj
  rw [hd, if_neg (by simp)] at e2
  by_cases hf : S.fuse = 1
  · right
    rw [if_pos (.inr hf)] at e1
    rw [if_pos hf] at e2
    rw [e2]
    exact ⟨by omega, e1, rfl, Shr.eq h rfl rfl⟩
  · left
    rw [if_neg (by rintro (h | h); rw [hd] at h; cases h; exact hf h)] at e1
    rw [if_neg hf] at e2
    rw [e2]
    refine ⟨e1, hd, fun e => ?_, Wro.of h hi j v hj⟩
    show (if 0 < S.fuse then S.fuse - 1 else S.fuse) = 0
    rw [e]; rfl
theorem fl_out (h : Hea S ns) (hd : S.down = false) (hi : ns[i]? = some n) : S.chkF (i : Int) = 0 ∧ (S.flush (i : Int)).down = false ∧ (S.flush (i : Int)).fuse = S.fuse ∧ Shr S (S.flush (i : Int)) ns ∧ Stl (S.flush (i : Int)) i := by
  have e1 := h.chkF hi
  have e2 := h.flush hi
  rw [hd, if_neg (by simp)] at e1 e2
  rw [e2]
  exact ⟨e1, hd, rfl, (Shr.flS h hi).1, (Shr.flS h hi).2⟩
theorem rd_out (h : Hea S ns) (hd : S.down = false) (hi : ns[i]? = some n) (j : Nat) (hj : j < n) : S.sE i n (j : Int) = 0 ∧ (S.now i)[j]? = some (S.sread i n (j : Int)) := by
  have e1 := h.sE hi j hj
  rw [hd, if_neg (by simp)] at e1
  refine ⟨e1, ?_⟩
  rw [h.sread hi j hj hd, List.getElem?_eq_getElem (by rw [(h.nn i n hi).1]; exact hj)]
  rfl
/-- Nothing goes, where the power is away. -/
theorem wr_down (h : Hea S ns) (hd : S.down = true) (hi : ns[i]? = some n) (j v : Nat) (hj : j < n) : S.swE i n (j : Int) = 5 ∧ S.swrite i n (j : Int) v = S := by
  have e1 := h.swE hi j hj
  have e2 := h.swrite hi j v hj
  rw [if_pos (.inl hd)] at e1
  rw [if_pos hd] at e2
  exact ⟨e1, e2⟩
theorem fl_down (h : Hea S ns) (hd : S.down = true) (hi : ns[i]? = some n) : S.chkF (i : Int) = 5 ∧ S.flush (i : Int) = S := by
  have e1 := h.chkF hi
  have e2 := h.flush hi
  rw [if_pos hd] at e1 e2
  exact ⟨e1, e2⟩
theorem rd_down (h : Hea S ns) (hd : S.down = true) (hi : ns[i]? = some n) (j : Nat) (hj : j < n) : S.sE i n (j : Int) = 5 := by
  have e1 := h.sE hi j hj
  rw [if_pos hd] at e1
  exact e1
end

/-- Words are copied. -/
def cpL (l : List Nat) (b : Nat) (src : List Nat) (a : Nat) : Nat → List Nat
  | 0 => l
  | i + 1 => (cpL l b src a i).set (b + i) (src[a + i]?.getD 0)
theorem cpL_length (l : List Nat) (b : Nat) (src : List Nat) (a i : Nat) : (cpL l b src a i).length = l.length := by
  induction i with
  | zero => rfl
  | succ i ih => rw [cpL, List.length_set, ih]
theorem cpL_at (l : List Nat) (b : Nat) (src : List Nat) (a i j : Nat) : (cpL l b src a i)[j]? = if b ≤ j ∧ j < b + i ∧ j < l.length then some (src[a + (j - b)]?.getD 0) else l[j]? := by
  induction i with
  | zero => rw [cpL, if_neg (by omega)]
  | succ i ih =>
    rw [cpL, List.getElem?_set, cpL_length, ih]
    by_cases e : b + i = j
    · subst e
      by_cases hl : b + i < l.length
      · rw [if_pos rfl, if_pos hl, if_pos ⟨by omega, by omega, hl⟩, show b + i - b = i by omega]
      · rw [if_pos rfl, if_neg hl, if_neg (by omega), List.getElem?_eq_none (by omega)]
    · rw [if_neg e]
      by_cases h : b ≤ j ∧ j < b + i ∧ j < l.length
      · rw [if_pos h, if_pos ⟨h.1, by omega, h.2.2⟩]
      · rw [if_neg h, if_neg (by omega)]

section
variable {C : VC} {S S' : DS} {sl : List Sl} {pm : Bool} {ok : Nat → Nat → Prop}
theorem VI.hea (h : VI C S sl pm ok) : Hea S [C.n0, C.n1, C.n2] := h.k.hea

/-- A sector of a slot that is not valid is written. -/
theorem VI.fast (h : VI C S sl pm ok) {k : Nat} {x : Sl} (hx : sl[k]? = some x) (hv : x.valid = false) {i v : Nat} (hi : i < C.chunk) (hw : Wro S S' [C.n0, C.n1, C.n2] 1 (k * C.chunk + i) v) :
    VI C S' sl pm ok ∧ ∀ a u, VV C S sl a u → VV C S' sl a u := by
  have c2 : ∀ b u, S'.Cand 2 b u → S.Cand 2 b u := fun b u hc => (hw.cand 2 b u hc).elim id (fun e => by omega)
  have c0 : ∀ b u, S'.Cand 0 b u → S.Cand 0 b u := fun b u hc => (hw.cand 0 b u hc).elim id (fun e => by omega)
  have n0 : S'.now 0 = S.now 0 := by rw [hw.now, if_neg (by decide)]
  have n2 : S'.now 2 = S.now 2 := by rw [hw.now, if_neg (by decide)]
  have hne : ∀ {k' : Nat} {x' : Sl} {i' : Nat}, sl[k']? = some x' → x'.valid = true → i' < C.chunk → k * C.chunk + i ≠ k' * C.chunk + i' := by
    intro k' x' i' hx' hv' hi' e
    obtain ⟨e1, -⟩ := blk_eq hi hi' e
    subst e1
    rw [hx] at hx'
    injection hx' with hx'
    subst hx'
    rw [hv] at hv'
    cases hv'
  refine ⟨⟨⟨hw.hea, h.k.n2, h.k.n1, h.k.ch, h.k.uq, h.k.wh, fun u hu => h.k.hd u (c2 _ _ hu), fun k x w hx hc => h.k.pc k x w hx (c2 _ _ hc), fun e k x hx hv hc => h.k.m e k x hx hv (c2 _ _ hc), ?_, fun k x w i u hx hv hw hne hi hc => h.k.b k x w i u hx hv (c2 _ _ hw) hne hi (c0 _ _ hc), fun a u ha hn hc => h.k.bo a u ha hn (c0 _ _ hc)⟩, fun k x hx => by rw [n2]; exact h.wd k x hx, ?_, h.nl⟩, ?_⟩
  · intro k' x' i' u hx' hv' hi' hc
    rcases hw.cand 1 _ u hc with hc | ⟨-, e, -⟩
    · exact h.k.a k' x' i' u hx' hv' hi' hc
    · exact absurd e.symm (hne hx' hv' hi')
  · intro k' x' i' hx' hv' hd' hi'
    rw [n0, hw.now, if_pos rfl, List.getElem?_set_ne (hne hx' hv' hi')]
    exact h.ceq k' x' i' hx' hv' hd' hi'
  · intro a u hu
    rcases hu with ⟨k', x', hx', hv', hb', hn'⟩ | ⟨hno, hn'⟩
    · refine .inl ⟨k', x', hx', hv', hb', ?_⟩
      rw [hw.now, if_pos rfl, List.getElem?_set_ne (hne hx' hv' (blk_at a C.chunk h.k.ch).2)]
      exact hn'
    · exact .inr ⟨hno, by rw [n0]; exact hn'⟩

/-- What copying leaves. -/
def CpO (C : VC) (S : DS) (sl : List Sl) (pm : Bool) (ok : Nat → Nat → Prop) (p a q b i : Nat) (r : Int × DS) : Prop :=
  (r.1 = 0 ∧ r.2.down = false ∧ (S.fuse = 0 → r.2.fuse = 0) ∧ VI C r.2 sl pm ok ∧ (∀ k, k ≠ q → r.2.now k = S.now k) ∧ r.2.now q = cpL (S.now q) b (S.now p) a i ∧ (∀ a u, VV C S sl a u → VV C r.2 sl a u) ∧ (∀ k, k ≠ q → Stl S k → Stl r.2 k)) ∨ (S.fuse ≠ 0 ∧ r.1 = 5 ∧ r.2.down = true ∧ VK C r.2 sl pm ok)
theorem cp_back (h : VI C S sl pm ok) (hd : S.down = false) {k : Nat} {x : Sl} (hx : sl[k]? = some x) (hv : x.valid = true) (hdt : x.dirty = true) (i : Nat) (hi : i ≤ C.chunk) :
    CpO C S sl pm ok 1 (k * C.chunk) 0 (x.block.toNat * C.chunk) i (vcp S 1 C.n1 (k * C.chunk) 0 C.n0 (x.block.toNat * C.chunk) i) := by
  induction i with
  | zero => exact .inl ⟨rfl, hd, id, h, fun _ _ => rfl, rfl, fun _ _ hu => hu, fun _ _ hs => hs⟩
  | succ i ih =>
    obtain hI := ih (by omega)
    rw [vcp]
    rcases hI with ⟨e0, hd1, hf1, h1, hn1, hn0, hvv, hst⟩ | ⟨hf, e5, hd1, hk1⟩
    · rw [if_neg (by rw [e0]; exact fun e => e rfl)]
      generalize (vcp S 1 C.n1 (k * C.chunk) 0 C.n0 (x.block.toNat * C.chunk) i).2 = S1 at *
      have hfl := h1.k.fast hx (i := i) (by omega)
      obtain ⟨r1, r2⟩ := rd_out h1.hea hd1 (i := 1) (n := C.n1) rfl (k * C.chunk + i) hfl
      have hbl := (h1.k.wh k x hx hv).2
      unfold vcpOne
      rw [show ((k * C.chunk : Nat) : Int) + (i : Int) = ((k * C.chunk + i : Nat) : Int) from rfl, show ((x.block.toNat * C.chunk : Nat) : Int) + (i : Int) = ((x.block.toNat * C.chunk + i : Nat) : Int) from rfl, if_neg (by rw [r1]; exact fun e => e rfl)]
      rcases wr_out h1.hea hd1 (i := 0) (n := C.n0) rfl (x.block.toNat * C.chunk + i) (S1.sread 1 C.n1 ((k * C.chunk + i : Nat) : Int)) (by omega) with ⟨w1, w2, w3, w4⟩ | ⟨w0, w1, w2, w3⟩
      · obtain ⟨g1, g2⟩ := h1.org hx hv hdt (by omega) w4 r2
        refine .inl ⟨w1, w2, fun e => w3 (hf1 e), g1, fun j hj => by rw [w4.now, if_neg hj]; exact hn1 j hj, ?_, fun a u hu => g2 a u (hvv a u hu), fun j hj hs => (hst j hj hs).wro w4 hj⟩
        rw [w4.now, if_pos rfl, hn0, cpL]
        congr 1
        rw [hn1 1 (by decide)] at r2
        rw [r2]
        rfl
      · exact .inr ⟨fun e => w0 (hf1 e), w1, w2, h1.k.shr w3⟩
    · rw [if_pos (by rw [e5]; decide)]
      exact .inr ⟨hf, e5, hd1, hk1⟩
theorem cp_in (h : VI C S sl pm ok) (hd : S.down = false) {k b : Nat} {x : Sl} (hx : sl[k]? = some x) (hv : x.valid = false) (hb : b * C.chunk + C.chunk ≤ C.n0) (i : Nat) (hi : i ≤ C.chunk) :
    CpO C S sl pm ok 0 (b * C.chunk) 1 (k * C.chunk) i (vcp S 0 C.n0 (b * C.chunk) 1 C.n1 (k * C.chunk) i) := by
  induction i with
  | zero => exact .inl ⟨rfl, hd, id, h, fun _ _ => rfl, rfl, fun _ _ hu => hu, fun _ _ hs => hs⟩
  | succ i ih =>
    obtain hI := ih (by omega)
    rw [vcp]
    rcases hI with ⟨e0, hd1, hf1, h1, hn1, hn0, hvv, hst⟩ | ⟨hf, e5, hd1, hk1⟩
    · rw [if_neg (by rw [e0]; exact fun e => e rfl)]
      generalize (vcp S 0 C.n0 (b * C.chunk) 1 C.n1 (k * C.chunk) i).2 = S1 at *
      have hfl := h1.k.fast hx (i := i) (by omega)
      obtain ⟨r1, r2⟩ := rd_out h1.hea hd1 (i := 0) (n := C.n0) rfl (b * C.chunk + i) (by omega)
      unfold vcpOne
      rw [show ((k * C.chunk : Nat) : Int) + (i : Int) = ((k * C.chunk + i : Nat) : Int) from rfl, show ((b * C.chunk : Nat) : Int) + (i : Int) = ((b * C.chunk + i : Nat) : Int) from rfl, if_neg (by rw [r1]; exact fun e => e rfl)]
      rcases wr_out h1.hea hd1 (i := 1) (n := C.n1) rfl (k * C.chunk + i) (S1.sread 0 C.n0 ((b * C.chunk + i : Nat) : Int)) (by omega) with ⟨w1, w2, w3, w4⟩ | ⟨w0, w1, w2, w3⟩
      · obtain ⟨g1, g2⟩ := h1.fast hx hv (by omega) w4
        refine .inl ⟨w1, w2, fun e => w3 (hf1 e), g1, fun j hj => by rw [w4.now, if_neg hj]; exact hn1 j hj, ?_, fun a u hu => g2 a u (hvv a u hu), fun j hj hs => (hst j hj hs).wro w4 hj⟩
        rw [w4.now, if_pos rfl, hn0, cpL]
        congr 1
        rw [hn1 0 (by decide)] at r2
        rw [r2]
        rfl
      · exact .inr ⟨fun e => w0 (hf1 e), w1, w2, h1.k.shr w3⟩
    · rw [if_pos (by rw [e5]; decide)]
      exact .inr ⟨hf, e5, hd1, hk1⟩
end

/-- The word of a slot is put, and flushed. -/
theorem st_out {C : VC} {V : VS} {sl : List Sl} {pm : Bool} {ok : Nat → Nat → Prop} (h : VI C V.S sl pm ok) (hd : V.S.down = false) (k : Nat) (hk : k < sl.length) (y : Sl) :
    (V.setE C k = 0 ∧ (V.setV C k y).S.chkF 2 = 0 ∧ ((V.setV C k y).S.flush 2).down = false ∧ (V.S.fuse = 0 → ((V.setV C k y).S.flush 2).fuse = 0) ∧ Cmt V.S ((V.setV C k y).S.flush 2) [C.n0, C.n1, C.n2] k y.word ∧ (∀ j, j ≠ 2 → Stl V.S j → Stl ((V.setV C k y).S.flush 2) j)) ∨
    (V.S.fuse ≠ 0 ∧ V.setE C k = 5 ∧ (V.setV C k y).S.down = true ∧ VK C (V.setV C k y).S sl pm ok) := by
  have hn2 := h.k.n2
  have e : V.setE C k = V.S.swE 2 C.n2 ((1 + k : Nat) : Int) := by unfold VS.setE; congr 1
  have eS : (V.setV C k y).S = V.S.swrite 2 C.n2 ((1 + k : Nat) : Int) y.word := by
    show V.S.swrite 2 C.n2 (1 + (k : Int)) y.word = _
    congr 1
  rw [e, eS]
  rcases wr_out h.hea hd (i := 2) (n := C.n2) rfl (1 + k) y.word (by omega) with ⟨w1, w2, w3, w4⟩ | ⟨w0, w1, w2, w3⟩
  · obtain ⟨f1, f2, f3, f4, f5⟩ := fl_out w4.hea w2 (i := 2) (n := C.n2) rfl
    refine .inl ⟨w1, f1, f2, fun e => by rw [show ((2 : Int)) = ((2 : Nat) : Int) from rfl, f3]; exact w3 e, ⟨f4.hea, ?_, ?_, ?_, ?_, ?_, f5⟩, ?_⟩
    · exact (f4.now 0).trans (by rw [w4.now, if_neg (by decide)])
    · exact (f4.now 1).trans (by rw [w4.now, if_neg (by decide)])
    · exact (f4.now 2).trans (by rw [w4.now, if_pos rfl])
    · exact fun b x hc => (w4.cand 0 b x (f4.cand 0 b x hc)).elim id (fun e => by omega)
    · exact fun b x hc => (w4.cand 1 b x (f4.cand 1 b x hc)).elim id (fun e => by omega)
    · exact fun j hj hs => (hs.wro w4 hj).shr f4
  · exact .inr ⟨w0, w1, w2, h.k.shr w3⟩

end Go.Proofs.YtogchafnnkajfaaGreat

namespace Go.Proofs.YtogchafnnkajfaaGreat
set_option linter.unusedVariables false

/-- The definition's volume: the words of three devices, the state. -/
structure RV where
  o : List Nat
  f : List Nat
  m : List Nat
  x : CS
def view (V : VS) : RV := ⟨V.S.now 0, V.S.now 1, V.S.now 2, V.x⟩
def RV.back (c : Nat) (R : RV) (k : Nat) (cl : Bool) : RV := ⟨cpL R.o ((R.x.at_ k).block.toNat * c) R.f (k * c) c, R.f, if cl = true then R.m.set (1 + k) ((R.x.setD k false).at_ k).word else R.m, R.x.setD k false⟩
def RV.free (R : RV) (k : Nat) : RV := ⟨R.o, R.f, R.m.set (1 + k) 0, R.x.clear k⟩
def RV.vic (c : Nat) (R : RV) (k : Nat) : RV := if (R.x.at_ k).dirty = true then R.back c k false else R
def RV.vic2 (c : Nat) (R : RV) (k : Nat) : RV := if ((R.vic c k).x.at_ k).valid = true then (R.vic c k).free k else R.vic c k
def RV.prom (c : Nat) (R : RV) (k b : Nat) : RV := ⟨(R.vic2 c k).o, cpL (R.vic2 c k).f (k * c) (R.vic2 c k).o (b * c) c, (R.vic2 c k).m.set (1 + k) (dwd (b : Int) false), (R.vic2 c k).x.place k (b : Int)⟩
def RV.slot (c : Nat) (R : RV) (a : Nat) : Int × RV :=
  if ¬ (a / c + 1) * c ≤ R.o.length then (-1, R)
  else if 0 ≤ R.x.find ((a / c : Nat) : Int) then (R.x.find ((a / c : Nat) : Int), { R with x := R.x.touch (R.x.find ((a / c : Nat) : Int)).toNat })
  else if (R.x.miss ((a / c : Nat) : Int)).2 = false then (-1, { R with x := (R.x.miss ((a / c : Nat) : Int)).1 })
  else ((R.x.miss ((a / c : Nat) : Int)).1.victim, RV.prom c { R with x := (R.x.miss ((a / c : Nat) : Int)).1 } (R.x.miss ((a / c : Nat) : Int)).1.victim.toNat (a / c))

/-- What a step leaves, or a power failure in it. -/
def Ou (C : VC) (pm : Bool) (ok : Nat → Nat → Prop) (V : VS) (r : Int × VS) (Q : VS → Prop) : Prop :=
  (r.1 = 0 ∧ r.2.S.down = false ∧ (V.S.fuse = 0 → r.2.S.fuse = 0) ∧ VI C r.2.S r.2.x.sl pm ok ∧ Q r.2) ∨ (V.S.fuse ≠ 0 ∧ r.1 = 5 ∧ r.2.S.down = true ∧ ∃ sl, VK C r.2.S sl pm ok)
theorem Ou.bnd {C : VC} {pm : Bool} {ok : Nat → Nat → Prop} {V : VS} {p : Int × VS} {f : VS → Int × VS} {Q R : VS → Prop} (h : Ou C pm ok V p Q) (hf : p.2.S.down = false → VI C p.2.S p.2.x.sl pm ok → Q p.2 → Ou C pm ok p.2 (f p.2) R) : Ou C pm ok V (Go.Proofs.YtogchafnnkajfaaGreat.bnd p f) R := by
  rcases h with ⟨h0, h1, h2, h3, h4⟩ | ⟨h0, h1, h2, h3⟩
  · rw [bnd_ok h0]
    rcases hf h1 h3 h4 with ⟨g0, g1, g2, g3, g4⟩ | ⟨g0, g1, g2, g3⟩
    · exact .inl ⟨g0, g1, fun e => g2 (h2 e), g3, g4⟩
    · exact .inr ⟨fun e => g0 (h2 e), g1, g2, g3⟩
  · rw [bnd_no (by rw [h1]; decide)]
    exact .inr ⟨h0, h1, h2, h3⟩
theorem Ou.mono {C : VC} {pm : Bool} {ok : Nat → Nat → Prop} {V : VS} {p : Int × VS} {Q R : VS → Prop} (h : Ou C pm ok V p Q) (hq : p.1 = 0 → Q p.2 → R p.2) : Ou C pm ok V p R := by
  rcases h with ⟨h0, h1, h2, h3, h4⟩ | h
  · exact .inl ⟨h0, h1, h2, h3, hq h0 h4⟩
  · exact .inr h

section
variable {C : VC} {V : VS} {pm : Bool} {ok : Nat → Nat → Prop} {k : Nat} {x : Sl}

/-- Something of a device is flushed. -/
theorem fl_ou (h : VI C V.S V.x.sl pm ok) (hd : V.S.down = false) {i n : Nat} (hi : [C.n0, C.n1, C.n2][i]? = some n) : Ou C pm ok V (V.S.chkF (i : Int), { V with S := V.S.flush (i : Int) }) (fun V' => view V' = view V ∧ V'.x = V.x ∧ V'.ss = V.ss ∧ Stl V'.S i ∧ (∀ j, Stl V.S j → Stl V'.S j)) := by
  obtain ⟨f1, f2, f3, f4, f5⟩ := fl_out h.hea hd hi
  refine .inl ⟨f1, f2, fun e => f3.trans e, h.shr f4, ?_, rfl, rfl, f5, fun j hs => hs.shr f4⟩
  unfold view
  dsimp only
  rw [f4.now, f4.now, f4.now]

/-- A dirty slot is copied back. -/
theorem cb_ou (h : VI C V.S V.x.sl pm ok) (hd : V.S.down = false) (hx : V.x.sl[k]? = some x) (hv : x.valid = true) (hdt : x.dirty = true) :
    Ou C pm ok V (V.cbE C k x.block.toNat, V.cbV C k x.block.toNat) (fun V' => view V' = { view V with o := cpL (V.S.now 0) (x.block.toNat * C.chunk) (V.S.now 1) (k * C.chunk) C.chunk } ∧ V'.x = V.x ∧ V'.ss = V.ss ∧ Stl V'.S 0 ∧ (∀ a u, VV C V.S V.x.sl a u → VV C V'.S V'.x.sl a u) ∧ (∀ j, j ≠ 0 → Stl V.S j → Stl V'.S j)) := by
  have hc := cp_back h hd hx hv hdt C.chunk (Nat.le_refl _)
  have eE : V.cbE C k x.block.toNat = if (V.cb C k x.block.toNat).1 = 0 then (V.cb C k x.block.toNat).2.chkF 0 else (V.cb C k x.block.toNat).1 := rfl
  have eV : V.cbV C k x.block.toNat = { V with S := if (V.cb C k x.block.toNat).1 = 0 then (V.cb C k x.block.toNat).2.flush 0 else (V.cb C k x.block.toNat).2 } := rfl
  have eC : V.cb C k x.block.toNat = vcp V.S 1 C.n1 (k * C.chunk) 0 C.n0 (x.block.toNat * C.chunk) C.chunk := rfl
  rw [eE, eV]
  rw [← eC] at hc
  generalize V.cb C k x.block.toNat = r at *
  obtain ⟨re, rS⟩ := r
  rcases hc with ⟨h0, h1, h2, h3, h4, h5, h6, h7⟩ | ⟨h0, h1, h2, h3⟩
  · dsimp only at h0 h1 h2 h3 h4 h5 h6 h7 ⊢
    rw [if_pos h0, if_pos h0]
    obtain ⟨f1, f2, f3, f4, f5⟩ := fl_out h3.hea h1 (i := 0) (n := C.n0) rfl
    refine .inl ⟨f1, f2, fun e => f3.trans (h2 e), h3.shr f4, ?_, rfl, rfl, f5, fun a u hu => (h6 a u hu).now (f4.now 0) (f4.now 1), fun j hj hs => (h7 j hj hs).shr f4⟩
    have e0 := f4.now 0
    have e1 := f4.now 1
    have e2 := f4.now 2
    unfold view
    dsimp only
    rw [show ((0 : Int)) = ((0 : Nat) : Int) from rfl, e0, e1, e2, h5, h4 1 (by decide), h4 2 (by decide)]
  · dsimp only at h0 h1 h2 h3 ⊢
    rw [if_neg (by rw [h1]; decide), if_neg (by rw [h1]; decide)]
    exact .inr ⟨h0, h1, h2, _, h3⟩

/-- What must hold of a slot ahead of its word's telling that the origin has the block. -/
def Eqs (C : VC) (S : DS) (ok : Nat → Nat → Prop) (k : Nat) (x : Sl) : Prop := x.valid = true → (∀ i, i < C.chunk → (S.now 1)[k * C.chunk + i]? = (S.now 0)[x.block.toNat * C.chunk + i]?) ∧ ∀ i v, i < C.chunk → S.Cand 0 (x.block.toNat * C.chunk + i) v → ok (x.block.toNat * C.chunk + i) v
/-- A clean slot has it. -/
theorem Eqs.clean (h : VI C V.S V.x.sl pm ok) (hx : V.x.sl[k]? = some x) (hd : x.dirty = false) : Eqs C V.S ok k x := by
  intro hv
  have hb := (h.k.wh k x hx hv).1
  refine ⟨fun i hi => h.ceq k x i hx hv hd hi, fun i v hi hc => ?_⟩
  have hw := h.k.hea.la 2 _ _ (h.wd k x hx)
  refine h.k.b k x x.word i v hx hv hw ?_ hi hc
  rw [word_yes hv, hd]
  intro e
  have := (dwd_inj hb hb e).2
  cases this
/-- .. and a dirty one that was copied back. -/
theorem Eqs.back (h : VI C V.S V.x.sl pm ok) (hx : V.x.sl[k]? = some x) (hs : Stl V.S 0) {l : List Nat} (hl : l.length = C.n0) (hn : V.S.now 0 = cpL l (x.block.toNat * C.chunk) (V.S.now 1) (k * C.chunk) C.chunk) : Eqs C V.S ok k x := by
  intro hv
  have hbl := (h.k.wh k x hx hv).2
  have key : ∀ i, i < C.chunk → (V.S.now 1)[k * C.chunk + i]? = (V.S.now 0)[x.block.toNat * C.chunk + i]? := by
    intro i hi
    have hf := h.k.fast hx hi
    have hl1 := h.k.lens.2.1
    rw [hn, cpL_at, if_pos ⟨by omega, by omega, by omega⟩, show x.block.toNat * C.chunk + i - x.block.toNat * C.chunk = i by omega, List.getElem?_eq_getElem (by omega)]
    rfl
  refine ⟨key, fun i v hi hc => ?_⟩
  have hv0 := hs _ _ hc
  rw [← key i hi] at hv0
  exact h.k.a k x i v hx hv hi (h.k.hea.la 1 _ _ hv0)

/-- A slot is freed. -/
theorem free_ou (h : VI C V.S V.x.sl pm ok) (hd : V.S.down = false) (hx : V.x.sl[k]? = some x) (he : Eqs C V.S ok k x) :
    Ou C pm ok V (V.freeE C k, V.freeV C k) (fun V' => view V' = (view V).free k ∧ V'.x = V.x.clear k ∧ (∀ j, j ≠ 2 → Stl V.S j → Stl V'.S j) ∧ (∀ a u, VV C V.S V.x.sl a u → VV C V'.S V'.x.sl a u)) := by
  have hkl := (List.getElem?_eq_some_iff.1 hx).1
  unfold VS.freeE VS.freeV
  rcases st_out h hd k hkl nilS with ⟨h0, h1, h2, h3, h4, h5⟩ | ⟨h0, h1, h2, h3⟩
  · rw [if_pos h0, if_pos h0]
    have ex : (V.setV C k nilS).x = V.x.clear k := by unfold VS.setV; rw [if_pos h0]; rfl
    obtain ⟨g1, g2⟩ := h.cmt (y := nilS) hx h4 (fun _ => rfl) (fun e => by cases e) (fun hv _ => he hv)
    have g1' : VI C ((V.setV C k nilS).S.flush 2) (V.x.clear k).sl pm ok := g1
    refine .inl ⟨h1, h2, h3, by dsimp only; rw [ex]; exact g1', ?_, ex, h5, fun a u hu => by dsimp only; rw [ex]; exact g2 a u hu⟩
    unfold view RV.free
    dsimp only
    rw [h4.n0, h4.n1, h4.n2, ex]
    rfl
  · rw [if_neg (by rw [h1]; decide), if_neg (by rw [h1]; decide)]
    exact .inr ⟨h0, h1, h2, _, h3⟩

/-- A dirty slot is written back. -/
theorem clean_ou (h : VI C V.S V.x.sl pm ok) (hd : V.S.down = false) (hx : V.x.sl[k]? = some x) (hv : x.valid = true) (hdt : x.dirty = true) :
    Ou C pm ok V (V.clE C k x.block.toNat x, V.clV C k x.block.toNat x) (fun V' => view V' = (view V).back C.chunk k true ∧ V'.x = V.x.setD k false ∧ (∀ a u, VV C V.S V.x.sl a u → VV C V'.S V'.x.sl a u) ∧ (Stl V.S 1 → Stl V'.S 1) ∧ Stl V'.S 0 ∧ Stl V'.S 2) := by
  have hkl := (List.getElem?_eq_some_iff.1 hx).1
  have eC : V.clE C k x.block.toNat x = (bnd (V.cbE C k x.block.toNat, V.cbV C k x.block.toNat) (fun V1 => bnd (V1.setE C k, V1.setV C k { x with dirty := false }) (fun V2 => (V2.S.chkF 2, { V2 with S := V2.S.flush 2 })))).1 ∧ V.clV C k x.block.toNat x = (bnd (V.cbE C k x.block.toNat, V.cbV C k x.block.toNat) (fun V1 => bnd (V1.setE C k, V1.setV C k { x with dirty := false }) (fun V2 => (V2.S.chkF 2, { V2 with S := V2.S.flush 2 })))).2 := by
    unfold VS.clE VS.clV
    by_cases e1 : V.cbE C k x.block.toNat = 0
    · rw [bnd_ok (p := (V.cbE C k x.block.toNat, V.cbV C k x.block.toNat)) e1]
      dsimp only
      by_cases e2 : (V.cbV C k x.block.toNat).setE C k = 0
      · rw [bnd_ok (p := ((V.cbV C k x.block.toNat).setE C k, (V.cbV C k x.block.toNat).setV C k { x with dirty := false })) e2]
        simp [e1, e2]
      · rw [bnd_no (p := ((V.cbV C k x.block.toNat).setE C k, (V.cbV C k x.block.toNat).setV C k { x with dirty := false })) e2]
        simp [e1, e2]
    · rw [bnd_no (p := (V.cbE C k x.block.toNat, V.cbV C k x.block.toNat)) e1]
      simp [e1]
  rw [eC.1, eC.2]
  have hl0 := h.k.lens.1
  refine (cb_ou h hd hx hv hdt).bnd (R := fun V' => view V' = (view V).back C.chunk k true ∧ V'.x = V.x.setD k false ∧ (∀ a u, VV C V.S V.x.sl a u → VV C V'.S V'.x.sl a u) ∧ (Stl V.S 1 → Stl V'.S 1) ∧ Stl V'.S 0 ∧ Stl V'.S 2) (fun h1 h2 h3 => ?_)
  dsimp only at h1 h2 h3 ⊢
  obtain ⟨q1, q2, q3, q4, q5, q6⟩ := h3
  generalize V.cbV C k x.block.toNat = V1 at *
  unfold view at q1
  dsimp only at q1
  injection q1 with r0 r1 r2 r3
  have hx1 : V1.x.sl[k]? = some x := by rw [q2]; exact hx
  have heq := Eqs.back h2 hx1 q4 hl0 (by rw [r0, r1])
  rcases st_out h2 h1 k (by rw [q2]; exact hkl) { x with dirty := false } with ⟨g0, g1, g2, g3, g4, g5⟩ | ⟨g0, g1, g2, g3⟩
  · rw [bnd_ok g0]
    have ex : (V1.setV C k { x with dirty := false }).x = V.x.setD k false := by
      unfold VS.setV; rw [if_pos g0, q2]
      unfold CS.setD
      rw [CS.at_eq hx]
    obtain ⟨z1, z2⟩ := h2.cmt (y := { x with dirty := false }) hx1 g4 (fun e => rfl) (fun _ => ⟨hv, rfl, fun e => by cases e⟩) (fun hv' _ => heq hv')
    have esl : (V.x.setD k false).sl = V1.x.sl.set k { x with dirty := false } := by
      unfold CS.setD
      rw [CS.at_eq hx, q2]
    refine .inl ⟨g1, g2, g3, by dsimp only; rw [ex, esl]; exact z1, ?_, ex, fun a u hu => by dsimp only; rw [ex, esl]; exact z2 a u (q5 a u hu), fun hs => g5 1 (by decide) (q6 1 (by decide) hs), g5 0 (by decide) q4, g4.c2⟩
    · unfold view RV.back
      dsimp only
      rw [g4.n0, g4.n1, g4.n2, ex, r0, r1, r2, CS.at_eq hx]
      have : ((V.x.setD k false).at_ k).word = Sl.word { x with dirty := false } := by
        congr 1
        refine CS.at_eq ?_
        rw [esl, q2]
        exact List.getElem?_set_self hkl
      rw [this]
      rfl
  · rw [bnd_no (p := (V1.setE C k, V1.setV C k { x with dirty := false })) (by show V1.setE C k ≠ 0; rw [g1]; decide)]
    exact .inr ⟨g0, g1, g2, _, g3⟩
end

end Go.Proofs.YtogchafnnkajfaaGreat

namespace Go.Proofs.YtogchafnnkajfaaGreat
set_option linter.unusedVariables false

theorem bnd_assoc (p : Int × VS) (f g : VS → Int × VS) : bnd (bnd p f) g = bnd p (fun V => bnd (f V) g) := by
  by_cases h : p.1 = 0
  · rw [bnd_ok h, bnd_ok h]
  · rw [bnd_no h, bnd_no h, bnd_no h]

section
variable {C : VC} {S S' : DS} {sl : List Sl} {pm : Bool} {ok ok' : Nat → Nat → Prop}
/-- The word of a new slot is put. -/
theorem VI.place (h : VI C S sl pm ok) {k b : Nat} {x : Sl} (hx : sl[k]? = some x) (hv : x.valid = false) (hb : b * C.chunk + C.chunk ≤ C.n0) (hb2 : b ≤ 16777215) (hno : ∀ (j : Nat) (z : Sl), sl[j]? = some z → z.valid = true → z.block ≠ (b : Int))
    (hw : Wro S S' [C.n0, C.n1, C.n2] 2 (1 + k) (dwd (b : Int) false)) (hs1 : Stl S 1) (hcp : ∀ i, i < C.chunk → (S.now 1)[k * C.chunk + i]? = (S.now 0)[b * C.chunk + i]?) (st : Int) :
    VI C S' (sl.set k ⟨true, false, (b : Int), st⟩) pm ok ∧ ∀ a u, VV C S sl a u → VV C S' (sl.set k ⟨true, false, (b : Int), st⟩) a u := by
  have hkl := (List.getElem?_eq_some_iff.1 hx).1
  have hn2 := h.k.n2
  have hbb : (0 : Int) ≤ (b : Int) ∧ (b : Int) ≤ 16777215 := by omega
  have c1 : ∀ b u, S'.Cand 1 b u → S.Cand 1 b u := fun b u hc => (hw.cand 1 b u hc).elim id (fun e => by omega)
  have c0 : ∀ b u, S'.Cand 0 b u → S.Cand 0 b u := fun b u hc => (hw.cand 0 b u hc).elim id (fun e => by omega)
  have c2 : ∀ j u, j ≠ 1 + k → S'.Cand 2 j u → S.Cand 2 j u := fun j u hj hc => (hw.cand 2 j u hc).elim id (fun e => absurd e.2.1 hj)
  have n0 : S'.now 0 = S.now 0 := by rw [hw.now, if_neg (by decide)]
  have n1 : S'.now 1 = S.now 1 := by rw [hw.now, if_neg (by decide)]
  have hg : ∀ {j : Nat} {z : Sl}, (sl.set k ⟨true, false, (b : Int), st⟩)[j]? = some z → (j = k ∧ z = ⟨true, false, (b : Int), st⟩) ∨ (j ≠ k ∧ sl[j]? = some z) := fun hz => set_get hz
  have hbo : ∀ i v, i < C.chunk → S.Cand 0 (b * C.chunk + i) v → ok (b * C.chunk + i) v := by
    intro i v hi hc
    refine h.k.bo _ v (by omega) (fun j z hz hzv => ?_) hc
    rw [(blk_div hi).1]
    exact hno j z hz hzv
  refine ⟨⟨⟨hw.hea, by rw [List.length_set]; exact hn2, by rw [List.length_set]; exact h.k.n1, h.k.ch, ?_, ?_, ?_, ?_, ?_, ?_, ?_, ?_⟩, ?_, ?_, ?_⟩, ?_⟩
  · intro i j p q hp hq hpv hqv he
    rcases hg hp with ⟨ei, ep⟩ | ⟨hi, hp'⟩
    · rcases hg hq with ⟨ej, eq⟩ | ⟨hj, hq'⟩
      · omega
      · subst ep
        exact absurd he.symm (hno j q hq' hqv)
    · rcases hg hq with ⟨ej, eq⟩ | ⟨hj, hq'⟩
      · subst eq
        exact absurd he (hno i p hp' hpv)
      · exact h.k.uq i j p q hp' hq' hpv hqv he
  · intro j z hz hzv
    rcases hg hz with ⟨rfl, rfl⟩ | ⟨hj, hz⟩
    · exact ⟨hbb, by show (b : Int).toNat * C.chunk + C.chunk ≤ C.n0; rw [Int.toNat_natCast]; exact hb⟩
    · exact h.k.wh j z hz hzv
  · intro v hc
    rw [List.length_set]
    exact h.k.hd v (c2 0 v (by omega) hc)
  · intro j z w hz hc
    rcases hg hz with ⟨rfl, rfl⟩ | ⟨hj, hz⟩
    · rcases hw.cand 2 _ w hc with hc | ⟨-, -, e⟩
      · rcases h.k.pc j x w hx hc with e | ⟨e, -⟩
        · exact .inl e
        · rw [hv] at e; cases e
      · exact .inr ⟨rfl, false, e⟩
    · exact h.k.pc j z w hz (c2 _ w (by omega) hc)
  · intro hpm j z hz hzv hc
    rcases hg hz with ⟨rfl, rfl⟩ | ⟨hj, hz⟩
    · rcases hw.cand 2 _ _ hc with hc | ⟨-, -, e⟩
      · rcases h.k.pc j x _ hx hc with e | ⟨e, -⟩
        · exact dwd_ne hbb e
        · rw [hv] at e; cases e
      · have := (dwd_inj hbb hbb e).2
        cases this
    · exact h.k.m hpm j z hz hzv (c2 _ _ (by omega) hc)
  · intro j z i v hz hzv hi hc
    rcases hg hz with ⟨rfl, rfl⟩ | ⟨hj, hz⟩
    · have := hs1 _ _ (c1 _ _ hc)
      rw [hcp i hi] at this
      show ok ((b : Int).toNat * C.chunk + i) v
      rw [Int.toNat_natCast]
      exact hbo i v hi (h.k.hea.la 0 _ _ this)
    · exact h.k.a j z i v hz hzv hi (c1 _ _ hc)
  · intro j z w i v hz hzv hcw hne hi hc
    rcases hg hz with ⟨rfl, rfl⟩ | ⟨hj, hz⟩
    · have hc := c0 _ _ hc
      change S.Cand 0 ((b : Int).toNat * C.chunk + i) v at hc
      show ok ((b : Int).toNat * C.chunk + i) v
      rw [Int.toNat_natCast] at hc ⊢
      exact hbo i v hi hc
    · exact h.k.b j z w i v hz hzv (c2 _ w (by omega) hcw) hne hi (c0 _ _ hc)
  · intro a v ha hn hc
    refine h.k.bo a v ha (fun j z hz hzv => ?_) (c0 _ _ hc)
    have hj : j ≠ k := by
      rintro rfl
      rw [hx] at hz
      injection hz with hz
      subst hz
      rw [hv] at hzv
      cases hzv
    exact hn j z (by rw [List.getElem?_set_ne (fun e => hj e.symm)]; exact hz) hzv
  · intro j z hz
    rw [hw.now, if_pos rfl]
    rcases hg hz with ⟨rfl, rfl⟩ | ⟨hj, hz⟩
    · rw [List.getElem?_set_self (by rw [h.k.lens.2.2]; omega)]
      rfl
    · rw [List.getElem?_set_ne (by omega)]
      exact h.wd j z hz
  · intro j z i hz hzv hzd hi
    rw [n0, n1]
    rcases hg hz with ⟨rfl, rfl⟩ | ⟨hj, hz⟩
    · show _ = (S.now 0)[(b : Int).toNat * C.chunk + i]?
      rw [Int.toNat_natCast]
      exact hcp i hi
    · exact h.ceq j z i hz hzv hzd hi
  · intro j z hz hzv
    rcases hg hz with ⟨rfl, rfl⟩ | ⟨hj, hz⟩
    · rfl
    · exact h.nl j z hz hzv
  · intro a u hu
    rcases hu with ⟨j, z, hz, hzv, hzb, hzn⟩ | ⟨hn, hu⟩
    · have hj : j ≠ k := by
        rintro rfl
        rw [hx] at hz
        injection hz with hz
        subst hz
        rw [hv] at hzv
        cases hzv
      exact .inl ⟨j, z, by rw [List.getElem?_set_ne (fun e => hj e.symm)]; exact hz, hzv, hzb, by rw [n1]; exact hzn⟩
    · by_cases hab : a / C.chunk = b
      · refine .inl ⟨k, ⟨true, false, (b : Int), st⟩, List.getElem?_set_self hkl, rfl, by rw [hab], ?_⟩
        rw [n1, hcp _ (blk_at a C.chunk h.k.ch).2, ← hab, (blk_at a C.chunk h.k.ch).1]
        exact hu
      · refine .inr ⟨fun j z hz hzv hzb => ?_, by rw [n0]; exact hu⟩
        rcases hg hz with ⟨rfl, rfl⟩ | ⟨hj, hz⟩
        · exact hab (by have : (b : Int) = ((a / C.chunk : Nat) : Int) := hzb; exact (Int.ofNat.inj this).symm)
        · exact hn j z hz hzv hzb

/-- A sector of the origin is written. -/
theorem VK.wo (h : VK C S sl pm ok) {a v : Nat} (hw : Wro S S' [C.n0, C.n1, C.n2] 0 a v) (ho : ∀ a u, ok a u → ok' a u) (hn : ok' a v) : VK C S' sl pm ok' := by
  have c2 : ∀ b u, S'.Cand 2 b u → S.Cand 2 b u := fun b u hc => (hw.cand 2 b u hc).elim id (fun e => by omega)
  have c1 : ∀ b u, S'.Cand 1 b u → S.Cand 1 b u := fun b u hc => (hw.cand 1 b u hc).elim id (fun e => by omega)
  refine ⟨hw.hea, h.n2, h.n1, h.ch, h.uq, h.wh, fun u hu => h.hd u (c2 _ _ hu), fun k x w hx hc => h.pc k x w hx (c2 _ _ hc), fun e k x hx hv hc => h.m e k x hx hv (c2 _ _ hc), fun k x i u hx hv hi hc => ho _ _ (h.a k x i u hx hv hi (c1 _ _ hc)), ?_, ?_⟩
  · intro k x w i u hx hv hcw hne hi hc
    rcases hw.cand 0 _ u hc with hc | ⟨-, e, rfl⟩
    · exact ho _ _ (h.b k x w i u hx hv (c2 _ _ hcw) hne hi hc)
    · rw [e]; exact hn
  · intro a' u ha hno hc
    rcases hw.cand 0 _ u hc with hc | ⟨-, e, rfl⟩
    · exact ho _ _ (h.bo a' u ha hno hc)
    · rw [e]; exact hn
/-- A sector of a slot is written. -/
theorem VK.wf (h : VK C S sl pm ok) {j v : Nat} (hw : Wro S S' [C.n0, C.n1, C.n2] 1 j v) (ho : ∀ a u, ok a u → ok' a u) (hn : ∀ (k : Nat) (x : Sl) (i : Nat), sl[k]? = some x → x.valid = true → i < C.chunk → k * C.chunk + i = j → ok' (x.block.toNat * C.chunk + i) v) : VK C S' sl pm ok' := by
  have c2 : ∀ b u, S'.Cand 2 b u → S.Cand 2 b u := fun b u hc => (hw.cand 2 b u hc).elim id (fun e => by omega)
  have c0 : ∀ b u, S'.Cand 0 b u → S.Cand 0 b u := fun b u hc => (hw.cand 0 b u hc).elim id (fun e => by omega)
  refine ⟨hw.hea, h.n2, h.n1, h.ch, h.uq, h.wh, fun u hu => h.hd u (c2 _ _ hu), fun k x w hx hc => h.pc k x w hx (c2 _ _ hc), fun e k x hx hv hc => h.m e k x hx hv (c2 _ _ hc), ?_, fun k x w i u hx hv hcw hne hi hc => ho _ _ (h.b k x w i u hx hv (c2 _ _ hcw) hne hi (c0 _ _ hc)), fun a u ha hno hc => ho _ _ (h.bo a u ha hno (c0 _ _ hc))⟩
  intro k x i u hx hv hi hc
  rcases hw.cand 1 _ u hc with hc | ⟨-, e, rfl⟩
  · exact ho _ _ (h.a k x i u hx hv hi hc)
  · exact hn k x i hx hv hi e
/-- A write to a block without a slot. -/
theorem VI.uorg (h : VI C S sl pm ok) {a v : Nat} (ha : a < C.n0) (hw : Wro S S' [C.n0, C.n1, C.n2] 0 a v) (hno : ∀ (k : Nat) (x : Sl), sl[k]? = some x → x.valid = true → x.block ≠ ((a / C.chunk : Nat) : Int)) :
    VI C S' sl pm (fun b u => ok b u ∨ (b = a ∧ u = v)) ∧ VV C S' sl a v ∧ ∀ b u, b ≠ a → VV C S sl b u → VV C S' sl b u := by
  have n1 : S'.now 1 = S.now 1 := by rw [hw.now, if_neg (by decide)]
  have n2 : S'.now 2 = S.now 2 := by rw [hw.now, if_neg (by decide)]
  refine ⟨⟨h.k.wo hw (fun _ _ => .inl) (.inr ⟨rfl, rfl⟩), fun k x hx => by rw [n2]; exact h.wd k x hx, ?_, h.nl⟩, ?_, ?_⟩
  · intro k x i hx hv hd hi
    rw [n1, hw.now, if_pos rfl, List.getElem?_set_ne]
    · exact h.ceq k x i hx hv hd hi
    · intro e
      refine hno k x hx hv ?_
      rw [e, (blk_div hi).1]
      exact h.k.blkof hx hv
  · exact .inr ⟨hno, by rw [hw.now, if_pos rfl, List.getElem?_set_self (by rw [h.k.lens.1]; exact ha)]⟩
  · intro b u hb hu
    rcases hu with ⟨k, x, hx, hv, hxb, hn⟩ | ⟨hn, hu⟩
    · exact .inl ⟨k, x, hx, hv, hxb, by rw [n1]; exact hn⟩
    · exact .inr ⟨hn, by rw [hw.now, if_pos rfl, List.getElem?_set_ne (fun e => hb e.symm)]; exact hu⟩
/-- A write to a slot: what becomes of what is read. -/
theorem VV.fast (h : VK C S sl pm ok) {k : Nat} {x : Sl} (hx : sl[k]? = some x) (hv : x.valid = true) {i v : Nat} (hi : i < C.chunk) (n1 : S'.now 1 = (S.now 1).set (k * C.chunk + i) v) (n0 : ∀ b, b ≠ x.block.toNat * C.chunk + i → (S'.now 0)[b]? = (S.now 0)[b]?) :
    VV C S' sl (x.block.toNat * C.chunk + i) v ∧ ∀ b u, b ≠ x.block.toNat * C.chunk + i → VV C S sl b u → VV C S' sl b u := by
  refine ⟨?_, ?_⟩
  · obtain ⟨e1, e2⟩ := blk_div (b := x.block.toNat) hi
    refine .inl ⟨k, x, hx, hv, by rw [e1]; exact h.blkof hx hv, ?_⟩
    rw [e2, n1, List.getElem?_set_self (by rw [h.lens.2.1]; exact h.fast hx hi)]
  · intro b u hb hu
    rcases hu with ⟨j, z, hz, hzv, hzb, hn⟩ | ⟨hn, hu⟩
    · refine .inl ⟨j, z, hz, hzv, hzb, ?_⟩
      rw [n1, List.getElem?_set_ne]
      · exact hn
      · intro e
        obtain ⟨rfl, e2⟩ := blk_eq hi (blk_at b C.chunk h.ch).2 e
        rw [hx] at hz
        injection hz with hz
        subst hz
        exact hb (by rw [toNat_blk hzb, e2, (blk_at b C.chunk h.ch).1])
    · exact .inr ⟨hn, by rw [n0 b hb]; exact hu⟩
theorem VI.ufast (h : VI C S sl pm ok) {k : Nat} {x : Sl} (hx : sl[k]? = some x) (hv : x.valid = true) (hd : x.dirty = true) {i v : Nat} (hi : i < C.chunk) (hw : Wro S S' [C.n0, C.n1, C.n2] 1 (k * C.chunk + i) v) :
    VI C S' sl pm (fun b u => ok b u ∨ (b = x.block.toNat * C.chunk + i ∧ u = v)) ∧ VV C S' sl (x.block.toNat * C.chunk + i) v ∧ ∀ b u, b ≠ x.block.toNat * C.chunk + i → VV C S sl b u → VV C S' sl b u := by
  have n0 : S'.now 0 = S.now 0 := by rw [hw.now, if_neg (by decide)]
  have n1 : S'.now 1 = (S.now 1).set (k * C.chunk + i) v := by rw [hw.now, if_pos rfl]
  have n2 : S'.now 2 = S.now 2 := by rw [hw.now, if_neg (by decide)]
  have hself : ∀ {j : Nat} {z : Sl} {i' : Nat}, sl[j]? = some z → i' < C.chunk → j * C.chunk + i' = k * C.chunk + i → j = k ∧ z = x ∧ i' = i := by
    intro j z i' hz hi' e
    obtain ⟨rfl, e2⟩ := blk_eq hi' hi e
    rw [hx] at hz
    injection hz with hz
    exact ⟨rfl, hz.symm, e2⟩
  refine ⟨⟨h.k.wf hw (fun _ _ => .inl) ?_, fun k x hx => by rw [n2]; exact h.wd k x hx, ?_, h.nl⟩, VV.fast h.k hx hv hi n1 (fun b _ => by rw [n0])⟩
  · intro j z i' hz hzv hi' e
    obtain ⟨rfl, rfl, rfl⟩ := hself hz hi' e
    exact .inr ⟨rfl, rfl⟩
  · intro j z i' hz hzv hzd hi'
    rw [n0, n1, List.getElem?_set_ne]
    · exact h.ceq j z i' hz hzv hzd hi'
    · intro e
      obtain ⟨-, rfl, -⟩ := hself hz hi' e.symm
      rw [hd] at hzd
      cases hzd
/-- A write to the origin and to a clean slot. -/
theorem VI.both (h : VI C S sl pm ok) {S2 : DS} {k : Nat} {x : Sl} (hx : sl[k]? = some x) (hv : x.valid = true) {i v : Nat} (hi : i < C.chunk) (hw : Wro S S' [C.n0, C.n1, C.n2] 0 (x.block.toNat * C.chunk + i) v) (hw2 : Wro S' S2 [C.n0, C.n1, C.n2] 1 (k * C.chunk + i) v) :
    VI C S2 sl pm (fun b u => ok b u ∨ (b = x.block.toNat * C.chunk + i ∧ u = v)) ∧ VV C S2 sl (x.block.toNat * C.chunk + i) v ∧ ∀ b u, b ≠ x.block.toNat * C.chunk + i → VV C S sl b u → VV C S2 sl b u := by
  have hbl := (h.k.wh k x hx hv).2
  have n0 : S2.now 0 = (S.now 0).set (x.block.toNat * C.chunk + i) v := by rw [hw2.now, if_neg (by decide), hw.now, if_pos rfl]
  have n1 : S2.now 1 = (S.now 1).set (k * C.chunk + i) v := by rw [hw2.now, if_pos rfl, hw.now, if_neg (by decide)]
  have n2 : S2.now 2 = S.now 2 := by rw [hw2.now, if_neg (by decide), hw.now, if_neg (by decide)]
  have hk1 : VK C S' sl pm (fun b u => ok b u ∨ (b = x.block.toNat * C.chunk + i ∧ u = v)) := h.k.wo hw (fun _ _ => .inl) (.inr ⟨rfl, rfl⟩)
  have hself : ∀ {j : Nat} {z : Sl} {i' : Nat}, sl[j]? = some z → i' < C.chunk → j * C.chunk + i' = k * C.chunk + i → j = k ∧ z = x ∧ i' = i := by
    intro j z i' hz hi' e
    obtain ⟨rfl, e2⟩ := blk_eq hi' hi e
    rw [hx] at hz
    injection hz with hz
    exact ⟨rfl, hz.symm, e2⟩
  refine ⟨⟨hk1.wf hw2 (fun _ _ => id) ?_, fun k x hx => by rw [n2]; exact h.wd k x hx, ?_, h.nl⟩, VV.fast h.k hx hv hi n1 (fun b hb => by rw [n0, List.getElem?_set_ne (fun e => hb e.symm)])⟩
  · intro j z i' hz hzv hi' e
    obtain ⟨rfl, rfl, rfl⟩ := hself hz hi' e
    exact .inr ⟨rfl, rfl⟩
  · intro j z i' hz hzv hzd hi'
    rw [n0, n1]
    by_cases e : j * C.chunk + i' = k * C.chunk + i
    · obtain ⟨rfl, rfl, rfl⟩ := hself hz hi' e
      rw [List.getElem?_set_self (by rw [h.k.lens.2.1]; exact h.k.fast hz hi'), List.getElem?_set_self (by rw [h.k.lens.1]; omega)]
    · rw [List.getElem?_set_ne (fun e' => e e'.symm), List.getElem?_set_ne]
      · exact h.ceq j z i' hz hzv hzd hi'
      · intro e2
        obtain ⟨e3, e4⟩ := blk_eq hi hi' e2
        obtain ⟨rfl, rfl⟩ := h.k.uqn hx hz hv hzv e3
        exact e (by rw [e4])
/-- All is durable. -/
theorem VI.calm (h : VI C S sl pm ok) (h0 : Stl S 0) (h1 : Stl S 1) (h2 : Stl S 2) : VI C S sl pm (VV C S sl) := by
  refine ⟨⟨h.k.hea, h.k.n2, h.k.n1, h.k.ch, h.k.uq, h.k.wh, h.k.hd, h.k.pc, h.k.m, ?_, ?_, ?_⟩, h.wd, h.ceq, h.nl⟩
  · intro k x i v hx hv hi hc
    exact VV.slot h.k hx hv hi (h1 _ _ hc)
  · intro k x w i v hx hv hw hne hi hc
    have hwn := h2 _ _ hw
    rw [h.wd k x hx] at hwn
    injection hwn with hwn
    have hd : x.dirty = false := by
      rcases hd : x.dirty with _ | _
      · rfl
      · rw [← hwn, word_yes hv, hd] at hne
        exact absurd rfl hne
    refine VV.slot h.k hx hv hi ?_
    rw [h.ceq k x i hx hv hd hi]
    exact h0 _ _ hc
  · intro a v ha hn hc
    exact .inr ⟨hn, h0 _ _ hc⟩
end

end Go.Proofs.YtogchafnnkajfaaGreat

namespace Go.Proofs.YtogchafnnkajfaaGreat
set_option linter.unusedVariables false

theorem at_set {s : List Sl} {k : Nat} {y : Sl} {c : Int} {m : List Int} (hk : k < s.length) : (CS.mk (s.set k y) c m).at_ k = y := CS.at_eq (List.getElem?_set_self hk)
theorem find_none {s : CS} {b : Int} (h : s.find b = -1) : ∀ (k : Nat) (x : Sl), s.sl[k]? = some x → x.valid = true → x.block ≠ b := by
  intro k x hx hv e
  rcases idxOf_cases (fun x => x.valid && x.block == b) s.sl with ⟨-, h2⟩ | ⟨i, y, h2, _⟩
  · have := h2 k x hx
    simp [hv, e] at this
  · have : s.find b = (i : Int) := h2
    omega

section
variable {C : VC} {V : VS} {pm : Bool} {ok : Nat → Nat → Prop} {k : Nat} {x : Sl}

/-- The victim is written back, and freed. -/
theorem p1_ou (h : VI C V.S V.x.sl pm ok) (hd : V.S.down = false) (hx : V.x.sl[k]? = some x) (hnl : x.valid = false → x.dirty = false) :
    Ou C pm ok V (V.p1 C k x) (fun V' => V'.x = V.x ∧ V'.S.now 0 = (if x.dirty = true then cpL (V.S.now 0) (x.block.toNat * C.chunk) (V.S.now 1) (k * C.chunk) C.chunk else V.S.now 0) ∧ V'.S.now 1 = V.S.now 1 ∧ V'.S.now 2 = V.S.now 2 ∧ Eqs C V'.S ok k x ∧ (∀ a u, VV C V.S V.x.sl a u → VV C V'.S V'.x.sl a u)) := by
  unfold VS.p1
  rcases hdt : x.dirty with _ | _
  · rw [if_neg (by simp), if_neg (by simp)]
    exact .inl ⟨rfl, hd, id, h, rfl, rfl, rfl, rfl, Eqs.clean h hx hdt, fun _ _ hu => hu⟩
  · rw [if_pos rfl, if_pos rfl]
    have hv : x.valid = true := by
      rcases hv : x.valid with _ | _
      · rw [hnl hv] at hdt; cases hdt
      · rfl
    have hl0 := h.k.lens.1
    have hcb := cb_ou h hd hx hv hdt
    rcases hcb with ⟨h0, h1, h2, h3, q1, q2, q3, q4, q5, q6⟩ | hf
    · dsimp only at h0 h1 h2 h3 q1 q2 q3 q4 q5 q6
      unfold view at q1
      injection q1 with r0 r1 r2 r3
      exact .inl ⟨h0, h1, h2, h3, q2, r0, r1, r2, Eqs.back h3 (by dsimp only; rw [q2]; exact hx) q4 hl0 (by dsimp only; rw [r0, r1]), q5⟩
    · exact .inr hf
theorem p2_ou (h : VI C V.S V.x.sl pm ok) (hd : V.S.down = false) (hok : V.x.Ok) (hx : V.x.sl[k]? = some x) :
    Ou C pm ok V (V.p2 C k x) (fun V' => view V' = (view V).vic2 C.chunk k ∧ V'.x = V.x.clear k ∧ (∀ a u, VV C V.S V.x.sl a u → VV C V'.S V'.x.sl a u)) := by
  have hkl := (List.getElem?_eq_some_iff.1 hx).1
  have hnl := hok.nl x (List.mem_of_getElem? hx)
  have hxa : (view V).x.at_ k = x := CS.at_eq hx
  have hvic : (view V).vic C.chunk k = if x.dirty = true then (view V).back C.chunk k false else view V := by unfold RV.vic; rw [hxa]
  refine (p1_ou h hd hx (fun e => by rw [hnl e]; rfl)).bnd (fun h1 h2 h3 => ?_)
  obtain ⟨q1, q2, q3, q4, q5, q6⟩ := h3
  generalize (V.p1 C k x).2 = V1 at *
  have hx1 : V1.x.sl[k]? = some x := by rw [q1]; exact hx
  rcases hv : x.valid with _ | _
  · have hxn := hnl hv
    rw [if_neg (by simp)]
    have hcl : V.x.clear k = V.x := by
      unfold CS.clear
      have he : V.x.sl[k] = nilS := by
        rw [← hxn]
        exact (List.getElem?_eq_some_iff.1 hx).2
      have : V.x.sl.set k nilS = V.x.sl := by
        rw [← he]
        exact List.set_getElem_self hkl
      rw [this]
    have hdt : x.dirty = false := by rw [hxn]; rfl
    refine .inl ⟨rfl, h1, id, h2, ?_, by rw [q1, hcl], q6⟩
    have hvc : (view V).vic C.chunk k = view V := by rw [hvic, hdt, if_neg (by simp)]
    unfold RV.vic2
    rw [hvc, hxa, hv, if_neg (by simp)]
    unfold view
    dsimp only
    rw [q2, q3, q4, q1, hdt, if_neg (by simp)]
  · rw [if_pos rfl]
    refine (free_ou h2 h1 hx1 q5).mono (fun _ g => ?_)
    obtain ⟨g1, g2, g3, g4⟩ := g
    refine ⟨?_, by rw [g2, q1], fun a u hu => g4 a u (q6 a u hu)⟩
    rw [g1]
    unfold RV.vic2
    rcases hdt : x.dirty with _ | _
    · have hvc : (view V).vic C.chunk k = view V := by rw [hvic, hdt, if_neg (by simp)]
      rw [hvc, hxa, hv, if_pos rfl]
      unfold view RV.free
      dsimp only
      rw [q2, q3, q4, q1, hdt, if_neg (by simp)]
    · have hvc : (view V).vic C.chunk k = (view V).back C.chunk k false := by rw [hvic, hdt, if_pos rfl]
      rw [hvc]
      have hbx : ((view V).back C.chunk k false).x = ⟨V.x.sl.set k { x with dirty := false }, V.x.clk, V.x.ms⟩ := by
        show V.x.setD k false = _
        unfold CS.setD
        rw [CS.at_eq hx]
      rw [hbx, at_set hkl]
      dsimp only
      rw [hv, if_pos rfl]
      unfold view RV.free RV.back
      dsimp only
      rw [q2, q3, q4, q1, hdt, if_pos rfl, if_neg (by simp), CS.at_eq hx]
      congr 1
      unfold CS.clear CS.setD
      rw [CS.at_eq hx]
      dsimp only
      rw [List.set_set]

/-- The word of the new slot is put, and the slot is placed. -/
theorem p67_ou {b : Nat} (h : VI C V.S V.x.sl pm ok) (hd : V.S.down = false) (hx : V.x.sl[k]? = some x) (hv : x.valid = false) (hb : b * C.chunk + C.chunk ≤ C.n0) (hb2 : b ≤ 16777215) (hf : V.x.find (b : Int) = -1)
    (hs1 : Stl V.S 1) (hcp : ∀ i, i < C.chunk → (V.S.now 1)[k * C.chunk + i]? = (V.S.now 0)[b * C.chunk + i]?) :
    Ou C pm ok V (bnd (V.f6 C k b) (fun V => (0, { V with x := V.x.place k (b : Int) }))) (fun V' => view V' = ⟨V.S.now 0, V.S.now 1, (V.S.now 2).set (1 + k) (dwd (b : Int) false), V.x.place k (b : Int)⟩ ∧ (∀ a u, VV C V.S V.x.sl a u → VV C V'.S V'.x.sl a u)) := by
  have hkl := (List.getElem?_eq_some_iff.1 hx).1
  have hn2 := h.k.n2
  have e1 : (1 + (k : Int)) = ((1 + k : Nat) : Int) := rfl
  have ef : V.f6 C k b = (V.S.swE 2 C.n2 ((1 + k : Nat) : Int), { V with S := V.S.swrite 2 C.n2 ((1 + k : Nat) : Int) (dwd (b : Int) false), ss := if V.S.swE 2 C.n2 ((1 + k : Nat) : Int) = 0 then V.ss.set k ⟨true, false, (b : Int), 0⟩ else V.ss }) := rfl
  rw [ef]
  rcases wr_out h.hea hd (i := 2) (n := C.n2) rfl (1 + k) (dwd (b : Int) false) (by omega) with ⟨w1, w2, w3, w4⟩ | ⟨w0, w1, w2, w3⟩
  · rw [bnd_ok (by exact w1)]
    obtain ⟨g1, g2⟩ := h.place hx hv hb hb2 (find_none hf) w4 hs1 hcp (V.x.clk + 1)
    refine .inl ⟨rfl, w2, w3, g1, ?_, g2⟩
    unfold view
    dsimp only
    rw [w4.now, w4.now, w4.now, if_neg (by decide), if_neg (by decide), if_pos rfl]
  · rw [bnd_no (show V.S.swE 2 C.n2 ((1 + k : Nat) : Int) ≠ 0 by rw [w1]; decide)]
    exact .inr ⟨w0, w1, w2, _, h.k.shr w3⟩
/-- A block gets a slot. -/
theorem p7_ou {b : Nat} (h : VI C V.S V.x.sl pm ok) (hd : V.S.down = false) (hok : V.x.Ok) (hx : V.x.sl[k]? = some x) (hb : b * C.chunk + C.chunk ≤ C.n0) (hb2 : b ≤ 16777215) (hf : V.x.find (b : Int) = -1) :
    Ou C pm ok V (V.p7 C k x b) (fun V' => view V' = (view V).prom C.chunk k b ∧ (∀ a u, VV C V.S V.x.sl a u → VV C V'.S V'.x.sl a u)) := by
  have hkl := (List.getElem?_eq_some_iff.1 hx).1
  unfold VS.p7 VS.p6
  rw [bnd_assoc]
  unfold VS.p5
  rw [bnd_assoc]
  unfold VS.p4
  rw [bnd_assoc]
  unfold VS.p3
  rw [bnd_assoc]
  refine (p2_ou h hd hok hx).bnd (fun h1 h2 h3 => ?_)
  obtain ⟨q1, q2, q3⟩ := h3
  generalize (V.p2 C k x).2 = V2 at *
  refine (fl_ou h2 h1 (i := 0) (n := C.n0) rfl).bnd (fun h1 h2 h3 => ?_)
  obtain ⟨r1, r2, r3, r4, r5⟩ := h3
  dsimp only at h1 h2 r1 r2 r3 r4 r5 ⊢
  have r1' : view ({ V2 with S := V2.S.flush 0 } : VS) = view V2 := r1
  have r2' : ({ V2 with S := V2.S.flush 0 } : VS).x = V2.x := rfl
  have hvv3 : ∀ a u, VV C V.S V.x.sl a u → VV C (V2.S.flush 0) V2.x.sl a u := fun a u hu => by
    have e := r1'
    unfold view at e
    injection e with e0 e1
    exact (q3 a u hu).now e0 e1
  have h1' : ({ V2 with S := V2.S.flush 0 } : VS).S.down = false := h1
  have h2' : VI C ({ V2 with S := V2.S.flush 0 } : VS).S ({ V2 with S := V2.S.flush 0 } : VS).x.sl pm ok := h2
  have hvv3' : ∀ a u, VV C V.S V.x.sl a u → VV C ({ V2 with S := V2.S.flush 0 } : VS).S ({ V2 with S := V2.S.flush 0 } : VS).x.sl a u := hvv3
  show Ou C pm ok ({ V2 with S := V2.S.flush 0 } : VS) _ _
  clear h1 h2 r1 r2 r3 r4 r5 hvv3
  generalize ({ V2 with S := V2.S.flush 0 } : VS) = V3 at *
  have hx3 : V3.x.sl[k]? = some nilS := by rw [r2', q2]; exact List.getElem?_set_self hkl
  have hf3 : V3.x.find (b : Int) = -1 := by rw [r2', q2]; exact find_clear hf k
  -- the copy
  have hcp := cp_in h2' h1' hx3 rfl hb C.chunk (Nat.le_refl _)
  have e4 : V3.f4 C k b = ((vcp V3.S 0 C.n0 (b * C.chunk) 1 C.n1 (k * C.chunk) C.chunk).1, { V3 with S := (vcp V3.S 0 C.n0 (b * C.chunk) 1 C.n1 (k * C.chunk) C.chunk).2 }) := rfl
  rw [e4]
  generalize vcp V3.S 0 C.n0 (b * C.chunk) 1 C.n1 (k * C.chunk) C.chunk = r at *
  obtain ⟨re, rS⟩ := r
  rcases hcp with ⟨g0, g1, g2, g3, g4, g5, g6, g7⟩ | ⟨g0, g1, g2, g3⟩
  rotate_left
  · dsimp only at g1
    rw [bnd_no (show re ≠ 0 by rw [g1]; decide)]
    exact .inr ⟨g0, g1, g2, _, g3⟩
  dsimp only at g0 g1 g2 g3 g4 g5 g6 g7 ⊢
  have hP4 : Ou C pm ok V3 (re, ({ V3 with S := rS } : VS)) (fun V' => V' = { V3 with S := rS }) := .inl ⟨g0, g1, g2, g3, rfl⟩
  refine hP4.bnd (fun k1 k2 k3 => ?_)
  dsimp only at k1 k2 ⊢
  clear k3 hP4
  refine (fl_ou (V := { V3 with S := rS }) k2 k1 (i := 1) (n := C.n1) rfl).bnd (fun h1 h2 h3 => ?_)
  obtain ⟨s1, s2, s3, s4, s5⟩ := h3
  have hv5 := s1
  unfold view at hv5
  injection hv5 with v0 v1 v2 v3
  dsimp only at h1 h2 v0 v1 v2 v3 s4 ⊢
  have v0 : (rS.flush 1).now 0 = rS.now 0 := v0
  have v1 : (rS.flush 1).now 1 = rS.now 1 := v1
  have v2 : (rS.flush 1).now 2 = rS.now 2 := v2
  have hl1 := k2.k.lens.2.1
  refine (p67_ou (b := b) (V := { V3 with S := rS.flush 1 }) h2 h1 hx3 rfl hb hb2 hf3 s4 (fun i hi => ?_)).mono (fun _ g => ?_)
  · have hfst := k2.k.fast hx3 hi
    have hl1' : (V3.S.now 1).length = C.n1 := h2'.k.lens.2.1
    have hl0' : (V3.S.now 0).length = C.n0 := h2'.k.lens.1
    show ((rS.flush 1).now 1)[_]? = ((rS.flush 1).now 0)[_]?
    rw [v0, v1, g5, g4 0 (by decide), cpL_at, if_pos ⟨by omega, by omega, by omega⟩, show k * C.chunk + i - k * C.chunk = i by omega, List.getElem?_eq_getElem (by omega)]
    rfl
  · obtain ⟨z1, z2⟩ := g
    refine ⟨?_, fun a u hu => z2 a u ((g6 a u (hvv3' a u hu)).now v0 v1)⟩
    rw [z1]
    unfold RV.prom
    rw [← q1, ← r1']
    unfold view
    dsimp only
    congr 1
    · rw [v0, g4 0 (by decide)]
    · rw [v1, g5]
    · rw [v2, g4 2 (by decide)]
end

end Go.Proofs.YtogchafnnkajfaaGreat

namespace Go.Proofs.YtogchafnnkajfaaGreat
set_option linter.unusedVariables false

theorem whole_iff (a c n : Nat) (hc : 1 ≤ c) : (a / c + 1) * c ≤ n ↔ ¬ n / c ≤ a / c := by
  rw [← Nat.le_div_iff_mul_le (by omega)]
  omega
/-- A read, by the definition. -/
def RV.read (c : Nat) (R : RV) (a : Nat) : Nat × RV := if 0 ≤ (R.slot c a).1 then ((R.slot c a).2.f[(R.slot c a).1.toNat * c + a % c]?.getD 0, (R.slot c a).2) else ((R.slot c a).2.o[a]?.getD 0, (R.slot c a).2)
/-- A write. -/
def RV.wr (c : Nat) (pm : Bool) (R : RV) (k : Int) (a v : Nat) : RV :=
  if k < 0 then { R with o := R.o.set a v }
  else if pm = true then ⟨R.o, R.f.set (k.toNat * c + a % c) v, R.m.set (1 + k.toNat) ((R.x.setD k.toNat true).at_ k.toNat).word, R.x.setD k.toNat true⟩
  else ⟨R.o.set a v, R.f.set (k.toNat * c + a % c) v, R.m, R.x⟩
def RV.write (c : Nat) (pm : Bool) (R : RV) (a v : Nat) : RV := (R.slot c a).2.wr c pm (R.slot c a).1 a v

section
variable {C : VC} {V : VS} {pm : Bool} {ok : Nat → Nat → Prop}

/-- The slot of a request. -/
theorem slt_ou {a : Nat} (h : VI C V.S V.x.sl pm ok) (hd : V.S.down = false) (hok : V.x.Ok) (ha : a < C.n0) (hn0 : C.n0 ≤ 65536) :
    Ou C pm ok V (V.slt C a).2 (fun V' => (V.slt C a).1 = ((view V).slot C.chunk a).1 ∧ view V' = ((view V).slot C.chunk a).2 ∧ (∀ a u, VV C V.S V.x.sl a u → VV C V'.S V'.x.sl a u)) := by
  have hbl := Nat.div_le_self a C.chunk
  have hw := whole_iff a C.chunk C.n0 h.k.ch
  have hl0 := h.k.lens.1
  have eS : (view V).slot C.chunk a = if ¬ (a / C.chunk + 1) * C.chunk ≤ C.n0 then (-1, view V)
    else if 0 ≤ V.x.find ((a / C.chunk : Nat) : Int) then (V.x.find ((a / C.chunk : Nat) : Int), { view V with x := V.x.touch (V.x.find ((a / C.chunk : Nat) : Int)).toNat })
    else if (V.x.miss ((a / C.chunk : Nat) : Int)).2 = false then (-1, { view V with x := (V.x.miss ((a / C.chunk : Nat) : Int)).1 })
    else ((V.x.miss ((a / C.chunk : Nat) : Int)).1.victim, RV.prom C.chunk { view V with x := (V.x.miss ((a / C.chunk : Nat) : Int)).1 } (V.x.miss ((a / C.chunk : Nat) : Int)).1.victim.toNat (a / C.chunk)) := by
    rw [← hl0]; rfl
  rw [eS]
  unfold VS.slt
  generalize a / C.chunk = b at *
  by_cases hb : C.n0 / C.chunk ≤ b
  · rw [if_pos hb, if_pos (show ¬ (b + 1) * C.chunk ≤ C.n0 from fun e => (hw.1 e) hb)]
    exact .inl ⟨rfl, hd, id, h, rfl, rfl, fun _ _ hu => hu⟩
  · rw [if_neg hb, if_neg (show ¬ ¬ (b + 1) * C.chunk ≤ C.n0 from fun e => e (hw.2 hb))]
    have hbn : b * C.chunk + C.chunk ≤ C.n0 := by
      have := hw.2 hb
      rw [Nat.add_mul] at this
      omega
    by_cases hf : 0 ≤ V.x.find (b : Int)
    · rw [if_pos hf, if_pos hf]
      obtain ⟨k, x, hk, hx, hv, hxb⟩ := find_at hf
      rw [hk, Int.toNat_natCast]
      -- a stamp alone
      have hsl : (V.x.touch k).sl = V.x.sl.set k { x with stamp := V.x.clk + 1 } := by
        unfold CS.touch
        rw [CS.at_eq hx]
      have hg : ∀ {j : Nat} {z : Sl}, (V.x.touch k).sl[j]? = some z → ∃ z', V.x.sl[j]? = some z' ∧ z.valid = z'.valid ∧ z.dirty = z'.dirty ∧ z.block = z'.block ∧ z.word = z'.word := by
        intro j z hz
        rw [hsl] at hz
        rcases set_get hz with ⟨rfl, rfl⟩ | ⟨-, hz⟩
        · exact ⟨x, hx, rfl, rfl, rfl, rfl⟩
        · exact ⟨z, hz, rfl, rfl, rfl, rfl⟩
      have hg2 : ∀ {j : Nat} {z : Sl}, V.x.sl[j]? = some z → ∃ z', (V.x.touch k).sl[j]? = some z' ∧ z'.valid = z.valid ∧ z'.block = z.block := by
        intro j z hz
        rw [hsl]
        by_cases e : j = k
        · subst e
          rw [hx] at hz
          injection hz with hz
          subst hz
          exact ⟨_, List.getElem?_set_self (List.getElem?_eq_some_iff.1 hx).1, rfl, rfl⟩
        · exact ⟨z, by rw [List.getElem?_set_ne (fun e' => e e'.symm)]; exact hz, rfl, rfl⟩
      have hlen : (V.x.touch k).sl.length = V.x.sl.length := by rw [hsl, List.length_set]
      have hVI : VI C V.S (V.x.touch k).sl pm ok := by
        refine ⟨⟨h.k.hea, by rw [hlen]; exact h.k.n2, by rw [hlen]; exact h.k.n1, h.k.ch, ?_, ?_, ?_, ?_, ?_, ?_, ?_, ?_⟩, ?_, ?_, ?_⟩
        · intro i j p q hp hq hpv hqv he
          obtain ⟨p', hp', e1, -, e2, -⟩ := hg hp
          obtain ⟨q', hq', e3, -, e4, -⟩ := hg hq
          exact h.k.uq i j p' q' hp' hq' (by rw [← e1]; exact hpv) (by rw [← e3]; exact hqv) (by rw [← e2, ← e4]; exact he)
        · intro j z hz hzv
          obtain ⟨z', hz', e1, -, e2, -⟩ := hg hz
          rw [e2]
          exact h.k.wh j z' hz' (by rw [← e1]; exact hzv)
        · intro v hc; rw [hlen]; exact h.k.hd v hc
        · intro j z w hz hc
          obtain ⟨z', hz', e1, -, e2, -⟩ := hg hz
          rw [e1, e2]
          exact h.k.pc j z' w hz' hc
        · intro e j z hz hzv
          obtain ⟨z', hz', e1, -, e2, -⟩ := hg hz
          rw [e2]
          exact h.k.m e j z' hz' (by rw [← e1]; exact hzv)
        · intro j z i v hz hzv hi hc
          obtain ⟨z', hz', e1, -, e2, -⟩ := hg hz
          rw [e2]
          exact h.k.a j z' i v hz' (by rw [← e1]; exact hzv) hi hc
        · intro j z w i v hz hzv hc hne hi hc0
          obtain ⟨z', hz', e1, -, e2, -⟩ := hg hz
          rw [e2] at hne hc0 ⊢
          exact h.k.b j z' w i v hz' (by rw [← e1]; exact hzv) hc hne hi hc0
        · intro a v ha hn hc
          refine h.k.bo a v ha (fun j z hz hzv hzb => ?_) hc
          obtain ⟨z', hz', e1, e2⟩ := hg2 hz
          exact hn j z' hz' (by rw [e1]; exact hzv) (by rw [e2]; exact hzb)
        · intro j z hz
          obtain ⟨z', hz', -, -, -, e⟩ := hg hz
          rw [e]
          exact h.wd j z' hz'
        · intro j z i hz hzv hzd hi
          obtain ⟨z', hz', e1, e2, e3, -⟩ := hg hz
          rw [e3]
          exact h.ceq j z' i hz' (by rw [← e1]; exact hzv) (by rw [← e2]; exact hzd) hi
        · intro j z hz hzv
          obtain ⟨z', hz', e1, e2, -⟩ := hg hz
          rw [e2]
          exact h.nl j z' hz' (by rw [← e1]; exact hzv)
      refine .inl ⟨rfl, hd, id, hVI, rfl, rfl, fun a u hu => ?_⟩
      rcases hu with ⟨j, z, hz, hzv, hzb, hzn⟩ | ⟨hn, hu⟩
      · obtain ⟨z', hz', e1, e2⟩ := hg2 hz
        exact .inl ⟨j, z', hz', by rw [e1]; exact hzv, by rw [e2]; exact hzb, hzn⟩
      · refine .inr ⟨fun j z hz hzv hzb => ?_, hu⟩
        obtain ⟨z', hz', e1, -, e2, -⟩ := hg hz
        exact hn j z' hz' (by rw [← e1]; exact hzv) (by rw [← e2]; exact hzb)
    · rw [if_neg hf, if_neg hf]
      have hfn := find_neg hf
      obtain ⟨m1, m2, m3, m4⟩ := miss_facts V.x (b : Int)
      have hok1 := hok.miss (b : Int) (by omega) hfn
      have h1 : VI C ({ V with x := (V.x.miss (b : Int)).1 } : VS).S ({ V with x := (V.x.miss (b : Int)).1 } : VS).x.sl pm ok := by
        show VI C V.S (V.x.miss (b : Int)).1.sl pm ok
        rw [m1]; exact h
      have hvv : ∀ a u, VV C V.S V.x.sl a u → VV C ({ V with x := (V.x.miss (b : Int)).1 } : VS).S ({ V with x := (V.x.miss (b : Int)).1 } : VS).x.sl a u := by
        intro a u hu
        show VV C V.S (V.x.miss (b : Int)).1.sl a u
        rw [m1]; exact hu
      rcases hmi : (V.x.miss (b : Int)).2 with _ | _
      · rw [if_pos rfl, if_pos rfl]
        exact .inl ⟨rfl, hd, id, h1, rfl, rfl, hvv⟩
      · rw [if_neg (show ¬ (true = false) by simp), if_neg (show ¬ (true = false) by simp)]
        obtain ⟨k, x, hvk, hxk⟩ := victim_at hok1
        have hP : ({ V with x := (V.x.miss (b : Int)).1 } : VS).prm C b = ({ V with x := (V.x.miss (b : Int)).1 } : VS).p7 C k x b := by
          unfold VS.prm
          dsimp only
          rw [hvk, Int.toNat_natCast, CS.at_eq hxk]
        dsimp only
        rw [hP, hvk, Int.toNat_natCast]
        have hp7 := p7_ou (V := ({ V with x := (V.x.miss (b : Int)).1 } : VS)) (k := k) (x := x) (b := b) h1 hd hok1 hxk hbn (by omega) (by show (V.x.miss (b : Int)).1.find (b : Int) = -1; rw [m3]; exact hfn)
        generalize ({ V with x := (V.x.miss (b : Int)).1 } : VS).p7 C k x b = p at *
        rcases hp7 with ⟨g0, g1, g2, g3, g4, g5⟩ | hf
        · exact .inl ⟨g0, g1, g2, g3, by rw [if_pos g0], g4, fun a u hu => g5 a u (hvv a u hu)⟩
        · exact .inr hf
end

end Go.Proofs.YtogchafnnkajfaaGreat

namespace Go.Proofs.YtogchafnnkajfaaGreat
set_option linter.unusedVariables false

theorem set_self {α : Type} {l : List α} {i : Nat} {x : α} (h : l[i]? = some x) : l.set i x = l := by
  obtain ⟨hi, e⟩ := List.getElem?_eq_some_iff.1 h
  rw [← e]
  exact List.set_getElem_self hi

section
variable {C : VC} {V : VS} {pm : Bool} {ok : Nat → Nat → Prop}

theorem slt_none {a : Nat} (h : VI C V.S V.x.sl pm ok) (hok : V.x.Ok) (ha : a < C.n0) (hn0 : C.n0 ≤ 65536) (hs : (V.slt C a).1 = -1) (he : (V.slt C a).2.1 = 0) :
    ∀ (k : Nat) (x : Sl), (V.slt C a).2.2.x.sl[k]? = some x → x.valid = true → x.block ≠ ((a / C.chunk : Nat) : Int) := by
  have hbl := Nat.div_le_self a C.chunk
  have hw := whole_iff a C.chunk C.n0 h.k.ch
  unfold VS.slt at hs he ⊢
  generalize hb : a / C.chunk = b at *
  by_cases hbn : C.n0 / C.chunk ≤ b
  · rw [if_pos hbn]
    intro k x hx hv e
    have h2 := (h.k.wh k x hx hv).2
    rw [toNat_blk e] at h2
    refine hw.1 ?_ hbn
    rw [Nat.add_mul, Nat.one_mul]
    exact h2
  · rw [if_neg hbn] at hs he ⊢
    by_cases hf : 0 ≤ V.x.find (b : Int)
    · rw [if_pos hf] at hs
      exact absurd hs (by dsimp only; omega)
    · rw [if_neg hf] at hs he ⊢
      obtain ⟨m1, m2, m3, m4⟩ := miss_facts V.x (b : Int)
      rcases hmi : (V.x.miss (b : Int)).2 with _ | _
      · rw [if_pos rfl]
        dsimp only
        rw [m1]
        exact find_none (find_neg hf)
      · rw [hmi, if_neg (show ¬ (true = false) by simp)] at hs he
        dsimp only at hs he
        rw [if_pos he] at hs
        obtain ⟨k, x, hvk, hxk⟩ := victim_at (hok.miss (b : Int) (by omega) (find_neg hf))
        omega

/-- Read. -/
theorem rd_ou {a : Nat} (h : VI C V.S V.x.sl pm ok) (hd : V.S.down = false) (hok : V.x.Ok) (hlen : V.x.sl.length = V.ss.length) (hclk : V.x.clk < 1099511627776) (ha : a < C.n0) (hn0 : C.n0 ≤ 65536) :
    ((V.rdR C a).2 = 0 ∧ (V.slt C a).2.2.S.down = false ∧ (V.S.fuse = 0 → (V.slt C a).2.2.S.fuse = 0) ∧ VI C (V.slt C a).2.2.S (V.slt C a).2.2.x.sl pm ok ∧ (V.rdR C a).1 = ((view V).read C.chunk a).1 ∧ view (V.slt C a).2.2 = ((view V).read C.chunk a).2 ∧ VV C (V.slt C a).2.2.S (V.slt C a).2.2.x.sl a (V.rdR C a).1 ∧ (∀ a u, VV C V.S V.x.sl a u → VV C (V.slt C a).2.2.S (V.slt C a).2.2.x.sl a u → True) ∧ (∀ b u, VV C V.S V.x.sl b u → VV C (V.slt C a).2.2.S (V.slt C a).2.2.x.sl b u)) ∨
    (V.S.fuse ≠ 0 ∧ (V.rdR C a).2 = 5 ∧ (V.slt C a).2.2.S.down = true ∧ ∃ sl, VK C (V.slt C a).2.2.S sl pm ok) := by
  have hso := slt_ok (C := C) hok hlen ha hn0 hclk
  have hsn := slt_none h hok ha hn0
  have hR : (view V).read C.chunk a = if 0 ≤ ((view V).slot C.chunk a).1 then (((view V).slot C.chunk a).2.f[((view V).slot C.chunk a).1.toNat * C.chunk + a % C.chunk]?.getD 0, ((view V).slot C.chunk a).2) else (((view V).slot C.chunk a).2.o[a]?.getD 0, ((view V).slot C.chunk a).2) := rfl
  have hE : V.rdR C a = if (V.slt C a).2.1 ≠ 0 then (0, (V.slt C a).2.1)
    else if (V.slt C a).1 < 0 then ((V.slt C a).2.2.S.sread 0 C.n0 (a : Int), (V.slt C a).2.2.S.sE 0 C.n0 (a : Int))
    else ((V.slt C a).2.2.S.sread 1 C.n1 (((V.slt C a).1.toNat * C.chunk + a % C.chunk : Nat) : Int), (V.slt C a).2.2.S.sE 1 C.n1 (((V.slt C a).1.toNat * C.chunk + a % C.chunk : Nat) : Int)) := rfl
  have hat := blk_at a C.chunk h.k.ch
  rcases slt_ou h hd hok ha hn0 with ⟨h0, h1, h2, h3, h4, h5, h6⟩ | ⟨h0, h1, h2, h3⟩
  · left
    rw [if_neg (fun e => e h0)] at hE
    have hso := hso h0
    have hsn' := fun e => hsn e h0
    rw [hR, ← h4, ← h5]
    generalize V.slt C a = q at *
    obtain ⟨qk, qe, qV⟩ := q
    dsimp only at *
    rw [hE]
    rcases hso with rfl | ⟨k, x, rfl, hk, hx, hxv, hxb⟩
    · rw [if_pos (by omega), if_neg (by omega)]
      obtain ⟨r1, r2⟩ := rd_out h3.hea h1 (i := 0) (n := C.n0) rfl a ha
      refine ⟨r1, h1, h2, h3, ?_, rfl, .inr ⟨hsn' rfl, r2⟩, fun _ _ _ _ => trivial, h6⟩
      show _ = (qV.S.now 0)[a]?.getD 0
      rw [r2]
      rfl
    · rw [if_neg (by omega), if_pos (by omega), Int.toNat_natCast]
      obtain ⟨r1, r2⟩ := rd_out h3.hea h1 (i := 1) (n := C.n1) rfl (k * C.chunk + a % C.chunk) (h3.k.fast hx hat.2)
      refine ⟨r1, h1, h2, h3, ?_, rfl, ?_, fun _ _ _ _ => trivial, h6⟩
      · show _ = (qV.S.now 1)[k * C.chunk + a % C.chunk]?.getD 0
        rw [r2]
        rfl
      · exact .inl ⟨k, x, hx, hxv, hxb, r2⟩
  · right
    refine ⟨h0, ?_, h2, h3⟩
    rw [hE, if_pos (by rw [h1]; decide)]
    exact h1

/-- Where the power is away, a slot is not freed. -/
theorem free_down {k : Nat} (h : Hea V.S [C.n0, C.n1, C.n2]) (hd : V.S.down = true) (hk : 1 + k < C.n2) : V.freeE C k = 5 ∧ (V.freeV C k).S = V.S ∧ (V.loseV C k).S = V.S := by
  obtain ⟨w1, w2⟩ := wr_down h hd (i := 2) (n := C.n2) rfl (1 + k) nilS.word hk
  have e : V.setE C k = 5 := w1
  have eS : (V.setV C k nilS).S = V.S := w2
  have eF : V.freeE C k = 5 := by unfold VS.freeE; rw [if_neg (by rw [e]; decide), e]
  have eV : (V.freeV C k).S = V.S := by unfold VS.freeV; rw [if_neg (by rw [e]; decide)]; exact eS
  refine ⟨eF, eV, ?_⟩
  unfold VS.loseV
  rw [if_neg (by rw [eF]; decide)]
  exact eV

/-- What Write leaves. -/
def WrO (C : VC) (pm : Bool) (ok : Nat → Nat → Prop) (V : VS) (a v : Nat) (r : Int × VS) (R : RV) : Prop :=
  (r.1 = 0 ∧ r.2.S.down = false ∧ (V.S.fuse = 0 → r.2.S.fuse = 0) ∧ VI C r.2.S r.2.x.sl pm (fun b u => ok b u ∨ (b = a ∧ u = v)) ∧ view r.2 = R ∧ VV C r.2.S r.2.x.sl a v ∧ ∀ b u, b ≠ a → VV C V.S V.x.sl b u → VV C r.2.S r.2.x.sl b u) ∨
  (V.S.fuse ≠ 0 ∧ (r.1 = 0 ∨ r.1 = 5) ∧ r.2.S.down = true ∧ ∃ sl, VK C r.2.S sl pm (fun b u => ok b u ∨ (b = a ∧ u = v)))
theorem wr0_ou {a v : Nat} (h : VI C V.S V.x.sl pm ok) (hd : V.S.down = false) (ha : a < C.n0) (hno : ∀ (k : Nat) (x : Sl), V.x.sl[k]? = some x → x.valid = true → x.block ≠ ((a / C.chunk : Nat) : Int)) :
    WrO C pm ok V a v (V.S.swE 0 C.n0 (a : Int), V.wr0 C a v) ((view V).wr C.chunk pm (-1) a v) := by
  rcases wr_out h.hea hd (i := 0) (n := C.n0) rfl a v ha with ⟨w1, w2, w3, w4⟩ | ⟨w0, w1, w2, w3⟩
  · obtain ⟨g1, g2, g3⟩ := h.uorg ha w4 hno
    refine .inl ⟨w1, w2, w3, g1, ?_, g2, g3⟩
    unfold RV.wr
    rw [if_pos (by omega)]
    unfold view VS.wr0
    dsimp only
    rw [w4.now, w4.now, w4.now, if_pos rfl, if_neg (by decide), if_neg (by decide)]
  · exact .inr ⟨w0, .inr w1, w2, _, (h.k.shr w3).mono (fun _ _ _ => .inl)⟩
theorem thr_ou {a v k : Nat} {x : Sl} (h : VI C V.S V.x.sl false ok) (hd : V.S.down = false) (ha : a < C.n0) (hx : V.x.sl[k]? = some x) (hv : x.valid = true) (hb : x.block = ((a / C.chunk : Nat) : Int)) :
    WrO C false ok V a v (V.thr C k a v) ((view V).wr C.chunk false (k : Int) a v) := by
  have hat := blk_at a C.chunk h.k.ch
  have hkl := (List.getElem?_eq_some_iff.1 hx).1
  have hn2 := h.k.n2
  have haa : a = x.block.toNat * C.chunk + a % C.chunk := by rw [toNat_blk hb, hat.1]
  have hfs := h.k.fast hx hat.2
  unfold VS.thr
  rcases wr_out h.hea hd (i := 0) (n := C.n0) rfl a v ha with ⟨w1, w2, w3, w4⟩ | ⟨w0, w1, w2, w3⟩
  · rw [if_neg (fun e => e w1)]
    have hk1 : VK C (V.wr0 C a v).S V.x.sl false (fun b u => ok b u ∨ (b = a ∧ u = v)) := h.k.wo w4 (fun _ _ => .inl) (.inr ⟨rfl, rfl⟩)
    rcases wr_out (S := (V.wr0 C a v).S) w4.hea w2 (i := 1) (n := C.n1) rfl (k * C.chunk + a % C.chunk) v hfs with ⟨z1, z2, z3, z4⟩ | ⟨z0, z1, z2, z3⟩
    · rw [if_neg (fun e => e z1)]
      rw [haa] at w4
      obtain ⟨g1, g2, g3⟩ := h.both hx hv hat.2 w4 (by rw [← haa]; exact z4)
      rw [← haa] at g1 g2 g3
      refine .inl ⟨rfl, z2, fun e => z3 (w3 e), g1, ?_, g2, g3⟩
      rw [← haa] at w4
      unfold RV.wr
      rw [if_neg (by omega), if_neg (by simp), Int.toNat_natCast]
      have q0 : (((V.wr0 C a v).wr1 C ((k * C.chunk + a % C.chunk : Nat) : Int) v).S.now 0) = (V.S.now 0).set a v := (z4.now 0).trans (by rw [if_neg (by decide)]; exact (w4.now 0).trans (if_pos rfl))
      have q1 : (((V.wr0 C a v).wr1 C ((k * C.chunk + a % C.chunk : Nat) : Int) v).S.now 1) = (V.S.now 1).set (k * C.chunk + a % C.chunk) v := (z4.now 1).trans (by rw [if_pos rfl]; exact congrArg (fun l => List.set l _ v) ((w4.now 1).trans (if_neg (by decide))))
      have q2 : (((V.wr0 C a v).wr1 C ((k * C.chunk + a % C.chunk : Nat) : Int) v).S.now 2) = V.S.now 2 := (z4.now 2).trans (by rw [if_neg (by decide)]; exact (w4.now 2).trans (if_neg (by decide)))
      unfold view
      dsimp only
      rw [q0, q1, q2]
      rfl
    · rw [if_pos (by rw [z1]; decide)]
      have hfd := free_down (V := (V.wr0 C a v).wr1 C ((k * C.chunk + a % C.chunk : Nat) : Int) v) (C := C) (k := k) z3.hea z2 (by omega)
      refine .inr ⟨fun e => z0 (w3 e), .inl rfl, ?_, V.x.sl, ?_⟩
      · dsimp only; rw [hfd.2.2]; exact z2
      · dsimp only; rw [hfd.2.2]; exact hk1.shr z3
  · rw [if_pos (by rw [w1]; decide)]
    have hfd := free_down (V := V.wr0 C a v) (C := C) (k := k) w3.hea w2 (by omega)
    refine .inr ⟨w0, .inr w1, ?_, V.x.sl, ?_⟩
    · dsimp only; rw [hfd.2.2]; exact w2
    · dsimp only; rw [hfd.2.2]; exact (h.k.shr w3).mono (fun _ _ _ => .inl)
theorem bc1_ou {k : Nat} {x : Sl} (h : VI C V.S V.x.sl true ok) (hd : V.S.down = false) (hx : V.x.sl[k]? = some x) (hv : x.valid = true) :
    Ou C true ok V (V.bc1 C k x) (fun V' => view V' = ⟨V.S.now 0, V.S.now 1, (V.S.now 2).set (1 + k) (dwd x.block true), V.x.setD k true⟩ ∧ (∀ a u, VV C V.S V.x.sl a u → VV C V'.S V'.x.sl a u)) := by
  have hkl := (List.getElem?_eq_some_iff.1 hx).1
  have hsd : V.x.setD k true = ⟨V.x.sl.set k { x with dirty := true }, V.x.clk, V.x.ms⟩ := by unfold CS.setD; rw [CS.at_eq hx]
  unfold VS.bc1
  rcases hdt : x.dirty with _ | _
  · rw [if_neg (by simp)]
    rcases st_out h hd k hkl { x with dirty := true } with ⟨h0, h1, h2, h3, h4, h5⟩ | ⟨h0, h1, h2, h3⟩
    · rw [bnd_ok (p := (V.setE C k, V.setV C k { x with dirty := true })) h0]
      have ex : (V.setV C k { x with dirty := true }).x = V.x.setD k true := by rw [hsd]; unfold VS.setV; rw [if_pos h0]
      obtain ⟨g1, g2⟩ := h.cmt (y := { x with dirty := true }) hx h4 (fun e => by rw [hv] at e; cases e) (fun _ => ⟨hv, rfl, fun _ => rfl⟩) (fun _ e => by cases e)
      refine .inl ⟨h1, h2, h3, by dsimp only; rw [ex, hsd]; exact g1, ?_, fun a u hu => by dsimp only; rw [ex, hsd]; exact g2 a u hu⟩
      unfold view
      dsimp only
      rw [h4.n0, h4.n1, h4.n2, ex, show Sl.word { x with dirty := true } = dwd x.block true from word_yes (x := { x with dirty := true }) hv]
    · rw [bnd_no (p := (V.setE C k, V.setV C k { x with dirty := true })) (show V.setE C k ≠ 0 by rw [h1]; decide)]
      exact .inr ⟨h0, h1, h2, _, h3⟩
  · rw [if_pos rfl]
    refine .inl ⟨rfl, hd, id, h, ?_, fun _ _ hu => hu⟩
    have hw := h.wd k x hx
    rw [word_yes hv, hdt] at hw
    have hxs : ({ x with dirty := true } : Sl) = x := by
      obtain ⟨xv, xd, xb, xs⟩ := x
      obtain rfl : xd = true := hdt
      rfl
    unfold view
    rw [hsd, hxs, set_self hx, set_self hw]
theorem bck_ou {a v k : Nat} {x : Sl} (h : VI C V.S V.x.sl true ok) (hd : V.S.down = false) (ha : a < C.n0) (hx : V.x.sl[k]? = some x) (hv : x.valid = true) (hb : x.block = ((a / C.chunk : Nat) : Int)) :
    WrO C true ok V a v (V.bck C k a v x) ((view V).wr C.chunk true (k : Int) a v) := by
  have hat := blk_at a C.chunk h.k.ch
  have hkl := (List.getElem?_eq_some_iff.1 hx).1
  have haa : a = x.block.toNat * C.chunk + a % C.chunk := by rw [toNat_blk hb, hat.1]
  have hsd : V.x.setD k true = ⟨V.x.sl.set k { x with dirty := true }, V.x.clk, V.x.ms⟩ := by unfold CS.setD; rw [CS.at_eq hx]
  unfold VS.bck
  rcases bc1_ou h hd hx hv with ⟨h0, h1, h2, h3, h4, h5⟩ | ⟨h0, h1, h2, sl, h3⟩
  · rw [bnd_ok h0]
    generalize (V.bc1 C k x).2 = V1 at *
    unfold view at h4
    injection h4 with r0 r1 r2 r3
    have hx1 : V1.x.sl[k]? = some { x with dirty := true } := by rw [r3, hsd]; exact List.getElem?_set_self hkl
    have hfs := h3.k.fast hx1 hat.2
    rcases wr_out h3.hea h1 (i := 1) (n := C.n1) rfl (k * C.chunk + a % C.chunk) v hfs with ⟨w1, w2, w3, w4⟩ | ⟨w0, w1, w2, w3⟩
    · obtain ⟨g1, g2, g3⟩ := h3.ufast hx1 hv rfl hat.2 w4
      change VI C _ _ true (fun b u => ok b u ∨ (b = x.block.toNat * C.chunk + a % C.chunk ∧ u = v)) at g1
      change VV C _ _ (x.block.toNat * C.chunk + a % C.chunk) v at g2
      change ∀ b u, b ≠ x.block.toNat * C.chunk + a % C.chunk → _ at g3
      rw [← haa] at g1 g2 g3
      refine .inl ⟨w1, w2, fun e => w3 (h2 e), g1, ?_, g2, fun b u hb hu => g3 b u hb (h5 b u hu)⟩
      unfold RV.wr
      rw [if_neg (by omega), if_pos rfl, Int.toNat_natCast]
      have q0 : (V1.wr1 C ((k * C.chunk + a % C.chunk : Nat) : Int) v).S.now 0 = V.S.now 0 := (w4.now 0).trans (by rw [if_neg (by decide)]; exact r0)
      have q1 : (V1.wr1 C ((k * C.chunk + a % C.chunk : Nat) : Int) v).S.now 1 = (V.S.now 1).set (k * C.chunk + a % C.chunk) v := (w4.now 1).trans (by rw [if_pos rfl, r1])
      have q2 : (V1.wr1 C ((k * C.chunk + a % C.chunk : Nat) : Int) v).S.now 2 = (V.S.now 2).set (1 + k) (dwd x.block true) := (w4.now 2).trans (by rw [if_neg (by decide)]; exact r2)
      unfold view
      dsimp only
      rw [q0, q1, q2]
      have q3 : (V1.wr1 C ((k * C.chunk + a % C.chunk : Nat) : Int) v).x = V.x.setD k true := r3
      rw [q3, hsd, at_set hkl]
      congr 2
      exact (word_yes (x := { x with dirty := true }) hv).symm
    · exact .inr ⟨fun e => w0 (h2 e), .inr w1, w2, _, (h3.k.shr w3).mono (fun _ _ _ => .inl)⟩
  · rw [bnd_no (by rw [h1]; decide)]
    exact .inr ⟨h0, .inr h1, h2, sl, h3.mono (fun _ _ _ => .inl)⟩
/-- Write. -/
theorem wrt_ou {a v : Nat} (h : VI C V.S V.x.sl pm ok) (hpm : V.pm = pm) (hd : V.S.down = false) (hok : V.x.Ok) (hlen : V.x.sl.length = V.ss.length) (hclk : V.x.clk < 1099511627776) (ha : a < C.n0) (hn0 : C.n0 ≤ 65536) :
    WrO C pm ok V a v (V.wrt C a v) ((view V).write C.chunk pm a v) := by
  have hso := slt_ok (C := C) hok hlen ha hn0 hclk
  have hsn := slt_none h hok ha hn0
  have hbd := (Bd.slt (C := C) hok hlen ha hn0 hclk).pm
  unfold VS.wrt RV.write
  rcases slt_ou h hd hok ha hn0 with ⟨h0, h1, h2, h3, h4, h5, h6⟩ | ⟨h0, h1, h2, sl, h3⟩
  · rw [if_neg (fun e => e h0)]
    have hso := hso h0
    have hsn' := fun e => hsn e h0
    rw [← h4, ← h5]
    generalize V.slt C a = q at *
    obtain ⟨qk, qe, qV⟩ := q
    dsimp only at *
    have fin : ∀ r R, WrO C pm ok qV a v r R → WrO C pm ok V a v r R := by
      rintro r R (⟨g0, g1, g2, g3, g4, g5, g6⟩ | ⟨g0, g1, g2, g3⟩)
      · exact .inl ⟨g0, g1, fun e => g2 (h2 e), g3, g4, g5, fun b u hb hu => g6 b u hb (h6 b u hu)⟩
      · exact .inr ⟨fun e => g0 (h2 e), g1, g2, g3⟩
    refine fin _ _ ?_
    rcases hso with rfl | ⟨k, x, rfl, hk, hx, hxv, hxb⟩
    · rw [if_pos (by omega)]
      exact wr0_ou h3 h1 ha (hsn' rfl)
    · rw [if_neg (by omega), Int.toNat_natCast, CS.at_eq hx, hbd, hpm]
      cases pm
      · rw [if_neg (by simp)]
        exact thr_ou h3 h1 ha hx hxv hxb
      · rw [if_pos rfl]
        exact bck_ou h3 h1 ha hx hxv hxb
  · rw [if_pos (by rw [h1]; decide)]
    exact .inr ⟨h0, .inr h1, h2, sl, h3.mono (fun _ _ _ => .inl)⟩

/-- Flush. -/
theorem fls_ou (h : VI C V.S V.x.sl pm ok) (hd : V.S.down = false) : V.flE = 0 ∧ V.flV.S.down = false ∧ V.flV.S.fuse = V.S.fuse ∧ VI C V.flV.S V.flV.x.sl pm (VV C V.flV.S V.flV.x.sl) ∧ view V.flV = view V ∧ (∀ a u, VV C V.S V.x.sl a u → VV C V.flV.S V.flV.x.sl a u) ∧ (∀ i, i < 3 → Stl V.flV.S i) ∧ VI C V.flV.S V.flV.x.sl pm ok := by
  obtain ⟨a1, a2, a3, a4, a5⟩ := fl_out h.hea hd (i := 1) (n := C.n1) rfl
  obtain ⟨b1, b2, b3, b4, b5⟩ := fl_out a4.hea a2 (i := 2) (n := C.n2) rfl
  obtain ⟨c1, c2, c3, c4, c5⟩ := fl_out b4.hea b2 (i := 0) (n := C.n0) rfl
  have hs := (a4.trans b4).trans c4
  have hI : VI C V.flV.S V.flV.x.sl pm ok := h.shr hs
  have hE : V.flE = 0 := by
    unfold VS.flE
    rw [if_neg (fun e => e a1), if_neg (fun e => e b1)]
    exact c1
  have hst : ∀ i, i < 3 → Stl V.flV.S i := by
    intro i hi
    obtain rfl | rfl | rfl : i = 0 ∨ i = 1 ∨ i = 2 := by omega
    · exact c5
    · exact (a5.shr b4).shr c4
    · exact b5.shr c4
  refine ⟨hE, c2, c3.trans (b3.trans a3), hI.calm (hst 0 (by omega)) (hst 1 (by omega)) (hst 2 (by omega)), ?_, fun a u hu => hu.now (hs.now 0) (hs.now 1), hst, hI⟩
  unfold view
  have e0 : V.flV.S.now 0 = V.S.now 0 := hs.now 0
  have e1 : V.flV.S.now 1 = V.S.now 1 := hs.now 1
  have e2 : V.flV.S.now 2 = V.S.now 2 := hs.now 2
  rw [e0, e1, e2]
  rfl
end

end Go.Proofs.YtogchafnnkajfaaGreat

namespace Go.Proofs.YtogchafnnkajfaaGreat
set_option linter.unusedVariables false

/-- Nothing fails. -/
structure NF (C : VC) (S : DS) : Prop where
  hea : Hea S [C.n0, C.n1, C.n2]
  dn : S.down = false
  fu : S.fuse = 0
section
variable {C : VC} {S : DS}
theorem NF.wr (h : NF C S) {i n : Nat} (hi : [C.n0, C.n1, C.n2][i]? = some n) (j v : Nat) (hj : j < n) : S.swE i n (j : Int) = 0 ∧ NF C (S.swrite i n (j : Int) v) ∧ Wro S (S.swrite i n (j : Int) v) [C.n0, C.n1, C.n2] i j v := by
  rcases wr_out h.hea h.dn hi j v hj with ⟨w1, w2, w3, w4⟩ | ⟨w0, -⟩
  · exact ⟨w1, ⟨w4.hea, w2, w3 h.fu⟩, w4⟩
  · exact absurd h.fu w0
theorem NF.fl (h : NF C S) {i n : Nat} (hi : [C.n0, C.n1, C.n2][i]? = some n) : S.chkF (i : Int) = 0 ∧ NF C (S.flush (i : Int)) ∧ Shr S (S.flush (i : Int)) [C.n0, C.n1, C.n2] ∧ Stl (S.flush (i : Int)) i := by
  obtain ⟨f1, f2, f3, f4, f5⟩ := fl_out h.hea h.dn hi
  exact ⟨f1, ⟨f4.hea, f2, f3.trans h.fu⟩, f4, f5⟩
theorem NF.cp (h : NF C S) {p np q nq : Nat} (hp : [C.n0, C.n1, C.n2][p]? = some np) (hq : [C.n0, C.n1, C.n2][q]? = some nq) (hpq : p ≠ q) (a b : Nat) (i : Nat) (ha : a + i ≤ np) (hb : b + i ≤ nq) :
    (vcp S p np a q nq b i).1 = 0 ∧ NF C (vcp S p np a q nq b i).2 ∧ (∀ k, k ≠ q → (vcp S p np a q nq b i).2.now k = S.now k) ∧ (vcp S p np a q nq b i).2.now q = cpL (S.now q) b (S.now p) a i ∧ (∀ k, k ≠ q → Stl S k → Stl (vcp S p np a q nq b i).2 k) := by
  induction i with
  | zero => exact ⟨rfl, h, fun _ _ => rfl, rfl, fun _ _ hs => hs⟩
  | succ i ih =>
    obtain ⟨e0, h1, hn1, hn0, hst⟩ := ih (by omega) (by omega)
    rw [vcp, if_neg (by rw [e0]; exact fun e => e rfl)]
    generalize (vcp S p np a q nq b i).2 = S1 at *
    obtain ⟨r1, r2⟩ := rd_out h1.hea h1.dn hp (a + i) (by omega)
    unfold vcpOne
    rw [show (a : Int) + (i : Int) = ((a + i : Nat) : Int) from rfl, show (b : Int) + (i : Int) = ((b + i : Nat) : Int) from rfl, if_neg (by rw [r1]; exact fun e => e rfl)]
    obtain ⟨w1, w2, w3⟩ := h1.wr hq (b + i) (S1.sread p np ((a + i : Nat) : Int)) (by omega)
    refine ⟨w1, w2, fun j hj => by rw [w3.now, if_neg hj]; exact hn1 j hj, ?_, fun j hj hs => (hst j hj hs).wro w3 hj⟩
    rw [w3.now, if_pos rfl, hn0, cpL]
    congr 1
    rw [hn1 p hpq] at r2
    rw [r2]
    rfl
end

section
variable {C : VC} {V : VS}
theorem NF.st (h : NF C V.S) (k : Nat) (hk : 1 + k < C.n2) (y : Sl) : V.setE C k = 0 ∧ NF C (V.setV C k y).S ∧ view (V.setV C k y) = ⟨V.S.now 0, V.S.now 1, (V.S.now 2).set (1 + k) y.word, ⟨V.x.sl.set k y, V.x.clk, V.x.ms⟩⟩ ∧ (V.setV C k y).x = ⟨V.x.sl.set k y, V.x.clk, V.x.ms⟩ ∧ (V.setV C k y).ss = V.ss.set k ⟨y.valid, y.dirty, y.block, 0⟩ ∧ (∀ j, j ≠ 2 → Stl V.S j → Stl (V.setV C k y).S j) := by
  obtain ⟨w1, w2, w3⟩ := h.wr (i := 2) (n := C.n2) rfl (1 + k) y.word hk
  have e : V.setE C k = 0 := w1
  have ex : (V.setV C k y).x = ⟨V.x.sl.set k y, V.x.clk, V.x.ms⟩ := by unfold VS.setV; rw [if_pos e]
  have es : (V.setV C k y).ss = V.ss.set k ⟨y.valid, y.dirty, y.block, 0⟩ := by unfold VS.setV; rw [if_pos e, if_pos e]
  refine ⟨e, w2, ?_, ex, es, fun j hj hs => hs.wro w3 hj⟩
  unfold view
  rw [ex]
  have q0 : (V.setV C k y).S.now 0 = V.S.now 0 := (w3.now 0).trans (if_neg (by decide))
  have q1 : (V.setV C k y).S.now 1 = V.S.now 1 := (w3.now 1).trans (if_neg (by decide))
  have q2 : (V.setV C k y).S.now 2 = (V.S.now 2).set (1 + k) y.word := (w3.now 2).trans (if_pos rfl)
  rw [q0, q1, q2]
theorem NF.cl (h : NF C V.S) {k : Nat} {x : Sl} (hx : V.x.sl[k]? = some x) (hk : 1 + k < C.n2) (hf : k * C.chunk + C.chunk ≤ C.n1) (hb : x.block.toNat * C.chunk + C.chunk ≤ C.n0) :
    V.clE C k x.block.toNat x = 0 ∧ NF C (V.clV C k x.block.toNat x).S ∧ view (V.clV C k x.block.toNat x) = (view V).back C.chunk k true ∧ (V.clV C k x.block.toNat x).x = V.x.setD k false ∧ (V.clV C k x.block.toNat x).ss = V.ss.set k ⟨x.valid, false, x.block, 0⟩ ∧ (∀ j, j ≠ 2 → Stl V.S j → Stl (V.clV C k x.block.toNat x).S j) := by
  have hkl := (List.getElem?_eq_some_iff.1 hx).1
  obtain ⟨c1, c2, c3, c4, c5⟩ := h.cp (p := 1) (q := 0) rfl rfl (by decide) (k * C.chunk) (x.block.toNat * C.chunk) C.chunk hf hb
  have eC : V.cb C k x.block.toNat = vcp V.S 1 C.n1 (k * C.chunk) 0 C.n0 (x.block.toNat * C.chunk) C.chunk := rfl
  rw [← eC] at c1 c2 c3 c4
  obtain ⟨f1, f2, f3, f4⟩ := c2.fl (i := 0) (n := C.n0) rfl
  have eE : V.cbE C k x.block.toNat = 0 := by unfold VS.cbE; rw [if_pos c1]; exact f1
  have eV : V.cbV C k x.block.toNat = { V with S := (V.cb C k x.block.toNat).2.flush 0 } := by unfold VS.cbV; rw [if_pos c1]
  have hN : NF C (V.cbV C k x.block.toNat).S := by rw [eV]; exact f2
  obtain ⟨s1, s2, s3, s4, s5, s6⟩ := hN.st k hk { x with dirty := false }
  have e1 : V.clE C k x.block.toNat x = ((V.cbV C k x.block.toNat).setV C k { x with dirty := false }).S.chkF 2 := by
    unfold VS.clE
    rw [if_neg (fun e => e eE), if_neg (fun e => e s1)]
  have e2 : V.clV C k x.block.toNat x = { (V.cbV C k x.block.toNat).setV C k { x with dirty := false } with S := ((V.cbV C k x.block.toNat).setV C k { x with dirty := false }).S.flush 2 } := by
    unfold VS.clV
    rw [if_neg (fun e => e eE), if_neg (fun e => e s1)]
  obtain ⟨g1, g2, g3, g4⟩ := s2.fl (i := 2) (n := C.n2) rfl
  have hsd : V.x.setD k false = ⟨V.x.sl.set k { x with dirty := false }, V.x.clk, V.x.ms⟩ := by unfold CS.setD; rw [CS.at_eq hx]
  have ex : ((V.cbV C k x.block.toNat).setV C k { x with dirty := false }).x = V.x.setD k false := by rw [s4, eV, hsd]
  refine ⟨by rw [e1]; exact g1, by rw [e2]; exact g2, ?_, by rw [e2]; exact ex, by rw [e2]; exact s5.trans (by rw [eV]), fun j hj hs => ?_⟩
  rotate_left
  · rw [e2]
    have hs1 : Stl (V.cbV C k x.block.toNat).S j := by
      rw [eV]
      by_cases ej : j = 0
      · subst ej
        exact f4
      · exact (c5 j ej hs).shr f3
    exact (s6 j hj hs1).shr g3
  rw [e2]
  have q0 := g3.now 0
  have q1 := g3.now 1
  have q2 := g3.now 2
  have p0 := f3.now 0
  have p1 := f3.now 1
  have p2 := f3.now 2
  have hv := s3
  unfold view at hv
  injection hv with v0 v1 v2 v3
  unfold view
  dsimp only
  rw [show ((2 : Int)) = ((2 : Nat) : Int) from rfl, q0, q1, q2, v0, v1, v2, ex, eV]
  dsimp only
  rw [show ((0 : Int)) = ((0 : Nat) : Int) from rfl, p0, p1, p2, c4, c3 1 (by decide), c3 2 (by decide)]
  unfold RV.back
  dsimp only
  rw [CS.at_eq hx, hsd, at_set hkl]
  rfl
end

/-- A slot that is given up at Open. -/
def gone (md : Int) (y : Sl) : Bool := y.valid && (decide (md = 1) || !y.dirty)
def VS.bg1 (C : VC) (V : VS) : Nat → VS
  | 0 => V
  | k + 1 => if gone V.md ((V.bg1 C k).x.at_ k) = true then (V.bg1 C k).setV C k nilS else V.bg1 C k
def VS.bg3 (C : VC) (V : VS) : Nat → VS
  | 0 => V
  | k + 1 => if ((V.bg3 C k).x.at_ k).dirty = true then (V.bg3 C k).clV C k ((V.bg3 C k).x.at_ k).block.toNat ((V.bg3 C k).x.at_ k) else V.bg3 C k
def VS.bgA (C : VC) (V : VS) : VS := if V.op = true then { V.bg1 C V.x.sl.length with S := (V.bg1 C V.x.sl.length).S.flush 2 } else V
def VS.bgB (C : VC) (V : VS) (mode : Int) : VS := if mode = 1 then (V.bgA C).bg3 C (V.bgA C).x.sl.length else V.bgA C
def VS.bgn (C : VC) (V : VS) (mode : Int) : VS := { V.bgB C mode with S := (V.bgB C mode).S.first 2 C.n2 (hdI (V.bgB C mode).ss.length (C.chunk : Int) mode true), md := mode, op := true }
/-- .. by the definition. -/
def RV.bg1 (md : Int) (R : RV) : Nat → RV
  | 0 => R
  | k + 1 => if gone md ((R.bg1 md k).x.at_ k) = true then (R.bg1 md k).free k else R.bg1 md k
def RV.bg3 (c : Nat) (R : RV) : Nat → RV
  | 0 => R
  | k + 1 => if ((R.bg3 c k).x.at_ k).dirty = true then (R.bg3 c k).back c k true else R.bg3 c k
def RV.bgA (md : Int) (op : Bool) (R : RV) : RV := if op = true then R.bg1 md R.x.sl.length else R
def RV.bgB (c : Nat) (md : Int) (op : Bool) (mode : Int) (R : RV) : RV := if mode = 1 then (R.bgA md op).bg3 c (R.bgA md op).x.sl.length else R.bgA md op
def RV.bgn (c : Nat) (md : Int) (op : Bool) (mode : Int) (R : RV) : RV := { R.bgB c md op mode with m := (R.bgB c md op mode).m.set 0 (hdI R.x.sl.length (c : Int) mode true) }

/-- What holds of a volume while it is opened. -/
structure NB (C : VC) (V : VS) : Prop where
  nf : NF C V.S
  ok : V.x.Ok
  len : V.x.sl.length = V.ss.length
  n2 : V.x.sl.length + 1 ≤ C.n2
  n1 : V.x.sl.length * C.chunk ≤ C.n1
  wh : ∀ (k : Nat) (x : Sl), V.x.sl[k]? = some x → x.valid = true → x.block.toNat * C.chunk + C.chunk ≤ C.n0
section
variable {C : VC} {V : VS}
theorem NB.bg1 (h : NB C V) (k : Nat) (hk : k ≤ V.x.sl.length) : NB C (V.bg1 C k) ∧ view (V.bg1 C k) = (view V).bg1 V.md k ∧ (V.bg1 C k).x.sl.length = V.x.sl.length ∧ Bd V (V.bg1 C k) k 0 := by
  induction k with
  | zero => exact ⟨h, rfl, rfl, Bd.refl h.ok h.len⟩
  | succ k ih =>
    obtain ⟨i1, i2, i3, i4⟩ := ih (by omega)
    have hxe : ((view V).bg1 V.md k).x = (V.bg1 C k).x := by rw [← i2]; rfl
    rw [VS.bg1, RV.bg1, hxe]
    split
    · obtain ⟨s1, s2, s3, s4, s5, -⟩ := i1.nf.st k (by have := i1.n2; omega) nilS
      have hcl := i1.ok.clear k
      have hB := i4.st (C := C) k nilS hcl
      refine ⟨⟨s2, by rw [s4]; exact hcl, by rw [s4, s5, List.length_set, List.length_set]; exact i1.len, by rw [s4]; show (List.set _ _ _).length + 1 ≤ _; rw [List.length_set]; exact i1.n2, by rw [s4]; show (List.set _ _ _).length * _ ≤ _; rw [List.length_set]; exact i1.n1, ?_⟩, ?_, by rw [s4]; show (List.set _ _ _).length = _; rw [List.length_set]; exact i3, hB⟩
      · intro j z hz hzv
        rw [s4] at hz
        rcases set_get hz with ⟨-, rfl⟩ | ⟨-, hz⟩
        · cases hzv
        · exact i1.wh j z hz hzv
      · rw [s3, ← i2]
        rfl
    · exact ⟨i1, i2, i3, i4.mono (by omega) (Nat.le_refl _)⟩
theorem NB.fl (h : NB C V) : NB C { V with S := V.S.flush 2 } ∧ view ({ V with S := V.S.flush 2 } : VS) = view V ∧ V.S.chkF 2 = 0 := by
  obtain ⟨f1, f2, f3, f4⟩ := h.nf.fl (i := 2) (n := C.n2) rfl
  refine ⟨⟨f2, h.ok, h.len, h.n2, h.n1, h.wh⟩, ?_, f1⟩
  have q0 := f3.now 0
  have q1 := f3.now 1
  have q2 := f3.now 2
  unfold view
  dsimp only
  rw [show ((2 : Int)) = ((2 : Nat) : Int) from rfl, q0, q1, q2]
theorem NB.bgA (h : NB C V) : NB C (V.bgA C) ∧ view (V.bgA C) = (view V).bgA V.md V.op ∧ (V.bgA C).x.sl.length = V.x.sl.length ∧ Bd V (V.bgA C) V.x.sl.length 0 := by
  unfold VS.bgA RV.bgA
  obtain ⟨i1, i2, i3, i4⟩ := h.bg1 V.x.sl.length (Nat.le_refl _)
  obtain ⟨f1, f2, -⟩ := i1.fl
  split
  · exact ⟨f1, f2.trans i2, i3, i4.fl 2⟩
  · exact ⟨h, rfl, rfl, (Bd.refl h.ok h.len).mono (by omega) (Nat.le_refl _)⟩
/-- A dirty slot has a block. -/
theorem NB.dirty (h : NB C V) {k : Nat} {x : Sl} (hx : V.x.sl[k]? = some x) (hd : x.dirty = true) : x.valid = true := by
  rcases hv : x.valid with _ | _
  · have := h.ok.nl x (List.mem_of_getElem? hx) hv
    rw [this] at hd
    cases hd
  · rfl
theorem NB.fast (h : NB C V) {k : Nat} {x : Sl} (hx : V.x.sl[k]? = some x) : k * C.chunk + C.chunk ≤ C.n1 := by
  have hk := (List.getElem?_eq_some_iff.1 hx).1
  have := Nat.mul_le_mul_right C.chunk (show k + 1 ≤ V.x.sl.length by omega)
  rw [Nat.add_mul, Nat.one_mul] at this
  have := h.n1
  omega
theorem NB.bg3 (h : NB C V) (k : Nat) (hk : k ≤ V.x.sl.length) : NB C (V.bg3 C k) ∧ view (V.bg3 C k) = (view V).bg3 C.chunk k ∧ (V.bg3 C k).x.sl.length = V.x.sl.length ∧ Bd V (V.bg3 C k) (k * (C.chunk + 1)) 0 := by
  induction k with
  | zero => exact ⟨h, rfl, rfl, by rw [Nat.zero_mul]; exact Bd.refl h.ok h.len⟩
  | succ k ih =>
    obtain ⟨i1, i2, i3, i4⟩ := ih (by omega)
    have hxe : ((view V).bg3 C.chunk k).x = (V.bg3 C k).x := by rw [← i2]; rfl
    rw [VS.bg3, RV.bg3, hxe]
    obtain ⟨x, hx⟩ : ∃ x, (V.bg3 C k).x.sl[k]? = some x := ⟨_, List.getElem?_eq_getElem (by omega)⟩
    rw [CS.at_eq hx]
    rcases hd : x.dirty with _ | _
    · rw [if_neg (by simp), if_neg (by simp)]
      exact ⟨i1, i2, i3, i4.mono (by rw [Nat.add_mul]; omega) (Nat.le_refl _)⟩
    · rw [if_pos rfl, if_pos rfl]
      have hv := i1.dirty hx hd
      obtain ⟨c1, c2, c3, c4, c5, -⟩ := i1.nf.cl hx (by have := i1.n2; omega) (i1.fast hx) (i1.wh k x hx hv)
      have hsd : ((V.bg3 C k).x.setD k false) = ⟨(V.bg3 C k).x.sl.set k { x with dirty := false }, (V.bg3 C k).x.clk, (V.bg3 C k).x.ms⟩ := by unfold CS.setD; rw [CS.at_eq hx]
      refine ⟨⟨c2, by rw [c4]; exact i1.ok.setD k x hx hv false, by rw [c4, c5, hsd, List.length_set, List.length_set]; exact i1.len, by rw [c4, hsd]; show (List.set _ _ _).length + 1 ≤ _; rw [List.length_set]; exact i1.n2, by rw [c4, hsd]; show (List.set _ _ _).length * _ ≤ _; rw [List.length_set]; exact i1.n1, ?_⟩, by rw [c3, i2], by rw [c4, hsd]; show (List.set _ _ _).length = _; rw [List.length_set]; exact i3, (i4.cl (C := C) k x.block.toNat x hx hv).mono (by rw [Nat.add_mul]; omega) (Nat.le_refl _)⟩
      intro j z hz hzv
      rw [c4, hsd] at hz
      rcases set_get hz with ⟨rfl, rfl⟩ | ⟨-, hz⟩
      · exact i1.wh j x hx hv
      · exact i1.wh j z hz hzv
theorem NB.bgB (h : NB C V) (mode : Int) : NB C (V.bgB C mode) ∧ view (V.bgB C mode) = (view V).bgB C.chunk V.md V.op mode ∧ (V.bgB C mode).x.sl.length = V.x.sl.length ∧ Bd V (V.bgB C mode) (V.x.sl.length * (C.chunk + 2)) 0 := by
  obtain ⟨a1, a2, a3, a4⟩ := h.bgA
  obtain ⟨b1, b2, b3, b4⟩ := a1.bg3 (V.bgA C).x.sl.length (Nat.le_refl _)
  have hxe : ((view V).bgA V.md V.op).x = (V.bgA C).x := by rw [← a2]; rfl
  unfold VS.bgB RV.bgB
  rw [hxe, ← a2]
  have hm : V.x.sl.length * (C.chunk + 2) = V.x.sl.length + V.x.sl.length * (C.chunk + 1) := by rw [show C.chunk + 2 = 1 + (C.chunk + 1) by omega, Nat.mul_add, Nat.mul_one]
  split
  · exact ⟨b1, b2, b3.trans a3, (a4.trans b4).mono (by rw [a3, hm]; exact Nat.le_refl _) (Nat.le_refl _)⟩
  · exact ⟨a1, rfl, a3, a4.mono (by rw [hm]; omega) (Nat.le_refl _)⟩
/-- The word of the cache is written, and flushed. -/
theorem NF.first {S : DS} (h : NF C S) (h2 : 1 ≤ C.n2) (w : Nat) : S.firstR 2 C.n2 w = 0 ∧ NF C (S.first 2 C.n2 w) ∧ (S.first 2 C.n2 w).now 0 = S.now 0 ∧ (S.first 2 C.n2 w).now 1 = S.now 1 ∧ (S.first 2 C.n2 w).now 2 = (S.now 2).set 0 w ∧ Stl (S.first 2 C.n2 w) 2 ∧ (∀ j, j ≠ 2 → (Stl S j → Stl (S.first 2 C.n2 w) j) ∧ ∀ b x, (S.first 2 C.n2 w).Cand j b x → S.Cand j b x) := by
  obtain ⟨w1, w2, w3⟩ := h.wr (i := 2) (n := C.n2) rfl 0 w (by omega)
  obtain ⟨f1, f2, f3, f4⟩ := w2.fl (i := 2) (n := C.n2) rfl
  have e0 : S.swE 2 C.n2 0 = 0 := w1
  have eR : S.firstR 2 C.n2 w = 0 := by unfold DS.firstR; rw [if_neg (fun e => e e0)]; exact f1
  have eF : S.first 2 C.n2 w = (S.swrite 2 C.n2 ((0 : Nat) : Int) w).flush ((2 : Nat) : Int) := by unfold DS.first; rw [if_neg (fun e => e e0)]; rfl
  rw [eR, eF]
  refine ⟨rfl, f2, ?_, ?_, ?_, f4, fun j hj => ⟨fun hs => (hs.wro w3 hj).shr f3, fun b x hx => ?_⟩⟩
  · rw [f3.now, w3.now, if_neg (by decide)]
  · rw [f3.now, w3.now, if_neg (by decide)]
  · rw [f3.now, w3.now, if_pos rfl]
  · rcases w3.cand j b x (f3.cand j b x hx) with hx | ⟨e, -⟩
    · exact hx
    · exact absurd e hj
theorem NB.bgn (h : NB C V) (mode : Int) : NF C (V.bgn C mode).S ∧ view (V.bgn C mode) = (view V).bgn C.chunk V.md V.op mode ∧ (V.bgn C mode).x.Ok ∧ (V.bgn C mode).x.sl.length = (V.bgn C mode).ss.length ∧ (V.bgn C mode).x.sl.length = V.x.sl.length ∧ (V.bgn C mode).pm = V.pm ∧ (V.bgn C mode).closed = V.closed ∧ (V.bgn C mode).x.clk = (V.bgB C mode).x.clk := by
  obtain ⟨b1, b2, b3, b4⟩ := h.bgB mode
  have hl := b1.len
  obtain ⟨f1, f2, f3, f4, f5, f6, f7⟩ := b1.nf.first (by have := h.n2; omega) (hdI (V.bgB C mode).ss.length (C.chunk : Int) mode true)
  refine ⟨f2, ?_, b1.ok, b1.len, b3, b4.pm, b4.clo, rfl⟩
  have hv := b2
  unfold view at hv
  unfold RV.bgn
  rw [← b2]
  unfold view VS.bgn
  dsimp only
  rw [f3, f4, f5, ← hl, b3]
end

end Go.Proofs.YtogchafnnkajfaaGreat

namespace Go.Proofs.YtogchafnnkajfaaGreat
set_option linter.unusedVariables false

theorem seenB_mem (ws : List Nat) (k i : Nat) (hi : i < k) (hv : (slotS (ws[1 + i]?.getD 0)).valid = true) : (slotS (ws[1 + i]?.getD 0)).block ∈ seenB ws k := by
  induction k with
  | zero => omega
  | succ k ih =>
    unfold seenB
    by_cases e : i = k
    · subst e
      rw [if_pos hv]
      exact List.mem_append.2 (.inr (List.mem_singleton.2 rfl))
    · have := ih (by omega)
      split
      · exact List.mem_append.2 (.inl this)
      · exact this
theorem okAt_of (ws : List Nat) (n k : Nat) (h : allOk ws n = true) (hk : k < n) : okAt ws k = true := by
  have := allOk_mono ws (k + 1) n (by omega) h
  rw [allOk, Bool.and_eq_true] at this
  exact this.2
theorem allOk_uq (ws : List Nat) (n : Nat) (h : allOk ws n = true) (i j : Nat) (hij : i < j) (hj : j < n) (hi : (slotS (ws[1 + i]?.getD 0)).valid = true) (hv : (slotS (ws[1 + j]?.getD 0)).valid = true) : (slotS (ws[1 + i]?.getD 0)).block ≠ (slotS (ws[1 + j]?.getD 0)).block := by
  intro e
  have h1 := okAt_of ws n j h hj
  have h2 := seenB_mem ws j i hij hi
  rw [e] at h2
  unfold okAt at h1
  rw [hv, decide_eq_true h2] at h1
  simp at h1
theorem slotOk_no (w : Nat) (h : slotOk w = true) (hv : (slotS w).valid = false) : w = 0 := by
  unfold slotOk at h
  rcases of_decide_eq_true h with h | ⟨h1, -⟩
  · exact h
  · by_cases e : w = 0
    · exact e
    · have : (slotS w).valid = true := by unfold slotS; rw [if_neg e]; exact decide_eq_true h1
      rw [this] at hv
      cases hv
theorem slotsU_at (ws : List Nat) (n k : Nat) (hk : k < n) : (slotsU ws n)[k]? = some (slotS (ws[1 + k]?.getD 0)) := by
  induction n with
  | zero => omega
  | succ n ih =>
    rw [slotsU_succ]
    by_cases e : k = n
    · subst e
      rw [List.getElem?_append_right (by rw [slotsU_length]; exact Nat.le_refl _), slotsU_length, Nat.sub_self]
      rfl
    · rw [List.getElem?_append_left (by rw [slotsU_length]; omega)]
      exact ih (by omega)
/-- How many slots, and sectors of a block, the words tell. -/
def opK (ws : List Nat) : Nat := (ws[0]?.getD 0) % 2048
def opC (ws : List Nat) : Nat := (ws[0]?.getD 0) / 2048 % 128
def opM (ws : List Nat) : Int := (((ws[0]?.getD 0) / 262144 % 4 : Nat) : Int)
def opO (ws : List Nat) : Bool := decide ((ws[0]?.getD 0) / 1048576 % 2 = 1)
theorem open_cs (ws : List Nat) (h : openE ws = 0) : (CS.mk (slotsU ws (opK ws)) 0 []).Ok ∧ opK ws + 1 ≤ ws.length ∧ 1 ≤ opC ws ∧ opC ws ≤ 64 ∧ (∀ i, i < opK ws → ws[1 + i]? = some ((slotS (ws[1 + i]?.getD 0)).word)) := by
  have hK : opK ws = (ws[0]?.getD 0) % 2048 := rfl
  have hC : opC ws = (ws[0]?.getD 0) / 2048 % 128 := rfl
  unfold openE at h
  by_cases h1 : hform (ws[0]?.getD 0) = false
  · rw [if_pos h1] at h; cases h
  rw [if_neg h1] at h
  by_cases h2 : hbad (ws[0]?.getD 0) ws.length = true
  · rw [if_pos h2] at h; cases h
  rw [if_neg h2] at h
  by_cases h3 : allOk ws ((ws[0]?.getD 0) % 2048) = false
  · rw [if_pos h3] at h; cases h
  have ha : allOk ws (opK ws) = true := by rw [hK]; simpa using h3
  have hb : ¬ ((ws[0]?.getD 0) / 9007199254740992 ≠ 0 ∨ (ws[0]?.getD 0) % 2048 < 1 ∨ 1024 < (ws[0]?.getD 0) % 2048 ∨ (ws[0]?.getD 0) / 2048 % 128 < 1 ∨ 64 < (ws[0]?.getD 0) / 2048 % 128 ∨ (ws[0]?.getD 0) / 262144 % 4 = 3 ∨ ws.length < (ws[0]?.getD 0) % 2048 + 1) := by
    intro e
    apply h2
    unfold hbad
    exact decide_eq_true e
  rw [← hK, ← hC] at hb
  have hlen : (slotsU ws (opK ws)).length = opK ws := slotsU_length _ _
  have hget : ∀ {k : Nat} {x : Sl}, (slotsU ws (opK ws))[k]? = some x → k < opK ws ∧ x = slotS (ws[1 + k]?.getD 0) := by
    intro k x hx
    have hk := (List.getElem?_eq_some_iff.1 hx).1
    rw [hlen] at hk
    rw [slotsU_at ws _ k hk] at hx
    injection hx with hx
    exact ⟨hk, hx.symm⟩
  have hso : ∀ k, k < opK ws → slotOk (ws[1 + k]?.getD 0) = true := by
    intro k hk
    have := okAt_of ws _ k ha hk
    unfold okAt at this
    rw [Bool.and_eq_true] at this
    exact this.1
  have hno : ∀ k, k < opK ws → (slotS (ws[1 + k]?.getD 0)).valid = false → slotS (ws[1 + k]?.getD 0) = nilS := by
    intro k hk hv
    rw [slotOk_no _ (hso k hk) hv]
    rfl
  refine ⟨⟨⟨?_, ?_⟩, ⟨Int.le_refl _, by show (0 : Int) ≤ _; omega⟩, by show 0 ≤ 8; omega, ?_, ?_, ?_, fun b hb => by simp at hb, List.nodup_nil, fun b hb => by simp at hb⟩, by omega, by omega, by omega, ?_⟩
  · show 1 ≤ (slotsU ws (opK ws)).length; omega
  · show (slotsU ws (opK ws)).length ≤ 1024; omega
  · intro x hx hv
    obtain ⟨k, hk0⟩ := List.mem_iff_getElem?.1 hx
    obtain ⟨hk, rfl⟩ := hget hk0
    exact hno k hk hv
  · intro x hx hv
    obtain ⟨k, hk0⟩ := List.mem_iff_getElem?.1 hx
    obtain ⟨hk, rfl⟩ := hget hk0
    have := slotS_block (ws[1 + k]?.getD 0)
    have hst : (slotS (ws[1 + k]?.getD 0)).stamp = 0 := by unfold slotS; split <;> rfl
    rw [hst]
    exact ⟨⟨by omega, by omega⟩, Int.le_refl _, Int.le_refl _⟩
  · intro i j x y hi hj hxv hyv he
    obtain ⟨hi', rfl⟩ := hget hi
    obtain ⟨hj', rfl⟩ := hget hj
    rcases Nat.lt_trichotomy i j with hl | hl | hl
    · exact absurd he (allOk_uq ws _ ha i j hl hj' hxv hyv)
    · exact hl
    · exact absurd he.symm (allOk_uq ws _ ha j i hl hi' hyv hxv)
  · intro i hi
    have hil : 1 + i < ws.length := by omega
    rw [List.getElem?_eq_getElem hil, Option.getD_some]
    have hs := hso i hi
    rw [List.getElem?_eq_getElem hil, Option.getD_some] at hs
    unfold slotOk at hs
    rcases of_decide_eq_true hs with e | ⟨-, e⟩
    · rw [e]; rfl
    · rw [← e]

/-- A slot whose block the origin lacks. -/
def badS (ss : List Sl) (q : Nat) : Bool := ss.any (fun x => x.valid && decide ((q : Int) ≤ x.block))
/-- What Open answers. -/
def opnE (now : List Nat) (n0 n1 : Nat) (mode : Int) : Int :=
  if mode ≠ 1 ∧ mode ≠ 2 then 1 else if openE now ≠ 0 then openE now
  else if n1 < opK now * opC now then 3
  else if badS (slotsU now (opK now)) (n0 / opC now) = true then 24 else 0
/-- The volume ahead of its being begun. -/
def opn0 (S : DS) (mode : Int) : VS := ⟨S.flush 2, ⟨slotsU (S.now 2) (opK (S.now 2)), 0, []⟩, slotsU (S.now 2) (opK (S.now 2)), opM (S.now 2), opO (S.now 2), decide (mode = 2), false, false⟩
theorem badS_no {ss : List Sl} {q : Nat} (h : badS ss q = false) {k : Nat} {x : Sl} (hx : ss[k]? = some x) (hv : x.valid = true) : x.block < (q : Int) := by
  unfold badS at h
  rw [List.any_eq_false] at h
  have := h x (List.mem_of_getElem? hx)
  rw [hv] at this
  simp at this
  omega
theorem badS_yes {ss : List Sl} {q : Nat} {k : Nat} {x : Sl} (hx : ss[k]? = some x) (hv : x.valid = true) (hb : (q : Int) ≤ x.block) : badS ss q = true := by
  unfold badS
  rw [List.any_eq_true]
  exact ⟨x, List.mem_of_getElem? hx, by rw [hv, decide_eq_true hb]; rfl⟩
/-- What is begun is right. -/
theorem opn_nb {C : VC} {S : DS} {mode : Int} (h : NF C S) (he : openE (S.now 2) = 0) (hC : C.chunk = opC (S.now 2)) (h1 : ¬ C.n1 < opK (S.now 2) * opC (S.now 2)) (hb : badS (slotsU (S.now 2) (opK (S.now 2))) (C.n0 / opC (S.now 2)) = false) : NB C (opn0 S mode) := by
  obtain ⟨o1, o2, o3, o4, o5⟩ := open_cs (S.now 2) he
  obtain ⟨f1, f2, f3, f4⟩ := h.fl (i := 2) (n := C.n2) rfl
  have hl := slotsU_length (S.now 2) (opK (S.now 2))
  have hn2 := (h.hea.nn 2 C.n2 rfl).1
  refine ⟨f2, o1, rfl, ?_, ?_, ?_⟩
  · show (slotsU (S.now 2) (opK (S.now 2))).length + 1 ≤ _; omega
  · show (slotsU (S.now 2) (opK (S.now 2))).length * C.chunk ≤ _
    rw [hl, hC]; omega
  · intro k x hx hv
    have hb2 := badS_no hb hx hv
    have hb0 := (o1.blk x (List.mem_of_getElem? hx) hv).1.1
    rw [← hC] at hb2 o3
    have : x.block.toNat + 1 ≤ C.n0 / C.chunk := by
      generalize C.n0 / C.chunk = q at *
      omega
    have := (Nat.le_div_iff_mul_le (by omega)).1 this
    rw [Nat.add_mul, Nat.one_mul] at this
    exact this

end Go.Proofs.YtogchafnnkajfaaGreat

namespace Go.Proofs.YtogchafnnkajfaaGreat
set_option linter.unusedVariables false
open Go.RowKit

/-- The fields of a head word. -/
theorem hd_fields (K L C d : Nat) (hK : K < 2048) (hL : L < 128) (hC : C < 4) (hd : d < 2) :
    hform (hdW K L C d) = true ∧ hdW K L C d % 2048 = K ∧ hdW K L C d / 2048 % 128 = L ∧ hdW K L C d / 262144 % 4 = C ∧ hdW K L C d / 1048576 % 2 = d ∧ hdW K L C d / 9007199254740992 = 0 := by
  have hlt := hdW_lt K L C d hK hL hC hd
  have hB : clr (hdW K L C d) 21 = hdB K L C d := by
    have hs := sumW_lt (hdB K L C d)
    unfold clr hdW
    generalize sumW (hdB K L C d) = q at *
    unfold hdB
    simp only [Nat.reducePow, Nat.reduceAdd]
    omega
  have hs := sumW_lt (hdB K L C d)
  refine ⟨?_, ?_, ?_, ?_, ?_, Nat.div_eq_of_lt hlt⟩
  · unfold hform
    rw [hB]
    unfold hdW
    generalize sumW (hdB K L C d) = q at *
    unfold hdB
    apply decide_eq_true
    constructor <;> omega
  all_goals
    unfold hdW
    generalize sumW (hdB K L C d) = q at *
    unfold hdB
    omega

theorem hdI_fields (n : Nat) (chunk mode : Int) (op : Bool) (hn : n < 2048) (hc : 0 ≤ chunk ∧ chunk < 128) (hm : 0 ≤ mode ∧ mode < 4) :
    hform (hdI n chunk mode op) = true ∧ hdI n chunk mode op % 2048 = n ∧ ((hdI n chunk mode op / 2048 % 128 : Nat) : Int) = chunk ∧ ((hdI n chunk mode op / 262144 % 4 : Nat) : Int) = mode ∧ hdI n chunk mode op / 1048576 % 2 = b01 op ∧ hdI n chunk mode op / 9007199254740992 = 0 := by
  have h := hd_fields (n % 2048) (chunk % 128).toNat (mode % 4).toNat (b01 op) (Nat.mod_lt _ (by omega)) (by omega) (by omega) (b01_lt op)
  unfold hdI
  obtain ⟨h1, h2, h3, h4, h5, h6⟩ := h
  refine ⟨h1, by rw [h2]; omega, by rw [h3]; omega, by rw [h4]; omega, h5, h6⟩

/-- The empty slot. -/
def Sl.nil : Sl := ⟨false, false, 0, 0⟩
theorem setZ_at (l : List Nat) (k j : Nat) (h : j < k) (hl : 1 + j < l.length) : (setZ l k)[1 + j]?.getD 0 = 0 := by
  induction k with
  | zero => omega
  | succ k ih =>
    rw [setZ]
    by_cases e : j = k
    · subst e
      rw [List.getElem?_set_self (by rw [setZ_length]; exact hl)]
      rfl
    · rw [List.getElem?_set_ne (by omega)]
      exact ih (by omega)
theorem setZ_0 (l : List Nat) (k : Nat) : (setZ l k)[0]? = l[0]? := by
  induction k with
  | zero => rfl
  | succ k ih => rw [setZ, List.getElem?_set_ne (by omega), ih]

theorem seenB_nil (ws : List Nat) (k : Nat) (h : ∀ j, j < k → ws[1 + j]?.getD 0 = 0) : seenB ws k = [] ∧ allOk ws k = true ∧ slotsU ws k = List.replicate k Sl.nil := by
  induction k with
  | zero => exact ⟨rfl, rfl, rfl⟩
  | succ k ih =>
    obtain ⟨h1, h2, h3⟩ := ih (fun j hj => h j (by omega))
    have h0 := h k (by omega)
    refine ⟨?_, ?_, ?_⟩
    · rw [seenB, h0, h1]; rfl
    · rw [allOk, h2, okAt, h0, h1]; rfl
    · rw [slotsU_succ, h3, h0, List.replicate_succ']; rfl

theorem fmtW_len (now : List Nat) (k : Nat) (chunk : Int) : (fmtW now k chunk).length = now.length := by rw [fmtW_eq, setZ_length, List.length_set]
theorem setZ_hd (now : List Nat) (k w : Nat) (h : 1 ≤ now.length) : (setZ (now.set 0 w) k)[0]?.getD 0 = w := by
  rw [setZ_0, List.getElem?_set_self (by omega), Option.getD_some]
theorem fmtW_0 (now : List Nat) (k : Nat) (chunk : Int) (h : 1 ≤ now.length) : (fmtW now k chunk)[0]?.getD 0 = hdI k chunk 0 false := by
  rw [fmtW_eq]
  exact setZ_hd now k _ h
theorem fmtW_z (now : List Nat) (k : Nat) (chunk : Int) (hkn : k + 1 ≤ now.length) (j : Nat) (hj : j < k) : (fmtW now k chunk)[1 + j]?.getD 0 = 0 := by
  rw [fmtW_eq]
  generalize hdI k chunk 0 false = w
  exact setZ_at _ _ _ hj (by rw [List.length_set]; omega)
theorem open_good (ws : List Nat) (w k n : Nat) (h0 : ws[0]?.getD 0 = w) (h1 : hform w = true) (h2 : w % 2048 = k) (hn : ws.length = n) (hb : hbad w n = false) (ha : allOk ws k = true) : openE ws = 0 := by
  unfold openE
  rw [h0, h1, h2, hn, hb, ha]
  rfl
theorem hbad_no (w k n : Nat) (h2 : w % 2048 = k) (hk : 1 ≤ k ∧ k ≤ 1024) (hkn : k + 1 ≤ n) (h3 : 1 ≤ w / 2048 % 128 ∧ w / 2048 % 128 ≤ 64) (h4 : w / 262144 % 4 ≠ 3) (h6 : w / 9007199254740992 = 0) : hbad w n = false := by
  unfold hbad
  generalize w / 9007199254740992 = z at *
  generalize w / 2048 % 128 = y at *
  generalize w / 262144 % 4 = x at *
  generalize w % 2048 = v at *
  exact decide_eq_false (by omega)
/-- What Open finds behind Format. -/
theorem open_fmt (now : List Nat) (k : Nat) (chunk : Int) (hk : 1 ≤ k ∧ k ≤ 1024) (hkn : k + 1 ≤ now.length) (hc : 1 ≤ chunk ∧ chunk ≤ 64) :
    openE (fmtW now k chunk) = 0 ∧ (fmtW now k chunk)[0]?.getD 0 = hdI k chunk 0 false ∧ slotsU (fmtW now k chunk) k = List.replicate k Sl.nil ∧ (fmtW now k chunk).length = now.length := by
  have h := hdI_fields k chunk 0 false (by omega) (by omega) (by omega)
  have e0 := fmtW_0 now k chunk (by omega)
  have hl := fmtW_len now k chunk
  have hz := seenB_nil (fmtW now k chunk) k (fmtW_z now k chunk hkn)
  generalize hdI k chunk 0 false = w at *
  generalize fmtW now k chunk = ws at *
  obtain ⟨h1, h2, h3, h4, h5, h6⟩ := h
  refine ⟨open_good ws w k now.length e0 h1 h2 hl (hbad_no w k now.length h2 hk hkn ?_ ?_ h6) hz.2.1, e0, hz.2.2, hl⟩
  · clear h1 h2 h4 h5 h6
    generalize w / 2048 % 128 = y at *
    omega
  · clear h1 h2 h3 h5 h6
    generalize w / 262144 % 4 = y at *
    omega


end Go.Proofs.YtogchafnnkajfaaGreat

namespace Go.Proofs.YtogchafnnkajfaaGreat
set_option linter.unusedVariables false

/-- Where all is durable. -/
theorem VI.of_stl {C : VC} {S : DS} {sl : List Sl} {pm : Bool} (hea : Hea S [C.n0, C.n1, C.n2]) (h0 : Stl S 0) (h1 : Stl S 1) (h2 : Stl S 2) (n2 : C.n2 = sl.length + 1) (n1 : sl.length * C.chunk ≤ C.n1) (ch : 1 ≤ C.chunk)
    (uq : ∀ (i j : Nat) (x y : Sl), sl[i]? = some x → sl[j]? = some y → x.valid = true → y.valid = true → x.block = y.block → i = j)
    (wh : ∀ (k : Nat) (x : Sl), sl[k]? = some x → x.valid = true → (0 ≤ x.block ∧ x.block ≤ 16777215) ∧ x.block.toNat * C.chunk + C.chunk ≤ C.n0)
    (hd : (S.now 2)[0]? = some (hdI sl.length (C.chunk : Int) (if pm = true then 2 else 1) true)) (wd : ∀ (k : Nat) (x : Sl), sl[k]? = some x → (S.now 2)[1 + k]? = some x.word)
    (nd : pm = false → ∀ (k : Nat) (x : Sl), sl[k]? = some x → x.dirty = false)
    (ceq : ∀ (k : Nat) (x : Sl) (i : Nat), sl[k]? = some x → x.valid = true → x.dirty = false → i < C.chunk → (S.now 1)[k * C.chunk + i]? = (S.now 0)[x.block.toNat * C.chunk + i]?)
    (nl : ∀ (k : Nat) (x : Sl), sl[k]? = some x → x.valid = false → x.dirty = false) : VI C S sl pm (VV C S sl) := by
  have hw : ∀ (k : Nat) (x : Sl) (w : Nat), sl[k]? = some x → S.Cand 2 (1 + k) w → w = x.word := by
    intro k x w hx hc
    have := h2 _ _ hc
    rw [wd k x hx] at this
    injection this with this
    exact this.symm
  have hk : VK C S sl pm (fun _ _ => True) := by
    refine ⟨hea, n2, n1, ch, uq, wh, fun v hv => ?_, fun k x w hx hc => ?_, fun e k x hx hv hc => ?_, fun _ _ _ _ _ _ _ _ => trivial, fun _ _ _ _ _ _ _ _ _ _ _ => trivial, fun _ _ _ _ _ => trivial⟩
    · have := h2 _ _ hv
      rw [hd] at this
      injection this with this
      exact this.symm
    · rw [hw k x w hx hc]
      rcases hv : x.valid with _ | _
      · exact .inl (word_no hv)
      · exact .inr ⟨rfl, _, word_yes hv⟩
    · have e1 := hw k x _ hx hc
      rw [word_yes hv, nd e k x hx] at e1
      have := (dwd_inj (wh k x hx hv).1 (wh k x hx hv).1 e1).2
      cases this
  exact VI.calm ⟨hk, wd, ceq, nl⟩ h0 h1 h2

/-- What is given up at Open. -/
theorem bg1_spec (md : Int) (R : RV) (hm : R.m.length = R.x.sl.length + 1) (k : Nat) (hk : k ≤ R.x.sl.length) :
    (R.bg1 md k).o = R.o ∧ (R.bg1 md k).f = R.f ∧ (R.bg1 md k).x.clk = R.x.clk ∧ (R.bg1 md k).x.ms = R.x.ms ∧ (R.bg1 md k).x.sl.length = R.x.sl.length ∧ (R.bg1 md k).m.length = R.m.length ∧ (R.bg1 md k).m[0]? = R.m[0]? ∧
    ∀ (j : Nat) (y : Sl), R.x.sl[j]? = some y → (R.bg1 md k).x.sl[j]? = some (if j < k ∧ gone md y = true then nilS else y) ∧ (R.bg1 md k).m[1 + j]? = if j < k ∧ gone md y = true then some 0 else R.m[1 + j]? := by
  induction k with
  | zero =>
    refine ⟨rfl, rfl, rfl, rfl, rfl, rfl, rfl, fun j y hy => ?_⟩
    rw [if_neg (by omega), if_neg (by omega)]
    exact ⟨hy, rfl⟩
  | succ k ih =>
    obtain ⟨i1, i2, i3, i4, i5, i6, i7, i8⟩ := ih (by omega)
    obtain ⟨y, hy⟩ : ∃ y, R.x.sl[k]? = some y := ⟨_, List.getElem?_eq_getElem (by omega)⟩
    have hky := (i8 k y hy).1
    rw [if_neg (by omega)] at hky
    rw [RV.bg1, CS.at_eq hky]
    by_cases hg : gone md y = true
    · rw [if_pos hg]
      refine ⟨i1, i2, i3, i4, by show (List.set _ _ _).length = _; rw [List.length_set]; exact i5, by show (List.set _ _ _).length = _; rw [List.length_set]; exact i6, by show (List.set _ _ _)[0]? = _; rw [List.getElem?_set_ne (by omega)]; exact i7, fun j z hz => ?_⟩
      obtain ⟨a1, a2⟩ := i8 j z hz
      by_cases e : j = k
      · subst e
        rw [hy] at hz
        injection hz with hz
        subst hz
        rw [if_pos ⟨by omega, hg⟩, if_pos ⟨by omega, hg⟩]
        exact ⟨List.getElem?_set_self (by rw [i5]; omega), List.getElem?_set_self (by rw [i6]; omega)⟩
      · have e1 : (j < k + 1) ↔ (j < k) := by omega
        simp only [e1]
        refine ⟨?_, ?_⟩
        · show (List.set _ _ _)[j]? = _
          rw [List.getElem?_set_ne (fun e' => e e'.symm)]
          exact a1
        · show (List.set _ _ _)[1 + j]? = _
          rw [List.getElem?_set_ne (by omega)]
          exact a2
    · rw [if_neg hg]
      refine ⟨i1, i2, i3, i4, i5, i6, i7, fun j z hz => ?_⟩
      obtain ⟨a1, a2⟩ := i8 j z hz
      by_cases e : j = k
      · subst e
        rw [hy] at hz
        injection hz with hz
        subst hz
        rw [if_neg (fun e => by omega)] at a1 a2
        rw [if_neg (fun e => hg e.2), if_neg (fun e => hg e.2)]
        exact ⟨a1, a2⟩
      · have e1 : (j < k + 1) ↔ (j < k) := by omega
        simp only [e1]
        exact ⟨a1, a2⟩

/-- A slot that was written back. -/
def cleaned (y : Sl) : Sl := { y with dirty := false }
/-- What is written back at Open. -/
theorem bg3_spec (c n0 : Nat) (hc : 1 ≤ c) (R : RV) (hm : R.m.length = R.x.sl.length + 1) (ho : R.o.length = n0) (hf : R.x.sl.length * c ≤ R.f.length)
    (hnl : ∀ (j : Nat) (y : Sl), R.x.sl[j]? = some y → y.dirty = true → y.valid = true) (hwh : ∀ (j : Nat) (y : Sl), R.x.sl[j]? = some y → y.valid = true → 0 ≤ y.block ∧ y.block.toNat * c + c ≤ n0)
    (huq : ∀ (i j : Nat) (x y : Sl), R.x.sl[i]? = some x → R.x.sl[j]? = some y → x.valid = true → y.valid = true → x.block = y.block → i = j) (hwd : ∀ (j : Nat) (y : Sl), R.x.sl[j]? = some y → R.m[1 + j]? = some y.word) (k : Nat) (hk : k ≤ R.x.sl.length) :
    (R.bg3 c k).f = R.f ∧ (R.bg3 c k).x.clk = R.x.clk ∧ (R.bg3 c k).x.ms = R.x.ms ∧ (R.bg3 c k).x.sl.length = R.x.sl.length ∧ (R.bg3 c k).m.length = R.m.length ∧ (R.bg3 c k).o.length = n0 ∧
    (∀ (j : Nat) (y : Sl), R.x.sl[j]? = some y → (R.bg3 c k).x.sl[j]? = some (if j < k then cleaned y else y) ∧ (R.bg3 c k).m[1 + j]? = some (if j < k then (cleaned y).word else y.word)) ∧
    (∀ (j : Nat) (y : Sl) (i : Nat), R.x.sl[j]? = some y → y.valid = true → y.dirty = true → j < k → i < c → (R.bg3 c k).o[y.block.toNat * c + i]? = R.f[j * c + i]?) ∧
    (∀ a, (∀ (j : Nat) (y : Sl), R.x.sl[j]? = some y → y.valid = true → y.dirty = true → ¬ (y.block.toNat * c ≤ a ∧ a < y.block.toNat * c + c)) → (R.bg3 c k).o[a]? = R.o[a]?) := by
  induction k with
  | zero =>
    refine ⟨rfl, rfl, rfl, rfl, rfl, ho, fun j y hy => ?_, fun j y i _ _ _ hj => by omega, fun _ _ => rfl⟩
    rw [if_neg (by omega), if_neg (by omega)]
    exact ⟨hy, hwd j y hy⟩
  | succ k ih =>
    obtain ⟨i1, i2, i3, i4, i5, i6, i7, i8, i9⟩ := ih (by omega)
    obtain ⟨y, hy⟩ : ∃ y, R.x.sl[k]? = some y := ⟨_, List.getElem?_eq_getElem (by omega)⟩
    have hky := (i7 k y hy).1
    rw [if_neg (by omega)] at hky
    rw [RV.bg3, CS.at_eq hky]
    have hsplit : ∀ (j : Nat) (z : Sl), R.x.sl[j]? = some z → j ≠ k → ((if j < k + 1 then cleaned z else z) = if j < k then cleaned z else z) ∧ ((if j < k + 1 then (cleaned z).word else z.word) = if j < k then (cleaned z).word else z.word) := by
      intro j z _ e
      have e1 : (j < k + 1) ↔ (j < k) := by omega
      simp only [e1]
      exact ⟨trivial, trivial⟩
    rcases hd : y.dirty with _ | _
    · rw [if_neg (by simp)]
      have hcy : cleaned y = y := by
        obtain ⟨yv, yd, yb, ys⟩ := y
        obtain rfl : yd = false := hd
        rfl
      refine ⟨i1, i2, i3, i4, i5, i6, fun j z hz => ?_, fun j z i hz hzv hzd hj hi => ?_, i9⟩
      · by_cases e : j = k
        · subst e
          rw [hy] at hz
          injection hz with hz
          subst hz
          have := i7 j y hy
          rw [if_neg (by omega), if_neg (by omega)] at this
          rw [if_pos (by omega), if_pos (by omega), hcy]
          exact this
        · obtain ⟨e1, e2⟩ := hsplit j z hz e
          rw [e1, e2]
          exact i7 j z hz
      · by_cases e : j = k
        · subst e
          rw [hy] at hz
          injection hz with hz
          subst hz
          rw [hd] at hzd
          cases hzd
        · exact i8 j z i hz hzv hzd (by omega) hi
    · rw [if_pos rfl]
      have hv := hnl k y hy hd
      obtain ⟨hb0, hbn⟩ := hwh k y hy hv
      have hkf : k * c + c ≤ R.f.length := by
        have := Nat.mul_le_mul_right c (show k + 1 ≤ R.x.sl.length by omega)
        rw [Nat.add_mul, Nat.one_mul] at this
        omega
      have hsd : ((R.bg3 c k).x.setD k false) = ⟨(R.bg3 c k).x.sl.set k (cleaned y), (R.bg3 c k).x.clk, (R.bg3 c k).x.ms⟩ := by unfold CS.setD; rw [CS.at_eq hky]; rfl
      have hbk : (R.bg3 c k).back c k true = ⟨cpL (R.bg3 c k).o (y.block.toNat * c) R.f (k * c) c, R.f, (R.bg3 c k).m.set (1 + k) (cleaned y).word, ⟨(R.bg3 c k).x.sl.set k (cleaned y), (R.bg3 c k).x.clk, (R.bg3 c k).x.ms⟩⟩ := by
        unfold RV.back
        rw [CS.at_eq hky, hsd, at_set (by rw [i4]; omega), i1]
        rfl
      rw [hbk]
      refine ⟨rfl, i2, i3, by show (List.set _ _ _).length = _; rw [List.length_set]; exact i4, by show (List.set _ _ _).length = _; rw [List.length_set]; exact i5, by show (cpL _ _ _ _ _).length = _; rw [cpL_length]; exact i6, fun j z hz => ?_, fun j z i hz hzv hzd hj hi => ?_, fun a ha => ?_⟩
      · by_cases e : j = k
        · subst e
          rw [hy] at hz
          injection hz with hz
          subst hz
          rw [if_pos (by omega), if_pos (by omega)]
          exact ⟨List.getElem?_set_self (by rw [i4]; omega), List.getElem?_set_self (by rw [i5]; omega)⟩
        · obtain ⟨e1, e2⟩ := hsplit j z hz e
          rw [e1, e2]
          obtain ⟨a1, a2⟩ := i7 j z hz
          refine ⟨?_, ?_⟩
          · show (List.set _ _ _)[j]? = _
            rw [List.getElem?_set_ne (fun e' => e e'.symm)]
            exact a1
          · show (List.set _ _ _)[1 + j]? = _
            rw [List.getElem?_set_ne (by omega)]
            exact a2
      · show (cpL _ _ _ _ _)[_]? = _
        rw [cpL_at, i6]
        by_cases e : j = k
        · subst e
          rw [hy] at hz
          injection hz with hz
          subst hz
          rw [if_pos ⟨by omega, by omega, by omega⟩, show y.block.toNat * c + i - y.block.toNat * c = i by omega, List.getElem?_eq_getElem (by omega)]
          rfl
        · rw [if_neg]
          · exact i8 j z i hz hzv hzd (by omega) hi
          · rintro ⟨q1, q2, -⟩
            obtain ⟨hzb, -⟩ := hwh j z hz hzv
            have hdiv : z.block.toNat * c + i = y.block.toNat * c + (z.block.toNat * c + i - y.block.toNat * c) := by omega
            obtain ⟨eb, -⟩ := blk_eq hi (by omega) hdiv
            exact e (huq j k z y hz hy hzv hv (by omega))
      · show (cpL _ _ _ _ _)[_]? = _
        rw [cpL_at, if_neg]
        · exact i9 a ha
        · rintro ⟨q1, q2, -⟩
          exact ha k y hy hv hd ⟨q1, q2⟩

end Go.Proofs.YtogchafnnkajfaaGreat

namespace Go.Proofs.YtogchafnnkajfaaGreat
set_option linter.unusedVariables false

section
variable {C : VC} {V : VS}
theorem bg1_stl (h : NB C V) (hs : ∀ j, j < 2 → Stl V.S j) (k : Nat) (hk : k ≤ V.x.sl.length) : ∀ j, j < 2 → Stl (V.bg1 C k).S j := by
  induction k with
  | zero => exact hs
  | succ k ih =>
    obtain ⟨i1, i2, i3, i4⟩ := h.bg1 k (by omega)
    rw [VS.bg1]
    split
    · intro j hj
      exact (i1.nf.st k (by have := i1.n2; omega) nilS).2.2.2.2.2 j (by omega) (ih (by omega) j hj)
    · exact ih (by omega)
theorem bg3_stl (h : NB C V) (hs : ∀ j, j < 2 → Stl V.S j) (k : Nat) (hk : k ≤ V.x.sl.length) : ∀ j, j < 2 → Stl (V.bg3 C k).S j := by
  induction k with
  | zero => exact hs
  | succ k ih =>
    obtain ⟨i1, i2, i3, i4⟩ := h.bg3 k (by omega)
    obtain ⟨x, hx⟩ : ∃ x, (V.bg3 C k).x.sl[k]? = some x := ⟨_, List.getElem?_eq_getElem (by omega)⟩
    rw [VS.bg3, CS.at_eq hx]
    split
    · rename_i hd
      have hv := i1.dirty hx hd
      intro j hj
      exact (i1.nf.cl hx (by have := i1.n2; omega) (i1.fast hx) (i1.wh k x hx hv)).2.2.2.2.2 j (by omega) (ih (by omega) j hj)
    · exact ih (by omega)
theorem bgn_stl (h : NB C V) (hs : ∀ j, j < 2 → Stl V.S j) (mode : Int) : ∀ i, i < 3 → Stl (V.bgn C mode).S i := by
  have hA : ∀ j, j < 2 → Stl (V.bgA C).S j := by
    unfold VS.bgA
    split
    · intro j hj
      exact (bg1_stl h hs _ (Nat.le_refl _) j hj).shr ((h.bg1 _ (Nat.le_refl _)).1.nf.fl (i := 2) (n := C.n2) rfl).2.2.1
    · exact hs
  obtain ⟨a1, a2, a3, a4⟩ := h.bgA
  have hB : ∀ j, j < 2 → Stl (V.bgB C mode).S j := by
    unfold VS.bgB
    split
    · exact bg3_stl a1 hA _ (Nat.le_refl _)
    · exact hA
  obtain ⟨b1, b2, b3, b4⟩ := h.bgB mode
  obtain ⟨f1, f2, f3, f4, f5, f6, f7⟩ := b1.nf.first (by have := h.n2; omega) (hdI (V.bgB C mode).ss.length (C.chunk : Int) mode true)
  intro i hi
  by_cases e : i = 2
  · subst e; exact f6
  · exact (f7 i e).1 (hB i (by omega))
end

/-- A slot as Open keeps it. -/
def kept (md : Int) (op : Bool) (y : Sl) : Sl := if op = true ∧ gone md y = true then nilS else y
theorem kept_valid {md : Int} {op : Bool} {y : Sl} (h : (kept md op y).valid = true) : kept md op y = y ∧ ¬ (op = true ∧ gone md y = true) := by
  unfold kept at h ⊢
  split
  · rename_i hg
    rw [if_pos hg] at h
    cases h
  · rename_i hg
    exact ⟨rfl, hg⟩

/-- What is opened is sound. -/
theorem opn_vi {C : VC} {S : DS} {mode : Int} (hm : mode = 1 ∨ mode = 2) (h : NF C S) (hs : ∀ i, i < 3 → Stl S i) (he : openE (S.now 2) = 0) (hC : C.chunk = opC (S.now 2)) (h1 : ¬ C.n1 < opK (S.now 2) * opC (S.now 2)) (hb : badS (slotsU (S.now 2) (opK (S.now 2))) (C.n0 / opC (S.now 2)) = false) (hn2 : C.n2 = opK (S.now 2) + 1)
    (hceq : ∀ (j : Nat) (y : Sl) (i : Nat), (slotsU (S.now 2) (opK (S.now 2)))[j]? = some y → ¬ (opO (S.now 2) = true ∧ gone (opM (S.now 2)) y = true) → y.valid = true → y.dirty = false → i < C.chunk → (S.now 1)[j * C.chunk + i]? = (S.now 0)[y.block.toNat * C.chunk + i]?) :
    VI C ((opn0 S mode).bgn C mode).S ((opn0 S mode).bgn C mode).x.sl (decide (mode = 2)) (VV C ((opn0 S mode).bgn C mode).S ((opn0 S mode).bgn C mode).x.sl) ∧
    (∀ a v, VV C ((opn0 S mode).bgn C mode).S ((opn0 S mode).bgn C mode).x.sl a v → VV C S ((slotsU (S.now 2) (opK (S.now 2))).map (kept (opM (S.now 2)) (opO (S.now 2)))) a v) := by
  obtain ⟨o1, o2, o3, o4, o5⟩ := open_cs (S.now 2) he
  have hl := slotsU_length (S.now 2) (opK (S.now 2))
  have hNB := opn_nb (mode := mode) h he hC h1 hb
  obtain ⟨f1, f2, f3, f4⟩ := h.fl (i := 2) (n := C.n2) rfl
  have hst := bgn_stl hNB (fun j hj => (hs j (by omega)).shr f3) mode
  obtain ⟨b1, b2, b3, b4, b5, b6, b7, b8⟩ := hNB.bgn mode
  have hv0 : view (opn0 S mode) = ⟨S.now 0, S.now 1, S.now 2, ⟨slotsU (S.now 2) (opK (S.now 2)), 0, []⟩⟩ := by
    unfold view opn0
    dsimp only
    rw [show ((2 : Int)) = ((2 : Nat) : Int) from rfl, f3.now, f3.now, f3.now]
  rw [hv0] at b2
  have hmd : (opn0 S mode).md = opM (S.now 2) := rfl
  have hop : (opn0 S mode).op = opO (S.now 2) := rfl
  rw [hmd, hop] at b2
  have hl0 := (h.hea.nn 0 C.n0 rfl).1
  have hl1 := (h.hea.nn 1 C.n1 rfl).1
  have hl2 := (h.hea.nn 2 C.n2 rfl).1
  have hxl : (opn0 S mode).x.sl.length = opK (S.now 2) := hl
  rw [hxl] at b5
  have hwh0 := hNB.wh
  change ∀ (k : Nat) (x : Sl), (slotsU (S.now 2) (opK (S.now 2)))[k]? = some x → x.valid = true → x.block.toNat * C.chunk + C.chunk ≤ C.n0 at hwh0
  have hwd0 : ∀ (j : Nat) (y : Sl), (slotsU (S.now 2) (opK (S.now 2)))[j]? = some y → (S.now 2)[1 + j]? = some y.word := by
    intro j y hy
    have hj := (List.getElem?_eq_some_iff.1 hy).1
    rw [hl] at hj
    rw [slotsU_at _ _ j hj] at hy
    injection hy with hy
    rw [← hy]
    exact o5 j hj
  rw [← hC] at h1 o3
  generalize (opn0 S mode).bgn C mode = V at *
  generalize slotsU (S.now 2) (opK (S.now 2)) = ys at *
  generalize opK (S.now 2) = K at *
  generalize opM (S.now 2) = md at *
  generalize opO (S.now 2) = op at *
  -- the first part: what is given up
  have hA : ∃ R1 : RV, RV.bgA md op ⟨S.now 0, S.now 1, S.now 2, ⟨ys, 0, []⟩⟩ = R1 ∧ R1.o = S.now 0 ∧ R1.f = S.now 1 ∧ R1.x.sl.length = K ∧ R1.m.length = C.n2 ∧ ∀ (j : Nat) (y : Sl), ys[j]? = some y → R1.x.sl[j]? = some (kept md op y) ∧ R1.m[1 + j]? = some (kept md op y).word := by
    refine ⟨_, rfl, ?_⟩
    unfold RV.bgA
    cases op
    · rw [if_neg (by simp)]
      refine ⟨rfl, rfl, hl, hl2, fun j y hy => ?_⟩
      have e : kept md false y = y := by unfold kept; rw [if_neg (by simp)]
      rw [e]
      exact ⟨hy, hwd0 j y hy⟩
    · rw [if_pos rfl]
      obtain ⟨g1, g2, g3, g4, g5, g6, g7, g8⟩ := bg1_spec md ⟨S.now 0, S.now 1, S.now 2, ⟨ys, 0, []⟩⟩ (by show (S.now 2).length = ys.length + 1; omega) ys.length (Nat.le_refl _)
      refine ⟨g1, g2, g5.trans hl, g6.trans hl2, fun j y hy => ?_⟩
      have hj := (List.getElem?_eq_some_iff.1 hy).1
      obtain ⟨a1, a2⟩ := g8 j y hy
      have ek : kept md true y = if gone md y = true then nilS else y := by unfold kept; simp
      by_cases hg : gone md y = true
      · rw [if_pos ⟨hj, hg⟩] at a1 a2
        rw [ek, if_pos hg]
        exact ⟨a1, a2⟩
      · rw [if_neg (fun e => hg e.2)] at a1 a2
        rw [ek, if_neg hg]
        exact ⟨a1, a2.trans (hwd0 j y hy)⟩
  obtain ⟨R1, hR1, hR1o, hR1f, hR1l, hR1m, hR1s⟩ := hA
  -- a slot of R1 is a kept one
  have hR1g : ∀ (j : Nat) (z : Sl), R1.x.sl[j]? = some z → ∃ y, ys[j]? = some y ∧ z = kept md op y := by
    intro j z hz
    have hj := (List.getElem?_eq_some_iff.1 hz).1
    obtain ⟨y, hy⟩ : ∃ y, ys[j]? = some y := ⟨_, List.getElem?_eq_getElem (by omega)⟩
    have := (hR1s j y hy).1
    rw [hz] at this
    injection this with this
    exact ⟨y, hy, this⟩
  have hR1v : ∀ (j : Nat) (z : Sl), R1.x.sl[j]? = some z → z.valid = true → ys[j]? = some z ∧ ¬ (op = true ∧ gone md z = true) := by
    intro j z hz hv
    obtain ⟨y, hy, rfl⟩ := hR1g j z hz
    obtain ⟨e1, e2⟩ := kept_valid hv
    rw [e1]
    exact ⟨hy, e2⟩
  have hynl : ∀ (j : Nat) (y : Sl), ys[j]? = some y → y.valid = false → y = nilS := fun j y hy hv => o1.nl y (List.mem_of_getElem? hy) hv
  have hR1d : ∀ (j : Nat) (z : Sl), R1.x.sl[j]? = some z → z.dirty = true → z.valid = true := by
    intro j z hz hd
    obtain ⟨y, hy, rfl⟩ := hR1g j z hz
    unfold kept at hd ⊢
    split
    · rename_i hg
      rw [if_pos hg] at hd
      cases hd
    · rename_i hg
      rw [if_neg hg] at hd
      rcases hv : y.valid with _ | _
      · rw [hynl j y hy hv] at hd
        cases hd
      · rfl
  have hyb : ∀ (j : Nat) (y : Sl), ys[j]? = some y → y.valid = true → 0 ≤ y.block ∧ y.block ≤ 16777215 := fun j y hy hv => (o1.blk y (List.mem_of_getElem? hy) hv).1
  have hyu : ∀ (i j : Nat) (x y : Sl), ys[i]? = some x → ys[j]? = some y → x.valid = true → y.valid = true → x.block = y.block → i = j := o1.uq
  have hR1u : ∀ (i j : Nat) (x y : Sl), R1.x.sl[i]? = some x → R1.x.sl[j]? = some y → x.valid = true → y.valid = true → x.block = y.block → i = j := by
    intro i j x y hx hy hxv hyv e
    exact hyu i j x y (hR1v i x hx hxv).1 (hR1v j y hy hyv).1 hxv hyv e
  have hR1wd : ∀ (j : Nat) (z : Sl), R1.x.sl[j]? = some z → R1.m[1 + j]? = some z.word := by
    intro j z hz
    obtain ⟨y, hy, rfl⟩ := hR1g j z hz
    exact (hR1s j y hy).2
  -- the second part: what is written back
  have hB : ∃ R2 : RV, RV.bgB C.chunk md op mode ⟨S.now 0, S.now 1, S.now 2, ⟨ys, 0, []⟩⟩ = R2 ∧ R2.f = S.now 1 ∧ R2.x.sl.length = K ∧ R2.m.length = C.n2 ∧ R2.o.length = C.n0 ∧
      (∀ (j : Nat) (z : Sl), R2.x.sl[j]? = some z → ∃ z1, R1.x.sl[j]? = some z1 ∧ z.valid = z1.valid ∧ z.block = z1.block ∧ (mode = 1 → z.dirty = false) ∧ R2.m[1 + j]? = some z.word ∧ (z.valid = false → z.dirty = false)) ∧
      (∀ (j : Nat) (z1 : Sl), R1.x.sl[j]? = some z1 → ∃ z, R2.x.sl[j]? = some z ∧ z.valid = z1.valid ∧ z.block = z1.block) ∧
      (∀ (j : Nat) (z : Sl) (i : Nat), R2.x.sl[j]? = some z → z.valid = true → z.dirty = false → i < C.chunk → R2.o[z.block.toNat * C.chunk + i]? = (S.now 1)[j * C.chunk + i]?) ∧
      (∀ a, (∀ (j : Nat) (z : Sl), R1.x.sl[j]? = some z → z.valid = true → ¬ (z.block.toNat * C.chunk ≤ a ∧ a < z.block.toNat * C.chunk + C.chunk)) → R2.o[a]? = (S.now 0)[a]?) := by
    refine ⟨_, rfl, ?_⟩
    unfold RV.bgB
    rw [hR1]
    rcases hm with rfl | rfl
    · rw [if_pos rfl]
      obtain ⟨g1, g2, g3, g4, g5, g6, g7, g8, g9⟩ := bg3_spec C.chunk C.n0 o3 R1 (by omega) (by rw [hR1o]; exact hl0) (by rw [hR1l, hR1f, hl1]; omega) hR1d (fun j z hz hv => ⟨(hyb j z (hR1v j z hz hv).1 hv).1, hwh0 j z (hR1v j z hz hv).1 hv⟩) hR1u hR1wd R1.x.sl.length (Nat.le_refl _)
      refine ⟨g1.trans hR1f, g4.trans hR1l, g5.trans hR1m, g6, ?_, ?_, ?_, ?_⟩
      · intro j z hz
        have hj := (List.getElem?_eq_some_iff.1 hz).1
        rw [g4] at hj
        obtain ⟨z1, hz1⟩ : ∃ z1, R1.x.sl[j]? = some z1 := ⟨_, List.getElem?_eq_getElem hj⟩
        obtain ⟨a1, a2⟩ := g7 j z1 hz1
        rw [if_pos hj] at a1 a2
        rw [hz] at a1
        injection a1 with a1
        subst a1
        exact ⟨z1, hz1, rfl, rfl, fun _ => rfl, a2, fun _ => rfl⟩
      · intro j z1 hz1
        have hj := (List.getElem?_eq_some_iff.1 hz1).1
        obtain ⟨a1, -⟩ := g7 j z1 hz1
        rw [if_pos hj] at a1
        exact ⟨_, a1, rfl, rfl⟩
      · intro j z i hz hv hd hi
        have hj := (List.getElem?_eq_some_iff.1 hz).1
        rw [g4] at hj
        obtain ⟨z1, hz1⟩ : ∃ z1, R1.x.sl[j]? = some z1 := ⟨_, List.getElem?_eq_getElem hj⟩
        obtain ⟨a1, a2⟩ := g7 j z1 hz1
        rw [if_pos hj] at a1
        rw [hz] at a1
        injection a1 with a1
        subst a1
        have hv1 : z1.valid = true := hv
        obtain ⟨hy1, hk1⟩ := hR1v j z1 hz1 hv1
        show (R1.bg3 C.chunk R1.x.sl.length).o[z1.block.toNat * C.chunk + i]? = _
        rcases hzd : z1.dirty with _ | _
        · rw [hceq j z1 i hy1 hk1 hv1 hzd hi, ← hR1o]
          refine g9 _ (fun j2 z2 hz2 hv2 hd2 => ?_)
          rintro ⟨q1, q2⟩
          obtain ⟨hy2, -⟩ := hR1v j2 z2 hz2 hv2
          have h2 := hyb j2 z2 hy2 hv2
          have h1' := hyb j z1 hy1 hv1
          have hdiv : z1.block.toNat * C.chunk + i = z2.block.toNat * C.chunk + (z1.block.toNat * C.chunk + i - z2.block.toNat * C.chunk) := by omega
          obtain ⟨eb, -⟩ := blk_eq hi (by omega) hdiv
          have := hR1u j j2 z1 z2 hz1 hz2 hv1 hv2 (by omega)
          subst this
          rw [hz1] at hz2
          injection hz2 with hz2
          subst hz2
          rw [hzd] at hd2
          cases hd2
        · rw [g8 j z1 i hz1 hv1 hzd hj hi, hR1f]
      · intro a ha
        rw [← hR1o]
        exact g9 a (fun j z hz hv _ => ha j z hz hv)
    · rw [if_neg (by decide)]
      refine ⟨hR1f, hR1l, hR1m, by rw [hR1o]; exact hl0, ?_, ?_, ?_, fun a _ => by rw [hR1o]⟩
      · intro j z hz
        refine ⟨z, hz, rfl, rfl, fun e => by omega, hR1wd j z hz, fun hv => ?_⟩
        rcases hd : z.dirty with _ | _
        · rfl
        · rw [hR1d j z hz hd] at hv
          cases hv
      · exact fun j z1 hz1 => ⟨z1, hz1, rfl, rfl⟩
      · intro j z i hz hv hd hi
        obtain ⟨hy1, hk1⟩ := hR1v j z hz hv
        rw [hR1o]
        exact (hceq j z i hy1 hk1 hv hd hi).symm
  obtain ⟨R2, hR2, q1, q2, q3, q4, q5, q6, q7, q8⟩ := hB
  unfold RV.bgn at b2
  rw [hR2] at b2
  unfold view at b2
  injection b2 with v0 v1 v2 v3
  dsimp only at v0 v1 v2 v3
  have hVl : V.x.sl.length = K := b5
  have hmode : (if decide (mode = 2) = true then (2 : Int) else 1) = mode := by
    rcases hm with rfl | rfl
    · rfl
    · rfl
  have hVI : VI C V.S V.x.sl (decide (mode = 2)) (VV C V.S V.x.sl) := by
    rw [v3]
    refine VI.of_stl b1.hea (hst 0 (by omega)) (hst 1 (by omega)) (hst 2 (by omega)) (by rw [q2]; exact hn2) (by rw [q2]; omega) o3 ?_ ?_ ?_ ?_ ?_ ?_ ?_
    · intro i j x y hx hy hxv hyv e
      obtain ⟨x1, hx1, e1, e2, -⟩ := q5 i x hx
      obtain ⟨y1, hy1, e3, e4, -⟩ := q5 j y hy
      exact hR1u i j x1 y1 hx1 hy1 (by rw [← e1]; exact hxv) (by rw [← e3]; exact hyv) (by rw [← e2, ← e4]; exact e)
    · intro k x hx hv
      obtain ⟨x1, hx1, e1, e2, -⟩ := q5 k x hx
      have hx1v : x1.valid = true := by rw [← e1]; exact hv
      obtain ⟨hy, -⟩ := hR1v k x1 hx1 hx1v
      rw [e2]
      exact ⟨hyb k x1 hy hx1v, hwh0 k x1 hy hx1v⟩
    · rw [v2, List.getElem?_set_self (by rw [q3, hn2]; omega), hmode]
      rw [q2]
      show some (hdI ys.length (C.chunk : Int) mode true) = _
      rw [hl]
    · intro k x hx
      obtain ⟨x1, hx1, e1, e2, e3, e4, -⟩ := q5 k x hx
      rw [v2, List.getElem?_set_ne (by omega)]
      exact e4
    · intro e k x hx
      obtain ⟨x1, hx1, e1, e2, e3, e4, -⟩ := q5 k x hx
      refine e3 ?_
      rcases hm with rfl | rfl
      · rfl
      · cases e
    · intro k x i hx hv hd hi
      rw [v1, v0, q1]
      exact (q7 k x i hx hv hd hi).symm
    · intro k x hx hv
      obtain ⟨x1, hx1, e1, e2, e3, e4, e5⟩ := q5 k x hx
      exact e5 hv
  refine ⟨hVI, fun a v hv => ?_⟩
  have hmap : ∀ (j : Nat) (z : Sl), (ys.map (kept md op))[j]? = some z ↔ R1.x.sl[j]? = some z := by
    intro j z
    rw [List.getElem?_map]
    constructor
    · intro hz
      rcases hy : ys[j]? with _ | y
      · rw [hy] at hz; cases hz
      · rw [hy] at hz
        injection hz with hz
        rw [← hz]
        exact (hR1s j y hy).1
    · intro hz
      obtain ⟨y, hy, rfl⟩ := hR1g j z hz
      rw [hy]
      rfl
  rcases hv with ⟨k, x, hx, hxv, hxb, hn⟩ | ⟨hno, hn⟩
  · rw [v3] at hx
    obtain ⟨x1, hx1, e1, e2, -⟩ := q5 k x hx
    refine .inl ⟨k, x1, (hmap k x1).2 hx1, by rw [← e1]; exact hxv, by rw [← e2]; exact hxb, ?_⟩
    rw [← q1, ← v1]
    exact hn
  · have hno1 : ∀ (j : Nat) (z : Sl), R1.x.sl[j]? = some z → z.valid = true → z.block ≠ ((a / C.chunk : Nat) : Int) := by
      intro j z hz hzv
      obtain ⟨z2, hz2, e1, e2⟩ := q6 j z hz
      rw [← e2]
      exact hno j z2 (by rw [v3]; exact hz2) (by rw [e1]; exact hzv)
    refine .inr ⟨fun j z hz hzv => hno1 j z ((hmap j z).1 hz) hzv, ?_⟩
    rw [← q8 a (fun j z hz hzv => ?_), ← v0]
    · exact hn
    · rintro ⟨g1, g2⟩
      obtain ⟨hy, -⟩ := hR1v j z hz hzv
      have hzb := hyb j z hy hzv
      refine hno1 j z hz hzv ?_
      have hdiv : a = z.block.toNat * C.chunk + (a - z.block.toNat * C.chunk) := by omega
      rw [hdiv, (blk_div (by omega)).1]
      omega

end Go.Proofs.YtogchafnnkajfaaGreat

namespace Go.Proofs.YtogchafnnkajfaaGreat
set_option linter.unusedVariables false

/-- What a sector may read behind a power failure. -/
def okT (t : List Sec) (a v : Nat) : Prop := ∃ s, t[a]? = some s ∧ v ∈ s.sm
/-- Disks with the power back, as Open finds them. -/
structure ZR (C : VC) (S : DS) (ok : Nat → Nat → Prop) : Prop where
  nf : NF C S
  st : ∀ i, i < 3 → Stl S i
  op : openE (S.now 2) = 0
  hC : C.chunk = opC (S.now 2)
  h1 : ¬ C.n1 < opK (S.now 2) * opC (S.now 2)
  hb : badS (slotsU (S.now 2) (opK (S.now 2))) (C.n0 / opC (S.now 2)) = false
  n2 : C.n2 = opK (S.now 2) + 1
  eq : ∀ (j : Nat) (y : Sl) (i : Nat), (slotsU (S.now 2) (opK (S.now 2)))[j]? = some y → ¬ (opO (S.now 2) = true ∧ gone (opM (S.now 2)) y = true) → y.valid = true → y.dirty = false → i < C.chunk → (S.now 1)[j * C.chunk + i]? = (S.now 0)[y.block.toNat * C.chunk + i]?
  v : ∀ a v, a < C.n0 → VV C S ((slotsU (S.now 2) (opK (S.now 2))).map (kept (opM (S.now 2)) (opO (S.now 2)))) a v → ok a v

theorem VV.lt {C : VC} {S : DS} {sl : List Sl} {pm : Bool} {ok : Nat → Nat → Prop} (h : VK C S sl pm ok) {a v : Nat} (hv : VV C S sl a v) : a < C.n0 := by
  rcases hv with ⟨k, x, hx, hxv, hb, -⟩ | ⟨-, hn⟩
  · have h2 := (h.wh k x hx hxv).2
    rw [toNat_blk hb] at h2
    have := blk_at a C.chunk h.ch
    omega
  · have := (List.getElem?_eq_some_iff.1 hn).1
    rw [h.lens.1] at this
    exact this
/-- Behind Open. -/
theorem ZR.opened {C : VC} {S : DS} {ok : Nat → Nat → Prop} (h : ZR C S ok) {mode : Int} (hm : mode = 1 ∨ mode = 2) :
    VI C ((opn0 S mode).bgn C mode).S ((opn0 S mode).bgn C mode).x.sl (decide (mode = 2)) (VV C ((opn0 S mode).bgn C mode).S ((opn0 S mode).bgn C mode).x.sl) ∧
    (∀ a v, VV C ((opn0 S mode).bgn C mode).S ((opn0 S mode).bgn C mode).x.sl a v → ok a v) ∧ NF C ((opn0 S mode).bgn C mode).S ∧ ((opn0 S mode).bgn C mode).x.Ok ∧ ((opn0 S mode).bgn C mode).x.sl.length = ((opn0 S mode).bgn C mode).ss.length ∧ ((opn0 S mode).bgn C mode).pm = decide (mode = 2) ∧ ((opn0 S mode).bgn C mode).closed = false ∧
    ((opn0 S mode).bgn C mode).S.log.length ≤ S.log.length + opK (S.now 2) * (C.chunk + 2) + 1 ∧ ((opn0 S mode).bgn C mode).S.wr ≤ S.wr + (opK (S.now 2) * (C.chunk + 2) : Nat) + 1 ∧ ((opn0 S mode).bgn C mode).x.clk ≤ 0 ∧ opnE (S.now 2) C.n0 C.n1 mode = 0 := by
  have hNB := opn_nb (mode := mode) h.nf h.op h.hC h.h1 h.hb
  obtain ⟨v1, v2⟩ := opn_vi hm h.nf h.st h.op h.hC h.h1 h.hb h.n2 h.eq
  obtain ⟨b1, b2, b3, b4, b5, b6, b7, b8⟩ := hNB.bgn mode
  obtain ⟨c1, c2, c3, c4⟩ := hNB.bgB mode
  have hl : (opn0 S mode).x.sl.length = opK (S.now 2) := slotsU_length _ _
  rw [hl] at c4
  have hfl := flush_log S 2
  have h0 : (opn0 S mode).S = S.flush 2 := rfl
  have hcl := c4.log
  have hcw := c4.wr
  rw [h0] at hcl hcw
  refine ⟨v1, fun a v hv => h.v a v (VV.lt v1.k hv) (v2 a v hv), b1, b3, b4, b6, b7, ?_, ?_, ?_, ?_⟩
  · have hf : ((opn0 S mode).bgn C mode).S.log.length ≤ ((opn0 S mode).bgB C mode).S.log.length + 1 := by
      show (DS.first _ 2 C.n2 _).log.length ≤ _
      unfold DS.first
      split
      · exact swrite_log _ _ _ _ _
      · exact Nat.le_trans (flush_log _ _).1 (swrite_log _ _ _ _ _)
    omega
  · have hf : ((opn0 S mode).bgn C mode).S.wr ≤ ((opn0 S mode).bgB C mode).S.wr + 1 := by
      show (DS.first _ 2 C.n2 _).wr ≤ _
      unfold DS.first
      split
      · exact swrite_wr _ _ _ _ _
      · rw [(flush_log _ _).2]; exact swrite_wr _ _ _ _ _
    rw [hfl.2] at hcw
    omega
  · rw [b8]
    have := c4.clk
    have h1 : (opn0 S mode).x.clk = 0 := rfl
    omega
  · unfold opnE
    rw [if_neg (by omega), if_neg (fun e => e h.op), if_neg h.h1, if_neg (by rw [h.hb]; simp)]

end Go.Proofs.YtogchafnnkajfaaGreat

namespace Go.Proofs.YtogchafnnkajfaaGreat
set_option linter.unusedVariables false

/-- An open volume, and what is known of its sectors. -/
structure DR (C : VC) (V : VS) (t : List Sec) (k : Bool) : Prop where
  ok : V.x.Ok
  len : V.x.sl.length = V.ss.length
  clo : V.closed = false
  n2 : V.x.sl.length + 1 = C.n2
  ch : 1 ≤ C.chunk
  tl : t.length = C.n0
  st : (V.S.down = false ∧ VI C V.S V.x.sl V.pm (okT t) ∧ (∀ a s, t[a]? = some s → s.kn = true → VV C V.S V.x.sl a s.val) ∧ (k = true → V.S.fuse = 0 ∧ VI C V.S V.x.sl V.pm (VV C V.S V.x.sl))) ∨
    (k = false ∧ V.S.down = true ∧ Hea V.S [C.n0, C.n1, C.n2] ∧ ∃ sl, VK C V.S sl V.pm (okT t))

theorem okT_set {t : List Sec} {a : Nat} {x : Sec} {b v : Nat} (hb : b ≠ a) : okT (t.set a x) b v ↔ okT t b v := by
  unfold okT
  rw [List.getElem?_set_ne (fun e => hb e.symm)]
theorem okT_set_self {t : List Sec} {a : Nat} {x : Sec} {v : Nat} (ha : a < t.length) : okT (t.set a x) a v ↔ v ∈ x.sm := by
  unfold okT
  rw [List.getElem?_set_self ha]
  constructor
  · rintro ⟨s, hs, hv⟩
    injection hs with hs
    subst hs
    exact hv
  · exact fun h => ⟨x, rfl, h⟩
theorem okT_at {t : List Sec} {a v : Nat} (ha : a < t.length) : okT t a v ↔ v ∈ (tAt t a).sm := by
  unfold okT
  rw [List.getElem?_eq_getElem ha, tAt_eq (List.getElem?_eq_getElem ha)]
  constructor
  · rintro ⟨s, hs, hv⟩
    injection hs with hs
    subst hs
    exact hv
  · exact fun h => ⟨_, rfl, h⟩
theorem okT_wrote {t : List Sec} {a v : Nat} {d : Bool} (ha : a < t.length) (b u : Nat) : okT (tWrote t a v d) b u ↔ okT t b u ∨ (b = a ∧ u = v) := by
  unfold tWrote
  by_cases e : b = a
  · subst e
    rw [okT_set_self ha, okT_at ha]
    show u ∈ (tAt t b).sm ++ [v] ↔ _
    rw [List.mem_append, List.mem_singleton]
    constructor
    · rintro (h | h)
      · exact .inl h
      · exact .inr ⟨rfl, h⟩
    · rintro (h | ⟨-, h⟩)
      · exact .inl h
      · exact .inr h
  · rw [okT_set e]
    constructor
    · exact .inl
    · rintro (h | ⟨h, -⟩)
      · exact h
      · exact absurd h e

section
variable {C : VC} {V : VS} {t : List Sec} {k : Bool}
theorem DR.vk (h : DR C V t k) : ∃ sl pm, VK C V.S sl pm (okT t) := by
  rcases h.st with ⟨-, h, -⟩ | ⟨-, -, -, sl, h⟩
  · exact ⟨_, _, h.k⟩
  · exact ⟨_, _, h⟩

/-- What slot leaves where the power is away. -/
theorem slt_down {a : Nat} (hh : Hea V.S [C.n0, C.n1, C.n2]) (hd : V.S.down = true) (hok : V.x.Ok) (hn2 : V.x.sl.length + 1 = C.n2) (hc : 1 ≤ C.chunk) (ha : a < C.n0) (hn0 : C.n0 ≤ 65536) (hn1 : V.x.sl.length * C.chunk ≤ C.n1) :
    (V.slt C a).2.2.S = V.S ∧ ((V.slt C a).2.1 = 0 ∨ (V.slt C a).2.1 = 5) := by
  have hbl := Nat.div_le_self a C.chunk
  unfold VS.slt
  generalize a / C.chunk = b at *
  split
  · exact ⟨rfl, .inl rfl⟩
  · split
    · exact ⟨rfl, .inl rfl⟩
    · rename_i hf
      have hfn := find_neg hf
      obtain ⟨m1, m2, m3, m4⟩ := miss_facts V.x (b : Int)
      have hok1 := hok.miss (b : Int) (by omega) hfn
      split
      · exact ⟨rfl, .inl rfl⟩
      · obtain ⟨k, x, hvk, hxk⟩ := victim_at hok1
        have hP : ({ V with x := (V.x.miss (b : Int)).1 } : VS).prm C b = ({ V with x := (V.x.miss (b : Int)).1 } : VS).p7 C k x b := by
          unfold VS.prm
          dsimp only
          rw [hvk, Int.toNat_natCast, CS.at_eq hxk]
        dsimp only
        rw [hP]
        have hkl : k < V.x.sl.length := by
          have := (List.getElem?_eq_some_iff.1 hxk).1
          rw [m1] at this
          exact this
        have hkf : k * C.chunk + C.chunk ≤ C.n1 := by
          have := Nat.mul_le_mul_right C.chunk (show k + 1 ≤ V.x.sl.length by omega)
          rw [Nat.add_mul, Nat.one_mul] at this
          omega
        have hV1 : ({ V with x := (V.x.miss (b : Int)).1 } : VS).S = V.S := rfl
        generalize ({ V with x := (V.x.miss (b : Int)).1 } : VS) = V1 at *
        rw [← hV1] at hh hd ⊢
        -- the first thing
        have h1 : (V1.p1 C k x).2.S = V1.S ∧ ((V1.p1 C k x).1 = 0 ∨ (V1.p1 C k x).1 = 5) := by
          unfold VS.p1
          split
          · have hr := rd_down hh hd (i := 1) (n := C.n1) rfl (k * C.chunk) (by omega)
            have hcp : ∀ i, 1 ≤ i → vcp V1.S 1 C.n1 (k * C.chunk) 0 C.n0 (x.block.toNat * C.chunk) i = (5, V1.S) := by
              intro i hi
              have e1 : vcp V1.S 1 C.n1 (k * C.chunk) 0 C.n0 (x.block.toNat * C.chunk) 1 = (5, V1.S) := by
                rw [vcp, vcp, if_neg (fun e => e rfl)]
                unfold vcpOne
                rw [show ((k * C.chunk : Nat) : Int) + ((0 : Nat) : Int) = ((k * C.chunk : Nat) : Int) by omega, if_pos (by rw [hr]; decide), hr]
              have := vcp_stuck V1.S 1 C.n1 (k * C.chunk) 0 C.n0 (x.block.toNat * C.chunk) 1 (by rw [e1]; exact (by decide : (5 : Int) ≠ 0)) (i - 1)
              rw [show 1 + (i - 1) = i by omega, e1] at this
              exact this
            have hcb : V1.cb C k x.block.toNat = (5, V1.S) := hcp C.chunk hc
            refine ⟨?_, .inr ?_⟩
            · show (V1.cbV C k x.block.toNat).S = _
              unfold VS.cbV
              dsimp only
              rw [hcb, if_neg (show ¬ (5 : Int) = 0 by decide)]
            · show V1.cbE C k x.block.toNat = 5
              unfold VS.cbE
              rw [hcb, if_neg (show ¬ (5 : Int) = 0 by decide)]
          · exact ⟨rfl, .inl rfl⟩
        have step : ∀ {p : Int × VS} {f : VS → Int × VS}, p.2.S = V1.S → (p.1 = 0 ∨ p.1 = 5) → (p.1 = 0 → (f p.2).2.S = V1.S ∧ ((f p.2).1 = 0 ∨ (f p.2).1 = 5)) → (bnd p f).2.S = V1.S ∧ ((bnd p f).1 = 0 ∨ (bnd p f).1 = 5) := by
          intro p f e1 e2 e3
          rcases e2 with e2 | e2
          · rw [bnd_ok e2]; exact e3 e2
          · rw [bnd_no (by rw [e2]; decide)]; exact ⟨e1, .inr e2⟩
        have h2 : (V1.p2 C k x).2.S = V1.S ∧ ((V1.p2 C k x).1 = 0 ∨ (V1.p2 C k x).1 = 5) := by
          refine step h1.1 h1.2 (fun _ => ?_)
          split
          · have hfd := free_down (V := (V1.p1 C k x).2) (C := C) (k := k) (by rw [h1.1]; exact hh) (by rw [h1.1]; exact hd) (by omega)
            exact ⟨by rw [hfd.2.1, h1.1], .inr hfd.1⟩
          · exact ⟨h1.1, .inl rfl⟩
        have h3 : (V1.p3 C k x).2.S = V1.S ∧ (V1.p3 C k x).1 = 5 := by
          rcases h2.2 with e2 | e2
          · have e3 : V1.p3 C k x = ((V1.p2 C k x).2.S.chkF 0, { (V1.p2 C k x).2 with S := (V1.p2 C k x).2.S.flush 0 }) := bnd_ok e2
            rw [e3, h2.1]
            have := fl_down hh hd (i := 0) (n := C.n0) rfl
            exact ⟨this.2, this.1⟩
          · have e3 : V1.p3 C k x = V1.p2 C k x := bnd_no (by rw [e2]; decide)
            rw [e3]
            exact ⟨h2.1, e2⟩
        have h7 : V1.p7 C k x b = V1.p3 C k x := p7_3 (by rw [h3.2]; decide)
        rw [h7]
        exact ⟨h3.1, .inr h3.2⟩

/-- Read. -/
theorem DR.read (h : DR C V t k) {a : Nat} (ha : a < C.n0) (hn0 : C.n0 ≤ 65536) (hclk : V.x.clk < 1099511627776) (hn1 : V.x.sl.length * C.chunk ≤ C.n1) (st : Bool) (hst : st = true → k = true) :
    ((V.rdR C a).2 = 0 ∧ tMay t a (V.rdR C a).1 ∧ DR C (V.slt C a).2.2 (tRead t a (V.rdR C a).1 st) k) ∨ (k = false ∧ (V.rdR C a).2 = 5 ∧ DR C (V.slt C a).2.2 t k) := by
  have hbd := Bd.slt (C := C) h.ok h.len ha hn0 hclk
  have hal : a < t.length := by rw [h.tl]; exact ha
  have hxa := List.getElem?_eq_getElem hal
  have hn2' : (V.slt C a).2.2.x.sl.length + 1 = C.n2 := by rw [hbd.sll]; exact h.n2
  have hcl' : (V.slt C a).2.2.closed = false := by rw [hbd.clo]; exact h.clo
  rcases h.st with ⟨hd, hVI, hkn, hcalm⟩ | ⟨hk, hd, hh, sl, hVK⟩
  · rcases rd_ou hVI hd h.ok h.len hclk ha hn0 with ⟨r1, r2, r3, r4, r5, r6, r7, -, r8⟩ | ⟨r1, r2, r3, sl, r4⟩
    · left
      have hpm : (V.slt C a).2.2.pm = V.pm := hbd.pm
      have hok1 := r4.k.okv ha r7
      have hmay : tMay t a (V.rdR C a).1 := by
        unfold tMay
        rw [tAt_eq hxa]
        unfold Sec.may
        split
        · rename_i e
          exact VV.uniq r4.k r7 (r8 a _ (hkn a _ hxa e))
        · rw [okT_at hal, tAt_eq hxa] at hok1
          exact hok1
      -- the calm part
      have hcalm' : k = true → (V.slt C a).2.2.S.fuse = 0 ∧ VI C (V.slt C a).2.2.S (V.slt C a).2.2.x.sl (V.slt C a).2.2.pm (VV C (V.slt C a).2.2.S (V.slt C a).2.2.x.sl) := by
        intro hk
        obtain ⟨c1, c2⟩ := hcalm hk
        rcases rd_ou c2 hd h.ok h.len hclk ha hn0 with ⟨q1, q2, q3, q4, -⟩ | ⟨q1, -⟩
        · refine ⟨q3 c1, ?_⟩
          rw [hpm]
          exact q4.mono (fun b u _ hu => r8 b u hu)
        · exact absurd c1 q1
      refine ⟨r1, hmay, hbd.ok, hbd.len, hcl', hn2', h.ch, by unfold tRead; rw [List.length_set]; exact h.tl, .inl ⟨r2, ?_, ?_, hcalm'⟩⟩
      · -- candidates
        rw [hpm]
        rcases hks : (t[a]'hal).kn with _ | _
        · rcases hs : st with _ | _
          · refine r4.mono (fun b u hb hu => ?_)
            unfold tRead
            by_cases e : b = a
            · subst e
              rw [okT_set_self hal, tAt_eq hxa]
              unfold Sec.read
              rw [hks, if_neg (by simp)]
              rw [okT_at hal, tAt_eq hxa] at hu
              exact hu
            · rw [okT_set e]; exact hu
          · have hc := (hcalm' (hst hs)).2
            rw [hpm] at hc
            refine hc.mono (fun b u hb hu => ?_)
            unfold tRead
            by_cases e : b = a
            · subst e
              rw [okT_set_self hal, tAt_eq hxa]
              unfold Sec.read
              rw [hks, if_neg (by simp)]
              show u ∈ [(V.rdR C b).1]
              rw [List.mem_singleton]
              exact VV.uniq r4.k hu r7
            · rw [okT_set e]
              exact r4.k.okv hb hu
        · have : tRead t a (V.rdR C a).1 st = t := by
            unfold tRead
            rw [tAt_eq hxa]
            unfold Sec.read
            rw [hks, if_pos rfl]
            exact set_self hxa
          rw [this]
          exact r4
      · intro b s hs hsk
        unfold tRead at hs
        rcases set_cases hs with ⟨rfl, rfl⟩ | ⟨hb, hs⟩
        · rw [tAt_eq hxa] at hsk ⊢
          unfold Sec.read at hsk ⊢
          split
          · rename_i e
            exact r8 b _ (hkn b _ hxa e)
          · exact r7
        · exact r8 b _ (hkn b s hs hsk)
    · right
      have hkf : k = false := by
        cases k
        · rfl
        · exact absurd (hcalm rfl).1 r1
      exact ⟨hkf, r2, hbd.ok, hbd.len, hcl', hn2', h.ch, h.tl, .inr ⟨hkf, r3, r4.hea, sl, by rw [hbd.pm]; exact r4⟩⟩
  · right
    obtain ⟨s1, s2⟩ := slt_down hh hd h.ok h.n2 h.ch ha hn0 hn1
    have hso := slt_ok (C := C) h.ok h.len ha hn0 hclk
    refine ⟨hk, ?_, hbd.ok, hbd.len, hcl', hn2', h.ch, h.tl, .inr ⟨hk, by rw [s1]; exact hd, by rw [s1]; exact hh, sl, by rw [s1, hbd.pm]; exact hVK⟩⟩
    unfold VS.rdR
    rcases s2 with e | e
    · rw [if_neg (fun x => x e)]
      split
      · rw [s1]
        exact rd_down hh hd (i := 0) (n := C.n0) rfl a ha
      · rename_i hneg
        rcases hso e with e2 | ⟨j, x, e2, hj, -⟩
        · omega
        · rw [e2, Int.toNat_natCast, s1]
          have hm := (blk_at a C.chunk h.ch).2
          have := Nat.mul_le_mul_right C.chunk (show j + 1 ≤ V.x.sl.length by omega)
          rw [Nat.add_mul, Nat.one_mul] at this
          exact rd_down hh hd (i := 1) (n := C.n1) rfl (j * C.chunk + a % C.chunk) (by omega)
    · rw [if_pos (by rw [e]; decide)]
      exact e
end

end Go.Proofs.YtogchafnnkajfaaGreat

namespace Go.Proofs.YtogchafnnkajfaaGreat
set_option linter.unusedVariables false
open Go.RowKit
attribute [local go_sem] Oper.semAt_some

theorem tAt_set (t : List Sec) (a b : Nat) (x : Sec) : tAt (t.set a x) b = if b = a ∧ a < t.length then x else tAt t b := by
  unfold tAt
  rw [List.getElem?_set]
  by_cases h : a = b
  · subst h
    by_cases hl : a < t.length
    · simp [hl]
    · simp [hl]
  · rw [if_neg h, if_neg (fun e => h e.1.symm)]
theorem tAt_map' (t : List Sec) (f : Sec → Sec) (m : Nat) (hf : ∀ x : Sec, x.sm.length ≤ m → (f x).sm.length ≤ m) (h : ∀ a, (tAt t a).sm.length ≤ m) (b : Nat) : (tAt (t.map f) b).sm.length ≤ m := by
  have hb := h b
  unfold tAt at hb ⊢
  rw [List.getElem?_map]
  rcases hx : t[b]? with _ | x
  · exact Nat.zero_le _
  · rw [hx] at hb
    exact hf x hb
theorem sm_read {t : List Sec} {m : Nat} (h : ∀ a, (tAt t a).sm.length ≤ m) (hm : 1 ≤ m) (a v : Nat) (st : Bool) (b : Nat) : (tAt (tRead t a v st) b).sm.length ≤ m := by
  unfold tRead
  rw [tAt_set]
  split
  · have := h a
    unfold Sec.read
    split
    · exact this
    · show (if st = true then [v] else (tAt t a).sm).length ≤ m
      split
      · exact hm
      · exact this
  · exact h b
theorem sm_wrote {t : List Sec} {m : Nat} (h : ∀ a, (tAt t a).sm.length ≤ m) (a v : Nat) (d : Bool) (b : Nat) : (tAt (tWrote t a v d) b).sm.length ≤ m + 1 := by
  unfold tWrote
  rw [tAt_set]
  split
  · have := h a
    show ((tAt t a).sm ++ [v]).length ≤ m + 1
    rw [List.length_append]
    simp; omega
  · have := h b; omega
theorem sm_flushed {t : List Sec} {m : Nat} (h : ∀ a, (tAt t a).sm.length ≤ m) (hm : 1 ≤ m) (b : Nat) : (tAt (tFlushed t) b).sm.length ≤ m :=
  tAt_map' t _ m (fun x hx => by unfold Sec.flushed; split; exact hm; exact hx) h b
theorem sm_failed {t : List Sec} {m : Nat} (h : ∀ a, (tAt t a).sm.length ≤ m) (b : Nat) : (tAt (tFailed t) b).sm.length ≤ m :=
  tAt_map' t Sec.failed m (fun x hx => hx) h b

theorem TrAt.len {W : World} {G : Nat → Prop} {tb : Nat} {t : List Sec} (h : TrAt W G tb t) : ∃ rb cap, W.cell? ⟨tb, 0, none⟩ = some (.slice (some ⟨rb, 0, none⟩) t.length cap) := by
  obtain ⟨rb, cap, ys, rfl, hi⟩ := h
  exact ⟨rb, cap, by rw [List.length_map]; exact hi.tr.cell 0⟩

def FU (F G : Nat → Prop) (j : Nat) : Prop := F j ∨ G j
def FT (F : Nat → Prop) (w : World) (j : Nat) : Prop := F j ∧ j < w.heap.size
theorem Turn.left {F F' G : Nat → Prop} {w w' : World} (h : Turn F F' w w') : Turn (FU F G) (FU F' (FT G w)) w w' :=
  ⟨h.1.mono (fun j _ hj => .inl hj), fun j hj => hj.elim (fun a => (h.2 j a).elim (fun b => .inl (.inl b)) .inr) (fun a => .inl (.inr a.1))⟩
theorem Turn.right {F G G' : Nat → Prop} {w w' : World} (h : Turn G G' w w') : Turn (FU F G) (FU (FT F w) G') w w' :=
  ⟨h.1.mono (fun j _ hj => .inr hj), fun j hj => hj.elim (fun a => .inl (.inl a.1)) (fun a => (h.2 j a).elim (fun b => .inl (.inr b)) .inr)⟩

theorem d_read (k p : Nat) (W : World) : Sem.run Tryz.prog (method (k + 1) 39 (.pointer (some ⟨p, 0, none⟩)) "Read") W = .ok (22, .pointer (some ⟨p, 0, none⟩)) W := by kernel_rfl
theorem d_write (k p : Nat) (W : World) : Sem.run Tryz.prog (method (k + 1) 39 (.pointer (some ⟨p, 0, none⟩)) "Write") W = .ok (31, .pointer (some ⟨p, 0, none⟩)) W := by kernel_rfl
theorem d_flush (k p : Nat) (W : World) : Sem.run Tryz.prog (method (k + 1) 39 (.pointer (some ⟨p, 0, none⟩)) "Flush") W = .ok (34, .pointer (some ⟨p, 0, none⟩)) W := by kernel_rfl
theorem d_nila (k p : Nat) (W : World) : Sem.run Tryz.prog (nilAhead (k + 1) 39 (.pointer (some ⟨p, 0, none⟩)) "Write") W = .ok (some false) W := by kernel_rfl
theorem d_size (k p : Nat) (W : World) : Sem.run Tryz.prog (method (k + 1) 39 (.pointer (some ⟨p, 0, none⟩)) "Size") W = .ok (46, .pointer (some ⟨p, 0, none⟩)) W := by kernel_rfl

/-- What a device is asked to be: its states D (footprint, track, calm, count, pointer), and Z (the power is back, it is not opened yet). -/
structure DevC (B n L ga fO : Nat) (oa : Array Value) (D : World → (Nat → Prop) → List Sec → Bool → Nat → Nat → Prop) (Z : World → (Nat → Prop) → List Sec → Nat → Prop) : Prop where
  dfr : ∀ {w w' : World} {F H : Nat → Prop} {t : List Sec} {k : Bool} {c p : Nat}, D w F t k c p → Fr H w w' → (∀ j, F j → ¬ H j) → (∀ j, H j → B ≤ j) → D w' F t k c p
  dti : ∀ {w : World} {F : Nat → Prop} {t : List Sec} {k : Bool} {c p : Nat}, D w F t k c p → D w (FT F w) t k c p
  zfr : ∀ {w w' : World} {F H : Nat → Prop} {t : List Sec} {c : Nat}, Z w F t c → Fr H w w' → (∀ j, F j → ¬ H j) → (∀ j, H j → B ≤ j) → Z w' F t c
  zti : ∀ {w : World} {F : Nat → Prop} {t : List Sec} {c : Nat}, Z w F t c → Z w (FT F w) t c
  size : ∀ {w : World} {F : Nat → Prop} {t : List Sec} {k : Bool} {c p : Nat}, D w F t k c p → Calls Tryz.prog 46 #[.pointer (some ⟨p, 0, none⟩)] w fun e w' => e = .returned (.int .i64 (n : Int)) ∧ ∃ m, w' = w.drewN m
  read : ∀ {w : World} {F : Nat → Prop} {t : List Sec} {k : Bool} {c p : Nat} (a : Nat) (st : Bool), D w F t k c p → a < n → c < L → (st = true → k = true) →
    Calls Tryz.prog 22 #[.pointer (some ⟨p, 0, none⟩), .int .i64 (a : Int)] w fun e w' => ∃ (v : Nat) (r : Int) (F' : Nat → Prop), e = .returned (.tuple #[.int .u64 (v : Int), .int .i64 r]) ∧ v < 18446744073709551616 ∧ Turn F F' w w' ∧
      ((r = 0 ∧ tMay t a v ∧ D w' F' (tRead t a v st) k (c + 1) p) ∨ (k = false ∧ r = 5 ∧ D w' F' t k (c + 1) p))
  write : ∀ {w : World} {F : Nat → Prop} {t : List Sec} {k : Bool} {c p : Nat} (a v : Nat), D w F t k c p → a < n → v < 18446744073709551616 → c < L →
    Calls Tryz.prog 31 #[.pointer (some ⟨p, 0, none⟩), .int .i64 (a : Int), .int .u64 (v : Int)] w fun e w' => ∃ (r : Int) (F' : Nat → Prop), e = .returned (.int .i64 r) ∧ Turn F F' w w' ∧ (r = 0 ∨ r = 5) ∧ D w' F' (tWrote t a v (decide (r = 0))) false (c + 1) p
  flush : ∀ {w : World} {F : Nat → Prop} {t : List Sec} {k : Bool} {c p : Nat}, D w F t k c p → c < L →
    Calls Tryz.prog 34 #[.pointer (some ⟨p, 0, none⟩)] w fun e w' => ∃ (r : Int) (F' : Nat → Prop), e = .returned (.int .i64 r) ∧ Turn F F' w w' ∧
      ((r = 0 ∧ D w' F' (tFlushed t) false (c + 1) p) ∨ (r = 5 ∧ D w' F' t false (c + 1) p))
  fuse : ∀ {w : World} {F : Nat → Prop} {t : List Sec} {k : Bool} {c p : Nat} (x : Nat), D w F t k c p → x ≤ 1000000 → c < L →
    Calls Tryz.prog 76 #[.pointer (some ⟨ga, 0, none⟩), .int .i64 (x : Int)] w fun e w' => e = .returned (.tuple #[]) ∧ ∃ (F' : Nat → Prop), Turn F F' w w' ∧ D w' F' t false (c + 1) p
  restart : ∀ {w : World} {F : Nat → Prop} {t : List Sec} {k : Bool} {c p : Nat} (A : Option Addr) (cc base : Nat) (bs : List Bool), D w F t k c p → c < L → w.ownsRow base 4 1 (.slice A 192 cc) 192 (bv bs) → bs.length = 192 → (∀ b, (Value.slice A 192 cc).ownBlock = some b → ¬ F b) →
    Calls Tryz.prog 120 #[.pointer (some ⟨ga, 0, none⟩), .slice A 192 cc] w fun e w' => e = .returned (.tuple #[]) ∧ ∃ (F' : Nat → Prop), Turn F F' w w' ∧ Z w' F' (tFailed t) (c + 1)
  opens : ∀ {w : World} {F : Nat → Prop} {t : List Sec} {c : Nat}, Z w F t c → c < L →
    Calls Tryz.prog fO oa w fun e w' => ∃ (p : Nat) (F' : Nat → Prop), e = .returned (.tuple #[.iface 39 (.pointer (some ⟨p, 0, none⟩)), .bool true]) ∧ Turn F F' w w' ∧ D w' F' t true (c + 1) p

structure DTr (D : World → (Nat → Prop) → List Sec → Bool → Nat → Nat → Prop) (B n : Nat) (w : World) (F G : Nat → Prop) (t : List Sec) (k : Bool) (c p tb : Nat) : Prop where
  d : D w F t k c p
  tr : TrAt w G tb t
  dj : ∀ j, F j → ¬ G j
  tl : t.length = n
  sm : ∀ a, (tAt t a).sm.length ≤ c + 1
  gb : ∀ j, G j → B ≤ j
  wb : B ≤ w.heap.size

section
variable {B n L ga fO : Nat} {oa : Array Value} {D : World → (Nat → Prop) → List Sec → Bool → Nat → Nat → Prop} {Z : World → (Nat → Prop) → List Sec → Nat → Prop} {w : World} {F G : Nat → Prop} {t : List Sec} {k : Bool} {c p tb : Nat}
/-- The device went on. -/
theorem DTr.dev (h : DTr D B n w F G t k c p tb) {w' : World} {F' : Nat → Prop} {k' : Bool} {c' p' : Nat} (ht : Turn F F' w w') (hd : D w' F' t k' c' p') (hc : c ≤ c') : DTr D B n w' F' (FT G w) t k' c' p' tb :=
  ⟨hd, h.tr.tight.fr ht.1 (fun j hj hf => h.dj j hf hj.1), fun j hj hg => (ht.2 j hj).elim (fun a => h.dj j a hg.1) (fun a => by have := hg.2; omega), h.tl, fun a => by have := h.sm a; omega, fun j hj => h.gb j hj.1, Nat.le_trans h.wb ht.1.size⟩
/-- The device went on to a state of a track t', and the track follows. -/
theorem trk_dev (htr : TrAt w G tb t) (dj : ∀ j, F j → ¬ G j) {w' : World} {F' : Nat → Prop} (ht : Turn F F' w w') : TrAt w' (FT G w) tb t ∧ ∀ j, F' j → ¬ FT G w j :=
  ⟨htr.tight.fr ht.1 (fun j hj hf => dj j hf hj.1), fun j hj hg => (ht.2 j hj).elim (fun a => dj j a hg.1) (fun a => by have := hg.2; omega)⟩
theorem dev_trk (C : DevC B n L ga fO oa D Z) (hd : D w F t k c p) (dj : ∀ j, F j → ¬ G j) (gb : ∀ j, G j → B ≤ j) {w' : World} {G' : Nat → Prop} (ht : Turn G G' w w') : D w' (FT F w) t k c p ∧ ∀ j, FT F w j → ¬ G' j :=
  ⟨C.dfr (C.dti hd) ht.1 (fun j hj hg => dj j hj.1 hg) gb, fun j hj hg => (ht.2 j hg).elim (fun a => dj j hj.1 a) (fun a => by have := hj.2; omega)⟩

set_option maxRecDepth 100000 in
set_option maxHeartbeats 4000000 in
attribute [local go_sem] d_read in
theorem all_any (C : DevC B n L ga fO oa D Z) (h : DTr D B n w F G t true c p tb) (hn : n ≤ 1000) (hc : c + n ≤ L) (hL : L ≤ 90000) :
    Calls Tryz.prog 78 #[.pointer (some ⟨tb, 0, none⟩), .iface 39 (.pointer (some ⟨p, 0, none⟩)), .bool true] w fun e w' => e = .returned (.bool true) ∧ ∃ F' G' t', DTr D B n w' F' G' t' true (c + n) p tb ∧ Turn (FU F G) (FU F' G') w w' := by
  have HH := Lib.hid h
  have HC := Lib.hid C
  clear h C
  go_enter Tryz.func78, Tryz.ntmps78
  go_wp2_with fail
  go_loopw [7] (fun s wx => ∃ (i : Nat) (F' G' : Nat → Prop) (t' : List Sec), s = .int .i64 i ∧ i ≤ n ∧ DTr D B n wx F' G' t' true (c + i) p tb ∧ Turn (FU F G) (FU F' G') w wx) (fun s _ => n - (intOf s).toNat)
  case atStart => exact ⟨0, F, G, t, rfl, Nat.zero_le _, HH.out, Turn.refl _ _⟩
  case round =>
    rename World => wx
    obtain ⟨i, F', G', t', rfl, hi, hh, htn⟩ := hrel
    obtain ⟨rb, cap, c4⟩ := hh.tr.len
    rw [hh.tl] at c4
    have HD := Lib.hid hh
    have HT := Lib.hid htn
    clear hh htn
    by_cases hlt : i < n
    · have t1 : (i : Int) < (n : Int) := by omega
      go_wp2_with fail
      refine (HC.out.read i true HD.out.d hlt (by omega) (fun _ => rfl)).mono ?_
      rintro e w1 ⟨v, r, F1, rfl, hv, ht1, ⟨rfl, hm, hd1⟩ | ⟨hk, -⟩⟩
      · obtain ⟨htr1, dj1⟩ := trk_dev HD.out.tr HD.out.dj ht1
        have HD1 := Lib.hid hd1
        have HT1 := Lib.hid (HT.out.trans (ht1.left (G := G')))
        have hsm := HD.out.sm i
        have htl := HD.out.tl
        have HTR := Lib.hid htr1
        have hs1 := ht1.1.size
        have HDJ := Lib.hid dj1
        clear hd1 htr1 dj1 ht1 c4
        go_wp2_with fail
        refine (reads_any w1 _ tb t' HTR.out i v true (by omega) hv hm (by omega) (by omega)).mono ?_
        rintro e w2 ⟨rfl, G2, htr2, ht2⟩
        have gb1 : ∀ j, FT G' wx j → B ≤ j := fun j hj => HD.out.gb j hj.1
        have wb1 : B ≤ w1.heap.size := Nat.le_trans HD.out.wb hs1
        obtain ⟨hd2, dj2⟩ := dev_trk HC.out HD1.out HDJ.out gb1 ht2
        have e1 : IntKind.i64.wrap ((i : Int) + 1) = ((i + 1 : Nat) : Int) := by rw [IntWalk.i64_in _ (by omega)]; rfl
        have HN : Hid (DTr D B n w2 (FT F1 w1) G2 (tRead t' i v true) true (c + (i + 1)) p tb) := ⟨hd2, htr2, dj2, by unfold tRead; rw [List.length_set]; exact htl, fun a => by have := sm_read (m := c + i + 1) (fun b => by have := HD.out.sm b; omega) (by omega) i v true a; omega, ht2.ge wb1 gb1, Nat.le_trans wb1 ht2.1.size⟩
        have HN2 := Lib.hid (HT1.out.trans (ht2.right (F := F1)))
        clear hd2 dj2 htr2 ht2 htl hsm hm
        go_wp2_with fail
        go_roundw
        case rel => exact ⟨i + 1, _, _, _, by go_num, by omega, HN.out, HN2.out⟩
        case measure => simp [intOf]; omega
      · cases hk
    · have hin : i = n := by omega
      subst hin
      go_wp2_with fail
      go_ret
      exact ⟨rfl, F', G', t', HD.out, HT.out⟩
end

end Go.Proofs.YtogchafnnkajfaaGreat

namespace Go.Proofs.YtogchafnnkajfaaGreat
set_option linter.unusedVariables false
open Go.RowKit
attribute [local go_sem] Oper.semAt_some d_read d_write d_flush d_size

theorem own_ge {w : World} {base size n : Nat} {e : TypeId} {v : Value} {xs : List Value} (h : w.ownsRow base e size v n xs) (b : Nat) (hb : v.ownBlock = some b) : base ≤ b := by
  rcases h.2 with ⟨rfl, _⟩ | ⟨g, cap, cur, rfl, hg, _⟩
  · simp [Value.ownBlock] at hb
  · obtain rfl : g = b := by simpa [Value.ownBlock] using hb
    exact hg

theorem Turn.drewN' {F F' : Nat → Prop} {W W' : World} (h : Turn F F' W W') (q : Nat) : Turn F F' W (W'.drewN q) := ⟨h.1.drewN q, h.2⟩

section
variable {B n L ga : Nat} {D : World → (Nat → Prop) → List Sec → Bool → Nat → Nat → Prop} {Z : World → (Nat → Prop) → List Sec → Nat → Prop}
theorem DTr.drewN {fO : Nat} {oa : Array Value} {w : World} {F G : Nat → Prop} {t : List Sec} {k : Bool} {c p tb : Nat} (C : DevC B n L ga fO oa D Z) (h : DTr D B n w F G t k c p tb) (q : Nat) : DTr D B n (w.drewN q) F G t k c p tb :=
  ⟨C.dfr h.d ((Fr.refl (fun _ => False) w).drewN q) (fun _ _ h => h) (fun _ h => h.elim), h.tr.fr ((Fr.refl (fun _ => False) w).drewN q) (fun _ _ h => h), h.dj, h.tl, h.sm, h.gb, h.wb⟩

end

end Go.Proofs.YtogchafnnkajfaaGreat
