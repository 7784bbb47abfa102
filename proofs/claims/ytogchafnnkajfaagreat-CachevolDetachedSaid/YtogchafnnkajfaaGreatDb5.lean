/-
  Merged texts (Db5): what the row proofs use of them.
-/
import Derived.Test.YtogchafnnkajfaaGreatDb4
import Derived.Laws.StructEq
import Derived.BigRegion
namespace Go.Proofs.YtogchafnnkajfaaGreat
set_option linter.unusedVariables false
open Go.RowKit
attribute [local go_sem] Oper.semAt_some m_write m_read m_flush m_size
def VS.rdR (C : VC) (V : VS) (a : Nat) : Nat × Int :=
  if (V.slt C a).2.1 ≠ 0 then (0, (V.slt C a).2.1)
  else if (V.slt C a).1 < 0 then ((V.slt C a).2.2.S.sread 0 C.n0 (a : Int), (V.slt C a).2.2.S.sE 0 C.n0 (a : Int))
  else ((V.slt C a).2.2.S.sread 1 C.n1 (((V.slt C a).1.toNat * C.chunk + a % C.chunk : Nat) : Int), (V.slt C a).2.2.S.sE 1 C.n1 (((V.slt C a).1.toNat * C.chunk + a % C.chunk : Nat) : Int))
def VS.wrt (C : VC) (V : VS) (a v : Nat) : Int × VS :=
  if (V.slt C a).2.1 ≠ 0 then ((V.slt C a).2.1, (V.slt C a).2.2)
  else if (V.slt C a).1 < 0 then ((V.slt C a).2.2.S.swE 0 C.n0 (a : Int), (V.slt C a).2.2.wr0 C a v)
  else if (V.slt C a).2.2.pm = true then (V.slt C a).2.2.bck C (V.slt C a).1.toNat a v ((V.slt C a).2.2.x.at_ (V.slt C a).1.toNat)
  else (V.slt C a).2.2.thr C (V.slt C a).1.toNat a v
theorem vread_range (W : World) (Fv : Nat → Prop) (C : VC) (V : VS) (a : Int) (h : VolAt W Fv C V) (ha : a < 0 ∨ (C.n0 : Int) ≤ a) :
    Calls Tryz.prog 22 #[.pointer (some ⟨C.v, 0, none⟩), .int .i64 a] W fun e w' => e = .returned (.tuple #[.int .u64 0, .int .i64 1]) ∧ W = w' := by
  have HS := Lib.hid (vslot_range W Fv C V a h ha)
  clear h ha
  go_enter Tryz.func22, Tryz.ntmps22
  go_wp2_with (go_at_call 54; refine HS.out.mono ?_; rintro e w' ⟨rfl, rfl⟩)
  go_ret2
  exact ⟨rfl, rfl⟩
theorem vwrite_range (W : World) (Fv : Nat → Prop) (C : VC) (V : VS) (a : Int) (v : Nat) (h : VolAt W Fv C V) (ha : a < 0 ∨ (C.n0 : Int) ≤ a) :
    Calls Tryz.prog 31 #[.pointer (some ⟨C.v, 0, none⟩), .int .i64 a, .int .u64 (v : Int)] W fun e w' => e = .returned (.int .i64 1) ∧ W = w' := by
  have HS := Lib.hid (vslot_range W Fv C V a h ha)
  clear h ha
  go_enter Tryz.func31, Tryz.ntmps31
  go_wp2_with (go_at_call 54; refine HS.out.mono ?_; rintro e w' ⟨rfl, rfl⟩)
  go_ret
  exact ⟨rfl, rfl⟩
def RdP (W : World) (Fv : Nat → Prop) (C : VC) (r : Nat × Int) (V' : VS) (e : Ending) (w : World) : Prop := e = .returned (.tuple #[.int .u64 (r.1 : Int), .int .i64 r.2]) ∧ r.1 < 18446744073709551616 ∧ ∃ Fv', VolAt w Fv' C V' ∧ Turn Fv Fv' W w
set_option maxRecDepth 100000 in
set_option maxHeartbeats 4000000 in
theorem vread_any (W : World) (Fv : Nat → Prop) (C : VC) (V : VS) (a : Nat) (h : VolAt W Fv C V) (hok : V.x.Ok) (hlen : V.x.sl.length = V.ss.length) (hclo : V.closed = false) (ha : a < C.n0) (hclk : V.x.clk < 1099511627776) (hc1 : 1 ≤ C.chunk)
    (hch : C.chunk ≤ 127) (hn0 : C.n0 ≤ 65536) (hn1 : C.n1 ≤ 65536) (hn2 : C.n2 ≤ 65536) (hlog : V.S.log.length + 2 * C.chunk + 2 < 1000000) (hwr : V.S.wr + 2 * C.chunk + 2 ≤ 999999) :
    Calls Tryz.prog 22 #[.pointer (some ⟨C.v, 0, none⟩), .int .i64 (a : Int)] W (RdP W Fv C (V.rdR C a) (V.slt C a).2.2) := by
  have HS := Lib.hid (vslot_any W Fv C V a h hok hlen hclo ha hclk hc1 hch hn0 hn1 hn2 hlog hwr)
  have hso := slt_ok (C := C) hok hlen ha hn0 hclk
  have hln := hok.len
  have hE : V.rdR C a = if (V.slt C a).2.1 ≠ 0 then (0, (V.slt C a).2.1)
    else if (V.slt C a).1 < 0 then ((V.slt C a).2.2.S.sread 0 C.n0 (a : Int), (V.slt C a).2.2.S.sE 0 C.n0 (a : Int))
    else ((V.slt C a).2.2.S.sread 1 C.n1 (((V.slt C a).1.toNat * C.chunk + a % C.chunk : Nat) : Int), (V.slt C a).2.2.S.sE 1 C.n1 (((V.slt C a).1.toNat * C.chunk + a % C.chunk : Nat) : Int)) := rfl
  generalize V.rdR C a = rR at *
  generalize V.slt C a = q at *
  obtain ⟨qk, qe, qV⟩ := q
  dsimp only at hE hso ⊢
  unfold SlP at HS
  dsimp only at HS
  have HE := Lib.hid hE
  have HSO := Lib.hid hso
  clear hE hso h hok hlen hclo
  go_enter Tryz.func22, Tryz.ntmps22
  go_upto_region 2 with (go_at_call 54; refine HS.out.mono ?_; rintro e w1 ⟨rfl, Fv1, hv1, ht1⟩; have HV1 := Lib.hid hv1; have HT1 := Lib.hid ht1; clear hv1 ht1)
  clear HS
  by_cases h1 : qe = 0
  rotate_left
  · have hq : (qe != 0) = true := by simpa using h1
    have HE1 : Hid (rR = (0, qe)) := HE.out.trans (if_pos h1)
    clear HE
    go_wp2_with fail
    go_ret2
    rw [HE1.out]
    exact ⟨rfl, by dsimp only; omega, Fv1, HV1.out, HT1.out⟩
  have hso := HSO.out h1
  have HE1 := Lib.hid (HE.out.trans (if_neg (fun e => e h1)))
  subst h1
  clear HE HSO
  obtain ⟨Fc, A, c, B, d, h⟩ := HV1.out
  obtain ⟨c0, c1, c2, c3, c4, c5, c6, c7, c8, c9⟩ := h.cells
  have HH := Lib.hid h
  have HVO : Hid (VolAt w1 Fv1 C qV) := ⟨_, _, _, _, _, h⟩
  clear HV1 h c0 c1 c2 c3 c7 c8 c9
  rcases hso with rfl | ⟨k, x, rfl, hk, -, -, -⟩
  · have HE2 : Hid (rR = (qV.S.sread 0 C.n0 (a : Int), qV.S.sE 0 C.n0 (a : Int))) := HE1.out
    have HRD := Lib.hid (cread_any w1 Fc C.g C.s2 C.m C.n2 C.s0 0 C.n0 qV.S qV.ss (C.chunk : Int) qV.md qV.op (a : Int) HH.out.cache HH.out.sp0 hn0)
    have hlt : qV.S.sread 0 C.n0 (a : Int) < 18446744073709551616 := HH.out.cache.lt
    clear HE1 c4 c6
    go_wp2_with (go_at_call 190; refine HRD.out.mono ?_; rintro e w2 ⟨rfl, hb2⟩; have HB2 := Lib.hid hb2; clear hb2)
    go_ret2
    rw [HE2.out]
    exact ⟨rfl, hlt, Fv1, HVO.out.keep HB2.out, HT1.out.trans (Turn.of_below HB2.out)⟩
  · have hmul1 : k * C.chunk ≤ 1024 * 127 := Nat.mul_le_mul (by omega) hch
    have hmod := Nat.mod_lt a (show 0 < C.chunk by omega)
    have em1 : IntKind.i64.wrap ((k : Int) * (C.chunk : Int)) = ((k * C.chunk : Nat) : Int) := by
      rw [← Int.natCast_mul]; exact IntWalk.i64_in _ (by omega)
    have em2 := tmod_nat a C.chunk
    have em3 := emod_n33 a C.chunk
    have em4 : IntKind.i64.wrap (((k * C.chunk : Nat) : Int) + ((a % C.chunk : Nat) : Int)) = ((k * C.chunk + a % C.chunk : Nat) : Int) := by
      rw [IntWalk.i64_in _ (by omega)]; rfl
    have HE2 : Hid (rR = (qV.S.sread 1 C.n1 ((k * C.chunk + a % C.chunk : Nat) : Int), qV.S.sE 1 C.n1 ((k * C.chunk + a % C.chunk : Nat) : Int))) := HE1.out.trans (if_neg (by omega))
    generalize hka : k * C.chunk = ka at *
    generalize hkm : a % C.chunk = am at *
    have em5 : (ka : Int) + (am : Int) = ((ka + am : Nat) : Int) := rfl
    have hjb : ka + am ≤ 140000 := by omega
    generalize hj : ka + am = j at *
    have em6 : IntKind.i64.wrap (j : Int) = (j : Int) := IntWalk.i64_in _ (by omega)
    have t0 : ¬ (C.chunk : Int) = 0 := by omega
    have t0' : ¬ C.chunk = 0 := by omega
    have t1 : ¬ (k : Int) < 0 := by omega
    have HRD : Hid (∀ w, Below w1.heap.size w1 w → _) := fun w hw => cread_any w Fc C.g C.s2 C.m C.n2 C.s1 1 C.n1 qV.S qV.ss (C.chunk : Int) qV.md qV.op (j : Int) (HH.out.cache.keep hw) (HH.out.sp1.below hw HH.out.sp1.lt) hn1
    have hlt : qV.S.sread 1 C.n1 (j : Int) < 18446744073709551616 := HH.out.cache.lt
    clear HE1 c5 hka hkm hmul1 hj
    go_upto_region 6 with (fail)
    have kk : w1.drew.cell? ⟨C.v, 4, none⟩ = some (.int .i64 (C.chunk : Int)) ∧ w1.drew.cell? ⟨C.v, 6, none⟩ = some (.iface 176 (.pointer (some ⟨C.s1, 0, none⟩))) := ⟨c4, c6⟩
    go_region_held3 (fun w' => w'.cell? ⟨C.v, 4, none⟩ = some (.int .i64 (C.chunk : Int)) ∧ w'.cell? ⟨C.v, 6, none⟩ = some (.iface 176 (.pointer (some ⟨C.s1, 0, none⟩))))
      (first | with_reducible exact kk | with_reducible exact z1)
      (first | (go_at_call 190; (with_reducible refine (HRD.out w1.drew (Below.refl _ w1).drew).mono ?_); rintro e w2 ⟨rfl, hb2⟩; have z1 : w2.cell? ⟨C.v, 4, none⟩ = some (.int .i64 (C.chunk : Int)) ∧ w2.cell? ⟨C.v, 6, none⟩ = some (.iface 176 (.pointer (some ⟨C.s1, 0, none⟩))) := ⟨(hb2.cell (p := ⟨C.v, 4, none⟩) HH.out.vol.lt).trans c4, (hb2.cell (p := ⟨C.v, 6, none⟩) HH.out.vol.lt).trans c6⟩))
    have HB2 : Hid (Below w1.heap.size w1 w2) := (Below.refl _ w1).drew.trans hb2
    clear hb2 kk z1 HRD
    go_wp2_with fail
    go_ret2
    rw [HE2.out]
    exact ⟨rfl, hlt, Fv1, HVO.out.keep HB2.out, HT1.out.trans (Turn.of_below HB2.out)⟩
set_option maxRecDepth 100000 in
set_option maxHeartbeats 4000000 in
theorem vwrite_any (W : World) (Fv : Nat → Prop) (C : VC) (V : VS) (a v : Nat) (h : VolAt W Fv C V) (hok : V.x.Ok) (hlen : V.x.sl.length = V.ss.length) (hclo : V.closed = false) (ha : a < C.n0) (hv : v < 18446744073709551616) (hclk : V.x.clk < 1099511627776) (hc1 : 1 ≤ C.chunk)
    (hch : C.chunk ≤ 127) (hn0 : C.n0 ≤ 65536) (hn1 : C.n1 ≤ 65536) (hn2 : C.n2 ≤ 65536) (hlog : V.S.log.length + 2 * C.chunk + 6 < 1000000) (hwr : V.S.wr + 2 * C.chunk + 6 ≤ 999980) :
    Calls Tryz.prog 31 #[.pointer (some ⟨C.v, 0, none⟩), .int .i64 (a : Int), .int .u64 (v : Int)] W (VolP W Fv C (.int .i64 (V.wrt C a v).1) (V.wrt C a v).2) := by
  have HS := Lib.hid (vslot_any W Fv C V a h hok hlen hclo ha hclk hc1 hch hn0 hn1 hn2 (by omega) (by omega))
  have hso := slt_ok (C := C) hok hlen ha hn0 hclk
  have hbd := Bd.slt (C := C) hok hlen ha hn0 hclk
  have hln := hok.len
  have hE : V.wrt C a v = if (V.slt C a).2.1 ≠ 0 then ((V.slt C a).2.1, (V.slt C a).2.2)
    else if (V.slt C a).1 < 0 then ((V.slt C a).2.2.S.swE 0 C.n0 (a : Int), (V.slt C a).2.2.wr0 C a v)
    else if (V.slt C a).2.2.pm = true then (V.slt C a).2.2.bck C (V.slt C a).1.toNat a v ((V.slt C a).2.2.x.at_ (V.slt C a).1.toNat)
    else (V.slt C a).2.2.thr C (V.slt C a).1.toNat a v := rfl
  generalize V.wrt C a v = rR at *
  generalize V.slt C a = q at *
  obtain ⟨qk, qe, qV⟩ := q
  dsimp only at hE hso hbd ⊢
  unfold SlP at HS
  dsimp only at HS
  have HE := Lib.hid hE
  have HSO := Lib.hid hso
  have HBD := Lib.hid hbd
  clear hE hso h hok hlen hclo hbd
  go_enter Tryz.func31, Tryz.ntmps31
  go_upto_region 2 with (go_at_call 54; refine HS.out.mono ?_; rintro e w1 ⟨rfl, Fv1, hv1, ht1⟩; have HV1 := Lib.hid hv1; have HT1 := Lib.hid ht1; clear hv1 ht1)
  clear HS
  by_cases h1 : qe = 0
  rotate_left
  · have hq : (qe != 0) = true := by simpa using h1
    have HE1 : Hid (rR = (qe, qV)) := HE.out.trans (if_pos h1)
    clear HE
    go_wp2_with fail
    go_ret
    rw [HE1.out]
    exact ⟨rfl, Fv1, HV1.out, HT1.out⟩
  have hso := HSO.out h1
  have HE1 := Lib.hid (HE.out.trans (if_neg (fun e => e h1)))
  subst h1
  clear HE HSO
  have hbl := HBD.out.log
  have hbw := HBD.out.wr
  obtain ⟨Fc, A, c, B, d, h⟩ := HV1.out
  obtain ⟨c0, c1, c2, c3, c4, c5, c6, c7, c8, c9⟩ := h.cells
  have HH := Lib.hid h
  have HVO : Hid (VolAt w1 Fv1 C qV) := ⟨_, _, _, _, _, h⟩
  clear HV1 h c0 c1 c2 c3 c4 c6 c8 c9
  rcases hso with rfl | ⟨k, x, rfl, hk, hx, hxv, -⟩
  · have HE2 : Hid (rR = (qV.S.swE 0 C.n0 (a : Int), qV.wr0 C a v)) := HE1.out
    have HWR := Lib.hid (cwrite_any w1 Fc C.g C.s2 C.m C.n2 C.s0 0 C.n0 qV.S qV.ss (C.chunk : Int) qV.md qV.op (a : Int) v HH.out.cache HH.out.sp0 HH.out.o0 hn0 hv (by omega) (by omega))
    clear HE1 c7
    go_wp2_with (go_at_call 192; refine HWR.out.mono ?_; rintro e w2 ⟨rfl, Fc2, hc2, ht2⟩; have HX2 : Hid (VolIn w2 Fc2 _ C (qV.wr0 C a v) A c B d) := HH.out.turn hc2 ht2; have HT2 := Lib.hid (HT1.out.trans (HH.out.wide ht2)); clear hc2 ht2)
    go_ret
    rw [HE2.out]
    exact ⟨rfl, _, ⟨_, _, _, _, _, HX2.out⟩, HT2.out⟩
  · have t1 : ¬ (k : Int) < 0 := by omega
    have hkl : k < qV.x.sl.length := (List.getElem?_eq_some_iff.1 hx).1
    have HE2 : Hid (rR = if qV.pm = true then qV.bck C k a v x else qV.thr C k a v) := by
      show _ = _
      have := HE1.out.trans (if_neg t1)
      rw [Int.toNat_natCast, CS.at_eq hx] at this
      exact this
    have HBK := Lib.hid (vbck_any w1 Fv1 C qV k a v x HVO.out HBD.out.ok HBD.out.len hx hxv (by omega) hv hc1 hch hn0 hn1 hn2 (by omega) (by omega))
    have HTH := Lib.hid (vthr_any w1 Fv1 C qV k a v HVO.out HBD.out.ok HBD.out.len hkl (by omega) hv hc1 hch hn0 hn1 hn2 (by omega) (by omega))
    clear HE1 c5 hx hxv
    unfold putV at c7
    rcases hpm : qV.pm with _ | _
    · rw [hpm] at c7
      have HE3 : Hid (rR = qV.thr C k a v) := HE2.out.trans (if_neg (by rw [hpm]; simp))
      have c7' : w1.cell? ⟨C.v, 7, none⟩ = some (.func (.func 101) #[] #[]) := c7
      clear HBK HE2 c7 hpm
      generalize qV.thr C k a v = p at *
      go_wp2_with (go_at_call 101; refine HTH.out.mono ?_; rintro e w2 ⟨rfl, Fv2, hv2, ht2⟩; have HV2 := Lib.hid hv2; have HT2 := Lib.hid (HT1.out.trans ht2); clear hv2 ht2)
      go_ret
      rw [HE3.out]
      exact ⟨rfl, _, HV2.out, HT2.out⟩
    · rw [hpm] at c7
      have HE3 : Hid (rR = qV.bck C k a v x) := HE2.out.trans (if_pos hpm)
      have c7' : w1.cell? ⟨C.v, 7, none⟩ = some (.func (.func 102) #[] #[]) := c7
      clear HTH HE2 c7 hpm
      generalize qV.bck C k a v x = p at *
      go_wp2_with (go_at_call 102; refine HBK.out.mono ?_; rintro e w2 ⟨rfl, Fv2, hv2, ht2⟩; have HV2 := Lib.hid hv2; have HT2 := Lib.hid (HT1.out.trans ht2); clear hv2 ht2)
      go_ret
      rw [HE3.out]
      exact ⟨rfl, _, HV2.out, HT2.out⟩
end Go.Proofs.YtogchafnnkajfaaGreat
namespace Go.Proofs.YtogchafnnkajfaaGreat
set_option linter.unusedVariables false
open Go.RowKit
attribute [local go_sem] Oper.semAt_some m_write m_read m_flush m_size
def VS.flE (V : VS) : Int := if V.S.chkF 1 ≠ 0 then V.S.chkF 1 else if (V.S.flush 1).chkF 2 ≠ 0 then (V.S.flush 1).chkF 2 else ((V.S.flush 1).flush 2).chkF 0
def VS.flV (V : VS) : VS := { V with S := ((V.S.flush 1).flush 2).flush 0 }
def nth3 (a b c : Int) (n : Nat) : Int := if n = 0 then a else if n = 1 then b else c
def fe3 (a b c : Int) : Nat → Int
  | 0 => 0
  | n + 1 => if fe3 a b c n = 0 then nth3 a b c n else fe3 a b c n
set_option maxHeartbeats 1000000 in
theorem vflush_closed (W : World) (Fv : Nat → Prop) (C : VC) (V : VS) (h : VolAt W Fv C V) (hc : V.closed = true) :
    Calls Tryz.prog 34 #[.pointer (some ⟨C.v, 0, none⟩)] W fun e w' => e = .returned (.int .i64 20) ∧ W = w' := by
  obtain ⟨Fc, A, c, B, d, h⟩ := h
  obtain ⟨-, -, -, -, -, -, -, -, -, c9⟩ := h.cells
  rw [hc] at c9
  clear h hc
  go_enter Tryz.func34, Tryz.ntmps34
  go_wp2_with fail
  go_ret
  exact ⟨rfl, rfl⟩
set_option maxRecDepth 100000 in
set_option maxHeartbeats 8000000 in
theorem vflush_any (W : World) (Fv : Nat → Prop) (C : VC) (V : VS) (h : VolAt W Fv C V) (hc : V.closed = false) (hlog : V.S.log.length ≤ 1000000) :
    Calls Tryz.prog 34 #[.pointer (some ⟨C.v, 0, none⟩)] W (VolP W Fv C (.int .i64 V.flE) V.flV) := by
  obtain ⟨Fc, A, c, B, d, h⟩ := h.tight
  obtain ⟨c0, c1, c2, c3, c4, c5, c6, c7, c8, c9⟩ := h.cells
  rw [hc] at c9
  have HH := Lib.hid h
  have hl1 := (flush_log V.S 1).1
  have hl2 := (flush_log (V.S.flush 1) 2).1
  have HF1 := Lib.hid (csflush_any W.drew Fc C.g C.s2 C.m C.n2 C.s1 1 C.n1 V.S V.ss (C.chunk : Int) V.md V.op (h.cache.keep (Below.refl _ W).drew) h.sp1 h.o1 hlog)
  clear h hc c1 c2 c3 c4 c7 c8
  go_enter Tryz.func34, Tryz.ntmps34
  go_upto_region 4 with (fail)
  clear c9
  have kk : W.drew.cell? ⟨C.v, 0, none⟩ = some (.pointer (some ⟨C.m, 0, none⟩)) ∧ W.drew.cell? ⟨C.v, 5, none⟩ = some (.iface 176 (.pointer (some ⟨C.s0, 0, none⟩))) ∧ W.drew.cell? ⟨C.v, 6, none⟩ = some (.iface 176 (.pointer (some ⟨C.s1, 0, none⟩))) := ⟨c0, c5, c6⟩
  go_region_held3 (fun w' => w'.cell? ⟨C.v, 0, none⟩ = some (.pointer (some ⟨C.m, 0, none⟩)) ∧ w'.cell? ⟨C.v, 5, none⟩ = some (.iface 176 (.pointer (some ⟨C.s0, 0, none⟩))) ∧ w'.cell? ⟨C.v, 6, none⟩ = some (.iface 176 (.pointer (some ⟨C.s1, 0, none⟩))))
    (first | with_reducible exact z3 | with_reducible exact z2 | with_reducible exact z1 | with_reducible exact kk | exact ⟨(((Below.refl _ w3).alloc (Nat.le_refl _) _).cell (p := ⟨C.v, 0, none⟩) HM3.out.vol.lt).trans z3.1, (((Below.refl _ w3).alloc (Nat.le_refl _) _).cell (p := ⟨C.v, 5, none⟩) HM3.out.vol.lt).trans z3.2.1, (((Below.refl _ w3).alloc (Nat.le_refl _) _).cell (p := ⟨C.v, 6, none⟩) HM3.out.vol.lt).trans z3.2.2⟩)
    (first
      | (go_at_call 189; (with_reducible refine HF3.out.mono ?_); rintro e w3 ⟨rfl, Fc3, hc3, ht3⟩; have HM3 := Lib.hid (HM2.out.turn hc3 ht3); have HT3 := Lib.hid (HT2.out.trans (HM2.out.wide ht3)); clear hc3 ht3; have z3 : w3.cell? ⟨C.v, 0, none⟩ = some (.pointer (some ⟨C.m, 0, none⟩)) ∧ w3.cell? ⟨C.v, 5, none⟩ = some (.iface 176 (.pointer (some ⟨C.s0, 0, none⟩))) ∧ w3.cell? ⟨C.v, 6, none⟩ = some (.iface 176 (.pointer (some ⟨C.s1, 0, none⟩))) := ⟨HM3.out.cells.1, HM3.out.cells.2.2.2.2.2.1, HM3.out.cells.2.2.2.2.2.2.1⟩)
      | (go_at_call 64; (with_reducible refine HF2.out.mono ?_); rintro e w2 ⟨rfl, Fc2, hc2, ht2⟩; have HM2 := Lib.hid (HM1.out.turn hc2 ht2); have HT2 := Lib.hid (HT1.out.trans (HM1.out.wide ht2)); clear hc2 ht2; have HF3 := Lib.hid (csflush_any w2 Fc2 C.g C.s2 C.m C.n2 C.s0 0 C.n0 ((V.S.flush 1).flush 2) V.ss (C.chunk : Int) V.md V.op HM2.out.cache HM2.out.sp0 HM2.out.o0 (Nat.le_trans hl2 (Nat.le_trans hl1 hlog))); have z2 : w2.cell? ⟨C.v, 0, none⟩ = some (.pointer (some ⟨C.m, 0, none⟩)) ∧ w2.cell? ⟨C.v, 5, none⟩ = some (.iface 176 (.pointer (some ⟨C.s0, 0, none⟩))) ∧ w2.cell? ⟨C.v, 6, none⟩ = some (.iface 176 (.pointer (some ⟨C.s1, 0, none⟩))) := ⟨HM2.out.cells.1, HM2.out.cells.2.2.2.2.2.1, HM2.out.cells.2.2.2.2.2.2.1⟩)
      | (go_at_call 189; (with_reducible refine HF1.out.mono ?_); rintro e w1 ⟨rfl, Fc1, hc1, ht1⟩; have HM1 := Lib.hid (HH.out.turn hc1 ((Turn.of_below (F := Fc) (Below.refl _ W).drew).trans ht1)); have HT1 := Lib.hid (HH.out.wide ((Turn.of_below (F := Fc) (Below.refl _ W).drew).trans ht1)); clear hc1 ht1; have HF2 := Lib.hid (cmflush_any w1 Fc1 C.g C.s2 C.m C.n2 (V.S.flush 1) V.ss (C.chunk : Int) V.md V.op HM1.out.cache (Nat.le_trans hl1 hlog)); have z1 : w1.cell? ⟨C.v, 0, none⟩ = some (.pointer (some ⟨C.m, 0, none⟩)) ∧ w1.cell? ⟨C.v, 5, none⟩ = some (.iface 176 (.pointer (some ⟨C.s0, 0, none⟩))) ∧ w1.cell? ⟨C.v, 6, none⟩ = some (.iface 176 (.pointer (some ⟨C.s1, 0, none⟩))) := ⟨HM1.out.cells.1, HM1.out.cells.2.2.2.2.2.1, HM1.out.cells.2.2.2.2.2.2.1⟩))
  clear z1 z2 z3 kk HF1 HF2 HF3 HM1 HM2 HT1 HT2
  have hE : V.flE = fe3 (V.S.chkF 1) ((V.S.flush 1).chkF 2) (((V.S.flush 1).flush 2).chkF 0) 3 := by
    unfold VS.flE
    by_cases e1 : V.S.chkF 1 = 0
    · rw [if_neg (fun e => e e1)]
      by_cases e2 : (V.S.flush 1).chkF 2 = 0
      · rw [if_neg (fun e => e e2)]
        simp [fe3, nth3, e1, e2]
      · rw [if_pos e2]
        simp [fe3, nth3, e1, e2]
    · rw [if_pos e1]
      simp [fe3, nth3, e1]
  have HE := Lib.hid hE
  have HV3 : Hid (VolAt w3 _ C V.flV) := ⟨_, _, _, _, _, HM3.out⟩
  have hb4 : Below w3.heap.size w3 (w3.alloc (.cells #[.int .i64 (V.S.chkF 1), .int .i64 ((V.S.flush 1).chkF 2), .int .i64 (((V.S.flush 1).flush 2).chkF 0)] 47)) := (Below.refl _ w3).alloc (Nat.le_refl _) _
  have hC4 := Cs.new w3 47 #[.int .i64 (V.S.chkF 1), .int .i64 ((V.S.flush 1).chkF 2), .int .i64 (((V.S.flush 1).flush 2).chkF 0)]
  have HV4 := Lib.hid (HV3.out.keep hb4)
  have HT4 := Lib.hid (HT3.out.trans (Turn.of_below hb4))
  clear hE hb4 HV3 HM3 HT3 HH c0 c5 c6 hl1 hl2
  generalize V.S.chkF 1 = e1 at *
  generalize (V.S.flush 1).chkF 2 = e2 at *
  generalize ((V.S.flush 1).flush 2).chkF 0 = e3 at *
  generalize V.flE = rE at *
  generalize V.flV = rV at *
  obtain ⟨t, ht⟩ : ∃ t, w3.heap.size = t := ⟨_, rfl⟩
  rw [ht] at hC4 ⊢
  clear ht
  generalize (w3.alloc (.cells #[.int .i64 e1, .int .i64 e2, .int .i64 e3] 47)) = w4 at *
  have HC4 := Lib.hid hC4
  clear hC4
  go_wp2_with fail
  go_loop [3, 28] (fun f i => ∃ n : Nat, n ≤ 3 ∧ i = .int .i64 n ∧ f = .int .i64 (fe3 e1 e2 e3 n)) (fun _ i => 3 - (intOf i).toNat)
  case atStart => exact ⟨0, by omega, rfl, rfl⟩
  case round =>
    obtain ⟨n, hn, rfl, rfl⟩ := hrel
    by_cases hlt : n < 3
    · obtain ⟨en, hen, hst⟩ : ∃ en, w4.cell? ⟨t, n, none⟩ = some (.int .i64 en) ∧ fe3 e1 e2 e3 (n + 1) = if fe3 e1 e2 e3 n = 0 then en else fe3 e1 e2 e3 n := by
        obtain rfl | rfl | rfl : n = 0 ∨ n = 1 ∨ n = 2 := by omega
        · exact ⟨e1, HC4.out.cell 0, rfl⟩
        · exact ⟨e2, HC4.out.cell 1, rfl⟩
        · exact ⟨e3, HC4.out.cell 2, rfl⟩
      have HS := Lib.hid hst
      have t1 : (n : Int) < 3 := by omega
      clear hst
      generalize fe3 e1 e2 e3 n = f at *
      by_cases hf : f = 0
      · have HS2 := Lib.hid (HS.out.trans (if_pos hf))
        subst hf
        clear HS
        go_wp2_with fail
        go_round
        case rel => exact ⟨n + 1, by omega, by go_num, by rw [HS2.out]⟩
        case measure => simp [intOf]; omega
      · have hq : (f == 0) = false := by simpa using hf
        have HS2 := Lib.hid (HS.out.trans (if_neg hf))
        clear HS
        go_wp2_with fail
        go_round
        case rel => exact ⟨n + 1, by omega, by go_num, by rw [HS2.out]⟩
        case measure => simp [intOf]; omega
    · obtain rfl : n = 3 := by omega
      have HE2 := Lib.hid HE.out.symm
      clear HE
      generalize fe3 e1 e2 e3 3 = f at *
      go_wp2_with fail
      go_ret
      exact ⟨by rw [HE2.out]; rfl, _, HV4.out, HT4.out.tg⟩
def StP (W : World) (x : CS) (e : Ending) (w : World) : Prop := (∃ v, e = .returned v ∧ RsOut W.heap.size w x v) ∧ Below W.heap.size W w
set_option maxRecDepth 100000 in
set_option maxHeartbeats 4000000 in
theorem vstate_any (W : World) (Fv : Nat → Prop) (C : VC) (V : VS) (h : VolAt W Fv C V) (hl : V.x.sl.length ≤ 1024) (hm : V.x.ms.length ≤ 100) :
    Calls Tryz.prog 26 #[.pointer (some ⟨C.v, 0, none⟩)] W (StP W V.x) := by
  obtain ⟨Fc, A, c, B, d, h⟩ := h
  obtain ⟨ii, hii, hy0, hy1, hy2⟩ := info_parts int_info
  obtain ⟨is, his, hz0, hz1, hz2⟩ := info_parts slot_info'
  have HH := Lib.hid h
  have hb1 : Below W.heap.size W (W.alloc (.cells #[.slice none 0 0, .int .i64 0, .slice none 0 0] 58)) := (Below.refl _ W).alloc (Nat.le_refl _) _
  have hR := Cs.new W 58 #[.slice none 0 0, .int .i64 0, .slice none 0 0]
  have HSZ : Hid ((W.alloc (.cells #[.slice none 0 0, .int .i64 0, .slice none 0 0] 58)).heap.size = W.heap.size + 1) := by show _ = _; simp
  clear h
  go_enter Tryz.func26, Tryz.ntmps26
  go_upto_region 1 with (fail)
  have HX1 := Lib.hid (HH.out.keep hb1)
  have HB1 := Lib.hid hb1
  have HR := Lib.hid hR
  clear hb1 hR HH
  generalize (W.alloc (.cells #[.slice none 0 0, .int .i64 0, .slice none 0 0] 58)) = W1 at *
  obtain ⟨c0, c1, c2, c3, c4, c5, c6, c7, c8, c9⟩ := HX1.out.cells
  have hA := Reads.of_own HX1.out.row
  have hB := HX1.out.mis
  generalize V.x = x at *
  obtain ⟨l, clk, ms⟩ := x
  dsimp only at hl hm c1 c2 c3 hA hB
  have hb2 : Below W1.heap.size W1 (W1.alloc (.cells #[.slice A l.length c, .int .i64 clk, .slice B ms.length d] 58)) := (Below.refl _ W1).alloc (Nat.le_refl _) _
  have hT := Cs.new W1 58 #[.slice A l.length c, .int .i64 clk, .slice B ms.length d]
  have HS2 : Hid ((W1.alloc (.cells #[.slice A l.length c, .int .i64 clk, .slice B ms.length d] 58)).heap.size = W1.heap.size + 1) := by show _ = _; simp
  clear c0 c4 c5 c6 c7 c8 c9 HX1
  go_upto_region 2 with (fail)
  clear c1 c2 c3
  have HA := Lib.hid (hA.keep hb2)
  have HBr := Lib.hid (hB.keep hb2)
  have HBr0 := Lib.hid hB
  have HR2 := Lib.hid (HR.out.below hb2 (by rw [HSZ.out]; omega))
  have HB2 := Lib.hid (HB1.out.trans (hb2.mono (by rw [HSZ.out]; omega)))
  clear hA hB hb2 HR HB1
  obtain ⟨t, ht⟩ : ∃ t, W1.heap.size = t := ⟨_, rfl⟩
  have hts : t = W.heap.size + 1 := by rw [← ht, HSZ.out]
  rw [ht] at hT HS2 ⊢
  have HTS := Lib.hid hts
  have HBr0' : Hid ((iv ms).length ≠ 0 → ∀ p, B = some p → p.block < t) := fun h0 p hp => by
    obtain ⟨b, o, eb, hlt, -⟩ := HBr0.out h0
    rw [hp] at eb; injection eb with eb; subst eb
    show b < t
    omega
  clear ht hts HSZ HBr0
  generalize (W1.alloc (.cells #[.slice A l.length c, .int .i64 clk, .slice B ms.length d] 58)) = W2 at *
  have HT2 := Lib.hid hT
  obtain ⟨p0, p1, p2⟩ := hT.three
  have f0 := hT.free 0
  have f2 := hT.free 2
  clear hT
  go_upto_region 3 with (at_builtin; refine wpList_append_reads _ (by rfl) (.const (.slice none 0 0)) (.tmp 10) _ (by rfl) W2.heap.size 31 is _ 4 24 Tryz.underlying56 his hz0 hz1 hz2 (by rfl) (by omega) (.slice none 0 0) 0 [] (by rfl) (World.ownsRow_nil _ _ _ _) A l.length c (scs l) (by rfl) (by rw [scs_length]) HA.out (scs_one l) (by simp only [maxLen]; omega) (by omega) (Nat.le_refl _) ?_; intro v5 w5 hown5 hg5 hat5; rw [Nat.zero_add, List.nil_append] at hown5; obtain ⟨A5, c5, hv5⟩ := own_form hown5; subst hv5; have hb5 := (Below.refl W2.heap.size W2).grown hg5 (Nat.le_refl _) (fun j e => by simp [Value.ownBlock] at e); have hT5 := HT2.out.grown hg5 (by simp [Value.ownBlock]); have f0 := hT5.free 0; obtain ⟨p0, p1, p2⟩ := hT5.three; have HT5 := Lib.hid hT5; have HB5 := Lib.hid hb5; have HO5 := Lib.hid hown5; clear hown5 hg5 hat5 hT5 hb5)
  have hT6 : Cs (w5.setCell ⟨t, 0, none⟩ (.slice A5 l.length c5)) t 58 #[.slice A5 l.length c5, .int .i64 clk, .slice B ms.length d] := Cs.put (l := [_, _, _]) HT5.out _
  have HO6 := Lib.hid (own_off (i := 0) HO5.out (b := t) (fun g hg e => by have := (HO5.out.lt g hg).1; have := HS2.out; have := HTS.out; subst e; omega) (.slice A5 l.length c5))
  have HB6 : Hid (Below (W.heap.size + 1) W2 (w5.setCell ⟨t, 0, none⟩ (.slice A5 l.length c5))) := ((HB5.out.mono (by rw [HS2.out, HTS.out]; omega)).setCell (p := ⟨t, 0, none⟩) (by show W.heap.size + 1 ≤ t; rw [HTS.out]; omega) _)
  have HBr6 := Lib.hid ((HBr.out.keep HB5.out).fr (fr_set w5 t 0 (.slice A5 l.length c5)) (fun h0 p hp e => by
    have := HBr0'.out h0 p hp
    omega))
  clear p0 p1 p2 f0 f2 HT5 HO5 HB5 HA HT2
  generalize (w5.setCell ⟨t, 0, none⟩ (.slice A5 l.length c5)) = w6 at *
  have HT6 := Lib.hid hT6
  obtain ⟨p0, p1, p2⟩ := hT6.three
  have f2 := hT6.free 2
  have HSZ6 : Hid (W2.heap.size ≤ w6.heap.size) := HB6.out.size
  clear hT6
  go_upto_region 4 with (at_builtin; refine wpList_append_reads _ (by rfl) (.const (.slice none 0 0)) (.tmp 14) _ (by rfl) w6.heap.size 3 ii _ 1 8 Tryz.underlying22 hii hy0 hy1 hy2 (by rfl) (by omega) (.slice none 0 0) 0 [] (by rfl) (World.ownsRow_nil _ _ _ _) B ms.length d (iv ms) (by rfl) (by rw [iv_length, Nat.mul_one]) HBr6.out (iv_one ms) (by simp only [maxLen]; omega) (by omega) (Nat.le_refl _) ?_; intro v7 w7 hown7 hg7 hat7; rw [Nat.zero_add, List.nil_append] at hown7; obtain ⟨A7, c7, hv7⟩ := own_form hown7; subst hv7; have hb7 := (Below.refl w6.heap.size w6).grown hg7 (Nat.le_refl _) (fun j e => by simp [Value.ownBlock] at e); have hT7 := HT6.out.grown hg7 (by simp [Value.ownBlock]); have f2 := hT7.free 2; obtain ⟨p0, p1, p2⟩ := hT7.three; have HT7 := Lib.hid hT7; have HB7 := Lib.hid hb7; have HO7 := Lib.hid hown7; clear hown7 hg7 hat7 hT7 hb7)
  have hT8 : Cs (w7.setCell ⟨t, 2, none⟩ (.slice A7 ms.length c7)) t 58 #[.slice A5 l.length c5, .int .i64 clk, .slice A7 ms.length c7] := Cs.put (l := [_, _, _]) HT7.out _
  have HO8 := Lib.hid (own_off (i := 2) HO7.out (b := t) (fun g hg e => by have := (HO7.out.lt g hg).1; have := HS2.out; have := HTS.out; have := HSZ6.out; subst e; omega) (.slice A7 ms.length c7))
  have HOS8 := Lib.hid (own_off (i := 2) (own_keepB HO6.out HB7.out) (b := t) (fun g hg e => by have := (HO6.out.lt g hg).1; have := HS2.out; have := HTS.out; subst e; omega) (.slice A7 ms.length c7))
  have HB8 : Hid (Below (W.heap.size + 1) W2 (w7.setCell ⟨t, 2, none⟩ (.slice A7 ms.length c7))) := ((HB6.out.trans (HB7.out.mono (by have := HSZ6.out; have := HS2.out; have := HTS.out; omega))).setCell (p := ⟨t, 2, none⟩) (by show W.heap.size + 1 ≤ t; rw [HTS.out]; omega) _)
  clear p0 p1 p2 f2 HT6 HT7 HO6 HO7 HB6 HB7 HBr HBr6
  generalize (w7.setCell ⟨t, 2, none⟩ (.slice A7 ms.length c7)) = w8 at *
  have HR8 := Lib.hid (HR2.out.below HB8.out (Nat.lt_succ_self _))
  have HW8 : Hid (Below W.heap.size W w8) := HB2.out.trans (HB8.out.mono (by omega))
  obtain ⟨p0, p1, p2⟩ := hT8.three
  obtain ⟨r0, r1, r2⟩ := HR8.out.three
  have g0 := HR8.out.free 0
  have g1 := HR8.out.free 1
  have g2 := HR8.out.free 2
  clear hT8
  go_wp2_with fail
  refine bodyPost_ret (res_state rfl _ _ W.heap.size _ _ _ rfl (run_load_state _ _ _ _ _ (Cs.put3 HR8.out _ _ _))) rfl ?_
  refine ⟨⟨_, rfl, A5, l.length, c5, ms.length, A7, c7, rfl, rfl, rfl, ?_, ?_⟩, below_put3 HW8.out (Nat.le_refl _) _ _ _⟩
  · exact own_lower (own_put3 HOS8.out (by have := HS2.out; have := HTS.out; omega) _ _ _) (by have := HS2.out; have := HTS.out; omega)
  · exact own_lower (own_put3 HO8.out (by have := HSZ6.out; have := HS2.out; have := HTS.out; omega) _ _ _) (by have := HSZ6.out; have := HS2.out; have := HTS.out; omega)
end Go.Proofs.YtogchafnnkajfaaGreat
namespace Go.Proofs.YtogchafnnkajfaaGreat
set_option linter.unusedVariables false
open Go.RowKit
attribute [local go_sem] Oper.semAt_some
def BeginK (W : World) (F : Nat → Prop) (g sp m k c : Nat) (A : Option Addr) (chunk mode : Int) (n : Nat) (S : DS) (e : Ending) (W' : World) : Prop :=
  e = .returned (.int .i64 0) ∧ ∃ F', DskAt W' F' g (S.first 2 n (hdI k chunk mode true)) ∧
    Cs W' m 160 #[spanV sp, .slice A k c, .int .i64 chunk, .int .i64 mode, .bool true] ∧ Fr (fun j => F j ∨ j = m) W W' ∧ ∀ j, F' j → F j ∨ W.heap.size ≤ j
set_option maxRecDepth 100000 in
set_option maxHeartbeats 2000000 in
theorem begin1K (W : World) (F : Nat → Prop) (g sp n m k c : Nat) (A : Option Addr) (chunk mode0 : Int) (op : Bool) (S : DS) (h : DskAt W F g S) (hs : SpanAt W sp g 2 n) (hsp : ¬ F sp) (hmF : ¬ F m) (hspm : sp ≠ m) (hC : Cs W m 160 #[spanV sp, .slice A k c, .int .i64 chunk, .int .i64 mode0, .bool op])
    (hy : S.firstR 2 n (hdI k chunk 1 true) = 0) (h1 : 1 ≤ n) (hn2 : n ≤ 65536) (hk : k ≤ 1024) (hlog : S.log.length < 1000000) (hwr : S.wr ≤ 1000000) :
    Calls Tryz.prog 114 #[.pointer (some ⟨m, 0, none⟩), .int .i64 1] W (BeginK W F g sp m k c A chunk 1 n S) := by
  have x0 : W.cell? ⟨m, 0, none⟩ = some (.iface 176 (.pointer (some ⟨sp, 0, none⟩))) := hC.cell 0
  have x1 : W.cell? ⟨m, 1, none⟩ = some (.slice A k c) := hC.cell 1
  have x2 : W.cell? ⟨m, 2, none⟩ = some (.int .i64 chunk) := hC.cell 2
  have x3 : W.cell? ⟨m, 3, none⟩ = some (.int .i64 mode0) := hC.cell 3
  have x4 : W.cell? ⟨m, 4, none⟩ = some (.bool op) := hC.cell 4
  have HDt := Lib.hid h.tight
  have HS := Lib.hid hs
  have HC := Lib.hid hC
  have HSP := Lib.hid hsp
  have hml := hC.lt
  have hspl := Cs.lt hs
  have HF := Lib.hid hy
  have hvl := hdI_lt k chunk 1 true
  clear h hs hC hsp hy
  go_enter Tryz.func114, Tryz.ntmps114
  go_wp2_with fail
  have hb0 : Below W.heap.size W (W.alloc (.cells #[.iface 176 (.pointer (some ⟨sp, 0, none⟩)), .slice A k c, .int .i64 chunk, .int .i64 1, .bool true] 160)) := (Below.refl _ W).alloc (Nat.le_refl _) _
  have hCn := Cs.new W 160 #[.iface 176 (.pointer (some ⟨sp, 0, none⟩)), .slice A k c, .int .i64 chunk, .int .i64 1, .bool true]
  refine (mhead_any _ W.heap.size k c A _ chunk 1 true hCn (by omega)).mono ?_
  rintro e w1 ⟨rfl, hb1⟩
  have hb01 : Below W.heap.size W w1 := hb0.trans (hb1.mono hb0.size)
  have HC1 := Lib.hid (hCn.below hb1 hCn.lt)
  have HB := Lib.hid hb01
  clear hb0 hb1 hCn hb01
  go_wp2_with fail
  have hnF : ¬ (F W.heap.size ∧ W.heap.size < W.heap.size) := fun hh => by omega
  have hspF : ¬ (F sp ∧ sp < W.heap.size) := fun hh => HSP.out hh.1
  have hmF2 : ¬ (F m ∧ m < W.heap.size) := fun hh => hmF hh.1
  have HCm := Lib.hid (HC.out.below HB.out hml)
  refine (first_any w1 _ g sp 2 n W.heap.size (hdI k chunk 1 true) _ _ _ _ _ (HDt.out.keep HB.out) (Cs.below HS.out HB.out hspl) hspF HC1.out hnF hn2 hvl (by omega) (by omega)).mono ?_
  rintro e w2 ⟨rfl, F2, hd2, ht2⟩
  rw [HF.out]
  have HD2 := Lib.hid hd2
  have hCm2 := HCm.out.fr ht2.1 hmF2
  have hmw1 : m < w1.heap.size := HCm.out.lt
  have HM2 := Lib.hid (ht2.out hmw1 hmF2)
  have HT2 := Lib.hid (((Turn.of_below (F := fun j => F j ∧ j < W.heap.size) HB.out).trans ht2).tg)
  have f3 := hCm2.free 3
  have hC4 : Cs (w2.setCell ⟨m, 3, none⟩ (.int .i64 1)) m 160 #[spanV sp, .slice A k c, .int .i64 chunk, .int .i64 1, .bool op] := heap_setCell_same w2 m 3 _ _ (.int .i64 1) hCm2
  have f4 := hC4.free 4
  have y5 : (w2.setCell ⟨m, 3, none⟩ (.int .i64 1)).cell? ⟨m, 4, none⟩ = some (.bool op) := hC4.cell 4
  clear hC4
  have c3 := hCm2.cell 3
  have HC3 : Hid (Cs ((w2.setCell ⟨m, 3, none⟩ (.int .i64 1)).setCell ⟨m, 4, none⟩ (.bool true)) m 160 #[spanV sp, .slice A k c, .int .i64 chunk, .int .i64 1, .bool true]) := heap_setCell_same _ m 4 _ _ (.bool true) (heap_setCell_same w2 m 3 _ _ (.int .i64 1) hCm2)
  have y3 : w2.cell? ⟨m, 3, none⟩ = some (.int .i64 mode0) := c3
  have y4 : w2.cell? ⟨m, 4, none⟩ = some (.bool op) := hCm2.cell 4
  clear c3 ht2 hd2 HF hCm2
  go_wp2_with fail
  go_ret
  refine ⟨rfl, F2, ?_, HC3.out, ?_, HT2.out.2⟩
  · exact (HD2.out.fr (fr_set w2 m 3 _) (fun j hj e => HM2.out (e ▸ hj))).fr (fr_set _ m 4 _) (fun j hj e => HM2.out (e ▸ hj))
  · exact ((HT2.out.1.mono (H := fun j => F j ∨ j = m) (fun j _ hj => Or.inl hj)).set (.inl (.inr rfl)) _).set (.inl (.inr rfl)) _
set_option maxRecDepth 100000 in
set_option maxHeartbeats 2000000 in
theorem begin2K (W : World) (F : Nat → Prop) (g sp n m k c : Nat) (A : Option Addr) (chunk mode0 : Int) (op : Bool) (S : DS) (h : DskAt W F g S) (hs : SpanAt W sp g 2 n) (hsp : ¬ F sp) (hmF : ¬ F m) (hspm : sp ≠ m) (hC : Cs W m 160 #[spanV sp, .slice A k c, .int .i64 chunk, .int .i64 mode0, .bool op])
    (hy : S.firstR 2 n (hdI k chunk 2 true) = 0) (h1 : 1 ≤ n) (hn2 : n ≤ 65536) (hk : k ≤ 1024) (hlog : S.log.length < 1000000) (hwr : S.wr ≤ 1000000) :
    Calls Tryz.prog 114 #[.pointer (some ⟨m, 0, none⟩), .int .i64 2] W (BeginK W F g sp m k c A chunk 2 n S) := by
  have x0 : W.cell? ⟨m, 0, none⟩ = some (.iface 176 (.pointer (some ⟨sp, 0, none⟩))) := hC.cell 0
  have x1 : W.cell? ⟨m, 1, none⟩ = some (.slice A k c) := hC.cell 1
  have x2 : W.cell? ⟨m, 2, none⟩ = some (.int .i64 chunk) := hC.cell 2
  have x3 : W.cell? ⟨m, 3, none⟩ = some (.int .i64 mode0) := hC.cell 3
  have x4 : W.cell? ⟨m, 4, none⟩ = some (.bool op) := hC.cell 4
  have HDt := Lib.hid h.tight
  have HS := Lib.hid hs
  have HC := Lib.hid hC
  have HSP := Lib.hid hsp
  have hml := hC.lt
  have hspl := Cs.lt hs
  have HF := Lib.hid hy
  have hvl := hdI_lt k chunk 2 true
  clear h hs hC hsp hy
  go_enter Tryz.func114, Tryz.ntmps114
  go_wp2_with fail
  have hb0 : Below W.heap.size W (W.alloc (.cells #[.iface 176 (.pointer (some ⟨sp, 0, none⟩)), .slice A k c, .int .i64 chunk, .int .i64 2, .bool true] 160)) := (Below.refl _ W).alloc (Nat.le_refl _) _
  have hCn := Cs.new W 160 #[.iface 176 (.pointer (some ⟨sp, 0, none⟩)), .slice A k c, .int .i64 chunk, .int .i64 2, .bool true]
  refine (mhead_any _ W.heap.size k c A _ chunk 2 true hCn (by omega)).mono ?_
  rintro e w1 ⟨rfl, hb1⟩
  have hb01 : Below W.heap.size W w1 := hb0.trans (hb1.mono hb0.size)
  have HC1 := Lib.hid (hCn.below hb1 hCn.lt)
  have HB := Lib.hid hb01
  clear hb0 hb1 hCn hb01
  go_wp2_with fail
  have hnF : ¬ (F W.heap.size ∧ W.heap.size < W.heap.size) := fun hh => by omega
  have hspF : ¬ (F sp ∧ sp < W.heap.size) := fun hh => HSP.out hh.1
  have hmF2 : ¬ (F m ∧ m < W.heap.size) := fun hh => hmF hh.1
  have HCm := Lib.hid (HC.out.below HB.out hml)
  refine (first_any w1 _ g sp 2 n W.heap.size (hdI k chunk 2 true) _ _ _ _ _ (HDt.out.keep HB.out) (Cs.below HS.out HB.out hspl) hspF HC1.out hnF hn2 hvl (by omega) (by omega)).mono ?_
  rintro e w2 ⟨rfl, F2, hd2, ht2⟩
  rw [HF.out]
  have HD2 := Lib.hid hd2
  have hCm2 := HCm.out.fr ht2.1 hmF2
  have hmw1 : m < w1.heap.size := HCm.out.lt
  have HM2 := Lib.hid (ht2.out hmw1 hmF2)
  have HT2 := Lib.hid (((Turn.of_below (F := fun j => F j ∧ j < W.heap.size) HB.out).trans ht2).tg)
  have f3 := hCm2.free 3
  have hC4 : Cs (w2.setCell ⟨m, 3, none⟩ (.int .i64 2)) m 160 #[spanV sp, .slice A k c, .int .i64 chunk, .int .i64 2, .bool op] := heap_setCell_same w2 m 3 _ _ (.int .i64 2) hCm2
  have f4 := hC4.free 4
  have y5 : (w2.setCell ⟨m, 3, none⟩ (.int .i64 2)).cell? ⟨m, 4, none⟩ = some (.bool op) := hC4.cell 4
  clear hC4
  have c3 := hCm2.cell 3
  have HC3 : Hid (Cs ((w2.setCell ⟨m, 3, none⟩ (.int .i64 2)).setCell ⟨m, 4, none⟩ (.bool true)) m 160 #[spanV sp, .slice A k c, .int .i64 chunk, .int .i64 2, .bool true]) := heap_setCell_same _ m 4 _ _ (.bool true) (heap_setCell_same w2 m 3 _ _ (.int .i64 2) hCm2)
  have y3 : w2.cell? ⟨m, 3, none⟩ = some (.int .i64 mode0) := c3
  have y4 : w2.cell? ⟨m, 4, none⟩ = some (.bool op) := hCm2.cell 4
  clear c3 ht2 hd2 HF hCm2
  go_wp2_with fail
  go_ret
  refine ⟨rfl, F2, ?_, HC3.out, ?_, HT2.out.2⟩
  · exact (HD2.out.fr (fr_set w2 m 3 _) (fun j hj e => HM2.out (e ▸ hj))).fr (fr_set _ m 4 _) (fun j hj e => HM2.out (e ▸ hj))
  · exact ((HT2.out.1.mono (H := fun j => F j ∨ j = m) (fun j _ hj => Or.inl hj)).set (.inl (.inr rfl)) _).set (.inl (.inr rfl)) _
def EndK (W : World) (F : Nat → Prop) (g sp m k c : Nat) (A : Option Addr) (chunk mode : Int) (n : Nat) (S : DS) (e : Ending) (W' : World) : Prop :=
  e = .returned (.int .i64 0) ∧ ∃ F', DskAt W' F' g ((S.flush 2).first 2 n (hdI k chunk mode false)) ∧
    Cs W' m 160 #[spanV sp, .slice A k c, .int .i64 chunk, .int .i64 mode, .bool false] ∧ Fr (fun j => F j ∨ j = m) W W' ∧ ∀ j, F' j → F j ∨ W.heap.size ≤ j
set_option maxRecDepth 100000 in
set_option maxHeartbeats 2000000 in
theorem endK (W : World) (F : Nat → Prop) (g sp n m k c : Nat) (A : Option Addr) (chunk mode : Int) (op : Bool) (S : DS) (h : DskAt W F g S) (hs : SpanAt W sp g 2 n) (hsp : ¬ F sp) (hmF : ¬ F m) (hC : Cs W m 160 #[spanV sp, .slice A k c, .int .i64 chunk, .int .i64 mode, .bool op])
    (hcf : S.chkF 2 = 0) (hy : (S.flush 2).firstR 2 n (hdI k chunk mode false) = 0) (hlog2 : (S.flush 2).log.length < 1000000) (hwr2 : (S.flush 2).wr ≤ 1000000) (h1 : 1 ≤ n) (hn2 : n ≤ 65536) (hk : k ≤ 1024) (hlog : S.log.length < 1000000) (hwr : S.wr ≤ 1000000) :
    Calls Tryz.prog 55 #[.pointer (some ⟨m, 0, none⟩)] W (EndK W F g sp m k c A chunk mode n S) := by
  have x0 : W.cell? ⟨m, 0, none⟩ = some (.iface 176 (.pointer (some ⟨sp, 0, none⟩))) := hC.cell 0
  have HF := Lib.hid hy
  have hvl := hdI_lt k chunk mode false
  go_enter Tryz.func55, Tryz.ntmps55
  go_wp2_with fail
  rw [m_flush]
  go_wp2_with fail
  refine (sflush_any W F g sp 2 n _ h hs hsp (by omega)).mono ?_
  rintro e w0 ⟨rfl, F0, hd0, ht0⟩
  rw [show ((2 : Nat) : Int) = 2 from rfl] at hd0
  rw [show ((2 : Nat) : Int) = 2 from rfl, hcf]
  have HDt := Lib.hid hd0.tight
  have HS : Hid (SpanAt w0 sp g 2 n) := Cs.fr hs ht0.1 hsp
  have HSP := Lib.hid (ht0.out (Cs.lt hs) hsp)
  have hM0 := ht0.out hC.lt hmF
  have HC := Lib.hid (hC.fr ht0.1 hmF)
  have HT0 := Lib.hid ht0
  have hml := HC.out.lt
  have hspl := Cs.lt HS.out
  have y0 : w0.cell? ⟨m, 0, none⟩ = some (.iface 176 (.pointer (some ⟨sp, 0, none⟩))) := HC.out.cell 0
  have y1 : w0.cell? ⟨m, 1, none⟩ = some (.slice A k c) := HC.out.cell 1
  have y2 : w0.cell? ⟨m, 2, none⟩ = some (.int .i64 chunk) := HC.out.cell 2
  have y3 : w0.cell? ⟨m, 3, none⟩ = some (.int .i64 mode) := HC.out.cell 3
  have y4 : w0.cell? ⟨m, 4, none⟩ = some (.bool op) := HC.out.cell 4
  clear h hs hC hsp hy hd0 ht0 x0
  go_wp2_with fail
  have hb0 : Below w0.heap.size w0 (w0.alloc (.cells #[.iface 176 (.pointer (some ⟨sp, 0, none⟩)), .slice A k c, .int .i64 chunk, .int .i64 mode, .bool false] 160)) := (Below.refl _ w0).alloc (Nat.le_refl _) _
  have hCn := Cs.new w0 160 #[.iface 176 (.pointer (some ⟨sp, 0, none⟩)), .slice A k c, .int .i64 chunk, .int .i64 mode, .bool false]
  refine (mhead_any _ w0.heap.size k c A _ chunk mode false hCn (by omega)).mono ?_
  rintro e w1 ⟨rfl, hb1⟩
  have hb01 : Below w0.heap.size w0 w1 := hb0.trans (hb1.mono hb0.size)
  have HC1 := Lib.hid (hCn.below hb1 hCn.lt)
  have HB := Lib.hid hb01
  clear hb0 hb1 hCn hb01
  go_wp2_with fail
  have hnF : ¬ (F0 w0.heap.size ∧ w0.heap.size < w0.heap.size) := fun hh => by omega
  have hspF : ¬ (F0 sp ∧ sp < w0.heap.size) := fun hh => HSP.out hh.1
  have hmF2 : ¬ (F0 m ∧ m < w0.heap.size) := fun hh => hM0 hh.1
  have HCm := Lib.hid (HC.out.below HB.out hml)
  refine (first_any w1 _ g sp 2 n w0.heap.size (hdI k chunk mode false) _ _ _ _ _ (HDt.out.keep HB.out) (Cs.below HS.out HB.out hspl) hspF HC1.out hnF hn2 hvl (by omega) (by omega)).mono ?_
  rintro e w2 ⟨rfl, F2, hd2, ht2⟩
  rw [HF.out]
  have HD2 := Lib.hid hd2
  have hCm2 := HCm.out.fr ht2.1 hmF2
  have hmw1 : m < w1.heap.size := HCm.out.lt
  have HM2 := Lib.hid (ht2.out hmw1 hmF2)
  have HT2 := Lib.hid (HT0.out.trans ((Turn.of_below (F := fun j => F0 j ∧ j < w0.heap.size) HB.out).trans ht2).tg)
  have f4 := hCm2.free 4
  have z4 : w2.cell? ⟨m, 4, none⟩ = some (.bool op) := hCm2.cell 4
  have HC3 : Hid (Cs (w2.setCell ⟨m, 4, none⟩ (.bool false)) m 160 #[spanV sp, .slice A k c, .int .i64 chunk, .int .i64 mode, .bool false]) := heap_setCell_same _ m 4 _ _ (.bool false) hCm2
  clear ht2 hd2 HF hCm2
  go_wp2_with fail
  go_ret
  refine ⟨rfl, F2, ?_, HC3.out, ?_, HT2.out.2⟩
  · exact HD2.out.fr (fr_set w2 m 4 _) (fun j hj e => HM2.out (e ▸ hj))
  · exact (HT2.out.1.mono (H := fun j => F j ∨ j = m) (fun j _ hj => Or.inl hj)).set (.inl (.inr rfl)) _
end Go.Proofs.YtogchafnnkajfaaGreat
namespace Go.Proofs.YtogchafnnkajfaaGreat
set_option linter.unusedVariables false
open Go.RowKit
attribute [local go_sem] Oper.semAt_some m_write m_read m_flush m_size
theorem cbeginK (W : World) (Fc : Nat → Prop) (g sp m n : Nat) (S : DS) (ss : List Sl) (chunk mode0 mode : Int) (op : Bool) (h : CacheAt W Fc g sp m n S ss chunk mode0 op) (hm : mode = 1 ∨ mode = 2)
    (hy : S.firstR 2 n (hdI ss.length chunk mode true) = 0) (h1 : 1 ≤ n) (hn2 : n ≤ 65536) (hk : ss.length ≤ 1024) (hlog : S.log.length < 1000000) (hwr : S.wr ≤ 1000000) :
    Calls Tryz.prog 114 #[.pointer (some ⟨m, 0, none⟩), .int .i64 mode] W fun e W' => e = .returned (.int .i64 0) ∧
      ∃ Fc', CacheAt W' Fc' g sp m n (S.first 2 n (hdI ss.length chunk mode true)) ss chunk mode true ∧ Turn Fc Fc' W W' := by
  obtain ⟨F, A, c, h⟩ := h
  have key : ∀ e W', BeginK W F g sp m ss.length c A chunk mode n S e W' → e = .returned (.int .i64 0) ∧
      ∃ Fc', CacheAt W' Fc' g sp m n (S.first 2 n (hdI ss.length chunk mode true)) ss chunk mode true ∧ Turn Fc Fc' W W' := by
    rintro e W' ⟨rfl, F', hd, hC, hf, hF⟩
    have hout : ∀ b, b < W.heap.size → ¬ F b → ¬ F' b := fun b hb hn hc => (hF b hc).elim hn (fun hl => by omega)
    have hspn : ¬ (F sp ∨ sp = m) := fun e => e.elim h.spF h.spm
    refine ⟨rfl, fun j => Fc j ∨ F' j, ⟨F', A, c, hd, fun j hj => .inr hj, Cs.fr h.span hf hspn, hout sp (Cs.lt h.span) h.spF, .inl h.spC, h.spm, hout m h.meta_.lt h.mF, .inl h.mC, hC,
      own_fr h.row hf (fun b hb e => e.elim (h.own b hb).1 (h.own b hb).2.2.1), fun b hb => ⟨hout b (own_lt h.row b hb) (h.own b hb).1, (h.own b hb).2.1, (h.own b hb).2.2.1, .inl (h.own b hb).2.2.2⟩⟩, ?_, ?_⟩
    · exact hf.mono (fun j _ hj => hj.elim (h.inF j) (fun e => e ▸ h.mC))
    · exact fun j hj => hj.elim .inl (fun hj => (hF j hj).elim (fun hj => .inl (h.inF j hj)) .inr)
  rcases hm with rfl | rfl
  · exact (begin1K W F g sp n m ss.length c A chunk mode0 op S h.dsk h.span h.spF h.mF h.spm h.meta_ hy h1 hn2 hk hlog hwr).mono key
  · exact (begin2K W F g sp n m ss.length c A chunk mode0 op S h.dsk h.span h.spF h.mF h.spm h.meta_ hy h1 hn2 hk hlog hwr).mono key
theorem cendK (W : World) (Fc : Nat → Prop) (g sp m n : Nat) (S : DS) (ss : List Sl) (chunk mode : Int) (op : Bool) (h : CacheAt W Fc g sp m n S ss chunk mode op)
    (hcf : S.chkF 2 = 0) (hy : (S.flush 2).firstR 2 n (hdI ss.length chunk mode false) = 0) (h1 : 1 ≤ n) (hn2 : n ≤ 65536) (hk : ss.length ≤ 1024) (hlog : S.log.length < 1000000) (hwr : S.wr ≤ 1000000) :
    Calls Tryz.prog 55 #[.pointer (some ⟨m, 0, none⟩)] W fun e W' => e = .returned (.int .i64 0) ∧
      ∃ Fc', CacheAt W' Fc' g sp m n ((S.flush 2).first 2 n (hdI ss.length chunk mode false)) ss chunk mode false ∧ Turn Fc Fc' W W' := by
  obtain ⟨F, A, c, h⟩ := h
  have hfl := flush_log S 2
  refine (endK W F g sp n m ss.length c A chunk mode op S h.dsk h.span h.spF h.mF h.meta_ hcf hy (by omega) (by rw [hfl.2]; exact hwr) h1 hn2 hk hlog hwr).mono ?_
  rintro e W' ⟨rfl, F', hd, hC, hf, hF⟩
  have hout : ∀ b, b < W.heap.size → ¬ F b → ¬ F' b := fun b hb hn hc => (hF b hc).elim hn (fun hl => by omega)
  have hspn : ¬ (F sp ∨ sp = m) := fun e => e.elim h.spF h.spm
  refine ⟨rfl, fun j => Fc j ∨ F' j, ⟨F', A, c, hd, fun j hj => .inr hj, Cs.fr h.span hf hspn, hout sp (Cs.lt h.span) h.spF, .inl h.spC, h.spm, hout m h.meta_.lt h.mF, .inl h.mC, hC,
    own_fr h.row hf (fun b hb e => e.elim (h.own b hb).1 (h.own b hb).2.2.1), fun b hb => ⟨hout b (own_lt h.row b hb) (h.own b hb).1, (h.own b hb).2.1, (h.own b hb).2.2.1, .inl (h.own b hb).2.2.2⟩⟩, ?_, ?_⟩
  · exact hf.mono (fun j _ hj => hj.elim (h.inF j) (fun e => e ▸ h.mC))
  · exact fun j hj => hj.elim .inl (fun hj => (hF j hj).elim (fun hj => .inl (h.inF j hj)) .inr)
def VS.clnF (C : VC) : Nat → VS → Nat → Int × Int × VS
  | 0, V, i => ((i : Int), 0, V)
  | m + 1, V, i => if V.x.oldest < 0 then ((i : Int), 0, V) else if V.clE C V.x.oldest.toNat (V.x.at_ V.x.oldest.toNat).block.toNat (V.x.at_ V.x.oldest.toNat) ≠ 0 then ((i : Int), V.clE C V.x.oldest.toNat (V.x.at_ V.x.oldest.toNat).block.toNat (V.x.at_ V.x.oldest.toNat), V.clV C V.x.oldest.toNat (V.x.at_ V.x.oldest.toNat).block.toNat (V.x.at_ V.x.oldest.toNat))
    else VS.clnF C m (V.clV C V.x.oldest.toNat (V.x.at_ V.x.oldest.toNat).block.toNat (V.x.at_ V.x.oldest.toNat)) (i + 1)
theorem Bd.cl {C : VC} {V V' : VS} {n c : Nat} (h : Bd V V' n c) (k b : Nat) (x : Sl) (hx : V'.x.sl[k]? = some x) (hv : x.valid = true) : Bd V (V'.clV C k b x) (n + C.chunk + 1) c := by
  have h1 := h.cb (C := C) k b
  have h2 : Bd V ((V'.cbV C k b).setV C k { x with dirty := false }) (n + C.chunk + 1) c := h1.st (C := C) k _ (by
    have := h.ok.setD k x hx hv false
    unfold CS.setD at this
    rw [CS.at_eq hx] at this
    exact this)
  unfold VS.clV
  split
  · exact h1.mono (by omega) (Nat.le_refl _)
  · split
    · exact h2
    · exact h2.fl 2
theorem oldest_at {s : CS} (h : s.Ok) (ho : ¬ s.oldest < 0) : ∃ (k : Nat) (x : Sl), s.oldest = (k : Int) ∧ s.sl[k]? = some x ∧ x.dirty = true ∧ x.valid = true := by
  have hr := leastTo_range (fun x => x.dirty) s.sl s.sl.length (Nat.le_refl _)
  have hp := leastTo_p (fun x => x.dirty) s.sl s.sl.length (Nat.le_refl _) (by show 0 ≤ s.oldest; omega)
  change s.oldest = -1 ∨ (0 ≤ s.oldest ∧ s.oldest < _) at hr
  change (s.sl[s.oldest.toNat]?.getD nilS).dirty = true at hp
  rcases hr with hr | hr
  · omega
  · have hl : s.oldest.toNat < s.sl.length := by omega
    refine ⟨s.oldest.toNat, s.sl[s.oldest.toNat], by omega, List.getElem?_eq_getElem hl, ?_, ?_⟩
    · rw [List.getElem?_eq_getElem hl] at hp
      exact hp
    · rw [List.getElem?_eq_getElem hl] at hp
      rcases hv : (s.sl[s.oldest.toNat]).valid with _ | _
      · have := h.nl _ (List.getElem_mem hl) hv
        rw [Option.getD_some, this] at hp
        cases hp
      · rfl
theorem vclean_neg (W : World) (Fv : Nat → Prop) (C : VC) (V : VS) (n : Int) (h : VolAt W Fv C V) (hc : V.closed = false) (hn : n < 0) :
    Calls Tryz.prog 47 #[.pointer (some ⟨C.v, 0, none⟩), .int .i64 n] W fun e w' => e = .returned (.tuple #[.int .i64 0, .int .i64 1]) ∧ W = w' := by
  obtain ⟨Fc, A, c, B, d, h⟩ := h
  obtain ⟨-, -, -, -, -, -, -, -, -, c9⟩ := h.cells
  rw [hc] at c9
  clear h hc
  go_enter Tryz.func47, Tryz.ntmps47
  go_wp2_with fail
  go_ret2
  exact ⟨rfl, rfl⟩
set_option maxRecDepth 100000 in
set_option maxHeartbeats 4000000 in
theorem vcleann_any (W : World) (Fv : Nat → Prop) (C : VC) (V : VS) (n : Nat) (h : VolAt W Fv C V) (hok : V.x.Ok) (hlen : V.x.sl.length = V.ss.length) (hclo : V.closed = false) (hn : n ≤ 1024)
    (hch : C.chunk ≤ 127) (hn0 : C.n0 ≤ 65536) (hn1 : C.n1 ≤ 65536) (hn2 : C.n2 ≤ 65536) (hlog : V.S.log.length + n * (C.chunk + 1) + C.chunk < 999990) (hwr : V.S.wr + (n * (C.chunk + 1) : Nat) + C.chunk ≤ 999990) :
    Calls Tryz.prog 47 #[.pointer (some ⟨C.v, 0, none⟩), .int .i64 (n : Int)] W (SlP W Fv C (VS.clnF C n V 0)) := by
  have hln := hok.len
  have HH := Lib.hid h
  have HB0 := Lib.hid (Bd.refl hok hlen)
  have hE : VS.clnF C n V 0 = VS.clnF C n V 0 := rfl
  generalize hR : VS.clnF C n V 0 = rR at *
  have HR := Lib.hid hR
  obtain ⟨Fc, A, c, B, d, h0⟩ := h
  obtain ⟨-, -, -, -, -, -, -, -, -, c9⟩ := h0.cells
  rw [hclo] at c9
  have t0 : ¬ (n : Int) < 0 := by omega
  have HLW : Hid (V.S.log.length + n * (C.chunk + 1) + C.chunk < 999990 ∧ V.S.wr + (n * (C.chunk + 1) : Nat) + C.chunk ≤ 999990) := ⟨hlog, hwr⟩
  clear hE hR h0 hok hlen hclo hlog hwr
  go_enter Tryz.func47, Tryz.ntmps47
  go_wp2_with fail
  clear c9
  go_loopw [18] (fun z wr => ∃ (i : Nat) (V' : VS) (Fv' : Nat → Prop), z = .int .i64 i ∧ i ≤ n ∧ VS.clnF C (n - i) V' i = rR ∧ Bd V V' (i * (C.chunk + 1)) 0 ∧ VolAt wr Fv' C V' ∧ Turn Fv Fv' W wr) (fun z _ => n - (intOf z).toNat)
  case atStart => exact ⟨0, V, Fv, rfl, Nat.zero_le _, HR.out, by rw [Nat.zero_mul]; exact HB0.out, HH.out, Turn.refl _ _⟩
  case round =>
    clear HR HB0 HH
    obtain ⟨i, V', Fv', rfl, hi, hr, hbd, hv, ht⟩ := hrel
    have HT := Lib.hid ht
    have HBD := Lib.hid hbd
    have HRR := Lib.hid hr
    by_cases hlt : i < n
    · obtain ⟨m, hm⟩ : ∃ m, n - i = m + 1 := ⟨n - i - 1, by omega⟩
      rw [hm] at hr
      have HR1 := Lib.hid hr
      have u1 : (i : Int) < (n : Int) := by omega
      have e1 : IntKind.i64.wrap ((i : Int) + 1) = ((i + 1 : Nat) : Int) := by rw [IntWalk.i64_in _ (by omega)]; rfl
      have hmul : i * (C.chunk + 1) + (C.chunk + 1) ≤ n * (C.chunk + 1) := by
        have := Nat.mul_le_mul_right (C.chunk + 1) (show i + 1 ≤ n by omega)
        rwa [Nat.add_mul, Nat.one_mul] at this
      have hlw := HLW.out
      obtain ⟨Fc, A, c, B, d, h⟩ := hv
      have hv : VolAt wr Fv' C V' := ⟨_, _, _, _, _, h⟩
      have HV := Lib.hid hv
      obtain ⟨c0, c1, c2, c3, c4, c5, c6, c7, c8, c9⟩ := h.cells
      have HOL := Lib.hid (coldest_any wr A B V'.x.sl.length c V'.x.ms.length d V'.x hbd.ok rfl rfl (Reads.of_own h.row) h.mis)
      unfold csV at HOL
      clear hr hbd hv ht h c0 c4 c5 c6 c7 c8 c9 HRR
      go_upto_region 9 with (go_at_call 85; refine HOL.out.mono ?_; rintro e w1 ⟨rfl, hb1⟩)
      have HV1 := Lib.hid (HV.out.keep hb1)
      have HT1 := Lib.hid (HT.out.trans (Turn.of_below (F := Fv') hb1))
      clear HOL HV HT hb1 c1 c2 c3
      by_cases ho : V'.x.oldest < 0
      · have HE : Hid (rR = ((i : Int), 0, V')) := by
          show _ = _
          rw [← HR1.out, VS.clnF, if_pos ho]
        go_wp2_with fail
        go_ret2
        unfold SlP
        rw [HE.out]
        exact ⟨rfl, Fv', HV1.out, HT1.out⟩
      · obtain ⟨k, x, hk, hx, hxd, hxv⟩ := oldest_at HBD.out.ok ho
        have hE : rR = if V'.clE C k x.block.toNat x ≠ 0 then ((i : Int), V'.clE C k x.block.toNat x, V'.clV C k x.block.toNat x) else VS.clnF C m (V'.clV C k x.block.toNat x) (i + 1) := by
          rw [← HR1.out, VS.clnF, if_neg ho, hk, Int.toNat_natCast, CS.at_eq hx]
        have hbb := (HBD.out.ok.blk x (List.mem_of_getElem? hx) hxv).1
        have hbl := HBD.out.log
        have hbw := HBD.out.wr
        have hkl := (List.getElem?_eq_some_iff.1 hx).1
        have hsl := HBD.out.sll
        have hle := HBD.out.len
        have HCL := Lib.hid (vclean_any w1 Fv' C V' k x.block.toNat x HV1.out hx (by omega) hxv hle (by omega) (by omega) hch hn0 hn1 hn2 (by omega) (by omega))
        have HB2 := Lib.hid (HBD.out.cl (C := C) k x.block.toNat x hx hxv)
        have HE := Lib.hid hE
        rw [hk]
        have u2 : ¬ (k : Int) < 0 := by omega
        clear hE hk hx hxd hxv ho hbb hbl hbw hkl hsl hle HR1 HV1 HBD
        generalize V'.clE C k x.block.toNat x = e2 at *
        generalize V'.clV C k x.block.toNat x = V2 at *
        go_upto_region 12 with (go_at_call 86; refine HCL.out.mono ?_; rintro e w2 ⟨rfl, Fv2, hv2, ht2⟩; have HV2 := Lib.hid hv2; have HT2 := Lib.hid (HT1.out.trans ht2); clear hv2 ht2)
        clear HCL HT1
        by_cases h2 : e2 = 0
        rotate_left
        · have hq : (e2 != 0) = true := by simpa using h2
          have HE2 : Hid (rR = ((i : Int), e2, V2)) := HE.out.trans (if_pos h2)
          clear HE
          go_wp2_with fail
          go_ret2
          unfold SlP
          rw [HE2.out]
          exact ⟨rfl, Fv2, HV2.out, HT2.out⟩
        · have HE2 : Hid (rR = VS.clnF C m V2 (i + 1)) := HE.out.trans (if_neg (fun e => e h2))
          subst h2
          clear HE
          go_wp2_with fail
          go_roundw
          case rel => exact ⟨i + 1, V2, Fv2, by go_num, by omega, by rw [show n - (i + 1) = m by omega, HE2.out], HB2.out.mono (by rw [Nat.add_mul]; omega) (Nat.le_refl _), HV2.out, HT2.out⟩
          case measure => simp [intOf]; omega
    · have hin : n = i := by omega
      have HE : Hid (rR = ((n : Int), 0, V')) := by
        show _ = _
        rw [← HRR.out, hin, Nat.sub_self]
        rfl
      have HV := Lib.hid hv
      have u1 : ¬ (i : Int) < (n : Int) := by omega
      clear hr hbd hv ht HRR hin
      go_wp2_with fail
      go_ret2
      unfold SlP
      rw [HE.out]
      exact ⟨rfl, Fv', HV.out, HT.out⟩
end Go.Proofs.YtogchafnnkajfaaGreat
namespace Go.Proofs.YtogchafnnkajfaaGreat
set_option linter.unusedVariables false
open Go.RowKit
attribute [local go_sem] Oper.semAt_some m_write m_read m_flush m_size
def VS.frF (C : VC) : Nat → VS → Nat → Int × VS
  | 0, V, k => (0, V)
  | m + 1, V, k => if (V.x.at_ k).valid = true then (if V.freeE C k ≠ 0 then (V.freeE C k, V.freeV C k) else VS.frF C m (V.freeV C k) (k + 1)) else VS.frF C m V (k + 1)
def VS.dtc (C : VC) (V : VS) : Int × VS := bnd ((VS.clnF C V.x.sl.length V 0).2.1, (VS.clnF C V.x.sl.length V 0).2.2) (fun V1 => bnd (VS.frF C V1.x.sl.length V1 0) (fun V2 => (V2.S.chkF 0, { V2 with S := V2.S.flush 0 })))
theorem Bd.cln {C : VC} (m : Nat) : ∀ {V V' : VS} {n c : Nat}, Bd V V' n c → ∀ i, Bd V (VS.clnF C m V' i).2.2 (n + m * (C.chunk + 1)) c := by
  induction m with
  | zero => intro V V' n c h i; exact h.mono (by omega) (Nat.le_refl _)
  | succ m ih =>
    intro V V' n c h i
    rw [VS.clnF]
    split
    · exact h.mono (by omega) (Nat.le_refl _)
    · rename_i ho
      obtain ⟨k, x, hk, hx, hxd, hxv⟩ := oldest_at h.ok ho
      have hc := h.cl (C := C) k x.block.toNat x hx hxv
      rw [hk, Int.toNat_natCast, CS.at_eq hx]
      split
      · exact hc.mono (by rw [Nat.add_mul]; omega) (Nat.le_refl _)
      · exact (ih hc (i + 1)).mono (by rw [Nat.add_mul]; omega) (Nat.le_refl _)
set_option maxRecDepth 100000 in
set_option maxHeartbeats 4000000 in
theorem vdetach_any (W : World) (Fv : Nat → Prop) (C : VC) (V : VS) (h : VolAt W Fv C V) (hok : V.x.Ok) (hlen : V.x.sl.length = V.ss.length) (hclo : V.closed = false) (n : Nat) (hN : V.x.sl.length = n)
    (hch : C.chunk ≤ 127) (hn0 : C.n0 ≤ 65536) (hn1 : C.n1 ≤ 65536) (hn2 : C.n2 ≤ 65536) (hlog : V.S.log.length + n * (C.chunk + 2) + C.chunk < 999990) (hwr : V.S.wr + (n * (C.chunk + 2) : Nat) + C.chunk ≤ 999990) :
    Calls Tryz.prog 25 #[.pointer (some ⟨C.v, 0, none⟩)] W (VolP W Fv C (.int .i64 (V.dtc C).1) (V.dtc C).2) := by
  have hln := hok.len
  have hmn : n * (C.chunk + 2) = n * (C.chunk + 1) + n := by rw [show C.chunk + 2 = (C.chunk + 1) + 1 by omega, Nat.mul_add n (C.chunk + 1) 1, Nat.mul_one]
  rw [hmn] at hlog hwr
  have HCN := Lib.hid (vcleann_any W Fv C V n h hok hlen hclo (by omega) hch hn0 hn1 hn2 (by omega) (by omega))
  have hB1 := Bd.cln (C := C) n (Bd.refl hok hlen) 0
  have hE : V.dtc C = bnd ((VS.clnF C V.x.sl.length V 0).2.1, (VS.clnF C V.x.sl.length V 0).2.2) (fun V1 => bnd (VS.frF C V1.x.sl.length V1 0) (fun V2 => (V2.S.chkF 0, { V2 with S := V2.S.flush 0 }))) := rfl
  rw [hN] at hE
  generalize V.dtc C = rR at *
  generalize VS.clnF C n V 0 = q at *
  obtain ⟨qi, qe, V1⟩ := q
  dsimp only at hE hB1
  have HE := Lib.hid hE
  obtain ⟨Fc, A, c, B, d, h0⟩ := h
  obtain ⟨c0, c1, c2, c3, c4, c5, c6, c7, c8, c9⟩ := h0.cells
  rw [hN] at c1
  unfold SlP at HCN
  dsimp only at HCN
  have HB1 := Lib.hid hB1
  have HLW : Hid (V.S.log.length + (n * (C.chunk + 1) + n) + C.chunk < 999990 ∧ V.S.wr + (n * (C.chunk + 1) + n : Nat) + C.chunk ≤ 999990) := ⟨hlog, hwr⟩
  have HNL := Lib.hid hN
  have hn1k : n ≤ 1024 := by omega
  have hn1z : 1 ≤ n := by omega
  clear hE h0 hok hlen hclo hlog hwr c0 c2 c3 c4 c5 c6 c7 c8 c9 hB1 hN hmn hln
  go_enter Tryz.func25, Tryz.ntmps25
  go_upto_region 2 with (go_at_call 47; refine HCN.out.mono ?_; rintro e w1 ⟨rfl, Fv1, hv1, ht1⟩; have HV1 := Lib.hid hv1; have HT1 := Lib.hid ht1; clear hv1 ht1)
  clear HCN c1
  by_cases h1 : qe = 0
  rotate_left
  · have hq : (qe != 0) = true := by simpa using h1
    have HE1 : Hid (rR = (qe, V1)) := HE.out.trans (bnd_no h1)
    clear HE
    go_wp2_with fail
    go_ret
    rw [HE1.out]
    exact ⟨rfl, Fv1, HV1.out, HT1.out⟩
  have HE1 : Hid (rR = bnd (VS.frF C V1.x.sl.length V1 0) (fun V2 => (V2.S.chkF 0, { V2 with S := V2.S.flush 0 }))) := HE.out.trans (bnd_ok h1)
  subst h1
  clear HE
  have hsl1 : V1.x.sl.length = n := by rw [HB1.out.sll, HNL.out]
  rw [hsl1] at HE1
  obtain ⟨A1, c1', h1r⟩ := HV1.out.row
  obtain ⟨Fc, B, d, h⟩ := h1r
  obtain ⟨bR, rfl⟩ := h.form (by omega)
  have H1R : Hid (VolAtR w1 Fv1 C V1 (some ⟨bR, 0, none⟩) c1') := ⟨Fc, B, d, h⟩
  obtain ⟨c0, c1, c2, c3, c4, c5, c6, c7, c8, c9⟩ := h.cells
  rw [hsl1] at c1
  have HSL := Lib.hid hsl1
  clear HV1 h c0 c2 c3 c4 c5 c6 c7 c8 c9 hsl1
  go_wp2_with fail
  clear c1
  obtain ⟨q0, hq0⟩ : ∃ q0, VS.frF C n V1 0 = q0 := ⟨_, rfl⟩
  have HQ0 := Lib.hid hq0
  rw [hq0] at HE1
  clear hq0
  go_loopw [30] (fun z wr => ∃ (k : Nat) (V' : VS) (Fv' : Nat → Prop), z = .int .i64 k ∧ k ≤ n ∧ VS.frF C (n - k) V' k = q0 ∧ Bd V1 V' k 0 ∧ VolAtR wr Fv' C V' (some ⟨bR, 0, none⟩) c1' ∧ Turn Fv Fv' W wr) (fun z _ => n - (intOf z).toNat)
  case atStart => exact ⟨0, V1, Fv1, rfl, Nat.zero_le _, HQ0.out, Bd.refl HB1.out.ok HB1.out.len, H1R.out, HT1.out⟩
  case round =>
    clear H1R HT1 HQ0
    obtain ⟨k, V', Fv', rfl, hk, hr, hbd, hv, ht⟩ := hrel
    have HT := Lib.hid ht
    have HBD := Lib.hid hbd
    have HRR := Lib.hid hr
    have hbl := hbd.log
    have hbw := hbd.wr
    have hb1l := HB1.out.log
    have hb1w := HB1.out.wr
    have hlw := HLW.out
    have hsl : V'.x.sl.length = n := by rw [hbd.sll, HSL.out]
    have hle : n = V'.ss.length := by rw [← hsl]; exact hbd.len
    by_cases hlt : k < n
    · obtain ⟨m, hm⟩ : ∃ m, n - k = m + 1 := ⟨n - k - 1, by omega⟩
      rw [hm] at hr
      have u1 : (k : Int) < (n : Int) := by omega
      have e1 : IntKind.i64.wrap ((k : Int) + 1) = ((k + 1 : Nat) : Int) := by rw [IntWalk.i64_in _ (by omega)]; rfl
      obtain ⟨x, hx⟩ : ∃ x, V'.x.sl[k]? = some x := ⟨_, List.getElem?_eq_getElem (by omega)⟩
      have hE : q0 = if x.valid = true then (if V'.freeE C k ≠ 0 then (V'.freeE C k, V'.freeV C k) else VS.frF C m (V'.freeV C k) (k + 1)) else VS.frF C m V' (k + 1) := by
        rw [← hr, VS.frF, CS.at_eq hx]
      have HQ := Lib.hid hE
      obtain ⟨Fc, B, d, h⟩ := hv.tight
      obtain ⟨p0, p1, p2, p3⟩ := h.slotC hx
      have hb0 : Below wr.heap.size wr (wr.alloc (.cells #[.bool x.valid, .bool x.dirty, .int .i64 x.block, .int .i64 x.stamp] 31)) := (Below.refl _ wr).alloc (Nat.le_refl _) _
      have hC0 := Cs.new wr 31 #[.bool x.valid, .bool x.dirty, .int .i64 x.block, .int .i64 x.stamp]
      have HX := Lib.hid hx
      have HSL2 := Lib.hid hsl
      have HLE := Lib.hid hle
      obtain ⟨xv, xd, xb, xs⟩ := x
      dsimp only at p0 p1 p2 p3 hb0 hC0 HQ
      have H := Lib.hid h
      clear hr hE hbd hv ht h HRR hx hsl hle
      cases xv
      · have HQ2 : Hid (VS.frF C m V' (k + 1) = q0) := (HQ.out.trans (if_neg (by simp))).symm
        have HX2 := Lib.hid (H.out.keep hb0)
        have HT2 := Lib.hid (HT.out.trans (Turn.of_below (F := Fv') hb0))
        go_upto_region 7 with (fail)
        clear p0 p1 p2 p3 hb0 HQ H HT
        obtain ⟨t, ht⟩ : ∃ t, wr.heap.size = t := ⟨_, rfl⟩
        rw [ht] at hC0 ⊢
        clear ht
        generalize (wr.alloc (.cells #[.bool false, .bool xd, .int .i64 xb, .int .i64 xs] 31)) = w2 at *
        have y0 : w2.cell? ⟨t, 0, none⟩ = some (.bool false) := hC0.cell 0
        clear hC0
        go_wp2_with fail
        go_roundw
        case rel => exact ⟨k + 1, V', Fv', by go_num, by omega, by rw [show n - (k + 1) = m by omega, HQ2.out], HBD.out.mono (by omega) (Nat.le_refl _), ⟨_, _, _, HX2.out.fv (fun j hj => hj.1)⟩, HT2.out⟩
        case measure => simp [intOf]; omega
      · have HQ2 : Hid (q0 = if V'.freeE C k ≠ 0 then (V'.freeE C k, V'.freeV C k) else VS.frF C m (V'.freeV C k) (k + 1)) := HQ.out.trans (if_pos rfl)
        have HX2 := Lib.hid (H.out.keep hb0)
        have HT2 := Lib.hid (HT.out.trans (Turn.of_below (F := Fv') hb0))
        have HFR := Lib.hid (vfreeR_any (wr.alloc (.cells #[.bool true, .bool xd, .int .i64 xb, .int .i64 xs] 31)) _ C V' k _ _ ⟨_, _, _, HX2.out.fv (fun j hj => hj.1)⟩ (by rw [HSL2.out]; exact HLE.out) (by rw [← HLE.out]; omega) (by rw [← HLE.out]; omega) hn2 (by omega) (by omega))
        have HBF := Lib.hid (HBD.out.fr (C := C) k)
        go_upto_region 7 with (fail)
        clear p0 p1 p2 p3 hb0 HQ H HT
        obtain ⟨t, ht⟩ : ∃ t, wr.heap.size = t := ⟨_, rfl⟩
        rw [ht] at hC0 ⊢
        clear ht
        generalize (wr.alloc (.cells #[.bool true, .bool xd, .int .i64 xb, .int .i64 xs] 31)) = w2 at *
        have y0 : w2.cell? ⟨t, 0, none⟩ = some (.bool true) := hC0.cell 0
        generalize V'.freeE C k = e2 at *
        generalize V'.freeV C k = V2 at *
        clear hC0 HX2
        go_upto_region 9 with (go_at_call 61; refine HFR.out.mono ?_; rintro e w3 ⟨rfl, Fv3, hv3, ht3⟩; have HV3 := Lib.hid hv3; have HT3 := Lib.hid (HT2.out.trans ht3); clear hv3 ht3)
        clear y0 HFR
        by_cases h2 : e2 = 0
        rotate_left
        · have hq : (e2 != 0) = true := by simpa using h2
          have HQ3 : Hid (rR = (e2, V2)) := by
            show _ = _
            rw [HE1.out, HQ2.out, if_pos h2]
            exact bnd_no h2
          clear HQ2
          go_wp2_with fail
          go_ret
          rw [HQ3.out]
          exact ⟨rfl, Fv3, HV3.out.at_, HT3.out⟩
        · have HQ3 : Hid (VS.frF C m V2 (k + 1) = q0) := (HQ2.out.trans (if_neg (fun e => e h2))).symm
          subst h2
          clear HQ2
          go_wp2_with fail
          go_roundw
          case rel => exact ⟨k + 1, V2, Fv3, by go_num, by omega, by rw [show n - (k + 1) = m by omega, HQ3.out], HBF.out, HV3.out, HT3.out⟩
          case measure => simp [intOf]; omega
    · have hkn : n = k := by omega
      have HQ : Hid (rR = (V'.S.chkF 0, { V' with S := V'.S.flush 0 })) := by
        show _ = _
        rw [HE1.out, ← HRR.out, hkn, Nat.sub_self]
        rfl
      have u1 : ¬ (k : Int) < (n : Int) := by omega
      obtain ⟨Fc, B, d, h⟩ := hv
      obtain ⟨c0, c1, c2, c3, c4, c5, c6, c7, c8, c9⟩ := h.cells
      have H := Lib.hid h
      have HFL := Lib.hid (csflush_any wr Fc C.g C.s2 C.m C.n2 C.s0 0 C.n0 V'.S V'.ss (C.chunk : Int) V'.md V'.op h.cache h.sp0 h.o0 (by omega))
      clear hr hbd ht h HRR hkn c0 c1 c2 c3 c4 c6 c7 c8 c9 hsl hle
      go_wp2_with (go_at_call 189; refine HFL.out.mono ?_; rintro e w2 ⟨rfl, Fc3, hc3, ht3⟩; have HX3 : Hid (VolIn w2 Fc3 _ C { V' with S := V'.S.flush 0 } _ _ _ _) := H.out.turn hc3 ht3; have HT3 := Lib.hid (HT.out.trans (H.out.wide ht3)); clear hc3 ht3)
      go_ret
      rw [HQ.out]
      exact ⟨rfl, _, ⟨_, _, _, _, _, HX3.out⟩, HT3.out⟩
def VS.closV (C : VC) (V : VS) : VS := { V.flV with S := (V.flV.S.flush 2).first 2 C.n2 (hdI V.ss.length (C.chunk : Int) V.md false), op := false, closed := true }
set_option maxRecDepth 100000 in
set_option maxHeartbeats 4000000 in
theorem vclose_any (W : World) (Fv : Nat → Prop) (C : VC) (V : VS) (h : VolAt W Fv C V) (hc : V.closed = false) (hst : V.stuck = false) (he : V.flE = 0) (hcf : V.flV.S.chkF 2 = 0) (hfr : (V.flV.S.flush 2).firstR 2 C.n2 (hdI V.ss.length (C.chunk : Int) V.md false) = 0)
    (h1 : 1 ≤ C.n2) (hn2 : C.n2 ≤ 65536) (hk : V.ss.length ≤ 1024) (hlog : V.S.log.length < 1000000) (hwr : V.S.wr ≤ 1000000) :
    Calls Tryz.prog 23 #[.pointer (some ⟨C.v, 0, none⟩)] W (VolP W Fv C (.int .i64 0) (V.closV C)) := by
  have hfl := vflush_any W Fv C V h hc (by omega)
  rw [he] at hfl
  have HF := Lib.hid hfl
  have HCF := Lib.hid hcf
  have HFR := Lib.hid hfr
  have hlg : V.flV.S.log.length < 1000000 ∧ V.flV.S.wr ≤ 1000000 := by
    have q1 := flush_log V.S 1
    have q2 := flush_log (V.S.flush 1) 2
    have q3 := flush_log ((V.S.flush 1).flush 2) 0
    refine ⟨?_, ?_⟩
    · show (((V.S.flush 1).flush 2).flush 0).log.length < _
      omega
    · show (((V.S.flush 1).flush 2).flush 0).wr ≤ _
      rw [q3.2, q2.2, q1.2]; exact hwr
  have HFI : Hid (V.flV.stuck = V.stuck ∧ V.flV.ss = V.ss ∧ V.flV.md = V.md) := ⟨rfl, rfl, rfl⟩
  have HE : Hid (V.closV C = { V.flV with S := (V.flV.S.flush 2).first 2 C.n2 (hdI V.ss.length (C.chunk : Int) V.md false), op := false, closed := true }) := rfl
  have HST := Lib.hid hst
  generalize V.closV C = rV at *
  generalize V.flV = V1 at *
  clear h hc he hcf hfr hfl hst
  go_enter Tryz.func23, Tryz.ntmps23
  go_upto_region 4 with (go_at_call 34; refine HF.out.mono ?_; rintro e w1 ⟨rfl, Fv1, hv1, ht1⟩; have HV1 := Lib.hid hv1; have HT1 := Lib.hid ht1; clear hv1 ht1)
  obtain ⟨Fc, A, c, B, d, h⟩ := HV1.out.tight
  obtain ⟨c0, c1, c2, c3, c4, c5, c6, c7, c8, c9⟩ := h.cells
  rw [HFI.out.1, HST.out] at c8
  have HX := Lib.hid h
  have HEN := Lib.hid (cendK w1 Fc C.g C.s2 C.m C.n2 V1.S V1.ss (C.chunk : Int) V1.md V1.op h.cache HCF.out (by rw [HFI.out.2.1, HFI.out.2.2]; exact HFR.out) h1 hn2 (by rw [HFI.out.2.1]; exact hk) hlg.1 hlg.2)
  clear HF HV1 h c1 c2 c3 c4 c5 c6 c7 c9
  go_upto_region 7 with (go_at_call 55; refine HEN.out.mono ?_; rintro e w2 ⟨rfl, Fc2, hc2, ht2⟩; have HX2 := Lib.hid (HX.out.turn hc2 ht2); have HT2 := Lib.hid (HT1.out.trans (HX.out.wide ht2).tg); clear hc2 ht2)
  have f9 := HX2.out.vol.free 9
  obtain ⟨-, -, -, -, -, -, -, -, -, c9⟩ := HX2.out.cells
  have HX3 := Lib.hid (HX2.out.closeT true)
  have HT3 := Lib.hid (HT2.out.set (b := C.v) (i := 9) (HT2.out.2 _ HX2.out.iv) (.bool true))
  clear c0 c8 HEN
  go_wp2_with fail
  go_ret
  refine ⟨rfl, _, ?_, HT3.out⟩
  rw [HE.out, ← HFI.out.2.1, ← HFI.out.2.2]
  exact ⟨_, _, _, _, _, HX3.out⟩
end Go.Proofs.YtogchafnnkajfaaGreat
namespace Go.Proofs.YtogchafnnkajfaaGreat
set_option linter.unusedVariables false
section
variable {S : DS} {ns : List Nat} {i n : Nat}
theorem wr_out (h : Hea S ns) (hd : S.down = false) (hi : ns[i]? = some n) (j v : Nat) (hj : j < n) :
    (S.swE i n (j : Int) = 0 ∧ (S.swrite i n (j : Int) v).down = false ∧ (S.fuse = 0 → (S.swrite i n (j : Int) v).fuse = 0) ∧ Wro S (S.swrite i n (j : Int) v) ns i j v) ∨
    (S.fuse ≠ 0 ∧ S.swE i n (j : Int) = 5 ∧ (S.swrite i n (j : Int) v).down = true ∧ Shr S (S.swrite i n (j : Int) v) ns) := by
  have e1 := h.swE hi j hj
  have e2 := h.swrite hi j v hj
  rw [hd, if_neg (by simp)] at e2
  by_cases hf : S.fuse = 1
  · right
    rw [if_pos (.inr hf)] at e1
    rw [if_pos hf] at e2
    rw [e2]
    exact ⟨by omega, e1, rfl, Shr.eq h rfl rfl⟩
  · left
    rw [if_neg (by rintro (h | h); rw [hd] at h; cases h; exact hf h)] at e1
    rw [if_neg hf] at e2
    rw [e2]
    refine ⟨e1, hd, fun e => ?_, Wro.of h hi j v hj⟩
    show (if 0 < S.fuse then S.fuse - 1 else S.fuse) = 0
    rw [e]; rfl
theorem fl_out (h : Hea S ns) (hd : S.down = false) (hi : ns[i]? = some n) : S.chkF (i : Int) = 0 ∧ (S.flush (i : Int)).down = false ∧ (S.flush (i : Int)).fuse = S.fuse ∧ Shr S (S.flush (i : Int)) ns ∧ Stl (S.flush (i : Int)) i := by
  have e1 := h.chkF hi
  have e2 := h.flush hi
  rw [hd, if_neg (by simp)] at e1 e2
  rw [e2]
  exact ⟨e1, hd, rfl, (Shr.flS h hi).1, (Shr.flS h hi).2⟩
theorem rd_out (h : Hea S ns) (hd : S.down = false) (hi : ns[i]? = some n) (j : Nat) (hj : j < n) : S.sE i n (j : Int) = 0 ∧ (S.now i)[j]? = some (S.sread i n (j : Int)) := by
  have e1 := h.sE hi j hj
  rw [hd, if_neg (by simp)] at e1
  refine ⟨e1, ?_⟩
  rw [h.sread hi j hj hd, List.getElem?_eq_getElem (by rw [(h.nn i n hi).1]; exact hj)]
  rfl
theorem wr_down (h : Hea S ns) (hd : S.down = true) (hi : ns[i]? = some n) (j v : Nat) (hj : j < n) : S.swE i n (j : Int) = 5 ∧ S.swrite i n (j : Int) v = S := by
  have e1 := h.swE hi j hj
  have e2 := h.swrite hi j v hj
  rw [if_pos (.inl hd)] at e1
  rw [if_pos hd] at e2
  exact ⟨e1, e2⟩
end
def cpL (l : List Nat) (b : Nat) (src : List Nat) (a : Nat) : Nat → List Nat
  | 0 => l
  | i + 1 => (cpL l b src a i).set (b + i) (src[a + i]?.getD 0)
theorem cpL_length (l : List Nat) (b : Nat) (src : List Nat) (a i : Nat) : (cpL l b src a i).length = l.length := by
  induction i with
  | zero => rfl
  | succ i ih => rw [cpL, List.length_set, ih]
theorem cpL_at (l : List Nat) (b : Nat) (src : List Nat) (a i j : Nat) : (cpL l b src a i)[j]? = if b ≤ j ∧ j < b + i ∧ j < l.length then some (src[a + (j - b)]?.getD 0) else l[j]? := by
  induction i with
  | zero => rw [cpL, if_neg (by omega)]
  | succ i ih =>
    rw [cpL, List.getElem?_set, cpL_length, ih]
    by_cases e : b + i = j
    · subst e
      by_cases hl : b + i < l.length
      · rw [if_pos rfl, if_pos hl, if_pos ⟨by omega, by omega, hl⟩, show b + i - b = i by omega]
      · rw [if_pos rfl, if_neg hl, if_neg (by omega), List.getElem?_eq_none (by omega)]
    · rw [if_neg e]
      by_cases h : b ≤ j ∧ j < b + i ∧ j < l.length
      · rw [if_pos h, if_pos ⟨h.1, by omega, h.2.2⟩]
      · rw [if_neg h, if_neg (by omega)]
section
variable {C : VC} {S S' : DS} {sl : List Sl} {pm : Bool} {ok : Nat → Nat → Prop}
theorem VI.hea (h : VI C S sl pm ok) : Hea S [C.n0, C.n1, C.n2] := h.k.hea
theorem VI.fast (h : VI C S sl pm ok) {k : Nat} {x : Sl} (hx : sl[k]? = some x) (hv : x.valid = false) {i v : Nat} (hi : i < C.chunk) (hw : Wro S S' [C.n0, C.n1, C.n2] 1 (k * C.chunk + i) v) :
    VI C S' sl pm ok ∧ ∀ a u, VV C S sl a u → VV C S' sl a u := by
  have c2 : ∀ b u, S'.Cand 2 b u → S.Cand 2 b u := fun b u hc => (hw.cand 2 b u hc).elim id (fun e => by omega)
  have c0 : ∀ b u, S'.Cand 0 b u → S.Cand 0 b u := fun b u hc => (hw.cand 0 b u hc).elim id (fun e => by omega)
  have n0 : S'.now 0 = S.now 0 := by rw [hw.now, if_neg (by decide)]
  have n2 : S'.now 2 = S.now 2 := by rw [hw.now, if_neg (by decide)]
  have hne : ∀ {k' : Nat} {x' : Sl} {i' : Nat}, sl[k']? = some x' → x'.valid = true → i' < C.chunk → k * C.chunk + i ≠ k' * C.chunk + i' := by
    intro k' x' i' hx' hv' hi' e
    obtain ⟨e1, -⟩ := blk_eq hi hi' e
    subst e1
    rw [hx] at hx'
    injection hx' with hx'
    subst hx'
    rw [hv] at hv'
    cases hv'
  refine ⟨⟨⟨hw.hea, h.k.n2, h.k.n1, h.k.ch, h.k.uq, h.k.wh, fun u hu => h.k.hd u (c2 _ _ hu), fun k x w hx hc => h.k.pc k x w hx (c2 _ _ hc), fun e k x hx hv hc => h.k.m e k x hx hv (c2 _ _ hc), ?_, fun k x w i u hx hv hw hne hi hc => h.k.b k x w i u hx hv (c2 _ _ hw) hne hi (c0 _ _ hc), fun a u ha hn hc => h.k.bo a u ha hn (c0 _ _ hc)⟩, fun k x hx => by rw [n2]; exact h.wd k x hx, ?_, h.nl⟩, ?_⟩
  · intro k' x' i' u hx' hv' hi' hc
    rcases hw.cand 1 _ u hc with hc | ⟨-, e, -⟩
    · exact h.k.a k' x' i' u hx' hv' hi' hc
    · exact absurd e.symm (hne hx' hv' hi')
  · intro k' x' i' hx' hv' hd' hi'
    rw [n0, hw.now, if_pos rfl, List.getElem?_set_ne (hne hx' hv' hi')]
    exact h.ceq k' x' i' hx' hv' hd' hi'
  · intro a u hu
    rcases hu with ⟨k', x', hx', hv', hb', hn'⟩ | ⟨hno, hn'⟩
    · refine .inl ⟨k', x', hx', hv', hb', ?_⟩
      rw [hw.now, if_pos rfl, List.getElem?_set_ne (hne hx' hv' (blk_at a C.chunk h.k.ch).2)]
      exact hn'
    · exact .inr ⟨hno, by rw [n0]; exact hn'⟩
def CpO (C : VC) (S : DS) (sl : List Sl) (pm : Bool) (ok : Nat → Nat → Prop) (p a q b i : Nat) (r : Int × DS) : Prop :=
  (r.1 = 0 ∧ r.2.down = false ∧ (S.fuse = 0 → r.2.fuse = 0) ∧ VI C r.2 sl pm ok ∧ (∀ k, k ≠ q → r.2.now k = S.now k) ∧ r.2.now q = cpL (S.now q) b (S.now p) a i ∧ (∀ a u, VV C S sl a u → VV C r.2 sl a u) ∧ (∀ k, k ≠ q → Stl S k → Stl r.2 k)) ∨ (S.fuse ≠ 0 ∧ r.1 = 5 ∧ r.2.down = true ∧ VK C r.2 sl pm ok)
theorem cp_back (h : VI C S sl pm ok) (hd : S.down = false) {k : Nat} {x : Sl} (hx : sl[k]? = some x) (hv : x.valid = true) (hdt : x.dirty = true) (i : Nat) (hi : i ≤ C.chunk) :
    CpO C S sl pm ok 1 (k * C.chunk) 0 (x.block.toNat * C.chunk) i (vcp S 1 C.n1 (k * C.chunk) 0 C.n0 (x.block.toNat * C.chunk) i) := by
  induction i with
  | zero => exact .inl ⟨rfl, hd, id, h, fun _ _ => rfl, rfl, fun _ _ hu => hu, fun _ _ hs => hs⟩
  | succ i ih =>
    obtain hI := ih (by omega)
    rw [vcp]
    rcases hI with ⟨e0, hd1, hf1, h1, hn1, hn0, hvv, hst⟩ | ⟨hf, e5, hd1, hk1⟩
    · rw [if_neg (by rw [e0]; exact fun e => e rfl)]
      generalize (vcp S 1 C.n1 (k * C.chunk) 0 C.n0 (x.block.toNat * C.chunk) i).2 = S1 at *
      have hfl := h1.k.fast hx (i := i) (by omega)
      obtain ⟨r1, r2⟩ := rd_out h1.hea hd1 (i := 1) (n := C.n1) rfl (k * C.chunk + i) hfl
      have hbl := (h1.k.wh k x hx hv).2
      unfold vcpOne
      rw [show ((k * C.chunk : Nat) : Int) + (i : Int) = ((k * C.chunk + i : Nat) : Int) from rfl, show ((x.block.toNat * C.chunk : Nat) : Int) + (i : Int) = ((x.block.toNat * C.chunk + i : Nat) : Int) from rfl, if_neg (by rw [r1]; exact fun e => e rfl)]
      rcases wr_out h1.hea hd1 (i := 0) (n := C.n0) rfl (x.block.toNat * C.chunk + i) (S1.sread 1 C.n1 ((k * C.chunk + i : Nat) : Int)) (by omega) with ⟨w1, w2, w3, w4⟩ | ⟨w0, w1, w2, w3⟩
      · obtain ⟨g1, g2⟩ := h1.org hx hv hdt (by omega) w4 r2
        refine .inl ⟨w1, w2, fun e => w3 (hf1 e), g1, fun j hj => by rw [w4.now, if_neg hj]; exact hn1 j hj, ?_, fun a u hu => g2 a u (hvv a u hu), fun j hj hs => (hst j hj hs).wro w4 hj⟩
        rw [w4.now, if_pos rfl, hn0, cpL]
        congr 1
        rw [hn1 1 (by decide)] at r2
        rw [r2]
        rfl
      · exact .inr ⟨fun e => w0 (hf1 e), w1, w2, h1.k.shr w3⟩
    · rw [if_pos (by rw [e5]; decide)]
      exact .inr ⟨hf, e5, hd1, hk1⟩
theorem cp_in (h : VI C S sl pm ok) (hd : S.down = false) {k b : Nat} {x : Sl} (hx : sl[k]? = some x) (hv : x.valid = false) (hb : b * C.chunk + C.chunk ≤ C.n0) (i : Nat) (hi : i ≤ C.chunk) :
    CpO C S sl pm ok 0 (b * C.chunk) 1 (k * C.chunk) i (vcp S 0 C.n0 (b * C.chunk) 1 C.n1 (k * C.chunk) i) := by
  induction i with
  | zero => exact .inl ⟨rfl, hd, id, h, fun _ _ => rfl, rfl, fun _ _ hu => hu, fun _ _ hs => hs⟩
  | succ i ih =>
    obtain hI := ih (by omega)
    rw [vcp]
    rcases hI with ⟨e0, hd1, hf1, h1, hn1, hn0, hvv, hst⟩ | ⟨hf, e5, hd1, hk1⟩
    · rw [if_neg (by rw [e0]; exact fun e => e rfl)]
      generalize (vcp S 0 C.n0 (b * C.chunk) 1 C.n1 (k * C.chunk) i).2 = S1 at *
      have hfl := h1.k.fast hx (i := i) (by omega)
      obtain ⟨r1, r2⟩ := rd_out h1.hea hd1 (i := 0) (n := C.n0) rfl (b * C.chunk + i) (by omega)
      unfold vcpOne
      rw [show ((k * C.chunk : Nat) : Int) + (i : Int) = ((k * C.chunk + i : Nat) : Int) from rfl, show ((b * C.chunk : Nat) : Int) + (i : Int) = ((b * C.chunk + i : Nat) : Int) from rfl, if_neg (by rw [r1]; exact fun e => e rfl)]
      rcases wr_out h1.hea hd1 (i := 1) (n := C.n1) rfl (k * C.chunk + i) (S1.sread 0 C.n0 ((b * C.chunk + i : Nat) : Int)) (by omega) with ⟨w1, w2, w3, w4⟩ | ⟨w0, w1, w2, w3⟩
      · obtain ⟨g1, g2⟩ := h1.fast hx hv (by omega) w4
        refine .inl ⟨w1, w2, fun e => w3 (hf1 e), g1, fun j hj => by rw [w4.now, if_neg hj]; exact hn1 j hj, ?_, fun a u hu => g2 a u (hvv a u hu), fun j hj hs => (hst j hj hs).wro w4 hj⟩
        rw [w4.now, if_pos rfl, hn0, cpL]
        congr 1
        rw [hn1 0 (by decide)] at r2
        rw [r2]
        rfl
      · exact .inr ⟨fun e => w0 (hf1 e), w1, w2, h1.k.shr w3⟩
    · rw [if_pos (by rw [e5]; decide)]
      exact .inr ⟨hf, e5, hd1, hk1⟩
end
theorem st_out {C : VC} {V : VS} {sl : List Sl} {pm : Bool} {ok : Nat → Nat → Prop} (h : VI C V.S sl pm ok) (hd : V.S.down = false) (k : Nat) (hk : k < sl.length) (y : Sl) :
    (V.setE C k = 0 ∧ (V.setV C k y).S.chkF 2 = 0 ∧ ((V.setV C k y).S.flush 2).down = false ∧ (V.S.fuse = 0 → ((V.setV C k y).S.flush 2).fuse = 0) ∧ Cmt V.S ((V.setV C k y).S.flush 2) [C.n0, C.n1, C.n2] k y.word ∧ (∀ j, j ≠ 2 → Stl V.S j → Stl ((V.setV C k y).S.flush 2) j)) ∨
    (V.S.fuse ≠ 0 ∧ V.setE C k = 5 ∧ (V.setV C k y).S.down = true ∧ VK C (V.setV C k y).S sl pm ok) := by
  have hn2 := h.k.n2
  have e : V.setE C k = V.S.swE 2 C.n2 ((1 + k : Nat) : Int) := by unfold VS.setE; congr 1
  have eS : (V.setV C k y).S = V.S.swrite 2 C.n2 ((1 + k : Nat) : Int) y.word := by
    show V.S.swrite 2 C.n2 (1 + (k : Int)) y.word = _
    congr 1
  rw [e, eS]
  rcases wr_out h.hea hd (i := 2) (n := C.n2) rfl (1 + k) y.word (by omega) with ⟨w1, w2, w3, w4⟩ | ⟨w0, w1, w2, w3⟩
  · obtain ⟨f1, f2, f3, f4, f5⟩ := fl_out w4.hea w2 (i := 2) (n := C.n2) rfl
    refine .inl ⟨w1, f1, f2, fun e => by rw [show ((2 : Int)) = ((2 : Nat) : Int) from rfl, f3]; exact w3 e, ⟨f4.hea, ?_, ?_, ?_, ?_, ?_, f5⟩, ?_⟩
    · exact (f4.now 0).trans (by rw [w4.now, if_neg (by decide)])
    · exact (f4.now 1).trans (by rw [w4.now, if_neg (by decide)])
    · exact (f4.now 2).trans (by rw [w4.now, if_pos rfl])
    · exact fun b x hc => (w4.cand 0 b x (f4.cand 0 b x hc)).elim id (fun e => by omega)
    · exact fun b x hc => (w4.cand 1 b x (f4.cand 1 b x hc)).elim id (fun e => by omega)
    · exact fun j hj hs => (hs.wro w4 hj).shr f4
  · exact .inr ⟨w0, w1, w2, h.k.shr w3⟩
end Go.Proofs.YtogchafnnkajfaaGreat
namespace Go.Proofs.YtogchafnnkajfaaGreat
set_option linter.unusedVariables false
structure RV where
  o : List Nat
  f : List Nat
  m : List Nat
  x : CS
def view (V : VS) : RV := ⟨V.S.now 0, V.S.now 1, V.S.now 2, V.x⟩
def RV.back (c : Nat) (R : RV) (k : Nat) (cl : Bool) : RV := ⟨cpL R.o ((R.x.at_ k).block.toNat * c) R.f (k * c) c, R.f, if cl = true then R.m.set (1 + k) ((R.x.setD k false).at_ k).word else R.m, R.x.setD k false⟩
def RV.free (R : RV) (k : Nat) : RV := ⟨R.o, R.f, R.m.set (1 + k) 0, R.x.clear k⟩
def RV.vic (c : Nat) (R : RV) (k : Nat) : RV := if (R.x.at_ k).dirty = true then R.back c k false else R
def RV.vic2 (c : Nat) (R : RV) (k : Nat) : RV := if ((R.vic c k).x.at_ k).valid = true then (R.vic c k).free k else R.vic c k
def RV.prom (c : Nat) (R : RV) (k b : Nat) : RV := ⟨(R.vic2 c k).o, cpL (R.vic2 c k).f (k * c) (R.vic2 c k).o (b * c) c, (R.vic2 c k).m.set (1 + k) (dwd (b : Int) false), (R.vic2 c k).x.place k (b : Int)⟩
def RV.slot (c : Nat) (R : RV) (a : Nat) : Int × RV :=
  if ¬ (a / c + 1) * c ≤ R.o.length then (-1, R)
  else if 0 ≤ R.x.find ((a / c : Nat) : Int) then (R.x.find ((a / c : Nat) : Int), { R with x := R.x.touch (R.x.find ((a / c : Nat) : Int)).toNat })
  else if (R.x.miss ((a / c : Nat) : Int)).2 = false then (-1, { R with x := (R.x.miss ((a / c : Nat) : Int)).1 })
  else ((R.x.miss ((a / c : Nat) : Int)).1.victim, RV.prom c { R with x := (R.x.miss ((a / c : Nat) : Int)).1 } (R.x.miss ((a / c : Nat) : Int)).1.victim.toNat (a / c))
def Ou (C : VC) (pm : Bool) (ok : Nat → Nat → Prop) (V : VS) (r : Int × VS) (Q : VS → Prop) : Prop :=
  (r.1 = 0 ∧ r.2.S.down = false ∧ (V.S.fuse = 0 → r.2.S.fuse = 0) ∧ VI C r.2.S r.2.x.sl pm ok ∧ Q r.2) ∨ (V.S.fuse ≠ 0 ∧ r.1 = 5 ∧ r.2.S.down = true ∧ ∃ sl, VK C r.2.S sl pm ok)
theorem Ou.bnd {C : VC} {pm : Bool} {ok : Nat → Nat → Prop} {V : VS} {p : Int × VS} {f : VS → Int × VS} {Q R : VS → Prop} (h : Ou C pm ok V p Q) (hf : p.2.S.down = false → VI C p.2.S p.2.x.sl pm ok → Q p.2 → Ou C pm ok p.2 (f p.2) R) : Ou C pm ok V (Go.Proofs.YtogchafnnkajfaaGreat.bnd p f) R := by
  rcases h with ⟨h0, h1, h2, h3, h4⟩ | ⟨h0, h1, h2, h3⟩
  · rw [bnd_ok h0]
    rcases hf h1 h3 h4 with ⟨g0, g1, g2, g3, g4⟩ | ⟨g0, g1, g2, g3⟩
    · exact .inl ⟨g0, g1, fun e => g2 (h2 e), g3, g4⟩
    · exact .inr ⟨fun e => g0 (h2 e), g1, g2, g3⟩
  · rw [bnd_no (by rw [h1]; decide)]
    exact .inr ⟨h0, h1, h2, h3⟩
theorem Ou.mono {C : VC} {pm : Bool} {ok : Nat → Nat → Prop} {V : VS} {p : Int × VS} {Q R : VS → Prop} (h : Ou C pm ok V p Q) (hq : p.1 = 0 → Q p.2 → R p.2) : Ou C pm ok V p R := by
  rcases h with ⟨h0, h1, h2, h3, h4⟩ | h
  · exact .inl ⟨h0, h1, h2, h3, hq h0 h4⟩
  · exact .inr h
section
variable {C : VC} {V : VS} {pm : Bool} {ok : Nat → Nat → Prop} {k : Nat} {x : Sl}
theorem fl_ou (h : VI C V.S V.x.sl pm ok) (hd : V.S.down = false) {i n : Nat} (hi : [C.n0, C.n1, C.n2][i]? = some n) : Ou C pm ok V (V.S.chkF (i : Int), { V with S := V.S.flush (i : Int) }) (fun V' => view V' = view V ∧ V'.x = V.x ∧ V'.ss = V.ss ∧ Stl V'.S i ∧ (∀ j, Stl V.S j → Stl V'.S j)) := by
  obtain ⟨f1, f2, f3, f4, f5⟩ := fl_out h.hea hd hi
  refine .inl ⟨f1, f2, fun e => f3.trans e, h.shr f4, ?_, rfl, rfl, f5, fun j hs => hs.shr f4⟩
  unfold view
  dsimp only
  rw [f4.now, f4.now, f4.now]
theorem cb_ou (h : VI C V.S V.x.sl pm ok) (hd : V.S.down = false) (hx : V.x.sl[k]? = some x) (hv : x.valid = true) (hdt : x.dirty = true) :
    Ou C pm ok V (V.cbE C k x.block.toNat, V.cbV C k x.block.toNat) (fun V' => view V' = { view V with o := cpL (V.S.now 0) (x.block.toNat * C.chunk) (V.S.now 1) (k * C.chunk) C.chunk } ∧ V'.x = V.x ∧ V'.ss = V.ss ∧ Stl V'.S 0 ∧ (∀ a u, VV C V.S V.x.sl a u → VV C V'.S V'.x.sl a u) ∧ (∀ j, j ≠ 0 → Stl V.S j → Stl V'.S j)) := by
  have hc := cp_back h hd hx hv hdt C.chunk (Nat.le_refl _)
  have eE : V.cbE C k x.block.toNat = if (V.cb C k x.block.toNat).1 = 0 then (V.cb C k x.block.toNat).2.chkF 0 else (V.cb C k x.block.toNat).1 := rfl
  have eV : V.cbV C k x.block.toNat = { V with S := if (V.cb C k x.block.toNat).1 = 0 then (V.cb C k x.block.toNat).2.flush 0 else (V.cb C k x.block.toNat).2 } := rfl
  have eC : V.cb C k x.block.toNat = vcp V.S 1 C.n1 (k * C.chunk) 0 C.n0 (x.block.toNat * C.chunk) C.chunk := rfl
  rw [eE, eV]
  rw [← eC] at hc
  generalize V.cb C k x.block.toNat = r at *
  obtain ⟨re, rS⟩ := r
  rcases hc with ⟨h0, h1, h2, h3, h4, h5, h6, h7⟩ | ⟨h0, h1, h2, h3⟩
  · dsimp only at h0 h1 h2 h3 h4 h5 h6 h7 ⊢
    rw [if_pos h0, if_pos h0]
    obtain ⟨f1, f2, f3, f4, f5⟩ := fl_out h3.hea h1 (i := 0) (n := C.n0) rfl
    refine .inl ⟨f1, f2, fun e => f3.trans (h2 e), h3.shr f4, ?_, rfl, rfl, f5, fun a u hu => (h6 a u hu).now (f4.now 0) (f4.now 1), fun j hj hs => (h7 j hj hs).shr f4⟩
    have e0 := f4.now 0
    have e1 := f4.now 1
    have e2 := f4.now 2
    unfold view
    dsimp only
    rw [show ((0 : Int)) = ((0 : Nat) : Int) from rfl, e0, e1, e2, h5, h4 1 (by decide), h4 2 (by decide)]
  · dsimp only at h0 h1 h2 h3 ⊢
    rw [if_neg (by rw [h1]; decide), if_neg (by rw [h1]; decide)]
    exact .inr ⟨h0, h1, h2, _, h3⟩
def Eqs (C : VC) (S : DS) (ok : Nat → Nat → Prop) (k : Nat) (x : Sl) : Prop := x.valid = true → (∀ i, i < C.chunk → (S.now 1)[k * C.chunk + i]? = (S.now 0)[x.block.toNat * C.chunk + i]?) ∧ ∀ i v, i < C.chunk → S.Cand 0 (x.block.toNat * C.chunk + i) v → ok (x.block.toNat * C.chunk + i) v
theorem Eqs.clean (h : VI C V.S V.x.sl pm ok) (hx : V.x.sl[k]? = some x) (hd : x.dirty = false) : Eqs C V.S ok k x := by
  intro hv
  have hb := (h.k.wh k x hx hv).1
  refine ⟨fun i hi => h.ceq k x i hx hv hd hi, fun i v hi hc => ?_⟩
  have hw := h.k.hea.la 2 _ _ (h.wd k x hx)
  refine h.k.b k x x.word i v hx hv hw ?_ hi hc
  rw [word_yes hv, hd]
  intro e
  have := (dwd_inj hb hb e).2
  cases this
theorem Eqs.back (h : VI C V.S V.x.sl pm ok) (hx : V.x.sl[k]? = some x) (hs : Stl V.S 0) {l : List Nat} (hl : l.length = C.n0) (hn : V.S.now 0 = cpL l (x.block.toNat * C.chunk) (V.S.now 1) (k * C.chunk) C.chunk) : Eqs C V.S ok k x := by
  intro hv
  have hbl := (h.k.wh k x hx hv).2
  have key : ∀ i, i < C.chunk → (V.S.now 1)[k * C.chunk + i]? = (V.S.now 0)[x.block.toNat * C.chunk + i]? := by
    intro i hi
    have hf := h.k.fast hx hi
    have hl1 := h.k.lens.2.1
    rw [hn, cpL_at, if_pos ⟨by omega, by omega, by omega⟩, show x.block.toNat * C.chunk + i - x.block.toNat * C.chunk = i by omega, List.getElem?_eq_getElem (by omega)]
    rfl
  refine ⟨key, fun i v hi hc => ?_⟩
  have hv0 := hs _ _ hc
  rw [← key i hi] at hv0
  exact h.k.a k x i v hx hv hi (h.k.hea.la 1 _ _ hv0)
theorem free_ou (h : VI C V.S V.x.sl pm ok) (hd : V.S.down = false) (hx : V.x.sl[k]? = some x) (he : Eqs C V.S ok k x) :
    Ou C pm ok V (V.freeE C k, V.freeV C k) (fun V' => view V' = (view V).free k ∧ V'.x = V.x.clear k ∧ (∀ j, j ≠ 2 → Stl V.S j → Stl V'.S j) ∧ (∀ a u, VV C V.S V.x.sl a u → VV C V'.S V'.x.sl a u)) := by
  have hkl := (List.getElem?_eq_some_iff.1 hx).1
  unfold VS.freeE VS.freeV
  rcases st_out h hd k hkl nilS with ⟨h0, h1, h2, h3, h4, h5⟩ | ⟨h0, h1, h2, h3⟩
  · rw [if_pos h0, if_pos h0]
    have ex : (V.setV C k nilS).x = V.x.clear k := by unfold VS.setV; rw [if_pos h0]; rfl
    obtain ⟨g1, g2⟩ := h.cmt (y := nilS) hx h4 (fun _ => rfl) (fun e => by cases e) (fun hv _ => he hv)
    have g1' : VI C ((V.setV C k nilS).S.flush 2) (V.x.clear k).sl pm ok := g1
    refine .inl ⟨h1, h2, h3, by dsimp only; rw [ex]; exact g1', ?_, ex, h5, fun a u hu => by dsimp only; rw [ex]; exact g2 a u hu⟩
    unfold view RV.free
    dsimp only
    rw [h4.n0, h4.n1, h4.n2, ex]
    rfl
  · rw [if_neg (by rw [h1]; decide), if_neg (by rw [h1]; decide)]
    exact .inr ⟨h0, h1, h2, _, h3⟩
theorem clean_ou (h : VI C V.S V.x.sl pm ok) (hd : V.S.down = false) (hx : V.x.sl[k]? = some x) (hv : x.valid = true) (hdt : x.dirty = true) :
    Ou C pm ok V (V.clE C k x.block.toNat x, V.clV C k x.block.toNat x) (fun V' => view V' = (view V).back C.chunk k true ∧ V'.x = V.x.setD k false ∧ (∀ a u, VV C V.S V.x.sl a u → VV C V'.S V'.x.sl a u) ∧ (Stl V.S 1 → Stl V'.S 1) ∧ Stl V'.S 0 ∧ Stl V'.S 2) := by
  have hkl := (List.getElem?_eq_some_iff.1 hx).1
  have eC : V.clE C k x.block.toNat x = (bnd (V.cbE C k x.block.toNat, V.cbV C k x.block.toNat) (fun V1 => bnd (V1.setE C k, V1.setV C k { x with dirty := false }) (fun V2 => (V2.S.chkF 2, { V2 with S := V2.S.flush 2 })))).1 ∧ V.clV C k x.block.toNat x = (bnd (V.cbE C k x.block.toNat, V.cbV C k x.block.toNat) (fun V1 => bnd (V1.setE C k, V1.setV C k { x with dirty := false }) (fun V2 => (V2.S.chkF 2, { V2 with S := V2.S.flush 2 })))).2 := by
    unfold VS.clE VS.clV
    by_cases e1 : V.cbE C k x.block.toNat = 0
    · rw [bnd_ok (p := (V.cbE C k x.block.toNat, V.cbV C k x.block.toNat)) e1]
      dsimp only
      by_cases e2 : (V.cbV C k x.block.toNat).setE C k = 0
      · rw [bnd_ok (p := ((V.cbV C k x.block.toNat).setE C k, (V.cbV C k x.block.toNat).setV C k { x with dirty := false })) e2]
        simp [e1, e2]
      · rw [bnd_no (p := ((V.cbV C k x.block.toNat).setE C k, (V.cbV C k x.block.toNat).setV C k { x with dirty := false })) e2]
        simp [e1, e2]
    · rw [bnd_no (p := (V.cbE C k x.block.toNat, V.cbV C k x.block.toNat)) e1]
      simp [e1]
  rw [eC.1, eC.2]
  have hl0 := h.k.lens.1
  refine (cb_ou h hd hx hv hdt).bnd (R := fun V' => view V' = (view V).back C.chunk k true ∧ V'.x = V.x.setD k false ∧ (∀ a u, VV C V.S V.x.sl a u → VV C V'.S V'.x.sl a u) ∧ (Stl V.S 1 → Stl V'.S 1) ∧ Stl V'.S 0 ∧ Stl V'.S 2) (fun h1 h2 h3 => ?_)
  dsimp only at h1 h2 h3 ⊢
  obtain ⟨q1, q2, q3, q4, q5, q6⟩ := h3
  generalize V.cbV C k x.block.toNat = V1 at *
  unfold view at q1
  dsimp only at q1
  injection q1 with r0 r1 r2 r3
  have hx1 : V1.x.sl[k]? = some x := by rw [q2]; exact hx
  have heq := Eqs.back h2 hx1 q4 hl0 (by rw [r0, r1])
  rcases st_out h2 h1 k (by rw [q2]; exact hkl) { x with dirty := false } with ⟨g0, g1, g2, g3, g4, g5⟩ | ⟨g0, g1, g2, g3⟩
  · rw [bnd_ok g0]
    have ex : (V1.setV C k { x with dirty := false }).x = V.x.setD k false := by
      unfold VS.setV; rw [if_pos g0, q2]
      unfold CS.setD
      rw [CS.at_eq hx]
    obtain ⟨z1, z2⟩ := h2.cmt (y := { x with dirty := false }) hx1 g4 (fun e => rfl) (fun _ => ⟨hv, rfl, fun e => by cases e⟩) (fun hv' _ => heq hv')
    have esl : (V.x.setD k false).sl = V1.x.sl.set k { x with dirty := false } := by
      unfold CS.setD
      rw [CS.at_eq hx, q2]
    refine .inl ⟨g1, g2, g3, by dsimp only; rw [ex, esl]; exact z1, ?_, ex, fun a u hu => by dsimp only; rw [ex, esl]; exact z2 a u (q5 a u hu), fun hs => g5 1 (by decide) (q6 1 (by decide) hs), g5 0 (by decide) q4, g4.c2⟩
    · unfold view RV.back
      dsimp only
      rw [g4.n0, g4.n1, g4.n2, ex, r0, r1, r2, CS.at_eq hx]
      have : ((V.x.setD k false).at_ k).word = Sl.word { x with dirty := false } := by
        congr 1
        refine CS.at_eq ?_
        rw [esl, q2]
        exact List.getElem?_set_self hkl
      rw [this]
      rfl
  · rw [bnd_no (p := (V1.setE C k, V1.setV C k { x with dirty := false })) (by show V1.setE C k ≠ 0; rw [g1]; decide)]
    exact .inr ⟨g0, g1, g2, _, g3⟩
end
end Go.Proofs.YtogchafnnkajfaaGreat
namespace Go.Proofs.YtogchafnnkajfaaGreat
set_option linter.unusedVariables false
theorem bnd_assoc (p : Int × VS) (f g : VS → Int × VS) : bnd (bnd p f) g = bnd p (fun V => bnd (f V) g) := by
  by_cases h : p.1 = 0
  · rw [bnd_ok h, bnd_ok h]
  · rw [bnd_no h, bnd_no h, bnd_no h]
section
variable {C : VC} {S S' : DS} {sl : List Sl} {pm : Bool} {ok ok' : Nat → Nat → Prop}
theorem VI.place (h : VI C S sl pm ok) {k b : Nat} {x : Sl} (hx : sl[k]? = some x) (hv : x.valid = false) (hb : b * C.chunk + C.chunk ≤ C.n0) (hb2 : b ≤ 16777215) (hno : ∀ (j : Nat) (z : Sl), sl[j]? = some z → z.valid = true → z.block ≠ (b : Int))
    (hw : Wro S S' [C.n0, C.n1, C.n2] 2 (1 + k) (dwd (b : Int) false)) (hs1 : Stl S 1) (hcp : ∀ i, i < C.chunk → (S.now 1)[k * C.chunk + i]? = (S.now 0)[b * C.chunk + i]?) (st : Int) :
    VI C S' (sl.set k ⟨true, false, (b : Int), st⟩) pm ok ∧ ∀ a u, VV C S sl a u → VV C S' (sl.set k ⟨true, false, (b : Int), st⟩) a u := by
  have hkl := (List.getElem?_eq_some_iff.1 hx).1
  have hn2 := h.k.n2
  have hbb : (0 : Int) ≤ (b : Int) ∧ (b : Int) ≤ 16777215 := by omega
  have c1 : ∀ b u, S'.Cand 1 b u → S.Cand 1 b u := fun b u hc => (hw.cand 1 b u hc).elim id (fun e => by omega)
  have c0 : ∀ b u, S'.Cand 0 b u → S.Cand 0 b u := fun b u hc => (hw.cand 0 b u hc).elim id (fun e => by omega)
  have c2 : ∀ j u, j ≠ 1 + k → S'.Cand 2 j u → S.Cand 2 j u := fun j u hj hc => (hw.cand 2 j u hc).elim id (fun e => absurd e.2.1 hj)
  have n0 : S'.now 0 = S.now 0 := by rw [hw.now, if_neg (by decide)]
  have n1 : S'.now 1 = S.now 1 := by rw [hw.now, if_neg (by decide)]
  have hg : ∀ {j : Nat} {z : Sl}, (sl.set k ⟨true, false, (b : Int), st⟩)[j]? = some z → (j = k ∧ z = ⟨true, false, (b : Int), st⟩) ∨ (j ≠ k ∧ sl[j]? = some z) := fun hz => set_get hz
  have hbo : ∀ i v, i < C.chunk → S.Cand 0 (b * C.chunk + i) v → ok (b * C.chunk + i) v := by
    intro i v hi hc
    refine h.k.bo _ v (by omega) (fun j z hz hzv => ?_) hc
    rw [(blk_div hi).1]
    exact hno j z hz hzv
  refine ⟨⟨⟨hw.hea, by rw [List.length_set]; exact hn2, by rw [List.length_set]; exact h.k.n1, h.k.ch, ?_, ?_, ?_, ?_, ?_, ?_, ?_, ?_⟩, ?_, ?_, ?_⟩, ?_⟩
  · intro i j p q hp hq hpv hqv he
    rcases hg hp with ⟨ei, ep⟩ | ⟨hi, hp'⟩
    · rcases hg hq with ⟨ej, eq⟩ | ⟨hj, hq'⟩
      · omega
      · subst ep
        exact absurd he.symm (hno j q hq' hqv)
    · rcases hg hq with ⟨ej, eq⟩ | ⟨hj, hq'⟩
      · subst eq
        exact absurd he (hno i p hp' hpv)
      · exact h.k.uq i j p q hp' hq' hpv hqv he
  · intro j z hz hzv
    rcases hg hz with ⟨rfl, rfl⟩ | ⟨hj, hz⟩
    · exact ⟨hbb, by show (b : Int).toNat * C.chunk + C.chunk ≤ C.n0; rw [Int.toNat_natCast]; exact hb⟩
    · exact h.k.wh j z hz hzv
  · intro v hc
    rw [List.length_set]
    exact h.k.hd v (c2 0 v (by omega) hc)
  · intro j z w hz hc
    rcases hg hz with ⟨rfl, rfl⟩ | ⟨hj, hz⟩
    · rcases hw.cand 2 _ w hc with hc | ⟨-, -, e⟩
      · rcases h.k.pc j x w hx hc with e | ⟨e, -⟩
        · exact .inl e
        · rw [hv] at e; cases e
      · exact .inr ⟨rfl, false, e⟩
    · exact h.k.pc j z w hz (c2 _ w (by omega) hc)
  · intro hpm j z hz hzv hc
    rcases hg hz with ⟨rfl, rfl⟩ | ⟨hj, hz⟩
    · rcases hw.cand 2 _ _ hc with hc | ⟨-, -, e⟩
      · rcases h.k.pc j x _ hx hc with e | ⟨e, -⟩
        · exact dwd_ne hbb e
        · rw [hv] at e; cases e
      · have := (dwd_inj hbb hbb e).2
        cases this
    · exact h.k.m hpm j z hz hzv (c2 _ _ (by omega) hc)
  · intro j z i v hz hzv hi hc
    rcases hg hz with ⟨rfl, rfl⟩ | ⟨hj, hz⟩
    · have := hs1 _ _ (c1 _ _ hc)
      rw [hcp i hi] at this
      show ok ((b : Int).toNat * C.chunk + i) v
      rw [Int.toNat_natCast]
      exact hbo i v hi (h.k.hea.la 0 _ _ this)
    · exact h.k.a j z i v hz hzv hi (c1 _ _ hc)
  · intro j z w i v hz hzv hcw hne hi hc
    rcases hg hz with ⟨rfl, rfl⟩ | ⟨hj, hz⟩
    · have hc := c0 _ _ hc
      change S.Cand 0 ((b : Int).toNat * C.chunk + i) v at hc
      show ok ((b : Int).toNat * C.chunk + i) v
      rw [Int.toNat_natCast] at hc ⊢
      exact hbo i v hi hc
    · exact h.k.b j z w i v hz hzv (c2 _ w (by omega) hcw) hne hi (c0 _ _ hc)
  · intro a v ha hn hc
    refine h.k.bo a v ha (fun j z hz hzv => ?_) (c0 _ _ hc)
    have hj : j ≠ k := by
      rintro rfl
      rw [hx] at hz
      injection hz with hz
      subst hz
      rw [hv] at hzv
      cases hzv
    exact hn j z (by rw [List.getElem?_set_ne (fun e => hj e.symm)]; exact hz) hzv
  · intro j z hz
    rw [hw.now, if_pos rfl]
    rcases hg hz with ⟨rfl, rfl⟩ | ⟨hj, hz⟩
    · rw [List.getElem?_set_self (by rw [h.k.lens.2.2]; omega)]
      rfl
    · rw [List.getElem?_set_ne (by omega)]
      exact h.wd j z hz
  · intro j z i hz hzv hzd hi
    rw [n0, n1]
    rcases hg hz with ⟨rfl, rfl⟩ | ⟨hj, hz⟩
    · show _ = (S.now 0)[(b : Int).toNat * C.chunk + i]?
      rw [Int.toNat_natCast]
      exact hcp i hi
    · exact h.ceq j z i hz hzv hzd hi
  · intro j z hz hzv
    rcases hg hz with ⟨rfl, rfl⟩ | ⟨hj, hz⟩
    · rfl
    · exact h.nl j z hz hzv
  · intro a u hu
    rcases hu with ⟨j, z, hz, hzv, hzb, hzn⟩ | ⟨hn, hu⟩
    · have hj : j ≠ k := by
        rintro rfl
        rw [hx] at hz
        injection hz with hz
        subst hz
        rw [hv] at hzv
        cases hzv
      exact .inl ⟨j, z, by rw [List.getElem?_set_ne (fun e => hj e.symm)]; exact hz, hzv, hzb, by rw [n1]; exact hzn⟩
    · by_cases hab : a / C.chunk = b
      · refine .inl ⟨k, ⟨true, false, (b : Int), st⟩, List.getElem?_set_self hkl, rfl, by rw [hab], ?_⟩
        rw [n1, hcp _ (blk_at a C.chunk h.k.ch).2, ← hab, (blk_at a C.chunk h.k.ch).1]
        exact hu
      · refine .inr ⟨fun j z hz hzv hzb => ?_, by rw [n0]; exact hu⟩
        rcases hg hz with ⟨rfl, rfl⟩ | ⟨hj, hz⟩
        · exact hab (by have : (b : Int) = ((a / C.chunk : Nat) : Int) := hzb; exact (Int.ofNat.inj this).symm)
        · exact hn j z hz hzv hzb
theorem VK.wo (h : VK C S sl pm ok) {a v : Nat} (hw : Wro S S' [C.n0, C.n1, C.n2] 0 a v) (ho : ∀ a u, ok a u → ok' a u) (hn : ok' a v) : VK C S' sl pm ok' := by
  have c2 : ∀ b u, S'.Cand 2 b u → S.Cand 2 b u := fun b u hc => (hw.cand 2 b u hc).elim id (fun e => by omega)
  have c1 : ∀ b u, S'.Cand 1 b u → S.Cand 1 b u := fun b u hc => (hw.cand 1 b u hc).elim id (fun e => by omega)
  refine ⟨hw.hea, h.n2, h.n1, h.ch, h.uq, h.wh, fun u hu => h.hd u (c2 _ _ hu), fun k x w hx hc => h.pc k x w hx (c2 _ _ hc), fun e k x hx hv hc => h.m e k x hx hv (c2 _ _ hc), fun k x i u hx hv hi hc => ho _ _ (h.a k x i u hx hv hi (c1 _ _ hc)), ?_, ?_⟩
  · intro k x w i u hx hv hcw hne hi hc
    rcases hw.cand 0 _ u hc with hc | ⟨-, e, rfl⟩
    · exact ho _ _ (h.b k x w i u hx hv (c2 _ _ hcw) hne hi hc)
    · rw [e]; exact hn
  · intro a' u ha hno hc
    rcases hw.cand 0 _ u hc with hc | ⟨-, e, rfl⟩
    · exact ho _ _ (h.bo a' u ha hno hc)
    · rw [e]; exact hn
theorem VK.wf (h : VK C S sl pm ok) {j v : Nat} (hw : Wro S S' [C.n0, C.n1, C.n2] 1 j v) (ho : ∀ a u, ok a u → ok' a u) (hn : ∀ (k : Nat) (x : Sl) (i : Nat), sl[k]? = some x → x.valid = true → i < C.chunk → k * C.chunk + i = j → ok' (x.block.toNat * C.chunk + i) v) : VK C S' sl pm ok' := by
  have c2 : ∀ b u, S'.Cand 2 b u → S.Cand 2 b u := fun b u hc => (hw.cand 2 b u hc).elim id (fun e => by omega)
  have c0 : ∀ b u, S'.Cand 0 b u → S.Cand 0 b u := fun b u hc => (hw.cand 0 b u hc).elim id (fun e => by omega)
  refine ⟨hw.hea, h.n2, h.n1, h.ch, h.uq, h.wh, fun u hu => h.hd u (c2 _ _ hu), fun k x w hx hc => h.pc k x w hx (c2 _ _ hc), fun e k x hx hv hc => h.m e k x hx hv (c2 _ _ hc), ?_, fun k x w i u hx hv hcw hne hi hc => ho _ _ (h.b k x w i u hx hv (c2 _ _ hcw) hne hi (c0 _ _ hc)), fun a u ha hno hc => ho _ _ (h.bo a u ha hno (c0 _ _ hc))⟩
  intro k x i u hx hv hi hc
  rcases hw.cand 1 _ u hc with hc | ⟨-, e, rfl⟩
  · exact ho _ _ (h.a k x i u hx hv hi hc)
  · exact hn k x i hx hv hi e
theorem VI.uorg (h : VI C S sl pm ok) {a v : Nat} (ha : a < C.n0) (hw : Wro S S' [C.n0, C.n1, C.n2] 0 a v) (hno : ∀ (k : Nat) (x : Sl), sl[k]? = some x → x.valid = true → x.block ≠ ((a / C.chunk : Nat) : Int)) :
    VI C S' sl pm (fun b u => ok b u ∨ (b = a ∧ u = v)) ∧ VV C S' sl a v ∧ ∀ b u, b ≠ a → VV C S sl b u → VV C S' sl b u := by
  have n1 : S'.now 1 = S.now 1 := by rw [hw.now, if_neg (by decide)]
  have n2 : S'.now 2 = S.now 2 := by rw [hw.now, if_neg (by decide)]
  refine ⟨⟨h.k.wo hw (fun _ _ => .inl) (.inr ⟨rfl, rfl⟩), fun k x hx => by rw [n2]; exact h.wd k x hx, ?_, h.nl⟩, ?_, ?_⟩
  · intro k x i hx hv hd hi
    rw [n1, hw.now, if_pos rfl, List.getElem?_set_ne]
    · exact h.ceq k x i hx hv hd hi
    · intro e
      refine hno k x hx hv ?_
      rw [e, (blk_div hi).1]
      exact h.k.blkof hx hv
  · exact .inr ⟨hno, by rw [hw.now, if_pos rfl, List.getElem?_set_self (by rw [h.k.lens.1]; exact ha)]⟩
  · intro b u hb hu
    rcases hu with ⟨k, x, hx, hv, hxb, hn⟩ | ⟨hn, hu⟩
    · exact .inl ⟨k, x, hx, hv, hxb, by rw [n1]; exact hn⟩
    · exact .inr ⟨hn, by rw [hw.now, if_pos rfl, List.getElem?_set_ne (fun e => hb e.symm)]; exact hu⟩
theorem VV.fast (h : VK C S sl pm ok) {k : Nat} {x : Sl} (hx : sl[k]? = some x) (hv : x.valid = true) {i v : Nat} (hi : i < C.chunk) (n1 : S'.now 1 = (S.now 1).set (k * C.chunk + i) v) (n0 : ∀ b, b ≠ x.block.toNat * C.chunk + i → (S'.now 0)[b]? = (S.now 0)[b]?) :
    VV C S' sl (x.block.toNat * C.chunk + i) v ∧ ∀ b u, b ≠ x.block.toNat * C.chunk + i → VV C S sl b u → VV C S' sl b u := by
  refine ⟨?_, ?_⟩
  · obtain ⟨e1, e2⟩ := blk_div (b := x.block.toNat) hi
    refine .inl ⟨k, x, hx, hv, by rw [e1]; exact h.blkof hx hv, ?_⟩
    rw [e2, n1, List.getElem?_set_self (by rw [h.lens.2.1]; exact h.fast hx hi)]
  · intro b u hb hu
    rcases hu with ⟨j, z, hz, hzv, hzb, hn⟩ | ⟨hn, hu⟩
    · refine .inl ⟨j, z, hz, hzv, hzb, ?_⟩
      rw [n1, List.getElem?_set_ne]
      · exact hn
      · intro e
        obtain ⟨rfl, e2⟩ := blk_eq hi (blk_at b C.chunk h.ch).2 e
        rw [hx] at hz
        injection hz with hz
        subst hz
        exact hb (by rw [toNat_blk hzb, e2, (blk_at b C.chunk h.ch).1])
    · exact .inr ⟨hn, by rw [n0 b hb]; exact hu⟩
theorem VI.ufast (h : VI C S sl pm ok) {k : Nat} {x : Sl} (hx : sl[k]? = some x) (hv : x.valid = true) (hd : x.dirty = true) {i v : Nat} (hi : i < C.chunk) (hw : Wro S S' [C.n0, C.n1, C.n2] 1 (k * C.chunk + i) v) :
    VI C S' sl pm (fun b u => ok b u ∨ (b = x.block.toNat * C.chunk + i ∧ u = v)) ∧ VV C S' sl (x.block.toNat * C.chunk + i) v ∧ ∀ b u, b ≠ x.block.toNat * C.chunk + i → VV C S sl b u → VV C S' sl b u := by
  have n0 : S'.now 0 = S.now 0 := by rw [hw.now, if_neg (by decide)]
  have n1 : S'.now 1 = (S.now 1).set (k * C.chunk + i) v := by rw [hw.now, if_pos rfl]
  have n2 : S'.now 2 = S.now 2 := by rw [hw.now, if_neg (by decide)]
  have hself : ∀ {j : Nat} {z : Sl} {i' : Nat}, sl[j]? = some z → i' < C.chunk → j * C.chunk + i' = k * C.chunk + i → j = k ∧ z = x ∧ i' = i := by
    intro j z i' hz hi' e
    obtain ⟨rfl, e2⟩ := blk_eq hi' hi e
    rw [hx] at hz
    injection hz with hz
    exact ⟨rfl, hz.symm, e2⟩
  refine ⟨⟨h.k.wf hw (fun _ _ => .inl) ?_, fun k x hx => by rw [n2]; exact h.wd k x hx, ?_, h.nl⟩, VV.fast h.k hx hv hi n1 (fun b _ => by rw [n0])⟩
  · intro j z i' hz hzv hi' e
    obtain ⟨rfl, rfl, rfl⟩ := hself hz hi' e
    exact .inr ⟨rfl, rfl⟩
  · intro j z i' hz hzv hzd hi'
    rw [n0, n1, List.getElem?_set_ne]
    · exact h.ceq j z i' hz hzv hzd hi'
    · intro e
      obtain ⟨-, rfl, -⟩ := hself hz hi' e.symm
      rw [hd] at hzd
      cases hzd
theorem VI.both (h : VI C S sl pm ok) {S2 : DS} {k : Nat} {x : Sl} (hx : sl[k]? = some x) (hv : x.valid = true) {i v : Nat} (hi : i < C.chunk) (hw : Wro S S' [C.n0, C.n1, C.n2] 0 (x.block.toNat * C.chunk + i) v) (hw2 : Wro S' S2 [C.n0, C.n1, C.n2] 1 (k * C.chunk + i) v) :
    VI C S2 sl pm (fun b u => ok b u ∨ (b = x.block.toNat * C.chunk + i ∧ u = v)) ∧ VV C S2 sl (x.block.toNat * C.chunk + i) v ∧ ∀ b u, b ≠ x.block.toNat * C.chunk + i → VV C S sl b u → VV C S2 sl b u := by
  have hbl := (h.k.wh k x hx hv).2
  have n0 : S2.now 0 = (S.now 0).set (x.block.toNat * C.chunk + i) v := by rw [hw2.now, if_neg (by decide), hw.now, if_pos rfl]
  have n1 : S2.now 1 = (S.now 1).set (k * C.chunk + i) v := by rw [hw2.now, if_pos rfl, hw.now, if_neg (by decide)]
  have n2 : S2.now 2 = S.now 2 := by rw [hw2.now, if_neg (by decide), hw.now, if_neg (by decide)]
  have hk1 : VK C S' sl pm (fun b u => ok b u ∨ (b = x.block.toNat * C.chunk + i ∧ u = v)) := h.k.wo hw (fun _ _ => .inl) (.inr ⟨rfl, rfl⟩)
  have hself : ∀ {j : Nat} {z : Sl} {i' : Nat}, sl[j]? = some z → i' < C.chunk → j * C.chunk + i' = k * C.chunk + i → j = k ∧ z = x ∧ i' = i := by
    intro j z i' hz hi' e
    obtain ⟨rfl, e2⟩ := blk_eq hi' hi e
    rw [hx] at hz
    injection hz with hz
    exact ⟨rfl, hz.symm, e2⟩
  refine ⟨⟨hk1.wf hw2 (fun _ _ => id) ?_, fun k x hx => by rw [n2]; exact h.wd k x hx, ?_, h.nl⟩, VV.fast h.k hx hv hi n1 (fun b hb => by rw [n0, List.getElem?_set_ne (fun e => hb e.symm)])⟩
  · intro j z i' hz hzv hi' e
    obtain ⟨rfl, rfl, rfl⟩ := hself hz hi' e
    exact .inr ⟨rfl, rfl⟩
  · intro j z i' hz hzv hzd hi'
    rw [n0, n1]
    by_cases e : j * C.chunk + i' = k * C.chunk + i
    · obtain ⟨rfl, rfl, rfl⟩ := hself hz hi' e
      rw [List.getElem?_set_self (by rw [h.k.lens.2.1]; exact h.k.fast hz hi'), List.getElem?_set_self (by rw [h.k.lens.1]; omega)]
    · rw [List.getElem?_set_ne (fun e' => e e'.symm), List.getElem?_set_ne]
      · exact h.ceq j z i' hz hzv hzd hi'
      · intro e2
        obtain ⟨e3, e4⟩ := blk_eq hi hi' e2
        obtain ⟨rfl, rfl⟩ := h.k.uqn hx hz hv hzv e3
        exact e (by rw [e4])
theorem VI.calm (h : VI C S sl pm ok) (h0 : Stl S 0) (h1 : Stl S 1) (h2 : Stl S 2) : VI C S sl pm (VV C S sl) := by
  refine ⟨⟨h.k.hea, h.k.n2, h.k.n1, h.k.ch, h.k.uq, h.k.wh, h.k.hd, h.k.pc, h.k.m, ?_, ?_, ?_⟩, h.wd, h.ceq, h.nl⟩
  · intro k x i v hx hv hi hc
    exact VV.slot h.k hx hv hi (h1 _ _ hc)
  · intro k x w i v hx hv hw hne hi hc
    have hwn := h2 _ _ hw
    rw [h.wd k x hx] at hwn
    injection hwn with hwn
    have hd : x.dirty = false := by
      rcases hd : x.dirty with _ | _
      · rfl
      · rw [← hwn, word_yes hv, hd] at hne
        exact absurd rfl hne
    refine VV.slot h.k hx hv hi ?_
    rw [h.ceq k x i hx hv hd hi]
    exact h0 _ _ hc
  · intro a v ha hn hc
    exact .inr ⟨hn, h0 _ _ hc⟩
end
end Go.Proofs.YtogchafnnkajfaaGreat
namespace Go.Proofs.YtogchafnnkajfaaGreat
set_option linter.unusedVariables false
theorem at_set {s : List Sl} {k : Nat} {y : Sl} {c : Int} {m : List Int} (hk : k < s.length) : (CS.mk (s.set k y) c m).at_ k = y := CS.at_eq (List.getElem?_set_self hk)
theorem find_none {s : CS} {b : Int} (h : s.find b = -1) : ∀ (k : Nat) (x : Sl), s.sl[k]? = some x → x.valid = true → x.block ≠ b := by
  intro k x hx hv e
  rcases idxOf_cases (fun x => x.valid && x.block == b) s.sl with ⟨-, h2⟩ | ⟨i, y, h2, _⟩
  · have := h2 k x hx
    simp [hv, e] at this
  · have : s.find b = (i : Int) := h2
    omega
section
variable {C : VC} {V : VS} {pm : Bool} {ok : Nat → Nat → Prop} {k : Nat} {x : Sl}
theorem p1_ou (h : VI C V.S V.x.sl pm ok) (hd : V.S.down = false) (hx : V.x.sl[k]? = some x) (hnl : x.valid = false → x.dirty = false) :
    Ou C pm ok V (V.p1 C k x) (fun V' => V'.x = V.x ∧ V'.S.now 0 = (if x.dirty = true then cpL (V.S.now 0) (x.block.toNat * C.chunk) (V.S.now 1) (k * C.chunk) C.chunk else V.S.now 0) ∧ V'.S.now 1 = V.S.now 1 ∧ V'.S.now 2 = V.S.now 2 ∧ Eqs C V'.S ok k x ∧ (∀ a u, VV C V.S V.x.sl a u → VV C V'.S V'.x.sl a u)) := by
  unfold VS.p1
  rcases hdt : x.dirty with _ | _
  · rw [if_neg (by simp), if_neg (by simp)]
    exact .inl ⟨rfl, hd, id, h, rfl, rfl, rfl, rfl, Eqs.clean h hx hdt, fun _ _ hu => hu⟩
  · rw [if_pos rfl, if_pos rfl]
    have hv : x.valid = true := by
      rcases hv : x.valid with _ | _
      · rw [hnl hv] at hdt; cases hdt
      · rfl
    have hl0 := h.k.lens.1
    have hcb := cb_ou h hd hx hv hdt
    rcases hcb with ⟨h0, h1, h2, h3, q1, q2, q3, q4, q5, q6⟩ | hf
    · dsimp only at h0 h1 h2 h3 q1 q2 q3 q4 q5 q6
      unfold view at q1
      injection q1 with r0 r1 r2 r3
      exact .inl ⟨h0, h1, h2, h3, q2, r0, r1, r2, Eqs.back h3 (by dsimp only; rw [q2]; exact hx) q4 hl0 (by dsimp only; rw [r0, r1]), q5⟩
    · exact .inr hf
theorem p2_ou (h : VI C V.S V.x.sl pm ok) (hd : V.S.down = false) (hok : V.x.Ok) (hx : V.x.sl[k]? = some x) :
    Ou C pm ok V (V.p2 C k x) (fun V' => view V' = (view V).vic2 C.chunk k ∧ V'.x = V.x.clear k ∧ (∀ a u, VV C V.S V.x.sl a u → VV C V'.S V'.x.sl a u)) := by
  have hkl := (List.getElem?_eq_some_iff.1 hx).1
  have hnl := hok.nl x (List.mem_of_getElem? hx)
  have hxa : (view V).x.at_ k = x := CS.at_eq hx
  have hvic : (view V).vic C.chunk k = if x.dirty = true then (view V).back C.chunk k false else view V := by unfold RV.vic; rw [hxa]
  refine (p1_ou h hd hx (fun e => by rw [hnl e]; rfl)).bnd (fun h1 h2 h3 => ?_)
  obtain ⟨q1, q2, q3, q4, q5, q6⟩ := h3
  generalize (V.p1 C k x).2 = V1 at *
  have hx1 : V1.x.sl[k]? = some x := by rw [q1]; exact hx
  rcases hv : x.valid with _ | _
  · have hxn := hnl hv
    rw [if_neg (by simp)]
    have hcl : V.x.clear k = V.x := by
      unfold CS.clear
      have he : V.x.sl[k] = nilS := by
        rw [← hxn]
        exact (List.getElem?_eq_some_iff.1 hx).2
      have : V.x.sl.set k nilS = V.x.sl := by
        rw [← he]
        exact List.set_getElem_self hkl
      rw [this]
    have hdt : x.dirty = false := by rw [hxn]; rfl
    refine .inl ⟨rfl, h1, id, h2, ?_, by rw [q1, hcl], q6⟩
    have hvc : (view V).vic C.chunk k = view V := by rw [hvic, hdt, if_neg (by simp)]
    unfold RV.vic2
    rw [hvc, hxa, hv, if_neg (by simp)]
    unfold view
    dsimp only
    rw [q2, q3, q4, q1, hdt, if_neg (by simp)]
  · rw [if_pos rfl]
    refine (free_ou h2 h1 hx1 q5).mono (fun _ g => ?_)
    obtain ⟨g1, g2, g3, g4⟩ := g
    refine ⟨?_, by rw [g2, q1], fun a u hu => g4 a u (q6 a u hu)⟩
    rw [g1]
    unfold RV.vic2
    rcases hdt : x.dirty with _ | _
    · have hvc : (view V).vic C.chunk k = view V := by rw [hvic, hdt, if_neg (by simp)]
      rw [hvc, hxa, hv, if_pos rfl]
      unfold view RV.free
      dsimp only
      rw [q2, q3, q4, q1, hdt, if_neg (by simp)]
    · have hvc : (view V).vic C.chunk k = (view V).back C.chunk k false := by rw [hvic, hdt, if_pos rfl]
      rw [hvc]
      have hbx : ((view V).back C.chunk k false).x = ⟨V.x.sl.set k { x with dirty := false }, V.x.clk, V.x.ms⟩ := by
        show V.x.setD k false = _
        unfold CS.setD
        rw [CS.at_eq hx]
      rw [hbx, at_set hkl]
      dsimp only
      rw [hv, if_pos rfl]
      unfold view RV.free RV.back
      dsimp only
      rw [q2, q3, q4, q1, hdt, if_pos rfl, if_neg (by simp), CS.at_eq hx]
      congr 1
      unfold CS.clear CS.setD
      rw [CS.at_eq hx]
      dsimp only
      rw [List.set_set]
theorem p67_ou {b : Nat} (h : VI C V.S V.x.sl pm ok) (hd : V.S.down = false) (hx : V.x.sl[k]? = some x) (hv : x.valid = false) (hb : b * C.chunk + C.chunk ≤ C.n0) (hb2 : b ≤ 16777215) (hf : V.x.find (b : Int) = -1)
    (hs1 : Stl V.S 1) (hcp : ∀ i, i < C.chunk → (V.S.now 1)[k * C.chunk + i]? = (V.S.now 0)[b * C.chunk + i]?) :
    Ou C pm ok V (bnd (V.f6 C k b) (fun V => (0, { V with x := V.x.place k (b : Int) }))) (fun V' => view V' = ⟨V.S.now 0, V.S.now 1, (V.S.now 2).set (1 + k) (dwd (b : Int) false), V.x.place k (b : Int)⟩ ∧ (∀ a u, VV C V.S V.x.sl a u → VV C V'.S V'.x.sl a u)) := by
  have hkl := (List.getElem?_eq_some_iff.1 hx).1
  have hn2 := h.k.n2
  have e1 : (1 + (k : Int)) = ((1 + k : Nat) : Int) := rfl
  have ef : V.f6 C k b = (V.S.swE 2 C.n2 ((1 + k : Nat) : Int), { V with S := V.S.swrite 2 C.n2 ((1 + k : Nat) : Int) (dwd (b : Int) false), ss := if V.S.swE 2 C.n2 ((1 + k : Nat) : Int) = 0 then V.ss.set k ⟨true, false, (b : Int), 0⟩ else V.ss }) := rfl
  rw [ef]
  rcases wr_out h.hea hd (i := 2) (n := C.n2) rfl (1 + k) (dwd (b : Int) false) (by omega) with ⟨w1, w2, w3, w4⟩ | ⟨w0, w1, w2, w3⟩
  · rw [bnd_ok (by exact w1)]
    obtain ⟨g1, g2⟩ := h.place hx hv hb hb2 (find_none hf) w4 hs1 hcp (V.x.clk + 1)
    refine .inl ⟨rfl, w2, w3, g1, ?_, g2⟩
    unfold view
    dsimp only
    rw [w4.now, w4.now, w4.now, if_neg (by decide), if_neg (by decide), if_pos rfl]
  · rw [bnd_no (show V.S.swE 2 C.n2 ((1 + k : Nat) : Int) ≠ 0 by rw [w1]; decide)]
    exact .inr ⟨w0, w1, w2, _, h.k.shr w3⟩
theorem p7_ou {b : Nat} (h : VI C V.S V.x.sl pm ok) (hd : V.S.down = false) (hok : V.x.Ok) (hx : V.x.sl[k]? = some x) (hb : b * C.chunk + C.chunk ≤ C.n0) (hb2 : b ≤ 16777215) (hf : V.x.find (b : Int) = -1) :
    Ou C pm ok V (V.p7 C k x b) (fun V' => view V' = (view V).prom C.chunk k b ∧ (∀ a u, VV C V.S V.x.sl a u → VV C V'.S V'.x.sl a u)) := by
  have hkl := (List.getElem?_eq_some_iff.1 hx).1
  unfold VS.p7 VS.p6
  rw [bnd_assoc]
  unfold VS.p5
  rw [bnd_assoc]
  unfold VS.p4
  rw [bnd_assoc]
  unfold VS.p3
  rw [bnd_assoc]
  refine (p2_ou h hd hok hx).bnd (fun h1 h2 h3 => ?_)
  obtain ⟨q1, q2, q3⟩ := h3
  generalize (V.p2 C k x).2 = V2 at *
  refine (fl_ou h2 h1 (i := 0) (n := C.n0) rfl).bnd (fun h1 h2 h3 => ?_)
  obtain ⟨r1, r2, r3, r4, r5⟩ := h3
  dsimp only at h1 h2 r1 r2 r3 r4 r5 ⊢
  have r1' : view ({ V2 with S := V2.S.flush 0 } : VS) = view V2 := r1
  have r2' : ({ V2 with S := V2.S.flush 0 } : VS).x = V2.x := rfl
  have hvv3 : ∀ a u, VV C V.S V.x.sl a u → VV C (V2.S.flush 0) V2.x.sl a u := fun a u hu => by
    have e := r1'
    unfold view at e
    injection e with e0 e1
    exact (q3 a u hu).now e0 e1
  have h1' : ({ V2 with S := V2.S.flush 0 } : VS).S.down = false := h1
  have h2' : VI C ({ V2 with S := V2.S.flush 0 } : VS).S ({ V2 with S := V2.S.flush 0 } : VS).x.sl pm ok := h2
  have hvv3' : ∀ a u, VV C V.S V.x.sl a u → VV C ({ V2 with S := V2.S.flush 0 } : VS).S ({ V2 with S := V2.S.flush 0 } : VS).x.sl a u := hvv3
  show Ou C pm ok ({ V2 with S := V2.S.flush 0 } : VS) _ _
  clear h1 h2 r1 r2 r3 r4 r5 hvv3
  generalize ({ V2 with S := V2.S.flush 0 } : VS) = V3 at *
  have hx3 : V3.x.sl[k]? = some nilS := by rw [r2', q2]; exact List.getElem?_set_self hkl
  have hf3 : V3.x.find (b : Int) = -1 := by rw [r2', q2]; exact find_clear hf k
  -- the copy
  have hcp := cp_in h2' h1' hx3 rfl hb C.chunk (Nat.le_refl _)
  have e4 : V3.f4 C k b = ((vcp V3.S 0 C.n0 (b * C.chunk) 1 C.n1 (k * C.chunk) C.chunk).1, { V3 with S := (vcp V3.S 0 C.n0 (b * C.chunk) 1 C.n1 (k * C.chunk) C.chunk).2 }) := rfl
  rw [e4]
  generalize vcp V3.S 0 C.n0 (b * C.chunk) 1 C.n1 (k * C.chunk) C.chunk = r at *
  obtain ⟨re, rS⟩ := r
  rcases hcp with ⟨g0, g1, g2, g3, g4, g5, g6, g7⟩ | ⟨g0, g1, g2, g3⟩
  rotate_left
  · dsimp only at g1
    rw [bnd_no (show re ≠ 0 by rw [g1]; decide)]
    exact .inr ⟨g0, g1, g2, _, g3⟩
  dsimp only at g0 g1 g2 g3 g4 g5 g6 g7 ⊢
  have hP4 : Ou C pm ok V3 (re, ({ V3 with S := rS } : VS)) (fun V' => V' = { V3 with S := rS }) := .inl ⟨g0, g1, g2, g3, rfl⟩
  refine hP4.bnd (fun k1 k2 k3 => ?_)
  dsimp only at k1 k2 ⊢
  clear k3 hP4
  refine (fl_ou (V := { V3 with S := rS }) k2 k1 (i := 1) (n := C.n1) rfl).bnd (fun h1 h2 h3 => ?_)
  obtain ⟨s1, s2, s3, s4, s5⟩ := h3
  have hv5 := s1
  unfold view at hv5
  injection hv5 with v0 v1 v2 v3
  dsimp only at h1 h2 v0 v1 v2 v3 s4 ⊢
  have v0 : (rS.flush 1).now 0 = rS.now 0 := v0
  have v1 : (rS.flush 1).now 1 = rS.now 1 := v1
  have v2 : (rS.flush 1).now 2 = rS.now 2 := v2
  have hl1 := k2.k.lens.2.1
  refine (p67_ou (b := b) (V := { V3 with S := rS.flush 1 }) h2 h1 hx3 rfl hb hb2 hf3 s4 (fun i hi => ?_)).mono (fun _ g => ?_)
  · have hfst := k2.k.fast hx3 hi
    have hl1' : (V3.S.now 1).length = C.n1 := h2'.k.lens.2.1
    have hl0' : (V3.S.now 0).length = C.n0 := h2'.k.lens.1
    show ((rS.flush 1).now 1)[_]? = ((rS.flush 1).now 0)[_]?
    rw [v0, v1, g5, g4 0 (by decide), cpL_at, if_pos ⟨by omega, by omega, by omega⟩, show k * C.chunk + i - k * C.chunk = i by omega, List.getElem?_eq_getElem (by omega)]
    rfl
  · obtain ⟨z1, z2⟩ := g
    refine ⟨?_, fun a u hu => z2 a u ((g6 a u (hvv3' a u hu)).now v0 v1)⟩
    rw [z1]
    unfold RV.prom
    rw [← q1, ← r1']
    unfold view
    dsimp only
    congr 1
    · rw [v0, g4 0 (by decide)]
    · rw [v1, g5]
    · rw [v2, g4 2 (by decide)]
end
end Go.Proofs.YtogchafnnkajfaaGreat
namespace Go.Proofs.YtogchafnnkajfaaGreat
set_option linter.unusedVariables false
theorem whole_iff (a c n : Nat) (hc : 1 ≤ c) : (a / c + 1) * c ≤ n ↔ ¬ n / c ≤ a / c := by
  rw [← Nat.le_div_iff_mul_le (by omega)]
  omega
def RV.read (c : Nat) (R : RV) (a : Nat) : Nat × RV := if 0 ≤ (R.slot c a).1 then ((R.slot c a).2.f[(R.slot c a).1.toNat * c + a % c]?.getD 0, (R.slot c a).2) else ((R.slot c a).2.o[a]?.getD 0, (R.slot c a).2)
def RV.wr (c : Nat) (pm : Bool) (R : RV) (k : Int) (a v : Nat) : RV :=
  if k < 0 then { R with o := R.o.set a v }
  else if pm = true then ⟨R.o, R.f.set (k.toNat * c + a % c) v, R.m.set (1 + k.toNat) ((R.x.setD k.toNat true).at_ k.toNat).word, R.x.setD k.toNat true⟩
  else ⟨R.o.set a v, R.f.set (k.toNat * c + a % c) v, R.m, R.x⟩
def RV.write (c : Nat) (pm : Bool) (R : RV) (a v : Nat) : RV := (R.slot c a).2.wr c pm (R.slot c a).1 a v
section
variable {C : VC} {V : VS} {pm : Bool} {ok : Nat → Nat → Prop}
theorem slt_ou {a : Nat} (h : VI C V.S V.x.sl pm ok) (hd : V.S.down = false) (hok : V.x.Ok) (ha : a < C.n0) (hn0 : C.n0 ≤ 65536) :
    Ou C pm ok V (V.slt C a).2 (fun V' => (V.slt C a).1 = ((view V).slot C.chunk a).1 ∧ view V' = ((view V).slot C.chunk a).2 ∧ (∀ a u, VV C V.S V.x.sl a u → VV C V'.S V'.x.sl a u)) := by
  have hbl := Nat.div_le_self a C.chunk
  have hw := whole_iff a C.chunk C.n0 h.k.ch
  have hl0 := h.k.lens.1
  have eS : (view V).slot C.chunk a = if ¬ (a / C.chunk + 1) * C.chunk ≤ C.n0 then (-1, view V)
    else if 0 ≤ V.x.find ((a / C.chunk : Nat) : Int) then (V.x.find ((a / C.chunk : Nat) : Int), { view V with x := V.x.touch (V.x.find ((a / C.chunk : Nat) : Int)).toNat })
    else if (V.x.miss ((a / C.chunk : Nat) : Int)).2 = false then (-1, { view V with x := (V.x.miss ((a / C.chunk : Nat) : Int)).1 })
    else ((V.x.miss ((a / C.chunk : Nat) : Int)).1.victim, RV.prom C.chunk { view V with x := (V.x.miss ((a / C.chunk : Nat) : Int)).1 } (V.x.miss ((a / C.chunk : Nat) : Int)).1.victim.toNat (a / C.chunk)) := by
    rw [← hl0]; rfl
  rw [eS]
  unfold VS.slt
  generalize a / C.chunk = b at *
  by_cases hb : C.n0 / C.chunk ≤ b
  · rw [if_pos hb, if_pos (show ¬ (b + 1) * C.chunk ≤ C.n0 from fun e => (hw.1 e) hb)]
    exact .inl ⟨rfl, hd, id, h, rfl, rfl, fun _ _ hu => hu⟩
  · rw [if_neg hb, if_neg (show ¬ ¬ (b + 1) * C.chunk ≤ C.n0 from fun e => e (hw.2 hb))]
    have hbn : b * C.chunk + C.chunk ≤ C.n0 := by
      have := hw.2 hb
      rw [Nat.add_mul] at this
      omega
    by_cases hf : 0 ≤ V.x.find (b : Int)
    · rw [if_pos hf, if_pos hf]
      obtain ⟨k, x, hk, hx, hv, hxb⟩ := find_at hf
      rw [hk, Int.toNat_natCast]
      -- a stamp alone
      have hsl : (V.x.touch k).sl = V.x.sl.set k { x with stamp := V.x.clk + 1 } := by
        unfold CS.touch
        rw [CS.at_eq hx]
      have hg : ∀ {j : Nat} {z : Sl}, (V.x.touch k).sl[j]? = some z → ∃ z', V.x.sl[j]? = some z' ∧ z.valid = z'.valid ∧ z.dirty = z'.dirty ∧ z.block = z'.block ∧ z.word = z'.word := by
        intro j z hz
        rw [hsl] at hz
        rcases set_get hz with ⟨rfl, rfl⟩ | ⟨-, hz⟩
        · exact ⟨x, hx, rfl, rfl, rfl, rfl⟩
        · exact ⟨z, hz, rfl, rfl, rfl, rfl⟩
      have hg2 : ∀ {j : Nat} {z : Sl}, V.x.sl[j]? = some z → ∃ z', (V.x.touch k).sl[j]? = some z' ∧ z'.valid = z.valid ∧ z'.block = z.block := by
        intro j z hz
        rw [hsl]
        by_cases e : j = k
        · subst e
          rw [hx] at hz
          injection hz with hz
          subst hz
          exact ⟨_, List.getElem?_set_self (List.getElem?_eq_some_iff.1 hx).1, rfl, rfl⟩
        · exact ⟨z, by rw [List.getElem?_set_ne (fun e' => e e'.symm)]; exact hz, rfl, rfl⟩
      have hlen : (V.x.touch k).sl.length = V.x.sl.length := by rw [hsl, List.length_set]
      have hVI : VI C V.S (V.x.touch k).sl pm ok := by
        refine ⟨⟨h.k.hea, by rw [hlen]; exact h.k.n2, by rw [hlen]; exact h.k.n1, h.k.ch, ?_, ?_, ?_, ?_, ?_, ?_, ?_, ?_⟩, ?_, ?_, ?_⟩
        · intro i j p q hp hq hpv hqv he
          obtain ⟨p', hp', e1, -, e2, -⟩ := hg hp
          obtain ⟨q', hq', e3, -, e4, -⟩ := hg hq
          exact h.k.uq i j p' q' hp' hq' (by rw [← e1]; exact hpv) (by rw [← e3]; exact hqv) (by rw [← e2, ← e4]; exact he)
        · intro j z hz hzv
          obtain ⟨z', hz', e1, -, e2, -⟩ := hg hz
          rw [e2]
          exact h.k.wh j z' hz' (by rw [← e1]; exact hzv)
        · intro v hc; rw [hlen]; exact h.k.hd v hc
        · intro j z w hz hc
          obtain ⟨z', hz', e1, -, e2, -⟩ := hg hz
          rw [e1, e2]
          exact h.k.pc j z' w hz' hc
        · intro e j z hz hzv
          obtain ⟨z', hz', e1, -, e2, -⟩ := hg hz
          rw [e2]
          exact h.k.m e j z' hz' (by rw [← e1]; exact hzv)
        · intro j z i v hz hzv hi hc
          obtain ⟨z', hz', e1, -, e2, -⟩ := hg hz
          rw [e2]
          exact h.k.a j z' i v hz' (by rw [← e1]; exact hzv) hi hc
        · intro j z w i v hz hzv hc hne hi hc0
          obtain ⟨z', hz', e1, -, e2, -⟩ := hg hz
          rw [e2] at hne hc0 ⊢
          exact h.k.b j z' w i v hz' (by rw [← e1]; exact hzv) hc hne hi hc0
        · intro a v ha hn hc
          refine h.k.bo a v ha (fun j z hz hzv hzb => ?_) hc
          obtain ⟨z', hz', e1, e2⟩ := hg2 hz
          exact hn j z' hz' (by rw [e1]; exact hzv) (by rw [e2]; exact hzb)
        · intro j z hz
          obtain ⟨z', hz', -, -, -, e⟩ := hg hz
          rw [e]
          exact h.wd j z' hz'
        · intro j z i hz hzv hzd hi
          obtain ⟨z', hz', e1, e2, e3, -⟩ := hg hz
          rw [e3]
          exact h.ceq j z' i hz' (by rw [← e1]; exact hzv) (by rw [← e2]; exact hzd) hi
        · intro j z hz hzv
          obtain ⟨z', hz', e1, e2, -⟩ := hg hz
          rw [e2]
          exact h.nl j z' hz' (by rw [← e1]; exact hzv)
      refine .inl ⟨rfl, hd, id, hVI, rfl, rfl, fun a u hu => ?_⟩
      rcases hu with ⟨j, z, hz, hzv, hzb, hzn⟩ | ⟨hn, hu⟩
      · obtain ⟨z', hz', e1, e2⟩ := hg2 hz
        exact .inl ⟨j, z', hz', by rw [e1]; exact hzv, by rw [e2]; exact hzb, hzn⟩
      · refine .inr ⟨fun j z hz hzv hzb => ?_, hu⟩
        obtain ⟨z', hz', e1, -, e2, -⟩ := hg hz
        exact hn j z' hz' (by rw [← e1]; exact hzv) (by rw [← e2]; exact hzb)
    · rw [if_neg hf, if_neg hf]
      have hfn := find_neg hf
      obtain ⟨m1, m2, m3, m4⟩ := miss_facts V.x (b : Int)
      have hok1 := hok.miss (b : Int) (by omega) hfn
      have h1 : VI C ({ V with x := (V.x.miss (b : Int)).1 } : VS).S ({ V with x := (V.x.miss (b : Int)).1 } : VS).x.sl pm ok := by
        show VI C V.S (V.x.miss (b : Int)).1.sl pm ok
        rw [m1]; exact h
      have hvv : ∀ a u, VV C V.S V.x.sl a u → VV C ({ V with x := (V.x.miss (b : Int)).1 } : VS).S ({ V with x := (V.x.miss (b : Int)).1 } : VS).x.sl a u := by
        intro a u hu
        show VV C V.S (V.x.miss (b : Int)).1.sl a u
        rw [m1]; exact hu
      rcases hmi : (V.x.miss (b : Int)).2 with _ | _
      · rw [if_pos rfl, if_pos rfl]
        exact .inl ⟨rfl, hd, id, h1, rfl, rfl, hvv⟩
      · rw [if_neg (show ¬ (true = false) by simp), if_neg (show ¬ (true = false) by simp)]
        obtain ⟨k, x, hvk, hxk⟩ := victim_at hok1
        have hP : ({ V with x := (V.x.miss (b : Int)).1 } : VS).prm C b = ({ V with x := (V.x.miss (b : Int)).1 } : VS).p7 C k x b := by
          unfold VS.prm
          dsimp only
          rw [hvk, Int.toNat_natCast, CS.at_eq hxk]
        dsimp only
        rw [hP, hvk, Int.toNat_natCast]
        have hp7 := p7_ou (V := ({ V with x := (V.x.miss (b : Int)).1 } : VS)) (k := k) (x := x) (b := b) h1 hd hok1 hxk hbn (by omega) (by show (V.x.miss (b : Int)).1.find (b : Int) = -1; rw [m3]; exact hfn)
        generalize ({ V with x := (V.x.miss (b : Int)).1 } : VS).p7 C k x b = p at *
        rcases hp7 with ⟨g0, g1, g2, g3, g4, g5⟩ | hf
        · exact .inl ⟨g0, g1, g2, g3, by rw [if_pos g0], g4, fun a u hu => g5 a u (hvv a u hu)⟩
        · exact .inr hf
end
end Go.Proofs.YtogchafnnkajfaaGreat
namespace Go.Proofs.YtogchafnnkajfaaGreat
set_option linter.unusedVariables false
theorem set_self {α : Type} {l : List α} {i : Nat} {x : α} (h : l[i]? = some x) : l.set i x = l := by
  obtain ⟨hi, e⟩ := List.getElem?_eq_some_iff.1 h
  rw [← e]
  exact List.set_getElem_self hi
section
variable {C : VC} {V : VS} {pm : Bool} {ok : Nat → Nat → Prop}
theorem slt_none {a : Nat} (h : VI C V.S V.x.sl pm ok) (hok : V.x.Ok) (ha : a < C.n0) (hn0 : C.n0 ≤ 65536) (hs : (V.slt C a).1 = -1) (he : (V.slt C a).2.1 = 0) :
    ∀ (k : Nat) (x : Sl), (V.slt C a).2.2.x.sl[k]? = some x → x.valid = true → x.block ≠ ((a / C.chunk : Nat) : Int) := by
  have hbl := Nat.div_le_self a C.chunk
  have hw := whole_iff a C.chunk C.n0 h.k.ch
  unfold VS.slt at hs he ⊢
  generalize hb : a / C.chunk = b at *
  by_cases hbn : C.n0 / C.chunk ≤ b
  · rw [if_pos hbn]
    intro k x hx hv e
    have h2 := (h.k.wh k x hx hv).2
    rw [toNat_blk e] at h2
    refine hw.1 ?_ hbn
    rw [Nat.add_mul, Nat.one_mul]
    exact h2
  · rw [if_neg hbn] at hs he ⊢
    by_cases hf : 0 ≤ V.x.find (b : Int)
    · rw [if_pos hf] at hs
      exact absurd hs (by dsimp only; omega)
    · rw [if_neg hf] at hs he ⊢
      obtain ⟨m1, m2, m3, m4⟩ := miss_facts V.x (b : Int)
      rcases hmi : (V.x.miss (b : Int)).2 with _ | _
      · rw [if_pos rfl]
        dsimp only
        rw [m1]
        exact find_none (find_neg hf)
      · rw [hmi, if_neg (show ¬ (true = false) by simp)] at hs he
        dsimp only at hs he
        rw [if_pos he] at hs
        obtain ⟨k, x, hvk, hxk⟩ := victim_at (hok.miss (b : Int) (by omega) (find_neg hf))
        omega
theorem rd_ou {a : Nat} (h : VI C V.S V.x.sl pm ok) (hd : V.S.down = false) (hok : V.x.Ok) (hlen : V.x.sl.length = V.ss.length) (hclk : V.x.clk < 1099511627776) (ha : a < C.n0) (hn0 : C.n0 ≤ 65536) :
    ((V.rdR C a).2 = 0 ∧ (V.slt C a).2.2.S.down = false ∧ (V.S.fuse = 0 → (V.slt C a).2.2.S.fuse = 0) ∧ VI C (V.slt C a).2.2.S (V.slt C a).2.2.x.sl pm ok ∧ (V.rdR C a).1 = ((view V).read C.chunk a).1 ∧ view (V.slt C a).2.2 = ((view V).read C.chunk a).2 ∧ VV C (V.slt C a).2.2.S (V.slt C a).2.2.x.sl a (V.rdR C a).1 ∧ (∀ a u, VV C V.S V.x.sl a u → VV C (V.slt C a).2.2.S (V.slt C a).2.2.x.sl a u → True) ∧ (∀ b u, VV C V.S V.x.sl b u → VV C (V.slt C a).2.2.S (V.slt C a).2.2.x.sl b u)) ∨
    (V.S.fuse ≠ 0 ∧ (V.rdR C a).2 = 5 ∧ (V.slt C a).2.2.S.down = true ∧ ∃ sl, VK C (V.slt C a).2.2.S sl pm ok) := by
  have hso := slt_ok (C := C) hok hlen ha hn0 hclk
  have hsn := slt_none h hok ha hn0
  have hR : (view V).read C.chunk a = if 0 ≤ ((view V).slot C.chunk a).1 then (((view V).slot C.chunk a).2.f[((view V).slot C.chunk a).1.toNat * C.chunk + a % C.chunk]?.getD 0, ((view V).slot C.chunk a).2) else (((view V).slot C.chunk a).2.o[a]?.getD 0, ((view V).slot C.chunk a).2) := rfl
  have hE : V.rdR C a = if (V.slt C a).2.1 ≠ 0 then (0, (V.slt C a).2.1)
    else if (V.slt C a).1 < 0 then ((V.slt C a).2.2.S.sread 0 C.n0 (a : Int), (V.slt C a).2.2.S.sE 0 C.n0 (a : Int))
    else ((V.slt C a).2.2.S.sread 1 C.n1 (((V.slt C a).1.toNat * C.chunk + a % C.chunk : Nat) : Int), (V.slt C a).2.2.S.sE 1 C.n1 (((V.slt C a).1.toNat * C.chunk + a % C.chunk : Nat) : Int)) := rfl
  have hat := blk_at a C.chunk h.k.ch
  rcases slt_ou h hd hok ha hn0 with ⟨h0, h1, h2, h3, h4, h5, h6⟩ | ⟨h0, h1, h2, h3⟩
  · left
    rw [if_neg (fun e => e h0)] at hE
    have hso := hso h0
    have hsn' := fun e => hsn e h0
    rw [hR, ← h4, ← h5]
    generalize V.slt C a = q at *
    obtain ⟨qk, qe, qV⟩ := q
    dsimp only at *
    rw [hE]
    rcases hso with rfl | ⟨k, x, rfl, hk, hx, hxv, hxb⟩
    · rw [if_pos (by omega), if_neg (by omega)]
      obtain ⟨r1, r2⟩ := rd_out h3.hea h1 (i := 0) (n := C.n0) rfl a ha
      refine ⟨r1, h1, h2, h3, ?_, rfl, .inr ⟨hsn' rfl, r2⟩, fun _ _ _ _ => trivial, h6⟩
      show _ = (qV.S.now 0)[a]?.getD 0
      rw [r2]
      rfl
    · rw [if_neg (by omega), if_pos (by omega), Int.toNat_natCast]
      obtain ⟨r1, r2⟩ := rd_out h3.hea h1 (i := 1) (n := C.n1) rfl (k * C.chunk + a % C.chunk) (h3.k.fast hx hat.2)
      refine ⟨r1, h1, h2, h3, ?_, rfl, ?_, fun _ _ _ _ => trivial, h6⟩
      · show _ = (qV.S.now 1)[k * C.chunk + a % C.chunk]?.getD 0
        rw [r2]
        rfl
      · exact .inl ⟨k, x, hx, hxv, hxb, r2⟩
  · right
    refine ⟨h0, ?_, h2, h3⟩
    rw [hE, if_pos (by rw [h1]; decide)]
    exact h1
theorem free_down {k : Nat} (h : Hea V.S [C.n0, C.n1, C.n2]) (hd : V.S.down = true) (hk : 1 + k < C.n2) : V.freeE C k = 5 ∧ (V.freeV C k).S = V.S ∧ (V.loseV C k).S = V.S := by
  obtain ⟨w1, w2⟩ := wr_down h hd (i := 2) (n := C.n2) rfl (1 + k) nilS.word hk
  have e : V.setE C k = 5 := w1
  have eS : (V.setV C k nilS).S = V.S := w2
  have eF : V.freeE C k = 5 := by unfold VS.freeE; rw [if_neg (by rw [e]; decide), e]
  have eV : (V.freeV C k).S = V.S := by unfold VS.freeV; rw [if_neg (by rw [e]; decide)]; exact eS
  refine ⟨eF, eV, ?_⟩
  unfold VS.loseV
  rw [if_neg (by rw [eF]; decide)]
  exact eV
def WrO (C : VC) (pm : Bool) (ok : Nat → Nat → Prop) (V : VS) (a v : Nat) (r : Int × VS) (R : RV) : Prop :=
  (r.1 = 0 ∧ r.2.S.down = false ∧ (V.S.fuse = 0 → r.2.S.fuse = 0) ∧ VI C r.2.S r.2.x.sl pm (fun b u => ok b u ∨ (b = a ∧ u = v)) ∧ view r.2 = R ∧ VV C r.2.S r.2.x.sl a v ∧ ∀ b u, b ≠ a → VV C V.S V.x.sl b u → VV C r.2.S r.2.x.sl b u) ∨
  (V.S.fuse ≠ 0 ∧ (r.1 = 0 ∨ r.1 = 5) ∧ r.2.S.down = true ∧ ∃ sl, VK C r.2.S sl pm (fun b u => ok b u ∨ (b = a ∧ u = v)))
theorem wr0_ou {a v : Nat} (h : VI C V.S V.x.sl pm ok) (hd : V.S.down = false) (ha : a < C.n0) (hno : ∀ (k : Nat) (x : Sl), V.x.sl[k]? = some x → x.valid = true → x.block ≠ ((a / C.chunk : Nat) : Int)) :
    WrO C pm ok V a v (V.S.swE 0 C.n0 (a : Int), V.wr0 C a v) ((view V).wr C.chunk pm (-1) a v) := by
  rcases wr_out h.hea hd (i := 0) (n := C.n0) rfl a v ha with ⟨w1, w2, w3, w4⟩ | ⟨w0, w1, w2, w3⟩
  · obtain ⟨g1, g2, g3⟩ := h.uorg ha w4 hno
    refine .inl ⟨w1, w2, w3, g1, ?_, g2, g3⟩
    unfold RV.wr
    rw [if_pos (by omega)]
    unfold view VS.wr0
    dsimp only
    rw [w4.now, w4.now, w4.now, if_pos rfl, if_neg (by decide), if_neg (by decide)]
  · exact .inr ⟨w0, .inr w1, w2, _, (h.k.shr w3).mono (fun _ _ _ => .inl)⟩
theorem thr_ou {a v k : Nat} {x : Sl} (h : VI C V.S V.x.sl false ok) (hd : V.S.down = false) (ha : a < C.n0) (hx : V.x.sl[k]? = some x) (hv : x.valid = true) (hb : x.block = ((a / C.chunk : Nat) : Int)) :
    WrO C false ok V a v (V.thr C k a v) ((view V).wr C.chunk false (k : Int) a v) := by
  have hat := blk_at a C.chunk h.k.ch
  have hkl := (List.getElem?_eq_some_iff.1 hx).1
  have hn2 := h.k.n2
  have haa : a = x.block.toNat * C.chunk + a % C.chunk := by rw [toNat_blk hb, hat.1]
  have hfs := h.k.fast hx hat.2
  unfold VS.thr
  rcases wr_out h.hea hd (i := 0) (n := C.n0) rfl a v ha with ⟨w1, w2, w3, w4⟩ | ⟨w0, w1, w2, w3⟩
  · rw [if_neg (fun e => e w1)]
    have hk1 : VK C (V.wr0 C a v).S V.x.sl false (fun b u => ok b u ∨ (b = a ∧ u = v)) := h.k.wo w4 (fun _ _ => .inl) (.inr ⟨rfl, rfl⟩)
    rcases wr_out (S := (V.wr0 C a v).S) w4.hea w2 (i := 1) (n := C.n1) rfl (k * C.chunk + a % C.chunk) v hfs with ⟨z1, z2, z3, z4⟩ | ⟨z0, z1, z2, z3⟩
    · rw [if_neg (fun e => e z1)]
      rw [haa] at w4
      obtain ⟨g1, g2, g3⟩ := h.both hx hv hat.2 w4 (by rw [← haa]; exact z4)
      rw [← haa] at g1 g2 g3
      refine .inl ⟨rfl, z2, fun e => z3 (w3 e), g1, ?_, g2, g3⟩
      rw [← haa] at w4
      unfold RV.wr
      rw [if_neg (by omega), if_neg (by simp), Int.toNat_natCast]
      have q0 : (((V.wr0 C a v).wr1 C ((k * C.chunk + a % C.chunk : Nat) : Int) v).S.now 0) = (V.S.now 0).set a v := (z4.now 0).trans (by rw [if_neg (by decide)]; exact (w4.now 0).trans (if_pos rfl))
      have q1 : (((V.wr0 C a v).wr1 C ((k * C.chunk + a % C.chunk : Nat) : Int) v).S.now 1) = (V.S.now 1).set (k * C.chunk + a % C.chunk) v := (z4.now 1).trans (by rw [if_pos rfl]; exact congrArg (fun l => List.set l _ v) ((w4.now 1).trans (if_neg (by decide))))
      have q2 : (((V.wr0 C a v).wr1 C ((k * C.chunk + a % C.chunk : Nat) : Int) v).S.now 2) = V.S.now 2 := (z4.now 2).trans (by rw [if_neg (by decide)]; exact (w4.now 2).trans (if_neg (by decide)))
      unfold view
      dsimp only
      rw [q0, q1, q2]
      rfl
    · rw [if_pos (by rw [z1]; decide)]
      have hfd := free_down (V := (V.wr0 C a v).wr1 C ((k * C.chunk + a % C.chunk : Nat) : Int) v) (C := C) (k := k) z3.hea z2 (by omega)
      refine .inr ⟨fun e => z0 (w3 e), .inl rfl, ?_, V.x.sl, ?_⟩
      · dsimp only; rw [hfd.2.2]; exact z2
      · dsimp only; rw [hfd.2.2]; exact hk1.shr z3
  · rw [if_pos (by rw [w1]; decide)]
    have hfd := free_down (V := V.wr0 C a v) (C := C) (k := k) w3.hea w2 (by omega)
    refine .inr ⟨w0, .inr w1, ?_, V.x.sl, ?_⟩
    · dsimp only; rw [hfd.2.2]; exact w2
    · dsimp only; rw [hfd.2.2]; exact (h.k.shr w3).mono (fun _ _ _ => .inl)
theorem bc1_ou {k : Nat} {x : Sl} (h : VI C V.S V.x.sl true ok) (hd : V.S.down = false) (hx : V.x.sl[k]? = some x) (hv : x.valid = true) :
    Ou C true ok V (V.bc1 C k x) (fun V' => view V' = ⟨V.S.now 0, V.S.now 1, (V.S.now 2).set (1 + k) (dwd x.block true), V.x.setD k true⟩ ∧ (∀ a u, VV C V.S V.x.sl a u → VV C V'.S V'.x.sl a u)) := by
  have hkl := (List.getElem?_eq_some_iff.1 hx).1
  have hsd : V.x.setD k true = ⟨V.x.sl.set k { x with dirty := true }, V.x.clk, V.x.ms⟩ := by unfold CS.setD; rw [CS.at_eq hx]
  unfold VS.bc1
  rcases hdt : x.dirty with _ | _
  · rw [if_neg (by simp)]
    rcases st_out h hd k hkl { x with dirty := true } with ⟨h0, h1, h2, h3, h4, h5⟩ | ⟨h0, h1, h2, h3⟩
    · rw [bnd_ok (p := (V.setE C k, V.setV C k { x with dirty := true })) h0]
      have ex : (V.setV C k { x with dirty := true }).x = V.x.setD k true := by rw [hsd]; unfold VS.setV; rw [if_pos h0]
      obtain ⟨g1, g2⟩ := h.cmt (y := { x with dirty := true }) hx h4 (fun e => by rw [hv] at e; cases e) (fun _ => ⟨hv, rfl, fun _ => rfl⟩) (fun _ e => by cases e)
      refine .inl ⟨h1, h2, h3, by dsimp only; rw [ex, hsd]; exact g1, ?_, fun a u hu => by dsimp only; rw [ex, hsd]; exact g2 a u hu⟩
      unfold view
      dsimp only
      rw [h4.n0, h4.n1, h4.n2, ex, show Sl.word { x with dirty := true } = dwd x.block true from word_yes (x := { x with dirty := true }) hv]
    · rw [bnd_no (p := (V.setE C k, V.setV C k { x with dirty := true })) (show V.setE C k ≠ 0 by rw [h1]; decide)]
      exact .inr ⟨h0, h1, h2, _, h3⟩
  · rw [if_pos rfl]
    refine .inl ⟨rfl, hd, id, h, ?_, fun _ _ hu => hu⟩
    have hw := h.wd k x hx
    rw [word_yes hv, hdt] at hw
    have hxs : ({ x with dirty := true } : Sl) = x := by
      obtain ⟨xv, xd, xb, xs⟩ := x
      obtain rfl : xd = true := hdt
      rfl
    unfold view
    rw [hsd, hxs, set_self hx, set_self hw]
theorem bck_ou {a v k : Nat} {x : Sl} (h : VI C V.S V.x.sl true ok) (hd : V.S.down = false) (ha : a < C.n0) (hx : V.x.sl[k]? = some x) (hv : x.valid = true) (hb : x.block = ((a / C.chunk : Nat) : Int)) :
    WrO C true ok V a v (V.bck C k a v x) ((view V).wr C.chunk true (k : Int) a v) := by
  have hat := blk_at a C.chunk h.k.ch
  have hkl := (List.getElem?_eq_some_iff.1 hx).1
  have haa : a = x.block.toNat * C.chunk + a % C.chunk := by rw [toNat_blk hb, hat.1]
  have hsd : V.x.setD k true = ⟨V.x.sl.set k { x with dirty := true }, V.x.clk, V.x.ms⟩ := by unfold CS.setD; rw [CS.at_eq hx]
  unfold VS.bck
  rcases bc1_ou h hd hx hv with ⟨h0, h1, h2, h3, h4, h5⟩ | ⟨h0, h1, h2, sl, h3⟩
  · rw [bnd_ok h0]
    generalize (V.bc1 C k x).2 = V1 at *
    unfold view at h4
    injection h4 with r0 r1 r2 r3
    have hx1 : V1.x.sl[k]? = some { x with dirty := true } := by rw [r3, hsd]; exact List.getElem?_set_self hkl
    have hfs := h3.k.fast hx1 hat.2
    rcases wr_out h3.hea h1 (i := 1) (n := C.n1) rfl (k * C.chunk + a % C.chunk) v hfs with ⟨w1, w2, w3, w4⟩ | ⟨w0, w1, w2, w3⟩
    · obtain ⟨g1, g2, g3⟩ := h3.ufast hx1 hv rfl hat.2 w4
      change VI C _ _ true (fun b u => ok b u ∨ (b = x.block.toNat * C.chunk + a % C.chunk ∧ u = v)) at g1
      change VV C _ _ (x.block.toNat * C.chunk + a % C.chunk) v at g2
      change ∀ b u, b ≠ x.block.toNat * C.chunk + a % C.chunk → _ at g3
      rw [← haa] at g1 g2 g3
      refine .inl ⟨w1, w2, fun e => w3 (h2 e), g1, ?_, g2, fun b u hb hu => g3 b u hb (h5 b u hu)⟩
      unfold RV.wr
      rw [if_neg (by omega), if_pos rfl, Int.toNat_natCast]
      have q0 : (V1.wr1 C ((k * C.chunk + a % C.chunk : Nat) : Int) v).S.now 0 = V.S.now 0 := (w4.now 0).trans (by rw [if_neg (by decide)]; exact r0)
      have q1 : (V1.wr1 C ((k * C.chunk + a % C.chunk : Nat) : Int) v).S.now 1 = (V.S.now 1).set (k * C.chunk + a % C.chunk) v := (w4.now 1).trans (by rw [if_pos rfl, r1])
      have q2 : (V1.wr1 C ((k * C.chunk + a % C.chunk : Nat) : Int) v).S.now 2 = (V.S.now 2).set (1 + k) (dwd x.block true) := (w4.now 2).trans (by rw [if_neg (by decide)]; exact r2)
      unfold view
      dsimp only
      rw [q0, q1, q2]
      have q3 : (V1.wr1 C ((k * C.chunk + a % C.chunk : Nat) : Int) v).x = V.x.setD k true := r3
      rw [q3, hsd, at_set hkl]
      congr 2
      exact (word_yes (x := { x with dirty := true }) hv).symm
    · exact .inr ⟨fun e => w0 (h2 e), .inr w1, w2, _, (h3.k.shr w3).mono (fun _ _ _ => .inl)⟩
  · rw [bnd_no (by rw [h1]; decide)]
    exact .inr ⟨h0, .inr h1, h2, sl, h3.mono (fun _ _ _ => .inl)⟩
theorem wrt_ou {a v : Nat} (h : VI C V.S V.x.sl pm ok) (hpm : V.pm = pm) (hd : V.S.down = false) (hok : V.x.Ok) (hlen : V.x.sl.length = V.ss.length) (hclk : V.x.clk < 1099511627776) (ha : a < C.n0) (hn0 : C.n0 ≤ 65536) :
    WrO C pm ok V a v (V.wrt C a v) ((view V).write C.chunk pm a v) := by
  have hso := slt_ok (C := C) hok hlen ha hn0 hclk
  have hsn := slt_none h hok ha hn0
  have hbd := (Bd.slt (C := C) hok hlen ha hn0 hclk).pm
  unfold VS.wrt RV.write
  rcases slt_ou h hd hok ha hn0 with ⟨h0, h1, h2, h3, h4, h5, h6⟩ | ⟨h0, h1, h2, sl, h3⟩
  · rw [if_neg (fun e => e h0)]
    have hso := hso h0
    have hsn' := fun e => hsn e h0
    rw [← h4, ← h5]
    generalize V.slt C a = q at *
    obtain ⟨qk, qe, qV⟩ := q
    dsimp only at *
    have fin : ∀ r R, WrO C pm ok qV a v r R → WrO C pm ok V a v r R := by
      rintro r R (⟨g0, g1, g2, g3, g4, g5, g6⟩ | ⟨g0, g1, g2, g3⟩)
      · exact .inl ⟨g0, g1, fun e => g2 (h2 e), g3, g4, g5, fun b u hb hu => g6 b u hb (h6 b u hu)⟩
      · exact .inr ⟨fun e => g0 (h2 e), g1, g2, g3⟩
    refine fin _ _ ?_
    rcases hso with rfl | ⟨k, x, rfl, hk, hx, hxv, hxb⟩
    · rw [if_pos (by omega)]
      exact wr0_ou h3 h1 ha (hsn' rfl)
    · rw [if_neg (by omega), Int.toNat_natCast, CS.at_eq hx, hbd, hpm]
      cases pm
      · rw [if_neg (by simp)]
        exact thr_ou h3 h1 ha hx hxv hxb
      · rw [if_pos rfl]
        exact bck_ou h3 h1 ha hx hxv hxb
  · rw [if_pos (by rw [h1]; decide)]
    exact .inr ⟨h0, .inr h1, h2, sl, h3.mono (fun _ _ _ => .inl)⟩
theorem fls_ou (h : VI C V.S V.x.sl pm ok) (hd : V.S.down = false) : V.flE = 0 ∧ V.flV.S.down = false ∧ V.flV.S.fuse = V.S.fuse ∧ VI C V.flV.S V.flV.x.sl pm (VV C V.flV.S V.flV.x.sl) ∧ view V.flV = view V ∧ (∀ a u, VV C V.S V.x.sl a u → VV C V.flV.S V.flV.x.sl a u) ∧ (∀ i, i < 3 → Stl V.flV.S i) ∧ VI C V.flV.S V.flV.x.sl pm ok := by
  obtain ⟨a1, a2, a3, a4, a5⟩ := fl_out h.hea hd (i := 1) (n := C.n1) rfl
  obtain ⟨b1, b2, b3, b4, b5⟩ := fl_out a4.hea a2 (i := 2) (n := C.n2) rfl
  obtain ⟨c1, c2, c3, c4, c5⟩ := fl_out b4.hea b2 (i := 0) (n := C.n0) rfl
  have hs := (a4.trans b4).trans c4
  have hI : VI C V.flV.S V.flV.x.sl pm ok := h.shr hs
  have hE : V.flE = 0 := by
    unfold VS.flE
    rw [if_neg (fun e => e a1), if_neg (fun e => e b1)]
    exact c1
  have hst : ∀ i, i < 3 → Stl V.flV.S i := by
    intro i hi
    obtain rfl | rfl | rfl : i = 0 ∨ i = 1 ∨ i = 2 := by omega
    · exact c5
    · exact (a5.shr b4).shr c4
    · exact b5.shr c4
  refine ⟨hE, c2, c3.trans (b3.trans a3), hI.calm (hst 0 (by omega)) (hst 1 (by omega)) (hst 2 (by omega)), ?_, fun a u hu => hu.now (hs.now 0) (hs.now 1), hst, hI⟩
  unfold view
  have e0 : V.flV.S.now 0 = V.S.now 0 := hs.now 0
  have e1 : V.flV.S.now 1 = V.S.now 1 := hs.now 1
  have e2 : V.flV.S.now 2 = V.S.now 2 := hs.now 2
  rw [e0, e1, e2]
  rfl
end
end Go.Proofs.YtogchafnnkajfaaGreat
namespace Go.Proofs.YtogchafnnkajfaaGreat
set_option linter.unusedVariables false
structure NF (C : VC) (S : DS) : Prop where
  hea : Hea S [C.n0, C.n1, C.n2]
  dn : S.down = false
  fu : S.fuse = 0
section
variable {C : VC} {S : DS}
theorem NF.wr (h : NF C S) {i n : Nat} (hi : [C.n0, C.n1, C.n2][i]? = some n) (j v : Nat) (hj : j < n) : S.swE i n (j : Int) = 0 ∧ NF C (S.swrite i n (j : Int) v) ∧ Wro S (S.swrite i n (j : Int) v) [C.n0, C.n1, C.n2] i j v := by
  rcases wr_out h.hea h.dn hi j v hj with ⟨w1, w2, w3, w4⟩ | ⟨w0, -⟩
  · exact ⟨w1, ⟨w4.hea, w2, w3 h.fu⟩, w4⟩
  · exact absurd h.fu w0
theorem NF.fl (h : NF C S) {i n : Nat} (hi : [C.n0, C.n1, C.n2][i]? = some n) : S.chkF (i : Int) = 0 ∧ NF C (S.flush (i : Int)) ∧ Shr S (S.flush (i : Int)) [C.n0, C.n1, C.n2] ∧ Stl (S.flush (i : Int)) i := by
  obtain ⟨f1, f2, f3, f4, f5⟩ := fl_out h.hea h.dn hi
  exact ⟨f1, ⟨f4.hea, f2, f3.trans h.fu⟩, f4, f5⟩
theorem NF.cp (h : NF C S) {p np q nq : Nat} (hp : [C.n0, C.n1, C.n2][p]? = some np) (hq : [C.n0, C.n1, C.n2][q]? = some nq) (hpq : p ≠ q) (a b : Nat) (i : Nat) (ha : a + i ≤ np) (hb : b + i ≤ nq) :
    (vcp S p np a q nq b i).1 = 0 ∧ NF C (vcp S p np a q nq b i).2 ∧ (∀ k, k ≠ q → (vcp S p np a q nq b i).2.now k = S.now k) ∧ (vcp S p np a q nq b i).2.now q = cpL (S.now q) b (S.now p) a i ∧ (∀ k, k ≠ q → Stl S k → Stl (vcp S p np a q nq b i).2 k) := by
  induction i with
  | zero => exact ⟨rfl, h, fun _ _ => rfl, rfl, fun _ _ hs => hs⟩
  | succ i ih =>
    obtain ⟨e0, h1, hn1, hn0, hst⟩ := ih (by omega) (by omega)
    rw [vcp, if_neg (by rw [e0]; exact fun e => e rfl)]
    generalize (vcp S p np a q nq b i).2 = S1 at *
    obtain ⟨r1, r2⟩ := rd_out h1.hea h1.dn hp (a + i) (by omega)
    unfold vcpOne
    rw [show (a : Int) + (i : Int) = ((a + i : Nat) : Int) from rfl, show (b : Int) + (i : Int) = ((b + i : Nat) : Int) from rfl, if_neg (by rw [r1]; exact fun e => e rfl)]
    obtain ⟨w1, w2, w3⟩ := h1.wr hq (b + i) (S1.sread p np ((a + i : Nat) : Int)) (by omega)
    refine ⟨w1, w2, fun j hj => by rw [w3.now, if_neg hj]; exact hn1 j hj, ?_, fun j hj hs => (hst j hj hs).wro w3 hj⟩
    rw [w3.now, if_pos rfl, hn0, cpL]
    congr 1
    rw [hn1 p hpq] at r2
    rw [r2]
    rfl
end
section
variable {C : VC} {V : VS}
theorem NF.st (h : NF C V.S) (k : Nat) (hk : 1 + k < C.n2) (y : Sl) : V.setE C k = 0 ∧ NF C (V.setV C k y).S ∧ view (V.setV C k y) = ⟨V.S.now 0, V.S.now 1, (V.S.now 2).set (1 + k) y.word, ⟨V.x.sl.set k y, V.x.clk, V.x.ms⟩⟩ ∧ (V.setV C k y).x = ⟨V.x.sl.set k y, V.x.clk, V.x.ms⟩ ∧ (V.setV C k y).ss = V.ss.set k ⟨y.valid, y.dirty, y.block, 0⟩ ∧ (∀ j, j ≠ 2 → Stl V.S j → Stl (V.setV C k y).S j) := by
  obtain ⟨w1, w2, w3⟩ := h.wr (i := 2) (n := C.n2) rfl (1 + k) y.word hk
  have e : V.setE C k = 0 := w1
  have ex : (V.setV C k y).x = ⟨V.x.sl.set k y, V.x.clk, V.x.ms⟩ := by unfold VS.setV; rw [if_pos e]
  have es : (V.setV C k y).ss = V.ss.set k ⟨y.valid, y.dirty, y.block, 0⟩ := by unfold VS.setV; rw [if_pos e, if_pos e]
  refine ⟨e, w2, ?_, ex, es, fun j hj hs => hs.wro w3 hj⟩
  unfold view
  rw [ex]
  have q0 : (V.setV C k y).S.now 0 = V.S.now 0 := (w3.now 0).trans (if_neg (by decide))
  have q1 : (V.setV C k y).S.now 1 = V.S.now 1 := (w3.now 1).trans (if_neg (by decide))
  have q2 : (V.setV C k y).S.now 2 = (V.S.now 2).set (1 + k) y.word := (w3.now 2).trans (if_pos rfl)
  rw [q0, q1, q2]
theorem NF.cl (h : NF C V.S) {k : Nat} {x : Sl} (hx : V.x.sl[k]? = some x) (hk : 1 + k < C.n2) (hf : k * C.chunk + C.chunk ≤ C.n1) (hb : x.block.toNat * C.chunk + C.chunk ≤ C.n0) :
    V.clE C k x.block.toNat x = 0 ∧ NF C (V.clV C k x.block.toNat x).S ∧ view (V.clV C k x.block.toNat x) = (view V).back C.chunk k true ∧ (V.clV C k x.block.toNat x).x = V.x.setD k false ∧ (V.clV C k x.block.toNat x).ss = V.ss.set k ⟨x.valid, false, x.block, 0⟩ ∧ (∀ j, j ≠ 2 → Stl V.S j → Stl (V.clV C k x.block.toNat x).S j) := by
  have hkl := (List.getElem?_eq_some_iff.1 hx).1
  obtain ⟨c1, c2, c3, c4, c5⟩ := h.cp (p := 1) (q := 0) rfl rfl (by decide) (k * C.chunk) (x.block.toNat * C.chunk) C.chunk hf hb
  have eC : V.cb C k x.block.toNat = vcp V.S 1 C.n1 (k * C.chunk) 0 C.n0 (x.block.toNat * C.chunk) C.chunk := rfl
  rw [← eC] at c1 c2 c3 c4
  obtain ⟨f1, f2, f3, f4⟩ := c2.fl (i := 0) (n := C.n0) rfl
  have eE : V.cbE C k x.block.toNat = 0 := by unfold VS.cbE; rw [if_pos c1]; exact f1
  have eV : V.cbV C k x.block.toNat = { V with S := (V.cb C k x.block.toNat).2.flush 0 } := by unfold VS.cbV; rw [if_pos c1]
  have hN : NF C (V.cbV C k x.block.toNat).S := by rw [eV]; exact f2
  obtain ⟨s1, s2, s3, s4, s5, s6⟩ := hN.st k hk { x with dirty := false }
  have e1 : V.clE C k x.block.toNat x = ((V.cbV C k x.block.toNat).setV C k { x with dirty := false }).S.chkF 2 := by
    unfold VS.clE
    rw [if_neg (fun e => e eE), if_neg (fun e => e s1)]
  have e2 : V.clV C k x.block.toNat x = { (V.cbV C k x.block.toNat).setV C k { x with dirty := false } with S := ((V.cbV C k x.block.toNat).setV C k { x with dirty := false }).S.flush 2 } := by
    unfold VS.clV
    rw [if_neg (fun e => e eE), if_neg (fun e => e s1)]
  obtain ⟨g1, g2, g3, g4⟩ := s2.fl (i := 2) (n := C.n2) rfl
  have hsd : V.x.setD k false = ⟨V.x.sl.set k { x with dirty := false }, V.x.clk, V.x.ms⟩ := by unfold CS.setD; rw [CS.at_eq hx]
  have ex : ((V.cbV C k x.block.toNat).setV C k { x with dirty := false }).x = V.x.setD k false := by rw [s4, eV, hsd]
  refine ⟨by rw [e1]; exact g1, by rw [e2]; exact g2, ?_, by rw [e2]; exact ex, by rw [e2]; exact s5.trans (by rw [eV]), fun j hj hs => ?_⟩
  rotate_left
  · rw [e2]
    have hs1 : Stl (V.cbV C k x.block.toNat).S j := by
      rw [eV]
      by_cases ej : j = 0
      · subst ej
        exact f4
      · exact (c5 j ej hs).shr f3
    exact (s6 j hj hs1).shr g3
  rw [e2]
  have q0 := g3.now 0
  have q1 := g3.now 1
  have q2 := g3.now 2
  have p0 := f3.now 0
  have p1 := f3.now 1
  have p2 := f3.now 2
  have hv := s3
  unfold view at hv
  injection hv with v0 v1 v2 v3
  unfold view
  dsimp only
  rw [show ((2 : Int)) = ((2 : Nat) : Int) from rfl, q0, q1, q2, v0, v1, v2, ex, eV]
  dsimp only
  rw [show ((0 : Int)) = ((0 : Nat) : Int) from rfl, p0, p1, p2, c4, c3 1 (by decide), c3 2 (by decide)]
  unfold RV.back
  dsimp only
  rw [CS.at_eq hx, hsd, at_set hkl]
  rfl
end
def gone (md : Int) (y : Sl) : Bool := y.valid && (decide (md = 1) || !y.dirty)
def VS.bg1 (C : VC) (V : VS) : Nat → VS
  | 0 => V
  | k + 1 => if gone V.md ((V.bg1 C k).x.at_ k) = true then (V.bg1 C k).setV C k nilS else V.bg1 C k
def VS.bg3 (C : VC) (V : VS) : Nat → VS
  | 0 => V
  | k + 1 => if ((V.bg3 C k).x.at_ k).dirty = true then (V.bg3 C k).clV C k ((V.bg3 C k).x.at_ k).block.toNat ((V.bg3 C k).x.at_ k) else V.bg3 C k
def VS.bgA (C : VC) (V : VS) : VS := if V.op = true then { V.bg1 C V.x.sl.length with S := (V.bg1 C V.x.sl.length).S.flush 2 } else V
def VS.bgB (C : VC) (V : VS) (mode : Int) : VS := if mode = 1 then (V.bgA C).bg3 C (V.bgA C).x.sl.length else V.bgA C
def VS.bgn (C : VC) (V : VS) (mode : Int) : VS := { V.bgB C mode with S := (V.bgB C mode).S.first 2 C.n2 (hdI (V.bgB C mode).ss.length (C.chunk : Int) mode true), md := mode, op := true }
def RV.bg1 (md : Int) (R : RV) : Nat → RV
  | 0 => R
  | k + 1 => if gone md ((R.bg1 md k).x.at_ k) = true then (R.bg1 md k).free k else R.bg1 md k
def RV.bg3 (c : Nat) (R : RV) : Nat → RV
  | 0 => R
  | k + 1 => if ((R.bg3 c k).x.at_ k).dirty = true then (R.bg3 c k).back c k true else R.bg3 c k
def RV.bgA (md : Int) (op : Bool) (R : RV) : RV := if op = true then R.bg1 md R.x.sl.length else R
def RV.bgB (c : Nat) (md : Int) (op : Bool) (mode : Int) (R : RV) : RV := if mode = 1 then (R.bgA md op).bg3 c (R.bgA md op).x.sl.length else R.bgA md op
def RV.bgn (c : Nat) (md : Int) (op : Bool) (mode : Int) (R : RV) : RV := { R.bgB c md op mode with m := (R.bgB c md op mode).m.set 0 (hdI R.x.sl.length (c : Int) mode true) }
structure NB (C : VC) (V : VS) : Prop where
  nf : NF C V.S
  ok : V.x.Ok
  len : V.x.sl.length = V.ss.length
  n2 : V.x.sl.length + 1 ≤ C.n2
  n1 : V.x.sl.length * C.chunk ≤ C.n1
  wh : ∀ (k : Nat) (x : Sl), V.x.sl[k]? = some x → x.valid = true → x.block.toNat * C.chunk + C.chunk ≤ C.n0
section
variable {C : VC} {V : VS}
theorem NB.bg1 (h : NB C V) (k : Nat) (hk : k ≤ V.x.sl.length) : NB C (V.bg1 C k) ∧ view (V.bg1 C k) = (view V).bg1 V.md k ∧ (V.bg1 C k).x.sl.length = V.x.sl.length ∧ Bd V (V.bg1 C k) k 0 := by
  induction k with
  | zero => exact ⟨h, rfl, rfl, Bd.refl h.ok h.len⟩
  | succ k ih =>
    obtain ⟨i1, i2, i3, i4⟩ := ih (by omega)
    have hxe : ((view V).bg1 V.md k).x = (V.bg1 C k).x := by rw [← i2]; rfl
    rw [VS.bg1, RV.bg1, hxe]
    split
    · obtain ⟨s1, s2, s3, s4, s5, -⟩ := i1.nf.st k (by have := i1.n2; omega) nilS
      have hcl := i1.ok.clear k
      have hB := i4.st (C := C) k nilS hcl
      refine ⟨⟨s2, by rw [s4]; exact hcl, by rw [s4, s5, List.length_set, List.length_set]; exact i1.len, by rw [s4]; show (List.set _ _ _).length + 1 ≤ _; rw [List.length_set]; exact i1.n2, by rw [s4]; show (List.set _ _ _).length * _ ≤ _; rw [List.length_set]; exact i1.n1, ?_⟩, ?_, by rw [s4]; show (List.set _ _ _).length = _; rw [List.length_set]; exact i3, hB⟩
      · intro j z hz hzv
        rw [s4] at hz
        rcases set_get hz with ⟨-, rfl⟩ | ⟨-, hz⟩
        · cases hzv
        · exact i1.wh j z hz hzv
      · rw [s3, ← i2]
        rfl
    · exact ⟨i1, i2, i3, i4.mono (by omega) (Nat.le_refl _)⟩
theorem NB.fl (h : NB C V) : NB C { V with S := V.S.flush 2 } ∧ view ({ V with S := V.S.flush 2 } : VS) = view V ∧ V.S.chkF 2 = 0 := by
  obtain ⟨f1, f2, f3, f4⟩ := h.nf.fl (i := 2) (n := C.n2) rfl
  refine ⟨⟨f2, h.ok, h.len, h.n2, h.n1, h.wh⟩, ?_, f1⟩
  have q0 := f3.now 0
  have q1 := f3.now 1
  have q2 := f3.now 2
  unfold view
  dsimp only
  rw [show ((2 : Int)) = ((2 : Nat) : Int) from rfl, q0, q1, q2]
theorem NB.bgA (h : NB C V) : NB C (V.bgA C) ∧ view (V.bgA C) = (view V).bgA V.md V.op ∧ (V.bgA C).x.sl.length = V.x.sl.length ∧ Bd V (V.bgA C) V.x.sl.length 0 := by
  unfold VS.bgA RV.bgA
  obtain ⟨i1, i2, i3, i4⟩ := h.bg1 V.x.sl.length (Nat.le_refl _)
  obtain ⟨f1, f2, -⟩ := i1.fl
  split
  · exact ⟨f1, f2.trans i2, i3, i4.fl 2⟩
  · exact ⟨h, rfl, rfl, (Bd.refl h.ok h.len).mono (by omega) (Nat.le_refl _)⟩
theorem NB.dirty (h : NB C V) {k : Nat} {x : Sl} (hx : V.x.sl[k]? = some x) (hd : x.dirty = true) : x.valid = true := by
  rcases hv : x.valid with _ | _
  · have := h.ok.nl x (List.mem_of_getElem? hx) hv
    rw [this] at hd
    cases hd
  · rfl
theorem NB.fast (h : NB C V) {k : Nat} {x : Sl} (hx : V.x.sl[k]? = some x) : k * C.chunk + C.chunk ≤ C.n1 := by
  have hk := (List.getElem?_eq_some_iff.1 hx).1
  have := Nat.mul_le_mul_right C.chunk (show k + 1 ≤ V.x.sl.length by omega)
  rw [Nat.add_mul, Nat.one_mul] at this
  have := h.n1
  omega
theorem NB.bg3 (h : NB C V) (k : Nat) (hk : k ≤ V.x.sl.length) : NB C (V.bg3 C k) ∧ view (V.bg3 C k) = (view V).bg3 C.chunk k ∧ (V.bg3 C k).x.sl.length = V.x.sl.length ∧ Bd V (V.bg3 C k) (k * (C.chunk + 1)) 0 := by
  induction k with
  | zero => exact ⟨h, rfl, rfl, by rw [Nat.zero_mul]; exact Bd.refl h.ok h.len⟩
  | succ k ih =>
    obtain ⟨i1, i2, i3, i4⟩ := ih (by omega)
    have hxe : ((view V).bg3 C.chunk k).x = (V.bg3 C k).x := by rw [← i2]; rfl
    rw [VS.bg3, RV.bg3, hxe]
    obtain ⟨x, hx⟩ : ∃ x, (V.bg3 C k).x.sl[k]? = some x := ⟨_, List.getElem?_eq_getElem (by omega)⟩
    rw [CS.at_eq hx]
    rcases hd : x.dirty with _ | _
    · rw [if_neg (by simp), if_neg (by simp)]
      exact ⟨i1, i2, i3, i4.mono (by rw [Nat.add_mul]; omega) (Nat.le_refl _)⟩
    · rw [if_pos rfl, if_pos rfl]
      have hv := i1.dirty hx hd
      obtain ⟨c1, c2, c3, c4, c5, -⟩ := i1.nf.cl hx (by have := i1.n2; omega) (i1.fast hx) (i1.wh k x hx hv)
      have hsd : ((V.bg3 C k).x.setD k false) = ⟨(V.bg3 C k).x.sl.set k { x with dirty := false }, (V.bg3 C k).x.clk, (V.bg3 C k).x.ms⟩ := by unfold CS.setD; rw [CS.at_eq hx]
      refine ⟨⟨c2, by rw [c4]; exact i1.ok.setD k x hx hv false, by rw [c4, c5, hsd, List.length_set, List.length_set]; exact i1.len, by rw [c4, hsd]; show (List.set _ _ _).length + 1 ≤ _; rw [List.length_set]; exact i1.n2, by rw [c4, hsd]; show (List.set _ _ _).length * _ ≤ _; rw [List.length_set]; exact i1.n1, ?_⟩, by rw [c3, i2], by rw [c4, hsd]; show (List.set _ _ _).length = _; rw [List.length_set]; exact i3, (i4.cl (C := C) k x.block.toNat x hx hv).mono (by rw [Nat.add_mul]; omega) (Nat.le_refl _)⟩
      intro j z hz hzv
      rw [c4, hsd] at hz
      rcases set_get hz with ⟨rfl, rfl⟩ | ⟨-, hz⟩
      · exact i1.wh j x hx hv
      · exact i1.wh j z hz hzv
theorem NB.bgB (h : NB C V) (mode : Int) : NB C (V.bgB C mode) ∧ view (V.bgB C mode) = (view V).bgB C.chunk V.md V.op mode ∧ (V.bgB C mode).x.sl.length = V.x.sl.length ∧ Bd V (V.bgB C mode) (V.x.sl.length * (C.chunk + 2)) 0 := by
  obtain ⟨a1, a2, a3, a4⟩ := h.bgA
  obtain ⟨b1, b2, b3, b4⟩ := a1.bg3 (V.bgA C).x.sl.length (Nat.le_refl _)
  have hxe : ((view V).bgA V.md V.op).x = (V.bgA C).x := by rw [← a2]; rfl
  unfold VS.bgB RV.bgB
  rw [hxe, ← a2]
  have hm : V.x.sl.length * (C.chunk + 2) = V.x.sl.length + V.x.sl.length * (C.chunk + 1) := by rw [show C.chunk + 2 = 1 + (C.chunk + 1) by omega, Nat.mul_add, Nat.mul_one]
  split
  · exact ⟨b1, b2, b3.trans a3, (a4.trans b4).mono (by rw [a3, hm]; exact Nat.le_refl _) (Nat.le_refl _)⟩
  · exact ⟨a1, rfl, a3, a4.mono (by rw [hm]; omega) (Nat.le_refl _)⟩
theorem NF.first {S : DS} (h : NF C S) (h2 : 1 ≤ C.n2) (w : Nat) : S.firstR 2 C.n2 w = 0 ∧ NF C (S.first 2 C.n2 w) ∧ (S.first 2 C.n2 w).now 0 = S.now 0 ∧ (S.first 2 C.n2 w).now 1 = S.now 1 ∧ (S.first 2 C.n2 w).now 2 = (S.now 2).set 0 w ∧ Stl (S.first 2 C.n2 w) 2 ∧ (∀ j, j ≠ 2 → (Stl S j → Stl (S.first 2 C.n2 w) j) ∧ ∀ b x, (S.first 2 C.n2 w).Cand j b x → S.Cand j b x) := by
  obtain ⟨w1, w2, w3⟩ := h.wr (i := 2) (n := C.n2) rfl 0 w (by omega)
  obtain ⟨f1, f2, f3, f4⟩ := w2.fl (i := 2) (n := C.n2) rfl
  have e0 : S.swE 2 C.n2 0 = 0 := w1
  have eR : S.firstR 2 C.n2 w = 0 := by unfold DS.firstR; rw [if_neg (fun e => e e0)]; exact f1
  have eF : S.first 2 C.n2 w = (S.swrite 2 C.n2 ((0 : Nat) : Int) w).flush ((2 : Nat) : Int) := by unfold DS.first; rw [if_neg (fun e => e e0)]; rfl
  rw [eR, eF]
  refine ⟨rfl, f2, ?_, ?_, ?_, f4, fun j hj => ⟨fun hs => (hs.wro w3 hj).shr f3, fun b x hx => ?_⟩⟩
  · rw [f3.now, w3.now, if_neg (by decide)]
  · rw [f3.now, w3.now, if_neg (by decide)]
  · rw [f3.now, w3.now, if_pos rfl]
  · rcases w3.cand j b x (f3.cand j b x hx) with hx | ⟨e, -⟩
    · exact hx
    · exact absurd e hj
theorem NB.bgn (h : NB C V) (mode : Int) : NF C (V.bgn C mode).S ∧ view (V.bgn C mode) = (view V).bgn C.chunk V.md V.op mode ∧ (V.bgn C mode).x.Ok ∧ (V.bgn C mode).x.sl.length = (V.bgn C mode).ss.length ∧ (V.bgn C mode).x.sl.length = V.x.sl.length ∧ (V.bgn C mode).pm = V.pm ∧ (V.bgn C mode).closed = V.closed ∧ (V.bgn C mode).x.clk = (V.bgB C mode).x.clk := by
  obtain ⟨b1, b2, b3, b4⟩ := h.bgB mode
  have hl := b1.len
  obtain ⟨f1, f2, f3, f4, f5, f6, f7⟩ := b1.nf.first (by have := h.n2; omega) (hdI (V.bgB C mode).ss.length (C.chunk : Int) mode true)
  refine ⟨f2, ?_, b1.ok, b1.len, b3, b4.pm, b4.clo, rfl⟩
  have hv := b2
  unfold view at hv
  unfold RV.bgn
  rw [← b2]
  unfold view VS.bgn
  dsimp only
  rw [f3, f4, f5, ← hl, b3]
end
end Go.Proofs.YtogchafnnkajfaaGreat
namespace Go.Proofs.YtogchafnnkajfaaGreat
set_option linter.unusedVariables false
open Go.RowKit
attribute [local go_sem] Oper.semAt_some
theorem rmeta_info : (Tryz.prog.info? 145).map (·.size) = some 4 := by kernel_rfl
set_option maxRecDepth 100000 in
theorem res_meta_tmp {fn : Func} {p u : Tmp} (h : fn.results = #[.cell p 145, .tmp u]) (tmps : Array Value) (W : World) (g : Nat) (a b c d : Value) (hp : tmps.getD p undef = .pointer (some ⟨g, 0, none⟩)) (hg : Cs W g 145 #[a, b, c, d]) :
    (results fn tmps).run Tryz.prog W = .ok (.tuple #[.agg #[a, b, c, d], tmps.getD u undef]) W := by
  have hl : (loadVar 145 ⟨g, 0, none⟩).run Tryz.prog W = .ok (.agg #[a, b, c, d]) W := run_loadVar_row W g 145 145 _ (0, 0) _ hg Tryz.underlying145 rfl rmeta_info
  have hp' : tmps[p]?.getD undef = .pointer (some ⟨g, 0, none⟩) := by simpa using hp
  simp [results, h, hp', asAddr, hl, Result.andThen]
theorem clr_add (w : Nat) : w = clr w 21 + w / 2097152 % 65536 * 2097152 := by
  unfold clr
  simp only [Nat.reducePow, Nat.reduceAdd]
  omega
theorem rsum_add (w : Nat) (hw : w < 18446744073709551616) : rsum w 21 = clr w 21 + sumW (clr w 21) * 2097152 := by
  have hs := sumW_lt (clr w 21)
  unfold rsum
  generalize sumW (clr w 21) = q at *
  unfold clr
  simp only [Nat.reducePow, Nat.reduceAdd]
  have h := or_mid (w % 2097152) q (w / 137438953472) 21 37 (by omega) (by omega)
  simp only [Nat.reducePow] at h
  rw [h]
  omega
theorem form_iff (w : Nat) (hw : w < 18446744073709551616) : hform w = decide (w / 137438953472 % 65536 = 17219 ∧ w = rsum w 21) := by
  have h1 := clr_add w
  have h2 := rsum_add w hw
  unfold hform
  rw [decide_eq_decide, h2]
  generalize clr w 21 = c at *
  generalize sumW c = q at *
  generalize w / 2097152 % 65536 = f at *
  clear h2
  constructor
  · rintro ⟨a, b⟩
    exact ⟨a, h1.trans (by rw [b])⟩
  · rintro ⟨a, b⟩
    exact ⟨a, Nat.eq_of_mul_eq_mul_right (by decide) (Nat.add_left_cancel (h1.symm.trans b))⟩
def ROpenP (W : World) (ws : List Nat) (e : Ending) (W' : World) : Prop :=
  Below W.heap.size W W' ∧
    ((openE ws ≠ 0 ∧ e = .returned (.tuple #[.agg #[.slice none 0 0, .int .i64 0, .int .i64 0, .bool false], .int .i64 (openE ws)])) ∨
     (openE ws = 0 ∧ ∃ v, e = .returned (.tuple #[.agg #[v, .int .i64 (((ws[0]?.getD 0) / 2048 % 128 : Nat) : Int), .int .i64 (((ws[0]?.getD 0) / 262144 % 4 : Nat) : Int), .bool (decide ((ws[0]?.getD 0) / 1048576 % 2 = 0))], .int .i64 0]) ∧
      W'.ownsRow W.heap.size 31 4 v ((ws[0]?.getD 0) % 2048) (scs (slotsU ws ((ws[0]?.getD 0) % 2048)))))
theorem own_ne {W : World} {base base' : Nat} {e e' : TypeId} {s s' n n' : Nat} {v v' : Value} {xs xs' : List Value} (h : W.ownsRow base e s v n xs) (h' : W.ownsRow base' e' s' v' n' xs') (hne : e ≠ e') : v.ownBlock = none ∨ v.ownBlock ≠ v'.ownBlock := by
  rcases h.2 with ⟨rfl, _⟩ | ⟨g, cap, cur, rfl, _, hb, _⟩
  · exact .inl rfl
  · refine .inr fun ee => ?_
    rcases h'.2 with ⟨rfl, _⟩ | ⟨g', cap', cur', rfl, _, hb', _⟩
    · simp [Value.ownBlock] at ee
    · obtain rfl : g = g' := by simpa [Value.ownBlock] using ee
      rw [hb] at hb'
      simp at hb'
      exact hne hb'.2
theorem fr_put4r (W : World) (g : Nat) (a' b' c' d' : Value) : Fr (fun j => j = g) W ((((W.setCell ⟨g, 0, none⟩ a').setCell ⟨g, 1, none⟩ b').setCell ⟨g, 2, none⟩ c').setCell ⟨g, 3, none⟩ d') :=
  ((((Fr.refl (fun j => j = g) W).set (b := g) (.inl rfl) _).set (b := g) (.inl rfl) _).set (b := g) (.inl rfl) _).set (b := g) (.inl rfl) _
set_option maxRecDepth 100000 in
set_option maxHeartbeats 8000000 in
theorem ropen_any (W : World) (A : Option Addr) (c n : Nat) (ws : List Nat) (hA : Reads W A (uv ws)) (hn : ws.length = n) (h1 : 1 ≤ n) (hn2 : n ≤ 65536) (hw : W64 ws) :
    Calls Tryz.prog 81 #[.slice A n c] W (ROpenP W ws) := by
  have HN := Lib.hid hn
  have HW := Lib.hid hw
  obtain ⟨b, off, rfl, hbl, hc⟩ := hA.u (by omega)
  have HC := Lib.hid hc
  have c0 := hc 0 (by omega)
  rw [Nat.add_zero] at c0
  have hw0 := hw.at 0
  have HE : Hid (openE ws = if hform (ws[0]?.getD 0) = false then 2 else if hbad (ws[0]?.getD 0) n = true then 24 else if allOk ws ((ws[0]?.getD 0) % 2048) = false then 24 else 0) := by show _ = _; rw [← HN.out]; rfl
  generalize hwq : ws[0]?.getD 0 = w at *
  have HWQ := Lib.hid hwq
  clear hwq hc hw hn hA
  have t1 : ¬ (n : Int) < 1 := by omega
  have HF := Lib.hid (form_iff w hw0)
  have e37 : bits .and .u64 ((w : Int) / 137438953472) 65535 = ((w / 137438953472 % 65536 : Nat) : Int) := by
    have e := u64_and_nat (w / 137438953472) 65535 (by omega) (by omega)
    have e3 := Nat.and_two_pow_sub_one_eq_mod (w / 137438953472) 16
    simp only [Nat.reducePow, Nat.reduceSub] at e3
    rw [e3] at e
    exact e
  have e11 : bits .and .u64 ((w : Int) / 2048) 127 = ((w / 2048 % 128 : Nat) : Int) := by
    have e := u64_and_nat (w / 2048) 127 (by omega) (by omega)
    have e3 := Nat.and_two_pow_sub_one_eq_mod (w / 2048) 7
    simp only [Nat.reducePow, Nat.reduceSub] at e3
    rw [e3] at e
    exact e
  have e18 : bits .and .u64 ((w : Int) / 262144) 3 = ((w / 262144 % 4 : Nat) : Int) := by
    have e := u64_and_nat (w / 262144) 3 (by omega) (by omega)
    have e3 := Nat.and_two_pow_sub_one_eq_mod (w / 262144) 2
    simp only [Nat.reducePow, Nat.reduceSub] at e3
    rw [e3] at e
    exact e
  have e20 : bits .and .u64 ((w : Int) / 1048576) 1 = ((w / 1048576 % 2 : Nat) : Int) := by
    have e := u64_and_nat (w / 1048576) 1 (by omega) (by omega)
    rw [Nat.and_one_is_mod] at e
    exact e
  have e00 : bits .and .u64 (w : Int) 2047 = ((w % 2048 : Nat) : Int) := by
    have e := u64_and_nat w 2047 hw0 (by omega)
    have e3 := Nat.and_two_pow_sub_one_eq_mod w 11
    simp only [Nat.reducePow, Nat.reduceSub] at e3
    rw [e3] at e
    exact e
  have e53 : (w : Int) / 9007199254740992 = ((w / 9007199254740992 : Nat) : Int) := by omega
  have HBD : Hid (hbad w n = decide (w / 9007199254740992 ≠ 0 ∨ w % 2048 < 1 ∨ 1024 < w % 2048 ∨ w / 2048 % 128 < 1 ∨ 64 < w / 2048 % 128 ∨ w / 262144 % 4 = 3 ∨ n < w % 2048 + 1)) := rfl
  have ha : w % 2048 < 2048 := Nat.mod_lt _ (by omega)
  have hb : w / 2048 % 128 < 128 := Nat.mod_lt _ (by omega)
  have hcc : w / 262144 % 4 < 4 := Nat.mod_lt _ (by omega)
  have hdd : w / 1048576 % 2 < 2 := Nat.mod_lt _ (by omega)
  have HRS := Lib.hid (rsum21_any w)
  generalize w / 137438953472 % 65536 = tg at *
  generalize hqA : w % 2048 = Q at *
  generalize hqB : w / 2048 % 128 = Bc at *
  generalize hqM : w / 262144 % 4 = M at *
  generalize hqO : w / 1048576 % 2 = O at *
  generalize hqz : w / 9007199254740992 = z53 at *
  have HQ := Lib.hid (And.intro hqA (And.intro hqB (And.intro hqM hqO)))
  clear hqA hqB hqM hqO hqz
  generalize hrs : rsum w 21 = rs at *
  have n0 : IntKind.i64.wrap (Q : Int) = Q := IntWalk.i64_in _ (by omega)
  have n1 : IntKind.i64.wrap (Bc : Int) = Bc := IntWalk.i64_in _ (by omega)
  have n2 : IntKind.i64.wrap (M : Int) = M := IntWalk.i64_in _ (by omega)
  have hO0 : ((O : Int) == 0) = decide (O = 0) := by rw [Bool.eq_iff_iff]; simp
  have hbE : Below W.heap.size W (W.alloc (.cells #[.slice none 0 0, .int .i64 0, .int .i64 0, .bool false] 145)) := (Below.refl _ W).alloc (Nat.le_refl _) _
  have hCE := Cs.new W 145 #[.slice none 0 0, .int .i64 0, .int .i64 0, .bool false]
  have c0' := (hbE.cell (p := ⟨b, off, none⟩) hbl).trans c0
  go_enter Tryz.func81, Tryz.ntmps81
  go_upto_region 4 with (fail)
  generalize (W.alloc (.cells #[.slice none 0 0, .int .i64 0, .int .i64 0, .bool false] 145)) = W0 at *
  go_cut [28] (fun s28 wx => s28 = .bool (!hform w) ∧ Below W0.heap.size W0 wx)
  case first =>
    by_cases q1 : tg = 17219
    · have t2 : ((tg : Int) != 17219) = false := by rw [q1]; rfl
      by_cases q2 : w = rs
      · have t3 : ((w : Int) != (rs : Int)) = false := by simp; omega
        have Q2 := Lib.hid q2
        clear q2
        go_wp2_with (go_at_call 42; refine (HRS.out W0 hw0).mono ?_; rintro e w1 ⟨rfl, hb1⟩)
        go_meet
        case rel => exact ⟨by rw [HF.out]; simp [q1, Q2.out], hb1⟩
      · have t3 : ((w : Int) != (rs : Int)) = true := by simp; omega
        go_wp2_with (go_at_call 42; refine (HRS.out W0 hw0).mono ?_; rintro e w1 ⟨rfl, hb1⟩)
        go_meet
        case rel => exact ⟨by rw [HF.out]; simp [q1, q2], hb1⟩
    · have t2 : ((tg : Int) != 17219) = true := by simp; omega
      go_wp2_with fail
      go_meet
      case rel => exact ⟨by rw [HF.out]; simp [q1], Below.refl _ _⟩
  case rest =>
    obtain ⟨rfl, hbx⟩ := hcut
    have HBX := Lib.hid (hbE.trans (hbx.mono hbE.size))
    have HCE := Lib.hid (hCE.below hbx hCE.lt)
    clear hbE hCE hbx c0' HRS e37
    have z0 : wc.cell? ⟨W.heap.size, 0, none⟩ = some (.slice none 0 0) := HCE.out.cell 0
    have z1 : wc.cell? ⟨W.heap.size, 1, none⟩ = some (.int .i64 0) := HCE.out.cell 1
    have z2 : wc.cell? ⟨W.heap.size, 2, none⟩ = some (.int .i64 0) := HCE.out.cell 2
    have z3 : wc.cell? ⟨W.heap.size, 3, none⟩ = some (.bool false) := HCE.out.cell 3
    have f0 := HCE.out.free 0
    have f1 := HCE.out.free 1
    have f2 := HCE.out.free 2
    have f3 := HCE.out.free 3
    by_cases hf : hform w = true
    rotate_left
    · have hf2 : hform w = false := by simpa using hf
      rw [hf2]
      have hE2 : openE ws = 2 := by rw [HE.out, if_pos hf2]
      go_wp2_with fail
      (try simp only [Exit.inBlock, Exit.then])
      refine bodyPost_ret (res_meta_tmp rfl _ _ W.heap.size _ _ _ _ rfl (Cs.put4 HCE.out _ _ _ _)) rfl ?_
      exact ⟨below_put4 HBX.out (Nat.le_refl _) _ _ _ _, .inl ⟨by rw [hE2]; decide, by rw [hE2]; rfl⟩⟩
    · rw [hf]
      have HE3 : Hid (openE ws = if hbad w n = true then 24 else if allOk ws Q = false then 24 else 0) := by show _ = _; rw [HE.out, if_neg (by simp [hf])]
      clear HE hf HF z0 z1 z2 z3 f0 f1 f2 f3
      go_upto_region 8 with (fail)
      have hC5 := Cs.new wc 145 #[.slice none 0 0, .int .i64 (Bc : Int), .int .i64 (M : Int), .bool (decide (O = 0))]
      have hb5 : Below wc.heap.size wc (wc.alloc (.cells #[.slice none 0 0, .int .i64 (Bc : Int), .int .i64 (M : Int), .bool (decide (O = 0))] 145)) := (Below.refl _ _).alloc (Nat.le_refl _) _
      have HCE1 := Lib.hid (HCE.out.below hb5 HCE.out.lt)
      have HB1 := Lib.hid (HBX.out.trans (hb5.mono HBX.out.size))
      have hszs : (wc.alloc (.cells #[.slice none 0 0, .int .i64 (Bc : Int), .int .i64 (M : Int), .bool (decide (O = 0))] 145)).heap.size = wc.heap.size + 1 := World.size_alloc _ _
      have hWs : W.heap.size < wc.heap.size := HCE.out.lt
      generalize (wc.alloc (.cells #[.slice none 0 0, .int .i64 (Bc : Int), .int .i64 (M : Int), .bool (decide (O = 0))] 145)) = W1 at *
      generalize wc.heap.size = s5 at *
      have m1 : W1.cell? ⟨s5, 1, none⟩ = some (.int .i64 (Bc : Int)) := hC5.cell 1
      have m2 : W1.cell? ⟨s5, 2, none⟩ = some (.int .i64 (M : Int)) := hC5.cell 2
      have HC5 := Lib.hid hC5
      clear hb5 hC5 HCE HBX hO0 e11 e18 e20 e00
      go_cut [78] (fun s78 wx => s78 = .bool (hbad w n) ∧ wx = W1)
      case first =>
        by_cases q1 : z53 = 0
        rotate_left
        · have t2 : ((z53 : Int) != 0) = true := by simp; omega
          have HMS : Hid (mSize (Q : Int) = mSize (Q : Int)) := rfl
          go_wp2_with (go_at_call 87; refine (rsize_any (Q : Int) W1).mono ?_; rintro e w6 ⟨rfl, rfl⟩; rw [HMS.out])
          go_meet
          case rel => exact ⟨by rw [HBD.out, decide_eq_true (by omega)], rfl⟩
        · have t2 : ((z53 : Int) != 0) = false := by simp; omega
          by_cases q2 : Q < 1
          · have t3 : (Q : Int) < 1 := by omega
            have HMS : Hid (mSize (Q : Int) = mSize (Q : Int)) := rfl
            go_wp2_with (go_at_call 87; refine (rsize_any (Q : Int) W1).mono ?_; rintro e w6 ⟨rfl, rfl⟩; rw [HMS.out])
            go_meet
            case rel => exact ⟨by rw [HBD.out, decide_eq_true (by omega)], rfl⟩
          · have t3 : ¬ (Q : Int) < 1 := by omega
            by_cases q2b : 1024 < Q
            · have t3b : (1024 : Int) < (Q : Int) := by omega
              have HMS : Hid (mSize (Q : Int) = mSize (Q : Int)) := rfl
              go_wp2_with (go_at_call 87; refine (rsize_any (Q : Int) W1).mono ?_; rintro e w6 ⟨rfl, rfl⟩; rw [HMS.out])
              go_meet
              case rel => exact ⟨by rw [HBD.out, decide_eq_true (by omega)], rfl⟩
            · have t3b : ¬ (1024 : Int) < (Q : Int) := by omega
              have HMS : Hid (mSize (Q : Int) = (Q : Int) + 1) := by show _ = _; unfold mSize; rw [if_neg (by omega)]
              by_cases q3 : Bc < 1
              · have t4 : (Bc : Int) < 1 := by omega
                go_wp2_with (go_at_call 87; refine (rsize_any (Q : Int) W1).mono ?_; rintro e w6 ⟨rfl, rfl⟩; rw [HMS.out])
                go_meet
                case rel => exact ⟨by rw [HBD.out, decide_eq_true (by omega)], rfl⟩
              · have t4 : ¬ (Bc : Int) < 1 := by omega
                by_cases q4 : 64 < Bc
                · have t5 : (64 : Int) < (Bc : Int) := by omega
                  go_wp2_with (go_at_call 87; refine (rsize_any (Q : Int) W1).mono ?_; rintro e w6 ⟨rfl, rfl⟩; rw [HMS.out])
                  go_meet
                  case rel => exact ⟨by rw [HBD.out, decide_eq_true (by omega)], rfl⟩
                · have t5 : ¬ (64 : Int) < (Bc : Int) := by omega
                  by_cases q5 : M = 3
                  · have t6 : ((M : Int) == 3) = true := by simp; omega
                    go_wp2_with (go_at_call 87; refine (rsize_any (Q : Int) W1).mono ?_; rintro e w6 ⟨rfl, rfl⟩; rw [HMS.out])
                    go_meet
                    case rel => exact ⟨by rw [HBD.out, decide_eq_true (by omega)], rfl⟩
                  · have t6 : ((M : Int) == 3) = false := by simp; omega
                    by_cases q6 : n < Q + 1
                    · have t7 : (n : Int) < (Q : Int) + 1 := by omega
                      go_wp2_with (go_at_call 87; refine (rsize_any (Q : Int) W1).mono ?_; rintro e w6 ⟨rfl, rfl⟩; rw [HMS.out])
                      go_meet
                      case rel => exact ⟨by rw [HBD.out, decide_eq_true (by omega)], rfl⟩
                    · have t7 : ¬ (n : Int) < (Q : Int) + 1 := by omega
                      go_wp2_with (go_at_call 87; refine (rsize_any (Q : Int) W1).mono ?_; rintro e w6 ⟨rfl, rfl⟩; rw [HMS.out])
                      go_meet
                      case rel => exact ⟨by rw [HBD.out]; congr 1; rw [Bool.eq_iff_iff]; simp; omega, rfl⟩
      case rest =>
        obtain ⟨rfl, rfl⟩ := hcut
        by_cases hbd : hbad w n = true
        · rw [hbd]
          have hE24 : openE ws = 24 := by rw [HE3.out, if_pos hbd]
          have z0 : wc.cell? ⟨W.heap.size, 0, none⟩ = some (.slice none 0 0) := HCE1.out.cell 0
          have z1 : wc.cell? ⟨W.heap.size, 1, none⟩ = some (.int .i64 0) := HCE1.out.cell 1
          have z2 : wc.cell? ⟨W.heap.size, 2, none⟩ = some (.int .i64 0) := HCE1.out.cell 2
          have z3 : wc.cell? ⟨W.heap.size, 3, none⟩ = some (.bool false) := HCE1.out.cell 3
          have f0 := HCE1.out.free 0
          have f1 := HCE1.out.free 1
          have f2 := HCE1.out.free 2
          have f3 := HCE1.out.free 3
          go_wp2_with fail
          (try simp only [Exit.inBlock, Exit.then])
          refine bodyPost_ret (res_meta_tmp rfl _ _ W.heap.size _ _ _ _ rfl (Cs.put4 HCE1.out _ _ _ _)) rfl ?_
          exact ⟨below_put4 HB1.out (Nat.le_refl _) _ _ _ _, .inl ⟨by rw [hE24]; decide, by rw [hE24]; rfl⟩⟩
        · have hbd2 : hbad w n = false := by simpa using hbd
          rw [hbd2]
          have hq := HBD.out
          rw [hbd2] at hq
          have hq2 := of_decide_eq_false hq.symm
          have qA : 1 ≤ Q ∧ Q ≤ 1024 ∧ Q + 1 ≤ n := by omega
          have HE4 : Hid (openE ws = if allOk ws Q = false then 24 else 0) := by show _ = _; rw [HE3.out, if_neg hbd]
          obtain ⟨ii, hii, hy0, hy1, hy2⟩ := info_parts int_info
          obtain ⟨is, his, hz0, hz1, hz2⟩ := info_parts slot_info
          clear hq hq2 hbd hbd2 HE3 HBD n0 n1 n2 m1 m2 e53 hb hcc hdd t1 c0
          go_wp2_with fail
          go_loopw [7, 8] (fun v i wr => ∃ (k : Nat) (vs : Value), k ≤ Q ∧ i = .int .i64 k ∧ Cs wr s5 145 #[vs, .int .i64 (Bc : Int), .int .i64 (M : Int), .bool (decide (O = 0))] ∧ Cs wr W.heap.size 145 #[.slice none 0 0, .int .i64 0, .int .i64 0, .bool false] ∧ wr.ownsRow (s5 + 1) 31 4 vs k (scs (slotsU ws k)) ∧ wr.ownsRow (s5 + 1) 3 1 v (seenB ws k).length (iv (seenB ws k)) ∧ (seenB ws k).length ≤ k ∧ allOk ws k = true ∧ Below W.heap.size W wr ∧ s5 + 1 ≤ wr.heap.size) (fun _ i _ => Q - (intOf i).toNat)
          case atStart => exact ⟨0, _, Nat.zero_le _, rfl, HC5.out, HCE1.out, World.ownsRow_nil _ _ _ _, World.ownsRow_nil _ _ _ _, Nat.zero_le _, rfl, HB1.out, by omega⟩
          case round =>
            rename World => wx
            obtain ⟨k, vs, hk, rfl, hC, hZ, hown, hsn, hsl, hok, hb, hsz⟩ := hrel
            obtain ⟨A3, c3, rfl⟩ := own_form hown
            obtain ⟨A7, c7, hv7⟩ := own_form hsn
            subst hv7
            have HCk := Lib.hid hC
            have HZk := Lib.hid hZ
            have HOk := Lib.hid hown
            have HSk := Lib.hid hsn
            have HBk := Lib.hid hb
            have HOKk := Lib.hid hok
            clear hC hZ hown hsn hb hok HC5 HCE1 HB1
            by_cases hlt : k < Q
            · have hcw := (HBk.out.cell (p := ⟨b, off + (1 + k), none⟩) hbl).trans (HC.out (1 + k) (by rw [HN.out]; omega))
              have hxl := HW.out.at (1 + k)
              have HOKA : Hid (okAt ws k = (slotOk (ws[1 + k]?.getD 0) && !((slotS (ws[1 + k]?.getD 0)).valid && decide ((slotS (ws[1 + k]?.getD 0)).block ∈ seenB ws k)))) := rfl
              have HSBS : Hid (seenB ws (k + 1) = if (slotS (ws[1 + k]?.getD 0)).valid = true then seenB ws k ++ [(slotS (ws[1 + k]?.getD 0)).block] else seenB ws k) := rfl
              have HSUS := Lib.hid (slotsU_succ ws k)
              generalize ws[1 + k]?.getD 0 = x at *
              have e1 : IntKind.i64.wrap (1 + (k : Int)) = 1 + k := IntWalk.i64_in _ (by omega)
              go_wp2_with fail
              refine (rfrom_any x wx hxl).mono ?_
              rintro e w5 ⟨s', rfl, hs', hb5⟩
              have HSX := Lib.hid hs'
              obtain ⟨sv, sd, sb, sst⟩ := s'
              unfold Sl.v
              go_upto_region 15 with (fail)
              clear hs' hcw e1
              have hb6 : Below w5.heap.size w5 (w5.alloc (.cells #[.bool sv, .bool sd, .int .i64 sb, .int .i64 sst] 31)) := (Below.refl _ _).alloc (Nat.le_refl _) _
              have hb56 := hb5.trans (hb6.mono hb5.size)
              have hCs := Cs.new w5 31 #[.bool sv, .bool sd, .int .i64 sb, .int .i64 sst]
              have HC6 := Lib.hid (HCk.out.below hb56 HCk.out.lt)
              have HZ6 := Lib.hid (HZk.out.below hb56 HZk.out.lt)
              have HO6 := Lib.hid (own_keepB HOk.out hb56)
              have HS6 := Lib.hid (own_keepB HSk.out hb56)
              have HB6 := Lib.hid (HBk.out.trans (hb56.mono HBk.out.size))
              have hsz6 : s5 + 1 ≤ (w5.alloc (.cells #[.bool sv, .bool sd, .int .i64 sb, .int .i64 sst] 31)).heap.size := Nat.le_trans hsz hb56.size
              have HOB : Hid (∀ b', (Value.slice A3 k c3).ownBlock = some b' → s5 + 1 ≤ b' ∧ b' < w5.heap.size) := fun b' hb' => ⟨own_base HOk.out b' hb', Nat.lt_of_lt_of_le (own_lt HOk.out b' hb') hb5.size⟩
              have HOB7 : Hid (∀ b', (Value.slice A7 (seenB ws k).length c7).ownBlock = some b' → s5 + 1 ≤ b' ∧ b' < w5.heap.size) := fun b' hb' => ⟨own_base HSk.out b' hb', Nat.lt_of_lt_of_le (own_lt HSk.out b' hb') hb5.size⟩
              have hl6 : w5.heap.size < (w5.alloc (.cells #[.bool sv, .bool sd, .int .i64 sb, .int .i64 sst] 31)).heap.size := hCs.lt
              have hsz5 : s5 + 1 ≤ w5.heap.size := Nat.le_trans hsz hb5.size
              generalize (w5.alloc (.cells #[.bool sv, .bool sd, .int .i64 sb, .int .i64 sst] 31)) = V at *
              generalize w5.heap.size = s6 at *
              have k0 : V.cell? ⟨s6, 0, none⟩ = some (.bool sv) := hCs.cell 0
              have k1 : V.cell? ⟨s6, 1, none⟩ = some (.bool sd) := hCs.cell 1
              have k2 : V.cell? ⟨s6, 2, none⟩ = some (.int .i64 sb) := hCs.cell 2
              have k3 : V.cell? ⟨s6, 3, none⟩ = some (.int .i64 sst) := hCs.cell 3
              clear hb6 hb56 hb5 HCk HZk HOk HSk HBk hCs hsz
              by_cases hsok : slotOk x = true
              rotate_left
              · have hsok2 : slotOk x = false := by simpa using hsok
                rw [hsok2]
                have hE24 : openE ws = 24 := by rw [HE4.out, if_pos (allOk_false ws k Q hlt (by rw [HOKA.out, hsok2]; rfl))]
                have z0 : V.cell? ⟨W.heap.size, 0, none⟩ = some (.slice none 0 0) := HZ6.out.cell 0
                have z1 : V.cell? ⟨W.heap.size, 1, none⟩ = some (.int .i64 0) := HZ6.out.cell 1
                have z2 : V.cell? ⟨W.heap.size, 2, none⟩ = some (.int .i64 0) := HZ6.out.cell 2
                have z3 : V.cell? ⟨W.heap.size, 3, none⟩ = some (.bool false) := HZ6.out.cell 3
                have f0 := HZ6.out.free 0
                have f1 := HZ6.out.free 1
                have f2 := HZ6.out.free 2
                have f3 := HZ6.out.free 3
                go_wp2_with fail
                (try simp only [Exit.inBlock, Exit.then])
                refine bodyPost_ret (res_meta_tmp rfl _ _ W.heap.size _ _ _ _ rfl (Cs.put4 HZ6.out _ _ _ _)) rfl ?_
                exact ⟨below_put4 HB6.out (Nat.le_refl _) _ _ _ _, .inl ⟨by rw [hE24]; decide, by rw [hE24]; rfl⟩⟩
              · rw [hsok]
                have hsx := HSX.out hsok
                rw [← hsx] at HOKA HSBS HSUS
                have HOK2 : Hid (okAt ws k = !(sv && decide (sb ∈ seenB ws k))) := by show _ = _; rw [HOKA.out, hsok]; rfl
                clear hsx HSX HOKA hsok
                generalize hSB : seenB ws k = L at *
                cases sv
                · have hS2 : seenB ws (k + 1) = L := by rw [HSBS.out]; rfl
                  have HS2 := Lib.hid hS2
                  have hokn : allOk ws (k + 1) = true := by rw [allOk, HOKk.out, HOK2.out]; rfl
                  have HOKN := Lib.hid hokn
                  clear hS2 hokn HSBS
                  by_cases h0L : (0 : Int) < (L.length : Int)
                  · go_wp2_with fail
                    refine wp_loop_rounds 1 ?_
                    rw [rounds_succ]
                    have y1 : V.cell? ⟨s5, 0, none⟩ = some (.slice A3 k c3) := HC6.out.cell 0
                    go_wp2_with (at_builtin; refine wpList_append_reads _ (by rfl) (.tmp 123) (.tmp 125) _ (by rfl) (s5 + 1) 31 is _ 4 24 Tryz.underlying56 his hz0 hz1 hz2 (by rfl) (by omega) (.slice A3 k c3) k (scs (slotsU ws k)) (by rfl) (HO6.out.alloc _) (some ⟨V.heap.size, 0, none⟩) 1 1 [.bool false, .bool sd, .int .i64 sb, .int .i64 sst] (by rfl) (by rfl) (Reads.new _ _ _) (by simp [Value.oneCell']) (by simp only [maxLen]; omega) (by omega) (by simp; omega) ?_; intro v9 w9 hown9 hg9 hat9; obtain ⟨A9, c9, hv9⟩ := own_form hown9; subst hv9; have hm5 : some s5 ≠ (Value.slice A3 k c3).ownBlock := (fun e => by have := (HOB.out s5 e.symm).1; omega); have HC9 := Lib.hid ((HC6.out.alloc _).grown hg9 hm5); have c90 : w9.cell? ⟨s5, 0, none⟩ = some (.slice A3 k c3) := HC9.out.cell 0; have f90 := HC9.out.free 0)
                    have hmW : some W.heap.size ≠ (Value.slice A3 k c3).ownBlock := fun e => by have := (HOB.out _ e.symm).1; omega
                    have hrow : w9.ownsRow (s5 + 1) 31 4 (.slice A9 (k + 1) c9) (k + 1) (scs (slotsU ws (k + 1))) := by
                      have e : scs (slotsU ws (k + 1)) = scs (slotsU ws k) ++ [.bool false, .bool sd, .int .i64 sb, .int .i64 sst] := by rw [HSUS.out, scs_snoc]; rfl
                      rw [e]
                      exact hown9
                    have hdiff := own_ne (HS6.out.alloc (.cells #[.bool false, .bool sd, .int .i64 sb, .int .i64 sst] 31)) (HO6.out.alloc (.cells #[.bool false, .bool sd, .int .i64 sb, .int .i64 sst] 31)) (by decide)
                    have hs9 := (HS6.out.alloc _).kept hg9 hdiff
                    have hfs := fr_set w9 s5 0 (.slice A9 (k + 1) c9)
                    have HCF : Hid (Cs (w9.setCell ⟨s5, 0, none⟩ (.slice A9 (k + 1) c9)) s5 145 #[.slice A9 (k + 1) c9, .int .i64 (Bc : Int), .int .i64 (M : Int), .bool (decide (O = 0))]) := heap_setCell_same w9 s5 0 _ _ (.slice A9 (k + 1) c9) HC9.out
                    have HZF := Lib.hid (((HZ6.out.alloc _).grown hg9 hmW).fr hfs (by show ¬ _ = _; omega))
                    have HOF := Lib.hid (own_fr hrow hfs (fun b' hb' e => by have := own_base hrow b' hb'; omega))
                    have HSF := Lib.hid (own_fr hs9 hfs (fun b' hb' e => by have := own_base hs9 b' hb'; omega))
                    have hBA : Below W.heap.size W (V.alloc (.cells #[.bool false, .bool sd, .int .i64 sb, .int .i64 sst] 31)) := HB6.out.alloc HB6.out.size _
                    have HBF := Lib.hid ((hBA.grown hg9 hBA.size (fun j e => by have := (HOB.out j e).1; omega)).setCell (p := ⟨s5, 0, none⟩) (Nat.le_of_lt hWs) (.slice A9 (k + 1) c9))
                    have hszF : s5 + 1 ≤ (w9.setCell ⟨s5, 0, none⟩ (.slice A9 (k + 1) c9)).heap.size := by
                      rw [World.size_setCell]
                      exact Nat.le_trans (Nat.le_trans hsz6 (by simp)) hg9.size
                    clear hown9 hg9 hat9 hrow hs9 hfs hdiff hmW hm5 hBA
                    go_wp2_with fail
                    go_roundw
                    case rel => exact ⟨k + 1, _, by omega, by go_num, HCF.out, HZF.out, HOF.out, by rw [HS2.out]; exact HSF.out, by rw [HS2.out]; omega, HOKN.out, HBF.out, hszF⟩
                    case measure => simp [intOf]; omega
                  · go_wp2_with fail
                    refine wp_loop_rounds 1 ?_
                    rw [rounds_succ]
                    have y1 : V.cell? ⟨s5, 0, none⟩ = some (.slice A3 k c3) := HC6.out.cell 0
                    go_wp2_with (at_builtin; refine wpList_append_reads _ (by rfl) (.tmp 123) (.tmp 125) _ (by rfl) (s5 + 1) 31 is _ 4 24 Tryz.underlying56 his hz0 hz1 hz2 (by rfl) (by omega) (.slice A3 k c3) k (scs (slotsU ws k)) (by rfl) (HO6.out.alloc _) (some ⟨V.heap.size, 0, none⟩) 1 1 [.bool false, .bool sd, .int .i64 sb, .int .i64 sst] (by rfl) (by rfl) (Reads.new _ _ _) (by simp [Value.oneCell']) (by simp only [maxLen]; omega) (by omega) (by simp; omega) ?_; intro v9 w9 hown9 hg9 hat9; obtain ⟨A9, c9, hv9⟩ := own_form hown9; subst hv9; have hm5 : some s5 ≠ (Value.slice A3 k c3).ownBlock := (fun e => by have := (HOB.out s5 e.symm).1; omega); have HC9 := Lib.hid ((HC6.out.alloc _).grown hg9 hm5); have c90 : w9.cell? ⟨s5, 0, none⟩ = some (.slice A3 k c3) := HC9.out.cell 0; have f90 := HC9.out.free 0)
                    have hmW : some W.heap.size ≠ (Value.slice A3 k c3).ownBlock := fun e => by have := (HOB.out _ e.symm).1; omega
                    have hrow : w9.ownsRow (s5 + 1) 31 4 (.slice A9 (k + 1) c9) (k + 1) (scs (slotsU ws (k + 1))) := by
                      have e : scs (slotsU ws (k + 1)) = scs (slotsU ws k) ++ [.bool false, .bool sd, .int .i64 sb, .int .i64 sst] := by rw [HSUS.out, scs_snoc]; rfl
                      rw [e]
                      exact hown9
                    have hdiff := own_ne (HS6.out.alloc (.cells #[.bool false, .bool sd, .int .i64 sb, .int .i64 sst] 31)) (HO6.out.alloc (.cells #[.bool false, .bool sd, .int .i64 sb, .int .i64 sst] 31)) (by decide)
                    have hs9 := (HS6.out.alloc _).kept hg9 hdiff
                    have hfs := fr_set w9 s5 0 (.slice A9 (k + 1) c9)
                    have HCF : Hid (Cs (w9.setCell ⟨s5, 0, none⟩ (.slice A9 (k + 1) c9)) s5 145 #[.slice A9 (k + 1) c9, .int .i64 (Bc : Int), .int .i64 (M : Int), .bool (decide (O = 0))]) := heap_setCell_same w9 s5 0 _ _ (.slice A9 (k + 1) c9) HC9.out
                    have HZF := Lib.hid (((HZ6.out.alloc _).grown hg9 hmW).fr hfs (by show ¬ _ = _; omega))
                    have HOF := Lib.hid (own_fr hrow hfs (fun b' hb' e => by have := own_base hrow b' hb'; omega))
                    have HSF := Lib.hid (own_fr hs9 hfs (fun b' hb' e => by have := own_base hs9 b' hb'; omega))
                    have hBA : Below W.heap.size W (V.alloc (.cells #[.bool false, .bool sd, .int .i64 sb, .int .i64 sst] 31)) := HB6.out.alloc HB6.out.size _
                    have HBF := Lib.hid ((hBA.grown hg9 hBA.size (fun j e => by have := (HOB.out j e).1; omega)).setCell (p := ⟨s5, 0, none⟩) (Nat.le_of_lt hWs) (.slice A9 (k + 1) c9))
                    have hszF : s5 + 1 ≤ (w9.setCell ⟨s5, 0, none⟩ (.slice A9 (k + 1) c9)).heap.size := by
                      rw [World.size_setCell]
                      exact Nat.le_trans (Nat.le_trans hsz6 (by simp)) hg9.size
                    clear hown9 hg9 hat9 hrow hs9 hfs hdiff hmW hm5 hBA
                    go_wp2_with fail
                    go_roundw
                    case rel => exact ⟨k + 1, _, by omega, by go_num, HCF.out, HZF.out, HOF.out, by rw [HS2.out]; exact HSF.out, by rw [HS2.out]; omega, HOKN.out, HBF.out, hszF⟩
                    case measure => simp [intOf]; omega
                · have hS2 : seenB ws (k + 1) = L ++ [sb] := by rw [HSBS.out]; rfl
                  have HS2 := Lib.hid hS2
                  clear hS2 HSBS
                  go_wp2_with fail
                  go_loopw [11] (fun j wr => ∃ (jj q : Nat), jj ≤ L.length ∧ j = .int .i64 jj ∧ wr = V.drewN q ∧ Hid (∀ i, i < jj → L[i]?.getD 0 ≠ sb)) (fun j _ => L.length - (intOf j).toNat)
                  case atStart => exact ⟨0, 0, Nat.zero_le _, rfl, rfl, fun i hi => absurd hi (by omega)⟩
                  case round =>
                    obtain ⟨jj, q, hjj, rfl, rfl, hne⟩ := hrel
                    by_cases hjl : jj < L.length
                    · obtain ⟨b7, cap7, hA, -, hb7⟩ := HS6.out.form (by omega)
                      injection hA with hA2 _ hcap
                      subst hA2
                      subst hcap
                      have cj := (HS6.out.cellAt jj (by omega)).trans (iv_at L jj hjl)
                      have t1 : (jj : Int) < (L.length : Int) := by omega
                      have HIN : Hid (L[jj]?.getD 0 ∈ L) := by
                        show _ ∈ _
                        rw [List.getElem?_eq_getElem hjl, Option.getD_some]
                        exact List.getElem_mem _
                      have HNX : Hid (L[jj]?.getD 0 ≠ sb → ∀ i, i < jj + 1 → L[i]?.getD 0 ≠ sb) := fun h i hi => by
                        by_cases e : i = jj
                        · rw [e]; exact h
                        · exact hne.out i (by omega)
                      generalize L[jj]?.getD 0 = y at *
                      by_cases hy : y = sb
                      · have hyb : (y == sb) = true := by simpa using hy
                        have hE24 : openE ws = 24 := by
                          rw [HE4.out, if_pos (allOk_false ws k Q hlt _)]
                          rw [HOK2.out, decide_eq_true (hy ▸ HIN.out)]
                          rfl
                        clear hy
                        have z0 : V.cell? ⟨W.heap.size, 0, none⟩ = some (.slice none 0 0) := HZ6.out.cell 0
                        have f0 := HZ6.out.free 0
                        have z1 : V.cell? ⟨W.heap.size, 1, none⟩ = some (.int .i64 0) := HZ6.out.cell 1
                        have f1 := HZ6.out.free 1
                        have z2 : V.cell? ⟨W.heap.size, 2, none⟩ = some (.int .i64 0) := HZ6.out.cell 2
                        have f2 := HZ6.out.free 2
                        have z3 : V.cell? ⟨W.heap.size, 3, none⟩ = some (.bool false) := HZ6.out.cell 3
                        have f3 := HZ6.out.free 3
                        go_wp2_with fail
                        go_quiet (fail)
                        go_wp2_with fail
                        (try simp only [Exit.inBlock, Exit.then])
                        refine bodyPost_ret (res_meta_tmp rfl _ _ W.heap.size _ _ _ _ rfl (Cs.put4 (show Cs (V.drewN _) W.heap.size _ _ from HZ6.out) _ _ _ _)) rfl ?_
                        exact ⟨below_put4 (below_drewN HB6.out _) (Nat.le_refl _) _ _ _ _, .inl ⟨by rw [hE24]; decide, by rw [hE24]; rfl⟩⟩
                      · have hyb : (y == sb) = false := by simpa using hy
                        go_wp2_with fail
                        go_quiet (fail)
                        go_wp2_with fail
                        go_roundw
                        case rel => exact ⟨jj + 1, _, by omega, by go_num, rfl, HNX.out hy⟩
                        case measure => simp [intOf]; omega
                    · have hjL : jj = L.length := by omega
                      have hnm : ¬ sb ∈ L := by
                        intro hm
                        obtain ⟨i, hi, e⟩ := List.getElem_of_mem hm
                        have := hne.out i (by omega)
                        rw [List.getElem?_eq_getElem hi, Option.getD_some] at this
                        exact this e
                      have hokn : allOk ws (k + 1) = true := by rw [allOk, HOKk.out, HOK2.out, decide_eq_false hnm]; rfl
                      have HOKN := Lib.hid hokn
                      have hbq := below_drewN (Below.refl V.heap.size V) q
                      have HC7 := Lib.hid (HC6.out.below hbq HC6.out.lt)
                      have HZ7 := Lib.hid (HZ6.out.below hbq HZ6.out.lt)
                      have HO7 := Lib.hid (own_keepB HO6.out hbq)
                      have HS7 := Lib.hid (own_keepB HS6.out hbq)
                      have HB7 := Lib.hid (below_drewN HB6.out q)
                      have hsz7 : s5 + 1 ≤ (V.drewN q).heap.size := hsz6
                      have hl7 : s6 < (V.drewN q).heap.size := hl6
                      have l0 : (V.drewN q).cell? ⟨s6, 0, none⟩ = some (.bool true) := k0
                      have l1 : (V.drewN q).cell? ⟨s6, 1, none⟩ = some (.bool sd) := k1
                      have l2 : (V.drewN q).cell? ⟨s6, 2, none⟩ = some (.int .i64 sb) := k2
                      have l3 : (V.drewN q).cell? ⟨s6, 3, none⟩ = some (.int .i64 sst) := k3
                      clear hokn hbq k0 k1 k2 k3 HC6 HZ6 HO6 HS6 HB6 hsz6 hl6
                      generalize V.drewN q = U at *
                      have t1 : ¬ (jj : Int) < (L.length : Int) := by omega
                      go_upto_region 24 with (at_builtin; refine wpList_append_reads _ (by rfl) (.tmp 117) (.tmp 120) _ (by rfl) (s5 + 1) 3 ii _ 1 8 Tryz.underlying22 hii hy0 hy1 hy2 (by rfl) (by omega) (.slice A7 L.length c7) L.length (iv L) (by rfl) (HS7.out.alloc _) (some ⟨U.heap.size, 0, none⟩) 1 1 [.int .i64 sb] (by rfl) (by rfl) (Reads.new _ _ _) (by simp [Value.oneCell']) (by simp only [maxLen]; omega) (by omega) (by simp; omega) ?_; intro v8 w8 hown8 hg8 hat8; obtain ⟨A8, c8, hv8⟩ := own_form hown8; subst hv8)
                      have hm7 : some s5 ≠ (Value.slice A7 L.length c7).ownBlock := fun e => by have := (HOB7.out s5 e.symm).1; omega
                      have hz7 : some W.heap.size ≠ (Value.slice A7 L.length c7).ownBlock := fun e => by have := (HOB7.out _ e.symm).1; omega
                      have hs7 : some s6 ≠ (Value.slice A7 L.length c7).ownBlock := fun e => by have := (HOB7.out s6 e.symm).2; omega
                      have hdif := own_ne (HO7.out.alloc (.cells #[.int .i64 sb] 3)) (HS7.out.alloc (.cells #[.int .i64 sb] 3)) (by decide)
                      have hba : Below U.heap.size U (U.alloc (.cells #[.int .i64 sb] 3)) := (Below.refl _ _).alloc (Nat.le_refl _) _
                      have HC8 := Lib.hid ((HC7.out.alloc _).grown hg8 hm7)
                      have HZ8 := Lib.hid ((HZ7.out.alloc _).grown hg8 hz7)
                      have HO8 := Lib.hid ((HO7.out.alloc _).kept hg8 hdif)
                      have HS8 : Hid (w8.ownsRow (s5 + 1) 3 1 (.slice A8 (L.length + 1) c8) (L ++ [sb]).length (iv (L ++ [sb]))) := by
                        show w8.ownsRow _ _ _ _ _ _
                        rw [iv_append, List.length_append]
                        exact hown8
                      have hBA8 : Below W.heap.size W (U.alloc (.cells #[.int .i64 sb] 3)) := HB7.out.alloc HB7.out.size _
                      have HB8 := Lib.hid (hBA8.grown hg8 hBA8.size (fun j e => by have := (HOB7.out j e).1; omega))
                      have hsz8 : s5 + 1 ≤ w8.heap.size := Nat.le_trans (Nat.le_trans hsz7 hba.size) hg8.size
                      have k0 := hg8.cell (a := ⟨s6, 0, none⟩) ((hba.cell (p := ⟨s6, 0, none⟩) hl7).trans l0) hs7
                      have k1 := hg8.cell (a := ⟨s6, 1, none⟩) ((hba.cell (p := ⟨s6, 1, none⟩) hl7).trans l1) hs7
                      have k2 := hg8.cell (a := ⟨s6, 2, none⟩) ((hba.cell (p := ⟨s6, 2, none⟩) hl7).trans l2) hs7
                      have k3 := hg8.cell (a := ⟨s6, 3, none⟩) ((hba.cell (p := ⟨s6, 3, none⟩) hl7).trans l3) hs7
                      clear hown8 hg8 hat8 hm7 hz7 hs7 hdif hba hBA8 l0 l1 l2 l3 HC7 HZ7 HO7 HS7 HB7 hsz7
                      have y1 : w8.cell? ⟨s5, 0, none⟩ = some (.slice A3 k c3) := HC8.out.cell 0
                      go_wp2_with (at_builtin; refine wpList_append_reads _ (by rfl) (.tmp 123) (.tmp 125) _ (by rfl) (s5 + 1) 31 is _ 4 24 Tryz.underlying56 his hz0 hz1 hz2 (by rfl) (by omega) (.slice A3 k c3) k (scs (slotsU ws k)) (by rfl) (HO8.out.alloc _) (some ⟨w8.heap.size, 0, none⟩) 1 1 [.bool true, .bool sd, .int .i64 sb, .int .i64 sst] (by rfl) (by rfl) (Reads.new _ _ _) (by simp [Value.oneCell']) (by simp only [maxLen]; omega) (by omega) (by simp; omega) ?_; intro v9 w9 hown9 hg9 hat9; obtain ⟨A9, c9, hv9⟩ := own_form hown9; subst hv9; have hm5 : some s5 ≠ (Value.slice A3 k c3).ownBlock := (fun e => by have := (HOB.out s5 e.symm).1; omega); have HC9 := Lib.hid ((HC8.out.alloc _).grown hg9 hm5); have c90 : w9.cell? ⟨s5, 0, none⟩ = some (.slice A3 k c3) := HC9.out.cell 0; have f90 := HC9.out.free 0)
                      have hmW : some W.heap.size ≠ (Value.slice A3 k c3).ownBlock := fun e => by have := (HOB.out _ e.symm).1; omega
                      have hrow : w9.ownsRow (s5 + 1) 31 4 (.slice A9 (k + 1) c9) (k + 1) (scs (slotsU ws (k + 1))) := by
                        have e : scs (slotsU ws (k + 1)) = scs (slotsU ws k) ++ [.bool true, .bool sd, .int .i64 sb, .int .i64 sst] := by rw [HSUS.out, scs_snoc]; rfl
                        rw [e]
                        exact hown9
                      have hdiff := own_ne (HS8.out.alloc (.cells #[.bool true, .bool sd, .int .i64 sb, .int .i64 sst] 31)) (HO8.out.alloc (.cells #[.bool true, .bool sd, .int .i64 sb, .int .i64 sst] 31)) (by decide)
                      have hs9 := (HS8.out.alloc _).kept hg9 hdiff
                      have hfs := fr_set w9 s5 0 (.slice A9 (k + 1) c9)
                      have HCF : Hid (Cs (w9.setCell ⟨s5, 0, none⟩ (.slice A9 (k + 1) c9)) s5 145 #[.slice A9 (k + 1) c9, .int .i64 (Bc : Int), .int .i64 (M : Int), .bool (decide (O = 0))]) := heap_setCell_same w9 s5 0 _ _ (.slice A9 (k + 1) c9) HC9.out
                      have HZF := Lib.hid (((HZ8.out.alloc _).grown hg9 hmW).fr hfs (by show ¬ _ = _; omega))
                      have HOF := Lib.hid (own_fr hrow hfs (fun b' hb' e => by have := own_base hrow b' hb'; omega))
                      have HSF := Lib.hid (own_fr hs9 hfs (fun b' hb' e => by have := own_base hs9 b' hb'; omega))
                      have hBA : Below W.heap.size W (w8.alloc (.cells #[.bool true, .bool sd, .int .i64 sb, .int .i64 sst] 31)) := HB8.out.alloc HB8.out.size _
                      have HBF := Lib.hid ((hBA.grown hg9 hBA.size (fun j e => by have := (HOB.out j e).1; omega)).setCell (p := ⟨s5, 0, none⟩) (Nat.le_of_lt hWs) (.slice A9 (k + 1) c9))
                      have hszF : s5 + 1 ≤ (w9.setCell ⟨s5, 0, none⟩ (.slice A9 (k + 1) c9)).heap.size := by
                        rw [World.size_setCell]
                        exact Nat.le_trans (Nat.le_trans hsz8 (by simp)) hg9.size
                      clear hown9 hg9 hat9 hrow hs9 hfs hdiff hmW hm5 hBA
                      go_wp2_with fail
                      go_roundw
                      case rel => exact ⟨k + 1, _, by omega, by go_num, HCF.out, HZF.out, HOF.out, by rw [HS2.out]; exact HSF.out, by rw [HS2.out, List.length_append]; simp; omega, HOKN.out, HBF.out, hszF⟩
                      case measure => simp [intOf]; omega
            · have hkn : k = Q := by omega
              subst hkn
              have hok1 := HOKk.out
              obtain ⟨y0, y1, y2, y3⟩ := (⟨HCk.out.cell 0, HCk.out.cell 1, HCk.out.cell 2, HCk.out.cell 3⟩ : wx.cell? ⟨s5, 0, none⟩ = some (.slice A3 k c3) ∧ wx.cell? ⟨s5, 1, none⟩ = some (.int .i64 (Bc : Int)) ∧ wx.cell? ⟨s5, 2, none⟩ = some (.int .i64 (M : Int)) ∧ wx.cell? ⟨s5, 3, none⟩ = some (.bool (decide (O = 0))))
              have z0 : wx.cell? ⟨W.heap.size, 0, none⟩ = some (.slice none 0 0) := HZk.out.cell 0
              have z1 : wx.cell? ⟨W.heap.size, 1, none⟩ = some (.int .i64 0) := HZk.out.cell 1
              have z2 : wx.cell? ⟨W.heap.size, 2, none⟩ = some (.int .i64 0) := HZk.out.cell 2
              have z3 : wx.cell? ⟨W.heap.size, 3, none⟩ = some (.bool false) := HZk.out.cell 3
              have f0 := HZk.out.free 0
              have f1 := HZk.out.free 1
              have f2 := HZk.out.free 2
              have f3 := HZk.out.free 3
              go_wp2_with fail
              (try simp only [Exit.inBlock, Exit.then])
              refine bodyPost_ret (res_meta_tmp rfl _ _ W.heap.size _ _ _ _ rfl (Cs.put4 HZk.out _ _ _ _)) rfl ?_
              refine ⟨below_put4 HBk.out (Nat.le_refl _) _ _ _ _, .inr ⟨by rw [HE4.out, hok1]; rfl, .slice A3 k c3, ?_, ?_⟩⟩
              · have e := HWQ.out
                obtain ⟨q1, q2, q3, q4⟩ := HQ.out
                rw [e, q2, q3, q4]
                rfl
              · have e := HWQ.out
                obtain ⟨q1, q2, q3, q4⟩ := HQ.out
                rw [e, q1]
                exact own_lower (own_fr HOk.out (fr_put4r wx W.heap.size _ _ _ _) (fun b' hb' e => by have := own_base HOk.out b' hb'; omega)) (by omega)
end Go.Proofs.YtogchafnnkajfaaGreat
namespace Go.Proofs.YtogchafnnkajfaaGreat
set_option linter.unusedVariables false
open Go.RowKit
attribute [local go_sem] Oper.semAt_some
structure RC where
  r : Nat
  bo : Nat
  co : Nat
  bf : Nat
  cf : Nat
  bm : Nat
  cm : Nat
  n0 : Nat
  n1 : Nat
  n2 : Nat
  chunk : Nat
  mode : Int
structure RvIn (W : World) (F : Nat → Prop) (K : RC) (clo : Bool) (R : RV) (A : Option Addr) (c : Nat) (B : Option Addr) (d : Nat) : Prop where
  vol : Cs W K.r 88 #[.slice (some ⟨K.bo, 0, none⟩) K.n0 K.co, .slice (some ⟨K.bf, 0, none⟩) K.n1 K.cf, .slice (some ⟨K.bm, 0, none⟩) K.n2 K.cm, .slice A R.x.sl.length c, .int .i64 R.x.clk, .slice B R.x.ms.length d, .int .i64 (K.chunk : Int), .int .i64 K.mode, .bool clo]
  ro : W.ownsRow 0 26 1 (.slice (some ⟨K.bo, 0, none⟩) K.n0 K.co) K.n0 (uv R.o)
  rf : W.ownsRow 0 26 1 (.slice (some ⟨K.bf, 0, none⟩) K.n1 K.cf) K.n1 (uv R.f)
  rm : W.ownsRow 0 26 1 (.slice (some ⟨K.bm, 0, none⟩) K.n2 K.cm) K.n2 (uv R.m)
  lo : R.o.length = K.n0
  lf : R.f.length = K.n1
  lm : R.m.length = K.n2
  row : W.ownsRow 0 31 4 (.slice A R.x.sl.length c) R.x.sl.length (scs R.x.sl)
  mis : Reads W B (Go.Proofs.YtogchafnnkajfaaGreat.iv R.x.ms)
  misO : ∀ p, B = some p → R.x.ms ≠ [] → p.block ≠ K.r ∧ p.block ≠ K.bo ∧ p.block ≠ K.bf ∧ p.block ≠ K.bm ∧ F p.block ∧ (∀ b, (Value.slice A R.x.sl.length c).ownBlock = some b → p.block ≠ b) ∧ p.block < W.heap.size
  rowO : ∀ b, (Value.slice A R.x.sl.length c).ownBlock = some b → F b
  ne : K.bo ≠ K.bf ∧ K.bo ≠ K.bm ∧ K.bf ≠ K.bm
  inF : F K.r ∧ F K.bo ∧ F K.bf ∧ F K.bm
def RvAt (W : World) (F : Nat → Prop) (K : RC) (clo : Bool) (R : RV) : Prop := ∃ A c B d, RvIn W F K clo R A c B d
section
variable {W W' : World} {F G : Nat → Prop} {K : RC} {clo : Bool} {R : RV} {A B : Option Addr} {c d : Nat}
theorem RvIn.fr (h : RvIn W F K clo R A c B d) (hf : Fr G W W') (hn : ∀ j, F j → ¬ G j) : RvIn W' F K clo R A c B d :=
  ⟨h.vol.fr hf (hn _ h.inF.1), own_fr h.ro hf (fun b hb => by simp [Value.ownBlock] at hb; rw [← hb]; exact hn _ h.inF.2.1), own_fr h.rf hf (fun b hb => by simp [Value.ownBlock] at hb; rw [← hb]; exact hn _ h.inF.2.2.1), own_fr h.rm hf (fun b hb => by simp [Value.ownBlock] at hb; rw [← hb]; exact hn _ h.inF.2.2.2), h.lo, h.lf, h.lm,
    own_fr h.row hf (fun b hb => hn _ (h.rowO b hb)), h.mis.fr hf (fun h0 p hp => hn _ (h.misO p hp (ms_ne h0)).2.2.2.2.1),
    fun p hp hm => ⟨(h.misO p hp hm).1, (h.misO p hp hm).2.1, (h.misO p hp hm).2.2.1, (h.misO p hp hm).2.2.2.1, (h.misO p hp hm).2.2.2.2.1, (h.misO p hp hm).2.2.2.2.2.1, Nat.lt_of_lt_of_le (h.misO p hp hm).2.2.2.2.2.2 hf.size⟩, h.rowO, h.ne, h.inF⟩
theorem RvAt.fr (h : RvAt W F K clo R) (hf : Fr G W W') (hn : ∀ j, F j → ¬ G j) : RvAt W' F K clo R := by
  obtain ⟨A, c, B, d, h⟩ := h
  exact ⟨A, c, B, d, h.fr hf hn⟩
theorem RvIn.keep (h : RvIn W F K clo R A c B d) (hb : Below W.heap.size W W') : RvIn W' F K clo R A c B d := h.fr (G := fun _ => False) (Fr.of_below hb) (fun _ _ h => h)
theorem RvAt.keep (h : RvAt W F K clo R) (hb : Below W.heap.size W W') : RvAt W' F K clo R := h.fr (G := fun _ => False) (Fr.of_below hb) (fun _ _ h => h)
theorem RvIn.tight (h : RvIn W F K clo R A c B d) : RvIn W (fun j => F j ∧ j < W.heap.size) K clo R A c B d :=
  ⟨h.vol, h.ro, h.rf, h.rm, h.lo, h.lf, h.lm, h.row, h.mis, fun p hp hm => ⟨(h.misO p hp hm).1, (h.misO p hp hm).2.1, (h.misO p hp hm).2.2.1, (h.misO p hp hm).2.2.2.1, ⟨(h.misO p hp hm).2.2.2.2.1, (h.misO p hp hm).2.2.2.2.2.2⟩, (h.misO p hp hm).2.2.2.2.2⟩, fun b hb => ⟨h.rowO b hb, own_lt h.row b hb⟩, h.ne, ⟨h.inF.1, h.vol.lt⟩, ⟨h.inF.2.1, own_lt h.ro _ rfl⟩, ⟨h.inF.2.2.1, own_lt h.rf _ rfl⟩, ⟨h.inF.2.2.2, own_lt h.rm _ rfl⟩⟩
theorem RvIn.rne (h : RvIn W F K clo R A c B d) : K.bo ≠ K.r ∧ K.bf ≠ K.r ∧ K.bm ≠ K.r ∧ ∀ b, (Value.slice A R.x.sl.length c).ownBlock = some b → b ≠ K.r ∧ b ≠ K.bo ∧ b ≠ K.bf ∧ b ≠ K.bm :=
  ⟨fun e => cs_own_ne h.vol h.ro (by decide) _ rfl e, fun e => cs_own_ne h.vol h.rf (by decide) _ rfl e, fun e => cs_own_ne h.vol h.rm (by decide) _ rfl e,
    fun b hb => ⟨cs_own_ne h.vol h.row (by decide) b hb, fun e => own_own_ne h.row h.ro (by decide) b K.bo hb rfl e, fun e => own_own_ne h.row h.rf (by decide) b K.bf hb rfl e, fun e => own_own_ne h.row h.rm (by decide) b K.bm hb rfl e⟩⟩
theorem RvIn.setM (h : RvIn W F K clo R A c B d) (i v : Nat) : RvIn (W.setCell ⟨K.bm, i, none⟩ (.int .u64 (v : Int))) F K clo { R with m := R.m.set i v } A c B d := by
  have hf := fr_set W K.bm i (.int .u64 (v : Int))
  obtain ⟨e1, e2, e3, e4⟩ := h.rne
  have hst := (h.rm.stored i (.int .u64 (v : Int))).1
  rw [uv_set] at hst
  exact ⟨h.vol.fr hf (fun e => e3 e.symm), own_fr h.ro hf (fun b hb e => by simp [Value.ownBlock] at hb; exact h.ne.2.1 (hb.trans e)), own_fr h.rf hf (fun b hb e => by simp [Value.ownBlock] at hb; exact h.ne.2.2 (hb.trans e)), hst, h.lo, h.lf, by rw [List.length_set]; exact h.lm, own_fr h.row hf (fun b hb e => (e4 b hb).2.2.2 e), h.mis.fr hf (fun h0 p hp e => (h.misO p hp (ms_ne h0)).2.2.2.1 e), fun p hp hm => ⟨(h.misO p hp hm).1, (h.misO p hp hm).2.1, (h.misO p hp hm).2.2.1, (h.misO p hp hm).2.2.2.1, (h.misO p hp hm).2.2.2.2.1, (h.misO p hp hm).2.2.2.2.2.1, Nat.lt_of_lt_of_le (h.misO p hp hm).2.2.2.2.2.2 hf.size⟩, h.rowO, h.ne, h.inF⟩
theorem RvIn.setO (h : RvIn W F K clo R A c B d) (i v : Nat) : RvIn (W.setCell ⟨K.bo, i, none⟩ (.int .u64 (v : Int))) F K clo { R with o := R.o.set i v } A c B d := by
  have hf := fr_set W K.bo i (.int .u64 (v : Int))
  obtain ⟨e1, e2, e3, e4⟩ := h.rne
  have hst := (h.ro.stored i (.int .u64 (v : Int))).1
  rw [uv_set] at hst
  exact ⟨h.vol.fr hf (fun e => e1 e.symm), hst, own_fr h.rf hf (fun b hb e => by simp [Value.ownBlock] at hb; exact h.ne.1 (hb.trans e).symm), own_fr h.rm hf (fun b hb e => by simp [Value.ownBlock] at hb; exact h.ne.2.1 (hb.trans e).symm), by rw [List.length_set]; exact h.lo, h.lf, h.lm, own_fr h.row hf (fun b hb e => (e4 b hb).2.1 e), h.mis.fr hf (fun h0 p hp e => (h.misO p hp (ms_ne h0)).2.1 e), fun p hp hm => ⟨(h.misO p hp hm).1, (h.misO p hp hm).2.1, (h.misO p hp hm).2.2.1, (h.misO p hp hm).2.2.2.1, (h.misO p hp hm).2.2.2.2.1, (h.misO p hp hm).2.2.2.2.2.1, Nat.lt_of_lt_of_le (h.misO p hp hm).2.2.2.2.2.2 hf.size⟩, h.rowO, h.ne, h.inF⟩
theorem RvIn.setF (h : RvIn W F K clo R A c B d) (i v : Nat) : RvIn (W.setCell ⟨K.bf, i, none⟩ (.int .u64 (v : Int))) F K clo { R with f := R.f.set i v } A c B d := by
  have hf := fr_set W K.bf i (.int .u64 (v : Int))
  obtain ⟨e1, e2, e3, e4⟩ := h.rne
  have hst := (h.rf.stored i (.int .u64 (v : Int))).1
  rw [uv_set] at hst
  exact ⟨h.vol.fr hf (fun e => e2 e.symm), own_fr h.ro hf (fun b hb e => by simp [Value.ownBlock] at hb; exact h.ne.1 (hb.trans e)), hst, own_fr h.rm hf (fun b hb e => by simp [Value.ownBlock] at hb; exact h.ne.2.2 (hb.trans e).symm), h.lo, by rw [List.length_set]; exact h.lf, h.lm, own_fr h.row hf (fun b hb e => (e4 b hb).2.2.1 e), h.mis.fr hf (fun h0 p hp e => (h.misO p hp (ms_ne h0)).2.2.1 e), fun p hp hm => ⟨(h.misO p hp hm).1, (h.misO p hp hm).2.1, (h.misO p hp hm).2.2.1, (h.misO p hp hm).2.2.2.1, (h.misO p hp hm).2.2.2.2.1, (h.misO p hp hm).2.2.2.2.2.1, Nat.lt_of_lt_of_le (h.misO p hp hm).2.2.2.2.2.2 hf.size⟩, h.rowO, h.ne, h.inF⟩
theorem RvIn.cells (h : RvIn W F K clo R A c B d) : W.cell? ⟨K.r, 0, none⟩ = some (.slice (some ⟨K.bo, 0, none⟩) K.n0 K.co) ∧ W.cell? ⟨K.r, 1, none⟩ = some (.slice (some ⟨K.bf, 0, none⟩) K.n1 K.cf) ∧ W.cell? ⟨K.r, 2, none⟩ = some (.slice (some ⟨K.bm, 0, none⟩) K.n2 K.cm) ∧ W.cell? ⟨K.r, 3, none⟩ = some (.slice A R.x.sl.length c) ∧ W.cell? ⟨K.r, 4, none⟩ = some (.int .i64 R.x.clk) ∧ W.cell? ⟨K.r, 5, none⟩ = some (.slice B R.x.ms.length d) ∧ W.cell? ⟨K.r, 6, none⟩ = some (.int .i64 (K.chunk : Int)) ∧ W.cell? ⟨K.r, 7, none⟩ = some (.int .i64 K.mode) ∧ W.cell? ⟨K.r, 8, none⟩ = some (.bool clo) :=
  ⟨h.vol.cell 0, h.vol.cell 1, h.vol.cell 2, h.vol.cell 3, h.vol.cell 4, h.vol.cell 5, h.vol.cell 6, h.vol.cell 7, h.vol.cell 8⟩
end
theorem rwhole_any (W : World) (F : Nat → Prop) (K : RC) (clo : Bool) (R : RV) (b : Nat) (h : RvAt W F K clo R) (hb : b ≤ 16777216) (hc : K.chunk ≤ 127) :
    Calls Tryz.prog 82 #[.pointer (some ⟨K.r, 0, none⟩), .int .i64 (b : Int)] W fun e w' => e = .returned (.bool (decide ((b + 1) * K.chunk ≤ K.n0))) ∧ Below W.heap.size W w' := by
  obtain ⟨A, c, B, d, h⟩ := h
  obtain ⟨x0, x1, x2, x3, x4, x5, x6, x7, x8⟩ := h.cells
  have hm : (b + 1) * K.chunk ≤ 16777217 * 127 := Nat.mul_le_mul (by omega) hc
  have e1 : IntKind.i64.wrap ((b : Int) + 1) = ((b + 1 : Nat) : Int) := by rw [IntWalk.i64_in _ (by omega)]; rfl
  obtain ⟨q, hq⟩ : ∃ q, b + 1 = q := ⟨_, rfl⟩
  rw [hq] at hm e1 ⊢
  obtain ⟨p, hp⟩ : ∃ p, q * K.chunk = p := ⟨_, rfl⟩
  have e2 : IntKind.i64.wrap ((q : Int) * (K.chunk : Int)) = (p : Int) := by rw [← Int.natCast_mul, hp, IntWalk.i64_in _ (by omega)]
  rw [hp] at hm ⊢
  clear hq hp
  go_enter Tryz.func82, Tryz.ntmps82
  go_wp2_with fail
  go_region
  go_wp2_with fail
  go_ret
  exact ⟨rfl, below_drewN (Below.refl _ W) _⟩
def RvP (W : World) (F : Nat → Prop) (K : RC) (clo : Bool) (R : RV) (w : World) : Prop := ∃ F', RvAt w F' K clo R ∧ Turn F F' W w
theorem rput_any (W : World) (F : Nat → Prop) (K : RC) (clo : Bool) (R : RV) (k : Nat) (x : Sl) (h : RvAt W F K clo R) (hx : R.x.sl[k]? = some x) (hn2 : R.x.sl.length + 1 ≤ K.n2) (hl : K.n2 ≤ 65536) :
    Calls Tryz.prog 83 #[.pointer (some ⟨K.r, 0, none⟩), .int .i64 (k : Int)] W fun e w' => e = .returned (.tuple #[]) ∧ RvP W F K clo { R with m := R.m.set (1 + k) x.word } w' := by
  obtain ⟨A, c, B, d, h⟩ := h
  obtain ⟨x0, x1, x2, x3, x4, x5, x6, x7, x8⟩ := h.cells
  have hk := (List.getElem?_eq_some_iff.1 hx).1
  obtain ⟨a, o, rfl, hal, hc⟩ := scs_read (Reads.of_own h.row) (by omega)
  obtain ⟨y0, y1, y2, y3⟩ := hc k x hx
  clear hc
  have H := Lib.hid h
  have hm := h.rm.cellAt (1 + k) (by omega)
  rw [uv_at _ _ (by rw [h.lm]; omega)] at hm
  have fm := h.rm.frozenAt (1 + k)
  have e1 : IntKind.i64.wrap (1 + (k : Int)) = ((1 + k : Nat) : Int) := by rw [IntWalk.i64_in _ (by omega)]; omega
  have e3 : ((1 + k : Nat) : Int) < (K.n2 : Int) := by omega
  have hwd := rword_any x W.drew
  unfold Sl.v at hwd
  change Calls _ _ _ _ (fun e w' => _ ∧ Below W.heap.size W.drew w') at hwd
  have HWD := Lib.hid hwd
  clear hwd
  have HX := Lib.hid hx
  have HMD := Lib.hid hn2
  have hkl : k < R.x.sl.length := hk
  clear hx hn2
  go_enter Tryz.func83, Tryz.ntmps83
  go_wp2_with fail
  go_region_with (go_at_call 14; go_loud (with_reducible refine HWD.out.mono ?_; rintro e w1 ⟨rfl, hb1⟩; have hb2 : Below W.heap.size W w1 := (Below.refl W.heap.size W).drew.trans hb1; have h1 := Lib.hid (H.out.keep hb2); have z2 := h1.out.cells.2.2.1; have z3 := h1.out.cells.2.2.2.1; have zm := h1.out.rm.cellAt (1 + k) (by omega); rw [uv_at _ _ (by rw [h1.out.lm]; omega)] at zm; have zf := h1.out.rm.frozenAt (1 + k)))
  all_goals
    refine bodyPost_end (v := .tuple #[]) (by simp [results, Tryz.f83, go_sem]) rfl ?_
    exact ⟨rfl, F, ⟨_, _, _, _, h1.out.setM (1 + k) x.word⟩, (Fr.of_below hb2).set (.inl h1.out.inF.2.2.2) _, fun j hj => .inl hj⟩
end Go.Proofs.YtogchafnnkajfaaGreat
namespace Go.Proofs.YtogchafnnkajfaaGreat
set_option linter.unusedVariables false
open Go.RowKit
attribute [local go_sem] Oper.semAt_some
def rput3 (W : World) (r : Nat) (A : Option Addr) (n c : Nat) (clk : Int) (B : Option Addr) (m d : Nat) : World := (((W.setCell ⟨r, 3, none⟩ (.slice A n c)).setCell ⟨r, 4, none⟩ (.int .i64 clk)).setCell ⟨r, 5, none⟩ (.slice B m d))
theorem fr_rput3 (W : World) (r : Nat) (A : Option Addr) (n c : Nat) (clk : Int) (B : Option Addr) (m d : Nat) : Fr (fun j => j = r) W (rput3 W r A n c clk B m d) := (((Fr.refl (fun j => j = r) W).set (.inl rfl) _).set (.inl rfl) _).set (.inl rfl) _
theorem RvIn.setX {W : World} {F : Nat → Prop} {K : RC} {clo : Bool} {R : RV} {A B : Option Addr} {c d k : Nat} (h : RvIn W F K clo R A c B d) (hlt : ∀ j, F j → j < k) {x' : CS} {A' B' : Option Addr} {n' c' m' d' : Nat} (hn : x'.sl.length = n') (hm : x'.ms.length = m')
    (hS : W.ownsRow k 31 4 (.slice A' n' c') n' (scs x'.sl)) (hB : Reads W B' (Go.Proofs.YtogchafnnkajfaaGreat.iv x'.ms)) (hkB : ∀ p, B' = some p → k ≤ p.block ∧ ∀ b, (Value.slice A' n' c').ownBlock = some b → p.block ≠ b) :
    RvIn (rput3 W K.r A' n' c' x'.clk B' m' d') (fun j => F j ∨ k ≤ j) K clo { R with x := x' } A' c' B' d' := by
  subst hn hm
  have hf := fr_rput3 W K.r A' x'.sl.length c' x'.clk B' x'.ms.length d'
  have hrk := hlt _ h.inF.1
  have hok := hlt _ h.inF.2.1
  have hfk := hlt _ h.inF.2.2.1
  have hmk := hlt _ h.inF.2.2.2
  obtain ⟨e1, e2, e3, e4⟩ := h.rne
  refine ⟨?_, own_fr h.ro hf (fun b hb e => by simp [Value.ownBlock] at hb; exact e1 (hb.trans e)), own_fr h.rf hf (fun b hb e => by simp [Value.ownBlock] at hb; exact e2 (hb.trans e)), own_fr h.rm hf (fun b hb e => by simp [Value.ownBlock] at hb; exact e3 (hb.trans e)), h.lo, h.lf, h.lm,
    own_lower (own_fr hS hf (fun b hb e => by have := (hS.lt b hb).1; omega)) (Nat.zero_le _), hB.fr hf (fun _ p hp e => by have := (hkB p hp).1; omega), ?_, fun b hb => .inr (hS.lt b hb).1, h.ne, .inl h.inF.1, .inl h.inF.2.1, .inl h.inF.2.2.1, .inl h.inF.2.2.2⟩
  · have h1 : Cs (W.setCell ⟨K.r, 3, none⟩ (.slice A' x'.sl.length c')) K.r 88 #[.slice (some ⟨K.bo, 0, none⟩) K.n0 K.co, .slice (some ⟨K.bf, 0, none⟩) K.n1 K.cf, .slice (some ⟨K.bm, 0, none⟩) K.n2 K.cm, .slice A' x'.sl.length c', .int .i64 R.x.clk, .slice B R.x.ms.length d, .int .i64 (K.chunk : Int), .int .i64 K.mode, .bool clo] := Cs.put (l := [_, _, _, _, _, _, _, _, _]) h.vol _
    have h2 : Cs ((W.setCell ⟨K.r, 3, none⟩ (.slice A' x'.sl.length c')).setCell ⟨K.r, 4, none⟩ (.int .i64 x'.clk)) K.r 88 #[.slice (some ⟨K.bo, 0, none⟩) K.n0 K.co, .slice (some ⟨K.bf, 0, none⟩) K.n1 K.cf, .slice (some ⟨K.bm, 0, none⟩) K.n2 K.cm, .slice A' x'.sl.length c', .int .i64 x'.clk, .slice B R.x.ms.length d, .int .i64 (K.chunk : Int), .int .i64 K.mode, .bool clo] := Cs.put (l := [_, _, _, _, _, _, _, _, _]) h1 _
    exact Cs.put (l := [_, _, _, _, _, _, _, _, _]) h2 _
  · intro p hp hm
    obtain ⟨q1, q2⟩ := hkB p hp
    have hm' : (Go.Proofs.YtogchafnnkajfaaGreat.iv x'.ms).length ≠ 0 := fun e => hm (by
      unfold Go.Proofs.YtogchafnnkajfaaGreat.iv at e
      simpa using e)
    obtain ⟨b, o, e, hlt', -⟩ := hB hm'
    rw [hp] at e
    injection e with e
    subst e
    exact ⟨by omega, by omega, by omega, by omega, .inr q1, q2, Nat.lt_of_lt_of_le hlt' hf.size⟩
theorem RvIn.fin {W W1 : World} {F : Nat → Prop} {K : RC} {clo : Bool} {R : RV} {A B : Option Addr} {c d : Nat} (h : RvIn W F K clo R A c B d) (hlt : ∀ j, F j → j < W.heap.size) (hb : Below W.heap.size W W1) {x' : CS} {A' B' : Option Addr} {n' c' m' d' : Nat} (hn : x'.sl.length = n') (hm : x'.ms.length = m')
    (hS : W1.ownsRow W.heap.size 31 4 (.slice A' n' c') n' (scs x'.sl)) (hB : Reads W1 B' (Go.Proofs.YtogchafnnkajfaaGreat.iv x'.ms)) (hkB : ∀ p, B' = some p → W.heap.size ≤ p.block ∧ ∀ b, (Value.slice A' n' c').ownBlock = some b → p.block ≠ b) :
    RvAt (rput3 W1 K.r A' n' c' x'.clk B' m' d') (fun j => F j ∨ W.heap.size ≤ j) K clo { R with x := x' } ∧ Turn F (fun j => F j ∨ W.heap.size ≤ j) W (rput3 W1 K.r A' n' c' x'.clk B' m' d') :=
  ⟨⟨_, _, _, _, (h.keep hb).setX hlt hn hm hS hB hkB⟩, (((Fr.of_below hb).set (.inl h.inF.1) _).set (.inl h.inF.1) _).set (.inl h.inF.1) _, fun j hj => hj⟩
theorem RvP.of {W W1 : World} {F F' : Nat → Prop} {K : RC} {clo : Bool} {R : RV} (h : RvAt W1 F' K clo R) (ht : Turn (fun j => F j ∧ j < W.heap.size) F' W W1) : RvP W F K clo R W1 :=
  ⟨F', h, ht.1.mono (fun j _ hj => hj.1), fun j hj => (ht.2 j hj).elim (fun e => .inl e.1) .inr⟩
theorem RvP.trans {W W1 W2 : World} {F F' : Nat → Prop} {K : RC} {clo : Bool} {R : RV} (ht : Turn F F' W W1) (h : RvP W1 F' K clo R W2) : RvP W F K clo R W2 := by
  obtain ⟨F2, h2, ht2⟩ := h
  exact ⟨F2, h2, ht.trans ht2⟩
set_option maxRecDepth 100000 in
theorem rfree_any (W : World) (F : Nat → Prop) (K : RC) (clo : Bool) (R : RV) (k : Nat) (x : Sl) (h : RvAt W F K clo R) (hok : R.x.Ok) (hx : R.x.sl[k]? = some x) (hd : x.dirty = false) (hn2 : R.x.sl.length + 1 ≤ K.n2) (hl : K.n2 ≤ 65536) :
    Calls Tryz.prog 90 #[.pointer (some ⟨K.r, 0, none⟩), .int .i64 (k : Int)] W fun e w' => e = .returned (.tuple #[]) ∧ RvP W F K clo (R.free k) w' := by
  obtain ⟨A, c, B, d, h⟩ := h
  have h := h.tight
  obtain ⟨x0, x1, x2, x3, x4, x5, x6, x7, x8⟩ := h.cells
  have hk := (List.getElem?_eq_some_iff.1 hx).1
  have hcl := rclear_any W A B R.x.sl.length c R.x.ms.length d R.x hok rfl rfl (Reads.of_own h.row) h.mis k x hx hd
  unfold csV at hcl
  have HCL := Lib.hid hcl
  have H := Lib.hid h
  have HX := Lib.hid hx
  have HN := Lib.hid hn2
  clear hcl h hx hn2 hok
  go_enter Tryz.func90, Tryz.ntmps90
  go_wp2_with fail
  refine HCL.out.mono ?_
  rintro e w1 ⟨⟨v, rfl, A', n', c', m', B', d', rfl, hn, hm, hS, hM⟩, hb1⟩
  unfold csV
  have h1 := H.out.keep hb1
  obtain ⟨z0, z1, z2, z3, z4, z5, z6, z7, z8⟩ := h1.cells
  have f3 := h1.vol.free 3
  have f4 := h1.vol.free 4
  have f5 := h1.vol.free 5
  have hfin := H.out.fin (d' := d') (fun j hj => hj.2) hb1 hn hm hS (own_reads hM) (fun p hp => by subst hp; exact ⟨(hM.lt p.block rfl).1, fun b hb e => own_own_ne hS hM (by decide) b p.block hb rfl e.symm⟩)
  have HFIN := Lib.hid hfin
  clear h1 hfin hS hM
  go_wp2_with fail
  change Calls _ _ _ (rput3 w1 K.r A' n' c' (R.x.clear k).clk B' m' d') _
  have hsz : (R.x.clear k).sl.length = R.x.sl.length := by show (List.set _ _ _).length = _; rw [List.length_set]
  refine (rput_any _ _ K clo _ k nilS HFIN.out.1 (by show (R.x.sl.set k nilS)[k]? = _; rw [List.getElem?_set_self hk]) (by show (R.x.clear k).sl.length + 1 ≤ K.n2; rw [hsz]; exact HN.out) hl).mono ?_
  rintro e w2 ⟨rfl, hp⟩
  have hp' := RvP.trans HFIN.out.2 hp
  go_wp2_with fail
  refine bodyPost_end (v := .tuple #[]) (by simp [results, Tryz.f90, go_sem]) rfl ?_
  obtain ⟨F', q1, q2⟩ := hp'
  exact ⟨rfl, RvP.of q1 q2⟩
end Go.Proofs.YtogchafnnkajfaaGreat
