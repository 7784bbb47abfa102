/-
  relocate: Copy and Open of a mover.
-/
import Derived.Test.YtpcjdmbnlhjlaaaRelG
namespace Go.Proofs.Ytpcjdmbnlhjlaaa
set_option linter.unusedVariables false
open Go.RowKit
attribute [local go_sem] Oper.semAt_some m_size m_read m_write m_flush

set_option maxRecDepth 100000 in
set_option maxHeartbeats 4000000 in
theorem rcopy_no (W : World) (F Fm : Nat → Prop) (g s0 s1 m n : Nat) (S : DS) (ext done : Nat) (cp : Bool) (h : MovIn W F Fm g s0 s1 m n S ext done cp) (he : 1 ≤ ext) (hn : n ≤ 65536) (hc : cp = true ∨ done = n / ext) :
    Calls Try.prog 17 #[.pointer (some ⟨m, 0, none⟩)] W fun e w' => e = .returned (.int .i64 28) ∧ Below W.heap.size W w' := by
  obtain ⟨x0, x1, x2, x3, x4⟩ := h.cells
  have e1 := div_wrap n ext (by omega)
  have t0 : ¬ (ext : Int) = 0 := by omega
  cases cp
  · have hd : done = n / ext := by simpa using hc
    have t4 : ((done : Int) == ((n / ext : Nat) : Int)) = true := by simp; omega
    have HH := Lib.hid h
    clear hc h
    generalize n / ext = q at *
    clear hd
    go_enter Try.func17, Try.ntmps17
    go_wp2_with fail
    go_quiet ((go_at_call 35; exact Calls.quiet_of_same ((rsize_any _ F Fm g s0 s1 m n S ext done false (HH.out.keep (below_drewN (Below.refl _ W) _))).mono fun _ _ h => ⟨h.1, h.2.symm⟩)))
    go_wp2_with fail
    go_ret
    exact ⟨rfl, below_drewN (Below.refl _ _) _⟩
  · clear hc
    go_enter Try.func17, Try.ntmps17
    go_wp2_with fail
    go_quiet (fail)
    go_wp2_with fail
    go_ret
    exact ⟨rfl, below_drewN (Below.refl _ _) _⟩

set_option maxRecDepth 100000 in
set_option maxHeartbeats 4000000 in
theorem rcopy_any (W : World) (F Fm : Nat → Prop) (g s0 s1 m n : Nat) (S : DS) (ext done : Nat) (h : MovIn W F Fm g s0 s1 m n S ext done false) (he : 1 ≤ ext) (hn : n ≤ 65536) (hd : done < n / ext) (hlog : S.log.length ≤ 800000) (hwr : S.wr ≤ 800000000) :
    Calls Try.prog 17 #[.pointer (some ⟨m, 0, none⟩)] W (MovP W Fm g s0 s1 m n (cpE S n ext done) (cpS S n ext done) ext done (decide (cpE S n ext done = 0))) := by
  obtain ⟨x0, x1, x2, x3, x4⟩ := h.cells
  have hlim : done * ext + ext ≤ n := by
    have := Nat.div_mul_le_self n ext
    have h2 : (done + 1) * ext ≤ n / ext * ext := Nat.mul_le_mul_right _ hd
    rw [Nat.add_mul, Nat.one_mul] at h2
    omega
  have e1 := div_wrap n ext (by omega)
  have t0 : ¬ (ext : Int) = 0 := by omega
  have t4 : ((done : Int) == ((n / ext : Nat) : Int)) = false := by simp; omega
  have HH := Lib.hid h
  have hlen := cpyTo_len S n (done * ext) ext
  have hE : cpE S n ext done = if (cpyTo S n (done * ext) ext).1 ≠ 0 then (cpyTo S n (done * ext) ext).1 else (cpyTo S n (done * ext) ext).2.chkF 1 := rfl
  have hS : cpS S n ext done = if (cpyTo S n (done * ext) ext).1 ≠ 0 then (cpyTo S n (done * ext) ext).2 else (cpyTo S n (done * ext) ext).2.flush 1 := rfl
  have e2 : IntKind.i64.wrap ((done : Int) * (ext : Int)) = ((done * ext : Nat) : Int) := by rw [← Int.natCast_mul]; generalize done * ext = z at *; rw [IntWalk.i64_in _ (by omega)]
  have HE := Lib.hid hE
  have HS := Lib.hid hS
  clear h hE hS
  generalize n / ext = q at *
  generalize done * ext = z at *
  go_enter Try.func17, Try.ntmps17
  go_wp2_with fail
  go_quiet ((go_at_call 35; exact Calls.quiet_of_same ((rsize_any _ F Fm g s0 s1 m n S ext done false (HH.out.keep (below_drewN (Below.refl _ W) _))).mono fun _ _ h => ⟨h.1, h.2.symm⟩)))
  have HH1 := Lib.hid (HH.out.keep (below_drewN (Below.refl _ W) nq))
  have HT1 := Lib.hid (Turn.of_below (F := Fm) (below_drewN (Below.refl _ W) nq))
  clear x0 x1 x2 x3 x4 HH
  generalize W.drewN nq = W1 at *
  obtain ⟨x0, x1, x2, x3, x4⟩ := HH1.out.cells
  go_wp2_with fail
  go_region_held3 (fun w' => w'.cell? ⟨m, 0, none⟩ = some (.iface 114 (.pointer (some ⟨s0, 0, none⟩))) ∧ w'.cell? ⟨m, 1, none⟩ = some (.iface 114 (.pointer (some ⟨s1, 0, none⟩))) ∧ w'.cell? ⟨m, 2, none⟩ = some (.int .i64 (ext : Int)) ∧ w'.cell? ⟨m, 3, none⟩ = some (.int .i64 (done : Int)))
    (first | exact yy | exact ⟨x0, x1, x2, x3⟩)
    ((go_at_call 37; refine (bcopy_any W1.drew F Fm g s0 s1 m n S ext done false (HH1.out.keep (Below.refl _ _).drew) z ext hlim hn hlog hwr).mono ?_; rintro e w2 ⟨rfl, Fm2, ⟨F2, hm2⟩, ht2⟩; have yy : w2.cell? ⟨m, 0, none⟩ = some (.iface 114 (.pointer (some ⟨s0, 0, none⟩))) ∧ w2.cell? ⟨m, 1, none⟩ = some (.iface 114 (.pointer (some ⟨s1, 0, none⟩))) ∧ w2.cell? ⟨m, 2, none⟩ = some (.int .i64 (ext : Int)) ∧ w2.cell? ⟨m, 3, none⟩ = some (.int .i64 (done : Int)) := ⟨hm2.cells.1, hm2.cells.2.1, hm2.cells.2.2.1, hm2.cells.2.2.2.1⟩))
  have HM2 := Lib.hid hm2
  have HT2 := Lib.hid (HT1.out.trans ((Turn.of_below (F := Fm) (Below.refl _ W1).drew).trans ht2))
  clear hm2 ht2 yy x0 x1 x2 x3 x4 HT1 HH1
  obtain ⟨x0, x1, x2, x3, x4⟩ := HM2.out.cells
  generalize cpyTo S n z ext = p at *
  obtain ⟨r, S2⟩ := p
  change S2.log.length ≤ _ ∧ S2.wr ≤ _ at hlen
  by_cases hr : r = 0
  · have t5 : (r != 0) = false := by simpa using hr
    have HS2 : Hid (cpS S n ext done = S2.flush 1) := by show _ = _; rw [HS.out]; exact if_neg (by simpa using hr)
    have HE2 : Hid (cpE S n ext done = S2.chkF 1) := by show _ = _; rw [HE.out]; exact if_neg (by simpa using hr)
    clear hr
    go_wp2_with fail
    refine (sflush_any w2 F2 g s1 1 n S2 HM2.out.dsk HM2.out.sp1 HM2.out.n1 (by omega)).mono ?_
    rintro e w3 ⟨rfl, F3, hd3, ht3⟩
    have hm3 := HM2.out.turn hd3 ht3
    have HT3 := Lib.hid (HT2.out.trans (HM2.out.wide ht3))
    have c4 := hm3.mov.free 4
    have HM5 := Lib.hid (hm3.setC (decide (S2.chkF 1 = 0)))
    have HT5 := Lib.hid (HT3.out.set (b := m) (i := 4) (by by_cases hf : Fm m; exact .inl hf; exact .inr ((HT3.out.2 m hm3.im).resolve_left hf)) (.bool (decide (S2.chkF 1 = 0))))
    obtain ⟨z0, z1, z2, z3, z4⟩ := hm3.cells
    clear x0 x1 x2 x3 x4 hm3 hd3 ht3
    go_wp2_with fail
    go_ret
    exact ⟨by rw [HE2.out]; rfl, _, ⟨_, by rw [HE2.out, HS2.out]; exact HM5.out⟩, HT5.out⟩
  · have t5 : (r != 0) = true := by simpa using hr
    have HS2 : Hid (cpS S n ext done = S2) := by show _ = _; rw [HS.out]; exact if_pos hr
    have HE2 : Hid (cpE S n ext done = r) := by show _ = _; rw [HE.out]; exact if_pos hr
    have HD2 : Hid (decide (r = 0) = false) := by show _ = _; simpa using hr
    clear hr
    go_wp2_with fail
    go_ret
    exact ⟨by rw [HE2.out]; rfl, _, ⟨_, by rw [HE2.out, HS2.out, HD2.out]; exact HM2.out⟩, HT2.out⟩

end Go.Proofs.Ytpcjdmbnlhjlaaa
