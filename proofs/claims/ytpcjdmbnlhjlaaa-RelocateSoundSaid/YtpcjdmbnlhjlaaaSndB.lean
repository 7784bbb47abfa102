/-
  The driver of RelocateSound keeps the contracts of a device.
-/
import Derived.Test.YtpcjdmbnlhjlaaaSndA
namespace Go.Proofs.Ytpcjdmbnlhjlaaa
set_option linter.unusedVariables false
open Go.RowKit
attribute [local go_sem] Oper.semAt_some

def DD (K : Dk) (w : World) (F : Nat → Prop) (t : List Sec) (k : Bool) (c p : Nat) : Prop :=
  p = K.dp ∧ (∀ j, F j → K.B ≤ j) ∧ ∃ Fm m S done cp a, DO K w Fm F m S done done cp a ∧ MR S K.n K.ext done cp t ∧ (k = true → MQ S K.ext done cp) ∧ S.log.length ≤ 8 * c ∧ S.wr ≤ 8 * c ∧ a ≤ 40
/-- The disks and the driver, with the power back. -/
structure ZI (K : Dk) (w : World) (Fd F : Nat → Prop) (S : DS) (done a : Nat) (mo : Value) : Prop where
  dsk : DskAt w Fd K.g S
  sp0 : SpanAt w K.s0 K.g 0 K.n
  sp1 : SpanAt w K.s1 K.g 1 K.n
  n0 : ¬ Fd K.s0
  n1 : ¬ Fd K.s1
  i0 : F K.s0
  i1 : F K.s1
  v : DV K w Fd F done a mo
def ZZ (K : Dk) (w : World) (F : Nat → Prop) (t : List Sec) (c : Nat) : Prop :=
  (∀ j, F j → K.B ≤ j) ∧ ∃ Fd S done a mo, ZI K w Fd F S done a mo ∧ MR S K.n K.ext done false t ∧ MQ S K.ext done false ∧ S.log.length ≤ 8 * c ∧ S.wr ≤ 8 * c ∧ a ≤ 40

section
variable {K : Dk} {w w' : World} {F : Nat → Prop} {t : List Sec} {k : Bool} {c p : Nat}
theorem DD.fr (h : DD K w F t k c p) {H : Nat → Prop} (hf : Fr H w w') (hn : ∀ j, F j → ¬ H j) (hb : ∀ j, H j → K.B ≤ j) : DD K w' F t k c p := by
  obtain ⟨rfl, hge, Fm, m, S, done, cp, a, hd, r⟩ := h
  exact ⟨rfl, hge, Fm, m, S, done, cp, a, hd.fr hf hn hb, r⟩
theorem DD.tight (h : DD K w F t k c p) : DD K w (FT F w) t k c p := by
  obtain ⟨rfl, hge, Fm, m, S, done, cp, a, hd, r⟩ := h
  exact ⟨rfl, fun j hj => hge j hj.1, FT Fm w, m, S, done, cp, a, hd.tight, r⟩
theorem ZI.fr {Fd : Nat → Prop} {S : DS} {done a : Nat} {mo : Value} (h : ZI K w Fd F S done a mo) {H : Nat → Prop} (hf : Fr H w w') (hn : ∀ j, F j → ¬ H j) (hb : ∀ j, H j → K.B ≤ j) : ZI K w' Fd F S done a mo :=
  ⟨h.dsk.fr hf (fun j hj => hn j (h.v.inF j hj)), Cs.fr h.sp0 hf (hn _ h.i0), Cs.fr h.sp1 hf (hn _ h.i1), h.n0, h.n1, h.i0, h.i1, h.v.fr hf hn hb⟩
theorem ZI.tight {Fd : Nat → Prop} {S : DS} {done a : Nat} {mo : Value} (h : ZI K w Fd F S done a mo) : ZI K w (FT Fd w) (FT F w) S done a mo :=
  ⟨h.dsk.tight, h.sp0, h.sp1, fun e => h.n0 e.1, fun e => h.n1 e.1, ⟨h.i0, Cs.lt h.sp0⟩, ⟨h.i1, Cs.lt h.sp1⟩, h.v.tight⟩
theorem ZZ.fr (h : ZZ K w F t c) {H : Nat → Prop} (hf : Fr H w w') (hn : ∀ j, F j → ¬ H j) (hb : ∀ j, H j → K.B ≤ j) : ZZ K w' F t c := by
  obtain ⟨hge, Fd, S, done, a, mo, hd, r⟩ := h
  exact ⟨hge, Fd, S, done, a, mo, hd.fr hf hn hb, r⟩
theorem ZZ.tight (h : ZZ K w F t c) : ZZ K w (FT F w) t c := by
  obtain ⟨hge, Fd, S, done, a, mo, hd, r⟩ := h
  exact ⟨fun j hj => hge j hj.1, FT Fd w, S, done, a, mo, hd.tight, r⟩
end

set_option maxHeartbeats 4000000 in
theorem drv_size {K : Dk} {w : World} {F : Nat → Prop} {t : List Sec} {k : Bool} {c p : Nat} (h : DD K w F t k c p) :
    Calls Try.prog 86 #[.pointer (some ⟨p, 0, none⟩)] w fun e w' => e = .returned (.int .i64 (K.n : Int)) ∧ ∃ q, w' = w.drewN q := by
  obtain ⟨rfl, hge, Fm, m, S, done, cp, a, hd, hr, hq, hl, hw, h40⟩ := h
  obtain ⟨x0, x1, x2, x3, x4, x5, x6, xf⟩ := hd.v.cells
  obtain ⟨Fd, hmv⟩ := hd.mov
  have HM := Lib.hid hmv
  clear hd hr hq hmv
  go_enter Try.func86, Try.ntmps86
  go_wp2_with fail
  refine (rsize_any w Fd Fm K.g K.s0 K.s1 m K.n S K.ext done cp HM.out).mono ?_
  rintro e w2 ⟨rfl, rfl⟩
  go_wp2_with fail
  go_ret
  exact ⟨rfl, 0, rfl⟩

set_option maxHeartbeats 4000000 in
theorem drv_read {K : Dk} (hK : K.Ok) {w : World} {F : Nat → Prop} {t : List Sec} {k : Bool} {c p : Nat} (a : Nat) (st : Bool) (h : DD K w F t k c p) (ha : a < K.n) (hc : c < 80000) (hst : st = true → k = true) :
    Calls Try.prog 85 #[.pointer (some ⟨p, 0, none⟩), .int .i64 (a : Int)] w fun e w' => ∃ (v : Nat) (r : Int) (F' : Nat → Prop), e = .returned (.tuple #[.int .u64 (v : Int), .int .i64 r]) ∧ v < 18446744073709551616 ∧ Turn F F' w w' ∧
      ((r = 0 ∧ tMay t a v ∧ DD K w' F' (tRead t a v st) k (c + 1) p) ∨ (k = false ∧ r = 5 ∧ DD K w' F' t k (c + 1) p)) := by
  obtain ⟨rfl, hge, Fm, m, S, done, cp, at_, hd, hr, hq, hl, hw, h40⟩ := h
  have HD := Lib.hid hd
  have HG := Lib.hid hge
  have HR := Lib.hid hr
  have HQ := Lib.hid hq
  have HS := Lib.hid hst
  clear hd hge hr hq hst
  go_enter Try.func85, Try.ntmps85
  go_wp2_with fail
  refine (move_any K w Fm F m S done cp at_ t k hK HD.out HG.out HR.out HQ.out h40 (by omega) (by omega)).mono ?_
  rintro e w1 ⟨rfl, Fm1, F1, S1, done1, cp1, a1, hd1, ht1, hr1, hq1, hl1, hw1, ha1⟩
  obtain ⟨x0, x1, x2, x3, x4, x5, x6, xf⟩ := hd1.v.cells
  obtain ⟨Fd, hmv⟩ := hd1.mov
  have HD1 := Lib.hid hd1
  have HT1 := Lib.hid ht1
  have HR1 := Lib.hid hr1
  have HQ1 := Lib.hid hq1
  have HM1 := Lib.hid hmv
  clear hd1 ht1 hr1 hq1 hmv
  go_wp2_with fail
  refine (rread_any w1 Fd Fm1 K.g K.s0 K.s1 m K.n S1 K.ext done1 cp1 HM1.out a hK.e1 ha (by have := hK.n_; omega)).mono ?_
  rintro e w2 ⟨rfl, hb2⟩
  have HB2 := Lib.hid hb2
  clear hb2
  go_wp2_with fail
  go_ret2
  have hge1 := HT1.out.ge HD.out.v.wB HG.out
  refine ⟨_, _, F1, rfl, sread_lt HM1.out.dsk, HT1.out.trans (Turn.of_below HB2.out), ?_⟩
  rcases read_mr HR1.out a ha st (fun e => HQ1.out (HS.out e)) with ⟨z1, z2, z3⟩ | ⟨z1, z2⟩
  · exact .inl ⟨z1, z2, rfl, hge1, Fm1, m, S1, done1, cp1, a1, HD1.out.keep HB2.out, z3, HQ1.out, by omega, by omega, ha1⟩
  · refine .inr ⟨?_, z2, rfl, hge1, Fm1, m, S1, done1, cp1, a1, HD1.out.keep HB2.out, HR1.out, HQ1.out, by omega, by omega, ha1⟩
    cases k
    · rfl
    · rcases read_mr HR1.out a ha true (fun e => HQ1.out rfl) with ⟨y1, -, -⟩ | ⟨y1, -⟩
      · rw [y1] at z2; cases z2
      · cases y1

set_option maxHeartbeats 4000000 in
theorem drv_write {K : Dk} (hK : K.Ok) {w : World} {F : Nat → Prop} {t : List Sec} {k : Bool} {c p : Nat} (a v : Nat) (h : DD K w F t k c p) (ha : a < K.n) (hv : v < 18446744073709551616) (hc : c < 80000) :
    Calls Try.prog 87 #[.pointer (some ⟨p, 0, none⟩), .int .i64 (a : Int), .int .u64 (v : Int)] w fun e w' => ∃ (r : Int) (F' : Nat → Prop), e = .returned (.int .i64 r) ∧ Turn F F' w w' ∧ (r = 0 ∨ r = 5) ∧ DD K w' F' (tWrote t a v (decide (r = 0))) false (c + 1) p := by
  obtain ⟨rfl, hge, Fm, m, S, done, cp, at_, hd, hr, hq, hl, hw, h40⟩ := h
  have HD := Lib.hid hd
  have HG := Lib.hid hge
  have HR := Lib.hid hr
  have HQ := Lib.hid hq
  clear hd hge hr hq
  go_enter Try.func87, Try.ntmps87
  go_wp2_with fail
  refine (move_any K w Fm F m S done cp at_ t k hK HD.out HG.out HR.out HQ.out h40 (by omega) (by omega)).mono ?_
  rintro e w1 ⟨rfl, Fm1, F1, S1, done1, cp1, a1, hd1, ht1, hr1, hq1, hl1, hw1, ha1⟩
  obtain ⟨x0, x1, x2, x3, x4, x5, x6, xf⟩ := hd1.v.cells
  obtain ⟨Fd, hmv⟩ := hd1.mov
  have HD1 := Lib.hid hd1
  have HT1 := Lib.hid ht1
  have HR1 := Lib.hid hr1
  have HM1 := Lib.hid hmv
  clear hd1 ht1 hr1 hq1 hmv
  go_wp2_with fail
  refine (rwrite_any w1 Fd Fm1 K.g K.s0 K.s1 m K.n S1 K.ext done1 cp1 HM1.out a v hK.e1 ha (by have := hK.n_; omega) hv (by omega) (by omega)).mono ?_
  rintro e w2 ⟨rfl, Fm2, hm2, ht2⟩
  obtain ⟨b1, b2, b3, b4⟩ := write_mr HR1.out a v ha
  have hge1 := HT1.out.ge HD.out.v.wB HG.out
  have HN : Hid (DO K w2 Fm2 (FU F1 Fm2) m _ done1 done1 _ a1) := HD1.out.turn hge1 hm2 ht2
  have HT2 := Lib.hid (HT1.out.trans (HD1.out.v.wide ht2))
  clear hm2 ht2
  go_wp2_with fail
  go_ret
  exact ⟨_, _, rfl, HT2.out, b1, rfl, HT2.out.ge HD.out.v.wB HG.out, Fm2, m, _, done1, _, a1, HN.out, b2, (fun e => by cases e), by omega, by omega, ha1⟩

set_option maxHeartbeats 4000000 in
theorem drv_flush {K : Dk} (hK : K.Ok) {w : World} {F : Nat → Prop} {t : List Sec} {k : Bool} {c p : Nat} (h : DD K w F t k c p) (hc : c < 80000) :
    Calls Try.prog 84 #[.pointer (some ⟨p, 0, none⟩)] w fun e w' => ∃ (r : Int) (F' : Nat → Prop), e = .returned (.int .i64 r) ∧ Turn F F' w w' ∧ ((r = 0 ∧ DD K w' F' (tFlushed t) false (c + 1) p) ∨ (r = 5 ∧ DD K w' F' t false (c + 1) p)) := by
  obtain ⟨rfl, hge, Fm, m, S, done, cp, at_, hd, hr, hq, hl, hw, h40⟩ := h
  have HD := Lib.hid hd
  have HG := Lib.hid hge
  have HR := Lib.hid hr
  have HQ := Lib.hid hq
  clear hd hge hr hq
  go_enter Try.func84, Try.ntmps84
  go_wp2_with fail
  refine (move_any K w Fm F m S done cp at_ t k hK HD.out HG.out HR.out HQ.out h40 (by omega) (by omega)).mono ?_
  rintro e w1 ⟨rfl, Fm1, F1, S1, done1, cp1, a1, hd1, ht1, hr1, hq1, hl1, hw1, ha1⟩
  obtain ⟨x0, x1, x2, x3, x4, x5, x6, xf⟩ := hd1.v.cells
  obtain ⟨Fd, hmv⟩ := hd1.mov
  have HD1 := Lib.hid hd1
  have HT1 := Lib.hid ht1
  have HR1 := Lib.hid hr1
  have HM1 := Lib.hid hmv
  have hfl : (S1.flush 0).log.length ≤ 1000000 := by
    have := hr1.hea.flush (i := 0) rfl
    change S1.flush 0 = _ at this
    rw [this]
    split
    · omega
    · exact Nat.le_trans (others_le _ _) (by omega)
  clear hd1 ht1 hr1 hq1 hmv
  go_wp2_with fail
  refine (rflush_any w1 Fd Fm1 K.g K.s0 K.s1 m K.n S1 K.ext done1 cp1 HM1.out (by omega) hfl).mono ?_
  rintro e w2 ⟨rfl, Fm2, hm2, ht2⟩
  obtain ⟨b1, b2, b3, b4⟩ := flush_mr HR1.out
  have hge1 := HT1.out.ge HD.out.v.wB HG.out
  have HN : Hid (DO K w2 Fm2 (FU F1 Fm2) m _ done1 done1 _ a1) := HD1.out.turn hge1 hm2 ht2
  have HT2 := Lib.hid (HT1.out.trans (HD1.out.v.wide ht2))
  clear hm2 ht2
  go_wp2_with fail
  go_ret
  refine ⟨_, _, rfl, HT2.out, ?_⟩
  rcases b1 with e1 | e1
  · rw [if_pos e1] at b2
    exact .inl ⟨e1, rfl, HT2.out.ge HD.out.v.wB HG.out, Fm2, m, _, done1, _, a1, HN.out, b2, (fun e => by cases e), by omega, by omega, ha1⟩
  · rw [if_neg (by omega)] at b2
    exact .inr ⟨e1, rfl, HT2.out.ge HD.out.v.wB HG.out, Fm2, m, _, done1, _, a1, HN.out, b2, (fun e => by cases e), by omega, by omega, ha1⟩

theorem drv_fuse {K : Dk} {w : World} {F : Nat → Prop} {t : List Sec} {k : Bool} {c p : Nat} (x : Nat) (h : DD K w F t k c p) (hx : x ≤ 1000000) :
    Calls Try.prog 48 #[.pointer (some ⟨K.g, 0, none⟩), .int .i64 (x : Int)] w fun e w' => e = .returned (.tuple #[]) ∧ ∃ (F' : Nat → Prop), Turn F F' w w' ∧ DD K w' F' t false (c + 1) p := by
  obtain ⟨rfl, hge, Fm, m, S, done, cp, at_, hd, hr, hq, hl, hw, h40⟩ := h
  obtain ⟨Fd, hmv⟩ := hd.mov
  refine (fuse_any w Fd K.g S (x : Int) hmv.dsk (by omega) (by omega)).mono ?_
  rintro e w2 ⟨rfl, hd2, hf2⟩
  have ht2 : Turn Fd Fd w w2 := ⟨hf2, fun j hj => .inl hj⟩
  have hm2 := hmv.turn hd2 ht2
  have ht3 := hmv.wide ht2
  exact ⟨rfl, _, hd.v.wide ht3, rfl, (hd.v.wide ht3).ge hd.v.wB hge, _, m, { S with fuse := (x : Int) }, done, cp, at_, hd.turn hge ⟨Fd, hm2⟩ ht3, hr.of rfl rfl, (fun e => by cases e), by show S.log.length ≤ _; omega, by show S.wr ≤ _; omega, h40⟩

theorem drv_restart {K : Dk} {w : World} {F : Nat → Prop} {t : List Sec} {k : Bool} {c p : Nat} (A : Option Addr) (cc base : Nat) (bs : List Bool) (h : DD K w F t k c p) (hc : c < 80000) (ho : w.ownsRow base 4 1 (.slice A 192 cc) 192 (bv bs)) (hb : bs.length = 192) (hn : ∀ b, (Value.slice A 192 cc).ownBlock = some b → ¬ F b) :
    Calls Try.prog 55 #[.pointer (some ⟨K.g, 0, none⟩), .slice A 192 cc] w fun e w' => e = .returned (.tuple #[]) ∧ ∃ (F' : Nat → Prop), Turn F F' w w' ∧ ZZ K w' F' (tFailed t) (c + 1) := by
  obtain ⟨rfl, hge, Fm, m, S, done, cp, at_, hd, hr, hq, hl, hw, h40⟩ := h
  obtain ⟨Fd, hmv⟩ := hd.mov
  refine (arestart_any w Fd K.g base 192 cc S A bs hmv.dsk ho hb (by omega) (fun b hb hf => hn b hb (hd.v.inF b (hmv.inF b hf))) (by omega)).mono ?_
  rintro e w2 ⟨rfl, hd2, hf2⟩
  have ht2 : Turn Fd Fd w w2 := ⟨hf2, fun j hj => .inl hj⟩
  have ht3 := hmv.wide ht2
  have hm2 := hmv.turn hd2 ht2
  have hv2 := hd.v.turn hge ht3
  obtain ⟨q1, q2⟩ := hr.again (fun r hr => (hmv.dsk.1.log r hr).1) bs
  obtain ⟨-, l0, -, -, l4, -, -⟩ := restart_at hr.hea (fun r hr => (hmv.dsk.1.log r hr).1) bs
  refine ⟨rfl, _, hd.v.wide ht3, (hd.v.wide ht3).ge hd.v.wB hge, Fd, S.restart bs, done, at_, _, ⟨hm2.dsk, hm2.sp0, hm2.sp1, hm2.n0, hm2.n1, .inr hm2.i0, .inr hm2.i1, ⟨fun j hj => .inr (.inr hj), hv2.drv, hv2.spans, fun e => hv2.nD (.inr e), hv2.iD, fun e => hv2.nL (.inr e), hv2.iL, hv2.mvs, hv2.wB⟩⟩, q1, q2, by rw [l0]; exact Nat.zero_le _, by rw [l4]; omega, h40⟩

end Go.Proofs.Ytpcjdmbnlhjlaaa
