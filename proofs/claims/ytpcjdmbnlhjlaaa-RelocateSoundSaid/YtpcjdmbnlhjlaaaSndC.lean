/-
  The driver of RelocateSound is opened; it is a device as Sound asks.
-/
import Derived.Test.YtpcjdmbnlhjlaaaSndB
namespace Go.Proofs.Ytpcjdmbnlhjlaaa
set_option linter.unusedVariables false
open Go.RowKit
attribute [local go_sem] Oper.semAt_some

theorem cs_ty {w : World} {b : Nat} {t t' : TypeId} {cs cs' : Array Value} (h : Cs w b t cs) (h' : Cs w b t' cs') : t = t' := by
  have := Eq.trans (Eq.symm h) h'
  injection this with this
  injection this

set_option maxRecDepth 100000 in
set_option maxHeartbeats 8000000 in
theorem drv_open {K : Dk} (hK : K.Ok) {w : World} {F : Nat → Prop} {t : List Sec} {c : Nat} (h : ZZ K w F t c) :
    Calls Try.prog 29 #[.pointer (some ⟨K.dp, 0, none⟩)] w fun e w' => ∃ (p : Nat) (F' : Nat → Prop), e = .returned (.tuple #[.iface 61 (.pointer (some ⟨p, 0, none⟩)), .bool true]) ∧ Turn F F' w w' ∧ DD K w' F' t true (c + 1) p := by
  obtain ⟨hge, Fd, S, done, a, mo, hz, hr, hq, hl, hw, h40⟩ := h
  obtain ⟨x0, x1, x2, x3, x4, x5, x6, xf⟩ := hz.v.cells
  have s0 : w.cell? ⟨K.bL, 0, none⟩ = some (.iface 114 (.pointer (some ⟨K.s0, 0, none⟩))) := hz.v.spans.cellAt 0 (by omega)
  have s1 : w.cell? ⟨K.bL, 1, none⟩ = some (.iface 114 (.pointer (some ⟨K.s1, 0, none⟩))) := hz.v.spans.cellAt 1 (by omega)
  have hop : opE K.n K.n (K.ext : Int) (done : Int) = 0 := by
    have := hK.e1
    have := hK.e2
    have := hr.le
    unfold opE
    rw [if_neg (by omega), if_neg (by rw [Int.toNat_natCast]; have := hK.mod; omega), if_neg (by rw [Int.toNat_natCast]; omega)]
  have HZ := Lib.hid hz
  have HG := Lib.hid hge
  have HR := Lib.hid hr
  have HQ := Lib.hid hq
  have HOP := Lib.hid hop
  have hdl := hz.v.drv.lt
  have hbl : K.bL < w.heap.size := own_lt hz.v.spans _ rfl
  clear hz hge hr hq hop
  go_enter Try.func29, Try.ntmps29
  go_wp2_with fail
  go_region_held3 (fun w' => w'.cell? ⟨K.dp, 1, none⟩ = some (.slice (some ⟨K.bL, 0, none⟩) 2 K.cL) ∧ w'.cell? ⟨K.dp, 2, none⟩ = some (.int .i64 (K.ext : Int)) ∧ w'.cell? ⟨K.dp, 3, none⟩ = some (.int .i64 (done : Int)) ∧ w'.cell? ⟨K.bL, 0, none⟩ = some (.iface 114 (.pointer (some ⟨K.s0, 0, none⟩))) ∧ w'.cell? ⟨K.bL, 1, none⟩ = some (.iface 114 (.pointer (some ⟨K.s1, 0, none⟩))))
    (first | exact yy | exact ⟨x1, x2, x3, s0, s1⟩)
    ((go_at_call 33; refine (ropen34_any w.drew K.g K.s0 K.s1 K.n K.n (Cs.below HZ.out.sp0 (Below.refl _ _).drew (Cs.lt HZ.out.sp0)) (Cs.below HZ.out.sp1 (Below.refl _ _).drew (Cs.lt HZ.out.sp1)) (by have := hK.n_; omega) (by have := hK.n_; omega) (K.ext : Int) (done : Int)).mono ?_; rintro e V3 ⟨vm, rfl, hb3, hm0, hm1⟩; have yy : V3.cell? ⟨K.dp, 1, none⟩ = some (.slice (some ⟨K.bL, 0, none⟩) 2 K.cL) ∧ V3.cell? ⟨K.dp, 2, none⟩ = some (.int .i64 (K.ext : Int)) ∧ V3.cell? ⟨K.dp, 3, none⟩ = some (.int .i64 (done : Int)) ∧ V3.cell? ⟨K.bL, 0, none⟩ = some (.iface 114 (.pointer (some ⟨K.s0, 0, none⟩))) ∧ V3.cell? ⟨K.bL, 1, none⟩ = some (.iface 114 (.pointer (some ⟨K.s1, 0, none⟩))) := ⟨(hb3.cell (p := ⟨K.dp, 1, none⟩) (by simpa using hdl)).trans x1, (hb3.cell (p := ⟨K.dp, 2, none⟩) (by simpa using hdl)).trans x2, (hb3.cell (p := ⟨K.dp, 3, none⟩) (by simpa using hdl)).trans x3, (hb3.cell (p := ⟨K.bL, 0, none⟩) (by simpa using hbl)).trans s0, (hb3.cell (p := ⟨K.bL, 1, none⟩) (by simpa using hbl)).trans s1⟩))
  obtain ⟨m, rfl, hmn, hmc⟩ := hm1 HOP.out
  rw [HOP.out]
  have hmn : w.heap.size ≤ m := hmn
  have hb : Below w.heap.size w V3 := (Below.refl _ w).drew.trans hb3
  have hz3 := HZ.out.tight.fr (H := fun _ => False) (Fr.of_below hb) (fun _ _ h => h) (fun _ h => h.elim)
  have HZ3 := Lib.hid hz3
  have HT3 := Lib.hid (Turn.of_below (F := F) hb)
  have HMC := Lib.hid hmc
  have nm0 : m ≠ K.s0 := fun e => by have := Cs.lt HZ.out.sp0; omega
  have nm1 : m ≠ K.s1 := fun e => by have := Cs.lt HZ.out.sp1; omega
  have nmd : m ≠ K.dp := fun e => by omega
  have nmL : m ≠ K.bL := fun e => by omega
  clear x0 x1 x2 x3 x4 x5 x6 xf s0 s1 yy hm0 hm1 hmc hb hz3 hb3
  have f6 := HZ3.out.v.drv.free 6
  have x6 := HZ3.out.v.cells.2.2.2.2.2.2.1
  go_wp2_with fail
  go_ret2
  have hf := fr_set V3 K.dp 6 (.pointer (some ⟨m, 0, none⟩))
  have hv4 := HZ3.out.v.set (fun j hj => HG.out j hj.1) 6 (.pointer (some ⟨m, 0, none⟩)) (mo' := .pointer (some ⟨m, 0, none⟩)) (dd' := done) (a' := a) rfl
  have ndp := HZ3.out.v.nD
  have e0 : K.s0 ≠ K.dp := fun e => by have := HZ3.out.sp0; unfold SpanAt at this; rw [e] at this; exact absurd (cs_ty this HZ3.out.v.drv) (by decide)
  have e1 : K.s1 ≠ K.dp := fun e => by have := HZ3.out.sp1; unfold SpanAt at this; rw [e] at this; exact absurd (cs_ty this HZ3.out.v.drv) (by decide)
  have hmI : MovIn (V3.setCell ⟨K.dp, 6, none⟩ (.pointer (some ⟨m, 0, none⟩))) (FT Fd w) (fun j => FT Fd w j ∨ j = K.s0 ∨ j = K.s1 ∨ j = m) K.g K.s0 K.s1 m K.n S K.ext done false :=
    ⟨HZ3.out.dsk.fr hf (fun j hj e => ndp (e ▸ hj)), fun j hj => .inl hj, Cs.fr HZ3.out.sp0 hf e0, Cs.fr HZ3.out.sp1 hf e1, HZ3.out.n0, HZ3.out.n1, .inr (.inl rfl), .inr (.inr (.inl rfl)), fun e => by have := e.2; omega, .inr (.inr (.inr rfl)), nm0, nm1, HMC.out.fr hf nmd⟩
  have hL0 : K.bL ≠ K.s0 := fun e => own_cs_ne HZ3.out.v.spans HZ3.out.sp0 (by decide) e
  have hL1 : K.bL ≠ K.s1 := fun e => own_cs_ne HZ3.out.v.spans HZ3.out.sp1 (by decide) e
  refine ⟨K.dp, fun j => FT F w j ∨ j = m, by simp, ⟨(HT3.out.1).set (.inl HZ.out.v.iD) _, fun j hj => hj.elim (fun a => .inl a.1) (fun e => .inr (by omega))⟩, rfl, ?_, _, m, S, done, false, a, ⟨⟨_, hmI⟩, ⟨?_, hv4.drv, hv4.spans, ?_, .inl hv4.iD, ?_, .inl hv4.iL, hv4.mvs, hv4.wB⟩⟩, HR.out, fun _ => HQ.out, by omega, by omega, h40⟩
  · rintro j (hj | rfl)
    · exact HG.out j hj.1
    · have := HZ.out.v.wB; omega
  · rintro j (hj | rfl | rfl | rfl)
    · exact .inl (HZ3.out.v.inF j hj)
    · exact .inl HZ3.out.i0
    · exact .inl HZ3.out.i1
    · exact .inr rfl
  · rintro (hj | e | e | e)
    · exact ndp hj
    · exact e0 e.symm
    · exact e1 e.symm
    · exact nmd e.symm
  · rintro (hj | e | e | e)
    · exact HZ3.out.v.nL hj
    · exact hL0 e
    · exact hL1 e
    · exact nmL e.symm

theorem drv_dev {K : Dk} (hK : K.Ok) : DevC K.B K.n 80000 K.g 29 #[.pointer (some ⟨K.dp, 0, none⟩)] (DD K) (ZZ K) where
  dfr := fun h hf hn hb => h.fr hf hn hb
  dti := fun h => h.tight
  zfr := fun h hf hn hb => h.fr hf hn hb
  zti := fun h => h.tight
  size := fun h => drv_size h
  read := fun a st h ha hc hst => drv_read hK a st h ha hc hst
  write := fun a v h ha hv hc => drv_write hK a v h ha hv hc
  flush := fun h hc => drv_flush hK h hc
  fuse := fun x h hx hc => drv_fuse x h hx
  restart := fun A cc base bs h hc ho hb hn => drv_restart A cc base bs h hc ho hb hn
  opens := fun h hc => drv_open hK h

end Go.Proofs.Ytpcjdmbnlhjlaaa
