/-
  The driver of RelocateSound in memory; its steps.
-/
import Derived.Test.YtpcjdmbnlhjlaaaRelH
import Derived.Test.YtpcjdmbnlhjlaaaRelI
import Derived.Test.YtpcjdmbnlhjlaaaTrkG
namespace Go.Proofs.Ytpcjdmbnlhjlaaa
set_option linter.unusedVariables false
open Go.RowKit
attribute [local go_sem] Oper.semAt_some

/-- Where the driver's things lie. -/
structure Dk where
  B : Nat
  dp : Nat
  g : Nat
  s0 : Nat
  s1 : Nat
  bL : Nat
  cL : Nat
  A : Option Addr
  lm : Nat
  cm : Nat
  mv : List Int
  n : Nat
  ext : Nat
structure Dk.Ok (K : Dk) : Prop where
  n_ : K.n ≤ 60000
  e1 : 1 ≤ K.ext
  e2 : K.ext ≤ 4
  mod : K.n % K.ext = 0
  lm_ : K.mv.length = K.lm
  i64 : I64 K.mv

def dCells (K : Dk) (dd a : Nat) (mo : Value) : Array Value := #[.pointer (some ⟨K.g, 0, none⟩), .slice (some ⟨K.bL, 0, none⟩) 2 K.cL, .int .i64 (K.ext : Int), .int .i64 (dd : Int), .slice K.A K.lm K.cm, .int .i64 (a : Int), mo]
/-- The driver, beside the mover (or the disks). -/
structure DV (K : Dk) (w : World) (Fm F : Nat → Prop) (dd a : Nat) (mo : Value) : Prop where
  inF : ∀ j, Fm j → F j
  drv : Cs w K.dp 63 (dCells K dd a mo)
  spans : w.ownsRow 0 74 1 (.slice (some ⟨K.bL, 0, none⟩) 2 K.cL) 2 (spv [K.s0, K.s1])
  nD : ¬ Fm K.dp
  iD : F K.dp
  nL : ¬ Fm K.bL
  iL : F K.bL
  mvs : ∀ w', Below K.B w w' → Reads w' K.A (iv K.mv)
  wB : K.B ≤ w.heap.size
structure DO (K : Dk) (w : World) (Fm F : Nat → Prop) (m : Nat) (S : DS) (dd done : Nat) (cp : Bool) (a : Nat) : Prop where
  mov : MovAt w Fm K.g K.s0 K.s1 m K.n S K.ext done cp
  v : DV K w Fm F dd a (.pointer (some ⟨m, 0, none⟩))

section
variable {K : Dk} {w w' : World} {Fm F : Nat → Prop} {m : Nat} {S : DS} {dd done : Nat} {cp : Bool} {a : Nat} {mo : Value}
theorem DV.cells (h : DV K w Fm F dd a mo) : w.cell? ⟨K.dp, 0, none⟩ = some (.pointer (some ⟨K.g, 0, none⟩)) ∧ w.cell? ⟨K.dp, 1, none⟩ = some (.slice (some ⟨K.bL, 0, none⟩) 2 K.cL) ∧ w.cell? ⟨K.dp, 2, none⟩ = some (.int .i64 (K.ext : Int)) ∧ w.cell? ⟨K.dp, 3, none⟩ = some (.int .i64 (dd : Int)) ∧ w.cell? ⟨K.dp, 4, none⟩ = some (.slice K.A K.lm K.cm) ∧ w.cell? ⟨K.dp, 5, none⟩ = some (.int .i64 (a : Int)) ∧ w.cell? ⟨K.dp, 6, none⟩ = some mo ∧ ∀ i, w.frozen? ⟨K.dp, i, none⟩ = false :=
  ⟨h.drv.cell 0, h.drv.cell 1, h.drv.cell 2, h.drv.cell 3, h.drv.cell 4, h.drv.cell 5, h.drv.cell 6, fun i => h.drv.free i⟩
theorem DV.ne (h : DV K w Fm F dd a mo) : K.bL ≠ K.dp := own_cs_ne h.spans h.drv (by decide)
theorem DV.fr (h : DV K w Fm F dd a mo) {H : Nat → Prop} (hf : Fr H w w') (hn : ∀ j, F j → ¬ H j) (hb : ∀ j, H j → K.B ≤ j) : DV K w' Fm F dd a mo :=
  ⟨h.inF, h.drv.fr hf (hn _ h.iD), own_fr h.spans hf (fun b hb => by simp [Value.ownBlock] at hb; rw [← hb]; exact hn _ h.iL), h.nD, h.iD, h.nL, h.iL, fun w2 h2 => h.mvs w2 ((hf.below h.wB hb).trans h2), Nat.le_trans h.wB hf.size⟩
/-- The mover (or the disks) went on. -/
theorem DV.turn (h : DV K w Fm F dd a mo) (hge : ∀ j, F j → K.B ≤ j) {Fm' : Nat → Prop} (ht : Turn Fm Fm' w w') : DV K w' Fm' (FU F Fm') dd a mo :=
  ⟨fun j hj => .inr hj, h.drv.fr ht.1 h.nD, own_fr h.spans ht.1 (fun b hb => by simp [Value.ownBlock] at hb; rw [← hb]; exact h.nL), ht.out h.drv.lt h.nD, .inl h.iD, ht.out (own_lt h.spans _ rfl) h.nL, .inl h.iL, fun w2 h2 => h.mvs w2 ((ht.1.below h.wB (fun j hj => hge j (h.inF j hj))).trans h2), Nat.le_trans h.wB ht.1.size⟩
theorem DV.wide (h : DV K w Fm F dd a mo) {Fm' : Nat → Prop} (ht : Turn Fm Fm' w w') : Turn F (FU F Fm') w w' :=
  ⟨ht.1.mono (fun j _ hj => h.inF j hj), fun j hj => hj.elim .inl (fun e => (ht.2 j e).elim (fun e' => .inl (h.inF j e')) .inr)⟩
theorem DV.tight (h : DV K w Fm F dd a mo) : DV K w (FT Fm w) (FT F w) dd a mo :=
  ⟨fun j hj => ⟨h.inF j hj.1, hj.2⟩, h.drv, h.spans, fun e => h.nD e.1, ⟨h.iD, h.drv.lt⟩, fun e => h.nL e.1, ⟨h.iL, own_lt h.spans _ rfl⟩, h.mvs, h.wB⟩
theorem DO.fr (h : DO K w Fm F m S dd done cp a) {H : Nat → Prop} (hf : Fr H w w') (hn : ∀ j, F j → ¬ H j) (hb : ∀ j, H j → K.B ≤ j) : DO K w' Fm F m S dd done cp a :=
  ⟨h.mov.fr hf (fun j hj => hn j (h.v.inF j hj)), h.v.fr hf hn hb⟩
theorem DO.keep (h : DO K w Fm F m S dd done cp a) (hb : Below w.heap.size w w') : DO K w' Fm F m S dd done cp a := h.fr (H := fun _ => False) (Fr.of_below hb) (fun _ _ h => h) (fun _ h => h.elim)
theorem DO.tight (h : DO K w Fm F m S dd done cp a) : DO K w (FT Fm w) (FT F w) m S dd done cp a := ⟨h.mov.tight, h.v.tight⟩
/-- A cell of the driver is set. -/
theorem DV.set (h : DV K w Fm F dd a mo) (hge : ∀ j, F j → K.B ≤ j) (i : Nat) (u : Value) {dd' a' : Nat} {mo' : Value} (he : (dCells K dd a mo).setIfInBounds i u = dCells K dd' a' mo') : DV K (w.setCell ⟨K.dp, i, none⟩ u) Fm F dd' a' mo' := by
  have hf := fr_set w K.dp i u
  have hd := heap_setCell_same w K.dp i _ _ u h.drv
  rw [he] at hd
  exact ⟨h.inF, hd, own_fr h.spans hf (fun b hb => by simp [Value.ownBlock] at hb; rw [← hb]; exact h.ne), h.nD, h.iD, h.nL, h.iL, fun w2 h2 => h.mvs w2 ((hf.below h.wB (fun j hj => by subst hj; exact hge _ h.iD)).trans h2), Nat.le_trans h.wB hf.size⟩
theorem DO.set (h : DO K w Fm F m S dd done cp a) (hge : ∀ j, F j → K.B ≤ j) (i : Nat) (u : Value) {dd' a' : Nat} (he : (dCells K dd a (.pointer (some ⟨m, 0, none⟩))).setIfInBounds i u = dCells K dd' a' (.pointer (some ⟨m, 0, none⟩))) : DO K (w.setCell ⟨K.dp, i, none⟩ u) Fm F m S dd' done cp a' :=
  ⟨h.mov.fr (fr_set w K.dp i u) (fun j hj e => h.v.nD (e ▸ hj)), h.v.set hge i u he⟩
theorem DV.setTurn (h : DV K w Fm F dd a mo) (i : Nat) (u : Value) : Turn F F w (w.setCell ⟨K.dp, i, none⟩ u) :=
  ⟨(Fr.refl F w).set (.inl h.iD) u, fun j hj => .inl hj⟩
theorem DO.turn (h : DO K w Fm F m S dd done cp a) (hge : ∀ j, F j → K.B ≤ j) {Fm' : Nat → Prop} {S' : DS} {done' : Nat} {cp' : Bool} (hm : MovAt w' Fm' K.g K.s0 K.s1 m K.n S' K.ext done' cp') (ht : Turn Fm Fm' w w') : DO K w' Fm' (FU F Fm') m S' dd done' cp' a :=
  ⟨hm, h.v.turn hge ht⟩
end

/-- What a step of the driver leaves. -/
def MoveP (K : Dk) (w : World) (F : Nat → Prop) (m : Nat) (S : DS) (t : List Sec) (k : Bool) (e : Ending) (w' : World) : Prop :=
  e = .returned (.tuple #[]) ∧ ∃ Fm' F' S' done' cp' a', DO K w' Fm' F' m S' done' done' cp' a' ∧ Turn F F' w w' ∧ MR S' K.n K.ext done' cp' t ∧ (k = true → MQ S' K.ext done' cp') ∧ S'.log.length ≤ S.log.length + 4 ∧ S'.wr ≤ S.wr + 4 ∧ a' ≤ 40

set_option maxRecDepth 100000 in
set_option maxHeartbeats 8000000 in
theorem move_any (K : Dk) (w : World) (Fm F : Nat → Prop) (m : Nat) (S : DS) (done : Nat) (cp : Bool) (a : Nat) (t : List Sec) (k : Bool) (hK : K.Ok) (h : DO K w Fm F m S done done cp a) (hge : ∀ j, F j → K.B ≤ j) (hr : MR S K.n K.ext done cp t) (hq : k = true → MQ S K.ext done cp) (ha : a ≤ 40) (hlog : S.log.length ≤ 700000) (hwr : S.wr ≤ 700000000) :
    Calls Try.prog 88 #[.pointer (some ⟨K.dp, 0, none⟩)] w (MoveP K w F m S t k) := by
  obtain ⟨x0, x1, x2, x3, x4, x5, x6, xf⟩ := h.v.cells
  have f3 := xf 3
  have f5 := xf 5
  have HH := Lib.hid h
  have HR := Lib.hid hr
  have HQ := Lib.hid hq
  have HG := Lib.hid hge
  have H0 : Hid (MoveP K w F m S t k (.returned (.tuple #[])) w) := ⟨rfl, Fm, F, S, done, cp, a, h, Turn.refl _ _, hr, hq, by omega, by omega, ha⟩
  clear h hr hq hge xf
  go_enter Try.func88, Try.ntmps88
  by_cases hl : K.lm = 0
  · have hl1 : ((K.lm : Int) == 0) = true := by simp [hl]
    go_wp2_with fail
    refine bodyPost_end (v := .tuple #[]) (by simp [results, Try.f88, go_sem]) rfl ?_
    exact H0.out
  · have hl1 : ((K.lm : Int) == 0) = false := by simpa using hl
    by_cases h40 : 40 ≤ a
    · have t1 : (40 : Int) ≤ (a : Int) := by omega
      go_wp2_with fail
      refine bodyPost_end (v := .tuple #[]) (by simp [results, Try.f88, go_sem]) rfl ?_
      exact H0.out
    · have t1 : ¬ (40 : Int) ≤ (a : Int) := by omega
      have d1 : decide ((40 : Int) ≤ (a : Int)) = false := by simpa using t1
      obtain ⟨b, o, hA, hb, hcs⟩ := (HH.out.v.mvs w (Below.refl _ _)).i (by rw [hK.lm_]; exact hl)
      rw [hA] at x4
      have hmod : a % K.lm < K.lm := Nat.mod_lt _ (by omega)
      have hkc := hcs (a % K.lm) (by rw [hK.lm_]; exact hmod)
      obtain ⟨q, hq⟩ : ∃ q, K.mv[a % K.lm]?.getD 0 = q := ⟨_, rfl⟩
      rw [hq] at hkc
      have e1 : (a : Int).tmod (K.lm : Int) = ((a % K.lm : Nat) : Int) := by rw [Int.tmod_eq_emod_of_nonneg (by omega)]; rfl
      have t2 : ((a % K.lm : Nat) : Int) < (K.lm : Int) := by omega
      have hl2 : (K.lm : Int) ≠ 0 := by omega
      have HA := Lib.hid hA
      clear hcs hq hA
      generalize a % K.lm = am at *
      have e2 : IntKind.i64.wrap ((a : Int) + 1) = (a : Int) + 1 := IntWalk.i64_in _ (by omega)
      have u1 := Int.tmod_lt_of_pos q (b := (4 : Int)) (by omega)
      have u2 : -(4 : Int) < q.tmod 4 := Int.lt_tmod_of_pos q (by omega)
      obtain ⟨T, hT⟩ : ∃ T, q.tmod 4 = T := ⟨_, rfl⟩
      rw [hT] at u1 u2
      have u3 : IntKind.i64.wrap (T + 4) = T + 4 := IntWalk.i64_in _ (by omega)
      obtain ⟨V, hV⟩ : ∃ V, (T + 4).tmod 4 = V := ⟨_, rfl⟩
      go_wp2_with fail
      go_quiet (fail)
      have HH1 := Lib.hid (HH.out.keep (below_drewN (Below.refl _ w) nq))
      have HT1 := Lib.hid (Turn.of_below (F := F) (below_drewN (Below.refl _ w) nq))
      clear HH x0 x1 x2 x3 x4 x5 x6 f3 f5 hkc H0
      generalize w.drewN nq = w1 at *
      obtain ⟨x0, x1, x2, x3, x4, x5, x6, xf⟩ := HH1.out.v.cells
      have f5 := xf 5
      have hs2 : DO K (w1.setCell ⟨K.dp, 5, none⟩ (.int .i64 ((a : Int) + 1))) Fm F m S done done cp (a + 1) := HH1.out.set HG.out 5 _ rfl
      have ht2 := HH1.out.v.setTurn 5 (.int .i64 ((a : Int) + 1))
      have HH2 := Lib.hid hs2
      have HT2 := Lib.hid (HT1.out.trans ht2)
      clear hs2 ht2 HT1
      go_upto_region 3 with (fail)
      clear HH1 x0 x1 x2 x3 x4 x5 x6 xf f5
      generalize w1.setCell _ _ = w2 at *
      obtain ⟨x0, x1, x2, x3, x4, x5, x6, xf⟩ := HH2.out.v.cells
      have f3 := xf 3
      have H0 : Hid (MoveP K w F m S t k (.returned (.tuple #[])) w2) := ⟨rfl, Fm, F, S, done, cp, a + 1, HH2.out, HT2.out, HR.out, HQ.out, by omega, by omega, by omega⟩
      have hn_ := hK.n_
      have he1 := hK.e1
      have he2 := hK.e2
      by_cases v0 : V = 0
      · have v1 : (V == 0) = true := by simpa using v0
        clear v0
        by_cases hc : cp = true ∨ done = K.n / K.ext
        · go_wp2_with fail
          obtain ⟨Fd, hmv⟩ := HH2.out.mov
          refine (rcopy_no w2 Fd Fm K.g K.s0 K.s1 m K.n S K.ext done cp hmv he1 (by omega) hc).mono ?_
          rintro e w3 ⟨rfl, hb3⟩
          go_wp2_with fail
          refine bodyPost_end (v := .tuple #[]) (by simp [results, Try.f88, go_sem]) rfl ?_
          exact ⟨rfl, Fm, F, S, done, cp, a + 1, HH2.out.keep hb3, HT2.out.trans (Turn.of_below hb3), HR.out, HQ.out, by omega, by omega, by omega⟩
        · obtain rfl : cp = false := by cases cp; rfl; exact absurd (.inl rfl) hc
          have hdl : done < K.n / K.ext := by
            have := HR.out.le
            omega
          have hcm := copy_mr HR.out hdl he1
          have HCM := Lib.hid hcm
          clear hcm hc
          go_wp2_with fail
          obtain ⟨Fd, hmv⟩ := HH2.out.mov
          refine (rcopy_any w2 Fd Fm K.g K.s0 K.s1 m K.n S K.ext done hmv he1 (by omega) hdl (by omega) (by omega)).mono ?_
          rintro e w3 ⟨rfl, Fm3, hm3, ht3⟩
          obtain ⟨c1, c2, c3, c4, c5⟩ := HCM.out
          have HF : Hid (MoveP K w F m S t k (.returned (.tuple #[])) w3) := ⟨rfl, Fm3, FU F Fm3, cpS S K.n K.ext done, done, _, a + 1, HH2.out.turn HG.out hm3 ht3, HT2.out.trans (HH2.out.v.wide ht3), c1, fun hk => (c3 (HQ.out hk)).1, by omega, by omega, by omega⟩
          clear c1 c2 c3 c4 c5 hm3 ht3 hmv
          go_wp2_with fail
          refine bodyPost_end (v := .tuple #[]) (by simp [results, Try.f88, go_sem]) rfl ?_
          exact HF.out
      · have v1 : (V == 0) = false := by simpa using v0
        clear v0
        by_cases v2 : V = 1
        · have v3 : (V == 1) = true := by simpa using v2
          clear v2
          obtain ⟨Fd, hmv⟩ := HH2.out.mov
          have HMV := Lib.hid hmv
          clear hmv
          cases cp
          · go_wp2_with fail
            refine (rcopied_any w2 Fd Fm K.g K.s0 K.s1 m K.n S K.ext done false HMV.out).mono ?_
            rintro e w3 ⟨rfl, rfl⟩
            go_wp2_with fail
            refine bodyPost_end (v := .tuple #[]) (by simp [results, Try.f88, go_sem]) rfl ?_
            exact H0.out
          · have hdd := HR.out.cpd rfl
            have hdl : done ≤ 60000 := by have := Nat.div_le_self K.n K.ext; omega
            have HQ2 : Hid (k = true → S.down = false) := fun hk => (HQ.out hk).pw.2
            go_wp2_with fail
            refine (rcopied_any w2 Fd Fm K.g K.s0 K.s1 m K.n S K.ext done true HMV.out).mono ?_
            rintro e w3 ⟨rfl, rfl⟩
            go_wp2_with fail
            refine (down_any w2 Fd K.g S HMV.out.dsk).mono ?_
            rintro e w3 ⟨rfl, rfl⟩
            rcases hdn : S.down with _ | _
            · clear hdn
              have e4 : IntKind.i64.wrap ((done : Int) + 1) = (done : Int) + 1 := IntWalk.i64_in _ (by omega)
              have HH3 : Hid (DO K (w2.setCell ⟨K.dp, 3, none⟩ (.int .i64 ((done : Int) + 1))) Fm F m S (done + 1) done true (a + 1)) := HH2.out.set HG.out 3 _ rfl
              have HT3 := Lib.hid (HT2.out.trans (HH2.out.v.setTurn 3 (.int .i64 ((done : Int) + 1))))
              go_upto_region 9 with (fail)
              clear HH2 HMV x0 x1 x2 x3 x4 x5 x6 xf f3 HT2 H0
              generalize w2.setCell _ _ = w3 at *
              obtain ⟨x0, x1, x2, x3, x4, x5, x6, xf⟩ := HH3.out.v.cells
              go_wp2_with fail
              obtain ⟨Fd, hmv⟩ := HH3.out.mov
              refine (radv_any w3 Fd Fm K.g K.s0 K.s1 m K.n S K.ext done true hmv (by omega)).mono ?_
              rintro e w4 ⟨-, he⟩
              obtain ⟨rfl, hm4, hf4⟩ := he rfl
              have ht4 : Turn Fm Fm w3 w4 := ⟨hf4, fun j hj => .inl hj⟩
              have HF : Hid (MoveP K w F m S t k (.returned (.tuple #[])) w4) := ⟨rfl, Fm, FU F Fm, S, done + 1, false, a + 1, HH3.out.turn HG.out ⟨Fd, hm4⟩ ht4, HT3.out.trans (HH3.out.v.wide ht4), HR.out.next, fun hk => (HQ.out hk).next, by omega, by omega, by omega⟩
              clear he hm4 hf4 ht4 hmv
              go_wp2_with fail
              refine bodyPost_end (v := .tuple #[]) (by simp [results, Try.f88, go_sem]) rfl ?_
              exact HF.out
            · clear hdn
              go_wp2_with fail
              refine bodyPost_end (v := .tuple #[]) (by simp [results, Try.f88, go_sem]) rfl ?_
              exact H0.out
        · have v3 : (V == 1) = false := by simpa using v2
          clear v2
          go_wp2_with fail
          refine bodyPost_end (v := .tuple #[]) (by simp [results, Try.f88, go_sem]) rfl ?_
          exact H0.out

end Go.Proofs.Ytpcjdmbnlhjlaaa
