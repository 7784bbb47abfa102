/-
  Merged texts (RvD TrkP TrkA TrkB TrkC KZ VpK VpL VpM VpN TrkEV TrkFV TrkD TrkGV VpO VolN VolO): what the row proofs use of them.
-/
import Derived.Test.YtogchafnnkajfaaGreatSb5
import Derived.Deep.DeepCutAuto
import Derived.BigRegion
import Derived.BigQuiet
import Derived.Deep.QuietTactic
import Derived.Deep.RegionHeldLaw
import Derived.Deep.CutBlock
import Derived.Deep.RegionHeld3
import Derived.Maps.OwnSet
namespace Go.Proofs.YtogchafnnkajfaaGreat
set_option linter.unusedVariables false
open Go.RowKit
attribute [local go_sem] Oper.semAt_some

def rvK (r bo co bf cf bm cm n0 n1 n2 : Nat) (meta_ : List Nat) (mode : Int) : RC := ⟨r, bo, co, bf, cf, bm, cm, n0, n1, n2, opC meta_, mode⟩
def rv0 (o f m : List Nat) : RV := ⟨o, f, m, ⟨slotsU m (opK m), 0, []⟩⟩
/-- What Open answers. -/
def ROpP (W : World) (bo co bf cf bm cm n0 n1 n2 : Nat) (o f m : List Nat) (mode : Int) (e : Ending) (W' : World) : Prop :=
  (opnE m n0 n1 mode ≠ 0 ∧ e = .returned (.tuple #[.pointer none, .int .i64 (opnE m n0 n1 mode)]) ∧ Below W.heap.size W W') ∨
  (opnE m n0 n1 mode = 0 ∧ ∃ r F', e = .returned (.tuple #[.pointer (some ⟨r, 0, none⟩), .int .i64 0]) ∧ W.heap.size ≤ r ∧ RvAt W' F' (rvK r bo co bf cf bm cm n0 n1 n2 m mode) false ((rv0 o f m).bgn (opC m) (opM m) (opO m) mode) ∧ Turn (fun j => j = bo ∨ j = bf ∨ j = bm) F' W W')

theorem RvIn.setS {W : World} {F : Nat → Prop} {K : RC} {clo : Bool} {R : RV} {A B : Option Addr} {c d k : Nat} (h : RvIn W F K clo R A c B d) (hlt : ∀ j, F j → j < k) (hms : R.x.ms = []) {sl' : List Sl} {A' : Option Addr} {n' c' : Nat} (hn : sl'.length = n')
    (hS : W.ownsRow k 31 4 (.slice A' n' c') n' (scs sl')) :
    RvIn (W.setCell ⟨K.r, 3, none⟩ (.slice A' n' c')) (fun j => F j ∨ k ≤ j) K clo { R with x := { R.x with sl := sl' } } A' c' B d := by
  subst hn
  have hf := fr_set W K.r 3 (.slice A' sl'.length c')
  have hrk := hlt _ h.inF.1
  obtain ⟨e1, e2, e3, e4⟩ := h.rne
  exact ⟨Cs.put (l := [_, _, _, _, _, _, _, _, _]) h.vol _, own_fr h.ro hf (fun b hb e => by simp [Value.ownBlock] at hb; exact e1 (hb.trans e)), own_fr h.rf hf (fun b hb e => by simp [Value.ownBlock] at hb; exact e2 (hb.trans e)), own_fr h.rm hf (fun b hb e => by simp [Value.ownBlock] at hb; exact e3 (hb.trans e)), h.lo, h.lf, h.lm,
    own_lower (own_fr hS hf (fun b hb e => by have := (hS.lt b hb).1; omega)) (Nat.zero_le _), h.mis.fr hf (fun h0 p hp => absurd hms (ms_ne h0)), fun p hp hm => absurd hms hm, fun b hb => .inr (hS.lt b hb).1, h.ne, .inl h.inF.1, .inl h.inF.2.1, .inl h.inF.2.2.1, .inl h.inF.2.2.2⟩
theorem RvIn.setSl {W : World} {F : Nat → Prop} {K : RC} {clo : Bool} {R : RV} {B : Option Addr} {a c d : Nat} (h : RvIn W F K clo R (some ⟨a, 0, none⟩) c B d) (k : Nat) (s : Sl) (hk : k < R.x.sl.length) :
    RvIn (put4 W a k s) F K clo { R with x := ⟨R.x.sl.set k s, R.x.clk, R.x.ms⟩ } (some ⟨a, 0, none⟩) c B d := by
  have hf := fr_put4 W a k s
  obtain ⟨e1, e2, e3, e4⟩ := h.rne
  obtain ⟨o1, o2, o3, o4⟩ := e4 a rfl
  have hl : (R.x.sl.set k s).length = R.x.sl.length := List.length_set
  have hrow := ((((h.row.stored (k * 4) (.bool s.valid)).1.stored (k * 4 + 1) (.bool s.dirty)).1.stored (k * 4 + 2) (.int .i64 s.block)).1.stored (k * 4 + 3) (.int .i64 s.stamp)).1
  rw [← scs_set R.x.sl k s hk] at hrow
  refine ⟨?_, own_fr h.ro hf (fun b hb e => by simp [Value.ownBlock] at hb; exact o2 (e.symm.trans hb.symm)), own_fr h.rf hf (fun b hb e => by simp [Value.ownBlock] at hb; exact o3 (e.symm.trans hb.symm)), own_fr h.rm hf (fun b hb e => by simp [Value.ownBlock] at hb; exact o4 (e.symm.trans hb.symm)), h.lo, h.lf, h.lm, ?_, h.mis.fr hf (fun h0 p hp e => (h.misO p hp (ms_ne h0)).2.2.2.2.2.1 a rfl e), ?_, ?_, h.ne, h.inF⟩
  · dsimp only
    rw [hl]
    exact h.vol.fr hf (fun e => o1 e.symm)
  · dsimp only
    rw [hl]
    exact hrow
  · intro p hp hm
    have := h.misO p hp hm
    exact ⟨this.1, this.2.1, this.2.2.1, this.2.2.2.1, this.2.2.2.2.1, fun g hg => this.2.2.2.2.2.1 g (by simpa [Value.ownBlock] using hg), Nat.lt_of_lt_of_le this.2.2.2.2.2.2 hf.size⟩
  · intro b hb
    exact h.rowO b (by simpa [Value.ownBlock] using hb)
/-- What the loops of Open keep. -/
structure RoI (W : World) (z : Nat) (K : RC) (hc a ca kk : Nat) (L : List Sl) (md : Int) (op : Bool) (R : RV) (wx : World) : Prop where
  rv : ∃ Fx, RvAt wx Fx K false R ∧ Turn (fun j => j = K.bo ∨ j = K.bf ∨ j = K.bm) Fx W wx ∧ ∀ j, Fx j → j = K.bo ∨ j = K.bf ∨ j = K.bm ∨ j = K.r ∨ z ≤ j
  cell : Cs wx hc 145 #[.slice (some ⟨a, 0, none⟩) kk ca, .int .i64 (K.chunk : Int), .int .i64 md, .bool (!op)]
  sl : wx.ownsRow 0 31 4 (.slice (some ⟨a, 0, none⟩) kk ca) kk (scs L)
  ok : R.x.Ok
  len : R.x.sl.length = kk
  n1 : hc ≠ K.bo ∧ hc ≠ K.bf ∧ hc ≠ K.bm ∧ hc ≠ K.r ∧ hc < z
  n2 : a ≠ K.bo ∧ a ≠ K.bf ∧ a ≠ K.bm ∧ a ≠ K.r ∧ a < z
  z : z ≤ wx.heap.size
theorem RoI.go {W wx : World} {z hc a ca kk : Nat} {K : RC} {L : List Sl} {md : Int} {op : Bool} {R : RV} (h : RoI W z K hc a ca kk L md op R wx) :
    ∃ Fx, RvAt wx Fx K false R ∧ ∀ (w' : World) (R' : RV), RvP wx Fx K false R' w' → R'.x.Ok → R'.x.sl.length = kk → RoI W z K hc a ca kk L md op R' w' := by
  obtain ⟨Fx, h1, h2, h3⟩ := h.rv
  refine ⟨Fx, h1, fun w' R' hp ho hl => ?_⟩
  obtain ⟨F', q1, q2⟩ := hp
  have nf : ∀ b, b ≠ K.bo ∧ b ≠ K.bf ∧ b ≠ K.bm ∧ b ≠ K.r ∧ b < z → ¬ Fx b := fun b hb e => by
    have := h3 b e
    omega
  refine ⟨⟨F', q1, h2.trans q2, fun j hj => ?_⟩, Cs.fr h.cell q2.1 (nf _ h.n1), own_fr h.sl q2.1 (fun b hb => by simp [Value.ownBlock] at hb; rw [← hb]; exact nf _ h.n2), ho, hl, h.n1, h.n2, Nat.le_trans h.z q2.1.size⟩
  rcases q2.2 j hj with e | e
  · exact h3 j e
  · have := h.z; omega
theorem bg1_same (md : Int) (R : RV) (k : Nat) : (R.bg1 md k).x.sl.length = R.x.sl.length ∧ (∀ j, k ≤ j → (R.bg1 md k).x.sl[j]? = R.x.sl[j]?) ∧ (R.x.Ok → (R.bg1 md k).x.Ok) ∧ (R.bg1 md k).x.clk = R.x.clk ∧ (R.bg1 md k).x.ms = R.x.ms := by
  induction k with
  | zero => exact ⟨rfl, fun _ _ => rfl, fun h => h, rfl, rfl⟩
  | succ k ih =>
    rw [RV.bg1]
    split
    · refine ⟨by show (List.set _ _ _).length = _; rw [List.length_set]; exact ih.1, fun j hj => ?_, fun h => (ih.2.2.1 h).clear k, ih.2.2.2⟩
      show (List.set _ _ _)[j]? = _
      rw [List.getElem?_set_ne (by omega)]
      exact ih.2.1 j (by omega)
    · exact ⟨ih.1, fun j hj => ih.2.1 j (by omega), ih.2.2⟩
theorem bg1_from (md : Int) (R : RV) (k j : Nat) (x : Sl) (hx : (R.bg1 md k).x.sl[j]? = some x) (hv : x.valid = true) : R.x.sl[j]? = some x := by
  induction k with
  | zero => exact hx
  | succ k ih =>
    rw [RV.bg1] at hx
    split at hx
    · change (List.set _ _ _)[j]? = _ at hx
      rw [List.getElem?_set] at hx
      split at hx
      · split at hx
        · injection hx with hx
          rw [← hx] at hv
          cases hv
        · cases hx
      · exact ih hx
    · exact ih hx
theorem CS.Ok.dv {s : CS} (h : s.Ok) {k : Nat} {x : Sl} (hx : s.sl[k]? = some x) (hd : x.dirty = true) : x.valid = true := by
  cases hv : x.valid
  · have := h.nl x (List.mem_of_getElem? hx) hv
    rw [this] at hd
    cases hd
  · rfl
theorem bg3_same (c : Nat) (R : RV) (k : Nat) (hok : R.x.Ok) (hk : k ≤ R.x.sl.length) : (R.bg3 c k).x.sl.length = R.x.sl.length ∧ (∀ j, k ≤ j → (R.bg3 c k).x.sl[j]? = R.x.sl[j]?) ∧ (R.bg3 c k).x.Ok := by
  induction k with
  | zero => exact ⟨rfl, fun _ _ => rfl, hok⟩
  | succ k ih =>
    obtain ⟨i1, i2, i3⟩ := ih (by omega)
    rw [RV.bg3]
    split
    · rename_i hd
      obtain ⟨x, hx⟩ : ∃ x, (R.bg3 c k).x.sl[k]? = some x := ⟨_, List.getElem?_eq_getElem (by omega)⟩
      rw [CS.at_eq hx] at hd
      refine ⟨by show (List.set _ _ _).length = _; rw [List.length_set]; exact i1, fun j hj => ?_, i3.setD k x hx (i3.dv hx hd) false⟩
      show (List.set _ _ _)[j]? = _
      rw [List.getElem?_set_ne (by omega)]
      exact i2 j (by omega)
    · exact ⟨i1, fun j hj => i2 j (by omega), i3⟩
theorem badS_false {ss : List Sl} {q : Nat} (h : ∀ (k : Nat) (x : Sl), ss[k]? = some x → x.valid = true → x.block < (q : Int)) : badS ss q = false := by
  unfold badS
  rw [List.any_eq_false]
  intro x hx
  obtain ⟨k, hk⟩ := List.mem_iff_getElem?.1 hx
  cases hv : x.valid
  · simp
  · have := h k x hk hv
    simp
    omega

set_option maxRecDepth 100000 in
set_option maxHeartbeats 8000000 in
theorem rvopen_any (W : World) (bo co bf cf bm cm n0 n1 n2 : Nat) (o f m : List Nat) (mode : Int)
    (ro : W.ownsRow 0 26 1 (.slice (some ⟨bo, 0, none⟩) n0 co) n0 (uv o)) (rf : W.ownsRow 0 26 1 (.slice (some ⟨bf, 0, none⟩) n1 cf) n1 (uv f)) (rm : W.ownsRow 0 26 1 (.slice (some ⟨bm, 0, none⟩) n2 cm) n2 (uv m))
    (lo : o.length = n0) (lf : f.length = n1) (lm : m.length = n2) (hw : W64 m) (hn0 : n0 ≤ 65536) (hn1 : n1 ≤ 65536) (hn2 : 1 ≤ n2 ∧ n2 ≤ 65536) (hne : bo ≠ bf ∧ bo ≠ bm ∧ bf ≠ bm) :
    Calls Tryz.prog 44 #[.slice (some ⟨bo, 0, none⟩) n0 co, .slice (some ⟨bf, 0, none⟩) n1 cf, .slice (some ⟨bm, 0, none⟩) n2 cm, .int .i64 mode] W (ROpP W bo co bf cf bm cm n0 n1 n2 o f m mode) := by
  have HRO := Lib.hid ro
  have HRF := Lib.hid rf
  have HRM := Lib.hid rm
  have HLO := Lib.hid lo
  have HLF := Lib.hid lf
  have HLM := Lib.hid lm
  have HW := Lib.hid hw
  have HOP := Lib.hid (ropen_any W (some ⟨bm, 0, none⟩) cm n2 m (Reads.of_own rm) lm hn2.1 hn2.2 hw)
  by_cases hmo : mode ≠ 1 ∧ mode ≠ 2
  · have t1 : ¬ mode = 1 := hmo.1
    have t2 : ¬ mode = 2 := hmo.2
    have b1 : (mode != 1) = true := by simpa using hmo.1
    have b2 : (mode != 2) = true := by simpa using hmo.2
    have he : opnE m n0 n1 mode = 1 := by unfold opnE; rw [if_pos hmo]
    clear ro rf rm lo lf lm hw hmo
    go_enter Tryz.func44, Tryz.ntmps44
    go_wp2_with fail
    go_ret2
    exact .inl ⟨by rw [he]; decide, by rw [he]; rfl, Below.refl _ W⟩
  · have hm12 : mode = 1 ∨ mode = 2 := by omega
    have HE : Hid (opnE m n0 n1 mode = if openE m ≠ 0 then openE m else if n1 < opK m * opC m then 3 else if badS (slotsU m (opK m)) (n0 / opC m) = true then 24 else 0) := by show _ = _; unfold opnE; rw [if_neg hmo]
    obtain ⟨bb, hbb⟩ : ∃ bb, (mode != 1) = bb := ⟨_, rfl⟩
    have b2 : bb = true → (mode != 2) = false := by
      intro e
      rcases hm12 with rfl | rfl
      · rw [← hbb] at e; exact absurd e (by decide)
      · rfl
    have HM12 := Lib.hid hm12
    clear ro rf rm lo lf lm hw hmo hm12
    go_enter Tryz.func44, Tryz.ntmps44
    go_upto_region 1 with (fail)
    go_cut [21] (fun s wx => s = .bool false ∧ wx = W)
    case first =>
      cases bb
      · go_wp2_with fail
        go_meet
        case rel => exact ⟨rfl, rfl⟩
      · have b3 := b2 rfl
        go_wp2_with fail
        go_meet
        case rel => exact ⟨rfl, rfl⟩
    case rest =>
      clear hbb b2
      obtain ⟨rfl, rfl⟩ := hcut
      go_wp2_with fail
      refine HOP.out.mono ?_
      rintro e w1 ⟨hb1, ⟨hE0, rfl⟩ | ⟨hE0, v, rfl, hS⟩⟩
      · have t1 : ¬ openE m = 0 := hE0
        have he : opnE m n0 n1 mode = openE m := by rw [HE.out, if_pos hE0]
        go_wp2_with fail
        go_ret2
        exact .inl ⟨by rw [he]; exact hE0, by rw [he]; rfl, hb1.alloc hb1.size _⟩
      · obtain ⟨hOK, hk1, hc1, hc64, -⟩ := open_cs m hE0
        obtain ⟨op, hop⟩ : ∃ op, opO m = op := ⟨_, rfl⟩
        have hcl : decide ((m[0]?.getD 0) / 1048576 % 2 = 0) = !op := by
          rw [← hop]
          unfold opO
          have : (m[0]?.getD 0) / 1048576 % 2 < 2 := Nat.mod_lt _ (by decide)
          by_cases e : (m[0]?.getD 0) / 1048576 % 2 = 0
          · rw [e]; rfl
          · rw [show (m[0]?.getD 0) / 1048576 % 2 = 1 by omega]; rfl
        rw [hcl]
        obtain ⟨md, hmd⟩ : ∃ md, opM m = md := ⟨_, rfl⟩
        rw [show (((m[0]?.getD 0) / 262144 % 4 : Nat) : Int) = md from hmd]
        obtain ⟨cc, hcc⟩ : ∃ cc, opC m = cc := ⟨_, rfl⟩
        rw [show (m[0]?.getD 0) / 2048 % 128 = cc from hcc]
        obtain ⟨kk, hkk⟩ : ∃ kk, opK m = kk := ⟨_, rfl⟩
        rw [show (m[0]?.getD 0) % 2048 = kk from hkk] at hS
        obtain ⟨L, hL⟩ : ∃ L, slotsU m kk = L := ⟨_, rfl⟩
        have hLl : L.length = kk := by rw [← hL]; exact slotsU_length _ _
        rw [hkk, hL] at hOK
        rw [hL] at hS
        rw [hkk] at hk1
        rw [hcc] at hc1 hc64
        have HE2 : Hid (opnE m n0 n1 mode = if n1 < kk * cc then 3 else if badS L (n0 / cc) = true then 24 else 0) := by show _ = _; rw [HE.out, if_neg (fun e => e hE0), hkk, hL, hcc]
        have hkl := hOK.len
        change 1 ≤ L.length ∧ L.length ≤ 1024 at hkl
        rw [hLl] at hkl
        obtain ⟨a, ca, rfl, hab, hal⟩ := hS.form (by omega)
        have HS := Lib.hid hS
        have HOK := Lib.hid hOK
        have HLL := Lib.hid hLl
        have HLe := Lib.hid hL
        have HKM : Hid (opK m = kk ∧ opC m = cc ∧ opM m = md ∧ opO m = op) := ⟨hkk, hcc, hmd, hop⟩
        obtain ⟨z, hz⟩ : ∃ z, kk * cc = z := ⟨_, rfl⟩
        have hzl : z ≤ 1024 * 64 := by rw [← hz]; exact Nat.mul_le_mul hkl.2 hc64
        have e1 : IntKind.i64.wrap ((kk : Int) * (cc : Int)) = (z : Int) := by rw [← Int.natCast_mul, hz, IntWalk.i64_in _ (by omega)]
        rw [hz] at HE2
        have HZ := Lib.hid hz
        clear hS hOK hL hkk hcc hmd hop hcl hE0 hz hLl HE HOP
        by_cases hsz : n1 < z
        · have t1 : (n1 : Int) < (z : Int) := by omega
          have he : opnE m n0 n1 mode = 3 := by rw [HE2.out, if_pos hsz]
          go_wp2_with fail
          go_ret2
          exact .inl ⟨by rw [he]; decide, by rw [he]; rfl, hb1.alloc hb1.size _⟩
        · have t1 : ¬ (n1 : Int) < (z : Int) := by omega
          have HE3 : Hid (opnE m n0 n1 mode = if badS L (n0 / cc) = true then 24 else 0) := by show _ = _; rw [HE2.out, if_neg hsz]
          clear HE2
          go_wp2_with fail
          have hC := Cs.new w1 145 #[.slice (some ⟨a, 0, none⟩) kk ca, .int .i64 (cc : Int), .int .i64 md, .bool (!op)]
          have hba := hb1.alloc hb1.size (.cells #[.slice (some ⟨a, 0, none⟩) kk ca, .int .i64 (cc : Int), .int .i64 md, .bool (!op)] 145)
          have hba1 : Below w1.heap.size w1 (w1.alloc (.cells #[.slice (some ⟨a, 0, none⟩) kk ca, .int .i64 (cc : Int), .int .i64 md, .bool (!op)] 145)) := (Below.refl _ w1).alloc (Nat.le_refl _) _
          have hsz2 : (w1.alloc (.cells #[.slice (some ⟨a, 0, none⟩) kk ca, .int .i64 (cc : Int), .int .i64 md, .bool (!op)] 145)).heap.size = w1.heap.size + 1 := by simp
          generalize (w1.alloc (.cells #[.slice (some ⟨a, 0, none⟩) kk ca, .int .i64 (cc : Int), .int .i64 md, .bool (!op)] 145)) = w2 at *
          have hV := Cs.new w2 88 #[.slice (some ⟨bo, 0, none⟩) n0 co, .slice (some ⟨bf, 0, none⟩) n1 cf, .slice (some ⟨bm, 0, none⟩) n2 cm, .slice none 0 0, .int .i64 0, .slice none 0 0, .int .i64 (cc : Int), .int .i64 mode, .bool false]
          have hbb2 : Below w2.heap.size w2 (w2.alloc (.cells #[.slice (some ⟨bo, 0, none⟩) n0 co, .slice (some ⟨bf, 0, none⟩) n1 cf, .slice (some ⟨bm, 0, none⟩) n2 cm, .slice none 0 0, .int .i64 0, .slice none 0 0, .int .i64 (cc : Int), .int .i64 mode, .bool false] 88)) := (Below.refl _ w2).alloc (Nat.le_refl _) _
          have hC3 := Cs.below hC hbb2 (by omega)
          rw [hsz2] at hV
          generalize (w2.alloc (.cells #[.slice (some ⟨bo, 0, none⟩) n0 co, .slice (some ⟨bf, 0, none⟩) n1 cf, .slice (some ⟨bm, 0, none⟩) n2 cm, .slice none 0 0, .int .i64 0, .slice none 0 0, .int .i64 (cc : Int), .int .i64 mode, .bool false] 88)) = V at *
          have hbV := hba.trans (hbb2.mono hba.size)
          have hb1s := hb1.size
          have hbs3 := hbb2.size
          have HIN : Hid (RvIn V (fun j => j = bo ∨ j = bf ∨ j = bm ∨ j = w1.heap.size + 1) ⟨w1.heap.size + 1, bo, co, bf, cf, bm, cm, n0, n1, n2, cc, mode⟩ false ⟨o, f, m, ⟨[], 0, []⟩⟩ none 0 none 0) :=
            ⟨hV, own_keepB HRO.out hbV, own_keepB HRF.out hbV, own_keepB HRM.out hbV, HLO.out, HLF.out, HLM.out, World.ownsRow_nil _ _ _ _, (fun e => absurd rfl e), (fun p hp => by cases hp), (fun b hb => by cases hb), hne, ⟨.inr (.inr (.inr rfl)), .inl rfl, .inr (.inl rfl), .inr (.inr (.inl rfl))⟩⟩
          have HSV := Lib.hid (own_keepB (own_keepB HS.out hba1) (hbb2.mono (by omega)))
          have HCV := Lib.hid hC3
          have HBV := Lib.hid hbV
          have HSZ : Hid (w1.heap.size + 2 ≤ V.heap.size ∧ wc.heap.size ≤ w1.heap.size ∧ a < w1.heap.size ∧ wc.heap.size ≤ a) := by have := Cs.lt hV; exact ⟨by omega, by omega, hal, hab⟩
          clear hV hbb2 hC3 hC hba hba1 hsz2 hbV hb1s hbs3 HS hb1 hal hab
          go_loopw [13] (fun s13 wx => ∃ i : Nat, s13 = .int .i64 i ∧ i ≤ kk ∧ (∀ (j : Nat) (x : Sl), j < i → L[j]? = some x → x.valid = true → x.block < ((n0 / cc : Nat) : Int)) ∧ Below V.heap.size V wx) (fun s13 _ => kk - (intOf s13).toNat)
          case atStart => exact ⟨0, rfl, Nat.zero_le _, fun j x hj => absurd hj (Nat.not_lt_zero _), Below.refl _ _⟩
          case round =>
            rename World => wx
            obtain ⟨i, rfl, hik, hgood, hbx⟩ := hrel
            have HG := Lib.hid hgood
            have h0 := HIN.out.keep hbx
            have hCx := Cs.below HCV.out hbx (by have := HSZ.out; omega)
            have q0 := hCx.cell 0
            have q1 := hCx.cell 1
            have q2 := hCx.cell 2
            have q3 := hCx.cell 3
            have H0 := Lib.hid h0
            have HSX := Lib.hid (own_keepB HSV.out hbx)
            have HBX := Lib.hid hbx
            clear hgood h0 hCx hbx
            by_cases hlt : i < kk
            · have t1 : (i : Int) < (kk : Int) := by omega
              obtain ⟨x, hx⟩ : ∃ x, L[i]? = some x := ⟨_, List.getElem?_eq_getElem (by rw [HLL.out]; exact hlt)⟩
              obtain ⟨b', o', e', -, hcc'⟩ := scs_read (Reads.of_own HSX.out) (by rw [HLL.out]; omega)
              injection e' with e'
              injection e' with e1' e2'
              subst e1'
              subst e2'
              obtain ⟨y0, y1, y2, y3⟩ := hcc' i x hx
              rw [Nat.zero_add] at y0 y1 y2 y3
              clear hcc'
              have HX := Lib.hid hx
              clear hx
              cases hv : x.valid
              · rw [hv] at y0
                go_wp2_with fail
                go_roundw
                case rel =>
                  refine ⟨i + 1, by go_num, by omega, fun j y hj hy hyv => ?_, HBX.out⟩
                  by_cases e : j = i
                  · subst e
                    rw [HX.out] at hy
                    injection hy with hy
                    rw [← hy, hv] at hyv
                    cases hyv
                  · exact HG.out j y (by omega) hy hyv
                case measure => simp [intOf]; omega
              · rw [hv] at y0
                obtain ⟨⟨hb0, hb1⟩, -⟩ := HOK.out.blk x (List.mem_of_getElem? HX.out) hv
                obtain ⟨b, hb⟩ : ∃ b : Nat, x.block = (b : Int) := ⟨x.block.toNat, by omega⟩
                rw [hb] at y2 hb1
                go_wp2_with fail
                refine (rwhole_any wx _ ⟨w1.heap.size + 1, bo, co, bf, cf, bm, cm, n0, n1, n2, cc, mode⟩ false _ b ⟨_, _, _, _, H0.out⟩ (by omega) (by show cc ≤ 127; omega)).mono ?_
                rintro e w2 ⟨rfl, hb2⟩
                have hbw := HBX.out.trans (hb2.mono HBX.out.size)
                by_cases hwh : (b + 1) * cc ≤ n0
                · have d1 : decide ((b + 1) * cc ≤ n0) = true := decide_eq_true hwh
                  have hlb : b + 1 ≤ n0 / cc := (Nat.le_div_iff_mul_le (by omega)).2 hwh
                  go_wp2_with fail
                  go_roundw
                  case rel =>
                    refine ⟨i + 1, by go_num, by omega, fun j y hj hy hyv => ?_, hbw⟩
                    by_cases e : j = i
                    · subst e
                      rw [HX.out] at hy
                      injection hy with hy
                      rw [← hy, hb]
                      omega
                    · exact HG.out j y (by omega) hy hyv
                  case measure => simp [intOf]; omega
                · have d1 : decide ((b + 1) * cc ≤ n0) = false := decide_eq_false hwh
                  have hlb : ¬ b + 1 ≤ n0 / cc := fun e => hwh ((Nat.le_div_iff_mul_le (by omega)).1 e)
                  have he : opnE m n0 n1 mode = 24 := by rw [HE3.out, if_pos (badS_yes HX.out hv (by rw [hb]; omega))]
                  go_wp2_with fail
                  go_ret2
                  exact .inl ⟨by rw [he]; decide, by rw [he]; rfl, HBV.out.trans (hbw.mono HBV.out.size)⟩
            · have hik2 : i = kk := by omega
              subst hik2
              obtain ⟨is, his, hz0, hz1, hz2⟩ := info_parts slot_info'
              go_wp2_with (at_builtin; refine wpList_append_reads _ (by rfl) (.const (.slice none 0 0)) (.tmp 73) _ (by rfl) wx.heap.size 31 is _ 4 24 Tryz.underlying56 his hz0 hz1 hz2 (by rfl) (by omega) (.slice none 0 0) 0 [] (by rfl) (World.ownsRow_nil _ _ _ _) (some ⟨a, 0, none⟩) i ca (scs L) (by rfl) (by rw [scs_length, HLL.out]) (Reads.of_own HSX.out) (scs_one L) (by simp only [maxLen]; omega) (by omega) (Nat.le_refl _) ?_; intro v5 w5 hown5 hg5 hat5; obtain ⟨A5, c5, hv5⟩ := own_form hown5; subst hv5; have hb5 := (Below.refl wx.heap.size wx).grown hg5 (Nat.le_refl _) (fun j e => by simp [Value.ownBlock] at e); have h5 := Lib.hid (H0.out.keep hb5); have z3 := h5.out.vol.cell 3; have f3 := h5.out.vol.free 3; have hCw := Lib.hid (Cs.below HCV.out (HBX.out.trans (hb5.mono HBX.out.size)) (by have := HSZ.out; omega)); have q0 := hCw.out.cell 0; have q1 := hCw.out.cell 1; have q2 := hCw.out.cell 2; have q3 := hCw.out.cell 3)
              have hwn := Below.size HBX.out
              have hbo := own_lt HRO.out bo rfl
              have hbf := own_lt HRF.out bf rfl
              have hbm := own_lt HRM.out bm rfl
              have hsz := HSZ.out
              have hE0 : opnE m n0 n1 mode = 0 := by
                rw [HE3.out, if_neg]
                rw [badS_false (fun k x hx hv => HG.out k x (by have := (List.getElem?_eq_some_iff.1 hx).1; rw [HLL.out] at this; exact this) hx hv)]
                decide
              have hgood : ∀ (k : Nat) (x : Sl), L[k]? = some x → x.valid = true → (x.block.toNat + 1) * cc ≤ n0 := by
                intro k x hx hv
                have h1 := HG.out k x (by have := (List.getElem?_eq_some_iff.1 hx).1; rw [HLL.out] at this; exact this) hx hv
                have h2 := (HOK.out.blk x (List.mem_of_getElem? hx) hv).1
                exact (Nat.le_div_iff_mul_le (by omega)).1 (by omega)
              rw [Nat.zero_add, List.nil_append] at hown5
              have hrv : RvIn (w5.setCell ⟨w1.heap.size + 1, 3, none⟩ (.slice A5 i c5)) _ ⟨w1.heap.size + 1, bo, co, bf, cf, bm, cm, n0, n1, n2, cc, mode⟩ false ⟨o, f, m, ⟨L, 0, []⟩⟩ _ _ _ _ := (H0.out.tight.keep hb5).setS (k := wx.heap.size) (fun j hj => hj.2) rfl HLL.out hown5
              have hbw : Below wc.heap.size wc w5 := HBV.out.trans ((HBX.out.trans (hb5.mono HBX.out.size)).mono HBV.out.size)
              have hsw : V.heap.size ≤ w5.heap.size := (HBX.out.trans (hb5.mono HBX.out.size)).size
              have hRI : RoI wc V.heap.size ⟨w1.heap.size + 1, bo, co, bf, cf, bm, cm, n0, n1, n2, cc, mode⟩ w1.heap.size a ca i L md op ((rv0 o f m).bg1 md 0) (w5.setCell ⟨w1.heap.size + 1, 3, none⟩ (.slice A5 i c5)) := by
                have hr0 : (rv0 o f m).bg1 md 0 = ⟨o, f, m, ⟨L, 0, []⟩⟩ := by
                  show rv0 o f m = _
                  unfold rv0
                  rw [HKM.out.1, HLe.out]
                rw [hr0]
                refine ⟨⟨_, ⟨_, _, _, _, hrv⟩, ⟨(Fr.of_below hbw).set (.inr (by show wc.heap.size ≤ w1.heap.size + 1; omega)) _, fun j hj => ?_⟩, fun j hj => ?_⟩, Cs.fr hCw.out (fr_set _ _ _ _) (by show w1.heap.size ≠ w1.heap.size + 1; omega), own_fr (own_lower (own_keepB HSX.out hb5) (Nat.zero_le _)) (fr_set _ _ _ _) (fun b hb e => by simp [Value.ownBlock] at hb; change b = w1.heap.size + 1 at e; omega), HOK.out, HLL.out, ?_, ?_, by simpa using hsw⟩
                · rcases hj with ⟨hj | hj | hj | hj, -⟩ | hj
                  · exact .inl (.inl hj)
                  · exact .inl (.inr (.inl hj))
                  · exact .inl (.inr (.inr hj))
                  · exact .inr (by omega)
                  · exact .inr (by omega)
                · rcases hj with ⟨hj, -⟩ | hj
                  · rcases hj with hj | hj | hj | hj
                    · exact .inl hj
                    · exact .inr (.inl hj)
                    · exact .inr (.inr (.inl hj))
                    · exact .inr (.inr (.inr (.inl hj)))
                  · exact .inr (.inr (.inr (.inr (by omega))))
                · refine ⟨?_, ?_, ?_, ?_, ?_⟩ <;> (try dsimp only) <;> omega
                · refine ⟨?_, ?_, ?_, ?_, ?_⟩ <;> (try dsimp only) <;> omega
              have HRI := Lib.hid hRI
              have HE0 := Lib.hid hE0
              have HGD := Lib.hid hgood
              clear hRI hE0 hgood hrv hbw hsw hown5 hg5 hat5 hb5 h5 z3 f3 hCw q0 q1 q2 q3 hwn hbo hbf hbm hsz H0 HSX HBX HG HSV HCV HBV HIN HE3 HRO HRF HRM
              generalize (w5.setCell ⟨w1.heap.size + 1, 3, none⟩ (.slice A5 i c5)) = w6 at *
              go_loopw [14] (fun s14 wx => ∃ q : Nat, s14 = .int .i64 q ∧ q ≤ i ∧ (op = false → q = 0) ∧ RoI wc V.heap.size ⟨w1.heap.size + 1, bo, co, bf, cf, bm, cm, n0, n1, n2, cc, mode⟩ w1.heap.size a ca i L md op ((rv0 o f m).bg1 md q) wx) (fun s14 _ => i - (intOf s14).toNat)
              case atStart => exact ⟨0, rfl, Nat.zero_le _, fun _ => rfl, HRI.out⟩
              case round =>
                rename World => wx
                obtain ⟨q, rfl, hqi, hq0, hR⟩ := hrel
                have q0 := hR.cell.cell 0
                have q1 := hR.cell.cell 1
                have q2 := hR.cell.cell 2
                have q3 := hR.cell.cell 3
                have HR := Lib.hid hR
                have HQ0 := Lib.hid hq0
                clear hR HRI hq0
                go_upto_region 16 with (fail)
                go_cut [87] from 78 to 120 (fun s w' => s = .bool (decide (q < i) && op) ∧ w' = wx)
                case first =>
                  by_cases hlt : q < i
                  · have t1 : (q : Int) < (i : Int) := by omega
                    cases op
                    · go_wp2_with fail
                      go_meet
                      case rel => exact ⟨by simp, rfl⟩
                    · go_wp2_with fail
                      go_meet
                      case rel => exact ⟨by simp [hlt], rfl⟩
                  · have t1 : ¬ (q : Int) < (i : Int) := by omega
                    go_wp2_with fail
                    go_meet
                    case rel => exact ⟨by simp [hlt], rfl⟩
                case rest =>
                  obtain ⟨rfl, hw⟩ := hcut
                  have hw := hw.symm
                  subst hw
                  cases hcd : (decide (q < i) && op)
                  · -- the end
                    have hbgA : (rv0 o f m).bg1 md q = (rv0 o f m).bgA md op := by
                      unfold RV.bgA
                      have hlen : (rv0 o f m).x.sl.length = i := by
                        show (slotsU m (opK m)).length = i
                        rw [slotsU_length, HKM.out.1]
                      have h0 := HQ0.out
                      cases op
                      · rw [h0 rfl]; rfl
                      · rw [if_pos rfl, hlen]
                        simp at hcd
                        rw [show q = i by omega]
                    have hR1 := HR.out
                    rw [hbgA] at hR1
                    have HR1 := Lib.hid hR1
                    have hR1L : ∀ (k : Nat) (x : Sl), ((rv0 o f m).bgA md op).x.sl[k]? = some x → x.valid = true → L[k]? = some x := by
                      intro k x hx hv
                      unfold RV.bgA at hx
                      have hL0 : ∀ x, (rv0 o f m).x.sl[k]? = some x → L[k]? = some x := fun x hx => by
                        change (slotsU m (opK m))[k]? = some x at hx
                        rw [HKM.out.1, HLe.out] at hx
                        exact hx
                      split at hx
                      · exact hL0 x (bg1_from md _ _ k x hx hv)
                      · exact hL0 x hx
                    have HR1L := Lib.hid hR1L
                    have HBA := Lib.hid (show (rv0 o f m).bgA md op = (rv0 o f m).bgA md op from rfl)
                    clear hR1 hbgA hR1L HR HQ0 hcd q0 q1 q2 q3
                    go_wp2_with fail
                    go_loopw [15] (fun s15 wx => ∃ q : Nat, s15 = .int .i64 q ∧ q ≤ i ∧ (mode ≠ 1 → q = 0) ∧ RoI wc V.heap.size ⟨w1.heap.size + 1, bo, co, bf, cf, bm, cm, n0, n1, n2, cc, mode⟩ w1.heap.size a ca i L md op (((rv0 o f m).bgA md op).bg3 cc q) wx) (fun s15 _ => i - (intOf s15).toNat)
                    case atStart => exact ⟨0, rfl, Nat.zero_le _, fun _ => rfl, HR1.out⟩
                    case round =>
                      rename World => wx
                      obtain ⟨q, rfl, hqi, hq0, hR⟩ := hrel
                      have q0 := hR.cell.cell 0
                      have q1 := hR.cell.cell 1
                      have q2 := hR.cell.cell 2
                      have q3 := hR.cell.cell 3
                      have HR := Lib.hid hR
                      have HQ0 := Lib.hid hq0
                      clear hR hq0
                      go_upto_region 22 with (fail)
                      go_cut [129] from 121 to 143 (fun s w' => s = .bool (decide (q < i) && decide (mode = 1)) ∧ w' = wx)
                      case first =>
                        by_cases hlt : q < i
                        · have t1 : (q : Int) < (i : Int) := by omega
                          by_cases hm1 : mode = 1
                          · have b1 : (mode == 1) = true := by simpa using hm1
                            have HM1 := Lib.hid hm1
                            clear hm1
                            go_wp2_with fail
                            go_meet
                            case rel => exact ⟨by rw [decide_eq_true hlt, decide_eq_true HM1.out]; rfl, rfl⟩
                          · have b1 : (mode == 1) = false := by simpa using hm1
                            have HM1 := Lib.hid hm1
                            clear hm1
                            go_wp2_with fail
                            go_meet
                            case rel => exact ⟨by rw [decide_eq_false HM1.out, Bool.and_false], rfl⟩
                        · have t1 : ¬ (q : Int) < (i : Int) := by omega
                          go_wp2_with fail
                          go_meet
                          case rel => exact ⟨by rw [decide_eq_false hlt, Bool.false_and], rfl⟩
                      case rest =>
                        obtain ⟨rfl, hw⟩ := hcut
                        have hw := hw.symm
                        subst hw
                        cases hcd : (decide (q < i) && decide (mode = 1))
                        · -- the end
                          have hbgB : ((rv0 o f m).bgA md op).bg3 cc q = (rv0 o f m).bgB cc md op mode := by
                            unfold RV.bgB
                            have h0 := HQ0.out
                            by_cases hm1 : mode = 1
                            · rw [if_pos hm1, HR1.out.len]
                              simp [hm1] at hcd
                              rw [show q = i by omega]
                            · rw [if_neg hm1, h0 hm1]; rfl
                          have hR2 := HR.out
                          rw [hbgB] at hR2
                          obtain ⟨Fx, hrv, hgo⟩ := hR2.go
                          obtain ⟨A', c', B', d', hrv⟩ := hrv
                          have HIV := Lib.hid hrv
                          have HR2 := Lib.hid hR2
                          have hhd := rhead_any i (cc : Int) mode true wx.drew
                          change Calls _ _ _ _ (fun e w' => _ ∧ Below wx.heap.size wx.drew w') at hhd
                          have HHD := Lib.hid hhd
                          clear hhd
                          have z2 := hrv.cells.2.2.1
                          have HGO := Lib.hid hgo
                          clear hgo hrv hR2 hbgB HQ0 hcd HR
                          go_wp2_with fail
                          go_region_with (go_at_call 12; go_loud (with_reducible refine HHD.out.mono ?_; rintro e w2 ⟨rfl, hb2⟩; have hb2' : Below wx.heap.size wx.drew w2 := hb2; have hb3 : Below wx.heap.size wx w2 := (Below.refl wx.heap.size wx).drew.trans hb2'; have h3 := Lib.hid (HIV.out.keep hb3); have z2 := h3.out.cells.2.2.1; have zm := h3.out.rm.cellAt 0 (by show 0 < n2 * 1; omega); rw [uv_at _ _ (by rw [h3.out.lm]; show 0 < n2; omega)] at zm; have zf := h3.out.rm.frozenAt 0; have hc3 := Cs.below HR2.out.cell hb3 (Cs.lt HR2.out.cell); have q0 := hc3.cell 0; have q1 := hc3.cell 1))
                          all_goals
                            go_wp2_with fail
                            go_ret2
                            have hbm : bm < wx.heap.size := own_lt HIV.out.rm bm rfl
                            have hR3 := HGO.out (w2.setCell ⟨bm, 0, none⟩ (.int .u64 ((hdI i (cc : Int) mode true : Nat) : Int))) { (rv0 o f m).bgB cc md op mode with m := ((rv0 o f m).bgB cc md op mode).m.set 0 (hdI i (cc : Int) mode true) } ⟨Fx, ⟨_, _, _, _, h3.out.setM 0 (hdI i (cc : Int) mode true)⟩, (Fr.of_below hb3).set (.inl h3.out.inF.2.2.2) _, fun j hj => .inl hj⟩ HR2.out.ok HR2.out.len
                            obtain ⟨F', q1, q2, -⟩ := hR3.rv
                            have hlen0 : (rv0 o f m).x.sl.length = i := by show (slotsU m (opK m)).length = i; rw [slotsU_length, HKM.out.1]
                            refine .inr ⟨HE0.out, w1.heap.size + 1, F', rfl, by have := HSZ.out; omega, ?_, q2⟩
                            unfold rvK RV.bgn
                            rw [HKM.out.2.1, HKM.out.2.2.1, HKM.out.2.2.2, hlen0]
                            exact q1
                        · rw [Bool.and_eq_true, decide_eq_true_eq, decide_eq_true_eq] at hcd
                          obtain ⟨hlt, hm1⟩ := hcd
                          have HM1 := Lib.hid hm1
                          clear hm1
                          obtain ⟨Fx, hrv, hgo⟩ := HR.out.go
                          obtain ⟨A', c', B', d', hrv⟩ := hrv
                          have hln := HR.out.len
                          obtain ⟨a', cp', hA, -, hal'⟩ := hrv.row.form (by omega)
                          injection hA with hA _ _
                          subst hA
                          have z3 := hrv.cells.2.2.2.1
                          rw [hln] at z3
                          obtain ⟨b', o', e', -, hcc'⟩ := scs_read (Reads.of_own hrv.row) (by omega)
                          injection e' with e'
                          injection e' with e1' e2'
                          subst e1'
                          subst e2'
                          obtain ⟨x, hx⟩ : ∃ x, (((rv0 o f m).bgA md op).bg3 cc q).x.sl[q]? = some x := ⟨_, List.getElem?_eq_getElem (by omega)⟩
                          obtain ⟨v0, v1, v2, v3⟩ := hcc' q x hx
                          rw [Nat.zero_add] at v0 v1 v2 v3
                          have t1 : (q : Int) < (i : Int) := by omega
                          have HX := Lib.hid hx
                          have HGO := Lib.hid hgo
                          have HRV := Lib.hid hrv
                          clear hcc' hx hgo hrv hln
                          cases hd : x.dirty
                          · rw [hd] at v1
                            go_wp2_with fail
                            go_roundw
                            case rel => exact ⟨q + 1, by go_num, by omega, (fun e => absurd HM1.out e), by rw [RV.bg3, CS.at_eq HX.out, if_neg (by rw [hd]; decide)]; exact HR.out⟩
                            case measure => simp [intOf]; omega
                          · rw [hd] at v1
                            have hv := HR.out.ok.dv HX.out hd
                            have hln := HR.out.len
                            have hxL : L[q]? = some x := HR1L.out q x (by
                              rw [← (bg3_same cc ((rv0 o f m).bgA md op) q HR1.out.ok (by rw [HR1.out.len]; omega)).2.1 q (Nat.le_refl _)]
                              exact HX.out) hv
                            have hwh := HGD.out q x hxL hv
                            have hb0 := (HOK.out.blk x (List.mem_of_getElem? hxL) hv).1.1
                            have hqf : (q + 1) * cc ≤ n1 := by
                              have h1 := Nat.mul_le_mul_right cc (show q + 1 ≤ i by omega)
                              have h2 := HZ.out
                              omega
                            have HXL := Lib.hid hxL
                            clear hxL
                            go_wp2_with fail
                            refine (rback_any wx Fx ⟨w1.heap.size + 1, bo, co, bf, cf, bm, cm, n0, n1, n2, cc, mode⟩ false _ q x true ⟨_, _, _, _, HRV.out⟩ HR.out.ok HX.out hv (by show _ + 1 ≤ n2; rw [hln]; have := HLM.out; omega) (by show n2 ≤ 65536; omega) hb0 hwh hqf hc1 hn0 hn1).mono ?_
                            rintro e w2 ⟨rfl, hp⟩
                            have hr2 := HGO.out w2 _ hp (HR.out.ok.setD q x HX.out hv false) (by show (List.set _ _ _).length = _; rw [List.length_set]; exact hln)
                            have HR2 := Lib.hid hr2
                            clear hr2 hp hln hwh hb0 hqf
                            go_wp2_with fail
                            go_roundw
                            case rel => exact ⟨q + 1, by go_num, by omega, (fun e => absurd HM1.out e), by rw [RV.bg3, CS.at_eq HX.out, if_pos hd]; exact HR2.out⟩
                            case measure => simp [intOf]; omega
                  · rw [Bool.and_eq_true, decide_eq_true_eq] at hcd
                    obtain ⟨hlt, hop⟩ := hcd
                    have HOPT := Lib.hid hop
                    clear hop
                    obtain ⟨x, hx⟩ : ∃ x, L[q]? = some x := ⟨_, List.getElem?_eq_getElem (by rw [HLL.out]; exact hlt)⟩
                    obtain ⟨b', o', e', -, hcc'⟩ := scs_read (Reads.of_own HR.out.sl) (by rw [HLL.out]; omega)
                    injection e' with e'
                    injection e' with e1' e2'
                    subst e1'
                    subst e2'
                    obtain ⟨y0, y1, y2, y3⟩ := hcc' q x hx
                    rw [Nat.zero_add] at y0 y1 y2 y3
                    clear hcc'
                    have HX := Lib.hid hx
                    clear hx
                    have t1 : (q : Int) < (i : Int) := by omega
                    have hxe : ((rv0 o f m).bg1 md q).x.at_ q = x := by
                      refine CS.at_eq ?_
                      rw [(bg1_same md _ q).2.1 q (Nat.le_refl _)]
                      show (slotsU m (opK m))[q]? = _
                      rw [HKM.out.1, HLe.out]
                      exact HX.out
                    have HXE := Lib.hid hxe
                    clear hxe
                    obtain ⟨g, hg⟩ : ∃ g, gone md x = g := ⟨_, rfl⟩
                    have HGE := Lib.hid hg
                    clear hg
                    go_upto_region 18 with (fail)
                    go_cut [109] from 78 to 120 (fun s w' => s = .bool g ∧ w' = wx)
                    case first =>
                      cases hv : x.valid
                      · rw [hv] at y0
                        have hg' : g = false := by rw [← HGE.out]; unfold gone; rw [hv]; rfl
                        subst hg'
                        go_wp2_with fail
                        go_meet
                        case rel => exact ⟨rfl, rfl⟩
                      · rw [hv] at y0
                        by_cases hm1 : md = 1
                        · have b1 : (md == 1) = true := by simpa using hm1
                          have hg' : g = true := by rw [← HGE.out]; unfold gone; rw [hv, decide_eq_true hm1]; rfl
                          subst hg'
                          clear hm1
                          go_wp2_with fail
                          go_meet
                          case rel => exact ⟨rfl, rfl⟩
                        · have b1 : (md == 1) = false := by simpa using hm1
                          have hgd : g = !x.dirty := by rw [← HGE.out]; unfold gone; rw [hv, decide_eq_false hm1]; rfl
                          clear hm1
                          cases hd : x.dirty
                          · rw [hd] at y1
                            have hg' : g = true := by rw [hgd, hd]; rfl
                            subst hg'
                            clear hgd
                            go_wp2_with fail
                            go_meet
                            case rel => exact ⟨rfl, rfl⟩
                          · rw [hd] at y1
                            have hg' : g = false := by rw [hgd, hd]; rfl
                            subst hg'
                            clear hgd
                            go_wp2_with fail
                            go_meet
                            case rel => exact ⟨rfl, rfl⟩
                    case rest =>
                      obtain ⟨rfl, hw⟩ := hcut
                      have hw := hw.symm
                      subst hw
                      cases g
                      · go_wp2_with fail
                        go_roundw
                        case rel => exact ⟨q + 1, by go_num, by omega, (fun e => by rw [HOPT.out] at e; cases e), by rw [RV.bg1, HXE.out, if_neg (by rw [HGE.out]; decide)]; exact HR.out⟩
                        case measure => simp [intOf]; omega
                      · obtain ⟨Fx, hrv, hgo⟩ := HR.out.go
                        obtain ⟨A', c', B', d', hrv⟩ := hrv
                        have hln := HR.out.len
                        obtain ⟨a', cp', hA, -, hal'⟩ := hrv.row.form (by omega)
                        injection hA with hA _ _
                        subst hA
                        have z3 := hrv.cells.2.2.2.1
                        rw [hln] at z3
                        have fz0 := hrv.row.frozenAt (q * 4)
                        have fz1 := hrv.row.frozenAt (q * 4 + 1)
                        have fz2 := hrv.row.frozenAt (q * 4 + 2)
                        have fz3 := hrv.row.frozenAt (q * 4 + 3)
                        obtain ⟨b', o', e', -, hcc'⟩ := scs_read (Reads.of_own hrv.row) (by omega)
                        injection e' with e'
                        injection e' with e1' e2'
                        subst e1'
                        subst e2'
                        obtain ⟨v0, v1, v2, v3⟩ := hcc' q x (by
                          rw [(bg1_same md _ q).2.1 q (Nat.le_refl _)]
                          show (slotsU m (opK m))[q]? = _
                          rw [HKM.out.1, HLe.out]
                          exact HX.out)
                        rw [Nat.zero_add] at v0 v1 v2 v3
                        clear hcc'
                        have HV0 := Lib.hid (hrv.setSl q nilS (by omega))
                        have HGO := Lib.hid hgo
                        have HRV := Lib.hid hrv
                        clear hgo hrv hln
                        go_wp2_with fail
                        change Calls _ _ _ (put4 wx a' q nilS) _
                        have hbs := bg1_same md (rv0 o f m) q
                        have hsl : ((rv0 o f m).bg1 md q).x.sl.length = i := HR.out.len
                        refine (rput_any _ Fx ⟨w1.heap.size + 1, bo, co, bf, cf, bm, cm, n0, n1, n2, cc, mode⟩ false _ q nilS ⟨_, _, _, _, HV0.out⟩ (by show (List.set _ _ _)[q]? = _; rw [List.getElem?_set_self (by omega)]) (by show (List.set _ _ _).length + 1 ≤ n2; rw [List.length_set, hsl]; have := HLM.out; omega) (by show n2 ≤ 65536; omega)).mono ?_
                        rintro e w2 ⟨rfl, hp⟩
                        have hr2 := HGO.out w2 (((rv0 o f m).bg1 md q).free q) (RvP.trans (⟨(fr_put4 wx a' q nilS).mono (fun j _ e => by have := HRV.out.rowO a' rfl; rw [e]; exact this), fun j hj => .inl hj⟩ : Turn Fx Fx wx (put4 wx a' q nilS)) hp) (HR.out.ok.clear q) (by show (List.set _ _ _).length = _; rw [List.length_set, hsl])
                        have HR2 := Lib.hid hr2
                        clear hr2 hp hbs hsl
                        go_wp2_with fail
                        go_roundw
                        case rel => exact ⟨q + 1, by go_num, by omega, (fun e => by rw [HOPT.out] at e; cases e), by rw [RV.bg1, HXE.out, if_pos HGE.out]; exact HR2.out⟩
                        case measure => simp [intOf]; omega

end Go.Proofs.YtogchafnnkajfaaGreat

namespace Go.Proofs.YtogchafnnkajfaaGreat
set_option linter.unusedVariables false

/-- What is known of a sector. -/
structure Sec where
  sm : List Nat
  kn : Bool
  val : Nat
def Sec.wrote (x : Sec) (v : Nat) (d : Bool) : Sec := ⟨x.sm ++ [v], d, v⟩
def Sec.flushed (x : Sec) : Sec := if x.kn = true then ⟨[x.val], x.kn, x.val⟩ else x
def Sec.failed (x : Sec) : Sec := ⟨x.sm, false, x.val⟩
def Sec.read (x : Sec) (v : Nat) (st : Bool) : Sec := if x.kn = true then x else ⟨if st = true then [v] else x.sm, true, v⟩
def Sec.may (x : Sec) (v : Nat) : Prop := if x.kn = true then v = x.val else v ∈ x.sm
def Sec.start (v : Nat) : Sec := ⟨[v], true, v⟩

def tAt (t : List Sec) (a : Nat) : Sec := t[a]?.getD ⟨[], false, 0⟩
def tWrote (t : List Sec) (a v : Nat) (d : Bool) : List Sec := t.set a ((tAt t a).wrote v d)
def tRead (t : List Sec) (a v : Nat) (st : Bool) : List Sec := t.set a ((tAt t a).read v st)
def tFlushed (t : List Sec) : List Sec := t.map Sec.flushed
def tFailed (t : List Sec) : List Sec := t.map Sec.failed
def tMay (t : List Sec) (a v : Nat) : Prop := (tAt t a).may v

theorem tAt_eq {t : List Sec} {a : Nat} {x : Sec} (h : t[a]? = some x) : tAt t a = x := by
  unfold tAt
  rw [h]
  rfl
theorem set_cases {α : Type} {l : List α} {a j : Nat} {y x : α} (h : (l.set a y)[j]? = some x) : (j = a ∧ x = y) ∨ (j ≠ a ∧ l[j]? = some x) := by
  by_cases e : j = a
  · subst e
    have hl : j < l.length := by
      have := (List.getElem?_eq_some_iff.1 h).1
      simpa using this
    rw [List.getElem?_set_self hl] at h
    injection h with h
    exact .inl ⟨rfl, h.symm⟩
  · rw [List.getElem?_set_ne (fun e' => e e'.symm)] at h
    exact .inr ⟨e, h⟩
theorem map_cases {α β : Type} {l : List α} {f : α → β} {j : Nat} {y : β} (h : (l.map f)[j]? = some y) : ∃ x, l[j]? = some x ∧ y = f x := by
  rw [List.getElem?_map] at h
  rcases hx : l[j]? with _ | x
  · rw [hx] at h; cases h
  · rw [hx] at h
    injection h with h
    exact ⟨x, rfl, h.symm⟩

end Go.Proofs.YtogchafnnkajfaaGreat

namespace Go.Proofs.YtogchafnnkajfaaGreat
set_option linter.unusedVariables false
open Go.RowKit

/-- A sector's record, and where its candidates lie. -/
structure TS where
  b : Nat
  c : Nat
  x : Sec
def TS.v (y : TS) : Value := .slice (some ⟨y.b, 0, none⟩) y.x.sm.length y.c
def TS.cells (y : TS) : List Value := [y.v, .bool y.x.kn, .int .u64 (y.x.val : Int)]
def tcells (l : List TS) : List Value := l.flatMap TS.cells
theorem tcells_length (l : List TS) : (tcells l).length = l.length * 3 := by
  induction l with
  | nil => rfl
  | cons z r ih => simp only [tcells, List.flatMap_cons, List.length_append, List.length_cons] at ih ⊢; simp only [TS.cells, List.length_cons, List.length_nil]; omega
theorem tcells_snoc (l : List TS) (y : TS) : tcells (l ++ [y]) = tcells l ++ y.cells := by simp [tcells]
theorem tcells_at (l : List TS) (i : Nat) (y : TS) (h : l[i]? = some y) : (tcells l)[i * 3]? = some y.v ∧ (tcells l)[i * 3 + 1]? = some (.bool y.x.kn) ∧ (tcells l)[i * 3 + 2]? = some (.int .u64 (y.x.val : Int)) := by
  induction l generalizing i with
  | nil => simp at h
  | cons z r ih =>
    rcases i with _ | i
    · simp at h; subst h; simp [tcells, TS.cells]
    · have := ih i (by simpa using h)
      have e : ∀ j, (tcells (z :: r))[(i + 1) * 3 + j]? = (tcells r)[i * 3 + j]? := by
        intro j
        rw [show (i + 1) * 3 + j = i * 3 + j + 1 + 1 + 1 by omega]
        simp [tcells, TS.cells]
      have e0 := e 0
      simp only [Nat.add_zero] at e0
      rw [e0, e 1, e 2]
      exact this
theorem tcells_put (l : List TS) (i : Nat) (y y' : TS) (h : l[i]? = some y) (j : Nat) (hj : j < 3) (u : Value) (he : y.cells.set j u = y'.cells) : (tcells l).set (i * 3 + j) u = tcells (l.set i y') := by
  induction l generalizing i with
  | nil => simp at h
  | cons z r ih =>
    rcases i with _ | i
    · simp at h
      subst h
      show (z.cells ++ tcells r).set (0 * 3 + j) u = y'.cells ++ tcells r
      rw [Nat.zero_mul, Nat.zero_add, List.set_append_left _ _ (by simp [TS.cells]; omega), he]
    · have := ih i (by simpa using h)
      show (z.cells ++ tcells r).set ((i + 1) * 3 + j) u = z.cells ++ tcells (r.set i y')
      rw [← this, List.set_append_right _ _ (by simp [TS.cells]; omega)]
      congr 2
      simp [TS.cells]; omega

/-- A track in memory, all of it in G. -/
structure TrIn (W : World) (G : Nat → Prop) (tb rb cap : Nat) (ys : List TS) : Prop where
  tr : Cs W tb 182 #[.slice (some ⟨rb, 0, none⟩) ys.length cap]
  row : W.ownsRow 0 184 3 (.slice (some ⟨rb, 0, none⟩) ys.length cap) ys.length (tcells ys)
  rd : ∀ y ∈ ys, W.ownsRow 0 26 1 y.v y.x.sm.length (uv y.x.sm) ∧ y.x.sm ≠ [] ∧ G y.b ∧ W64 y.x.sm ∧ y.x.val < 18446744073709551616
  gt : G tb
  gr : G rb
def TrAt (W : World) (G : Nat → Prop) (tb : Nat) (t : List Sec) : Prop := ∃ rb cap ys, ys.map TS.x = t ∧ TrIn W G tb rb cap ys

theorem own_cs_ne {w : World} {base size n g c b : Nat} {e t : TypeId} {xs : List Value} {cs : Array Value} (h : w.ownsRow base e size (.slice (some ⟨g, 0, none⟩) n c) n xs) (hc : Cs w b t cs) (ht : e ≠ t) : g ≠ b := by
  intro e1
  subst e1
  rcases h.2 with ⟨h2, _⟩ | ⟨g', cap, cur, h2, _, hb, _⟩
  · cases h2
  · injection h2 with h2
    injection h2 with h2
    injection h2 with h2
    unfold Cs at hc
    rw [h2, hb] at hc
    injection hc with hc
    injection hc with _ hc
    exact ht hc
theorem own2_ne {w : World} {base base' size size' n n' g g' c c' : Nat} {e e' : TypeId} {xs xs' : List Value} (h : w.ownsRow base e size (.slice (some ⟨g, 0, none⟩) n c) n xs) (h' : w.ownsRow base' e' size' (.slice (some ⟨g', 0, none⟩) n' c') n' xs') (ht : e ≠ e') : g ≠ g' := by
  intro e1
  subst e1
  rcases h'.2 with ⟨h2, _⟩ | ⟨g', cap, cur, h2, _, hb, _⟩
  · cases h2
  · injection h2 with h2
    injection h2 with h2
    injection h2 with h2
    subst h2
    exact own_cs_ne h (show Cs w g e' cur from hb) ht rfl

section
variable {W : World} {G : Nat → Prop} {tb rb cap : Nat} {ys : List TS}
theorem TrIn.ne (h : TrIn W G tb rb cap ys) : rb ≠ tb := own_cs_ne h.row h.tr (by decide)
theorem TrIn.br (h : TrIn W G tb rb cap ys) (y : TS) (hy : y ∈ ys) : y.b ≠ rb := own2_ne (h.rd y hy).1 h.row (by decide)
theorem TrIn.rb_lt (h : TrIn W G tb rb cap ys) : rb < W.heap.size := own_lt h.row rb rfl
theorem TrIn.fr (h : TrIn W G tb rb cap ys) {W' : World} {H : Nat → Prop} (hf : Fr H W W') (hn : ∀ j, G j → ¬ H j) : TrIn W' G tb rb cap ys :=
  ⟨h.tr.fr hf (hn _ h.gt), own_fr h.row hf (fun b hb => by simp [Value.ownBlock] at hb; rw [← hb]; exact hn _ h.gr), fun y hy => let q := h.rd y hy; ⟨own_fr q.1 hf (fun b hb => by simp [TS.v, Value.ownBlock] at hb; rw [← hb]; exact hn _ q.2.2.1), q.2⟩, h.gt, h.gr⟩
theorem TrIn.keep (h : TrIn W G tb rb cap ys) {W' : World} (hb : Below W.heap.size W W') : TrIn W' G tb rb cap ys := h.fr (H := fun _ => False) (Fr.of_below hb) (fun _ _ h => h)
theorem TrIn.mono (h : TrIn W G tb rb cap ys) {H : Nat → Prop} (hg : ∀ j, G j → H j) : TrIn W H tb rb cap ys :=
  ⟨h.tr, h.row, fun y hy => let q := h.rd y hy; ⟨q.1, q.2.1, hg _ q.2.2.1, q.2.2.2⟩, hg _ h.gt, hg _ h.gr⟩
theorem TrIn.tight (h : TrIn W G tb rb cap ys) : TrIn W (fun j => G j ∧ j < W.heap.size) tb rb cap ys :=
  ⟨h.tr, h.row, fun y hy => let q := h.rd y hy; ⟨q.1, q.2.1, ⟨q.2.2.1, own_lt q.1 y.b rfl⟩, q.2.2.2⟩, ⟨h.gt, h.tr.lt⟩, ⟨h.gr, h.rb_lt⟩⟩
/-- The cells of a sector's record. -/
theorem TrIn.at_ (h : TrIn W G tb rb cap ys) (i : Nat) (y : TS) (hy : ys[i]? = some y) : W.cell? ⟨rb, i * 3, none⟩ = some y.v ∧ W.cell? ⟨rb, i * 3 + 1, none⟩ = some (.bool y.x.kn) ∧ W.cell? ⟨rb, i * 3 + 2, none⟩ = some (.int .u64 (y.x.val : Int)) ∧ ∀ j, W.frozen? ⟨rb, j, none⟩ = false := by
  obtain ⟨t0, t1, t2⟩ := tcells_at ys i y hy
  have hi := (List.getElem?_eq_some_iff.1 hy).1
  have hl := tcells_length ys
  exact ⟨(h.row.cellAt (i * 3) (by omega)).trans t0, (h.row.cellAt (i * 3 + 1) (by omega)).trans t1, (h.row.cellAt (i * 3 + 2) (by omega)).trans t2, fun j => h.row.frozenAt j⟩
/-- A cell of a sector's record is stored. -/
theorem TrIn.put (h : TrIn W G tb rb cap ys) (i : Nat) (y y' : TS) (hy : ys[i]? = some y) (j : Nat) (hj : j < 3) (u : Value) (he : y.cells.set j u = y'.cells)
    (hr : W.ownsRow 0 26 1 y'.v y'.x.sm.length (uv y'.x.sm) ∧ y'.x.sm ≠ [] ∧ G y'.b ∧ W64 y'.x.sm ∧ y'.x.val < 18446744073709551616) : TrIn (W.setCell ⟨rb, i * 3 + j, none⟩ u) G tb rb cap (ys.set i y') := by
  have hf := fr_set W rb (i * 3 + j) u
  have hr2 := (h.row.stored (i * 3 + j) u).1
  rw [tcells_put ys i y y' hy j hj u he] at hr2
  have hl : (ys.set i y').length = ys.length := List.length_set
  refine ⟨by rw [hl]; exact h.tr.fr hf (fun e => h.ne e.symm), by rw [hl]; exact hr2, ?_, h.gt, h.gr⟩
  intro z hz
  rcases List.mem_or_eq_of_mem_set hz with hz | rfl
  · have q := h.rd z hz
    exact ⟨own_fr q.1 hf (fun b hb => by simp [TS.v, Value.ownBlock] at hb; rw [← hb]; exact h.br z hz), q.2⟩
  · exact ⟨own_fr hr.1 hf (fun b hb => by simp [TS.v, Value.ownBlock] at hb; rw [← hb]; exact own2_ne hr.1 h.row (by decide)), hr.2⟩
theorem TrIn.put1 (h : TrIn W G tb rb cap ys) (i : Nat) (y : TS) (hy : ys[i]? = some y) (k : Bool) : TrIn (W.setCell ⟨rb, i * 3 + 1, none⟩ (.bool k)) G tb rb cap (ys.set i ⟨y.b, y.c, ⟨y.x.sm, k, y.x.val⟩⟩) :=
  h.put i y _ hy 1 (by omega) _ rfl (h.rd y (List.mem_of_getElem? hy))
theorem TrIn.put2 (h : TrIn W G tb rb cap ys) (i : Nat) (y : TS) (hy : ys[i]? = some y) (v : Nat) (hv : v < 18446744073709551616) : TrIn (W.setCell ⟨rb, i * 3 + 2, none⟩ (.int .u64 (v : Int))) G tb rb cap (ys.set i ⟨y.b, y.c, ⟨y.x.sm, y.x.kn, v⟩⟩) := by
  have q := h.rd y (List.mem_of_getElem? hy)
  exact h.put i y _ hy 2 (by omega) _ rfl ⟨q.1, q.2.1, q.2.2.1, q.2.2.2.1, hv⟩
theorem TrIn.put0 (h : TrIn W G tb rb cap ys) (i : Nat) (y : TS) (hy : ys[i]? = some y) (b c : Nat) (sm : List Nat) (hr : W.ownsRow 0 26 1 (.slice (some ⟨b, 0, none⟩) sm.length c) sm.length (uv sm)) (hne : sm ≠ []) (hg : G b) (hw : W64 sm) : TrIn (W.setCell ⟨rb, i * 3, none⟩ (.slice (some ⟨b, 0, none⟩) sm.length c)) G tb rb cap (ys.set i ⟨b, c, ⟨sm, y.x.kn, y.x.val⟩⟩) :=
  h.put i y ⟨b, c, ⟨sm, y.x.kn, y.x.val⟩⟩ hy 0 (by omega) _ rfl ⟨hr, hne, hg, hw, (h.rd y (List.mem_of_getElem? hy)).2.2.2.2⟩
end
theorem TrAt.fr {W W' : World} {G H : Nat → Prop} {tb : Nat} {t : List Sec} (h : TrAt W G tb t) (hf : Fr H W W') (hn : ∀ j, G j → ¬ H j) : TrAt W' G tb t := by
  obtain ⟨rb, cap, ys, e, h⟩ := h
  exact ⟨rb, cap, ys, e, h.fr hf hn⟩
theorem TrAt.tight {W : World} {G : Nat → Prop} {tb : Nat} {t : List Sec} (h : TrAt W G tb t) : TrAt W (fun j => G j ∧ j < W.heap.size) tb t := by
  obtain ⟨rb, cap, ys, e, h⟩ := h
  exact ⟨rb, cap, ys, e, h.tight⟩
end Go.Proofs.YtogchafnnkajfaaGreat

namespace Go.Proofs.YtogchafnnkajfaaGreat
set_option linter.unusedVariables false
open Go.RowKit
attribute [local go_sem] Oper.semAt_some

theorem tAt_map {ys : List TS} {a : Nat} {y : TS} (h : ys[a]? = some y) : tAt (ys.map TS.x) a = y.x := by
  apply tAt_eq
  rw [List.getElem?_map, h]
  rfl
theorem TrIn.wider {W : World} {G : Nat → Prop} {tb rb cap : Nat} {ys : List TS} (h : TrIn W G tb rb cap ys) (n : Nat) : TrIn W (fun j => G j ∨ n ≤ j) tb rb cap ys := h.mono (fun j hj => .inl hj)

theorem TrIn.wr3 {W : World} {G : Nat → Prop} {tb rb cap : Nat} {ys : List TS} (h : TrIn W G tb rb cap ys) (a : Nat) (y : TS) (hy : ys[a]? = some y) (bN cN L v : Nat) (d : Bool) (hL : y.x.sm.length = L) (ho : W.ownsRow 0 26 1 (.slice (some ⟨bN, 0, none⟩) (L + 1) cN) (L + 1) (uv (y.x.sm ++ [v]))) (hg : G bN) (hv : v < 18446744073709551616) :
    W.cell? ⟨rb, a * 3, none⟩ = some y.v ∧ W.frozen? ⟨rb, a * 3, none⟩ = false ∧
    (W.setCell ⟨rb, a * 3, none⟩ (.slice (some ⟨bN, 0, none⟩) (L + 1) cN)).cell? ⟨rb, a * 3 + 1, none⟩ = some (.bool y.x.kn) ∧ (W.setCell ⟨rb, a * 3, none⟩ (.slice (some ⟨bN, 0, none⟩) (L + 1) cN)).frozen? ⟨rb, a * 3 + 1, none⟩ = false ∧
    ((W.setCell ⟨rb, a * 3, none⟩ (.slice (some ⟨bN, 0, none⟩) (L + 1) cN)).setCell ⟨rb, a * 3 + 1, none⟩ (.bool d)).cell? ⟨rb, a * 3 + 2, none⟩ = some (.int .u64 (y.x.val : Int)) ∧ ((W.setCell ⟨rb, a * 3, none⟩ (.slice (some ⟨bN, 0, none⟩) (L + 1) cN)).setCell ⟨rb, a * 3 + 1, none⟩ (.bool d)).frozen? ⟨rb, a * 3 + 2, none⟩ = false ∧
    TrIn (((W.setCell ⟨rb, a * 3, none⟩ (.slice (some ⟨bN, 0, none⟩) (L + 1) cN)).setCell ⟨rb, a * 3 + 1, none⟩ (.bool d)).setCell ⟨rb, a * 3 + 2, none⟩ (.int .u64 (v : Int))) G tb rb cap (((ys.set a ⟨bN, cN, ⟨y.x.sm ++ [v], y.x.kn, y.x.val⟩⟩).set a ⟨bN, cN, ⟨y.x.sm ++ [v], d, y.x.val⟩⟩).set a ⟨bN, cN, ⟨y.x.sm ++ [v], d, v⟩⟩) := by
  have ha := (List.getElem?_eq_some_iff.1 hy).1
  obtain ⟨k0, k1, k2, kf⟩ := h.at_ a y hy
  have hl6 : (y.x.sm ++ [v]).length = L + 1 := by simp [hL]
  have hd := h.rd y (List.mem_of_getElem? hy)
  have h1 := h.put0 a y hy bN cN (y.x.sm ++ [v]) (hl6.symm ▸ ho) (by simp) hg (by
    intro z hz
    rcases List.mem_append.1 hz with hz | hz
    · exact hd.2.2.2.1 z hz
    · exact (List.mem_singleton.1 hz) ▸ hv)
  rw [hl6] at h1
  obtain ⟨m0, m1, m2, mf⟩ := h1.at_ a _ (List.getElem?_set_self ha)
  have h2 := h1.put1 a _ (List.getElem?_set_self ha) d
  obtain ⟨u0, u1, u2, uf⟩ := h2.at_ a _ (List.getElem?_set_self (by simpa using ha))
  have h3 := h2.put2 a _ (List.getElem?_set_self (by simpa using ha)) v hv
  exact ⟨k0, kf _, m1, mf _, u2, uf _, h3⟩

set_option maxRecDepth 100000 in
set_option maxHeartbeats 4000000 in
theorem wrote_any (W : World) (G : Nat → Prop) (tb : Nat) (t : List Sec) (h : TrAt W G tb t) (a v : Nat) (d : Bool) (ha : a < t.length) (hv : v < 18446744073709551616) (hb : (tAt t a).sm.length ≤ 100000) (ht : t.length ≤ 100000) :
    Calls Tryz.prog 73 #[.pointer (some ⟨tb, 0, none⟩), .int .i64 (a : Int), .int .u64 (v : Int), .bool d] W fun e w' => e = .returned (.tuple #[]) ∧ ∃ G', TrAt w' G' tb (tWrote t a v d) ∧ Turn G G' W w' := by
  obtain ⟨rb, cap, ys, rfl, hi⟩ := h
  rw [List.length_map] at ha ht
  obtain ⟨y, hy⟩ : ∃ y, ys[a]? = some y := ⟨_, List.getElem?_eq_getElem ha⟩
  have hym := List.mem_of_getElem? hy
  rw [tAt_map hy] at hb
  obtain ⟨c0, c1, c2, cf⟩ := hi.at_ a y hy
  have c4 : W.cell? ⟨tb, 0, none⟩ = some (.slice (some ⟨rb, 0, none⟩) ys.length cap) := hi.tr.cell 0
  have hrd := hi.rd y hym
  have HI := Lib.hid hi
  have HY := Lib.hid hy
  have HR := Lib.hid (Reads.of_own hrd.1)
  have hrbl := hi.rb_lt
  obtain ⟨L, hL⟩ : ∃ L, y.x.sm.length = L := ⟨_, rfl⟩
  have HL := Lib.hid hL
  have hLu : (uv y.x.sm).length = L := by rw [uv_length, hL]
  have HLU := Lib.hid hLu
  unfold TS.v at c0
  rw [hL] at c0 hb
  have f0 := cf (a * 3)
  have f1 := cf (a * 3 + 1)
  have f2 := cf (a * 3 + 2)
  have HD := Lib.hid hrd
  have t1 : ¬ (a : Int) < 0 := by omega
  have t2 : ¬ (ys.length : Int) ≤ (a : Int) := by omega
  have t3 : (a : Int) < (ys.length : Int) := by omega
  obtain ⟨i0, hi0, hz0, hz1, hz2⟩ := info_parts u64_info
  clear hi hy hL hLu hrd hym cf
  have han : a < ys.length := ha
  obtain ⟨n, hnn⟩ : ∃ n, ys.length = n := ⟨_, rfl⟩
  rw [hnn] at c4 t2 t3
  clear hnn
  go_enter Tryz.func73, Tryz.ntmps73
  go_wp2_with (first
    | (at_builtin; refine wpList_append_reads _ (by rfl) _ _ _ (by rfl) W.heap.size 26 i0 _ 1 8 Tryz.underlying29 hi0 hz0 hz1 hz2 rfl (by omega) (.slice A5 L c5) L (uv y.x.sm) (by rfl) (HO5.out.alloc _) (some ⟨w5.heap.size, 0, none⟩) 1 1 _ (by rfl) (by rfl) (Reads.new _ _ _) (by simp [Value.oneCell']) (by simp only [maxLen]; omega) (by omega) (Nat.le_trans hw5 (by simp)) ?_; intro v6 w6 hown6 hg6 hat6; obtain ⟨bN, cN, hv6, hbN, hbNl⟩ := hown6.form (by omega); subst hv6; have HB6 := Lib.hid ((HB5.out.alloc hw5 _).grown hg6 (Nat.le_trans hw5 (by simp)) (own_base HO5.out)); have ho6 : w6.ownsRow 0 26 1 (.slice (some ⟨bN, 0, none⟩) (L + 1) cN) (L + 1) (uv (y.x.sm ++ [v])) := (by rw [uv_append]; exact own_lower hown6 (Nat.zero_le _)); clear hown6 hg6 hat6; obtain ⟨k0, j0, m1, j1, u2, j2, h3⟩ := ((HI.out.wider W.heap.size).keep HB6.out).wr3 a y HY.out bN cN L v d HL.out ho6 (.inr hbN) hv; have H3 := Lib.hid h3)
    | (at_builtin; refine wpList_append_reads _ (by rfl) _ _ _ (by rfl) W.heap.size 26 i0 _ 1 8 Tryz.underlying29 hi0 hz0 hz1 hz2 rfl (by omega) (.slice none 0 0) 0 [] (by rfl) (World.ownsRow_nil _ _ _ _) (some ⟨y.b, 0, none⟩) L y.c (uv y.x.sm) (by rfl) (by have := HLU.out; omega) HR.out (uv_one _) (by simp only [maxLen]; omega) (by omega) (Nat.le_refl _) ?_; intro v5 w5 hown5 hg5 hat5; obtain ⟨A5, c5, hv5⟩ := own_form hown5; subst hv5; simp only [Nat.zero_add, List.nil_append] at hown5; have HO5 := Lib.hid hown5; have HB5 := Lib.hid ((Below.refl W.heap.size W).grown hg5 (Nat.le_refl _) (by intro k hk; simp [Value.ownBlock] at hk)); have hw5 : W.heap.size ≤ w5.heap.size := HB5.out.size; clear hown5 hg5 hat5))
  refine bodyPost_end (v := .tuple #[]) (by simp [results, Tryz.f73, go_sem]) rfl ?_
  refine ⟨rfl, _, ⟨rb, cap, _, ?_, H3.out⟩, ?_⟩
  · unfold tWrote
    rw [tAt_map HY.out]
    simp only [List.map_set, List.set_set]
    rfl
  · have hgr := HI.out.gr
    refine ⟨?_, fun j hj => hj⟩
    exact (((Fr.of_below HB6.out).mono (H := G) (fun j _ hj => hj) |>.set (.inl hgr) _).set (.inl hgr) _).set (.inl hgr) _


/-- The first k sectors have been treated by f. -/
def tPart (f : Sec → Sec) (t : List Sec) (k : Nat) : List Sec := (t.take k).map f ++ t.drop k
theorem tPart_zero (f : Sec → Sec) (t : List Sec) : tPart f t 0 = t := by simp [tPart]
theorem tPart_all (f : Sec → Sec) (t : List Sec) : tPart f t t.length = t.map f := by simp [tPart]
theorem tPart_length (f : Sec → Sec) (t : List Sec) (k : Nat) : (tPart f t k).length = t.length := by simp [tPart]; omega
theorem tPart_at (f : Sec → Sec) (t : List Sec) (k : Nat) (hk : k < t.length) : (tPart f t k)[k]? = t[k]? := by
  unfold tPart
  rw [List.getElem?_append_right (by simp; omega), List.length_map, List.length_take, Nat.min_eq_left (by omega), Nat.sub_self, List.getElem?_drop, Nat.add_zero]
theorem tPart_step (f : Sec → Sec) (t : List Sec) (k : Nat) (x : Sec) (hx : t[k]? = some x) : (tPart f t k).set k (f x) = tPart f t (k + 1) := by
  obtain ⟨hk, e⟩ := List.getElem?_eq_some_iff.1 hx
  unfold tPart
  rw [List.set_append_right _ _ (by simp; omega), List.length_map, List.length_take, Nat.min_eq_left (by omega), Nat.sub_self, List.drop_eq_getElem_cons hk, List.set_cons_zero, List.take_add_one, hx]
  simp

theorem own_one (W : World) (v : Nat) : (W.alloc (.cells #[.int .u64 (v : Int)] 26)).ownsRow 0 26 1 (.slice (some ⟨W.heap.size, 0, none⟩) 1 1) 1 (uv [v]) :=
  ⟨by rfl, .inr ⟨W.heap.size, 1, #[.int .u64 (v : Int)], rfl, Nat.zero_le _, heap_alloc_new W _, Nat.le_refl _, by simp only [maxLen]; omega, by rfl, by rfl⟩⟩

set_option maxRecDepth 100000 in
set_option maxHeartbeats 4000000 in
theorem failed_any (W : World) (G : Nat → Prop) (tb : Nat) (t : List Sec) (h : TrAt W G tb t) (ht : t.length ≤ 100000) :
    Calls Tryz.prog 119 #[.pointer (some ⟨tb, 0, none⟩)] W fun e w' => e = .returned (.tuple #[]) ∧ TrAt w' G tb (tFailed t) ∧ Fr G W w' := by
  obtain ⟨rb, cap, ys0, rfl, hi0⟩ := h
  rw [List.length_map] at ht
  obtain ⟨n, hn⟩ : ∃ n, ys0.length = n := ⟨_, rfl⟩
  have HN := Lib.hid hn
  have HI0 := Lib.hid hi0
  clear hi0
  rw [hn] at ht
  clear hn
  go_enter Tryz.func119, Tryz.ntmps119
  go_wp2_with fail
  go_loopw [2] (fun s wx => ∃ (k : Nat) (ys : List TS), s = .int .i64 k ∧ k ≤ n ∧ ys.map TS.x = tPart Sec.failed (ys0.map TS.x) k ∧ TrIn wx G tb rb cap ys ∧ Fr G W wx) (fun s _ => n - (intOf s).toNat)
  case atStart => exact ⟨0, ys0, rfl, Nat.zero_le _, (tPart_zero _ _).symm, HI0.out, Fr.refl _ _⟩
  case round =>
    rename World => wx
    obtain ⟨k, ys, rfl, hk, hys, hi, hf⟩ := hrel
    have hl : ys.length = n := by
      have := congrArg List.length hys
      rw [List.length_map, tPart_length, List.length_map, HN.out] at this
      exact this
    have c4 : wx.cell? ⟨tb, 0, none⟩ = some (.slice (some ⟨rb, 0, none⟩) n cap) := by rw [← hl]; exact hi.tr.cell 0
    have HYS := Lib.hid hys
    have HF := Lib.hid hf
    have HL := Lib.hid hl
    clear hys hf hl
    by_cases hlt : k < n
    · have t1 : (k : Int) < (n : Int) := by omega
      have e1 : IntKind.i64.wrap ((k : Int) + 1) = ((k + 1 : Nat) : Int) := IntWalk.i64_in _ (by omega)
      obtain ⟨y, hy⟩ : ∃ y, ys[k]? = some y := ⟨_, List.getElem?_eq_getElem (by rw [HL.out]; exact hlt)⟩
      obtain ⟨c0, c1, c2, cf⟩ := hi.at_ k y hy
      have f1 := cf (k * 3 + 1)
      have H1 := Lib.hid (hi.put1 k y hy false)
      have HY := Lib.hid hy
      have hgr := hi.gr
      clear hi hy cf
      go_wp2_with fail
      go_roundw
      case rel =>
        refine ⟨k + 1, _, by go_num, by omega, ?_, H1.out, HF.out.set (.inl hgr) _⟩
        have h0 : (ys0.map TS.x)[k]? = some y.x := by
          have this : (ys.map TS.x)[k]? = (tPart Sec.failed (ys0.map TS.x) k)[k]? := by rw [HYS.out]
          rw [tPart_at _ _ _ (by rw [List.length_map, HN.out]; exact hlt), List.getElem?_map, HY.out] at this
          exact this.symm
        rw [List.map_set, HYS.out]
        exact tPart_step _ _ _ _ h0
      case measure => simp [intOf]; omega
    · have hkn : k = n := by omega
      subst hkn
      go_wp2_with fail
      refine bodyPost_end (v := .tuple #[]) (by simp [results, Tryz.f119, go_sem]) rfl ?_
      refine ⟨rfl, ⟨rb, cap, ys, ?_, hi⟩, HF.out⟩
      rw [HYS.out]
      have := tPart_all Sec.failed (ys0.map TS.x)
      rw [List.length_map, HN.out] at this
      exact this


set_option maxRecDepth 100000 in
set_option maxHeartbeats 4000000 in
theorem flushed_any (W : World) (G : Nat → Prop) (tb : Nat) (t : List Sec) (h : TrAt W G tb t) (ht : t.length ≤ 100000) :
    Calls Tryz.prog 75 #[.pointer (some ⟨tb, 0, none⟩)] W fun e w' => e = .returned (.tuple #[]) ∧ ∃ G', TrAt w' G' tb (tFlushed t) ∧ Turn G G' W w' := by
  obtain ⟨rb, cap, ys0, rfl, hi0⟩ := h
  rw [List.length_map] at ht
  obtain ⟨n, hn⟩ : ∃ n, ys0.length = n := ⟨_, rfl⟩
  have HN := Lib.hid hn
  have HI0 := Lib.hid (hi0.wider W.heap.size)
  have hgr := hi0.gr
  clear hi0
  rw [hn] at ht
  clear hn
  go_enter Tryz.func75, Tryz.ntmps75
  go_wp2_with fail
  go_loopw [2] (fun s wx => ∃ (k : Nat) (ys : List TS), s = .int .i64 k ∧ k ≤ n ∧ ys.map TS.x = tPart Sec.flushed (ys0.map TS.x) k ∧ TrIn wx (fun j => G j ∨ W.heap.size ≤ j) tb rb cap ys ∧ Fr G W wx) (fun s _ => n - (intOf s).toNat)
  case atStart => exact ⟨0, ys0, rfl, Nat.zero_le _, (tPart_zero _ _).symm, HI0.out, Fr.refl _ _⟩
  case round =>
    rename World => wx
    obtain ⟨k, ys, rfl, hk, hys, hi, hf⟩ := hrel
    have hl : ys.length = n := by
      have := congrArg List.length hys
      rw [List.length_map, tPart_length, List.length_map, HN.out] at this
      exact this
    have c4 : wx.cell? ⟨tb, 0, none⟩ = some (.slice (some ⟨rb, 0, none⟩) n cap) := by rw [← hl]; exact hi.tr.cell 0
    have HYS := Lib.hid hys
    have HF := Lib.hid hf
    have HL := Lib.hid hl
    have hsz : W.heap.size ≤ wx.heap.size := hf.size
    clear hys hf hl
    by_cases hlt : k < n
    · have t1 : (k : Int) < (n : Int) := by omega
      have e1 : IntKind.i64.wrap ((k : Int) + 1) = ((k + 1 : Nat) : Int) := IntWalk.i64_in _ (by omega)
      obtain ⟨y, hy⟩ : ∃ y, ys[k]? = some y := ⟨_, List.getElem?_eq_getElem (by rw [HL.out]; exact hlt)⟩
      have h0 : (ys0.map TS.x)[k]? = some y.x := by
        have this : (ys.map TS.x)[k]? = (tPart Sec.flushed (ys0.map TS.x) k)[k]? := by rw [HYS.out]
        rw [tPart_at _ _ _ (by rw [List.length_map, HN.out]; exact hlt), List.getElem?_map, hy] at this
        exact this.symm
      have HS := Lib.hid (tPart_step Sec.flushed _ _ _ h0)
      clear h0
      obtain ⟨c0, c1, c2, cf⟩ := hi.at_ k y hy
      have hd := hi.rd y (List.mem_of_getElem? hy)
      have hrb := hi.rb_lt
      by_cases hkn : y.x.kn = true
      · have hfl : y.x.flushed = ⟨[y.x.val], true, y.x.val⟩ := by unfold Sec.flushed; rw [if_pos hkn, hkn]
        rw [hkn] at c1
        have hb : Below wx.heap.size wx (wx.alloc (.cells #[.int .u64 (y.x.val : Int)] 26)) := (Below.refl _ _).alloc (Nat.le_refl _) _
        have hi2 := hi.keep hb
        obtain ⟨k0, k1, k2, kf⟩ := hi2.at_ k y hy
        have j0 := kf (k * 3)
        have ho : (wx.alloc (.cells #[.int .u64 (y.x.val : Int)] 26)).ownsRow 0 26 1 (.slice (some ⟨wx.heap.size, 0, none⟩) 1 1) 1 (uv [y.x.val]) := own_one wx y.x.val
        have H1 := Lib.hid (hi2.put0 k y hy wx.heap.size 1 [y.x.val] ho (by simp) (.inr hsz) (by intro z hz; rw [List.mem_singleton.1 hz]; exact hd.2.2.2.2))
        have HFL := Lib.hid hfl
        have HKN := Lib.hid hkn
        have HF2 : Hid (Fr G W (wx.alloc (.cells #[.int .u64 (y.x.val : Int)] 26))) := HF.out.alloc _
        have HW : Hid ((wx.alloc (.cells #[.int .u64 (y.x.val : Int)] 26)).setCell ⟨rb, k * 3, none⟩ (.slice (some ⟨wx.heap.size, 0, none⟩) [y.x.val].length 1) = (wx.setCell ⟨rb, k * 3, none⟩ (.slice (some ⟨wx.heap.size, 0, none⟩) 1 1)).alloc (.cells #[.int .u64 (y.x.val : Int)] 26)) := World.setCell_alloc_past _ _ _ _ hrb
        clear hi hi2 hy cf hd hfl kf ho hb hkn k1 k2
        unfold TS.v at k0 c0
        go_wp2_with fail
        go_roundw
        case rel =>
          refine ⟨k + 1, _, by go_num, by omega, ?_, HW.out ▸ H1.out, HW.out ▸ HF2.out.set (.inl hgr) _⟩
          rw [List.map_set, HYS.out, ← HS.out, HFL.out, HKN.out]
        case measure => simp [intOf]; omega
      · have hfl : y.x.flushed = y.x := by unfold Sec.flushed; rw [if_neg hkn]
        have hkf : y.x.kn = false := by simpa using hkn
        rw [hkf] at c1
        rw [hfl] at HS
        have HYE : Hid (ys.map TS.x = tPart Sec.flushed (ys0.map TS.x) (k + 1)) := by
          show _ = _
          rw [← HS.out, ← HYS.out]
          apply List.ext_getElem?
          intro j
          by_cases e : k = j
          · subst e
            rw [List.getElem?_set_self (by rw [List.length_map, HL.out]; exact hlt), List.getElem?_map, hy]
            rfl
          · rw [List.getElem?_set_ne e]
        have HI := Lib.hid hi
        clear hi hy cf hd hfl hkn hkf
        go_wp2_with fail
        go_roundw
        case rel => exact ⟨k + 1, ys, by go_num, by omega, HYE.out, HI.out, HF.out⟩
        case measure => simp [intOf]; omega
    · have hkn : k = n := by omega
      subst hkn
      go_wp2_with fail
      refine bodyPost_end (v := .tuple #[]) (by simp [results, Tryz.f75, go_sem]) rfl ?_
      refine ⟨rfl, _, ⟨rb, cap, ys, ?_, hi⟩, HF.out, fun j hj => hj⟩
      rw [HYS.out]
      have := tPart_all Sec.flushed (ys0.map TS.x)
      rw [List.length_map, HN.out] at this
      exact this

end Go.Proofs.YtogchafnnkajfaaGreat

namespace Go.Proofs.YtogchafnnkajfaaGreat
set_option linter.unusedVariables false
open Go.RowKit
attribute [local go_sem] Oper.semAt_some

set_option maxRecDepth 100000 in
set_option maxHeartbeats 4000000 in
theorem reads_any (W : World) (G : Nat → Prop) (tb : Nat) (t : List Sec) (h : TrAt W G tb t) (a v : Nat) (st : Bool) (ha : a < t.length) (hv : v < 18446744073709551616) (hm : tMay t a v) (hb : (tAt t a).sm.length ≤ 100000) (ht : t.length ≤ 100000) :
    Calls Tryz.prog 74 #[.pointer (some ⟨tb, 0, none⟩), .int .i64 (a : Int), .int .u64 (v : Int), .bool st] W fun e w' => e = .returned (.bool true) ∧ ∃ G', TrAt w' G' tb (tRead t a v st) ∧ Turn G G' W w' := by
  obtain ⟨rb, cap, ys, rfl, hi⟩ := h
  rw [List.length_map] at ha ht
  obtain ⟨y, hy⟩ : ∃ y, ys[a]? = some y := ⟨_, List.getElem?_eq_getElem ha⟩
  unfold tMay at hm
  rw [tAt_map hy] at hb hm
  obtain ⟨c0, c1, c2, cf⟩ := hi.at_ a y hy
  have c4 : W.cell? ⟨tb, 0, none⟩ = some (.slice (some ⟨rb, 0, none⟩) ys.length cap) := hi.tr.cell 0
  have hrd := hi.rd y (List.mem_of_getElem? hy)
  have HI := Lib.hid hi
  have HY := Lib.hid hy
  have HD := Lib.hid hrd
  have HO := Lib.hid hrd.1
  have hrbl := hi.rb_lt
  have hgr := hi.gr
  obtain ⟨L, hL⟩ : ∃ L, y.x.sm.length = L := ⟨_, rfl⟩
  have HL := Lib.hid hL
  unfold TS.v at c0
  rw [hL] at c0 hb
  have f0 := cf (a * 3)
  have f1 := cf (a * 3 + 1)
  have f2 := cf (a * 3 + 2)
  have t1 : ¬ (a : Int) < 0 := by omega
  have t2 : ¬ (ys.length : Int) ≤ (a : Int) := by omega
  have t3 : (a : Int) < (ys.length : Int) := by omega
  have hlt := HI.out
  have han : a < ys.length := ha
  clear hi hy hL hrd cf hlt
  obtain ⟨n, hnn⟩ : ∃ n, ys.length = n := ⟨_, rfl⟩
  rw [hnn] at c4 t2 t3
  clear hnn
  rcases hk : y.x.kn with _ | _
  · unfold Sec.may at hm
    rw [hk, if_neg (by decide)] at hm
    rw [hk] at c1
    have HK := Lib.hid hk
    obtain ⟨mm, hmm⟩ := List.mem_iff_getElem?.1 hm
    have hmL : mm < L := by rw [← HL.out]; exact (List.getElem?_eq_some_iff.1 hmm).1
    have HMM := Lib.hid hmm
    clear hk hm hmm
    go_enter Tryz.func74, Tryz.ntmps74
    go_wp2_with fail
    go_loopw [10, 11] (fun s10 s11 wx => ∃ (b : Bool) (i : Nat), s10 = .bool b ∧ s11 = .int .i64 i ∧ i ≤ L ∧ wx = W ∧ (mm < i → b = true)) (fun _ s11 _ => L - (intOf s11).toNat)
    case atStart => exact ⟨false, 0, rfl, rfl, Nat.zero_le _, rfl, fun h => by omega⟩
    case round =>
      obtain ⟨b, i, rfl, rfl, hil, rfl, hbt⟩ := hrel
      by_cases hlt : i < L
      · have t5 : (i : Int) < (L : Int) := by omega
        have e1 : IntKind.i64.wrap ((i : Int) + 1) = ((i + 1 : Nat) : Int) := IntWalk.i64_in _ (by omega)
        obtain ⟨z, hz⟩ : ∃ z, y.x.sm[i]? = some z := ⟨_, List.getElem?_eq_getElem (by rw [HL.out]; exact hlt)⟩
        have k0 : wr.cell? ⟨y.b, i, none⟩ = some (.int .u64 (z : Int)) := (HO.out.cellAt i (by rw [HL.out]; omega)).trans (by simp [uv, hz])
        have HQ : Hid (i = mm → z = v) := by
          intro e
          rw [e, HMM.out] at hz
          injection hz with hz
          exact hz.symm
        clear hz
        cases b
        · by_cases hzv : z = v
          · have t6 : ((z : Int) == (v : Int)) = true := by rw [hzv]; simp
            clear hzv
            go_wp2_with fail
            go_roundw
            case rel => exact ⟨true, i + 1, rfl, by go_num, by omega, (by first | rfl | trivial), fun _ => rfl⟩
            case measure => simp [intOf]; omega
          · have t6 : ((z : Int) == (v : Int)) = false := by simp; omega
            have HNE : Hid (¬ i = mm) := fun e => hzv (HQ.out e)
            clear hzv
            go_wp2_with fail
            go_roundw
            case rel => exact ⟨false, i + 1, rfl, by go_num, by omega, (by first | rfl | trivial), fun h => by have := HNE.out; exact hbt (by omega)⟩
            case measure => simp [intOf]; omega
        · go_wp2_with fail
          go_roundw
          case rel => exact ⟨true, i + 1, rfl, by go_num, by omega, (by first | rfl | trivial), fun _ => rfl⟩
          case measure => simp [intOf]; omega
      · have hb1 : b = true := hbt (by omega)
        subst hb1
        have h1 := HI.out.put1 a y HY.out true
        obtain ⟨k0, k1, k2, kf⟩ := h1.at_ a _ (List.getElem?_set_self han)
        have j2 := kf (a * 3 + 2)
        have h2 := h1.put2 a _ (List.getElem?_set_self han) v hv
        obtain ⟨m0, m1, m2, mf⟩ := h2.at_ a _ (List.getElem?_set_self (by rw [List.length_set]; exact han))
        have j0 := mf (a * 3)
        have HR0 : Hid (tRead (ys.map TS.x) a v false = ((ys.set a ⟨y.b, y.c, ⟨y.x.sm, true, y.x.val⟩⟩).set a ⟨y.b, y.c, ⟨y.x.sm, true, v⟩⟩).map TS.x) := by
          show _ = _
          unfold tRead Sec.read
          rw [tAt_map HY.out, if_neg (by rw [HK.out]; decide)]
          simp only [List.map_set, List.set_set]
          rfl
        have HR1 : Hid (∀ b c, tRead (ys.map TS.x) a v true = (((ys.set a ⟨y.b, y.c, ⟨y.x.sm, true, y.x.val⟩⟩).set a ⟨y.b, y.c, ⟨y.x.sm, true, v⟩⟩).set a ⟨b, c, ⟨[v], true, v⟩⟩).map TS.x) := by
          show ∀ b c, _ = _
          intro b c
          unfold tRead Sec.read
          rw [tAt_map HY.out, if_neg (by rw [HK.out]; decide)]
          simp only [List.map_set, List.set_set]
          rfl
        have hF2 : Fr G wr ((wr.setCell ⟨rb, a * 3 + 1, none⟩ (.bool true)).setCell ⟨rb, a * 3 + 2, none⟩ (.int .u64 (v : Int))) := ((Fr.refl G wr).set (.inl hgr) _).set (.inl hgr) _
        have H2 := Lib.hid h2
        have HF2 := Lib.hid hF2
        cases st
        · clear h1 h2 hF2 k0 k1 m1 m2 m0 j0 mf kf
          go_wp2_with fail
          go_ret
          exact ⟨rfl, G, ⟨rb, cap, _, HR0.out.symm, H2.out⟩, HF2.out, fun j hj => .inl hj⟩
        · have hb0 : Below ((wr.setCell ⟨rb, a * 3 + 1, none⟩ (.bool true)).setCell ⟨rb, a * 3 + 2, none⟩ (.int .u64 (v : Int))).heap.size ((wr.setCell ⟨rb, a * 3 + 1, none⟩ (.bool true)).setCell ⟨rb, a * 3 + 2, none⟩ (.int .u64 (v : Int))) (((wr.setCell ⟨rb, a * 3 + 1, none⟩ (.bool true)).setCell ⟨rb, a * 3 + 2, none⟩ (.int .u64 (v : Int))).alloc (.cells #[.int .u64 (v : Int)] 26)) := (Below.refl _ _).alloc (Nat.le_refl _) _
          have h3 := (h2.wider wr.heap.size).keep hb0
          have hsz : wr.heap.size ≤ ((wr.setCell ⟨rb, a * 3 + 1, none⟩ (.bool true)).setCell ⟨rb, a * 3 + 2, none⟩ (.int .u64 (v : Int))).heap.size := hF2.size
          have hrb2 := h2.rb_lt
          have h4 := h3.put0 a _ (List.getElem?_set_self (by rw [List.length_set]; exact han)) ((wr.setCell ⟨rb, a * 3 + 1, none⟩ (.bool true)).setCell ⟨rb, a * 3 + 2, none⟩ (.int .u64 (v : Int))).heap.size 1 [v] (own_one _ v) (by simp) (.inr hsz) (by intro z hz; exact (List.mem_singleton.1 hz) ▸ hv)
          have HW : Hid ((((wr.setCell ⟨rb, a * 3 + 1, none⟩ (.bool true)).setCell ⟨rb, a * 3 + 2, none⟩ (.int .u64 (v : Int))).alloc (.cells #[.int .u64 (v : Int)] 26)).setCell ⟨rb, a * 3, none⟩ (.slice (some ⟨((wr.setCell ⟨rb, a * 3 + 1, none⟩ (.bool true)).setCell ⟨rb, a * 3 + 2, none⟩ (.int .u64 (v : Int))).heap.size, 0, none⟩) [v].length 1) = (((wr.setCell ⟨rb, a * 3 + 1, none⟩ (.bool true)).setCell ⟨rb, a * 3 + 2, none⟩ (.int .u64 (v : Int))).setCell ⟨rb, a * 3, none⟩ (.slice (some ⟨((wr.setCell ⟨rb, a * 3 + 1, none⟩ (.bool true)).setCell ⟨rb, a * 3 + 2, none⟩ (.int .u64 (v : Int))).heap.size, 0, none⟩) 1 1)).alloc (.cells #[.int .u64 (v : Int)] 26)) := World.setCell_alloc_past _ _ _ _ hrb2
          have hse : ((wr.setCell ⟨rb, a * 3 + 1, none⟩ (.bool true)).setCell ⟨rb, a * 3 + 2, none⟩ (.int .u64 (v : Int))).heap.size = wr.heap.size := by simp
          rw [HW.out, hse] at h4
          have H4 := Lib.hid h4
          have HF4 := Lib.hid ((hF2.set (b := rb) (i := a * 3) (.inl hgr) (.slice (some ⟨wr.heap.size, 0, none⟩) 1 1)).alloc (.cells #[.int .u64 (v : Int)] 26))
          clear h1 h2 h3 h4 hF2 k0 k1 m1 m2 mf kf hb0 HW hsz hrb2 hse
          unfold TS.v at m0
          go_wp2_with fail
          go_ret
          exact ⟨rfl, _, ⟨rb, cap, _, (HR1.out _ _).symm, H4.out⟩, HF4.out, fun j hj => hj⟩
  · unfold Sec.may at hm
    rw [hk, if_pos rfl] at hm
    subst hm
    rw [hk] at c1
    have HR : Hid (tRead (ys.map TS.x) a y.x.val st = ys.map TS.x) := by
      show _ = _
      unfold tRead Sec.read
      rw [tAt_map HY.out, if_pos hk]
      apply List.ext_getElem?
      intro j
      by_cases e : a = j
      · subst e
        rw [List.getElem?_set_self (by rw [List.length_map]; exact han), List.getElem?_map, HY.out]
        rfl
      · rw [List.getElem?_set_ne e]
    clear hk
    go_enter Tryz.func74, Tryz.ntmps74
    go_wp2_with fail
    go_ret
    exact ⟨rfl, G, ⟨rb, cap, ys, HR.out.symm, HI.out⟩, Turn.refl _ _⟩

end Go.Proofs.YtogchafnnkajfaaGreat

namespace Go.Proofs.YtogchafnnkajfaaGreat
set_option linter.unusedVariables false
open Go.RowKit

/-- The fields of a head word. -/
theorem hd_fields (K L C d : Nat) (hK : K < 2048) (hL : L < 128) (hC : C < 4) (hd : d < 2) :
    hform (hdW K L C d) = true ∧ hdW K L C d % 2048 = K ∧ hdW K L C d / 2048 % 128 = L ∧ hdW K L C d / 262144 % 4 = C ∧ hdW K L C d / 1048576 % 2 = d ∧ hdW K L C d / 9007199254740992 = 0 := by
  have hlt := hdW_lt K L C d hK hL hC hd
  have hB : clr (hdW K L C d) 21 = hdB K L C d := by
    have hs := sumW_lt (hdB K L C d)
    unfold clr hdW
    generalize sumW (hdB K L C d) = q at *
    unfold hdB
    simp only [Nat.reducePow, Nat.reduceAdd]
    omega
  have hs := sumW_lt (hdB K L C d)
  refine ⟨?_, ?_, ?_, ?_, ?_, Nat.div_eq_of_lt hlt⟩
  · unfold hform
    rw [hB]
    unfold hdW
    generalize sumW (hdB K L C d) = q at *
    unfold hdB
    apply decide_eq_true
    constructor <;> omega
  all_goals
    unfold hdW
    generalize sumW (hdB K L C d) = q at *
    unfold hdB
    omega

theorem hdI_fields (n : Nat) (chunk mode : Int) (op : Bool) (hn : n < 2048) (hc : 0 ≤ chunk ∧ chunk < 128) (hm : 0 ≤ mode ∧ mode < 4) :
    hform (hdI n chunk mode op) = true ∧ hdI n chunk mode op % 2048 = n ∧ ((hdI n chunk mode op / 2048 % 128 : Nat) : Int) = chunk ∧ ((hdI n chunk mode op / 262144 % 4 : Nat) : Int) = mode ∧ hdI n chunk mode op / 1048576 % 2 = b01 op ∧ hdI n chunk mode op / 9007199254740992 = 0 := by
  have h := hd_fields (n % 2048) (chunk % 128).toNat (mode % 4).toNat (b01 op) (Nat.mod_lt _ (by omega)) (by omega) (by omega) (b01_lt op)
  unfold hdI
  obtain ⟨h1, h2, h3, h4, h5, h6⟩ := h
  refine ⟨h1, by rw [h2]; omega, by rw [h3]; omega, by rw [h4]; omega, h5, h6⟩

/-- The empty slot. -/
def Sl.nil : Sl := ⟨false, false, 0, 0⟩
theorem setZ_at (l : List Nat) (k j : Nat) (h : j < k) (hl : 1 + j < l.length) : (setZ l k)[1 + j]?.getD 0 = 0 := by
  induction k with
  | zero => omega
  | succ k ih =>
    rw [setZ]
    by_cases e : j = k
    · subst e
      rw [List.getElem?_set_self (by rw [setZ_length]; exact hl)]
      rfl
    · rw [List.getElem?_set_ne (by omega)]
      exact ih (by omega)
theorem setZ_0 (l : List Nat) (k : Nat) : (setZ l k)[0]? = l[0]? := by
  induction k with
  | zero => rfl
  | succ k ih => rw [setZ, List.getElem?_set_ne (by omega), ih]

theorem seenB_nil (ws : List Nat) (k : Nat) (h : ∀ j, j < k → ws[1 + j]?.getD 0 = 0) : seenB ws k = [] ∧ allOk ws k = true ∧ slotsU ws k = List.replicate k Sl.nil := by
  induction k with
  | zero => exact ⟨rfl, rfl, rfl⟩
  | succ k ih =>
    obtain ⟨h1, h2, h3⟩ := ih (fun j hj => h j (by omega))
    have h0 := h k (by omega)
    refine ⟨?_, ?_, ?_⟩
    · rw [seenB, h0, h1]; rfl
    · rw [allOk, h2, okAt, h0, h1]; rfl
    · rw [slotsU_succ, h3, h0, List.replicate_succ']; rfl

theorem fmtW_len (now : List Nat) (k : Nat) (chunk : Int) : (fmtW now k chunk).length = now.length := by rw [fmtW_eq, setZ_length, List.length_set]
theorem setZ_hd (now : List Nat) (k w : Nat) (h : 1 ≤ now.length) : (setZ (now.set 0 w) k)[0]?.getD 0 = w := by
  rw [setZ_0, List.getElem?_set_self (by omega), Option.getD_some]
theorem fmtW_0 (now : List Nat) (k : Nat) (chunk : Int) (h : 1 ≤ now.length) : (fmtW now k chunk)[0]?.getD 0 = hdI k chunk 0 false := by
  rw [fmtW_eq]
  exact setZ_hd now k _ h
theorem fmtW_z (now : List Nat) (k : Nat) (chunk : Int) (hkn : k + 1 ≤ now.length) (j : Nat) (hj : j < k) : (fmtW now k chunk)[1 + j]?.getD 0 = 0 := by
  rw [fmtW_eq]
  generalize hdI k chunk 0 false = w
  exact setZ_at _ _ _ hj (by rw [List.length_set]; omega)
theorem open_good (ws : List Nat) (w k n : Nat) (h0 : ws[0]?.getD 0 = w) (h1 : hform w = true) (h2 : w % 2048 = k) (hn : ws.length = n) (hb : hbad w n = false) (ha : allOk ws k = true) : openE ws = 0 := by
  unfold openE
  rw [h0, h1, h2, hn, hb, ha]
  rfl
theorem hbad_no (w k n : Nat) (h2 : w % 2048 = k) (hk : 1 ≤ k ∧ k ≤ 1024) (hkn : k + 1 ≤ n) (h3 : 1 ≤ w / 2048 % 128 ∧ w / 2048 % 128 ≤ 64) (h4 : w / 262144 % 4 ≠ 3) (h6 : w / 9007199254740992 = 0) : hbad w n = false := by
  unfold hbad
  generalize w / 9007199254740992 = z at *
  generalize w / 2048 % 128 = y at *
  generalize w / 262144 % 4 = x at *
  generalize w % 2048 = v at *
  exact decide_eq_false (by omega)
/-- What Open finds behind Format. -/
theorem open_fmt (now : List Nat) (k : Nat) (chunk : Int) (hk : 1 ≤ k ∧ k ≤ 1024) (hkn : k + 1 ≤ now.length) (hc : 1 ≤ chunk ∧ chunk ≤ 64) :
    openE (fmtW now k chunk) = 0 ∧ (fmtW now k chunk)[0]?.getD 0 = hdI k chunk 0 false ∧ slotsU (fmtW now k chunk) k = List.replicate k Sl.nil ∧ (fmtW now k chunk).length = now.length := by
  have h := hdI_fields k chunk 0 false (by omega) (by omega) (by omega)
  have e0 := fmtW_0 now k chunk (by omega)
  have hl := fmtW_len now k chunk
  have hz := seenB_nil (fmtW now k chunk) k (fmtW_z now k chunk hkn)
  generalize hdI k chunk 0 false = w at *
  generalize fmtW now k chunk = ws at *
  obtain ⟨h1, h2, h3, h4, h5, h6⟩ := h
  refine ⟨open_good ws w k now.length e0 h1 h2 hl (hbad_no w k now.length h2 hk hkn ?_ ?_ h6) hz.2.1, e0, hz.2.2, hl⟩
  · clear h1 h2 h4 h5 h6
    generalize w / 2048 % 128 = y at *
    omega
  · clear h1 h2 h3 h5 h6
    generalize w / 262144 % 4 = y at *
    omega


end Go.Proofs.YtogchafnnkajfaaGreat

namespace Go.Proofs.YtogchafnnkajfaaGreat
set_option linter.unusedVariables false

/-- Where all is durable. -/
theorem VI.of_stl {C : VC} {S : DS} {sl : List Sl} {pm : Bool} (hea : Hea S [C.n0, C.n1, C.n2]) (h0 : Stl S 0) (h1 : Stl S 1) (h2 : Stl S 2) (n2 : C.n2 = sl.length + 1) (n1 : sl.length * C.chunk ≤ C.n1) (ch : 1 ≤ C.chunk)
    (uq : ∀ (i j : Nat) (x y : Sl), sl[i]? = some x → sl[j]? = some y → x.valid = true → y.valid = true → x.block = y.block → i = j)
    (wh : ∀ (k : Nat) (x : Sl), sl[k]? = some x → x.valid = true → (0 ≤ x.block ∧ x.block ≤ 16777215) ∧ x.block.toNat * C.chunk + C.chunk ≤ C.n0)
    (hd : (S.now 2)[0]? = some (hdI sl.length (C.chunk : Int) (if pm = true then 2 else 1) true)) (wd : ∀ (k : Nat) (x : Sl), sl[k]? = some x → (S.now 2)[1 + k]? = some x.word)
    (nd : pm = false → ∀ (k : Nat) (x : Sl), sl[k]? = some x → x.dirty = false)
    (ceq : ∀ (k : Nat) (x : Sl) (i : Nat), sl[k]? = some x → x.valid = true → x.dirty = false → i < C.chunk → (S.now 1)[k * C.chunk + i]? = (S.now 0)[x.block.toNat * C.chunk + i]?)
    (nl : ∀ (k : Nat) (x : Sl), sl[k]? = some x → x.valid = false → x.dirty = false) : VI C S sl pm (VV C S sl) := by
  have hw : ∀ (k : Nat) (x : Sl) (w : Nat), sl[k]? = some x → S.Cand 2 (1 + k) w → w = x.word := by
    intro k x w hx hc
    have := h2 _ _ hc
    rw [wd k x hx] at this
    injection this with this
    exact this.symm
  have hk : VK C S sl pm (fun _ _ => True) := by
    refine ⟨hea, n2, n1, ch, uq, wh, fun v hv => ?_, fun k x w hx hc => ?_, fun e k x hx hv hc => ?_, fun _ _ _ _ _ _ _ _ => trivial, fun _ _ _ _ _ _ _ _ _ _ _ => trivial, fun _ _ _ _ _ => trivial⟩
    · have := h2 _ _ hv
      rw [hd] at this
      injection this with this
      exact this.symm
    · rw [hw k x w hx hc]
      rcases hv : x.valid with _ | _
      · exact .inl (word_no hv)
      · exact .inr ⟨rfl, _, word_yes hv⟩
    · have e1 := hw k x _ hx hc
      rw [word_yes hv, nd e k x hx] at e1
      have := (dwd_inj (wh k x hx hv).1 (wh k x hx hv).1 e1).2
      cases this
  exact VI.calm ⟨hk, wd, ceq, nl⟩ h0 h1 h2

/-- What is given up at Open. -/
theorem bg1_spec (md : Int) (R : RV) (hm : R.m.length = R.x.sl.length + 1) (k : Nat) (hk : k ≤ R.x.sl.length) :
    (R.bg1 md k).o = R.o ∧ (R.bg1 md k).f = R.f ∧ (R.bg1 md k).x.clk = R.x.clk ∧ (R.bg1 md k).x.ms = R.x.ms ∧ (R.bg1 md k).x.sl.length = R.x.sl.length ∧ (R.bg1 md k).m.length = R.m.length ∧ (R.bg1 md k).m[0]? = R.m[0]? ∧
    ∀ (j : Nat) (y : Sl), R.x.sl[j]? = some y → (R.bg1 md k).x.sl[j]? = some (if j < k ∧ gone md y = true then nilS else y) ∧ (R.bg1 md k).m[1 + j]? = if j < k ∧ gone md y = true then some 0 else R.m[1 + j]? := by
  induction k with
  | zero =>
    refine ⟨rfl, rfl, rfl, rfl, rfl, rfl, rfl, fun j y hy => ?_⟩
    rw [if_neg (by omega), if_neg (by omega)]
    exact ⟨hy, rfl⟩
  | succ k ih =>
    obtain ⟨i1, i2, i3, i4, i5, i6, i7, i8⟩ := ih (by omega)
    obtain ⟨y, hy⟩ : ∃ y, R.x.sl[k]? = some y := ⟨_, List.getElem?_eq_getElem (by omega)⟩
    have hky := (i8 k y hy).1
    rw [if_neg (by omega)] at hky
    rw [RV.bg1, CS.at_eq hky]
    by_cases hg : gone md y = true
    · rw [if_pos hg]
      refine ⟨i1, i2, i3, i4, by show (List.set _ _ _).length = _; rw [List.length_set]; exact i5, by show (List.set _ _ _).length = _; rw [List.length_set]; exact i6, by show (List.set _ _ _)[0]? = _; rw [List.getElem?_set_ne (by omega)]; exact i7, fun j z hz => ?_⟩
      obtain ⟨a1, a2⟩ := i8 j z hz
      by_cases e : j = k
      · subst e
        rw [hy] at hz
        injection hz with hz
        subst hz
        rw [if_pos ⟨by omega, hg⟩, if_pos ⟨by omega, hg⟩]
        exact ⟨List.getElem?_set_self (by rw [i5]; omega), List.getElem?_set_self (by rw [i6]; omega)⟩
      · have e1 : (j < k + 1) ↔ (j < k) := by omega
        simp only [e1]
        refine ⟨?_, ?_⟩
        · show (List.set _ _ _)[j]? = _
          rw [List.getElem?_set_ne (fun e' => e e'.symm)]
          exact a1
        · show (List.set _ _ _)[1 + j]? = _
          rw [List.getElem?_set_ne (by omega)]
          exact a2
    · rw [if_neg hg]
      refine ⟨i1, i2, i3, i4, i5, i6, i7, fun j z hz => ?_⟩
      obtain ⟨a1, a2⟩ := i8 j z hz
      by_cases e : j = k
      · subst e
        rw [hy] at hz
        injection hz with hz
        subst hz
        rw [if_neg (fun e => by omega)] at a1 a2
        rw [if_neg (fun e => hg e.2), if_neg (fun e => hg e.2)]
        exact ⟨a1, a2⟩
      · have e1 : (j < k + 1) ↔ (j < k) := by omega
        simp only [e1]
        exact ⟨a1, a2⟩

/-- A slot that was written back. -/
def cleaned (y : Sl) : Sl := { y with dirty := false }
/-- What is written back at Open. -/
theorem bg3_spec (c n0 : Nat) (hc : 1 ≤ c) (R : RV) (hm : R.m.length = R.x.sl.length + 1) (ho : R.o.length = n0) (hf : R.x.sl.length * c ≤ R.f.length)
    (hnl : ∀ (j : Nat) (y : Sl), R.x.sl[j]? = some y → y.dirty = true → y.valid = true) (hwh : ∀ (j : Nat) (y : Sl), R.x.sl[j]? = some y → y.valid = true → 0 ≤ y.block ∧ y.block.toNat * c + c ≤ n0)
    (huq : ∀ (i j : Nat) (x y : Sl), R.x.sl[i]? = some x → R.x.sl[j]? = some y → x.valid = true → y.valid = true → x.block = y.block → i = j) (hwd : ∀ (j : Nat) (y : Sl), R.x.sl[j]? = some y → R.m[1 + j]? = some y.word) (k : Nat) (hk : k ≤ R.x.sl.length) :
    (R.bg3 c k).f = R.f ∧ (R.bg3 c k).x.clk = R.x.clk ∧ (R.bg3 c k).x.ms = R.x.ms ∧ (R.bg3 c k).x.sl.length = R.x.sl.length ∧ (R.bg3 c k).m.length = R.m.length ∧ (R.bg3 c k).o.length = n0 ∧
    (∀ (j : Nat) (y : Sl), R.x.sl[j]? = some y → (R.bg3 c k).x.sl[j]? = some (if j < k then cleaned y else y) ∧ (R.bg3 c k).m[1 + j]? = some (if j < k then (cleaned y).word else y.word)) ∧
    (∀ (j : Nat) (y : Sl) (i : Nat), R.x.sl[j]? = some y → y.valid = true → y.dirty = true → j < k → i < c → (R.bg3 c k).o[y.block.toNat * c + i]? = R.f[j * c + i]?) ∧
    (∀ a, (∀ (j : Nat) (y : Sl), R.x.sl[j]? = some y → y.valid = true → y.dirty = true → ¬ (y.block.toNat * c ≤ a ∧ a < y.block.toNat * c + c)) → (R.bg3 c k).o[a]? = R.o[a]?) := by
  induction k with
  | zero =>
    refine ⟨rfl, rfl, rfl, rfl, rfl, ho, fun j y hy => ?_, fun j y i _ _ _ hj => by omega, fun _ _ => rfl⟩
    rw [if_neg (by omega), if_neg (by omega)]
    exact ⟨hy, hwd j y hy⟩
  | succ k ih =>
    obtain ⟨i1, i2, i3, i4, i5, i6, i7, i8, i9⟩ := ih (by omega)
    obtain ⟨y, hy⟩ : ∃ y, R.x.sl[k]? = some y := ⟨_, List.getElem?_eq_getElem (by omega)⟩
    have hky := (i7 k y hy).1
    rw [if_neg (by omega)] at hky
    rw [RV.bg3, CS.at_eq hky]
    have hsplit : ∀ (j : Nat) (z : Sl), R.x.sl[j]? = some z → j ≠ k → ((if j < k + 1 then cleaned z else z) = if j < k then cleaned z else z) ∧ ((if j < k + 1 then (cleaned z).word else z.word) = if j < k then (cleaned z).word else z.word) := by
      intro j z _ e
      have e1 : (j < k + 1) ↔ (j < k) := by omega
      simp only [e1]
      exact ⟨trivial, trivial⟩
    rcases hd : y.dirty with _ | _
    · rw [if_neg (by simp)]
      have hcy : cleaned y = y := by
        obtain ⟨yv, yd, yb, ys⟩ := y
        obtain rfl : yd = false := hd
        rfl
      refine ⟨i1, i2, i3, i4, i5, i6, fun j z hz => ?_, fun j z i hz hzv hzd hj hi => ?_, i9⟩
      · by_cases e : j = k
        · subst e
          rw [hy] at hz
          injection hz with hz
          subst hz
          have := i7 j y hy
          rw [if_neg (by omega), if_neg (by omega)] at this
          rw [if_pos (by omega), if_pos (by omega), hcy]
          exact this
        · obtain ⟨e1, e2⟩ := hsplit j z hz e
          rw [e1, e2]
          exact i7 j z hz
      · by_cases e : j = k
        · subst e
          rw [hy] at hz
          injection hz with hz
          subst hz
          rw [hd] at hzd
          cases hzd
        · exact i8 j z i hz hzv hzd (by omega) hi
    · rw [if_pos rfl]
      have hv := hnl k y hy hd
      obtain ⟨hb0, hbn⟩ := hwh k y hy hv
      have hkf : k * c + c ≤ R.f.length := by
        have := Nat.mul_le_mul_right c (show k + 1 ≤ R.x.sl.length by omega)
        rw [Nat.add_mul, Nat.one_mul] at this
        omega
      have hsd : ((R.bg3 c k).x.setD k false) = ⟨(R.bg3 c k).x.sl.set k (cleaned y), (R.bg3 c k).x.clk, (R.bg3 c k).x.ms⟩ := by unfold CS.setD; rw [CS.at_eq hky]; rfl
      have hbk : (R.bg3 c k).back c k true = ⟨cpL (R.bg3 c k).o (y.block.toNat * c) R.f (k * c) c, R.f, (R.bg3 c k).m.set (1 + k) (cleaned y).word, ⟨(R.bg3 c k).x.sl.set k (cleaned y), (R.bg3 c k).x.clk, (R.bg3 c k).x.ms⟩⟩ := by
        unfold RV.back
        rw [CS.at_eq hky, hsd, at_set (by rw [i4]; omega), i1]
        rfl
      rw [hbk]
      refine ⟨rfl, i2, i3, by show (List.set _ _ _).length = _; rw [List.length_set]; exact i4, by show (List.set _ _ _).length = _; rw [List.length_set]; exact i5, by show (cpL _ _ _ _ _).length = _; rw [cpL_length]; exact i6, fun j z hz => ?_, fun j z i hz hzv hzd hj hi => ?_, fun a ha => ?_⟩
      · by_cases e : j = k
        · subst e
          rw [hy] at hz
          injection hz with hz
          subst hz
          rw [if_pos (by omega), if_pos (by omega)]
          exact ⟨List.getElem?_set_self (by rw [i4]; omega), List.getElem?_set_self (by rw [i5]; omega)⟩
        · obtain ⟨e1, e2⟩ := hsplit j z hz e
          rw [e1, e2]
          obtain ⟨a1, a2⟩ := i7 j z hz
          refine ⟨?_, ?_⟩
          · show (List.set _ _ _)[j]? = _
            rw [List.getElem?_set_ne (fun e' => e e'.symm)]
            exact a1
          · show (List.set _ _ _)[1 + j]? = _
            rw [List.getElem?_set_ne (by omega)]
            exact a2
      · show (cpL _ _ _ _ _)[_]? = _
        rw [cpL_at, i6]
        by_cases e : j = k
        · subst e
          rw [hy] at hz
          injection hz with hz
          subst hz
          rw [if_pos ⟨by omega, by omega, by omega⟩, show y.block.toNat * c + i - y.block.toNat * c = i by omega, List.getElem?_eq_getElem (by omega)]
          rfl
        · rw [if_neg]
          · exact i8 j z i hz hzv hzd (by omega) hi
          · rintro ⟨q1, q2, -⟩
            obtain ⟨hzb, -⟩ := hwh j z hz hzv
            have hdiv : z.block.toNat * c + i = y.block.toNat * c + (z.block.toNat * c + i - y.block.toNat * c) := by omega
            obtain ⟨eb, -⟩ := blk_eq hi (by omega) hdiv
            exact e (huq j k z y hz hy hzv hv (by omega))
      · show (cpL _ _ _ _ _)[_]? = _
        rw [cpL_at, if_neg]
        · exact i9 a ha
        · rintro ⟨q1, q2, -⟩
          exact ha k y hy hv hd ⟨q1, q2⟩

end Go.Proofs.YtogchafnnkajfaaGreat

namespace Go.Proofs.YtogchafnnkajfaaGreat
set_option linter.unusedVariables false

section
variable {C : VC} {V : VS}
theorem bg1_stl (h : NB C V) (hs : ∀ j, j < 2 → Stl V.S j) (k : Nat) (hk : k ≤ V.x.sl.length) : ∀ j, j < 2 → Stl (V.bg1 C k).S j := by
  induction k with
  | zero => exact hs
  | succ k ih =>
    obtain ⟨i1, i2, i3, i4⟩ := h.bg1 k (by omega)
    rw [VS.bg1]
    split
    · intro j hj
      exact (i1.nf.st k (by have := i1.n2; omega) nilS).2.2.2.2.2 j (by omega) (ih (by omega) j hj)
    · exact ih (by omega)
theorem bg3_stl (h : NB C V) (hs : ∀ j, j < 2 → Stl V.S j) (k : Nat) (hk : k ≤ V.x.sl.length) : ∀ j, j < 2 → Stl (V.bg3 C k).S j := by
  induction k with
  | zero => exact hs
  | succ k ih =>
    obtain ⟨i1, i2, i3, i4⟩ := h.bg3 k (by omega)
    obtain ⟨x, hx⟩ : ∃ x, (V.bg3 C k).x.sl[k]? = some x := ⟨_, List.getElem?_eq_getElem (by omega)⟩
    rw [VS.bg3, CS.at_eq hx]
    split
    · rename_i hd
      have hv := i1.dirty hx hd
      intro j hj
      exact (i1.nf.cl hx (by have := i1.n2; omega) (i1.fast hx) (i1.wh k x hx hv)).2.2.2.2.2 j (by omega) (ih (by omega) j hj)
    · exact ih (by omega)
theorem bgn_stl (h : NB C V) (hs : ∀ j, j < 2 → Stl V.S j) (mode : Int) : ∀ i, i < 3 → Stl (V.bgn C mode).S i := by
  have hA : ∀ j, j < 2 → Stl (V.bgA C).S j := by
    unfold VS.bgA
    split
    · intro j hj
      exact (bg1_stl h hs _ (Nat.le_refl _) j hj).shr ((h.bg1 _ (Nat.le_refl _)).1.nf.fl (i := 2) (n := C.n2) rfl).2.2.1
    · exact hs
  obtain ⟨a1, a2, a3, a4⟩ := h.bgA
  have hB : ∀ j, j < 2 → Stl (V.bgB C mode).S j := by
    unfold VS.bgB
    split
    · exact bg3_stl a1 hA _ (Nat.le_refl _)
    · exact hA
  obtain ⟨b1, b2, b3, b4⟩ := h.bgB mode
  obtain ⟨f1, f2, f3, f4, f5, f6, f7⟩ := b1.nf.first (by have := h.n2; omega) (hdI (V.bgB C mode).ss.length (C.chunk : Int) mode true)
  intro i hi
  by_cases e : i = 2
  · subst e; exact f6
  · exact (f7 i e).1 (hB i (by omega))
end

/-- A slot as Open keeps it. -/
def kept (md : Int) (op : Bool) (y : Sl) : Sl := if op = true ∧ gone md y = true then nilS else y
theorem kept_valid {md : Int} {op : Bool} {y : Sl} (h : (kept md op y).valid = true) : kept md op y = y ∧ ¬ (op = true ∧ gone md y = true) := by
  unfold kept at h ⊢
  split
  · rename_i hg
    rw [if_pos hg] at h
    cases h
  · rename_i hg
    exact ⟨rfl, hg⟩

/-- What is opened is sound. -/
theorem opn_vi {C : VC} {S : DS} {mode : Int} (hm : mode = 1 ∨ mode = 2) (h : NF C S) (hs : ∀ i, i < 3 → Stl S i) (he : openE (S.now 2) = 0) (hC : C.chunk = opC (S.now 2)) (h1 : ¬ C.n1 < opK (S.now 2) * opC (S.now 2)) (hb : badS (slotsU (S.now 2) (opK (S.now 2))) (C.n0 / opC (S.now 2)) = false) (hn2 : C.n2 = opK (S.now 2) + 1)
    (hceq : ∀ (j : Nat) (y : Sl) (i : Nat), (slotsU (S.now 2) (opK (S.now 2)))[j]? = some y → ¬ (opO (S.now 2) = true ∧ gone (opM (S.now 2)) y = true) → y.valid = true → y.dirty = false → i < C.chunk → (S.now 1)[j * C.chunk + i]? = (S.now 0)[y.block.toNat * C.chunk + i]?) :
    VI C ((opn0 S mode).bgn C mode).S ((opn0 S mode).bgn C mode).x.sl (decide (mode = 2)) (VV C ((opn0 S mode).bgn C mode).S ((opn0 S mode).bgn C mode).x.sl) ∧
    (∀ a v, VV C ((opn0 S mode).bgn C mode).S ((opn0 S mode).bgn C mode).x.sl a v → VV C S ((slotsU (S.now 2) (opK (S.now 2))).map (kept (opM (S.now 2)) (opO (S.now 2)))) a v) := by
  obtain ⟨o1, o2, o3, o4, o5⟩ := open_cs (S.now 2) he
  have hl := slotsU_length (S.now 2) (opK (S.now 2))
  have hNB := opn_nb (mode := mode) h he hC h1 hb
  obtain ⟨f1, f2, f3, f4⟩ := h.fl (i := 2) (n := C.n2) rfl
  have hst := bgn_stl hNB (fun j hj => (hs j (by omega)).shr f3) mode
  obtain ⟨b1, b2, b3, b4, b5, b6, b7, b8⟩ := hNB.bgn mode
  have hv0 : view (opn0 S mode) = ⟨S.now 0, S.now 1, S.now 2, ⟨slotsU (S.now 2) (opK (S.now 2)), 0, []⟩⟩ := by
    unfold view opn0
    dsimp only
    rw [show ((2 : Int)) = ((2 : Nat) : Int) from rfl, f3.now, f3.now, f3.now]
  rw [hv0] at b2
  have hmd : (opn0 S mode).md = opM (S.now 2) := rfl
  have hop : (opn0 S mode).op = opO (S.now 2) := rfl
  rw [hmd, hop] at b2
  have hl0 := (h.hea.nn 0 C.n0 rfl).1
  have hl1 := (h.hea.nn 1 C.n1 rfl).1
  have hl2 := (h.hea.nn 2 C.n2 rfl).1
  have hxl : (opn0 S mode).x.sl.length = opK (S.now 2) := hl
  rw [hxl] at b5
  have hwh0 := hNB.wh
  change ∀ (k : Nat) (x : Sl), (slotsU (S.now 2) (opK (S.now 2)))[k]? = some x → x.valid = true → x.block.toNat * C.chunk + C.chunk ≤ C.n0 at hwh0
  have hwd0 : ∀ (j : Nat) (y : Sl), (slotsU (S.now 2) (opK (S.now 2)))[j]? = some y → (S.now 2)[1 + j]? = some y.word := by
    intro j y hy
    have hj := (List.getElem?_eq_some_iff.1 hy).1
    rw [hl] at hj
    rw [slotsU_at _ _ j hj] at hy
    injection hy with hy
    rw [← hy]
    exact o5 j hj
  rw [← hC] at h1 o3
  generalize (opn0 S mode).bgn C mode = V at *
  generalize slotsU (S.now 2) (opK (S.now 2)) = ys at *
  generalize opK (S.now 2) = K at *
  generalize opM (S.now 2) = md at *
  generalize opO (S.now 2) = op at *
  -- the first part: what is given up
  have hA : ∃ R1 : RV, RV.bgA md op ⟨S.now 0, S.now 1, S.now 2, ⟨ys, 0, []⟩⟩ = R1 ∧ R1.o = S.now 0 ∧ R1.f = S.now 1 ∧ R1.x.sl.length = K ∧ R1.m.length = C.n2 ∧ ∀ (j : Nat) (y : Sl), ys[j]? = some y → R1.x.sl[j]? = some (kept md op y) ∧ R1.m[1 + j]? = some (kept md op y).word := by
    refine ⟨_, rfl, ?_⟩
    unfold RV.bgA
    cases op
    · rw [if_neg (by simp)]
      refine ⟨rfl, rfl, hl, hl2, fun j y hy => ?_⟩
      have e : kept md false y = y := by unfold kept; rw [if_neg (by simp)]
      rw [e]
      exact ⟨hy, hwd0 j y hy⟩
    · rw [if_pos rfl]
      obtain ⟨g1, g2, g3, g4, g5, g6, g7, g8⟩ := bg1_spec md ⟨S.now 0, S.now 1, S.now 2, ⟨ys, 0, []⟩⟩ (by show (S.now 2).length = ys.length + 1; omega) ys.length (Nat.le_refl _)
      refine ⟨g1, g2, g5.trans hl, g6.trans hl2, fun j y hy => ?_⟩
      have hj := (List.getElem?_eq_some_iff.1 hy).1
      obtain ⟨a1, a2⟩ := g8 j y hy
      have ek : kept md true y = if gone md y = true then nilS else y := by unfold kept; simp
      by_cases hg : gone md y = true
      · rw [if_pos ⟨hj, hg⟩] at a1 a2
        rw [ek, if_pos hg]
        exact ⟨a1, a2⟩
      · rw [if_neg (fun e => hg e.2)] at a1 a2
        rw [ek, if_neg hg]
        exact ⟨a1, a2.trans (hwd0 j y hy)⟩
  obtain ⟨R1, hR1, hR1o, hR1f, hR1l, hR1m, hR1s⟩ := hA
  -- a slot of R1 is a kept one
  have hR1g : ∀ (j : Nat) (z : Sl), R1.x.sl[j]? = some z → ∃ y, ys[j]? = some y ∧ z = kept md op y := by
    intro j z hz
    have hj := (List.getElem?_eq_some_iff.1 hz).1
    obtain ⟨y, hy⟩ : ∃ y, ys[j]? = some y := ⟨_, List.getElem?_eq_getElem (by omega)⟩
    have := (hR1s j y hy).1
    rw [hz] at this
    injection this with this
    exact ⟨y, hy, this⟩
  have hR1v : ∀ (j : Nat) (z : Sl), R1.x.sl[j]? = some z → z.valid = true → ys[j]? = some z ∧ ¬ (op = true ∧ gone md z = true) := by
    intro j z hz hv
    obtain ⟨y, hy, rfl⟩ := hR1g j z hz
    obtain ⟨e1, e2⟩ := kept_valid hv
    rw [e1]
    exact ⟨hy, e2⟩
  have hynl : ∀ (j : Nat) (y : Sl), ys[j]? = some y → y.valid = false → y = nilS := fun j y hy hv => o1.nl y (List.mem_of_getElem? hy) hv
  have hR1d : ∀ (j : Nat) (z : Sl), R1.x.sl[j]? = some z → z.dirty = true → z.valid = true := by
    intro j z hz hd
    obtain ⟨y, hy, rfl⟩ := hR1g j z hz
    unfold kept at hd ⊢
    split
    · rename_i hg
      rw [if_pos hg] at hd
      cases hd
    · rename_i hg
      rw [if_neg hg] at hd
      rcases hv : y.valid with _ | _
      · rw [hynl j y hy hv] at hd
        cases hd
      · rfl
  have hyb : ∀ (j : Nat) (y : Sl), ys[j]? = some y → y.valid = true → 0 ≤ y.block ∧ y.block ≤ 16777215 := fun j y hy hv => (o1.blk y (List.mem_of_getElem? hy) hv).1
  have hyu : ∀ (i j : Nat) (x y : Sl), ys[i]? = some x → ys[j]? = some y → x.valid = true → y.valid = true → x.block = y.block → i = j := o1.uq
  have hR1u : ∀ (i j : Nat) (x y : Sl), R1.x.sl[i]? = some x → R1.x.sl[j]? = some y → x.valid = true → y.valid = true → x.block = y.block → i = j := by
    intro i j x y hx hy hxv hyv e
    exact hyu i j x y (hR1v i x hx hxv).1 (hR1v j y hy hyv).1 hxv hyv e
  have hR1wd : ∀ (j : Nat) (z : Sl), R1.x.sl[j]? = some z → R1.m[1 + j]? = some z.word := by
    intro j z hz
    obtain ⟨y, hy, rfl⟩ := hR1g j z hz
    exact (hR1s j y hy).2
  -- the second part: what is written back
  have hB : ∃ R2 : RV, RV.bgB C.chunk md op mode ⟨S.now 0, S.now 1, S.now 2, ⟨ys, 0, []⟩⟩ = R2 ∧ R2.f = S.now 1 ∧ R2.x.sl.length = K ∧ R2.m.length = C.n2 ∧ R2.o.length = C.n0 ∧
      (∀ (j : Nat) (z : Sl), R2.x.sl[j]? = some z → ∃ z1, R1.x.sl[j]? = some z1 ∧ z.valid = z1.valid ∧ z.block = z1.block ∧ (mode = 1 → z.dirty = false) ∧ R2.m[1 + j]? = some z.word ∧ (z.valid = false → z.dirty = false)) ∧
      (∀ (j : Nat) (z1 : Sl), R1.x.sl[j]? = some z1 → ∃ z, R2.x.sl[j]? = some z ∧ z.valid = z1.valid ∧ z.block = z1.block) ∧
      (∀ (j : Nat) (z : Sl) (i : Nat), R2.x.sl[j]? = some z → z.valid = true → z.dirty = false → i < C.chunk → R2.o[z.block.toNat * C.chunk + i]? = (S.now 1)[j * C.chunk + i]?) ∧
      (∀ a, (∀ (j : Nat) (z : Sl), R1.x.sl[j]? = some z → z.valid = true → ¬ (z.block.toNat * C.chunk ≤ a ∧ a < z.block.toNat * C.chunk + C.chunk)) → R2.o[a]? = (S.now 0)[a]?) := by
    refine ⟨_, rfl, ?_⟩
    unfold RV.bgB
    rw [hR1]
    rcases hm with rfl | rfl
    · rw [if_pos rfl]
      obtain ⟨g1, g2, g3, g4, g5, g6, g7, g8, g9⟩ := bg3_spec C.chunk C.n0 o3 R1 (by omega) (by rw [hR1o]; exact hl0) (by rw [hR1l, hR1f, hl1]; omega) hR1d (fun j z hz hv => ⟨(hyb j z (hR1v j z hz hv).1 hv).1, hwh0 j z (hR1v j z hz hv).1 hv⟩) hR1u hR1wd R1.x.sl.length (Nat.le_refl _)
      refine ⟨g1.trans hR1f, g4.trans hR1l, g5.trans hR1m, g6, ?_, ?_, ?_, ?_⟩
      · intro j z hz
        have hj := (List.getElem?_eq_some_iff.1 hz).1
        rw [g4] at hj
        obtain ⟨z1, hz1⟩ : ∃ z1, R1.x.sl[j]? = some z1 := ⟨_, List.getElem?_eq_getElem hj⟩
        obtain ⟨a1, a2⟩ := g7 j z1 hz1
        rw [if_pos hj] at a1 a2
        rw [hz] at a1
        injection a1 with a1
        subst a1
        exact ⟨z1, hz1, rfl, rfl, fun _ => rfl, a2, fun _ => rfl⟩
      · intro j z1 hz1
        have hj := (List.getElem?_eq_some_iff.1 hz1).1
        obtain ⟨a1, -⟩ := g7 j z1 hz1
        rw [if_pos hj] at a1
        exact ⟨_, a1, rfl, rfl⟩
      · intro j z i hz hv hd hi
        have hj := (List.getElem?_eq_some_iff.1 hz).1
        rw [g4] at hj
        obtain ⟨z1, hz1⟩ : ∃ z1, R1.x.sl[j]? = some z1 := ⟨_, List.getElem?_eq_getElem hj⟩
        obtain ⟨a1, a2⟩ := g7 j z1 hz1
        rw [if_pos hj] at a1
        rw [hz] at a1
        injection a1 with a1
        subst a1
        have hv1 : z1.valid = true := hv
        obtain ⟨hy1, hk1⟩ := hR1v j z1 hz1 hv1
        show (R1.bg3 C.chunk R1.x.sl.length).o[z1.block.toNat * C.chunk + i]? = _
        rcases hzd : z1.dirty with _ | _
        · rw [hceq j z1 i hy1 hk1 hv1 hzd hi, ← hR1o]
          refine g9 _ (fun j2 z2 hz2 hv2 hd2 => ?_)
          rintro ⟨q1, q2⟩
          obtain ⟨hy2, -⟩ := hR1v j2 z2 hz2 hv2
          have h2 := hyb j2 z2 hy2 hv2
          have h1' := hyb j z1 hy1 hv1
          have hdiv : z1.block.toNat * C.chunk + i = z2.block.toNat * C.chunk + (z1.block.toNat * C.chunk + i - z2.block.toNat * C.chunk) := by omega
          obtain ⟨eb, -⟩ := blk_eq hi (by omega) hdiv
          have := hR1u j j2 z1 z2 hz1 hz2 hv1 hv2 (by omega)
          subst this
          rw [hz1] at hz2
          injection hz2 with hz2
          subst hz2
          rw [hzd] at hd2
          cases hd2
        · rw [g8 j z1 i hz1 hv1 hzd hj hi, hR1f]
      · intro a ha
        rw [← hR1o]
        exact g9 a (fun j z hz hv _ => ha j z hz hv)
    · rw [if_neg (by decide)]
      refine ⟨hR1f, hR1l, hR1m, by rw [hR1o]; exact hl0, ?_, ?_, ?_, fun a _ => by rw [hR1o]⟩
      · intro j z hz
        refine ⟨z, hz, rfl, rfl, fun e => by omega, hR1wd j z hz, fun hv => ?_⟩
        rcases hd : z.dirty with _ | _
        · rfl
        · rw [hR1d j z hz hd] at hv
          cases hv
      · exact fun j z1 hz1 => ⟨z1, hz1, rfl, rfl⟩
      · intro j z i hz hv hd hi
        obtain ⟨hy1, hk1⟩ := hR1v j z hz hv
        rw [hR1o]
        exact (hceq j z i hy1 hk1 hv hd hi).symm
  obtain ⟨R2, hR2, q1, q2, q3, q4, q5, q6, q7, q8⟩ := hB
  unfold RV.bgn at b2
  rw [hR2] at b2
  unfold view at b2
  injection b2 with v0 v1 v2 v3
  dsimp only at v0 v1 v2 v3
  have hVl : V.x.sl.length = K := b5
  have hmode : (if decide (mode = 2) = true then (2 : Int) else 1) = mode := by
    rcases hm with rfl | rfl
    · rfl
    · rfl
  have hVI : VI C V.S V.x.sl (decide (mode = 2)) (VV C V.S V.x.sl) := by
    rw [v3]
    refine VI.of_stl b1.hea (hst 0 (by omega)) (hst 1 (by omega)) (hst 2 (by omega)) (by rw [q2]; exact hn2) (by rw [q2]; omega) o3 ?_ ?_ ?_ ?_ ?_ ?_ ?_
    · intro i j x y hx hy hxv hyv e
      obtain ⟨x1, hx1, e1, e2, -⟩ := q5 i x hx
      obtain ⟨y1, hy1, e3, e4, -⟩ := q5 j y hy
      exact hR1u i j x1 y1 hx1 hy1 (by rw [← e1]; exact hxv) (by rw [← e3]; exact hyv) (by rw [← e2, ← e4]; exact e)
    · intro k x hx hv
      obtain ⟨x1, hx1, e1, e2, -⟩ := q5 k x hx
      have hx1v : x1.valid = true := by rw [← e1]; exact hv
      obtain ⟨hy, -⟩ := hR1v k x1 hx1 hx1v
      rw [e2]
      exact ⟨hyb k x1 hy hx1v, hwh0 k x1 hy hx1v⟩
    · rw [v2, List.getElem?_set_self (by rw [q3, hn2]; omega), hmode]
      rw [q2]
      show some (hdI ys.length (C.chunk : Int) mode true) = _
      rw [hl]
    · intro k x hx
      obtain ⟨x1, hx1, e1, e2, e3, e4, -⟩ := q5 k x hx
      rw [v2, List.getElem?_set_ne (by omega)]
      exact e4
    · intro e k x hx
      obtain ⟨x1, hx1, e1, e2, e3, e4, -⟩ := q5 k x hx
      refine e3 ?_
      rcases hm with rfl | rfl
      · rfl
      · cases e
    · intro k x i hx hv hd hi
      rw [v1, v0, q1]
      exact (q7 k x i hx hv hd hi).symm
    · intro k x hx hv
      obtain ⟨x1, hx1, e1, e2, e3, e4, e5⟩ := q5 k x hx
      exact e5 hv
  refine ⟨hVI, fun a v hv => ?_⟩
  have hmap : ∀ (j : Nat) (z : Sl), (ys.map (kept md op))[j]? = some z ↔ R1.x.sl[j]? = some z := by
    intro j z
    rw [List.getElem?_map]
    constructor
    · intro hz
      rcases hy : ys[j]? with _ | y
      · rw [hy] at hz; cases hz
      · rw [hy] at hz
        injection hz with hz
        rw [← hz]
        exact (hR1s j y hy).1
    · intro hz
      obtain ⟨y, hy, rfl⟩ := hR1g j z hz
      rw [hy]
      rfl
  rcases hv with ⟨k, x, hx, hxv, hxb, hn⟩ | ⟨hno, hn⟩
  · rw [v3] at hx
    obtain ⟨x1, hx1, e1, e2, -⟩ := q5 k x hx
    refine .inl ⟨k, x1, (hmap k x1).2 hx1, by rw [← e1]; exact hxv, by rw [← e2]; exact hxb, ?_⟩
    rw [← q1, ← v1]
    exact hn
  · have hno1 : ∀ (j : Nat) (z : Sl), R1.x.sl[j]? = some z → z.valid = true → z.block ≠ ((a / C.chunk : Nat) : Int) := by
      intro j z hz hzv
      obtain ⟨z2, hz2, e1, e2⟩ := q6 j z hz
      rw [← e2]
      exact hno j z2 (by rw [v3]; exact hz2) (by rw [e1]; exact hzv)
    refine .inr ⟨fun j z hz hzv => hno1 j z ((hmap j z).1 hz) hzv, ?_⟩
    rw [← q8 a (fun j z hz hzv => ?_), ← v0]
    · exact hn
    · rintro ⟨g1, g2⟩
      obtain ⟨hy, -⟩ := hR1v j z hz hzv
      have hzb := hyb j z hy hzv
      refine hno1 j z hz hzv ?_
      have hdiv : a = z.block.toNat * C.chunk + (a - z.block.toNat * C.chunk) := by omega
      rw [hdiv, (blk_div (by omega)).1]
      omega

end Go.Proofs.YtogchafnnkajfaaGreat

namespace Go.Proofs.YtogchafnnkajfaaGreat
set_option linter.unusedVariables false

/-- What a sector may read behind a power failure. -/
def okT (t : List Sec) (a v : Nat) : Prop := ∃ s, t[a]? = some s ∧ v ∈ s.sm
/-- Disks with the power back, as Open finds them. -/
structure ZR (C : VC) (S : DS) (ok : Nat → Nat → Prop) : Prop where
  nf : NF C S
  st : ∀ i, i < 3 → Stl S i
  op : openE (S.now 2) = 0
  hC : C.chunk = opC (S.now 2)
  h1 : ¬ C.n1 < opK (S.now 2) * opC (S.now 2)
  hb : badS (slotsU (S.now 2) (opK (S.now 2))) (C.n0 / opC (S.now 2)) = false
  n2 : C.n2 = opK (S.now 2) + 1
  eq : ∀ (j : Nat) (y : Sl) (i : Nat), (slotsU (S.now 2) (opK (S.now 2)))[j]? = some y → ¬ (opO (S.now 2) = true ∧ gone (opM (S.now 2)) y = true) → y.valid = true → y.dirty = false → i < C.chunk → (S.now 1)[j * C.chunk + i]? = (S.now 0)[y.block.toNat * C.chunk + i]?
  v : ∀ a v, a < C.n0 → VV C S ((slotsU (S.now 2) (opK (S.now 2))).map (kept (opM (S.now 2)) (opO (S.now 2)))) a v → ok a v

theorem VV.lt {C : VC} {S : DS} {sl : List Sl} {pm : Bool} {ok : Nat → Nat → Prop} (h : VK C S sl pm ok) {a v : Nat} (hv : VV C S sl a v) : a < C.n0 := by
  rcases hv with ⟨k, x, hx, hxv, hb, -⟩ | ⟨-, hn⟩
  · have h2 := (h.wh k x hx hxv).2
    rw [toNat_blk hb] at h2
    have := blk_at a C.chunk h.ch
    omega
  · have := (List.getElem?_eq_some_iff.1 hn).1
    rw [h.lens.1] at this
    exact this
/-- Behind Open. -/
theorem ZR.opened {C : VC} {S : DS} {ok : Nat → Nat → Prop} (h : ZR C S ok) {mode : Int} (hm : mode = 1 ∨ mode = 2) :
    VI C ((opn0 S mode).bgn C mode).S ((opn0 S mode).bgn C mode).x.sl (decide (mode = 2)) (VV C ((opn0 S mode).bgn C mode).S ((opn0 S mode).bgn C mode).x.sl) ∧
    (∀ a v, VV C ((opn0 S mode).bgn C mode).S ((opn0 S mode).bgn C mode).x.sl a v → ok a v) ∧ NF C ((opn0 S mode).bgn C mode).S ∧ ((opn0 S mode).bgn C mode).x.Ok ∧ ((opn0 S mode).bgn C mode).x.sl.length = ((opn0 S mode).bgn C mode).ss.length ∧ ((opn0 S mode).bgn C mode).pm = decide (mode = 2) ∧ ((opn0 S mode).bgn C mode).closed = false ∧
    ((opn0 S mode).bgn C mode).S.log.length ≤ S.log.length + opK (S.now 2) * (C.chunk + 2) + 1 ∧ ((opn0 S mode).bgn C mode).S.wr ≤ S.wr + (opK (S.now 2) * (C.chunk + 2) : Nat) + 1 ∧ ((opn0 S mode).bgn C mode).x.clk ≤ 0 ∧ opnE (S.now 2) C.n0 C.n1 mode = 0 := by
  have hNB := opn_nb (mode := mode) h.nf h.op h.hC h.h1 h.hb
  obtain ⟨v1, v2⟩ := opn_vi hm h.nf h.st h.op h.hC h.h1 h.hb h.n2 h.eq
  obtain ⟨b1, b2, b3, b4, b5, b6, b7, b8⟩ := hNB.bgn mode
  obtain ⟨c1, c2, c3, c4⟩ := hNB.bgB mode
  have hl : (opn0 S mode).x.sl.length = opK (S.now 2) := slotsU_length _ _
  rw [hl] at c4
  have hfl := flush_log S 2
  have h0 : (opn0 S mode).S = S.flush 2 := rfl
  have hcl := c4.log
  have hcw := c4.wr
  rw [h0] at hcl hcw
  refine ⟨v1, fun a v hv => h.v a v (VV.lt v1.k hv) (v2 a v hv), b1, b3, b4, b6, b7, ?_, ?_, ?_, ?_⟩
  · have hf : ((opn0 S mode).bgn C mode).S.log.length ≤ ((opn0 S mode).bgB C mode).S.log.length + 1 := by
      show (DS.first _ 2 C.n2 _).log.length ≤ _
      unfold DS.first
      split
      · exact swrite_log _ _ _ _ _
      · exact Nat.le_trans (flush_log _ _).1 (swrite_log _ _ _ _ _)
    omega
  · have hf : ((opn0 S mode).bgn C mode).S.wr ≤ ((opn0 S mode).bgB C mode).S.wr + 1 := by
      show (DS.first _ 2 C.n2 _).wr ≤ _
      unfold DS.first
      split
      · exact swrite_wr _ _ _ _ _
      · rw [(flush_log _ _).2]; exact swrite_wr _ _ _ _ _
    rw [hfl.2] at hcw
    omega
  · rw [b8]
    have := c4.clk
    have h1 : (opn0 S mode).x.clk = 0 := rfl
    omega
  · unfold opnE
    rw [if_neg (by omega), if_neg (fun e => e h.op), if_neg h.h1, if_neg (by rw [h.hb]; simp)]

/-- Behind a power failure. -/
theorem ZR.crash {C : VC} {S : DS} {sl : List Sl} {pm : Bool} {ok : Nat → Nat → Prop} (h : VK C S sl pm ok) (hlog : ∀ r ∈ S.log, r.1 < S.dr.length) (hs : 1 ≤ sl.length ∧ sl.length ≤ 1024) (hc : C.chunk ≤ 64) (bs : List Bool) :
    ZR C (S.restart bs) ok ∧ (S.restart bs).log = [] ∧ (S.restart bs).wr = S.wr := by
  obtain ⟨r1, r2, r3, r4, r5, r6, r7⟩ := restart_at h.hea hlog bs
  have hns : ∀ i, i < 3 → [C.n0, C.n1, C.n2][i]? ≠ none := by
    intro i hi
    obtain rfl | rfl | rfl : i = 0 ∨ i = 1 ∨ i = 2 := by omega
    · simp
    · simp
    · simp
  have hst : ∀ i, i < 3 → Stl (S.restart bs) i := fun i hi b x hx => (r7 i b x (hns i hi)).1 hx
  have hca : ∀ i, i < 3 → ∀ j v, ((S.restart bs).now i)[j]? = some v → S.Cand i j v := by
    intro i hi j v hv
    obtain ⟨n, hn⟩ : ∃ n, [C.n0, C.n1, C.n2][i]? = some n := by
      rcases hx : [C.n0, C.n1, C.n2][i]? with _ | n
      · exact absurd hx (hns i hi)
      · exact ⟨n, rfl⟩
    exact (r6 i n hn).2 j v hv
  have hl2 : ((S.restart bs).now 2).length = C.n2 := (r1.nn 2 C.n2 rfl).1
  have hn2 := h.n2
  generalize S.restart bs = S' at *
  -- the header
  have hh : (S'.now 2)[0]?.getD 0 = hdI sl.length (C.chunk : Int) (if pm = true then 2 else 1) true := by
    rw [List.getElem?_eq_getElem (by omega), Option.getD_some]
    exact h.hd _ (hca 2 (by omega) 0 _ (List.getElem?_eq_getElem (by omega)))
  have hmd : 0 ≤ (if pm = true then (2 : Int) else 1) ∧ (if pm = true then (2 : Int) else 1) < 3 := by cases pm <;> simp
  have hch := h.ch
  obtain ⟨g1, g2, g3, g4, g5, g6⟩ := hdI_fields sl.length (C.chunk : Int) (if pm = true then 2 else 1) true (by omega) (by omega) (by omega)
  have hK : opK (S'.now 2) = sl.length := by unfold opK; rw [hh]; exact g2
  have hCc : opC (S'.now 2) = C.chunk := by unfold opC; rw [hh]; exact Int.ofNat.inj g3
  have hM : opM (S'.now 2) = if pm = true then 2 else 1 := by unfold opM; rw [hh]; exact g4
  have hO : opO (S'.now 2) = true := by unfold opO; rw [hh, g5]; rfl
  -- the slots
  have key : ∀ (k : Nat) (y : Sl), (slotsU (S'.now 2) (opK (S'.now 2)))[k]? = some y → k < sl.length ∧ (S'.now 2)[1 + k]? = some y.word ∧ (y = nilS ∨ ∃ x d, sl[k]? = some x ∧ x.valid = true ∧ y = ⟨true, d, x.block, 0⟩) := by
    intro k y hy
    have hk := (List.getElem?_eq_some_iff.1 hy).1
    rw [slotsU_length] at hk
    rw [slotsU_at _ _ k hk] at hy
    injection hy with hy
    rw [hK] at hk
    obtain ⟨x, hx⟩ : ∃ x, sl[k]? = some x := ⟨_, List.getElem?_eq_getElem hk⟩
    have hw : (S'.now 2)[1 + k]? = some ((S'.now 2)[1 + k]'(by omega)) := List.getElem?_eq_getElem (by omega)
    rw [hw, Option.getD_some] at hy
    have hp := h.pc k x _ hx (hca 2 (by omega) _ _ hw)
    rw [hw]
    generalize (S'.now 2)[1 + k]'(by omega) = w at *
    rcases hp with rfl | ⟨hxv, d, rfl⟩
    · have : y = nilS := hy.symm
      subst this
      exact ⟨hk, rfl, .inl rfl⟩
    · have hb := (h.wh k x hx hxv).1
      rw [dwd_slot x.block d hb] at hy
      refine ⟨hk, ?_, .inr ⟨x, d, hx, hxv, hy.symm⟩⟩
      rw [← hy]
      rfl
  have hgood : ∀ y ∈ slotsU (S'.now 2) (opK (S'.now 2)), y.Good := by
    intro y hy
    obtain ⟨k, hk⟩ := List.mem_iff_getElem?.1 hy
    obtain ⟨-, -, rfl | ⟨x, d, hx, hxv, rfl⟩⟩ := key k y hk
    · exact ⟨by decide, by decide, rfl, fun _ => ⟨rfl, rfl⟩⟩
    · have hb := (h.wh k x hx hxv).1
      exact ⟨hb.1, hb.2, rfl, fun e => by cases e⟩
  have hdist : ∀ (i j : Nat) (s t : Sl), i < j → (slotsU (S'.now 2) (opK (S'.now 2)))[i]? = some s → (slotsU (S'.now 2) (opK (S'.now 2)))[j]? = some t → s.valid = true → t.valid = true → s.block ≠ t.block := by
    intro i j s t hij hs' ht' hsv htv e
    obtain ⟨-, -, rfl | ⟨x, d, hx, hxv, rfl⟩⟩ := key i s hs'
    · cases hsv
    · obtain ⟨-, -, rfl | ⟨x2, d2, hx2, hxv2, rfl⟩⟩ := key j t ht'
      · cases htv
      · have := h.uq i j x x2 hx hx2 hxv hxv2 e
        omega
  obtain ⟨a1, a2, -⟩ := allOk_words (S'.now 2) (slotsU (S'.now 2) (opK (S'.now 2))) (fun i s hs' => by rw [(key i s hs').2.1]; rfl) hgood hdist sl.length (by rw [slotsU_length, hK]; exact Nat.le_refl _)
  have hopen : openE (S'.now 2) = 0 := by
    refine open_good (S'.now 2) _ sl.length C.n2 hh g1 g2 hl2 ?_ a1
    refine hbad_no _ sl.length C.n2 g2 hs (by omega) ?_ ?_ g6
    · have : hdI sl.length (C.chunk : Int) (if pm = true then 2 else 1) true / 2048 % 128 = C.chunk := Int.ofNat.inj g3
      rw [this]; omega
    · intro e
      rw [e] at g4
      omega
  have hkd : ∀ (k : Nat) (y : Sl), (slotsU (S'.now 2) (opK (S'.now 2)))[k]? = some y → ¬ gone (opM (S'.now 2)) y = true → y.valid = true → y.dirty = true ∧ pm = true := by
    intro k y hy hg hv
    unfold gone at hg
    rw [hv, hM] at hg
    cases pm
    · exact absurd (by simp) hg
    · rcases hd : y.dirty with _ | _
      · rw [hd] at hg
        exact absurd (by simp) hg
      · exact ⟨rfl, rfl⟩
  refine ⟨⟨⟨r1, r4, r3⟩, hst, hopen, hCc.symm, ?_, ?_, ?_, ?_, ?_⟩, r2, r5⟩
  · rw [hK, hCc]; have := h.n1; omega
  · rw [hCc]
    unfold badS
    rw [List.any_eq_false]
    intro y hy
    obtain ⟨k, hk⟩ := List.mem_iff_getElem?.1 hy
    obtain ⟨-, -, rfl | ⟨x, d, hx, hxv, rfl⟩⟩ := key k y hk
    · simp [nilS]
    · have hb := h.wh k x hx hxv
      have hle : x.block.toNat + 1 ≤ C.n0 / C.chunk := (Nat.le_div_iff_mul_le (by omega)).2 (by rw [Nat.add_mul, Nat.one_mul]; exact hb.2)
      generalize C.n0 / C.chunk = q at *
      simp
      omega
  · rw [hK]; exact hn2
  · intro j y i hy hg hv hd hi
    have := (hkd j y hy (fun e => hg ⟨hO, e⟩) hv).1
    rw [hd] at this
    cases this
  · intro a v ha hv
    rcases hv with ⟨k, z, hz, hzv, hzb, hn⟩ | ⟨hno, hn⟩
    · rw [List.getElem?_map] at hz
      rcases hy : (slotsU (S'.now 2) (opK (S'.now 2)))[k]? with _ | y
      · rw [hy] at hz; cases hz
      · rw [hy] at hz
        injection hz with hz
        subst hz
        obtain ⟨e1, e2⟩ := kept_valid hzv
        rw [e1] at hzv hzb
        obtain ⟨-, -, rfl | ⟨x, d, hx, hxv, rfl⟩⟩ := key k y hy
        · cases hzv
        · have := h.a k x (a % C.chunk) v hx hxv (blk_at a C.chunk h.ch).2 (hca 1 (by omega) _ _ hn)
          have hzb' : x.block = ((a / C.chunk : Nat) : Int) := hzb
          rw [toNat_blk hzb', (blk_at a C.chunk h.ch).1] at this
          exact this
    · have hc0 := hca 0 (by omega) _ _ hn
      by_cases hex : ∃ (k : Nat) (x : Sl), sl[k]? = some x ∧ x.valid = true ∧ x.block = ((a / C.chunk : Nat) : Int)
      · obtain ⟨k, x, hx, hxv, hxb⟩ := hex
        have hk := (List.getElem?_eq_some_iff.1 hx).1
        have hy := slotsU_at (S'.now 2) (opK (S'.now 2)) k (by rw [hK]; exact hk)
        obtain ⟨-, hw, hyc⟩ := key k _ hy
        generalize slotS ((S'.now 2)[1 + k]?.getD 0) = y at *
        have hcw := hca 2 (by omega) _ _ hw
        have hb := (h.wh k x hx hxv).1
        have hne : y.word ≠ dwd x.block true := by
          intro e
          rcases hpm : pm with _ | _
          · rw [e] at hcw
            exact h.m hpm k x hx hxv hcw
          · rcases hyc with rfl | ⟨x2, d, hx2, hxv2, rfl⟩
            · exact dwd_ne hb e.symm
            · rw [hx] at hx2
              injection hx2 with hx2
              subst hx2
              have hd : d = true := (dwd_inj hb hb e).2
              subst hd
              refine hno k ⟨true, true, x.block, 0⟩ ?_ rfl hxb
              rw [List.getElem?_map, hy]
              show some (kept _ _ _) = _
              unfold kept
              rw [if_neg]
              rintro ⟨-, hg⟩
              unfold gone at hg
              rw [hM, hpm] at hg
              simp at hg
        have := h.b k x y.word (a % C.chunk) v hx hxv hcw hne (blk_at a C.chunk h.ch).2
        rw [toNat_blk hxb, (blk_at a C.chunk h.ch).1] at this
        exact this hc0
      · exact h.bo a v ha (fun k x hx hxv hxb => hex ⟨k, x, hx, hxv, hxb⟩) hc0

end Go.Proofs.YtogchafnnkajfaaGreat

namespace Go.Proofs.YtogchafnnkajfaaGreat
set_option linter.unusedVariables false

/-- An open volume, and what is known of its sectors. -/
structure DR (C : VC) (V : VS) (t : List Sec) (k : Bool) : Prop where
  ok : V.x.Ok
  len : V.x.sl.length = V.ss.length
  clo : V.closed = false
  n2 : V.x.sl.length + 1 = C.n2
  ch : 1 ≤ C.chunk
  tl : t.length = C.n0
  st : (V.S.down = false ∧ VI C V.S V.x.sl V.pm (okT t) ∧ (∀ a s, t[a]? = some s → s.kn = true → VV C V.S V.x.sl a s.val) ∧ (k = true → V.S.fuse = 0 ∧ VI C V.S V.x.sl V.pm (VV C V.S V.x.sl))) ∨
    (k = false ∧ V.S.down = true ∧ Hea V.S [C.n0, C.n1, C.n2] ∧ ∃ sl, VK C V.S sl V.pm (okT t))

theorem okT_set {t : List Sec} {a : Nat} {x : Sec} {b v : Nat} (hb : b ≠ a) : okT (t.set a x) b v ↔ okT t b v := by
  unfold okT
  rw [List.getElem?_set_ne (fun e => hb e.symm)]
theorem okT_set_self {t : List Sec} {a : Nat} {x : Sec} {v : Nat} (ha : a < t.length) : okT (t.set a x) a v ↔ v ∈ x.sm := by
  unfold okT
  rw [List.getElem?_set_self ha]
  constructor
  · rintro ⟨s, hs, hv⟩
    injection hs with hs
    subst hs
    exact hv
  · exact fun h => ⟨x, rfl, h⟩
theorem okT_at {t : List Sec} {a v : Nat} (ha : a < t.length) : okT t a v ↔ v ∈ (tAt t a).sm := by
  unfold okT
  rw [List.getElem?_eq_getElem ha, tAt_eq (List.getElem?_eq_getElem ha)]
  constructor
  · rintro ⟨s, hs, hv⟩
    injection hs with hs
    subst hs
    exact hv
  · exact fun h => ⟨_, rfl, h⟩
theorem okT_wrote {t : List Sec} {a v : Nat} {d : Bool} (ha : a < t.length) (b u : Nat) : okT (tWrote t a v d) b u ↔ okT t b u ∨ (b = a ∧ u = v) := by
  unfold tWrote
  by_cases e : b = a
  · subst e
    rw [okT_set_self ha, okT_at ha]
    show u ∈ (tAt t b).sm ++ [v] ↔ _
    rw [List.mem_append, List.mem_singleton]
    constructor
    · rintro (h | h)
      · exact .inl h
      · exact .inr ⟨rfl, h⟩
    · rintro (h | ⟨-, h⟩)
      · exact .inl h
      · exact .inr h
  · rw [okT_set e]
    constructor
    · exact .inl
    · rintro (h | ⟨h, -⟩)
      · exact h
      · exact absurd h e

section
variable {C : VC} {V : VS} {t : List Sec} {k : Bool}
theorem DR.vk (h : DR C V t k) : ∃ sl pm, VK C V.S sl pm (okT t) := by
  rcases h.st with ⟨-, h, -⟩ | ⟨-, -, -, sl, h⟩
  · exact ⟨_, _, h.k⟩
  · exact ⟨_, _, h⟩

/-- What slot leaves where the power is away. -/
theorem slt_down {a : Nat} (hh : Hea V.S [C.n0, C.n1, C.n2]) (hd : V.S.down = true) (hok : V.x.Ok) (hn2 : V.x.sl.length + 1 = C.n2) (hc : 1 ≤ C.chunk) (ha : a < C.n0) (hn0 : C.n0 ≤ 65536) (hn1 : V.x.sl.length * C.chunk ≤ C.n1) :
    (V.slt C a).2.2.S = V.S ∧ ((V.slt C a).2.1 = 0 ∨ (V.slt C a).2.1 = 5) := by
  have hbl := Nat.div_le_self a C.chunk
  unfold VS.slt
  generalize a / C.chunk = b at *
  split
  · exact ⟨rfl, .inl rfl⟩
  · split
    · exact ⟨rfl, .inl rfl⟩
    · rename_i hf
      have hfn := find_neg hf
      obtain ⟨m1, m2, m3, m4⟩ := miss_facts V.x (b : Int)
      have hok1 := hok.miss (b : Int) (by omega) hfn
      split
      · exact ⟨rfl, .inl rfl⟩
      · obtain ⟨k, x, hvk, hxk⟩ := victim_at hok1
        have hP : ({ V with x := (V.x.miss (b : Int)).1 } : VS).prm C b = ({ V with x := (V.x.miss (b : Int)).1 } : VS).p7 C k x b := by
          unfold VS.prm
          dsimp only
          rw [hvk, Int.toNat_natCast, CS.at_eq hxk]
        dsimp only
        rw [hP]
        have hkl : k < V.x.sl.length := by
          have := (List.getElem?_eq_some_iff.1 hxk).1
          rw [m1] at this
          exact this
        have hkf : k * C.chunk + C.chunk ≤ C.n1 := by
          have := Nat.mul_le_mul_right C.chunk (show k + 1 ≤ V.x.sl.length by omega)
          rw [Nat.add_mul, Nat.one_mul] at this
          omega
        have hV1 : ({ V with x := (V.x.miss (b : Int)).1 } : VS).S = V.S := rfl
        generalize ({ V with x := (V.x.miss (b : Int)).1 } : VS) = V1 at *
        rw [← hV1] at hh hd ⊢
        -- the first thing
        have h1 : (V1.p1 C k x).2.S = V1.S ∧ ((V1.p1 C k x).1 = 0 ∨ (V1.p1 C k x).1 = 5) := by
          unfold VS.p1
          split
          · have hr := rd_down hh hd (i := 1) (n := C.n1) rfl (k * C.chunk) (by omega)
            have hcp : ∀ i, 1 ≤ i → vcp V1.S 1 C.n1 (k * C.chunk) 0 C.n0 (x.block.toNat * C.chunk) i = (5, V1.S) := by
              intro i hi
              have e1 : vcp V1.S 1 C.n1 (k * C.chunk) 0 C.n0 (x.block.toNat * C.chunk) 1 = (5, V1.S) := by
                rw [vcp, vcp, if_neg (fun e => e rfl)]
                unfold vcpOne
                rw [show ((k * C.chunk : Nat) : Int) + ((0 : Nat) : Int) = ((k * C.chunk : Nat) : Int) by omega, if_pos (by rw [hr]; decide), hr]
              have := vcp_stuck V1.S 1 C.n1 (k * C.chunk) 0 C.n0 (x.block.toNat * C.chunk) 1 (by rw [e1]; exact (by decide : (5 : Int) ≠ 0)) (i - 1)
              rw [show 1 + (i - 1) = i by omega, e1] at this
              exact this
            have hcb : V1.cb C k x.block.toNat = (5, V1.S) := hcp C.chunk hc
            refine ⟨?_, .inr ?_⟩
            · show (V1.cbV C k x.block.toNat).S = _
              unfold VS.cbV
              dsimp only
              rw [hcb, if_neg (show ¬ (5 : Int) = 0 by decide)]
            · show V1.cbE C k x.block.toNat = 5
              unfold VS.cbE
              rw [hcb, if_neg (show ¬ (5 : Int) = 0 by decide)]
          · exact ⟨rfl, .inl rfl⟩
        have step : ∀ {p : Int × VS} {f : VS → Int × VS}, p.2.S = V1.S → (p.1 = 0 ∨ p.1 = 5) → (p.1 = 0 → (f p.2).2.S = V1.S ∧ ((f p.2).1 = 0 ∨ (f p.2).1 = 5)) → (bnd p f).2.S = V1.S ∧ ((bnd p f).1 = 0 ∨ (bnd p f).1 = 5) := by
          intro p f e1 e2 e3
          rcases e2 with e2 | e2
          · rw [bnd_ok e2]; exact e3 e2
          · rw [bnd_no (by rw [e2]; decide)]; exact ⟨e1, .inr e2⟩
        have h2 : (V1.p2 C k x).2.S = V1.S ∧ ((V1.p2 C k x).1 = 0 ∨ (V1.p2 C k x).1 = 5) := by
          refine step h1.1 h1.2 (fun _ => ?_)
          split
          · have hfd := free_down (V := (V1.p1 C k x).2) (C := C) (k := k) (by rw [h1.1]; exact hh) (by rw [h1.1]; exact hd) (by omega)
            exact ⟨by rw [hfd.2.1, h1.1], .inr hfd.1⟩
          · exact ⟨h1.1, .inl rfl⟩
        have h3 : (V1.p3 C k x).2.S = V1.S ∧ (V1.p3 C k x).1 = 5 := by
          rcases h2.2 with e2 | e2
          · have e3 : V1.p3 C k x = ((V1.p2 C k x).2.S.chkF 0, { (V1.p2 C k x).2 with S := (V1.p2 C k x).2.S.flush 0 }) := bnd_ok e2
            rw [e3, h2.1]
            have := fl_down hh hd (i := 0) (n := C.n0) rfl
            exact ⟨this.2, this.1⟩
          · have e3 : V1.p3 C k x = V1.p2 C k x := bnd_no (by rw [e2]; decide)
            rw [e3]
            exact ⟨h2.1, e2⟩
        have h7 : V1.p7 C k x b = V1.p3 C k x := p7_3 (by rw [h3.2]; decide)
        rw [h7]
        exact ⟨h3.1, .inr h3.2⟩

/-- Read. -/
theorem DR.read (h : DR C V t k) {a : Nat} (ha : a < C.n0) (hn0 : C.n0 ≤ 65536) (hclk : V.x.clk < 1099511627776) (hn1 : V.x.sl.length * C.chunk ≤ C.n1) (st : Bool) (hst : st = true → k = true) :
    ((V.rdR C a).2 = 0 ∧ tMay t a (V.rdR C a).1 ∧ DR C (V.slt C a).2.2 (tRead t a (V.rdR C a).1 st) k) ∨ (k = false ∧ (V.rdR C a).2 = 5 ∧ DR C (V.slt C a).2.2 t k) := by
  have hbd := Bd.slt (C := C) h.ok h.len ha hn0 hclk
  have hal : a < t.length := by rw [h.tl]; exact ha
  have hxa := List.getElem?_eq_getElem hal
  have hn2' : (V.slt C a).2.2.x.sl.length + 1 = C.n2 := by rw [hbd.sll]; exact h.n2
  have hcl' : (V.slt C a).2.2.closed = false := by rw [hbd.clo]; exact h.clo
  rcases h.st with ⟨hd, hVI, hkn, hcalm⟩ | ⟨hk, hd, hh, sl, hVK⟩
  · rcases rd_ou hVI hd h.ok h.len hclk ha hn0 with ⟨r1, r2, r3, r4, r5, r6, r7, -, r8⟩ | ⟨r1, r2, r3, sl, r4⟩
    · left
      have hpm : (V.slt C a).2.2.pm = V.pm := hbd.pm
      have hok1 := r4.k.okv ha r7
      have hmay : tMay t a (V.rdR C a).1 := by
        unfold tMay
        rw [tAt_eq hxa]
        unfold Sec.may
        split
        · rename_i e
          exact VV.uniq r4.k r7 (r8 a _ (hkn a _ hxa e))
        · rw [okT_at hal, tAt_eq hxa] at hok1
          exact hok1
      -- the calm part
      have hcalm' : k = true → (V.slt C a).2.2.S.fuse = 0 ∧ VI C (V.slt C a).2.2.S (V.slt C a).2.2.x.sl (V.slt C a).2.2.pm (VV C (V.slt C a).2.2.S (V.slt C a).2.2.x.sl) := by
        intro hk
        obtain ⟨c1, c2⟩ := hcalm hk
        rcases rd_ou c2 hd h.ok h.len hclk ha hn0 with ⟨q1, q2, q3, q4, -⟩ | ⟨q1, -⟩
        · refine ⟨q3 c1, ?_⟩
          rw [hpm]
          exact q4.mono (fun b u _ hu => r8 b u hu)
        · exact absurd c1 q1
      refine ⟨r1, hmay, hbd.ok, hbd.len, hcl', hn2', h.ch, by unfold tRead; rw [List.length_set]; exact h.tl, .inl ⟨r2, ?_, ?_, hcalm'⟩⟩
      · -- candidates
        rw [hpm]
        rcases hks : (t[a]'hal).kn with _ | _
        · rcases hs : st with _ | _
          · refine r4.mono (fun b u hb hu => ?_)
            unfold tRead
            by_cases e : b = a
            · subst e
              rw [okT_set_self hal, tAt_eq hxa]
              unfold Sec.read
              rw [hks, if_neg (by simp)]
              rw [okT_at hal, tAt_eq hxa] at hu
              exact hu
            · rw [okT_set e]; exact hu
          · have hc := (hcalm' (hst hs)).2
            rw [hpm] at hc
            refine hc.mono (fun b u hb hu => ?_)
            unfold tRead
            by_cases e : b = a
            · subst e
              rw [okT_set_self hal, tAt_eq hxa]
              unfold Sec.read
              rw [hks, if_neg (by simp)]
              show u ∈ [(V.rdR C b).1]
              rw [List.mem_singleton]
              exact VV.uniq r4.k hu r7
            · rw [okT_set e]
              exact r4.k.okv hb hu
        · have : tRead t a (V.rdR C a).1 st = t := by
            unfold tRead
            rw [tAt_eq hxa]
            unfold Sec.read
            rw [hks, if_pos rfl]
            exact set_self hxa
          rw [this]
          exact r4
      · intro b s hs hsk
        unfold tRead at hs
        rcases set_cases hs with ⟨rfl, rfl⟩ | ⟨hb, hs⟩
        · rw [tAt_eq hxa] at hsk ⊢
          unfold Sec.read at hsk ⊢
          split
          · rename_i e
            exact r8 b _ (hkn b _ hxa e)
          · exact r7
        · exact r8 b _ (hkn b s hs hsk)
    · right
      have hkf : k = false := by
        cases k
        · rfl
        · exact absurd (hcalm rfl).1 r1
      exact ⟨hkf, r2, hbd.ok, hbd.len, hcl', hn2', h.ch, h.tl, .inr ⟨hkf, r3, r4.hea, sl, by rw [hbd.pm]; exact r4⟩⟩
  · right
    obtain ⟨s1, s2⟩ := slt_down hh hd h.ok h.n2 h.ch ha hn0 hn1
    have hso := slt_ok (C := C) h.ok h.len ha hn0 hclk
    refine ⟨hk, ?_, hbd.ok, hbd.len, hcl', hn2', h.ch, h.tl, .inr ⟨hk, by rw [s1]; exact hd, by rw [s1]; exact hh, sl, by rw [s1, hbd.pm]; exact hVK⟩⟩
    unfold VS.rdR
    rcases s2 with e | e
    · rw [if_neg (fun x => x e)]
      split
      · rw [s1]
        exact rd_down hh hd (i := 0) (n := C.n0) rfl a ha
      · rename_i hneg
        rcases hso e with e2 | ⟨j, x, e2, hj, -⟩
        · omega
        · rw [e2, Int.toNat_natCast, s1]
          have hm := (blk_at a C.chunk h.ch).2
          have := Nat.mul_le_mul_right C.chunk (show j + 1 ≤ V.x.sl.length by omega)
          rw [Nat.add_mul, Nat.one_mul] at this
          exact rd_down hh hd (i := 1) (n := C.n1) rfl (j * C.chunk + a % C.chunk) (by omega)
    · rw [if_pos (by rw [e]; decide)]
      exact e
end

end Go.Proofs.YtogchafnnkajfaaGreat

namespace Go.Proofs.YtogchafnnkajfaaGreat
set_option linter.unusedVariables false
open Go.RowKit
attribute [local go_sem] Oper.semAt_some

theorem tAt_set (t : List Sec) (a b : Nat) (x : Sec) : tAt (t.set a x) b = if b = a ∧ a < t.length then x else tAt t b := by
  unfold tAt
  rw [List.getElem?_set]
  by_cases h : a = b
  · subst h
    by_cases hl : a < t.length
    · simp [hl]
    · simp [hl]
  · rw [if_neg h, if_neg (fun e => h e.1.symm)]
theorem tAt_map' (t : List Sec) (f : Sec → Sec) (m : Nat) (hf : ∀ x : Sec, x.sm.length ≤ m → (f x).sm.length ≤ m) (h : ∀ a, (tAt t a).sm.length ≤ m) (b : Nat) : (tAt (t.map f) b).sm.length ≤ m := by
  have hb := h b
  unfold tAt at hb ⊢
  rw [List.getElem?_map]
  rcases hx : t[b]? with _ | x
  · exact Nat.zero_le _
  · rw [hx] at hb
    exact hf x hb
theorem sm_read {t : List Sec} {m : Nat} (h : ∀ a, (tAt t a).sm.length ≤ m) (hm : 1 ≤ m) (a v : Nat) (st : Bool) (b : Nat) : (tAt (tRead t a v st) b).sm.length ≤ m := by
  unfold tRead
  rw [tAt_set]
  split
  · have := h a
    unfold Sec.read
    split
    · exact this
    · show (if st = true then [v] else (tAt t a).sm).length ≤ m
      split
      · exact hm
      · exact this
  · exact h b
theorem sm_wrote {t : List Sec} {m : Nat} (h : ∀ a, (tAt t a).sm.length ≤ m) (a v : Nat) (d : Bool) (b : Nat) : (tAt (tWrote t a v d) b).sm.length ≤ m + 1 := by
  unfold tWrote
  rw [tAt_set]
  split
  · have := h a
    show ((tAt t a).sm ++ [v]).length ≤ m + 1
    rw [List.length_append]
    simp; omega
  · have := h b; omega
theorem sm_flushed {t : List Sec} {m : Nat} (h : ∀ a, (tAt t a).sm.length ≤ m) (hm : 1 ≤ m) (b : Nat) : (tAt (tFlushed t) b).sm.length ≤ m :=
  tAt_map' t _ m (fun x hx => by unfold Sec.flushed; split; exact hm; exact hx) h b
theorem sm_failed {t : List Sec} {m : Nat} (h : ∀ a, (tAt t a).sm.length ≤ m) (b : Nat) : (tAt (tFailed t) b).sm.length ≤ m :=
  tAt_map' t Sec.failed m (fun x hx => hx) h b

theorem TrAt.len {W : World} {G : Nat → Prop} {tb : Nat} {t : List Sec} (h : TrAt W G tb t) : ∃ rb cap, W.cell? ⟨tb, 0, none⟩ = some (.slice (some ⟨rb, 0, none⟩) t.length cap) := by
  obtain ⟨rb, cap, ys, rfl, hi⟩ := h
  exact ⟨rb, cap, by rw [List.length_map]; exact hi.tr.cell 0⟩

def FU (F G : Nat → Prop) (j : Nat) : Prop := F j ∨ G j
def FT (F : Nat → Prop) (w : World) (j : Nat) : Prop := F j ∧ j < w.heap.size
theorem Turn.left {F F' G : Nat → Prop} {w w' : World} (h : Turn F F' w w') : Turn (FU F G) (FU F' (FT G w)) w w' :=
  ⟨h.1.mono (fun j _ hj => .inl hj), fun j hj => hj.elim (fun a => (h.2 j a).elim (fun b => .inl (.inl b)) .inr) (fun a => .inl (.inr a.1))⟩
theorem Turn.right {F G G' : Nat → Prop} {w w' : World} (h : Turn G G' w w') : Turn (FU F G) (FU (FT F w) G') w w' :=
  ⟨h.1.mono (fun j _ hj => .inr hj), fun j hj => hj.elim (fun a => .inl (.inl a.1)) (fun a => (h.2 j a).elim (fun b => .inl (.inr b)) .inr)⟩

theorem d_read (k p : Nat) (W : World) : Sem.run Tryz.prog (method (k + 1) 39 (.pointer (some ⟨p, 0, none⟩)) "Read") W = .ok (22, .pointer (some ⟨p, 0, none⟩)) W := by kernel_rfl
theorem d_write (k p : Nat) (W : World) : Sem.run Tryz.prog (method (k + 1) 39 (.pointer (some ⟨p, 0, none⟩)) "Write") W = .ok (31, .pointer (some ⟨p, 0, none⟩)) W := by kernel_rfl
theorem d_flush (k p : Nat) (W : World) : Sem.run Tryz.prog (method (k + 1) 39 (.pointer (some ⟨p, 0, none⟩)) "Flush") W = .ok (34, .pointer (some ⟨p, 0, none⟩)) W := by kernel_rfl
theorem d_nila (k p : Nat) (W : World) : Sem.run Tryz.prog (nilAhead (k + 1) 39 (.pointer (some ⟨p, 0, none⟩)) "Write") W = .ok (some false) W := by kernel_rfl
theorem d_size (k p : Nat) (W : World) : Sem.run Tryz.prog (method (k + 1) 39 (.pointer (some ⟨p, 0, none⟩)) "Size") W = .ok (46, .pointer (some ⟨p, 0, none⟩)) W := by kernel_rfl

/-- What a device is asked to be: its states D (footprint, track, calm, count, pointer), and Z (the power is back, it is not opened yet). -/
structure DevC (B n L ga fO : Nat) (oa : Array Value) (D : World → (Nat → Prop) → List Sec → Bool → Nat → Nat → Prop) (Z : World → (Nat → Prop) → List Sec → Nat → Prop) : Prop where
  dfr : ∀ {w w' : World} {F H : Nat → Prop} {t : List Sec} {k : Bool} {c p : Nat}, D w F t k c p → Fr H w w' → (∀ j, F j → ¬ H j) → (∀ j, H j → B ≤ j) → D w' F t k c p
  dti : ∀ {w : World} {F : Nat → Prop} {t : List Sec} {k : Bool} {c p : Nat}, D w F t k c p → D w (FT F w) t k c p
  zfr : ∀ {w w' : World} {F H : Nat → Prop} {t : List Sec} {c : Nat}, Z w F t c → Fr H w w' → (∀ j, F j → ¬ H j) → (∀ j, H j → B ≤ j) → Z w' F t c
  zti : ∀ {w : World} {F : Nat → Prop} {t : List Sec} {c : Nat}, Z w F t c → Z w (FT F w) t c
  size : ∀ {w : World} {F : Nat → Prop} {t : List Sec} {k : Bool} {c p : Nat}, D w F t k c p → Calls Tryz.prog 46 #[.pointer (some ⟨p, 0, none⟩)] w fun e w' => e = .returned (.int .i64 (n : Int)) ∧ ∃ m, w' = w.drewN m
  read : ∀ {w : World} {F : Nat → Prop} {t : List Sec} {k : Bool} {c p : Nat} (a : Nat) (st : Bool), D w F t k c p → a < n → c < L → (st = true → k = true) →
    Calls Tryz.prog 22 #[.pointer (some ⟨p, 0, none⟩), .int .i64 (a : Int)] w fun e w' => ∃ (v : Nat) (r : Int) (F' : Nat → Prop), e = .returned (.tuple #[.int .u64 (v : Int), .int .i64 r]) ∧ v < 18446744073709551616 ∧ Turn F F' w w' ∧
      ((r = 0 ∧ tMay t a v ∧ D w' F' (tRead t a v st) k (c + 1) p) ∨ (k = false ∧ r = 5 ∧ D w' F' t k (c + 1) p))
  write : ∀ {w : World} {F : Nat → Prop} {t : List Sec} {k : Bool} {c p : Nat} (a v : Nat), D w F t k c p → a < n → v < 18446744073709551616 → c < L →
    Calls Tryz.prog 31 #[.pointer (some ⟨p, 0, none⟩), .int .i64 (a : Int), .int .u64 (v : Int)] w fun e w' => ∃ (r : Int) (F' : Nat → Prop), e = .returned (.int .i64 r) ∧ Turn F F' w w' ∧ (r = 0 ∨ r = 5) ∧ D w' F' (tWrote t a v (decide (r = 0))) false (c + 1) p
  flush : ∀ {w : World} {F : Nat → Prop} {t : List Sec} {k : Bool} {c p : Nat}, D w F t k c p → c < L →
    Calls Tryz.prog 34 #[.pointer (some ⟨p, 0, none⟩)] w fun e w' => ∃ (r : Int) (F' : Nat → Prop), e = .returned (.int .i64 r) ∧ Turn F F' w w' ∧
      ((r = 0 ∧ D w' F' (tFlushed t) false (c + 1) p) ∨ (r = 5 ∧ D w' F' t false (c + 1) p))
  fuse : ∀ {w : World} {F : Nat → Prop} {t : List Sec} {k : Bool} {c p : Nat} (x : Nat), D w F t k c p → x ≤ 1000000 → c < L →
    Calls Tryz.prog 76 #[.pointer (some ⟨ga, 0, none⟩), .int .i64 (x : Int)] w fun e w' => e = .returned (.tuple #[]) ∧ ∃ (F' : Nat → Prop), Turn F F' w w' ∧ D w' F' t false (c + 1) p
  restart : ∀ {w : World} {F : Nat → Prop} {t : List Sec} {k : Bool} {c p : Nat} (A : Option Addr) (cc base : Nat) (bs : List Bool), D w F t k c p → c < L → w.ownsRow base 4 1 (.slice A 192 cc) 192 (bv bs) → bs.length = 192 → (∀ b, (Value.slice A 192 cc).ownBlock = some b → ¬ F b) →
    Calls Tryz.prog 120 #[.pointer (some ⟨ga, 0, none⟩), .slice A 192 cc] w fun e w' => e = .returned (.tuple #[]) ∧ ∃ (F' : Nat → Prop), Turn F F' w w' ∧ Z w' F' (tFailed t) (c + 1)
  opens : ∀ {w : World} {F : Nat → Prop} {t : List Sec} {c : Nat}, Z w F t c → c < L →
    Calls Tryz.prog fO oa w fun e w' => ∃ (p : Nat) (F' : Nat → Prop), e = .returned (.tuple #[.iface 39 (.pointer (some ⟨p, 0, none⟩)), .bool true]) ∧ Turn F F' w w' ∧ D w' F' t true (c + 1) p

structure DTr (D : World → (Nat → Prop) → List Sec → Bool → Nat → Nat → Prop) (B n : Nat) (w : World) (F G : Nat → Prop) (t : List Sec) (k : Bool) (c p tb : Nat) : Prop where
  d : D w F t k c p
  tr : TrAt w G tb t
  dj : ∀ j, F j → ¬ G j
  tl : t.length = n
  sm : ∀ a, (tAt t a).sm.length ≤ c + 1
  gb : ∀ j, G j → B ≤ j
  wb : B ≤ w.heap.size

section
variable {B n L ga fO : Nat} {oa : Array Value} {D : World → (Nat → Prop) → List Sec → Bool → Nat → Nat → Prop} {Z : World → (Nat → Prop) → List Sec → Nat → Prop} {w : World} {F G : Nat → Prop} {t : List Sec} {k : Bool} {c p tb : Nat}
/-- The device went on. -/
theorem DTr.dev (h : DTr D B n w F G t k c p tb) {w' : World} {F' : Nat → Prop} {k' : Bool} {c' p' : Nat} (ht : Turn F F' w w') (hd : D w' F' t k' c' p') (hc : c ≤ c') : DTr D B n w' F' (FT G w) t k' c' p' tb :=
  ⟨hd, h.tr.tight.fr ht.1 (fun j hj hf => h.dj j hf hj.1), fun j hj hg => (ht.2 j hj).elim (fun a => h.dj j a hg.1) (fun a => by have := hg.2; omega), h.tl, fun a => by have := h.sm a; omega, fun j hj => h.gb j hj.1, Nat.le_trans h.wb ht.1.size⟩
/-- The device went on to a state of a track t', and the track follows. -/
theorem trk_dev (htr : TrAt w G tb t) (dj : ∀ j, F j → ¬ G j) {w' : World} {F' : Nat → Prop} (ht : Turn F F' w w') : TrAt w' (FT G w) tb t ∧ ∀ j, F' j → ¬ FT G w j :=
  ⟨htr.tight.fr ht.1 (fun j hj hf => dj j hf hj.1), fun j hj hg => (ht.2 j hj).elim (fun a => dj j a hg.1) (fun a => by have := hg.2; omega)⟩
theorem dev_trk (C : DevC B n L ga fO oa D Z) (hd : D w F t k c p) (dj : ∀ j, F j → ¬ G j) (gb : ∀ j, G j → B ≤ j) {w' : World} {G' : Nat → Prop} (ht : Turn G G' w w') : D w' (FT F w) t k c p ∧ ∀ j, FT F w j → ¬ G' j :=
  ⟨C.dfr (C.dti hd) ht.1 (fun j hj hg => dj j hj.1 hg) gb, fun j hj hg => (ht.2 j hg).elim (fun a => dj j hj.1 a) (fun a => by have := hj.2; omega)⟩

set_option maxRecDepth 100000 in
set_option maxHeartbeats 4000000 in
attribute [local go_sem] d_read in
theorem all_any (C : DevC B n L ga fO oa D Z) (h : DTr D B n w F G t true c p tb) (hn : n ≤ 1000) (hc : c + n ≤ L) (hL : L ≤ 90000) :
    Calls Tryz.prog 78 #[.pointer (some ⟨tb, 0, none⟩), .iface 39 (.pointer (some ⟨p, 0, none⟩)), .bool true] w fun e w' => e = .returned (.bool true) ∧ ∃ F' G' t', DTr D B n w' F' G' t' true (c + n) p tb ∧ Turn (FU F G) (FU F' G') w w' := by
  have HH := Lib.hid h
  have HC := Lib.hid C
  clear h C
  go_enter Tryz.func78, Tryz.ntmps78
  go_wp2_with fail
  go_loopw [7] (fun s wx => ∃ (i : Nat) (F' G' : Nat → Prop) (t' : List Sec), s = .int .i64 i ∧ i ≤ n ∧ DTr D B n wx F' G' t' true (c + i) p tb ∧ Turn (FU F G) (FU F' G') w wx) (fun s _ => n - (intOf s).toNat)
  case atStart => exact ⟨0, F, G, t, rfl, Nat.zero_le _, HH.out, Turn.refl _ _⟩
  case round =>
    rename World => wx
    obtain ⟨i, F', G', t', rfl, hi, hh, htn⟩ := hrel
    obtain ⟨rb, cap, c4⟩ := hh.tr.len
    rw [hh.tl] at c4
    have HD := Lib.hid hh
    have HT := Lib.hid htn
    clear hh htn
    by_cases hlt : i < n
    · have t1 : (i : Int) < (n : Int) := by omega
      go_wp2_with fail
      refine (HC.out.read i true HD.out.d hlt (by omega) (fun _ => rfl)).mono ?_
      rintro e w1 ⟨v, r, F1, rfl, hv, ht1, ⟨rfl, hm, hd1⟩ | ⟨hk, -⟩⟩
      · obtain ⟨htr1, dj1⟩ := trk_dev HD.out.tr HD.out.dj ht1
        have HD1 := Lib.hid hd1
        have HT1 := Lib.hid (HT.out.trans (ht1.left (G := G')))
        have hsm := HD.out.sm i
        have htl := HD.out.tl
        have HTR := Lib.hid htr1
        have hs1 := ht1.1.size
        have HDJ := Lib.hid dj1
        clear hd1 htr1 dj1 ht1 c4
        go_wp2_with fail
        refine (reads_any w1 _ tb t' HTR.out i v true (by omega) hv hm (by omega) (by omega)).mono ?_
        rintro e w2 ⟨rfl, G2, htr2, ht2⟩
        have gb1 : ∀ j, FT G' wx j → B ≤ j := fun j hj => HD.out.gb j hj.1
        have wb1 : B ≤ w1.heap.size := Nat.le_trans HD.out.wb hs1
        obtain ⟨hd2, dj2⟩ := dev_trk HC.out HD1.out HDJ.out gb1 ht2
        have e1 : IntKind.i64.wrap ((i : Int) + 1) = ((i + 1 : Nat) : Int) := by rw [IntWalk.i64_in _ (by omega)]; rfl
        have HN : Hid (DTr D B n w2 (FT F1 w1) G2 (tRead t' i v true) true (c + (i + 1)) p tb) := ⟨hd2, htr2, dj2, by unfold tRead; rw [List.length_set]; exact htl, fun a => by have := sm_read (m := c + i + 1) (fun b => by have := HD.out.sm b; omega) (by omega) i v true a; omega, ht2.ge wb1 gb1, Nat.le_trans wb1 ht2.1.size⟩
        have HN2 := Lib.hid (HT1.out.trans (ht2.right (F := F1)))
        clear hd2 dj2 htr2 ht2 htl hsm hm
        go_wp2_with fail
        go_roundw
        case rel => exact ⟨i + 1, _, _, _, by go_num, by omega, HN.out, HN2.out⟩
        case measure => simp [intOf]; omega
      · cases hk
    · have hin : i = n := by omega
      subst hin
      go_wp2_with fail
      go_ret
      exact ⟨rfl, F', G', t', HD.out, HT.out⟩
end

end Go.Proofs.YtogchafnnkajfaaGreat

namespace Go.Proofs.YtogchafnnkajfaaGreat
set_option linter.unusedVariables false
open Go.RowKit
attribute [local go_sem] Oper.semAt_some d_read d_write d_flush d_size

theorem own_ge {w : World} {base size n : Nat} {e : TypeId} {v : Value} {xs : List Value} (h : w.ownsRow base e size v n xs) (b : Nat) (hb : v.ownBlock = some b) : base ≤ b := by
  rcases h.2 with ⟨rfl, _⟩ | ⟨g, cap, cur, rfl, hg, _⟩
  · simp [Value.ownBlock] at hb
  · obtain rfl : g = b := by simpa [Value.ownBlock] using hb
    exact hg

theorem Turn.drewN' {F F' : Nat → Prop} {W W' : World} (h : Turn F F' W W') (q : Nat) : Turn F F' W (W'.drewN q) := ⟨h.1.drewN q, h.2⟩

section
variable {B n L ga : Nat} {D : World → (Nat → Prop) → List Sec → Bool → Nat → Nat → Prop} {Z : World → (Nat → Prop) → List Sec → Nat → Prop}
theorem DTr.drewN {fO : Nat} {oa : Array Value} {w : World} {F G : Nat → Prop} {t : List Sec} {k : Bool} {c p tb : Nat} (C : DevC B n L ga fO oa D Z) (h : DTr D B n w F G t k c p tb) (q : Nat) : DTr D B n (w.drewN q) F G t k c p tb :=
  ⟨C.dfr h.d ((Fr.refl (fun _ => False) w).drewN q) (fun _ _ h => h) (fun _ h => h.elim), h.tr.fr ((Fr.refl (fun _ => False) w).drewN q) (fun _ _ h => h), h.dj, h.tl, h.sm, h.gb, h.wb⟩

set_option maxRecDepth 100000 in
set_option maxHeartbeats 4000000 in
theorem again_any (b1 b2 b3 : Nat) {w : World} {F G : Nat → Prop} {t : List Sec} {k : Bool} {c p tb : Nat} (C : DevC B n L ga 65 #[.pointer (some ⟨b1, 0, none⟩), .pointer (some ⟨b2, 0, none⟩), .pointer (some ⟨b3, 0, none⟩)] D Z) (h : DTr D B n w F G t k c p tb) (hn : n ≤ 1000) (hc : c + n + 2 ≤ L) (hL : L ≤ 90000) (kw : Nat) (hkw : kw < 18446744073709551616) :
    Calls Tryz.prog 77 #[.pointer (some ⟨tb, 0, none⟩), .pointer (some ⟨ga, 0, none⟩), .func (.func 65) #[] #[.pointer (some ⟨b1, 0, none⟩), .pointer (some ⟨b2, 0, none⟩), .pointer (some ⟨b3, 0, none⟩)], .int .u64 (kw : Int)] w fun e w' => ∃ p' F' G' t', e = .returned (.tuple #[.iface 39 (.pointer (some ⟨p', 0, none⟩)), .bool true]) ∧ DTr D B n w' F' G' t' true (c + n + 2) p' tb ∧ Turn (FU F G) (FU F' G') w w' := by
  have HH := Lib.hid h
  have HC := Lib.hid C
  have htl := h.tl
  clear h C
  go_enter Tryz.func77, Tryz.ntmps77
  go_wp2_with fail
  refine (failed_any w G tb t HH.out.tr (by omega)).mono ?_
  rintro e w1 ⟨rfl, htr1, hf1⟩
  have ht1 : Turn G G w w1 := ⟨hf1, fun j hj => .inl hj⟩
  obtain ⟨G1, hG1⟩ : ∃ G1 : Nat → Prop, G1 = G := ⟨_, rfl⟩
  have hG2 := hG1.symm
  rw [show Turn G G w w1 = Turn G G1 w w1 by rw [hG1]] at ht1
  rw [← hG1] at htr1
  clear hG1 hG2 hf1
  have gb1 : ∀ j, G1 j → B ≤ j := ht1.ge HH.out.wb HH.out.gb
  have wb1 : B ≤ w1.heap.size := Nat.le_trans HH.out.wb ht1.1.size
  obtain ⟨hd1, dj1⟩ := dev_trk HC.out HH.out.d HH.out.dj HH.out.gb ht1
  have HD1 := Lib.hid hd1
  have HT1 := Lib.hid (ht1.right (F := F))
  have HR1 := Lib.hid htr1
  have HJ1 := Lib.hid dj1
  clear ht1 hd1 htr1 dj1
  go_wp2_with fail
  refine (keep_any kw w1 hkw).mono ?_
  rintro e w2 ⟨v, bs, rfl, ho, hbl, hb2⟩
  obtain ⟨A, cc, rfl⟩ := own_form ho
  obtain ⟨htr2, dj2⟩ := trk_dev HR1.out HJ1.out (Turn.of_below (F := FT F w) hb2)
  have hd2 := HC.out.dfr (HC.out.dti HD1.out) (Fr.of_below (G := fun _ => False) hb2) (fun _ _ h => h) (fun _ h => h.elim)
  have wb2 : B ≤ w2.heap.size := Nat.le_trans wb1 hb2.size
  have hap : ∀ b, (Value.slice A 192 cc).ownBlock = some b → ¬ FT (FT F w) w1 b := fun b hb hf => by have := own_ge ho b hb; have := hf.2; omega
  have HD2 := Lib.hid hd2
  have HT2 := Lib.hid (HT1.out.trans (Turn.of_below (F := FU (FT F w) G1) hb2))
  have HR2 := Lib.hid htr2
  have HJ2 : Hid (∀ j, FT (FT F w) w1 j → ¬ FT G1 w1 j) := fun j hj hg => HJ1.out j hj.1 hg.1
  have HO := Lib.hid ho
  have HAP := Lib.hid hap
  clear ho hb2 htr2 dj2 hd2 hap HD1 HR1
  go_wp2_with fail
  refine (HC.out.restart A cc _ bs HD2.out (by omega) HO.out hbl HAP.out).mono ?_
  rintro e w3 ⟨rfl, F3, ht3, hz3⟩
  obtain ⟨htr3, dj3⟩ := trk_dev HR2.out HJ2.out ht3
  have wb3 : B ≤ w3.heap.size := Nat.le_trans wb2 ht3.1.size
  have HZ3 := Lib.hid hz3
  have HT3 : Hid (Turn (FU F G) (FU F3 (FT (FT G1 w1) w2)) w w3) := by
    refine HT2.out.trans ⟨ht3.1.mono (fun j _ hj => .inl hj.1), fun j hj => hj.elim (fun a => (ht3.2 j a).elim (fun b => .inl (.inl b.1)) .inr) (fun a => .inl (.inr a.1.1))⟩
  have HR3 := Lib.hid htr3
  have HJ3 := Lib.hid dj3
  clear hz3 htr3 dj3 ht3 HD2 HR2 HJ2 HO HAP HJ1 HT1 HT2 hbl
  go_wp2_with fail
  refine (HC.out.opens HZ3.out (by omega)).mono ?_
  rintro e w4 ⟨p4, F4, rfl, ht4, hd4⟩
  obtain ⟨htr4, dj4⟩ := trk_dev HR3.out HJ3.out ht4
  have HT4 := Lib.hid (HT3.out.trans (ht4.left (G := FT (FT G1 w1) w2)))
  have h4 : DTr D B n w4 F4 (FT (FT (FT G1 w1) w2) w3) (tFailed t) true (c + 2) p4 tb := ⟨hd4, htr4, dj4, by unfold tFailed; rw [List.length_map]; exact htl, fun a => by have := sm_failed HH.out.sm a; omega, fun j hj => gb1 j hj.1.1.1, Nat.le_trans wb3 ht4.1.size⟩
  obtain ⟨rb, cap, c4⟩ := htr4.len
  rw [h4.tl] at c4
  have H4 := Lib.hid h4
  have HS := Lib.hid (fun q => HC.out.size (HC.out.dfr hd4 ((Fr.refl (fun _ => False) w4).drewN q) (fun _ _ h => h) (fun _ h => h.elim)))
  clear hd4 htr4 dj4 ht4 h4 HZ3 HR3 HJ3 HT3
  go_wp2_with fail
  go_quiet ((go_at_call 46; exact Calls.quiet_of (HS.out _)))
  clear c4 HS
  go_wp2_with fail
  refine (all_any HC.out (DTr.drewN HC.out H4.out _) hn (by omega) hL).mono ?_
  rintro e w5 ⟨rfl, F5, G5, t5, h5, ht5⟩
  go_wp2_with fail
  go_ret2
  refine ⟨p4, F5, G5, t5, rfl, by rw [show c + n + 2 = c + 2 + n by omega]; exact h5, HT4.out.trans ((Turn.drewN' (Turn.refl _ w4) _).trans ht5)⟩
end

end Go.Proofs.YtogchafnnkajfaaGreat

namespace Go.Proofs.YtogchafnnkajfaaGreat
set_option linter.unusedVariables false
open Go.RowKit
attribute [local go_sem] Oper.semAt_some

theorem sector_info : (Tryz.prog.info? 184).map (fun i => (i.zero, i.size, i.bytes)) = some (some (.agg #[.slice none 0 0, .bool false, .int .u64 0]), 3, 40) := by kernel_rfl
theorem own_one2 (W : World) (v base : Nat) (hb : base ≤ W.heap.size) : (W.alloc (.cells #[.int .u64 (v : Int)] 26)).ownsRow base 26 1 (.slice (some ⟨W.heap.size, 0, none⟩) 1 1) 1 (uv [v]) :=
  ⟨by rfl, .inr ⟨W.heap.size, 1, #[.int .u64 (v : Int)], rfl, hb, heap_alloc_new W _, Nat.le_refl _, by simp only [maxLen]; omega, by rfl, by rfl⟩⟩
set_option maxRecDepth 100000 in
set_option maxHeartbeats 4000000 in
theorem tracked_any (W : World) (A : Option Addr) (n c : Nat) (l : List Nat) (hA : Reads W A (uv l)) (hl : l.length = n) (hn1 : 1 ≤ n) (hn : n ≤ 100000) (hw : W64 l) :
    Calls Tryz.prog 72 #[.slice A n c] W fun e w' => ∃ tb, e = .returned (.pointer (some ⟨tb, 0, none⟩)) ∧ TrAt w' (fun j => W.heap.size ≤ j) tb (l.map Sec.start) ∧ Below W.heap.size W w' := by
  have HA := Lib.hid hA
  have HL := Lib.hid hl
  have HW := Lib.hid hw
  obtain ⟨b0, off, rfl, hb0, hc0⟩ := hA (by rw [uv_length, hl]; omega)
  have HC := Lib.hid hc0
  obtain ⟨is, his, hs0, hs1, hs2⟩ := info_parts sector_info
  clear hA hl hw hc0
  go_enter Tryz.func72, Tryz.ntmps72
  go_wp2_with fail
  have hbA : Below W.heap.size W (W.alloc (.cells #[Value.slice none 0 0] 182)) := (Below.refl _ W).alloc (Nat.le_refl _) _
  have hcA := Cs.new W 182 #[Value.slice none 0 0]
  go_loopw [4] (fun s wx => ∃ (k : Nat) (ys : List TS) (v : Value), s = .int .i64 k ∧ k ≤ n ∧ ys.map TS.x = (l.take k).map Sec.start ∧ Cs wx W.heap.size 182 #[v] ∧ wx.ownsRow W.heap.size 184 3 v k (tcells ys) ∧ (∀ y ∈ ys, wx.ownsRow W.heap.size 26 1 y.v y.x.sm.length (uv y.x.sm)) ∧ Below W.heap.size W wx) (fun s _ => n - (intOf s).toNat)
  case atStart => exact ⟨0, [], _, rfl, Nat.zero_le _, rfl, hcA, World.ownsRow_nil _ _ _ _, by simp, hbA⟩
  case round =>
    rename World => wx
    clear hcA hbA
    obtain ⟨k, ys, v, rfl, hk, hys, hcs, hown, hrd, hb⟩ := hrel
    obtain ⟨A1, c1, rfl⟩ := own_form hown
    have c4 := hcs.cell 0
    have f4 := hcs.free 0
    change wx.cell? ⟨W.heap.size, 0, none⟩ = some (.slice A1 k c1) at c4
    have HYS := Lib.hid hys
    have HCS := Lib.hid hcs
    have HO := Lib.hid hown
    have HRD := Lib.hid hrd
    have HB := Lib.hid hb
    have hyl : ys.length = k := by
      have := congrArg List.length hys
      rw [List.length_map, List.length_map, List.length_take, HL.out] at this
      omega
    have htl : (tcells ys).length = k * 3 := by rw [tcells_length, hyl]
    have HTL := Lib.hid htl
    clear hys hcs hown hrd hb hyl htl
    by_cases hlt : k < n
    · have t1 : (k : Int) < (n : Int) := by omega
      have e1 : IntKind.i64.wrap ((k : Int) + 1) = ((k + 1 : Nat) : Int) := IntWalk.i64_in _ (by omega)
      obtain ⟨z, hz⟩ : ∃ z, l[k]? = some z := ⟨_, List.getElem?_eq_getElem (by rw [HL.out]; exact hlt)⟩
      have k0 : wx.cell? ⟨b0, off + k, none⟩ = some (.int .u64 (z : Int)) := (HB.out.cell (p := ⟨b0, off + k, none⟩) hb0).trans (HC.out k _ (by simp [uv, hz]))
      have HZ := Lib.hid hz
      have hsz : W.heap.size < wx.heap.size := HCS.out.lt
      clear hz
      have hb0w : b0 < wx.heap.size := Nat.lt_of_lt_of_le hb0 HB.out.size
      have m0 := (World.cell?_alloc_lt wx (.cells #[.int .u64 (z : Int)] 26) ⟨b0, off + k, none⟩ hb0w).trans k0
      have m1 := (World.cell?_alloc_lt wx (.cells #[.int .u64 (z : Int)] 26) ⟨W.heap.size, 0, none⟩ hsz).trans c4
      have m2 := (World.cell?_alloc_lt (wx.alloc (.cells #[.int .u64 (z : Int)] 26)) (.cells #[.slice (some ⟨wx.heap.size, 0, none⟩) 1 1, .bool true, .int .u64 (z : Int)] 184) ⟨W.heap.size, 0, none⟩ (by simp; omega)).trans m1
      go_upto_region 5 with (fail)
      have hOW : Hid (((wx.alloc (.cells #[.int .u64 (z : Int)] 26)).alloc (.cells #[.slice (some ⟨wx.heap.size, 0, none⟩) 1 1, .bool true, .int .u64 (z : Int)] 184)).drew.ownsRow W.heap.size 184 3 (.slice A1 k c1) k (tcells ys)) := World.ownsRow.drew (World.ownsRow.alloc (World.ownsRow.alloc HO.out _) _)
      have hsz1 : (wx.alloc (.cells #[.int .u64 (z : Int)] 26)).heap.size = wx.heap.size + 1 := by simp
      have HR2 : Hid (Reads (((wx.alloc (.cells #[.int .u64 (z : Int)] 26)).alloc (.cells #[.slice (some ⟨wx.heap.size, 0, none⟩) 1 1, .bool true, .int .u64 (z : Int)] 184)).drew) (some ⟨wx.heap.size + 1, 0, none⟩) [.slice (some ⟨wx.heap.size, 0, none⟩) 1 1, .bool true, .int .u64 (z : Int)]) := by
        have := (Reads.new (wx.alloc (.cells #[.int .u64 (z : Int)] 26)) #[.slice (some ⟨wx.heap.size, 0, none⟩) 1 1, .bool true, .int .u64 (z : Int)] 184).keep (Below.refl _ _).drew
        rw [hsz1] at this
        exact this
      clear hsz1
      have HB3 : Hid (Below W.heap.size W (((wx.alloc (.cells #[.int .u64 (z : Int)] 26)).alloc (.cells #[.slice (some ⟨wx.heap.size, 0, none⟩) 1 1, .bool true, .int .u64 (z : Int)] 184)).drew)) := ((HB.out.alloc (by omega) _).alloc (by simp; omega) _).drew
      have HC3 : Hid (Cs (((wx.alloc (.cells #[.int .u64 (z : Int)] 26)).alloc (.cells #[.slice (some ⟨wx.heap.size, 0, none⟩) 1 1, .bool true, .int .u64 (z : Int)] 184)).drew) W.heap.size 182 #[.slice A1 k c1]) := (HCS.out.alloc _).alloc _
      have HNE := Lib.hid (cs_own_ne HCS.out HO.out (by decide))
      go_region_law ((refine step_append_reads (((wx.alloc (.cells #[.int .u64 (z : Int)] 26)).alloc (.cells #[.slice (some ⟨wx.heap.size, 0, none⟩) 1 1, .bool true, .int .u64 (z : Int)] 184)).drew) (by rfl) (.tmp 17) (.tmp 28) _ (by rfl) W.heap.size 184 is _ 3 40 Tryz.underlying180 his hs0 hs1 hs2 rfl (by omega) (.slice A1 k c1) k (tcells ys) (by rfl) hOW.out (some ⟨wx.heap.size + 1, 0, none⟩) 1 1 [.slice (some ⟨wx.heap.size, 0, none⟩) 1 1, .bool true, .int .u64 (z : Int)] (by rfl) (by rfl) HR2.out (by simp [Value.oneCell']) (by simp only [maxLen]; omega) (by omega) (by simp; omega) ?_; intro v5 w5 hown5 hg5 hat5; obtain ⟨A5, c5, hv5⟩ := own_form hown5; subst hv5; have hc5 := HC3.out.grown hg5 (fun e => HNE.out _ e.symm rfl); have q5 := hc5.cell 0; have f5 := hc5.free 0))
      all_goals
        have HO5 := Lib.hid hown5
        have HC5 := Lib.hid hc5
        have HG5 := Lib.hid hg5
        have HB5 := Lib.hid (HB3.out.trans (((Below.refl W.heap.size (((wx.alloc (.cells #[.int .u64 (z : Int)] 26)).alloc (.cells #[.slice (some ⟨wx.heap.size, 0, none⟩) 1 1, .bool true, .int .u64 (z : Int)] 184)).drew)).grown hg5 (by simp; omega) (own_base HO.out))))
        clear hown5 hg5 hat5 hc5 q5 f5
        go_wp2_with fail
        go_roundw
        case rel =>
          have hpre : ∀ b, (Value.slice A5 (k + 1) c5).ownBlock = some b → b ≠ W.heap.size := cs_own_ne HC5.out HO5.out (by decide)
          have hf := fr_set w5 W.heap.size 0 (.slice A5 (k + 1) c5)
          refine ⟨k + 1, ys ++ [⟨wx.heap.size, 1, Sec.start z⟩], .slice A5 (k + 1) c5, by go_num, by omega, ?_, heap_setCell_same w5 W.heap.size 0 _ _ _ HC5.out, ?_, ?_, HB5.out.trans (hf.below HB5.out.size (fun j hj => by omega))⟩
          · rw [List.map_append, HYS.out, take_snoc' l k z HZ.out, List.map_append]
            rfl
          · rw [tcells_snoc]
            exact own_fr HO5.out hf hpre
          · intro y hy
            rcases List.mem_append.1 hy with hy | hy
            · have h1 := HRD.out y hy
              have h2 : (((wx.alloc (.cells #[.int .u64 (z : Int)] 26)).alloc (.cells #[.slice (some ⟨wx.heap.size, 0, none⟩) 1 1, .bool true, .int .u64 (z : Int)] 184)).drew).ownsRow W.heap.size 26 1 y.v y.x.sm.length (uv y.x.sm) := World.ownsRow.drew (World.ownsRow.alloc (World.ownsRow.alloc h1 _) _)
              have h3 : w5.ownsRow W.heap.size 26 1 y.v y.x.sm.length (uv y.x.sm) := own_fr h2 (fr_grown HG5.out) (fun b hb e => own_own_ne h2 hOW.out (by decide) b b hb e rfl)
              exact own_fr h3 hf (cs_own_ne HC5.out h3 (by decide))
            · rw [List.mem_singleton.1 hy]
              have h1 : (wx.alloc (.cells #[.int .u64 (z : Int)] 26)).ownsRow W.heap.size 26 1 (.slice (some ⟨wx.heap.size, 0, none⟩) 1 1) 1 (uv [z]) := own_one2 wx z W.heap.size (Nat.le_of_lt hsz)
              have h2 : (((wx.alloc (.cells #[.int .u64 (z : Int)] 26)).alloc (.cells #[.slice (some ⟨wx.heap.size, 0, none⟩) 1 1, .bool true, .int .u64 (z : Int)] 184)).drew).ownsRow W.heap.size 26 1 (.slice (some ⟨wx.heap.size, 0, none⟩) 1 1) 1 (uv [z]) := World.ownsRow.drew (World.ownsRow.alloc h1 _)
              have h3 := own_fr h2 (fr_grown HG5.out) (fun b hb e => own_own_ne h2 hOW.out (by decide) b b hb e rfl)
              exact own_fr h3 hf (cs_own_ne HC5.out h3 (by decide))
        case measure => simp [intOf]; omega
    · have hkn : k = n := by omega
      subst hkn
      obtain ⟨bR, cR, hA1, hbR, hbRl⟩ := HO.out.form (by omega)
      injection hA1 with hA1 _ hcR
      subst hA1
      subst hcR
      go_wp2_with fail
      go_ret
      have hyl : ys.length = k := by
        have := congrArg List.length HYS.out
        rw [List.length_map, List.length_map, List.length_take, HL.out] at this
        omega
      have htk : l.take k = l := by rw [← HL.out]; exact List.take_length
      have hys := HYS.out
      rw [htk] at hys
      refine ⟨W.heap.size, rfl, ⟨bR, c1, ys, hys, ⟨by rw [hyl]; exact HCS.out, by rw [hyl]; exact own_lower HO.out (Nat.zero_le _), ?_, Nat.le_refl _, hbR⟩⟩, HB.out⟩
      intro y hy
      have h1 := HRD.out y hy
      obtain ⟨z, hz, e⟩ := List.mem_map.1 (show y.x ∈ l.map Sec.start by rw [← hys]; exact List.mem_map_of_mem hy)
      refine ⟨own_lower h1 (Nat.zero_le _), ?_, own_base h1 y.b rfl, ?_, ?_⟩
      · rw [← e]; simp [Sec.start]
      · rw [← e]
        intro q hq
        rw [List.mem_singleton.1 hq]
        exact HW.out z hz
      · rw [← e]; exact HW.out z hz

end Go.Proofs.YtogchafnnkajfaaGreat

namespace Go.Proofs.YtogchafnnkajfaaGreat
set_option linter.unusedVariables false
open Go.RowKit
attribute [local go_sem] Oper.semAt_some d_read d_write d_flush d_size d_nila

/-- A step. -/
structure Stp where
  kind : Int
  place : Int
  val : Nat
  keep : Nat
def Stp.cells (x : Stp) : List Value := [.int .i64 x.kind, .int .i64 x.place, .int .u64 (x.val : Int), .int .u64 (x.keep : Int)]
def svs (l : List Stp) : List Value := l.flatMap Stp.cells
def StpOk (l : List Stp) : Prop := ∀ x ∈ l, (-9223372036854775808 ≤ x.place ∧ x.place ≤ 9223372036854775807) ∧ x.val < 18446744073709551616 ∧ x.keep < 18446744073709551616
theorem svs_at (l : List Stp) (i : Nat) (x : Stp) (h : l[i]? = some x) (j : Nat) (hj : j < 4) : (svs l)[i * 4 + j]? = x.cells[j]? := by
  induction l generalizing i with
  | nil => simp at h
  | cons y r ih =>
    unfold svs
    rw [List.flatMap_cons]
    rcases i with _ | i
    · simp at h
      subst h
      rw [List.getElem?_append_left (by show _ < 4; omega)]
      congr 1
      omega
    · rw [List.getElem?_append_right (by show 4 ≤ _; omega)]
      have := ih i (by simpa using h)
      rw [← this]
      show (svs r)[_]? = _
      congr 1
      show (i + 1) * 4 + j - 4 = _
      omega
theorem svs_length (l : List Stp) : (svs l).length = l.length * 4 := by
  induction l with
  | nil => rfl
  | cons y r ih =>
    unfold svs at *
    rw [List.flatMap_cons, List.length_append, ih, List.length_cons]
    show 4 + _ = _
    omega
theorem svs_read {w : World} {A : Option Addr} {l : List Stp} (h : Reads w A (svs l)) (hl : l.length ≠ 0) : ∃ b o, A = some ⟨b, o, none⟩ ∧ b < w.heap.size ∧ ∀ i x, l[i]? = some x → w.cell? ⟨b, o + i * 4, none⟩ = some (.int .i64 x.kind) ∧ w.cell? ⟨b, o + i * 4 + 1, none⟩ = some (.int .i64 x.place) ∧ w.cell? ⟨b, o + i * 4 + 2, none⟩ = some (.int .u64 (x.val : Int)) ∧ w.cell? ⟨b, o + i * 4 + 3, none⟩ = some (.int .u64 (x.keep : Int)) := by
  obtain ⟨b, o, e, hb, hc⟩ := h (by rw [svs_length]; omega)
  refine ⟨b, o, e, hb, fun i x hx => ⟨?_, ?_, ?_, ?_⟩⟩
  · exact hc (i * 4 + 0) _ ((svs_at l i x hx 0 (by omega)).trans rfl)
  · exact hc (i * 4 + 1) _ ((svs_at l i x hx 1 (by omega)).trans rfl)
  · exact hc (i * 4 + 2) _ ((svs_at l i x hx 2 (by omega)).trans rfl)
  · exact hc (i * 4 + 3) _ ((svs_at l i x hx 3 (by omega)).trans rfl)

theorem svs_cell {w : World} {b o : Nat} {l : List Stp} (h : Reads w (some ⟨b, o, none⟩) (svs l)) (i : Nat) (x : Stp) (hx : l[i]? = some x) : w.cell? ⟨b, o + i * 4, none⟩ = some (.int .i64 x.kind) ∧ w.cell? ⟨b, o + i * 4 + 1, none⟩ = some (.int .i64 x.place) ∧ w.cell? ⟨b, o + i * 4 + 2, none⟩ = some (.int .u64 (x.val : Int)) ∧ w.cell? ⟨b, o + i * 4 + 3, none⟩ = some (.int .u64 (x.keep : Int)) := by
  obtain ⟨b', o', e, -, hc⟩ := svs_read h (by intro e; rw [List.length_eq_zero_iff.1 e] at hx; simp at hx)
  injection e with e
  injection e with e1 e2
  subst e1; subst e2
  exact hc i x hx

section
variable {B n L ga : Nat} {D : World → (Nat → Prop) → List Sec → Bool → Nat → Nat → Prop} {Z : World → (Nat → Prop) → List Sec → Nat → Prop}

set_option maxRecDepth 100000 in
set_option maxHeartbeats 40000000 in
theorem sound_any (b1 b2 b3 : Nat) {w : World} {F : Nat → Prop} (C : DevC B n L ga 65 #[.pointer (some ⟨b1, 0, none⟩), .pointer (some ⟨b2, 0, none⟩), .pointer (some ⟨b3, 0, none⟩)] D Z) (l0 : List Nat) (ls : List Stp) (Ai As : Option Addr) (ci cs m : Nat) (hz : Z w F (l0.map Sec.start) 0) (hB : B ≤ w.heap.size) (hn : l0.length = n) (hn1 : 1 ≤ n) (hn2 : n ≤ 1000) (hm : ls.length = m)
    (hi : ∀ w', Fr F w w' → Reads w' Ai (uv l0)) (hs : ∀ w', Fr F w w' → Reads w' As (svs ls)) (hw : W64 l0) (hok : StpOk ls) (hc : 1 + (m + 2) * (n + 4) ≤ L) (hL : L ≤ 90000) :
    Calls Tryz.prog 41 #[.pointer (some ⟨ga, 0, none⟩), .func (.func 65) #[] #[.pointer (some ⟨b1, 0, none⟩), .pointer (some ⟨b2, 0, none⟩), .pointer (some ⟨b3, 0, none⟩)], .slice Ai n ci, .slice As m cs] w fun e w' => e = .returned (.bool true) ∧ ∃ F', Turn F F' w w' := by
  have HC := Lib.hid C
  have HZ := Lib.hid hz
  have HI := Lib.hid hi
  have HS := Lib.hid hs
  have HW := Lib.hid hw
  have HOK := Lib.hid hok
  have HM := Lib.hid hm
  have HN := Lib.hid hn
  clear C hz hi hs hw hok hm hn
  go_enter Tryz.func41, Tryz.ntmps41
  go_wp2_with fail
  refine (tracked_any w Ai n ci l0 (HI.out w (Fr.refl _ _)) HN.out hn1 (by omega) HW.out).mono ?_
  rintro e w1 ⟨tb, rfl, htr1, hb1⟩
  have HZ1 := Lib.hid (HC.out.zfr (HC.out.zti HZ.out) (Fr.of_below (G := fun _ => False) hb1) (fun _ _ h => h) (fun _ h => h.elim))
  have HT1 : Hid (Turn F (FU (FT F w) (fun j => w.heap.size ≤ j)) w w1) := ⟨Fr.of_below hb1, fun j hj => hj.elim (fun a => .inl a.1) .inr⟩
  have HR1 := Lib.hid htr1
  have hsz1 := hb1.size
  clear htr1 hb1
  go_wp2_with fail
  refine (HC.out.opens HZ1.out (by omega)).mono ?_
  rintro e w2 ⟨p2, F2, rfl, ht2, hd2⟩
  obtain ⟨htr2, dj2⟩ := trk_dev HR1.out (fun j hj hg => by have := hj.2; omega) ht2
  have H2 : Hid (DTr D B n w2 F2 (FT (fun j => w.heap.size ≤ j) w1) (l0.map Sec.start) true 1 p2 tb) := ⟨hd2, htr2, dj2, by rw [List.length_map]; exact HN.out, fun a => by
    unfold tAt
    rw [List.getElem?_map]
    rcases l0[a]? with _ | x
    · exact Nat.zero_le _
    · exact Nat.le_succ 1, fun j hj => Nat.le_trans hB hj.1, Nat.le_trans hB (Nat.le_trans hsz1 ht2.1.size)⟩
  have HT2 := Lib.hid (HT1.out.trans (ht2.left (G := fun j => w.heap.size ≤ j)))
  have HSz := Lib.hid (HC.out.size hd2)
  clear hd2 htr2 dj2 ht2 HZ1 HR1 HT1
  go_wp2_with fail
  refine HSz.out.mono ?_
  rintro e w3 ⟨rfl, q3, rfl⟩
  have H3 := Lib.hid (DTr.drewN HC.out H2.out q3)
  have HT3 := Lib.hid (Turn.drewN' HT2.out q3)
  have hnz : n ≠ 0 := by omega
  have hnb : ((n : Int) == 0) = false := by simpa using hnz
  clear H2 HT2 HSz
  generalize w2.drewN q3 = w3 at *
  go_wp2_with fail
  go_loopw [10, 12] (fun s10 s12 wx => ∃ (i p' c : Nat) (F' G' : Nat → Prop) (t' : List Sec) (k : Bool), s10 = .iface 39 (.pointer (some ⟨p', 0, none⟩)) ∧ s12 = .int .i64 i ∧ i ≤ m ∧ c ≤ 1 + i * (n + 4) ∧ DTr D B n wx F' G' t' k c p' tb ∧ Turn F (FU F' G') w wx) (fun _ s12 _ => m - (intOf s12).toNat)
  case atStart => exact ⟨0, p2, 1, _, _, _, _, rfl, rfl, Nat.zero_le _, by omega, H3.out, HT3.out⟩
  case round =>
    rename World => wx
    clear H3 HT3
    obtain ⟨i, p, c, F1, G1, tk, k, rfl, rfl, him, hci, hh, htn⟩ := hrel
    have HD := Lib.hid hh
    have HT := Lib.hid htn
    clear hh htn
    by_cases hlt : i < m
    · obtain ⟨x, hx⟩ : ∃ x, ls[i]? = some x := ⟨_, List.getElem?_eq_getElem (by rw [HM.out]; exact hlt)⟩
      obtain ⟨bs, os, rfl, hbs, hcs⟩ := svs_read (HS.out wx HT.out.1) (by rw [HM.out]; omega)
      obtain ⟨c0, c1, c2, c3⟩ := hcs i x hx
      obtain ⟨hxp, hxv, hxk⟩ := HOK.out x (List.mem_of_getElem? hx)
      have HX := Lib.hid hx
      clear hcs hx
      obtain ⟨kd, pl, v, kp⟩ := x
      dsimp only at c0 c1 c2 c3 hxp hxv hxk
      have t1 : (i : Int) < (m : Int) := by omega
      have u1 := Int.tmod_lt_of_pos pl (b := (n : Int)) (by omega)
      have u2 : -(n : Int) < pl.tmod n := Int.lt_tmod_of_pos pl (by omega)
      obtain ⟨T, hT⟩ : ∃ T, pl.tmod (n : Int) = T := ⟨_, rfl⟩
      rw [hT] at u1 u2
      have u3 : IntKind.i64.wrap (T + (n : Int)) = T + (n : Int) := IntWalk.i64_in _ (by omega)
      obtain ⟨a, ha⟩ : ∃ a : Nat, (T + (n : Int)).tmod (n : Int) = (a : Int) := ⟨((T + (n : Int)).tmod (n : Int)).toNat, by have := Int.tmod_nonneg (n : Int) (show 0 ≤ T + (n : Int) by omega); omega⟩
      have han : a < n := by have := Int.tmod_lt_of_pos (T + (n : Int)) (b := (n : Int)) (by omega); omega
      go_upto_block 2 with (fail)
      go_cut [14] (fun s14 wy => ∃ (r : Int) (c' : Nat) (F' G' : Nat → Prop) (t' : List Sec) (k' : Bool), s14 = .int .i64 r ∧ (r = 0 ∨ r = 5) ∧ c' ≤ c + 1 ∧ DTr D B n wy F' G' t' k' c' p tb ∧ Turn F (FU F' G') w wy)
      case first =>
        have htl := HD.out.tl
        have hsm := HD.out.sm a
        have hcl : c < L := by
          have := Nat.mul_le_mul_right (n + 4) (show i ≤ m by omega)
          simp only [Nat.add_mul] at hc
          omega
        by_cases k0 : kd = 0
        · subst k0
          go_upto_region 14 with (fail)
          go_region_held3 (fun w' => w'.cell? ⟨bs, os + i * 4 + 2, none⟩ = some (.int .u64 (v : Int)))
            (first | exact yy | exact c2)
            ((go_at_call 31; refine (HC.out.write a v (HC.out.dfr HD.out.d ((Fr.refl (fun _ => False) wx).drew) (fun _ _ h => h) (fun _ h => h.elim)) han hxv hcl).mono ?_; rintro e w2 ⟨r, F2, rfl, ht2, hr2, hd2⟩; have ht2' : Turn F1 F2 wx w2 := (Turn.drewN' (Turn.refl F1 wx) 1).trans ht2; have ht2'' := HT.out.trans (ht2'.left (G := G1)); have yy : w2.cell? ⟨bs, os + i * 4 + 2, none⟩ = some (.int .u64 (v : Int)) := (svs_cell (HS.out w2 ht2''.1) i _ HX.out).2.2.1))
          obtain ⟨htr2, dj2⟩ := trk_dev HD.out.tr HD.out.dj ht2'
          have HR2 := Lib.hid htr2
          have HJ2 := Lib.hid dj2
          have HT2 := Lib.hid ht2''
          have wb2 : B ≤ w2.heap.size := Nat.le_trans HD.out.wb ht2'.1.size
          have gb2 : ∀ j, FT G1 wx j → B ≤ j := fun j hj => HD.out.gb j hj.1
          clear htr2 dj2 ht2 ht2' ht2'' c0 c1 c2 c3
          have c2 := yy
          clear yy
          rcases hr2 with rfl | rfl
          · have HD2 : Hid (D w2 F2 (tWrote tk a v true) false (c + 1) p) := hd2
            clear hd2
            go_wp2_with fail
            refine (wrote_any w2 _ tb tk HR2.out a v true (by omega) hxv (by omega) (by omega)).mono ?_
            rintro e w3 ⟨rfl, G3, htr3, ht3⟩
            obtain ⟨hd3, dj3⟩ := dev_trk HC.out HD2.out HJ2.out gb2 ht3
            have H3 : Hid (DTr D B n w3 (FT F2 w2) G3 (tWrote tk a v true) false (c + 1) p tb) := ⟨hd3, htr3, dj3, by unfold tWrote; rw [List.length_set]; exact htl, fun b => sm_wrote HD.out.sm a v true b, ht3.ge wb2 gb2, Nat.le_trans wb2 ht3.1.size⟩
            have HT3 := Lib.hid (HT2.out.trans (ht3.right (F := F2)))
            clear hd3 htr3 dj3 ht3
            go_wp2_with fail
            go_meet
            case rel => exact ⟨0, c + 1, _, _, _, _, rfl, .inl rfl, Nat.le_refl _, H3.out, HT3.out⟩
          · have HD2 : Hid (D w2 F2 (tWrote tk a v false) false (c + 1) p) := hd2
            clear hd2
            go_wp2_with fail
            refine (wrote_any w2 _ tb tk HR2.out a v false (by omega) hxv (by omega) (by omega)).mono ?_
            rintro e w3 ⟨rfl, G3, htr3, ht3⟩
            obtain ⟨hd3, dj3⟩ := dev_trk HC.out HD2.out HJ2.out gb2 ht3
            have H3 : Hid (DTr D B n w3 (FT F2 w2) G3 (tWrote tk a v false) false (c + 1) p tb) := ⟨hd3, htr3, dj3, by unfold tWrote; rw [List.length_set]; exact htl, fun b => sm_wrote HD.out.sm a v false b, ht3.ge wb2 gb2, Nat.le_trans wb2 ht3.1.size⟩
            have HT3 := Lib.hid (HT2.out.trans (ht3.right (F := F2)))
            clear hd3 htr3 dj3 ht3
            go_wp2_with fail
            go_meet
            case rel => exact ⟨5, c + 1, _, _, _, _, rfl, .inr rfl, Nat.le_refl _, H3.out, HT3.out⟩
        · have q0 : (kd == 0) = false := by simpa using k0
          by_cases k1 : kd = 1
          · subst k1
            clear q0 k0
            go_wp2_with fail
            refine (HC.out.read a false HD.out.d han hcl (fun e => by cases e)).mono ?_
            rintro e w2 ⟨v2, r, F2, rfl, hv2, ht2, hor⟩
            obtain ⟨htr2, dj2⟩ := trk_dev HD.out.tr HD.out.dj ht2
            have HR2 := Lib.hid htr2
            have HJ2 := Lib.hid dj2
            have wb2 : B ≤ w2.heap.size := Nat.le_trans HD.out.wb ht2.1.size
            have gb2 : ∀ j, FT G1 wx j → B ≤ j := fun j hj => HD.out.gb j hj.1
            have HT2 := Lib.hid (HT.out.trans (ht2.left (G := G1)))
            clear htr2 dj2 ht2 c0 c1 c2 c3
            rcases hor with ⟨rfl, hm2, hd2⟩ | ⟨hk2, rfl, hd2⟩
            · have HD2 := Lib.hid hd2
              clear hd2
              go_wp2_with fail
              refine (reads_any w2 _ tb tk HR2.out a v2 false (by omega) hv2 hm2 (by omega) (by omega)).mono ?_
              rintro e w3 ⟨rfl, G3, htr3, ht3⟩
              obtain ⟨hd3, dj3⟩ := dev_trk HC.out HD2.out HJ2.out gb2 ht3
              have H3 : Hid (DTr D B n w3 (FT F2 w2) G3 (tRead tk a v2 false) k (c + 1) p tb) := ⟨hd3, htr3, dj3, by unfold tRead; rw [List.length_set]; exact htl, fun b => by have := sm_read HD.out.sm (by omega) a v2 false b; omega, ht3.ge wb2 gb2, Nat.le_trans wb2 ht3.1.size⟩
              have HT3 := Lib.hid (HT2.out.trans (ht3.right (F := F2)))
              clear hd3 htr3 dj3 ht3 hm2
              go_wp2_with fail
              go_meet
              case rel => exact ⟨0, c + 1, _, _, _, _, rfl, .inl rfl, Nat.le_refl _, H3.out, HT3.out⟩
            · have H3 : Hid (DTr D B n w2 F2 (FT G1 wx) tk k (c + 1) p tb) := ⟨hd2, HR2.out, HJ2.out, htl, fun b => by have := HD.out.sm b; omega, gb2, wb2⟩
              clear hd2
              go_wp2_with fail
              go_meet
              case rel => exact ⟨5, c + 1, _, _, _, _, rfl, .inr rfl, Nat.le_refl _, H3.out, HT2.out⟩
          · have q1 : (kd == 1) = false := by simpa using k1
            by_cases k2 : kd = 2
            · subst k2
              clear q0 k0 q1 k1
              go_wp2_with fail
              refine (HC.out.flush HD.out.d hcl).mono ?_
              rintro e w2 ⟨r, F2, rfl, ht2, hor⟩
              obtain ⟨htr2, dj2⟩ := trk_dev HD.out.tr HD.out.dj ht2
              have HR2 := Lib.hid htr2
              have HJ2 := Lib.hid dj2
              have wb2 : B ≤ w2.heap.size := Nat.le_trans HD.out.wb ht2.1.size
              have gb2 : ∀ j, FT G1 wx j → B ≤ j := fun j hj => HD.out.gb j hj.1
              have HT2 := Lib.hid (HT.out.trans (ht2.left (G := G1)))
              clear htr2 dj2 ht2 c0 c1 c2 c3
              rcases hor with ⟨rfl, hd2⟩ | ⟨rfl, hd2⟩
              · have HD2 := Lib.hid hd2
                clear hd2
                go_wp2_with fail
                refine (flushed_any w2 _ tb tk HR2.out (by omega)).mono ?_
                rintro e w3 ⟨rfl, G3, htr3, ht3⟩
                obtain ⟨hd3, dj3⟩ := dev_trk HC.out HD2.out HJ2.out gb2 ht3
                have H3 : Hid (DTr D B n w3 (FT F2 w2) G3 (tFlushed tk) false (c + 1) p tb) := ⟨hd3, htr3, dj3, by unfold tFlushed; rw [List.length_map]; exact htl, fun b => by have := sm_flushed HD.out.sm (by omega) b; omega, ht3.ge wb2 gb2, Nat.le_trans wb2 ht3.1.size⟩
                have HT3 := Lib.hid (HT2.out.trans (ht3.right (F := F2)))
                clear hd3 htr3 dj3 ht3
                go_wp2_with fail
                go_meet
                case rel => exact ⟨0, c + 1, _, _, _, _, rfl, .inl rfl, Nat.le_refl _, H3.out, HT3.out⟩
              · have H3 : Hid (DTr D B n w2 F2 (FT G1 wx) tk false (c + 1) p tb) := ⟨hd2, HR2.out, HJ2.out, htl, fun b => by have := HD.out.sm b; omega, gb2, wb2⟩
                clear hd2
                go_wp2_with fail
                go_meet
                case rel => exact ⟨5, c + 1, _, _, _, _, rfl, .inr rfl, Nat.le_refl _, H3.out, HT2.out⟩
            · have q2 : (kd == 2) = false := by simpa using k2
              by_cases k3 : kd = 3
              · subst k3
                clear q0 k0 q1 k1 q2 k2
                go_wp2_with fail
                go_meet
                case rel => exact ⟨5, c, _, _, _, _, rfl, .inr rfl, Nat.le_succ _, HD.out, HT.out⟩
              · have q3 : (kd == 3) = false := by simpa using k3
                by_cases k4 : kd = 4
                · subst k4
                  clear q0 k0 q1 k1 q2 k2 q3 k3
                  have e1 : IntKind.i64.wrap (1 + (a : Int)) = ((a + 1 : Nat) : Int) := by rw [IntWalk.i64_in _ (by omega)]; omega
                  go_wp2_with fail
                  refine (HC.out.fuse (a + 1) HD.out.d (by omega) hcl).mono ?_
                  rintro e w2 ⟨rfl, F2, ht2, hd2⟩
                  have H2 := Lib.hid (HD.out.dev ht2 hd2 (Nat.le_succ c))
                  have HT2 := Lib.hid (HT.out.trans (ht2.left (G := G1)))
                  clear ht2 hd2 c0 c1 c2 c3
                  go_wp2_with fail
                  go_meet
                  case rel => exact ⟨0, c + 1, _, _, _, _, rfl, .inl rfl, Nat.le_refl _, H2.out, HT2.out⟩
                · have q4 : (kd == 4) = false := by simpa using k4
                  clear k0 k1 k2 k3 k4
                  go_wp2_with fail
                  go_meet
                  case rel => exact ⟨0, c, _, _, _, _, rfl, .inl rfl, Nat.le_succ _, HD.out, HT.out⟩
      case rest =>
        obtain ⟨r, c', F2, G2, t2, k2, rfl, hr, hcc, hh2, ht2⟩ := hcut
        have hsz : n + 2 + c' ≤ L := by
          have := Nat.mul_le_mul_right (n + 4) (show i ≤ m by omega)
          simp only [Nat.add_mul] at hc
          omega
        have hnew : c' + n + 2 ≤ 1 + (i + 1) * (n + 4) := by simp only [Nat.add_mul]; omega
        have hmL : m ≤ 90000 := by have := Nat.le_mul_of_pos_right (m + 2) (show 0 < n + 4 by omega); omega
        have e5 : IntKind.i64.wrap ((i : Int) + 1) = ((i + 1 : Nat) : Int) := by rw [IntWalk.i64_in _ (by omega)]; rfl
        obtain ⟨-, -, -, d3⟩ := svs_cell (HS.out wc ht2.1) i _ HX.out
        dsimp only at d3
        have H2 := Lib.hid hh2
        have HT2 := Lib.hid ht2
        clear hh2 ht2 c0 c1 c2 c3
        rcases hr with rfl | rfl
        · go_wp2_with fail
          go_roundw
          case rel => exact ⟨i + 1, p, c', _, _, _, _, rfl, by go_num, by omega, by omega, H2.out, HT2.out⟩
          case measure => simp [intOf]; omega
        · go_wp2_with fail
          refine (again_any b1 b2 b3 HC.out H2.out hn2 (by omega) hL kp hxk).mono ?_
          rintro e w4 ⟨p4, F4, G4, t4, rfl, h4, ht4⟩
          have H4 := Lib.hid h4
          have HT4 := Lib.hid (HT2.out.trans ht4)
          clear h4 ht4
          go_wp2_with fail
          go_roundw
          case rel => exact ⟨i + 1, p4, c' + n + 2, _, _, _, _, rfl, by go_num, by omega, hnew, H4.out, HT4.out⟩
          case measure => simp [intOf]; omega
    · have hin : i = m := by omega
      subst hin
      go_wp2_with fail
      refine (again_any b1 b2 b3 HC.out HD.out hn2 (by simp only [Nat.add_mul] at hc; omega) hL 0 (by omega)).mono ?_
      rintro e w4 ⟨p4, F4, G4, t4, rfl, h4, ht4⟩
      have H4 := Lib.hid h4
      have HT4 := Lib.hid (HT.out.trans ht4)
      clear h4 ht4
      go_wp2_with fail
      refine (all_any HC.out H4.out hn2 (by simp only [Nat.add_mul] at hc; omega) hL).mono ?_
      rintro e w5 ⟨rfl, F5, G5, t5, h5, ht5⟩
      have HT5 := Lib.hid (HT4.out.trans ht5)
      clear h5 ht5
      go_wp2_with fail
      go_ret
      exact ⟨rfl, _, HT5.out⟩
end

end Go.Proofs.YtogchafnnkajfaaGreat

namespace Go.Proofs.YtogchafnnkajfaaGreat
set_option linter.unusedVariables false

section
variable {C : VC} {V : VS} {t : List Sec} {k : Bool}

/-- The disks alone have changed, and not to be seen. -/
theorem VI.eqS {S S' : DS} {sl : List Sl} {pm : Bool} {ok : Nat → Nat → Prop} (h : VI C S sl pm ok) (h1 : S'.dr = S.dr) (h2 : S'.log = S.log) : VI C S' sl pm ok := h.shr (Shr.eq h.k.hea h1 h2)

theorem Bd.lose {V V' : VS} {n c : Nat} (h : Bd V V' n c) (k : Nat) : Bd V (V'.loseV C k) (n + 1) c := by
  have h1 := h.fr (C := C) k
  unfold VS.loseV
  split
  · exact h1
  · refine ⟨h1.ok.clear k, ?_, ?_, h1.clk, h1.log, h1.wr, h1.md, h1.op, h1.pm, h1.clo⟩
    · show (List.set _ _ _).length = _
      rw [List.length_set]; exact h1.len
    · show (List.set _ _ _).length = _
      rw [List.length_set]; exact h1.sll
/-- What Write leaves. -/
theorem Bd.wrt {a v : Nat} (hok : V.x.Ok) (hlen : V.x.sl.length = V.ss.length) (hclk : V.x.clk < 1099511627776) (ha : a < C.n0) (hn0 : C.n0 ≤ 65536) : Bd V (V.wrt C a v).2 (2 * C.chunk + 5) 1 := by
  have h0 := Bd.slt (C := C) hok hlen ha hn0 hclk
  have hso := slt_ok (C := C) hok hlen ha hn0 hclk
  unfold VS.wrt
  split
  · exact h0.mono (by omega) (Nat.le_refl _)
  · rename_i he
    have he : (V.slt C a).2.1 = 0 := by
      rcases Classical.em ((V.slt C a).2.1 = 0) with e | e
      · exact e
      · exact absurd e he
    split
    · exact (h0.sw 0 C.n0 (a : Int) v).mono (by omega) (Nat.le_refl _)
    · rename_i hneg
      rcases hso he with e2 | ⟨j, x, e2, hj, hx, hxv, hxb⟩
      · omega
      · rw [e2, Int.toNat_natCast, CS.at_eq hx]
        split
        · -- back
          have hsd := h0.ok.setD j x hx hxv true
          unfold CS.setD at hsd
          rw [CS.at_eq hx] at hsd
          have hb1 : Bd V ((V.slt C a).2.2.bc1 C j x).2 (2 * C.chunk + 3) 1 := by
            unfold VS.bc1
            split
            · exact h0.mono (by omega) (Nat.le_refl _)
            · have h1 := h0.st (C := C) j { x with dirty := true } hsd
              exact bnd_cases (P := fun V' => Bd V V' (2 * C.chunk + 3) 1) h1 (fun _ => h1.fl 2)
          unfold VS.bck
          refine bnd_cases (P := fun V' => Bd V V' (2 * C.chunk + 5) 1) (hb1.mono (by omega) (Nat.le_refl _)) (fun _ => ?_)
          exact (hb1.sw 1 C.n1 ((j * C.chunk + a % C.chunk : Nat) : Int) v).mono (by omega) (Nat.le_refl _)
        · -- through
          have h1 : Bd V ((V.slt C a).2.2.wr0 C a v) (2 * C.chunk + 3) 1 := h0.sw 0 C.n0 (a : Int) v
          have h2 : Bd V (((V.slt C a).2.2.wr0 C a v).wr1 C ((j * C.chunk + a % C.chunk : Nat) : Int) v) (2 * C.chunk + 4) 1 := h1.sw 1 C.n1 ((j * C.chunk + a % C.chunk : Nat) : Int) v
          unfold VS.thr
          split
          · exact (h1.lose (C := C) j).mono (by omega) (Nat.le_refl _)
          · split
            · exact (h2.lose (C := C) j).mono (by omega) (Nat.le_refl _)
            · exact h2.mono (by omega) (Nat.le_refl _)

/-- Write, where the power is away. -/
theorem wrt_down {a v : Nat} (hh : Hea V.S [C.n0, C.n1, C.n2]) (hd : V.S.down = true) (hok : V.x.Ok) (hlen : V.x.sl.length = V.ss.length) (hclk : V.x.clk < 1099511627776) (hn2 : V.x.sl.length + 1 = C.n2) (hc : 1 ≤ C.chunk) (ha : a < C.n0) (hn0 : C.n0 ≤ 65536) (hn1 : V.x.sl.length * C.chunk ≤ C.n1) :
    (V.wrt C a v).1 = 5 ∧ (V.wrt C a v).2.S = V.S := by
  obtain ⟨s1, s2⟩ := slt_down hh hd hok hn2 hc ha hn0 hn1
  have hso := slt_ok (C := C) hok hlen ha hn0 hclk
  unfold VS.wrt
  rcases s2 with e | e
  · rw [if_neg (fun x => x e)]
    have hso := hso e
    generalize V.slt C a = q at *
    obtain ⟨qk, qe, qV⟩ := q
    dsimp only at *
    have hhq : Hea qV.S [C.n0, C.n1, C.n2] := by rw [s1]; exact hh
    have hdq : qV.S.down = true := by rw [s1]; exact hd
    obtain ⟨w1, w2⟩ := wr_down hhq hdq (i := 0) (n := C.n0) rfl a v ha
    rcases hso with rfl | ⟨j, x, rfl, hj, hx, hxv, -⟩
    · rw [if_pos (by omega)]
      exact ⟨w1, w2.trans s1⟩
    · rw [if_neg (by omega), Int.toNat_natCast, CS.at_eq hx]
      have hm := (blk_at a C.chunk hc).2
      have hmm := Nat.mul_le_mul_right C.chunk (show j + 1 ≤ V.x.sl.length by omega)
      rw [Nat.add_mul, Nat.one_mul] at hmm
      split
      · unfold VS.bck
        have hb1 : (qV.bc1 C j x = (0, qV)) ∨ ((qV.bc1 C j x).1 = 5 ∧ (qV.bc1 C j x).2.S = qV.S) := by
          unfold VS.bc1
          split
          · exact .inl rfl
          · right
            obtain ⟨u1, u2⟩ := wr_down hhq hdq (i := 2) (n := C.n2) rfl (1 + j) (Sl.word { x with dirty := true }) (by omega)
            have e1 : qV.setE C j = 5 := u1
            have e2 : (qV.setV C j { x with dirty := true }).S = qV.S := u2
            rw [bnd_no (p := (qV.setE C j, qV.setV C j { x with dirty := true })) (show qV.setE C j ≠ 0 by rw [e1]; decide)]
            exact ⟨e1, e2⟩
        rcases hb1 with hb1 | ⟨hb1, hb2⟩
        · rw [hb1, bnd_ok rfl]
          obtain ⟨u1, u2⟩ := wr_down hhq hdq (i := 1) (n := C.n1) rfl (j * C.chunk + a % C.chunk) v (by omega)
          exact ⟨u1, Eq.trans u2 s1⟩
        · rw [bnd_no (by rw [hb1]; decide)]
          exact ⟨hb1, hb2.trans s1⟩
      · unfold VS.thr
        rw [if_pos (by rw [w1]; decide)]
        have hwS : (qV.wr0 C a v).S = qV.S := w2
        have hfd := free_down (V := qV.wr0 C a v) (C := C) (k := j) (by rw [hwS]; exact hhq) (by rw [hwS]; exact hdq) (by omega)
        exact ⟨w1, by dsimp only; rw [hfd.2.2, hwS, s1]⟩
  · rw [if_pos (by rw [e]; decide)]
    exact ⟨e, s1⟩
/-- Write. -/
theorem DR.write (h : DR C V t k) {a v : Nat} (ha : a < C.n0) (hn0 : C.n0 ≤ 65536) (hclk : V.x.clk < 1099511627776) (hn1 : V.x.sl.length * C.chunk ≤ C.n1) :
    ((V.wrt C a v).1 = 0 ∨ (V.wrt C a v).1 = 5) ∧ DR C (V.wrt C a v).2 (tWrote t a v (decide ((V.wrt C a v).1 = 0))) false := by
  have hbd := Bd.wrt (C := C) (v := v) h.ok h.len hclk ha hn0
  have hal : a < t.length := by rw [h.tl]; exact ha
  have hn2' : (V.wrt C a v).2.x.sl.length + 1 = C.n2 := by rw [hbd.sll]; exact h.n2
  have hcl' : (V.wrt C a v).2.closed = false := by rw [hbd.clo]; exact h.clo
  have htl : ∀ d, (tWrote t a v d).length = C.n0 := fun d => by unfold tWrote; rw [List.length_set]; exact h.tl
  have hpm : (V.wrt C a v).2.pm = V.pm := hbd.pm
  rcases h.st with ⟨hd, hVI, hkn, hcalm⟩ | ⟨hk, hd, hh, sl, hVK⟩
  · rcases wrt_ou (a := a) (v := v) hVI rfl hd h.ok h.len hclk ha hn0 with ⟨r1, r2, r3, r4, r5, r6, r7⟩ | ⟨r1, r2, r3, sl, r4⟩
    · refine ⟨.inl r1, hbd.ok, hbd.len, hcl', hn2', h.ch, htl _, .inl ⟨r2, ?_, ?_, fun e => by cases e⟩⟩
      · rw [hpm]
        exact r4.mono (fun b u _ hu => (okT_wrote hal b u).2 hu)
      · intro b s hs hsk
        unfold tWrote at hs
        rcases set_cases hs with ⟨rfl, rfl⟩ | ⟨hb, hs⟩
        · exact r6
        · exact r7 b _ hb (hkn b s hs hsk)
    · exact ⟨r2, hbd.ok, hbd.len, hcl', hn2', h.ch, htl _, .inr ⟨rfl, r3, r4.hea, sl, by rw [hpm]; exact r4.mono (fun b u _ hu => (okT_wrote hal b u).2 hu)⟩⟩
  · obtain ⟨w1, w2⟩ := wrt_down (v := v) hh hd h.ok h.len hclk h.n2 h.ch ha hn0 hn1
    exact ⟨.inr w1, hbd.ok, hbd.len, hcl', hn2', h.ch, htl _, .inr ⟨rfl, by rw [w2]; exact hd, by rw [w2]; exact hh, sl, by rw [w2, hpm]; exact hVK.mono (fun b u _ hu => (okT_wrote hal b u).2 (.inl hu))⟩⟩
/-- Flush. -/
theorem DR.flush (h : DR C V t k) : (V.flE = 0 ∧ DR C V.flV (tFlushed t) false) ∨ (V.flE = 5 ∧ DR C V.flV t false) := by
  rcases h.st with ⟨hd, hVI, hkn, hcalm⟩ | ⟨hk, hd, hh, sl, hVK⟩
  · left
    obtain ⟨f1, f2, f3, f4, f5, f6, f7, f8⟩ := fls_ou hVI hd
    refine ⟨f1, h.ok, h.len, h.clo, h.n2, h.ch, by unfold tFlushed; rw [List.length_map]; exact h.tl, .inl ⟨f2, ?_, ?_, fun e => by cases e⟩⟩
    · refine f4.mono (fun b u hb hu => ?_)
      have hbl : b < t.length := by rw [h.tl]; exact hb
      unfold okT tFlushed
      rw [List.getElem?_map, List.getElem?_eq_getElem hbl]
      refine ⟨_, rfl, ?_⟩
      unfold Sec.flushed
      split
      · rename_i e
        show u ∈ [(t[b]'hbl).val]
        rw [List.mem_singleton]
        exact VV.uniq f4.k hu (f6 b _ (hkn b _ (List.getElem?_eq_getElem hbl) e))
      · obtain ⟨s, hs, hm⟩ := f8.k.okv hb hu
        rw [List.getElem?_eq_getElem hbl] at hs
        injection hs with hs
        rw [hs]
        exact hm
    · intro b s hs hsk
      unfold tFlushed at hs
      obtain ⟨s0, hs0, rfl⟩ := map_cases hs
      unfold Sec.flushed at hsk ⊢
      split
      · rename_i e
        exact f6 b _ (hkn b s0 hs0 e)
      · rename_i e
        rw [if_neg e] at hsk
        exact absurd hsk e
  · right
    obtain ⟨a1, a2⟩ := fl_down hh hd (i := 1) (n := C.n1) rfl
    obtain ⟨b1, b2⟩ := fl_down hh hd (i := 2) (n := C.n2) rfl
    obtain ⟨c1, c2⟩ := fl_down hh hd (i := 0) (n := C.n0) rfl
    have hE : V.flE = 5 := by
      unfold VS.flE
      rw [if_pos (show V.S.chkF 1 ≠ 0 from fun e => by rw [show V.S.chkF 1 = 5 from a1] at e; cases e)]
      exact a1
    have hS : V.flV.S = V.S := by
      show ((V.S.flush 1).flush 2).flush 0 = V.S
      rw [show V.S.flush 1 = V.S from a2, show V.S.flush 2 = V.S from b2, show V.S.flush 0 = V.S from c2]
    exact ⟨hE, h.ok, h.len, h.clo, h.n2, h.ch, h.tl, .inr ⟨rfl, by rw [hS]; exact hd, by rw [hS]; exact hh, sl, by rw [hS]; exact hVK⟩⟩
/-- The power will fail. -/
theorem DR.fuse (h : DR C V t k) (x : Int) : DR C { V with S := { V.S with fuse := x } } t false := by
  rcases h.st with ⟨hd, hVI, hkn, hcalm⟩ | ⟨hk, hd, hh, sl, hVK⟩
  · exact ⟨h.ok, h.len, h.clo, h.n2, h.ch, h.tl, .inl ⟨hd, hVI.eqS rfl rfl, fun a s hs hsk => (hkn a s hs hsk).now rfl rfl, fun e => by cases e⟩⟩
  · exact ⟨h.ok, h.len, h.clo, h.n2, h.ch, h.tl, .inr ⟨rfl, hd, hh.of rfl rfl, sl, hVK.shr (Shr.eq hh rfl rfl)⟩⟩
/-- Open. -/
theorem ZR.dr {S : DS} (h : ZR C S (okT t)) (htl : t.length = C.n0) (hkn : ∀ (a : Nat) (s : Sec), t[a]? = some s → s.kn = true → s.sm = [s.val]) {mode : Int} (hm : mode = 1 ∨ mode = 2) : DR C ((opn0 S mode).bgn C mode) t true := by
  obtain ⟨v1, v2, v3, v4, v5, v6, v7, -⟩ := h.opened hm
  refine ⟨v4, v5, v7, v1.k.n2.symm, v1.k.ch, htl, .inl ⟨v3.dn, ?_, ?_, fun _ => ⟨v3.fu, by rw [v6]; exact v1⟩⟩⟩
  · rw [v6]
    exact v1.mono (fun a v _ hv => v2 a v hv)
  · intro a s hs hsk
    have ha : a < C.n0 := by rw [← htl]; exact (List.getElem?_eq_some_iff.1 hs).1
    obtain ⟨v, hv⟩ := VV.ex v1.k ha
    obtain ⟨s', hs', hm'⟩ := v2 a v hv
    rw [hs] at hs'
    injection hs' with hs'
    subst hs'
    rw [hkn a s hs hsk, List.mem_singleton] at hm'
    rw [← hm']
    exact hv
end

theorem failed_okT (t : List Sec) (a v : Nat) : okT (tFailed t) a v ↔ okT t a v := by
  unfold okT tFailed
  constructor
  · rintro ⟨s, hs, hv⟩
    obtain ⟨s0, hs0, rfl⟩ := map_cases hs
    exact ⟨s0, hs0, hv⟩
  · rintro ⟨s, hs, hv⟩
    exact ⟨s.failed, by rw [List.getElem?_map, hs]; rfl, hv⟩
theorem failed_kn (t : List Sec) : ∀ (a : Nat) (s : Sec), (tFailed t)[a]? = some s → s.kn = true → s.sm = [s.val] := by
  intro a s hs hk
  unfold tFailed at hs
  obtain ⟨s0, hs0, rfl⟩ := map_cases hs
  cases hk
/-- A new cache. -/
theorem ZR.fmt {C : VC} {S : DS} (h : NF C S) (hst : ∀ i, i < 3 → Stl S i) (ws : List Nat) (K : Nat) (hK : 1 ≤ K ∧ K ≤ 1024) (hc : 1 ≤ C.chunk ∧ C.chunk ≤ 64) (h2 : S.now 2 = fmtW ws K (C.chunk : Int)) (hl : ws.length = K + 1) (hn2 : C.n2 = K + 1) (hn1 : K * C.chunk ≤ C.n1) :
    ZR C S (okT ((S.now 0).map Sec.start)) := by
  obtain ⟨o1, o2, o3, o4⟩ := open_fmt ws K (C.chunk : Int) hK (by omega) (by omega)
  obtain ⟨g1, g2, g3, g4, g5, g6⟩ := hdI_fields K (C.chunk : Int) 0 false (by omega) (by omega) (by omega)
  have hk : opK (S.now 2) = K := by unfold opK; rw [h2, o2]; exact g2
  have hCc : opC (S.now 2) = C.chunk := by unfold opC; rw [h2, o2]; exact Int.ofNat.inj g3
  have hsl : slotsU (S.now 2) (opK (S.now 2)) = List.replicate K Sl.nil := by rw [hk, h2]; exact o3
  have hget : ∀ {j : Nat} {y : Sl}, (List.replicate K Sl.nil)[j]? = some y → y.valid = false := by
    intro j y hy
    have := (List.getElem?_replicate.symm.trans hy)
    split at this
    · injection this with this
      rw [← this]; rfl
    · cases this
  refine ⟨h, hst, by rw [h2]; exact o1, hCc.symm, by rw [hk, hCc]; omega, ?_, by rw [hk]; exact hn2, ?_, ?_⟩
  · rw [hsl]
    unfold badS
    rw [List.any_eq_false]
    intro y hy
    obtain ⟨j, hj⟩ := List.mem_iff_getElem?.1 hy
    rw [hget hj]
    simp
  · intro j y i hy _ hv
    rw [hsl] at hy
    rw [hget hy] at hv
    cases hv
  · intro a v ha hv
    rcases hv with ⟨j, z, hz, hzv, -⟩ | ⟨-, hn⟩
    · rw [List.getElem?_map] at hz
      rw [hsl] at hz
      rcases hy : (List.replicate K Sl.nil)[j]? with _ | y
      · rw [hy] at hz; cases hz
      · rw [hy] at hz
        injection hz with hz
        subst hz
        have := hget hy
        obtain ⟨e1, -⟩ := kept_valid hzv
        rw [e1, this] at hzv
        cases hzv
    · exact ⟨Sec.start v, by rw [List.getElem?_map, hn]; rfl, List.mem_singleton.2 rfl⟩

end Go.Proofs.YtogchafnnkajfaaGreat

namespace Go.Proofs.YtogchafnnkajfaaGreat
set_option linter.unusedVariables false
open Go.RowKit
attribute [local go_sem] Oper.semAt_some m_write m_read m_flush m_size

/-- .. and the words of the cache in memory. -/
theorem VolIn.meta_ {W : World} {Fc Fv : Nat → Prop} {C : VC} {V : VS} {A B : Option Addr} {c d : Nat} (h : VolIn W Fc Fv C V A c B d) : ∃ A' c', Cs W C.m 160 #[spanV C.s2, .slice A' V.ss.length c', .int .i64 (C.chunk : Int), .int .i64 V.md, .bool V.op] := by
  obtain ⟨F, A', c', h⟩ := h.cache
  exact ⟨A', c', h.meta_⟩

set_option maxRecDepth 100000 in
set_option maxHeartbeats 8000000 in
theorem vbegin_any (W : World) (Fv : Nat → Prop) (C : VC) (V : VS) (mode : Int) (h : VolAt W Fv C V) (hnb : NB C V) (hm : mode = 1 ∨ mode = 2) (n : Nat) (hN : V.x.sl.length = n)
    (hch : C.chunk ≤ 127) (hn0 : C.n0 ≤ 65536) (hn1 : C.n1 ≤ 65536) (hn2 : C.n2 ≤ 65536) (hlog : V.S.log.length + n * (C.chunk + 2) + C.chunk < 999980) (hwr : V.S.wr + (n * (C.chunk + 2) : Nat) + C.chunk ≤ 999980) :
    Calls Tryz.prog 60 #[.pointer (some ⟨C.v, 0, none⟩), .int .i64 mode] W (VolP W Fv C (.int .i64 0) (V.bgn C mode)) := by
  have hln := hnb.ok.len
  rw [hN] at hln
  have HNB := Lib.hid hnb
  have HN := Lib.hid hN
  have hZ : n * (C.chunk + 2) = n * (C.chunk + 1) + n := by rw [show C.chunk + 2 = (C.chunk + 1) + 1 by omega, Nat.mul_add n (C.chunk + 1) 1, Nat.mul_one]
  rw [hZ] at hlog hwr
  have HMK : Hid (∀ k, k < n → k * (C.chunk + 1) + (C.chunk + 1) ≤ n * (C.chunk + 1)) := fun k hk => by
    have := Nat.mul_le_mul_right (C.chunk + 1) (show k + 1 ≤ n by omega)
    rwa [Nat.add_mul, Nat.one_mul] at this
  generalize hY : n * (C.chunk + 1) = Y at *
  have HYY := Lib.hid hY
  clear hY
  have HLW : Hid (V.S.log.length + (Y + n) + C.chunk < 999980 ∧ V.S.wr + (Y + n : Nat) + C.chunk ≤ 999980) := ⟨hlog, hwr⟩
  have HMD := Lib.hid hm
  obtain ⟨Fc, A, c, B, d, h⟩ := h
  obtain ⟨bR, rfl⟩ := h.form (by omega)
  obtain ⟨Am, cm, hmt⟩ := h.meta_
  obtain ⟨c0, c1, c2, c3, c4, c5, c6, c7, c8, c9⟩ := h.cells
  rw [hN] at c1
  have H0 := Lib.hid h
  have HCA := Lib.hid (clean_any W C.m _ _ _ _ _ hmt)
  clear h hnb hN hlog hwr hm hmt hZ c1 c2 c3 c4 c5 c6 c7 c8 c9
  go_enter Tryz.func60, Tryz.ntmps60
  go_upto_if 18 with (go_at_call 111; refine HCA.out.mono ?_; rintro e w1 ⟨rfl, rfl⟩)
  go_cut [] (fun wx => ∃ Fv', VolAtR wx Fv' C (V.bgA C) (some ⟨bR, 0, none⟩) c ∧ Turn Fv Fv' W wx)
  case first =>
    rcases hop : V.op with _ | _
    · have HE : Hid (V.bgA C = V) := by show _ = _; unfold VS.bgA; rw [hop]; rfl
      clear hop
      go_wp2_with fail
      go_meet
      case rel => exact ⟨Fv, by rw [HE.out]; exact ⟨_, _, _, H0.out⟩, Turn.refl _ _⟩
    · have HE : Hid (V.bgA C = { V.bg1 C n with S := (V.bg1 C n).S.flush 2 }) := by show _ = _; unfold VS.bgA; rw [hop, if_pos rfl, HN.out]
      obtain ⟨-, c1, -, -, -, -, -, -, -, -⟩ := H0.out.cells
      rw [HN.out] at c1
      clear hop
      go_wp2_with fail
      clear c1 c0
      go_loopw [26] (fun z wr => ∃ (k : Nat) (Fv' : Nat → Prop), z = .int .i64 k ∧ k ≤ n ∧ VolAtR wr Fv' C (V.bg1 C k) (some ⟨bR, 0, none⟩) c ∧ Turn Fv Fv' W wr) (fun z _ => n - (intOf z).toNat)
      case atStart => exact ⟨0, Fv, rfl, Nat.zero_le _, ⟨_, _, _, H0.out⟩, Turn.refl _ _⟩
      case round =>
        clear H0 HCA
        obtain ⟨k, Fv', rfl, hk, hv, ht⟩ := hrel
        obtain ⟨i1, i2, i3, i4⟩ := HNB.out.bg1 k (by rw [HN.out]; exact hk)
        have HI := Lib.hid i1
        have HT := Lib.hid ht
        have hbl := i4.log
        have hbw := i4.wr
        have hmd := i4.md
        have hlw := HLW.out
        have hsl : (V.bg1 C k).x.sl.length = n := by rw [i3, HN.out]
        have hss : n = (V.bg1 C k).ss.length := by rw [← hsl]; exact i1.len
        have hst : V.bg1 C (k + 1) = if gone V.md ((V.bg1 C k).x.at_ k) = true then (V.bg1 C k).setV C k nilS else V.bg1 C k := rfl
        generalize hVk : V.bg1 C k = Vk at *
        by_cases hlt : k < n
        · have u1 : (k : Int) < (n : Int) := by omega
          have e1 : IntKind.i64.wrap ((k : Int) + 1) = ((k + 1 : Nat) : Int) := by rw [IntWalk.i64_in _ (by omega)]; rfl
          obtain ⟨x, hx⟩ : ∃ x, Vk.x.sl[k]? = some x := ⟨_, List.getElem?_eq_getElem (by omega)⟩
          rw [CS.at_eq hx] at hst
          have HST := Lib.hid hst
          obtain ⟨Fc, B, d, h⟩ := hv.tight
          obtain ⟨p0, p1, p2, p3⟩ := h.slotC hx
          have hb0 : Below wr.heap.size wr (wr.alloc (.cells #[.bool x.valid, .bool x.dirty, .int .i64 x.block, .int .i64 x.stamp] 31)) := (Below.refl _ wr).alloc (Nat.le_refl _) _
          have hC0 := Cs.new wr 31 #[.bool x.valid, .bool x.dirty, .int .i64 x.block, .int .i64 x.stamp]
          have HX := Lib.hid hx
          have HSL := Lib.hid hsl
          have HSS := Lib.hid hss
          have HMDV := Lib.hid hmd
          have H := Lib.hid h
          clear hst hv ht h hx hsl hss i1 i2 i3 i4 hVk hmd
          go_upto_region 5 with (fail)
          clear p0 p1 p2 p3
          have HX2 := Lib.hid (H.out.keep hb0)
          have HT2 := Lib.hid (HT.out.trans (Turn.of_below (F := Fv') hb0))
          clear hb0 H HT
          obtain ⟨t, ht⟩ : ∃ t, wr.heap.size = t := ⟨_, rfl⟩
          rw [ht] at hC0 ⊢
          generalize (wr.alloc (.cells #[.bool x.valid, .bool x.dirty, .int .i64 x.block, .int .i64 x.stamp] 31)) = w2 at *
          have y0 : w2.cell? ⟨t, 0, none⟩ = some (.bool x.valid) := hC0.cell 0
          have y1 : w2.cell? ⟨t, 1, none⟩ = some (.bool x.dirty) := hC0.cell 1
          clear hC0 ht
          obtain ⟨Am2, cm2, hmt2⟩ := HX2.out.meta_
          obtain ⟨c0, -, -, -, -, -, -, -, -, -⟩ := HX2.out.cells
          have HMO := Lib.hid (mode_any w2 C.m _ _ _ _ _ hmt2)
          rw [HMDV.out] at HMO
          clear hmt2
          have HSE := Lib.hid (vsetR_any w2 _ C Vk k nilS _ _ ⟨_, _, _, HX2.out.fv (fun j hj => hj.1)⟩ (by rw [HSL.out]; exact HSS.out) (by rw [← HSS.out]; omega) (by rw [← HSS.out]; omega) (by unfold nilS; dsimp only; omega) (fun _ => ⟨rfl, rfl⟩) hn2 (by omega) (by omega))
          rw [(HI.out.nf.st k (by have := HI.out.n2; rw [HSL.out] at this; omega) nilS).1] at HSE
          unfold Sl.v nilS at HSE
          unfold nilS at HST
          clear HI hbl hbw hlw
          rcases hv : x.valid with _ | _
          · have HG : Hid (V.bg1 C (k + 1) = Vk) := HST.out.trans (if_neg (by unfold gone; rw [hv]; simp))
            rw [hv] at y0
            clear HST HSE hv
            go_wp2_with fail
            go_roundw
            case rel => exact ⟨k + 1, Fv', by go_num, by omega, by rw [HG.out]; exact ⟨_, _, _, HX2.out.fv (fun j hj => hj.1)⟩, HT2.out⟩
            case measure => simp [intOf]; omega
          · by_cases hm1 : V.md = 1
            · have HG : Hid (V.bg1 C (k + 1) = Vk.setV C k nilS) := HST.out.trans (if_pos (by unfold gone; rw [hv, hm1]; simp))
              rw [hv] at y0
              have q1 : (V.md != 1) = false := by simpa using hm1
              clear HST hv hm1
              go_upto_region 6 with (go_at_call 112; refine HMO.out.mono ?_; rintro e wz ⟨rfl, rfl⟩)
              clear y0 y1
              go_upto_region 7 with (go_at_call 113; refine HSE.out.mono ?_; rintro e w3 ⟨rfl, Fv3, hv3, ht3⟩; have HV3 := Lib.hid hv3; have HT3 := Lib.hid (HT2.out.trans ht3); clear hv3 ht3)
              go_wp2_with fail
              go_roundw
              case rel => exact ⟨k + 1, Fv3, by go_num, by omega, by rw [HG.out]; exact HV3.out, HT3.out⟩
              case measure => simp [intOf]; omega
            · have q1 : (V.md != 1) = true := by simpa using hm1
              rcases hd : x.dirty with _ | _
              · have HG : Hid (V.bg1 C (k + 1) = Vk.setV C k nilS) := HST.out.trans (if_pos (by unfold gone; rw [hv, hd]; simp))
                rw [hv] at y0
                rw [hd] at y1
                clear HST hv hm1 hd
                go_upto_region 6 with (go_at_call 112; refine HMO.out.mono ?_; rintro e wz ⟨rfl, rfl⟩)
                clear y0 y1
                go_upto_region 7 with (go_at_call 113; refine HSE.out.mono ?_; rintro e w3 ⟨rfl, Fv3, hv3, ht3⟩; have HV3 := Lib.hid hv3; have HT3 := Lib.hid (HT2.out.trans ht3); clear hv3 ht3)
                go_wp2_with fail
                go_roundw
                case rel => exact ⟨k + 1, Fv3, by go_num, by omega, by rw [HG.out]; exact HV3.out, HT3.out⟩
                case measure => simp [intOf]; omega
              · have HG : Hid (V.bg1 C (k + 1) = Vk) := HST.out.trans (if_neg (by unfold gone; rw [hv, hd]; simp [hm1]))
                rw [hv] at y0
                rw [hd] at y1
                clear HST HSE hv hm1 hd
                go_wp2_with (go_at_call 112; refine HMO.out.mono ?_; rintro e wz ⟨rfl, rfl⟩)
                go_roundw
                case rel => exact ⟨k + 1, Fv', by go_num, by omega, by rw [HG.out]; exact ⟨_, _, _, HX2.out.fv (fun j hj => hj.1)⟩, HT2.out⟩
                case measure => simp [intOf]; omega
        · have hkn : k = n := by omega
          have u1 : ¬ (k : Int) < (n : Int) := by omega
          obtain ⟨Fc, B, d, h⟩ := hv
          obtain ⟨c0, -, -, -, -, -, -, -, -, -⟩ := h.cells
          have HX := Lib.hid h
          have HFL := Lib.hid (cmflush_any wr Fc C.g C.s2 C.m C.n2 Vk.S Vk.ss (C.chunk : Int) Vk.md Vk.op h.cache (by omega))
          obtain ⟨-, -, hfz⟩ := i1.fl
          rw [hfz] at HFL
          have HE2 : Hid (V.bgA C = { Vk with S := Vk.S.flush 2 }) := by
            show _ = _
            rw [HE.out, ← hVk, hkn]
          clear h ht hst hsl hss i1 i2 i3 i4 hVk hmd hkn hbl hbw hlw hfz
          go_wp2_with (go_at_call 64; refine HFL.out.mono ?_; rintro e w3 ⟨rfl, Fc3, hc3, ht3⟩; have HX3 := Lib.hid (HX.out.turn hc3 ht3); have HT3 := Lib.hid (HT.out.trans (HX.out.wide ht3)); clear hc3 ht3)
          go_meet
          case rel => exact ⟨_, by rw [HE2.out]; exact ⟨_, _, _, HX3.out⟩, HT3.out⟩
  case rest =>
    obtain ⟨Fv1, hv1, ht1⟩ := hcut
    obtain ⟨a1, a2, a3, a4⟩ := HNB.out.bgA
    have HA1 := Lib.hid a1
    have HA4 := Lib.hid a4
    have HSL : Hid ((V.bgA C).x.sl.length = n) := by show _ = _; rw [a3, HN.out]
    have HE1 : Hid (V.bgB C mode = if mode = 1 then (V.bgA C).bg3 C (V.bgA C).x.sl.length else V.bgA C) := rfl
    generalize V.bgA C = V1 at *
    rw [HSL.out] at HE1
    have HV1 := Lib.hid hv1
    have HT1 := Lib.hid ht1
    clear hv1 ht1 a1 a2 a3 a4 H0 HCA c0
    have hbB := HNB.out.bgB mode
    have HBB := Lib.hid hbB
    clear hbB
    go_upto_if 65 with (fail)
    go_cut [] (fun wx => ∃ Fv', VolAt wx Fv' C (V.bgB C mode) ∧ Turn Fv Fv' W wx)
    case first =>
      rcases HMD.out with rfl | rfl
      · have HE2 : Hid (V.bgB C 1 = V1.bg3 C n) := HE1.out.trans (if_pos rfl)
        obtain ⟨Fc, B, d, h⟩ := HV1.out
        obtain ⟨-, c1, -, -, -, -, -, -, -, -⟩ := h.cells
        rw [HSL.out] at c1
        clear HE1 h
        go_wp2_with fail
        clear c1
        go_loopw [73] (fun z wr => ∃ (k : Nat) (Fv' : Nat → Prop), z = .int .i64 k ∧ k ≤ n ∧ VolAtR wr Fv' C (V1.bg3 C k) (some ⟨bR, 0, none⟩) c ∧ Turn Fv Fv' W wr) (fun z _ => n - (intOf z).toNat)
        case atStart => exact ⟨0, Fv1, rfl, Nat.zero_le _, HV1.out, HT1.out⟩
        case round =>
          clear HV1 HT1
          obtain ⟨k, Fv', rfl, hk, hv, ht⟩ := hrel
          obtain ⟨i1, i2, i3, i4⟩ := HA1.out.bg3 k (by rw [HSL.out]; exact hk)
          have HI := Lib.hid i1
          have HT := Lib.hid ht
          have hbl := (HA4.out.trans i4).log
          have hbw := (HA4.out.trans i4).wr
          rw [HN.out] at hbl hbw
          have hlw := HLW.out
          have hmk := HMK.out k
          have hsl : (V1.bg3 C k).x.sl.length = n := by rw [i3, HSL.out]
          have hss : n = (V1.bg3 C k).ss.length := by rw [← hsl]; exact i1.len
          have hst : V1.bg3 C (k + 1) = if ((V1.bg3 C k).x.at_ k).dirty = true then (V1.bg3 C k).clV C k ((V1.bg3 C k).x.at_ k).block.toNat ((V1.bg3 C k).x.at_ k) else V1.bg3 C k := rfl
          generalize hVk : V1.bg3 C k = Vk at *
          by_cases hlt : k < n
          · have hmk := hmk hlt
            have u1 : (k : Int) < (n : Int) := by omega
            have e1 : IntKind.i64.wrap ((k : Int) + 1) = ((k + 1 : Nat) : Int) := by rw [IntWalk.i64_in _ (by omega)]; rfl
            obtain ⟨x, hx⟩ : ∃ x, Vk.x.sl[k]? = some x := ⟨_, List.getElem?_eq_getElem (by omega)⟩
            rw [CS.at_eq hx] at hst
            have HST := Lib.hid hst
            obtain ⟨Fc, B, d, h⟩ := hv.tight
            obtain ⟨p0, p1, p2, p3⟩ := h.slotC hx
            have hb0 : Below wr.heap.size wr (wr.alloc (.cells #[.bool x.valid, .bool x.dirty, .int .i64 x.block, .int .i64 x.stamp] 31)) := (Below.refl _ wr).alloc (Nat.le_refl _) _
            have hC0 := Cs.new wr 31 #[.bool x.valid, .bool x.dirty, .int .i64 x.block, .int .i64 x.stamp]
            have HX := Lib.hid hx
            have HSL2 := Lib.hid hsl
            have HSS := Lib.hid hss
            have H := Lib.hid h
            clear hst hv ht h hx hsl hss i1 i2 i3 i4 hVk
            go_upto_region 17 with (fail)
            clear p0 p1 p2 p3
            have HX2 := Lib.hid (H.out.keep hb0)
            have HT2 := Lib.hid (HT.out.trans (Turn.of_below (F := Fv') hb0))
            clear hb0 H HT
            obtain ⟨t, ht⟩ : ∃ t, wr.heap.size = t := ⟨_, rfl⟩
            rw [ht] at hC0 ⊢
            generalize (wr.alloc (.cells #[.bool x.valid, .bool x.dirty, .int .i64 x.block, .int .i64 x.stamp] 31)) = w2 at *
            have y1 : w2.cell? ⟨t, 1, none⟩ = some (.bool x.dirty) := hC0.cell 1
            clear hC0 ht
            rcases hd : x.dirty with _ | _
            · have HG : Hid (V1.bg3 C (k + 1) = Vk) := HST.out.trans (if_neg (by rw [hd]; simp))
              rw [hd] at y1
              clear HST hd
              go_wp2_with fail
              go_roundw
              case rel => exact ⟨k + 1, Fv', by go_num, by omega, by rw [HG.out]; exact ⟨_, _, _, HX2.out.fv (fun j hj => hj.1)⟩, HT2.out⟩
              case measure => simp [intOf]; omega
            · have HG : Hid (V1.bg3 C (k + 1) = Vk.clV C k x.block.toNat x) := HST.out.trans (if_pos hd)
              have hv := HI.out.dirty HX.out hd
              have hbb := (HI.out.ok.blk x (List.mem_of_getElem? HX.out) hv).1
              have hkn2 : 1 + k < C.n2 := by have := HI.out.n2; rw [HSL2.out] at this; omega
              obtain ⟨z1, -⟩ := HI.out.nf.cl HX.out hkn2 (HI.out.fast HX.out) (HI.out.wh k x HX.out hv)
              have HCL := Lib.hid (vcleanR_any w2 _ C Vk k x.block.toNat x _ _ ⟨_, _, _, HX2.out.fv (fun j hj => hj.1)⟩ HX.out (by omega) hv (by rw [HSL2.out]; exact HSS.out) (by rw [← HSS.out]; omega) (by omega) hch hn0 hn1 hn2 (by omega) (by omega))
              rw [z1] at HCL
              rw [hd] at y1
              clear HST hd hv hbb z1 HI hbl hbw hlw hmk
              generalize Vk.clV C k x.block.toNat x = V2 at *
              go_upto_region 19 with (go_at_call 86; refine HCL.out.mono ?_; rintro e w3 ⟨rfl, Fv3, hv3, ht3⟩; have HV3 := Lib.hid hv3; have HT3 := Lib.hid (HT2.out.trans ht3); clear hv3 ht3)
              clear y1
              go_wp2_with fail
              go_roundw
              case rel => exact ⟨k + 1, Fv3, by go_num, by omega, by rw [HG.out]; exact HV3.out, HT3.out⟩
              case measure => simp [intOf]; omega
          · have hkn : k = n := by omega
            have u1 : ¬ (k : Int) < (n : Int) := by omega
            have HE3 : Hid (V.bgB C 1 = Vk) := by
              show _ = _
              rw [HE2.out, ← hVk, hkn]
            have HV := Lib.hid hv.at_
            clear hv ht hst hsl hss i1 i2 i3 i4 hVk hkn hbl hbw hlw hmk HI
            go_wp2_with fail
            go_meet
            case rel => exact ⟨Fv', by rw [HE3.out]; exact HV.out, HT.out⟩
      · have HE2 : Hid (V.bgB C 2 = V1) := HE1.out.trans (if_neg (by decide))
        go_wp2_with fail
        go_meet
        case rel => exact ⟨Fv1, by rw [HE2.out]; exact HV1.out.at_, HT1.out⟩
    case rest =>
      clear HV1 HT1
      obtain ⟨Fv2, hv2, ht2⟩ := hcut
      obtain ⟨b1, b2, b3, b4⟩ := HBB.out
      have HEB : Hid (V.bgn C mode = { V.bgB C mode with S := (V.bgB C mode).S.first 2 C.n2 (hdI (V.bgB C mode).ss.length (C.chunk : Int) mode true), md := mode, op := true }) := rfl
      obtain ⟨f1, -⟩ := b1.nf.first (by have := b1.n2; omega) (hdI (V.bgB C mode).ss.length (C.chunk : Int) mode true)
      have hbl := b4.log
      have hbw := b4.wr
      rw [HN.out, show C.chunk + 2 = (C.chunk + 1) + 1 by omega, Nat.mul_add n (C.chunk + 1) 1, Nat.mul_one] at hbl hbw
      have hlw := HLW.out
      have hYY := HYY.out
      have hss : (V.bgB C mode).ss.length = n := by rw [← b1.len, b3, HN.out]
      generalize V.bgB C mode = V2 at *
      obtain ⟨Fc, A, c', B, d, h⟩ := hv2
      obtain ⟨c0, -, -, -, -, -, -, -, -, -⟩ := h.cells
      have HX := Lib.hid h
      have HT := Lib.hid ht2
      have hn2p : 1 ≤ C.n2 := by have := b1.n2; omega
      have HBG := Lib.hid (cbeginK wc Fc C.g C.s2 C.m C.n2 V2.S V2.ss (C.chunk : Int) V2.md mode V2.op h.cache HMD.out f1 hn2p hn2 (by rw [hss]; omega) (by omega) (by omega))
      clear h ht2 b1 b2 b3 b4 hbl hbw hlw hss hYY f1
      go_wp2_with (go_at_call 114; refine HBG.out.mono ?_; rintro e w3 ⟨rfl, Fc3, hc3, ht3⟩; have HX3 := Lib.hid (HX.out.turn hc3 ht3); have HT3 := Lib.hid (HT.out.trans (HX.out.wide ht3)); clear hc3 ht3)
      go_ret
      refine ⟨rfl, _, ?_, HT3.out⟩
      rw [HEB.out]
      exact ⟨_, _, _, _, _, HX3.out⟩

end Go.Proofs.YtogchafnnkajfaaGreat

namespace Go.Proofs.YtogchafnnkajfaaGreat
set_option linter.unusedVariables false
open Go.RowKit
attribute [local go_sem] Oper.semAt_some m_write m_read m_flush m_size

/-- How a function in a map reads. -/
def fnR : Value → Option (DataW Unit × List MemPlace)
  | .func (.func n) a b => if a.size = 0 ∧ b.size = 0 then some (.lit (.int .i64 (n : Int)), []) else none
  | _ => some (.lit (.bool false), [])
theorem fnR_inv {v : Value} {n : Nat} {ps : List MemPlace} (h : fnR v = some (.lit (.int .i64 (n : Int)), ps)) : v = .func (.func n) #[] #[] := by
  unfold fnR at h
  split at h
  · rename_i m a b
    split at h
    · rename_i hs
      obtain ⟨h1, h2⟩ := hs
      rw [Array.size_eq_zero_iff] at h1 h2
      subst h1
      subst h2
      simp only [Option.some.injEq, Prod.mk.injEq, DataW.lit.injEq, Lit.int.injEq, true_and] at h
      have : m = n := Int.ofNat.inj h.1
      subst this
      rfl
    · cases h
  · injection h with h
    injection h with h
    injection h with h
    cases h
/-- The map of the modes. -/
def ModesD : DataW Unit := (((DataW.map []).put (.int .i64 1) (.lit (.int .i64 ((101 : Nat) : Int)))).put (.int .i64 2) (.lit (.int .i64 ((102 : Nat) : Int))))
def MoP (W : World) (e : Ending) (w : World) : Prop := e = .returned (.map (some W.heap.size)) ∧ w.ownsMap Tryz.prog 3 fnR W.heap.size 2 ModesD ∧ Below W.heap.size W w
set_option maxHeartbeats 1000000 in
theorem modes_any (W : World) : Calls Tryz.prog 56 #[] W (MoP W) := by
  have hmm := @run_makeMap Tryz.prog
  obtain ⟨W2, hr2, ho2, hg2⟩ := (World.ownsMap_made W Tryz.prog 3 fnR).update (t := 103) (Maps.int_keyed Tryz.underlying3) Tryz.underlying103 (by unfold maxLen; omega) (Maps.keyOf_int_mk Tryz.underlying3 (i64_wf 1 (by omega))) (val := .func (.func 101) #[] #[]) (d := .lit (.int .i64 ((101 : Nat) : Int))) (ps := []) rfl
  obtain ⟨W3, hr3, ho3, hg3⟩ := ho2.update (t := 103) (Maps.int_keyed Tryz.underlying3) Tryz.underlying103 (by unfold maxLen; omega) (Maps.keyOf_int_mk Tryz.underlying3 (i64_wf 2 (by omega))) (val := .func (.func 102) #[] #[]) (d := .lit (.int .i64 ((102 : Nat) : Int))) (ps := []) rfl
  have hb : Below W.heap.size W W3 := (((Below.refl _ W).alloc (Nat.le_refl _) (.map #[] 0)).grown hg2 (by simp) (fun j e => by injection e with e; omega)).grown hg3 (by have := hg2.size; simp at this; omega) (fun j e => by injection e with e; omega)
  have HB := Lib.hid hb
  have HO := Lib.hid ho3
  clear hg2 hg3 ho2 ho3 hb
  go_enter Tryz.func56, Tryz.ntmps56
  go_wp2_with fail
  go_ret
  exact ⟨rfl, HO.out, HB.out⟩

end Go.Proofs.YtogchafnnkajfaaGreat
