/-
  Merged texts (RvD RvS VpP VpQ RvT RvU MixL RwB RowSV): what the row proofs use of them.
-/
import Derived.Test.YtogchafnnkajfaaGreatAb6
import Derived.Deep.DeepCutAuto
import Derived.OrdersHeld
import Derived.StillTail
import Derived.Deep.Slices
import Derived.Deep.Fields
import Derived.ChangeSame
namespace Go.Proofs.YtogchafnnkajfaaGreat
set_option linter.unusedVariables false
open Go.RowKit
attribute [local go_sem] Oper.semAt_some

def rvK (r bo co bf cf bm cm n0 n1 n2 : Nat) (meta_ : List Nat) (mode : Int) : RC := ⟨r, bo, co, bf, cf, bm, cm, n0, n1, n2, opC meta_, mode⟩
def rv0 (o f m : List Nat) : RV := ⟨o, f, m, ⟨slotsU m (opK m), 0, []⟩⟩
/-- What Open answers. -/
def ROpP (W : World) (bo co bf cf bm cm n0 n1 n2 : Nat) (o f m : List Nat) (mode : Int) (e : Ending) (W' : World) : Prop :=
  (opnE m n0 n1 mode ≠ 0 ∧ e = .returned (.tuple #[.pointer none, .int .i64 (opnE m n0 n1 mode)]) ∧ Below W.heap.size W W') ∨
  (opnE m n0 n1 mode = 0 ∧ ∃ r F', e = .returned (.tuple #[.pointer (some ⟨r, 0, none⟩), .int .i64 0]) ∧ W.heap.size ≤ r ∧ RvAt W' F' (rvK r bo co bf cf bm cm n0 n1 n2 m mode) false ((rv0 o f m).bgn (opC m) (opM m) (opO m) mode) ∧ Turn (fun j => j = bo ∨ j = bf ∨ j = bm) F' W W')

theorem RvIn.setS {W : World} {F : Nat → Prop} {K : RC} {clo : Bool} {R : RV} {A B : Option Addr} {c d k : Nat} (h : RvIn W F K clo R A c B d) (hlt : ∀ j, F j → j < k) (hms : R.x.ms = []) {sl' : List Sl} {A' : Option Addr} {n' c' : Nat} (hn : sl'.length = n')
    (hS : W.ownsRow k 31 4 (.slice A' n' c') n' (scs sl')) :
    RvIn (W.setCell ⟨K.r, 3, none⟩ (.slice A' n' c')) (fun j => F j ∨ k ≤ j) K clo { R with x := { R.x with sl := sl' } } A' c' B d := by
  subst hn
  have hf := fr_set W K.r 3 (.slice A' sl'.length c')
  have hrk := hlt _ h.inF.1
  obtain ⟨e1, e2, e3, e4⟩ := h.rne
  exact ⟨Cs.put (l := [_, _, _, _, _, _, _, _, _]) h.vol _, own_fr h.ro hf (fun b hb e => by simp [Value.ownBlock] at hb; exact e1 (hb.trans e)), own_fr h.rf hf (fun b hb e => by simp [Value.ownBlock] at hb; exact e2 (hb.trans e)), own_fr h.rm hf (fun b hb e => by simp [Value.ownBlock] at hb; exact e3 (hb.trans e)), h.lo, h.lf, h.lm,
    own_lower (own_fr hS hf (fun b hb e => by have := (hS.lt b hb).1; omega)) (Nat.zero_le _), h.mis.fr hf (fun h0 p hp => absurd hms (ms_ne h0)), fun p hp hm => absurd hms hm, fun b hb => .inr (hS.lt b hb).1, h.ne, .inl h.inF.1, .inl h.inF.2.1, .inl h.inF.2.2.1, .inl h.inF.2.2.2⟩
theorem RvIn.setSl {W : World} {F : Nat → Prop} {K : RC} {clo : Bool} {R : RV} {B : Option Addr} {a c d : Nat} (h : RvIn W F K clo R (some ⟨a, 0, none⟩) c B d) (k : Nat) (s : Sl) (hk : k < R.x.sl.length) :
    RvIn (put4 W a k s) F K clo { R with x := ⟨R.x.sl.set k s, R.x.clk, R.x.ms⟩ } (some ⟨a, 0, none⟩) c B d := by
  have hf := fr_put4 W a k s
  obtain ⟨e1, e2, e3, e4⟩ := h.rne
  obtain ⟨o1, o2, o3, o4⟩ := e4 a rfl
  have hl : (R.x.sl.set k s).length = R.x.sl.length := List.length_set
  have hrow := ((((h.row.stored (k * 4) (.bool s.valid)).1.stored (k * 4 + 1) (.bool s.dirty)).1.stored (k * 4 + 2) (.int .i64 s.block)).1.stored (k * 4 + 3) (.int .i64 s.stamp)).1
  rw [← scs_set R.x.sl k s hk] at hrow
  refine ⟨?_, own_fr h.ro hf (fun b hb e => by simp [Value.ownBlock] at hb; exact o2 (e.symm.trans hb.symm)), own_fr h.rf hf (fun b hb e => by simp [Value.ownBlock] at hb; exact o3 (e.symm.trans hb.symm)), own_fr h.rm hf (fun b hb e => by simp [Value.ownBlock] at hb; exact o4 (e.symm.trans hb.symm)), h.lo, h.lf, h.lm, ?_, h.mis.fr hf (fun h0 p hp e => (h.misO p hp (ms_ne h0)).2.2.2.2.2.1 a rfl e), ?_, ?_, h.ne, h.inF⟩
  · dsimp only
    rw [hl]
    exact h.vol.fr hf (fun e => o1 e.symm)
  · dsimp only
    rw [hl]
    exact hrow
  · intro p hp hm
    have := h.misO p hp hm
    exact ⟨this.1, this.2.1, this.2.2.1, this.2.2.2.1, this.2.2.2.2.1, fun g hg => this.2.2.2.2.2.1 g (by simpa [Value.ownBlock] using hg), Nat.lt_of_lt_of_le this.2.2.2.2.2.2 hf.size⟩
  · intro b hb
    exact h.rowO b (by simpa [Value.ownBlock] using hb)
/-- What the loops of Open keep. -/
structure RoI (W : World) (z : Nat) (K : RC) (hc a ca kk : Nat) (L : List Sl) (md : Int) (op : Bool) (R : RV) (wx : World) : Prop where
  rv : ∃ Fx, RvAt wx Fx K false R ∧ Turn (fun j => j = K.bo ∨ j = K.bf ∨ j = K.bm) Fx W wx ∧ ∀ j, Fx j → j = K.bo ∨ j = K.bf ∨ j = K.bm ∨ j = K.r ∨ z ≤ j
  cell : Cs wx hc 145 #[.slice (some ⟨a, 0, none⟩) kk ca, .int .i64 (K.chunk : Int), .int .i64 md, .bool (!op)]
  sl : wx.ownsRow 0 31 4 (.slice (some ⟨a, 0, none⟩) kk ca) kk (scs L)
  ok : R.x.Ok
  len : R.x.sl.length = kk
  n1 : hc ≠ K.bo ∧ hc ≠ K.bf ∧ hc ≠ K.bm ∧ hc ≠ K.r ∧ hc < z
  n2 : a ≠ K.bo ∧ a ≠ K.bf ∧ a ≠ K.bm ∧ a ≠ K.r ∧ a < z
  z : z ≤ wx.heap.size
theorem RoI.go {W wx : World} {z hc a ca kk : Nat} {K : RC} {L : List Sl} {md : Int} {op : Bool} {R : RV} (h : RoI W z K hc a ca kk L md op R wx) :
    ∃ Fx, RvAt wx Fx K false R ∧ ∀ (w' : World) (R' : RV), RvP wx Fx K false R' w' → R'.x.Ok → R'.x.sl.length = kk → RoI W z K hc a ca kk L md op R' w' := by
  obtain ⟨Fx, h1, h2, h3⟩ := h.rv
  refine ⟨Fx, h1, fun w' R' hp ho hl => ?_⟩
  obtain ⟨F', q1, q2⟩ := hp
  have nf : ∀ b, b ≠ K.bo ∧ b ≠ K.bf ∧ b ≠ K.bm ∧ b ≠ K.r ∧ b < z → ¬ Fx b := fun b hb e => by
    have := h3 b e
    omega
  refine ⟨⟨F', q1, h2.trans q2, fun j hj => ?_⟩, Cs.fr h.cell q2.1 (nf _ h.n1), own_fr h.sl q2.1 (fun b hb => by simp [Value.ownBlock] at hb; rw [← hb]; exact nf _ h.n2), ho, hl, h.n1, h.n2, Nat.le_trans h.z q2.1.size⟩
  rcases q2.2 j hj with e | e
  · exact h3 j e
  · have := h.z; omega
theorem bg1_same (md : Int) (R : RV) (k : Nat) : (R.bg1 md k).x.sl.length = R.x.sl.length ∧ (∀ j, k ≤ j → (R.bg1 md k).x.sl[j]? = R.x.sl[j]?) ∧ (R.x.Ok → (R.bg1 md k).x.Ok) ∧ (R.bg1 md k).x.clk = R.x.clk ∧ (R.bg1 md k).x.ms = R.x.ms := by
  induction k with
  | zero => exact ⟨rfl, fun _ _ => rfl, fun h => h, rfl, rfl⟩
  | succ k ih =>
    rw [RV.bg1]
    split
    · refine ⟨by show (List.set _ _ _).length = _; rw [List.length_set]; exact ih.1, fun j hj => ?_, fun h => (ih.2.2.1 h).clear k, ih.2.2.2⟩
      show (List.set _ _ _)[j]? = _
      rw [List.getElem?_set_ne (by omega)]
      exact ih.2.1 j (by omega)
    · exact ⟨ih.1, fun j hj => ih.2.1 j (by omega), ih.2.2⟩
theorem bg1_from (md : Int) (R : RV) (k j : Nat) (x : Sl) (hx : (R.bg1 md k).x.sl[j]? = some x) (hv : x.valid = true) : R.x.sl[j]? = some x := by
  induction k with
  | zero => exact hx
  | succ k ih =>
    rw [RV.bg1] at hx
    split at hx
    · change (List.set _ _ _)[j]? = _ at hx
      rw [List.getElem?_set] at hx
      split at hx
      · split at hx
        · injection hx with hx
          rw [← hx] at hv
          cases hv
        · cases hx
      · exact ih hx
    · exact ih hx
theorem CS.Ok.dv {s : CS} (h : s.Ok) {k : Nat} {x : Sl} (hx : s.sl[k]? = some x) (hd : x.dirty = true) : x.valid = true := by
  cases hv : x.valid
  · have := h.nl x (List.mem_of_getElem? hx) hv
    rw [this] at hd
    cases hd
  · rfl
theorem bg3_same (c : Nat) (R : RV) (k : Nat) (hok : R.x.Ok) (hk : k ≤ R.x.sl.length) : (R.bg3 c k).x.sl.length = R.x.sl.length ∧ (∀ j, k ≤ j → (R.bg3 c k).x.sl[j]? = R.x.sl[j]?) ∧ (R.bg3 c k).x.Ok := by
  induction k with
  | zero => exact ⟨rfl, fun _ _ => rfl, hok⟩
  | succ k ih =>
    obtain ⟨i1, i2, i3⟩ := ih (by omega)
    rw [RV.bg3]
    split
    · rename_i hd
      obtain ⟨x, hx⟩ : ∃ x, (R.bg3 c k).x.sl[k]? = some x := ⟨_, List.getElem?_eq_getElem (by omega)⟩
      rw [CS.at_eq hx] at hd
      refine ⟨by show (List.set _ _ _).length = _; rw [List.length_set]; exact i1, fun j hj => ?_, i3.setD k x hx (i3.dv hx hd) false⟩
      show (List.set _ _ _)[j]? = _
      rw [List.getElem?_set_ne (by omega)]
      exact i2 j (by omega)
    · exact ⟨i1, fun j hj => i2 j (by omega), i3⟩
theorem badS_false {ss : List Sl} {q : Nat} (h : ∀ (k : Nat) (x : Sl), ss[k]? = some x → x.valid = true → x.block < (q : Int)) : badS ss q = false := by
  unfold badS
  rw [List.any_eq_false]
  intro x hx
  obtain ⟨k, hk⟩ := List.mem_iff_getElem?.1 hx
  cases hv : x.valid
  · simp
  · have := h k x hk hv
    simp
    omega

set_option maxRecDepth 100000 in
set_option maxHeartbeats 8000000 in
theorem rvopen_any (W : World) (bo co bf cf bm cm n0 n1 n2 : Nat) (o f m : List Nat) (mode : Int)
    (ro : W.ownsRow 0 26 1 (.slice (some ⟨bo, 0, none⟩) n0 co) n0 (uv o)) (rf : W.ownsRow 0 26 1 (.slice (some ⟨bf, 0, none⟩) n1 cf) n1 (uv f)) (rm : W.ownsRow 0 26 1 (.slice (some ⟨bm, 0, none⟩) n2 cm) n2 (uv m))
    (lo : o.length = n0) (lf : f.length = n1) (lm : m.length = n2) (hw : W64 m) (hn0 : n0 ≤ 65536) (hn1 : n1 ≤ 65536) (hn2 : 1 ≤ n2 ∧ n2 ≤ 65536) (hne : bo ≠ bf ∧ bo ≠ bm ∧ bf ≠ bm) :
    Calls Tryz.prog 44 #[.slice (some ⟨bo, 0, none⟩) n0 co, .slice (some ⟨bf, 0, none⟩) n1 cf, .slice (some ⟨bm, 0, none⟩) n2 cm, .int .i64 mode] W (ROpP W bo co bf cf bm cm n0 n1 n2 o f m mode) := by
  have HRO := Lib.hid ro
  have HRF := Lib.hid rf
  have HRM := Lib.hid rm
  have HLO := Lib.hid lo
  have HLF := Lib.hid lf
  have HLM := Lib.hid lm
  have HW := Lib.hid hw
  have HOP := Lib.hid (ropen_any W (some ⟨bm, 0, none⟩) cm n2 m (Reads.of_own rm) lm hn2.1 hn2.2 hw)
  by_cases hmo : mode ≠ 1 ∧ mode ≠ 2
  · have t1 : ¬ mode = 1 := hmo.1
    have t2 : ¬ mode = 2 := hmo.2
    have b1 : (mode != 1) = true := by simpa using hmo.1
    have b2 : (mode != 2) = true := by simpa using hmo.2
    have he : opnE m n0 n1 mode = 1 := by unfold opnE; rw [if_pos hmo]
    clear ro rf rm lo lf lm hw hmo
    go_enter Tryz.func44, Tryz.ntmps44
    go_wp2_with fail
    go_ret2
    exact .inl ⟨by rw [he]; decide, by rw [he]; rfl, Below.refl _ W⟩
  · have hm12 : mode = 1 ∨ mode = 2 := by omega
    have HE : Hid (opnE m n0 n1 mode = if openE m ≠ 0 then openE m else if n1 < opK m * opC m then 3 else if badS (slotsU m (opK m)) (n0 / opC m) = true then 24 else 0) := by show _ = _; unfold opnE; rw [if_neg hmo]
    obtain ⟨bb, hbb⟩ : ∃ bb, (mode != 1) = bb := ⟨_, rfl⟩
    have b2 : bb = true → (mode != 2) = false := by
      intro e
      rcases hm12 with rfl | rfl
      · rw [← hbb] at e; exact absurd e (by decide)
      · rfl
    have HM12 := Lib.hid hm12
    clear ro rf rm lo lf lm hw hmo hm12
    go_enter Tryz.func44, Tryz.ntmps44
    go_upto_region 1 with (fail)
    go_cut [21] (fun s wx => s = .bool false ∧ wx = W)
    case first =>
      cases bb
      · go_wp2_with fail
        go_meet
        case rel => exact ⟨rfl, rfl⟩
      · have b3 := b2 rfl
        go_wp2_with fail
        go_meet
        case rel => exact ⟨rfl, rfl⟩
    case rest =>
      clear hbb b2
      obtain ⟨rfl, rfl⟩ := hcut
      go_wp2_with fail
      refine HOP.out.mono ?_
      rintro e w1 ⟨hb1, ⟨hE0, rfl⟩ | ⟨hE0, v, rfl, hS⟩⟩
      · have t1 : ¬ openE m = 0 := hE0
        have he : opnE m n0 n1 mode = openE m := by rw [HE.out, if_pos hE0]
        go_wp2_with fail
        go_ret2
        exact .inl ⟨by rw [he]; exact hE0, by rw [he]; rfl, hb1.alloc hb1.size _⟩
      · obtain ⟨hOK, hk1, hc1, hc64, -⟩ := open_cs m hE0
        obtain ⟨op, hop⟩ : ∃ op, opO m = op := ⟨_, rfl⟩
        have hcl : decide ((m[0]?.getD 0) / 1048576 % 2 = 0) = !op := by
          rw [← hop]
          unfold opO
          have : (m[0]?.getD 0) / 1048576 % 2 < 2 := Nat.mod_lt _ (by decide)
          by_cases e : (m[0]?.getD 0) / 1048576 % 2 = 0
          · rw [e]; rfl
          · rw [show (m[0]?.getD 0) / 1048576 % 2 = 1 by omega]; rfl
        rw [hcl]
        obtain ⟨md, hmd⟩ : ∃ md, opM m = md := ⟨_, rfl⟩
        rw [show (((m[0]?.getD 0) / 262144 % 4 : Nat) : Int) = md from hmd]
        obtain ⟨cc, hcc⟩ : ∃ cc, opC m = cc := ⟨_, rfl⟩
        rw [show (m[0]?.getD 0) / 2048 % 128 = cc from hcc]
        obtain ⟨kk, hkk⟩ : ∃ kk, opK m = kk := ⟨_, rfl⟩
        rw [show (m[0]?.getD 0) % 2048 = kk from hkk] at hS
        obtain ⟨L, hL⟩ : ∃ L, slotsU m kk = L := ⟨_, rfl⟩
        have hLl : L.length = kk := by rw [← hL]; exact slotsU_length _ _
        rw [hkk, hL] at hOK
        rw [hL] at hS
        rw [hkk] at hk1
        rw [hcc] at hc1 hc64
        have HE2 : Hid (opnE m n0 n1 mode = if n1 < kk * cc then 3 else if badS L (n0 / cc) = true then 24 else 0) := by show _ = _; rw [HE.out, if_neg (fun e => e hE0), hkk, hL, hcc]
        have hkl := hOK.len
        change 1 ≤ L.length ∧ L.length ≤ 1024 at hkl
        rw [hLl] at hkl
        obtain ⟨a, ca, rfl, hab, hal⟩ := hS.form (by omega)
        have HS := Lib.hid hS
        have HOK := Lib.hid hOK
        have HLL := Lib.hid hLl
        have HLe := Lib.hid hL
        have HKM : Hid (opK m = kk ∧ opC m = cc ∧ opM m = md ∧ opO m = op) := ⟨hkk, hcc, hmd, hop⟩
        obtain ⟨z, hz⟩ : ∃ z, kk * cc = z := ⟨_, rfl⟩
        have hzl : z ≤ 1024 * 64 := by rw [← hz]; exact Nat.mul_le_mul hkl.2 hc64
        have e1 : IntKind.i64.wrap ((kk : Int) * (cc : Int)) = (z : Int) := by rw [← Int.natCast_mul, hz, IntWalk.i64_in _ (by omega)]
        rw [hz] at HE2
        have HZ := Lib.hid hz
        clear hS hOK hL hkk hcc hmd hop hcl hE0 hz hLl HE HOP
        by_cases hsz : n1 < z
        · have t1 : (n1 : Int) < (z : Int) := by omega
          have he : opnE m n0 n1 mode = 3 := by rw [HE2.out, if_pos hsz]
          go_wp2_with fail
          go_ret2
          exact .inl ⟨by rw [he]; decide, by rw [he]; rfl, hb1.alloc hb1.size _⟩
        · have t1 : ¬ (n1 : Int) < (z : Int) := by omega
          have HE3 : Hid (opnE m n0 n1 mode = if badS L (n0 / cc) = true then 24 else 0) := by show _ = _; rw [HE2.out, if_neg hsz]
          clear HE2
          go_wp2_with fail
          have hC := Cs.new w1 145 #[.slice (some ⟨a, 0, none⟩) kk ca, .int .i64 (cc : Int), .int .i64 md, .bool (!op)]
          have hba := hb1.alloc hb1.size (.cells #[.slice (some ⟨a, 0, none⟩) kk ca, .int .i64 (cc : Int), .int .i64 md, .bool (!op)] 145)
          have hba1 : Below w1.heap.size w1 (w1.alloc (.cells #[.slice (some ⟨a, 0, none⟩) kk ca, .int .i64 (cc : Int), .int .i64 md, .bool (!op)] 145)) := (Below.refl _ w1).alloc (Nat.le_refl _) _
          have hsz2 : (w1.alloc (.cells #[.slice (some ⟨a, 0, none⟩) kk ca, .int .i64 (cc : Int), .int .i64 md, .bool (!op)] 145)).heap.size = w1.heap.size + 1 := by simp
          generalize (w1.alloc (.cells #[.slice (some ⟨a, 0, none⟩) kk ca, .int .i64 (cc : Int), .int .i64 md, .bool (!op)] 145)) = w2 at *
          have hV := Cs.new w2 88 #[.slice (some ⟨bo, 0, none⟩) n0 co, .slice (some ⟨bf, 0, none⟩) n1 cf, .slice (some ⟨bm, 0, none⟩) n2 cm, .slice none 0 0, .int .i64 0, .slice none 0 0, .int .i64 (cc : Int), .int .i64 mode, .bool false]
          have hbb2 : Below w2.heap.size w2 (w2.alloc (.cells #[.slice (some ⟨bo, 0, none⟩) n0 co, .slice (some ⟨bf, 0, none⟩) n1 cf, .slice (some ⟨bm, 0, none⟩) n2 cm, .slice none 0 0, .int .i64 0, .slice none 0 0, .int .i64 (cc : Int), .int .i64 mode, .bool false] 88)) := (Below.refl _ w2).alloc (Nat.le_refl _) _
          have hC3 := Cs.below hC hbb2 (by omega)
          rw [hsz2] at hV
          generalize (w2.alloc (.cells #[.slice (some ⟨bo, 0, none⟩) n0 co, .slice (some ⟨bf, 0, none⟩) n1 cf, .slice (some ⟨bm, 0, none⟩) n2 cm, .slice none 0 0, .int .i64 0, .slice none 0 0, .int .i64 (cc : Int), .int .i64 mode, .bool false] 88)) = V at *
          have hbV := hba.trans (hbb2.mono hba.size)
          have hb1s := hb1.size
          have hbs3 := hbb2.size
          have HIN : Hid (RvIn V (fun j => j = bo ∨ j = bf ∨ j = bm ∨ j = w1.heap.size + 1) ⟨w1.heap.size + 1, bo, co, bf, cf, bm, cm, n0, n1, n2, cc, mode⟩ false ⟨o, f, m, ⟨[], 0, []⟩⟩ none 0 none 0) :=
            ⟨hV, own_keepB HRO.out hbV, own_keepB HRF.out hbV, own_keepB HRM.out hbV, HLO.out, HLF.out, HLM.out, World.ownsRow_nil _ _ _ _, (fun e => absurd rfl e), (fun p hp => by cases hp), (fun b hb => by cases hb), hne, ⟨.inr (.inr (.inr rfl)), .inl rfl, .inr (.inl rfl), .inr (.inr (.inl rfl))⟩⟩
          have HSV := Lib.hid (own_keepB (own_keepB HS.out hba1) (hbb2.mono (by omega)))
          have HCV := Lib.hid hC3
          have HBV := Lib.hid hbV
          have HSZ : Hid (w1.heap.size + 2 ≤ V.heap.size ∧ wc.heap.size ≤ w1.heap.size ∧ a < w1.heap.size ∧ wc.heap.size ≤ a) := by have := Cs.lt hV; exact ⟨by omega, by omega, hal, hab⟩
          clear hV hbb2 hC3 hC hba hba1 hsz2 hbV hb1s hbs3 HS hb1 hal hab
          go_loopw [13] (fun s13 wx => ∃ i : Nat, s13 = .int .i64 i ∧ i ≤ kk ∧ (∀ (j : Nat) (x : Sl), j < i → L[j]? = some x → x.valid = true → x.block < ((n0 / cc : Nat) : Int)) ∧ Below V.heap.size V wx) (fun s13 _ => kk - (intOf s13).toNat)
          case atStart => exact ⟨0, rfl, Nat.zero_le _, fun j x hj => absurd hj (Nat.not_lt_zero _), Below.refl _ _⟩
          case round =>
            rename World => wx
            obtain ⟨i, rfl, hik, hgood, hbx⟩ := hrel
            have HG := Lib.hid hgood
            have h0 := HIN.out.keep hbx
            have hCx := Cs.below HCV.out hbx (by have := HSZ.out; omega)
            have q0 := hCx.cell 0
            have q1 := hCx.cell 1
            have q2 := hCx.cell 2
            have q3 := hCx.cell 3
            have H0 := Lib.hid h0
            have HSX := Lib.hid (own_keepB HSV.out hbx)
            have HBX := Lib.hid hbx
            clear hgood h0 hCx hbx
            by_cases hlt : i < kk
            · have t1 : (i : Int) < (kk : Int) := by omega
              obtain ⟨x, hx⟩ : ∃ x, L[i]? = some x := ⟨_, List.getElem?_eq_getElem (by rw [HLL.out]; exact hlt)⟩
              obtain ⟨b', o', e', -, hcc'⟩ := scs_read (Reads.of_own HSX.out) (by rw [HLL.out]; omega)
              injection e' with e'
              injection e' with e1' e2'
              subst e1'
              subst e2'
              obtain ⟨y0, y1, y2, y3⟩ := hcc' i x hx
              rw [Nat.zero_add] at y0 y1 y2 y3
              clear hcc'
              have HX := Lib.hid hx
              clear hx
              cases hv : x.valid
              · rw [hv] at y0
                go_wp2_with fail
                go_roundw
                case rel =>
                  refine ⟨i + 1, by go_num, by omega, fun j y hj hy hyv => ?_, HBX.out⟩
                  by_cases e : j = i
                  · subst e
                    rw [HX.out] at hy
                    injection hy with hy
                    rw [← hy, hv] at hyv
                    cases hyv
                  · exact HG.out j y (by omega) hy hyv
                case measure => simp [intOf]; omega
              · rw [hv] at y0
                obtain ⟨⟨hb0, hb1⟩, -⟩ := HOK.out.blk x (List.mem_of_getElem? HX.out) hv
                obtain ⟨b, hb⟩ : ∃ b : Nat, x.block = (b : Int) := ⟨x.block.toNat, by omega⟩
                rw [hb] at y2 hb1
                go_wp2_with fail
                refine (rwhole_any wx _ ⟨w1.heap.size + 1, bo, co, bf, cf, bm, cm, n0, n1, n2, cc, mode⟩ false _ b ⟨_, _, _, _, H0.out⟩ (by omega) (by show cc ≤ 127; omega)).mono ?_
                rintro e w2 ⟨rfl, hb2⟩
                have hbw := HBX.out.trans (hb2.mono HBX.out.size)
                by_cases hwh : (b + 1) * cc ≤ n0
                · have d1 : decide ((b + 1) * cc ≤ n0) = true := decide_eq_true hwh
                  have hlb : b + 1 ≤ n0 / cc := (Nat.le_div_iff_mul_le (by omega)).2 hwh
                  go_wp2_with fail
                  go_roundw
                  case rel =>
                    refine ⟨i + 1, by go_num, by omega, fun j y hj hy hyv => ?_, hbw⟩
                    by_cases e : j = i
                    · subst e
                      rw [HX.out] at hy
                      injection hy with hy
                      rw [← hy, hb]
                      omega
                    · exact HG.out j y (by omega) hy hyv
                  case measure => simp [intOf]; omega
                · have d1 : decide ((b + 1) * cc ≤ n0) = false := decide_eq_false hwh
                  have hlb : ¬ b + 1 ≤ n0 / cc := fun e => hwh ((Nat.le_div_iff_mul_le (by omega)).1 e)
                  have he : opnE m n0 n1 mode = 24 := by rw [HE3.out, if_pos (badS_yes HX.out hv (by rw [hb]; omega))]
                  go_wp2_with fail
                  go_ret2
                  exact .inl ⟨by rw [he]; decide, by rw [he]; rfl, HBV.out.trans (hbw.mono HBV.out.size)⟩
            · have hik2 : i = kk := by omega
              subst hik2
              obtain ⟨is, his, hz0, hz1, hz2⟩ := info_parts slot_info'
              go_wp2_with (at_builtin; refine wpList_append_reads _ (by rfl) (.const (.slice none 0 0)) (.tmp 73) _ (by rfl) wx.heap.size 31 is _ 4 24 Tryz.underlying56 his hz0 hz1 hz2 (by rfl) (by omega) (.slice none 0 0) 0 [] (by rfl) (World.ownsRow_nil _ _ _ _) (some ⟨a, 0, none⟩) i ca (scs L) (by rfl) (by rw [scs_length, HLL.out]) (Reads.of_own HSX.out) (scs_one L) (by simp only [maxLen]; omega) (by omega) (Nat.le_refl _) ?_; intro v5 w5 hown5 hg5 hat5; obtain ⟨A5, c5, hv5⟩ := own_form hown5; subst hv5; have hb5 := (Below.refl wx.heap.size wx).grown hg5 (Nat.le_refl _) (fun j e => by simp [Value.ownBlock] at e); have h5 := Lib.hid (H0.out.keep hb5); have z3 := h5.out.vol.cell 3; have f3 := h5.out.vol.free 3; have hCw := Lib.hid (Cs.below HCV.out (HBX.out.trans (hb5.mono HBX.out.size)) (by have := HSZ.out; omega)); have q0 := hCw.out.cell 0; have q1 := hCw.out.cell 1; have q2 := hCw.out.cell 2; have q3 := hCw.out.cell 3)
              have hwn := Below.size HBX.out
              have hbo := own_lt HRO.out bo rfl
              have hbf := own_lt HRF.out bf rfl
              have hbm := own_lt HRM.out bm rfl
              have hsz := HSZ.out
              have hE0 : opnE m n0 n1 mode = 0 := by
                rw [HE3.out, if_neg]
                rw [badS_false (fun k x hx hv => HG.out k x (by have := (List.getElem?_eq_some_iff.1 hx).1; rw [HLL.out] at this; exact this) hx hv)]
                decide
              have hgood : ∀ (k : Nat) (x : Sl), L[k]? = some x → x.valid = true → (x.block.toNat + 1) * cc ≤ n0 := by
                intro k x hx hv
                have h1 := HG.out k x (by have := (List.getElem?_eq_some_iff.1 hx).1; rw [HLL.out] at this; exact this) hx hv
                have h2 := (HOK.out.blk x (List.mem_of_getElem? hx) hv).1
                exact (Nat.le_div_iff_mul_le (by omega)).1 (by omega)
              rw [Nat.zero_add, List.nil_append] at hown5
              have hrv : RvIn (w5.setCell ⟨w1.heap.size + 1, 3, none⟩ (.slice A5 i c5)) _ ⟨w1.heap.size + 1, bo, co, bf, cf, bm, cm, n0, n1, n2, cc, mode⟩ false ⟨o, f, m, ⟨L, 0, []⟩⟩ _ _ _ _ := (H0.out.tight.keep hb5).setS (k := wx.heap.size) (fun j hj => hj.2) rfl HLL.out hown5
              have hbw : Below wc.heap.size wc w5 := HBV.out.trans ((HBX.out.trans (hb5.mono HBX.out.size)).mono HBV.out.size)
              have hsw : V.heap.size ≤ w5.heap.size := (HBX.out.trans (hb5.mono HBX.out.size)).size
              have hRI : RoI wc V.heap.size ⟨w1.heap.size + 1, bo, co, bf, cf, bm, cm, n0, n1, n2, cc, mode⟩ w1.heap.size a ca i L md op ((rv0 o f m).bg1 md 0) (w5.setCell ⟨w1.heap.size + 1, 3, none⟩ (.slice A5 i c5)) := by
                have hr0 : (rv0 o f m).bg1 md 0 = ⟨o, f, m, ⟨L, 0, []⟩⟩ := by
                  show rv0 o f m = _
                  unfold rv0
                  rw [HKM.out.1, HLe.out]
                rw [hr0]
                refine ⟨⟨_, ⟨_, _, _, _, hrv⟩, ⟨(Fr.of_below hbw).set (.inr (by show wc.heap.size ≤ w1.heap.size + 1; omega)) _, fun j hj => ?_⟩, fun j hj => ?_⟩, Cs.fr hCw.out (fr_set _ _ _ _) (by show w1.heap.size ≠ w1.heap.size + 1; omega), own_fr (own_lower (own_keepB HSX.out hb5) (Nat.zero_le _)) (fr_set _ _ _ _) (fun b hb e => by simp [Value.ownBlock] at hb; change b = w1.heap.size + 1 at e; omega), HOK.out, HLL.out, ?_, ?_, by simpa using hsw⟩
                · rcases hj with ⟨hj | hj | hj | hj, -⟩ | hj
                  · exact .inl (.inl hj)
                  · exact .inl (.inr (.inl hj))
                  · exact .inl (.inr (.inr hj))
                  · exact .inr (by omega)
                  · exact .inr (by omega)
                · rcases hj with ⟨hj, -⟩ | hj
                  · rcases hj with hj | hj | hj | hj
                    · exact .inl hj
                    · exact .inr (.inl hj)
                    · exact .inr (.inr (.inl hj))
                    · exact .inr (.inr (.inr (.inl hj)))
                  · exact .inr (.inr (.inr (.inr (by omega))))
                · refine ⟨?_, ?_, ?_, ?_, ?_⟩ <;> (try dsimp only) <;> omega
                · refine ⟨?_, ?_, ?_, ?_, ?_⟩ <;> (try dsimp only) <;> omega
              have HRI := Lib.hid hRI
              have HE0 := Lib.hid hE0
              have HGD := Lib.hid hgood
              clear hRI hE0 hgood hrv hbw hsw hown5 hg5 hat5 hb5 h5 z3 f3 hCw q0 q1 q2 q3 hwn hbo hbf hbm hsz H0 HSX HBX HG HSV HCV HBV HIN HE3 HRO HRF HRM
              generalize (w5.setCell ⟨w1.heap.size + 1, 3, none⟩ (.slice A5 i c5)) = w6 at *
              go_loopw [14] (fun s14 wx => ∃ q : Nat, s14 = .int .i64 q ∧ q ≤ i ∧ (op = false → q = 0) ∧ RoI wc V.heap.size ⟨w1.heap.size + 1, bo, co, bf, cf, bm, cm, n0, n1, n2, cc, mode⟩ w1.heap.size a ca i L md op ((rv0 o f m).bg1 md q) wx) (fun s14 _ => i - (intOf s14).toNat)
              case atStart => exact ⟨0, rfl, Nat.zero_le _, fun _ => rfl, HRI.out⟩
              case round =>
                rename World => wx
                obtain ⟨q, rfl, hqi, hq0, hR⟩ := hrel
                have q0 := hR.cell.cell 0
                have q1 := hR.cell.cell 1
                have q2 := hR.cell.cell 2
                have q3 := hR.cell.cell 3
                have HR := Lib.hid hR
                have HQ0 := Lib.hid hq0
                clear hR HRI hq0
                go_upto_region 16 with (fail)
                go_cut [87] from 78 to 120 (fun s w' => s = .bool (decide (q < i) && op) ∧ w' = wx)
                case first =>
                  by_cases hlt : q < i
                  · have t1 : (q : Int) < (i : Int) := by omega
                    cases op
                    · go_wp2_with fail
                      go_meet
                      case rel => exact ⟨by simp, rfl⟩
                    · go_wp2_with fail
                      go_meet
                      case rel => exact ⟨by simp [hlt], rfl⟩
                  · have t1 : ¬ (q : Int) < (i : Int) := by omega
                    go_wp2_with fail
                    go_meet
                    case rel => exact ⟨by simp [hlt], rfl⟩
                case rest =>
                  obtain ⟨rfl, hw⟩ := hcut
                  have hw := hw.symm
                  subst hw
                  cases hcd : (decide (q < i) && op)
                  · -- the end
                    have hbgA : (rv0 o f m).bg1 md q = (rv0 o f m).bgA md op := by
                      unfold RV.bgA
                      have hlen : (rv0 o f m).x.sl.length = i := by
                        show (slotsU m (opK m)).length = i
                        rw [slotsU_length, HKM.out.1]
                      have h0 := HQ0.out
                      cases op
                      · rw [h0 rfl]; rfl
                      · rw [if_pos rfl, hlen]
                        simp at hcd
                        rw [show q = i by omega]
                    have hR1 := HR.out
                    rw [hbgA] at hR1
                    have HR1 := Lib.hid hR1
                    have hR1L : ∀ (k : Nat) (x : Sl), ((rv0 o f m).bgA md op).x.sl[k]? = some x → x.valid = true → L[k]? = some x := by
                      intro k x hx hv
                      unfold RV.bgA at hx
                      have hL0 : ∀ x, (rv0 o f m).x.sl[k]? = some x → L[k]? = some x := fun x hx => by
                        change (slotsU m (opK m))[k]? = some x at hx
                        rw [HKM.out.1, HLe.out] at hx
                        exact hx
                      split at hx
                      · exact hL0 x (bg1_from md _ _ k x hx hv)
                      · exact hL0 x hx
                    have HR1L := Lib.hid hR1L
                    have HBA := Lib.hid (show (rv0 o f m).bgA md op = (rv0 o f m).bgA md op from rfl)
                    clear hR1 hbgA hR1L HR HQ0 hcd q0 q1 q2 q3
                    go_wp2_with fail
                    go_loopw [15] (fun s15 wx => ∃ q : Nat, s15 = .int .i64 q ∧ q ≤ i ∧ (mode ≠ 1 → q = 0) ∧ RoI wc V.heap.size ⟨w1.heap.size + 1, bo, co, bf, cf, bm, cm, n0, n1, n2, cc, mode⟩ w1.heap.size a ca i L md op (((rv0 o f m).bgA md op).bg3 cc q) wx) (fun s15 _ => i - (intOf s15).toNat)
                    case atStart => exact ⟨0, rfl, Nat.zero_le _, fun _ => rfl, HR1.out⟩
                    case round =>
                      rename World => wx
                      obtain ⟨q, rfl, hqi, hq0, hR⟩ := hrel
                      have q0 := hR.cell.cell 0
                      have q1 := hR.cell.cell 1
                      have q2 := hR.cell.cell 2
                      have q3 := hR.cell.cell 3
                      have HR := Lib.hid hR
                      have HQ0 := Lib.hid hq0
                      clear hR hq0
                      go_upto_region 22 with (fail)
                      go_cut [129] from 121 to 143 (fun s w' => s = .bool (decide (q < i) && decide (mode = 1)) ∧ w' = wx)
                      case first =>
                        by_cases hlt : q < i
                        · have t1 : (q : Int) < (i : Int) := by omega
                          by_cases hm1 : mode = 1
                          · have b1 : (mode == 1) = true := by simpa using hm1
                            have HM1 := Lib.hid hm1
                            clear hm1
                            go_wp2_with fail
                            go_meet
                            case rel => exact ⟨by rw [decide_eq_true hlt, decide_eq_true HM1.out]; rfl, rfl⟩
                          · have b1 : (mode == 1) = false := by simpa using hm1
                            have HM1 := Lib.hid hm1
                            clear hm1
                            go_wp2_with fail
                            go_meet
                            case rel => exact ⟨by rw [decide_eq_false HM1.out, Bool.and_false], rfl⟩
                        · have t1 : ¬ (q : Int) < (i : Int) := by omega
                          go_wp2_with fail
                          go_meet
                          case rel => exact ⟨by rw [decide_eq_false hlt, Bool.false_and], rfl⟩
                      case rest =>
                        obtain ⟨rfl, hw⟩ := hcut
                        have hw := hw.symm
                        subst hw
                        cases hcd : (decide (q < i) && decide (mode = 1))
                        · -- the end
                          have hbgB : ((rv0 o f m).bgA md op).bg3 cc q = (rv0 o f m).bgB cc md op mode := by
                            unfold RV.bgB
                            have h0 := HQ0.out
                            by_cases hm1 : mode = 1
                            · rw [if_pos hm1, HR1.out.len]
                              simp [hm1] at hcd
                              rw [show q = i by omega]
                            · rw [if_neg hm1, h0 hm1]; rfl
                          have hR2 := HR.out
                          rw [hbgB] at hR2
                          obtain ⟨Fx, hrv, hgo⟩ := hR2.go
                          obtain ⟨A', c', B', d', hrv⟩ := hrv
                          have HIV := Lib.hid hrv
                          have HR2 := Lib.hid hR2
                          have hhd := rhead_any i (cc : Int) mode true wx.drew
                          change Calls _ _ _ _ (fun e w' => _ ∧ Below wx.heap.size wx.drew w') at hhd
                          have HHD := Lib.hid hhd
                          clear hhd
                          have z2 := hrv.cells.2.2.1
                          have HGO := Lib.hid hgo
                          clear hgo hrv hR2 hbgB HQ0 hcd HR
                          go_wp2_with fail
                          go_region_with (go_at_call 12; go_loud (with_reducible refine HHD.out.mono ?_; rintro e w2 ⟨rfl, hb2⟩; have hb2' : Below wx.heap.size wx.drew w2 := hb2; have hb3 : Below wx.heap.size wx w2 := (Below.refl wx.heap.size wx).drew.trans hb2'; have h3 := Lib.hid (HIV.out.keep hb3); have z2 := h3.out.cells.2.2.1; have zm := h3.out.rm.cellAt 0 (by show 0 < n2 * 1; omega); rw [uv_at _ _ (by rw [h3.out.lm]; show 0 < n2; omega)] at zm; have zf := h3.out.rm.frozenAt 0; have hc3 := Cs.below HR2.out.cell hb3 (Cs.lt HR2.out.cell); have q0 := hc3.cell 0; have q1 := hc3.cell 1))
                          all_goals
                            go_wp2_with fail
                            go_ret2
                            have hbm : bm < wx.heap.size := own_lt HIV.out.rm bm rfl
                            have hR3 := HGO.out (w2.setCell ⟨bm, 0, none⟩ (.int .u64 ((hdI i (cc : Int) mode true : Nat) : Int))) { (rv0 o f m).bgB cc md op mode with m := ((rv0 o f m).bgB cc md op mode).m.set 0 (hdI i (cc : Int) mode true) } ⟨Fx, ⟨_, _, _, _, h3.out.setM 0 (hdI i (cc : Int) mode true)⟩, (Fr.of_below hb3).set (.inl h3.out.inF.2.2.2) _, fun j hj => .inl hj⟩ HR2.out.ok HR2.out.len
                            obtain ⟨F', q1, q2, -⟩ := hR3.rv
                            have hlen0 : (rv0 o f m).x.sl.length = i := by show (slotsU m (opK m)).length = i; rw [slotsU_length, HKM.out.1]
                            refine .inr ⟨HE0.out, w1.heap.size + 1, F', rfl, by have := HSZ.out; omega, ?_, q2⟩
                            unfold rvK RV.bgn
                            rw [HKM.out.2.1, HKM.out.2.2.1, HKM.out.2.2.2, hlen0]
                            exact q1
                        · rw [Bool.and_eq_true, decide_eq_true_eq, decide_eq_true_eq] at hcd
                          obtain ⟨hlt, hm1⟩ := hcd
                          have HM1 := Lib.hid hm1
                          clear hm1
                          obtain ⟨Fx, hrv, hgo⟩ := HR.out.go
                          obtain ⟨A', c', B', d', hrv⟩ := hrv
                          have hln := HR.out.len
                          obtain ⟨a', cp', hA, -, hal'⟩ := hrv.row.form (by omega)
                          injection hA with hA _ _
                          subst hA
                          have z3 := hrv.cells.2.2.2.1
                          rw [hln] at z3
                          obtain ⟨b', o', e', -, hcc'⟩ := scs_read (Reads.of_own hrv.row) (by omega)
                          injection e' with e'
                          injection e' with e1' e2'
                          subst e1'
                          subst e2'
                          obtain ⟨x, hx⟩ : ∃ x, (((rv0 o f m).bgA md op).bg3 cc q).x.sl[q]? = some x := ⟨_, List.getElem?_eq_getElem (by omega)⟩
                          obtain ⟨v0, v1, v2, v3⟩ := hcc' q x hx
                          rw [Nat.zero_add] at v0 v1 v2 v3
                          have t1 : (q : Int) < (i : Int) := by omega
                          have HX := Lib.hid hx
                          have HGO := Lib.hid hgo
                          have HRV := Lib.hid hrv
                          clear hcc' hx hgo hrv hln
                          cases hd : x.dirty
                          · rw [hd] at v1
                            go_wp2_with fail
                            go_roundw
                            case rel => exact ⟨q + 1, by go_num, by omega, (fun e => absurd HM1.out e), by rw [RV.bg3, CS.at_eq HX.out, if_neg (by rw [hd]; decide)]; exact HR.out⟩
                            case measure => simp [intOf]; omega
                          · rw [hd] at v1
                            have hv := HR.out.ok.dv HX.out hd
                            have hln := HR.out.len
                            have hxL : L[q]? = some x := HR1L.out q x (by
                              rw [← (bg3_same cc ((rv0 o f m).bgA md op) q HR1.out.ok (by rw [HR1.out.len]; omega)).2.1 q (Nat.le_refl _)]
                              exact HX.out) hv
                            have hwh := HGD.out q x hxL hv
                            have hb0 := (HOK.out.blk x (List.mem_of_getElem? hxL) hv).1.1
                            have hqf : (q + 1) * cc ≤ n1 := by
                              have h1 := Nat.mul_le_mul_right cc (show q + 1 ≤ i by omega)
                              have h2 := HZ.out
                              omega
                            have HXL := Lib.hid hxL
                            clear hxL
                            go_wp2_with fail
                            refine (rback_any wx Fx ⟨w1.heap.size + 1, bo, co, bf, cf, bm, cm, n0, n1, n2, cc, mode⟩ false _ q x true ⟨_, _, _, _, HRV.out⟩ HR.out.ok HX.out hv (by show _ + 1 ≤ n2; rw [hln]; have := HLM.out; omega) (by show n2 ≤ 65536; omega) hb0 hwh hqf hc1 hn0 hn1).mono ?_
                            rintro e w2 ⟨rfl, hp⟩
                            have hr2 := HGO.out w2 _ hp (HR.out.ok.setD q x HX.out hv false) (by show (List.set _ _ _).length = _; rw [List.length_set]; exact hln)
                            have HR2 := Lib.hid hr2
                            clear hr2 hp hln hwh hb0 hqf
                            go_wp2_with fail
                            go_roundw
                            case rel => exact ⟨q + 1, by go_num, by omega, (fun e => absurd HM1.out e), by rw [RV.bg3, CS.at_eq HX.out, if_pos hd]; exact HR2.out⟩
                            case measure => simp [intOf]; omega
                  · rw [Bool.and_eq_true, decide_eq_true_eq] at hcd
                    obtain ⟨hlt, hop⟩ := hcd
                    have HOPT := Lib.hid hop
                    clear hop
                    obtain ⟨x, hx⟩ : ∃ x, L[q]? = some x := ⟨_, List.getElem?_eq_getElem (by rw [HLL.out]; exact hlt)⟩
                    obtain ⟨b', o', e', -, hcc'⟩ := scs_read (Reads.of_own HR.out.sl) (by rw [HLL.out]; omega)
                    injection e' with e'
                    injection e' with e1' e2'
                    subst e1'
                    subst e2'
                    obtain ⟨y0, y1, y2, y3⟩ := hcc' q x hx
                    rw [Nat.zero_add] at y0 y1 y2 y3
                    clear hcc'
                    have HX := Lib.hid hx
                    clear hx
                    have t1 : (q : Int) < (i : Int) := by omega
                    have hxe : ((rv0 o f m).bg1 md q).x.at_ q = x := by
                      refine CS.at_eq ?_
                      rw [(bg1_same md _ q).2.1 q (Nat.le_refl _)]
                      show (slotsU m (opK m))[q]? = _
                      rw [HKM.out.1, HLe.out]
                      exact HX.out
                    have HXE := Lib.hid hxe
                    clear hxe
                    obtain ⟨g, hg⟩ : ∃ g, gone md x = g := ⟨_, rfl⟩
                    have HGE := Lib.hid hg
                    clear hg
                    go_upto_region 18 with (fail)
                    go_cut [109] from 78 to 120 (fun s w' => s = .bool g ∧ w' = wx)
                    case first =>
                      cases hv : x.valid
                      · rw [hv] at y0
                        have hg' : g = false := by rw [← HGE.out]; unfold gone; rw [hv]; rfl
                        subst hg'
                        go_wp2_with fail
                        go_meet
                        case rel => exact ⟨rfl, rfl⟩
                      · rw [hv] at y0
                        by_cases hm1 : md = 1
                        · have b1 : (md == 1) = true := by simpa using hm1
                          have hg' : g = true := by rw [← HGE.out]; unfold gone; rw [hv, decide_eq_true hm1]; rfl
                          subst hg'
                          clear hm1
                          go_wp2_with fail
                          go_meet
                          case rel => exact ⟨rfl, rfl⟩
                        · have b1 : (md == 1) = false := by simpa using hm1
                          have hgd : g = !x.dirty := by rw [← HGE.out]; unfold gone; rw [hv, decide_eq_false hm1]; rfl
                          clear hm1
                          cases hd : x.dirty
                          · rw [hd] at y1
                            have hg' : g = true := by rw [hgd, hd]; rfl
                            subst hg'
                            clear hgd
                            go_wp2_with fail
                            go_meet
                            case rel => exact ⟨rfl, rfl⟩
                          · rw [hd] at y1
                            have hg' : g = false := by rw [hgd, hd]; rfl
                            subst hg'
                            clear hgd
                            go_wp2_with fail
                            go_meet
                            case rel => exact ⟨rfl, rfl⟩
                    case rest =>
                      obtain ⟨rfl, hw⟩ := hcut
                      have hw := hw.symm
                      subst hw
                      cases g
                      · go_wp2_with fail
                        go_roundw
                        case rel => exact ⟨q + 1, by go_num, by omega, (fun e => by rw [HOPT.out] at e; cases e), by rw [RV.bg1, HXE.out, if_neg (by rw [HGE.out]; decide)]; exact HR.out⟩
                        case measure => simp [intOf]; omega
                      · obtain ⟨Fx, hrv, hgo⟩ := HR.out.go
                        obtain ⟨A', c', B', d', hrv⟩ := hrv
                        have hln := HR.out.len
                        obtain ⟨a', cp', hA, -, hal'⟩ := hrv.row.form (by omega)
                        injection hA with hA _ _
                        subst hA
                        have z3 := hrv.cells.2.2.2.1
                        rw [hln] at z3
                        have fz0 := hrv.row.frozenAt (q * 4)
                        have fz1 := hrv.row.frozenAt (q * 4 + 1)
                        have fz2 := hrv.row.frozenAt (q * 4 + 2)
                        have fz3 := hrv.row.frozenAt (q * 4 + 3)
                        obtain ⟨b', o', e', -, hcc'⟩ := scs_read (Reads.of_own hrv.row) (by omega)
                        injection e' with e'
                        injection e' with e1' e2'
                        subst e1'
                        subst e2'
                        obtain ⟨v0, v1, v2, v3⟩ := hcc' q x (by
                          rw [(bg1_same md _ q).2.1 q (Nat.le_refl _)]
                          show (slotsU m (opK m))[q]? = _
                          rw [HKM.out.1, HLe.out]
                          exact HX.out)
                        rw [Nat.zero_add] at v0 v1 v2 v3
                        clear hcc'
                        have HV0 := Lib.hid (hrv.setSl q nilS (by omega))
                        have HGO := Lib.hid hgo
                        have HRV := Lib.hid hrv
                        clear hgo hrv hln
                        go_wp2_with fail
                        change Calls _ _ _ (put4 wx a' q nilS) _
                        have hbs := bg1_same md (rv0 o f m) q
                        have hsl : ((rv0 o f m).bg1 md q).x.sl.length = i := HR.out.len
                        refine (rput_any _ Fx ⟨w1.heap.size + 1, bo, co, bf, cf, bm, cm, n0, n1, n2, cc, mode⟩ false _ q nilS ⟨_, _, _, _, HV0.out⟩ (by show (List.set _ _ _)[q]? = _; rw [List.getElem?_set_self (by omega)]) (by show (List.set _ _ _).length + 1 ≤ n2; rw [List.length_set, hsl]; have := HLM.out; omega) (by show n2 ≤ 65536; omega)).mono ?_
                        rintro e w2 ⟨rfl, hp⟩
                        have hr2 := HGO.out w2 (((rv0 o f m).bg1 md q).free q) (RvP.trans (⟨(fr_put4 wx a' q nilS).mono (fun j _ e => by have := HRV.out.rowO a' rfl; rw [e]; exact this), fun j hj => .inl hj⟩ : Turn Fx Fx wx (put4 wx a' q nilS)) hp) (HR.out.ok.clear q) (by show (List.set _ _ _).length = _; rw [List.length_set, hsl])
                        have HR2 := Lib.hid hr2
                        clear hr2 hp hbs hsl
                        go_wp2_with fail
                        go_roundw
                        case rel => exact ⟨q + 1, by go_num, by omega, (fun e => by rw [HOPT.out] at e; cases e), by rw [RV.bg1, HXE.out, if_pos HGE.out]; exact HR2.out⟩
                        case measure => simp [intOf]; omega

end Go.Proofs.YtogchafnnkajfaaGreat

namespace Go.Proofs.YtogchafnnkajfaaGreat
set_option linter.unusedVariables false
open Go.RowKit
attribute [local go_sem] Oper.semAt_some

theorem RvAt.tight {W : World} {F : Nat → Prop} {K : RC} {clo : Bool} {R : RV} (h : RvAt W F K clo R) : RvAt W (fun j => F j ∧ j < W.heap.size) K clo R := by
  obtain ⟨A, c, B, d, h⟩ := h
  exact ⟨A, c, B, d, h.tight⟩
/-- Both sides in memory. -/
structure P33 (lo : Nat) (W : World) (Fv Fr : Nat → Prop) (pb bL cL : Nat) (C : VC) (V : VS) (K : RC) (clo : Bool) (R : RV) : Prop where
  vol : VolAt W Fv C V
  rv : RvAt W Fr K clo R
  pair : Cs W pb 42 #[.pointer (some ⟨C.g, 0, none⟩), .slice (some ⟨bL, 0, none⟩) 3 cL, .pointer (some ⟨C.v, 0, none⟩), .pointer (some ⟨K.r, 0, none⟩)]
  spans : W.ownsRow 0 55 1 (.slice (some ⟨bL, 0, none⟩) 3 cL) 3 (spv [C.s0, C.s1, C.s2])
  dj : ∀ j, Fv j → ¬ Fr j
  ap : ¬ Fv pb ∧ ¬ Fr pb ∧ ¬ Fv bL ∧ ¬ Fr bL
  lo_ : lo ≤ pb ∧ lo ≤ bL
  lof : ∀ j, Fv j ∨ Fr j → lo ≤ j

def StartP33 (W : World) (n0 n1 n2 : Nat) (l0 l1 l2 : List Nat) (mode : Int) (e : Ending) (W' : World) : Prop :=
  ∃ pb, e = .returned (.tuple #[.pointer (some ⟨pb, 0, none⟩), .bool true]) ∧ Below W.heap.size W W' ∧
    (opnE l2 n0 n1 mode ≠ 0 → W'.cell? ⟨pb, 2, none⟩ = some (.pointer none)) ∧
    (opnE l2 n0 n1 mode = 0 → ∃ Fv Fr bL cL g s0 s1 s2 m v r bo co bf cf bm cm, P33 W.heap.size W' Fv Fr pb bL cL ⟨g, s0, s1, s2, m, v, n0, n1, n2, opC l2⟩ ((opn0 (DS.full [l0, l1, l2]) mode).bgn ⟨g, s0, s1, s2, m, v, n0, n1, n2, opC l2⟩ mode) (rvK r bo co bf cf bm cm n0 n1 n2 l2 mode) false ((rv0 l0 l1 l2).bgn (opC l2) (opM l2) (opO l2) mode))

set_option maxRecDepth 100000 in
set_option maxHeartbeats 8000000 in
theorem start33_any (W : World) (A0 A1 A2 : Option Addr) (n0 n1 n2 c0 c1 c2 : Nat) (l0 l1 l2 : List Nat) (hA0 : Reads W A0 (uv l0)) (hA1 : Reads W A1 (uv l1)) (hA2 : Reads W A2 (uv l2)) (h0 : l0.length = n0) (h1 : l1.length = n1) (h2 : l2.length = n2) (hn0 : 1 ≤ n0 ∧ n0 ≤ 60000) (hn1 : 1 ≤ n1 ∧ n1 ≤ 60000) (hn2 : 1 ≤ n2 ∧ n2 ≤ 60000) (hw0 : W64 l0) (hw1 : W64 l1) (hw2 : W64 l2) (mode : Int) (hmo : -9223372036854775808 ≤ mode ∧ mode ≤ 9223372036854775807) :
    Calls Tryz.prog 15 #[.slice A0 n0 c0, .slice A1 n1 c1, .slice A2 n2 c2, .int .i64 mode] W (StartP33 W n0 n1 n2 l0 l1 l2 mode) := by
  have HN0 := Lib.hid h0
  have HN1 := Lib.hid h1
  have HN2 := Lib.hid h2
  have HA0 := Lib.hid hA0
  have HA1 := Lib.hid hA1
  have HA2 := Lib.hid hA2
  obtain ⟨i0, hi0, hz0, hz1, hz2⟩ := info_parts u64_info
  clear h0 h1 h2 hA0 hA1 hA2
  go_enter Tryz.func15, Tryz.ntmps15
  go_wp2_with (first
    | (at_builtin; refine wpList_append_reads _ (by rfl) _ _ _ (by rfl) W.heap.size 26 i0 _ 1 8 Tryz.underlying29 hi0 hz0 hz1 hz2 rfl (by omega) (.slice none 0 0) 0 [] (by rfl) (World.ownsRow_nil _ _ _ _) A2 n2 c2 (uv l2) (by rfl) (by rw [uv_length, HN2.out]; omega) (HA2.out.keep HB6.out) (uv_one l2) (by simp only [maxLen]; omega) (by omega) (HB6.out.size) ?_; intro v w7 hown hg hat; obtain ⟨A7, c7, hv⟩ := own_form hown; subst hv; simp only [Nat.zero_add, List.nil_append] at hown; have HO7 := Lib.hid hown; have HX7 := Lib.hid ((Below.refl w6.heap.size w6).grown hg (Nat.le_refl _) (by intro k hk; simp [Value.ownBlock] at hk)); have HB7 := Lib.hid (HB6.out.trans (Below.mono ((Below.refl w6.heap.size w6).grown hg (Nat.le_refl _) (by intro k hk; simp [Value.ownBlock] at hk)) HB6.out.size)); clear hown hg hat)
    | (at_builtin; refine wpList_append_reads _ (by rfl) _ _ _ (by rfl) W.heap.size 26 i0 _ 1 8 Tryz.underlying29 hi0 hz0 hz1 hz2 rfl (by omega) (.slice none 0 0) 0 [] (by rfl) (World.ownsRow_nil _ _ _ _) A1 n1 c1 (uv l1) (by rfl) (by rw [uv_length, HN1.out]; omega) (HA1.out.keep HB5.out) (uv_one l1) (by simp only [maxLen]; omega) (by omega) (HB5.out.size) ?_; intro v w6 hown hg hat; obtain ⟨A6, c6, hv⟩ := own_form hown; subst hv; simp only [Nat.zero_add, List.nil_append] at hown; have HO6 := Lib.hid hown; have HX6 := Lib.hid ((Below.refl w5.heap.size w5).grown hg (Nat.le_refl _) (by intro k hk; simp [Value.ownBlock] at hk)); have HB6 := Lib.hid (HB5.out.trans (Below.mono ((Below.refl w5.heap.size w5).grown hg (Nat.le_refl _) (by intro k hk; simp [Value.ownBlock] at hk)) HB5.out.size)); clear hown hg hat)
    | (at_builtin; refine wpList_append_reads _ (by rfl) _ _ _ (by rfl) W.heap.size 26 i0 _ 1 8 Tryz.underlying29 hi0 hz0 hz1 hz2 rfl (by omega) (.slice none 0 0) 0 [] (by rfl) (World.ownsRow_nil _ _ _ _) A0 n0 c0 (uv l0) (by rfl) (by rw [uv_length, HN0.out]; omega) HA0.out (uv_one l0) (by simp only [maxLen]; omega) (by omega) (Nat.le_refl _) ?_; intro v w5 hown hg hat; obtain ⟨A5, c5, hv⟩ := own_form hown; subst hv; simp only [Nat.zero_add, List.nil_append] at hown; have HO5 := Lib.hid hown; have HX5 := Lib.hid ((Below.refl W.heap.size W).grown hg (Nat.le_refl _) (by intro k hk; simp [Value.ownBlock] at hk)); have HB5 := Lib.hid ((Below.refl W.heap.size W).grown hg (Nat.le_refl _) (by intro k hk; simp [Value.ownBlock] at hk)); clear hown hg hat))
  have hv : ([⟨A5, c5, l0⟩, ⟨A6, c6, l1⟩, ⟨A7, c7, l2⟩].map Im.v).toArray = #[Value.slice A5 n0 c5, Value.slice A6 n1 c6, Value.slice A7 n2 c7] := by simp [Im.v, HN0.out, HN1.out, HN2.out]
  have HC6 : Hid (Cs (w7.alloc (.cells #[Value.slice A5 n0 c5, Value.slice A6 n1 c6, Value.slice A7 n2 c7] 29)) w7.heap.size 29 ([⟨A5, c5, l0⟩, ⟨A6, c6, l1⟩, ⟨A7, c7, l2⟩].map Im.v).toArray) := by show Cs _ _ _ _; rw [hv]; exact Cs.new w7 _ _
  clear hv
  have hb8 : Below w7.heap.size w7 (w7.alloc (.cells #[Value.slice A5 n0 c5, Value.slice A6 n1 c6, Value.slice A7 n2 c7] 29)) := (Below.refl _ _).alloc (Nat.le_refl _) _
  have HR5 := Lib.hid ((((Reads.of_own HO5.out).keep HX6.out).keep HX7.out).keep hb8)
  have HR6 := Lib.hid (((Reads.of_own HO6.out).keep HX7.out).keep hb8)
  have HR7 := Lib.hid ((Reads.of_own HO7.out).keep hb8)
  have HB8 := Lib.hid (HB7.out.trans (hb8.mono HB7.out.size))
  have hs8 : (w7.alloc (.cells #[Value.slice A5 n0 c5, Value.slice A6 n1 c6, Value.slice A7 n2 c7] 29)).heap.size = w7.heap.size + 1 := by simp
  have hs7 : W.heap.size ≤ w7.heap.size := HB7.out.size
  clear hb8 HB5 HB6 HB7 HO5 HO6 HO7 HX5 HX6 HX7
  refine (loaded_any _ w7.heap.size 3 3 [⟨A5, c5, l0⟩, ⟨A6, c6, l1⟩, ⟨A7, c7, l2⟩] HC6.out rfl (by omega) (by intro p hp; simp at hp; rcases hp with rfl | rfl | rfl; exact HR5.out; exact HR6.out; exact HR7.out) (by intro p hp; simp at hp; rcases hp with rfl | rfl | rfl; rw [HN0.out]; exact ⟨hn0.1, by omega, hw0⟩; rw [HN1.out]; exact ⟨hn1.1, by omega, hw1⟩; rw [HN2.out]; exact ⟨hn2.1, by omega, hw2⟩)).mono ?_
  generalize (w7.alloc (.cells #[Value.slice A5 n0 c5, Value.slice A6 n1 c6, Value.slice A7 n2 c7] 29)) = w8 at *
  rintro e V1 ⟨g, rfl, hd, hbV⟩
  have HBV := Lib.hid (HB8.out.trans (hbV.mono HB8.out.size))
  have hsV := hbV.size
  obtain ⟨F, hdF, hge⟩ : ∃ F : Nat → Prop, DskAt V1 F g (DS.full [l0, l1, l2]) ∧ ∀ j, F j → w8.heap.size ≤ j ∧ j < V1.heap.size := ⟨_, hd.tight, by intro j hj; have := hj.1; exact ⟨this, hj.2⟩⟩
  have HD := Lib.hid hdF
  have HGE := Lib.hid hge
  clear hd hge hbV HB8 HC6 HR5 HR6 HR7 hdF
  go_wp2_with fail
  refine (spans_any V1 _ g (DS.full [l0, l1, l2]) HD.out (by intro x hx; simp [DS.full] at hx; rcases hx with rfl | rfl | rfl; show 1 ≤ l0.length; rw [HN0.out]; exact hn0.1; show 1 ≤ l1.length; rw [HN1.out]; exact hn1.1; show 1 ≤ l2.length; rw [HN2.out]; exact hn2.1)).mono ?_
  rintro e V2 ⟨v2, sps, rfl, hsl, hown, hsp, hb2⟩
  have hsl2 : sps.length = 3 := hsl
  obtain ⟨s0, s1, s2, rfl⟩ : ∃ s0 s1 s2, sps = [s0, s1, s2] := by
    rcases sps with _ | ⟨s0, _ | ⟨s1, _ | ⟨s2, _ | ⟨q, r⟩⟩⟩⟩
    · simp at hsl2
    · simp at hsl2
    · simp at hsl2
    · exact ⟨s0, s1, s2, rfl⟩
    · simp at hsl2
  obtain ⟨hs0, hsg0⟩ := hsp 0 s0 rfl
  obtain ⟨hs1, hsg1⟩ := hsp 1 s1 rfl
  obtain ⟨hs2, hsg2⟩ := hsp 2 s2 rfl
  change SpanAt V2 s0 g 0 l0.length at hs0
  change SpanAt V2 s1 g 1 l1.length at hs1
  change SpanAt V2 s2 g 2 l2.length at hs2
  have hs02 : s0 ≠ s2 := by
    rintro rfl
    have := (Cs.cell hs0 1).symm.trans (Cs.cell hs2 1)
    simp at this
  have hs12 : s1 ≠ s2 := by
    rintro rfl
    have := (Cs.cell hs1 1).symm.trans (Cs.cell hs2 1)
    simp at this
  rw [HN0.out] at hs0
  rw [HN1.out] at hs1
  rw [HN2.out] at hs2
  change V2.ownsRow V1.heap.size _ 1 v2 3 _ at hown
  obtain ⟨bL, cL, hvL, hbL, hbLl⟩ := hown.form (by omega)
  subst hvL
  have y0 : V2.cell? ⟨bL, 0, none⟩ = some (.iface 176 (.pointer (some ⟨s0, 0, none⟩))) := (hown.cellAt 0 (by omega)).trans rfl
  have y1 : V2.cell? ⟨bL, 1, none⟩ = some (.iface 176 (.pointer (some ⟨s1, 0, none⟩))) := (hown.cellAt 1 (by omega)).trans rfl
  have y2 : V2.cell? ⟨bL, 2, none⟩ = some (.iface 176 (.pointer (some ⟨s2, 0, none⟩))) := (hown.cellAt 2 (by omega)).trans rfl
  have HD2 := Lib.hid (HD.out.keep hb2)
  have HS0 := Lib.hid hs0
  have HS1 := Lib.hid hs1
  have HS2 := Lib.hid hs2
  have HL := Lib.hid hown
  have HB2 := Lib.hid (HBV.out.trans (hb2.mono HBV.out.size))
  have hV2s : V1.heap.size ≤ V2.heap.size := hb2.size
  have hne0 : bL ≠ s0 := own_cs_ne hown hs0 (by decide)
  have hne1 : bL ≠ s1 := own_cs_ne hown hs1 (by decide)
  have hne2 : bL ≠ s2 := own_cs_ne hown hs2 (by decide)
  have hs0l := Cs.lt hs0
  have hs1l := Cs.lt hs1
  have hs2l := Cs.lt hs2
  have hnf : ∀ j, V1.heap.size ≤ j → ¬ F j := fun j hj e => by have := HGE.out j e; omega
  have HNF := Lib.hid hnf
  clear hs0 hs1 hs2 hown hb2 hsp hsl hsl2 HBV HD hnf
  obtain ⟨p1, p2⟩ := full3 ⟨g, s0, s1, s2, g, g, n0, n1, n2, 1⟩ l0 l1 l2 HN0.out HN1.out HN2.out
  have hb3 : Below V2.heap.size V2 V2.drew := (Below.refl _ V2).drew
  have HOP := Lib.hid (vopen_any V2.drew F (fun j => F j ∨ j = s0 ∨ j = s1 ∨ j = s2) g s0 s1 s2 n0 n1 n2 (DS.full [l0, l1, l2]) mode (HD2.out.keep hb3) HS0.out HS1.out HS2.out (fun j hj => .inl hj) (.inr (.inl rfl)) (.inr (.inr (.inl rfl))) (.inr (.inr (.inr rfl))) (HNF.out _ (by omega)) (HNF.out _ (by omega)) (HNF.out _ (by omega)) hs02 hs12 p1.hea p1.dn p1.fu
    hw2 (by omega) (by omega) (by omega) (by omega) (by show 0 ≤ _; omega) (by show (0 : Int) ≤ _; omega) hmo)
  unfold spanV at HOP
  have nL : ¬ (F bL ∨ bL = s0 ∨ bL = s1 ∨ bL = s2) := by
    rintro (e | e | e | e)
    · exact HNF.out _ (by omega) e
    · exact hne0 e
    · exact hne1 e
    · exact hne2 e
  clear p1 p2 hb3
  go_wp2_with fail
  go_region_held3 (fun w' => w'.cell? ⟨bL, 0, none⟩ = some (.iface 176 (.pointer (some ⟨s0, 0, none⟩))) ∧ w'.cell? ⟨bL, 1, none⟩ = some (.iface 176 (.pointer (some ⟨s1, 0, none⟩))) ∧ w'.cell? ⟨bL, 2, none⟩ = some (.iface 176 (.pointer (some ⟨s2, 0, none⟩))))
    (first | with_reducible exact yy | exact ⟨y0, y1, y2⟩)
    ((go_at_call 24; (with_reducible refine HOP.out.mono ?_); rintro e V3 ho; have ho' : ∃ vp F3, e = .returned (.tuple #[vp, .int .i64 (opnE l2 n0 n1 mode)]) ∧ Turn (fun j => F j ∨ j = s0 ∨ j = s1 ∨ j = s2) F3 V2.drew V3 ∧ (opnE l2 n0 n1 mode ≠ 0 → vp = .pointer none) ∧ (opnE l2 n0 n1 mode = 0 → ∃ m v, vp = .pointer (some ⟨v, 0, none⟩) ∧ VolAt V3 F3 ⟨g, s0, s1, s2, m, v, n0, n1, n2, opC l2⟩ ((opn0 (DS.full [l0, l1, l2]) mode).bgn ⟨g, s0, s1, s2, m, v, n0, n1, n2, opC l2⟩ mode)) := (ho.elim (fun ⟨h1, h2, F', h3⟩ => ⟨_, F', h2, h3, fun _ => rfl, fun e => absurd e h1⟩) (fun ⟨h1, m, v, F', h2, h3, h4⟩ => ⟨_, F', h2.trans (by rw [show opnE l2 n0 n1 mode = 0 from h1]), h4, fun e => absurd h1 e, fun _ => ⟨m, v, rfl, h3⟩⟩)); obtain ⟨vp, F3, rfl, ht3, hz, hv3⟩ := ho'; have HT3 := Lib.hid ht3; have HZ := Lib.hid hz; have HV3 := Lib.hid hv3; clear ho ht3 hz hv3; have yy : V3.cell? ⟨bL, 0, none⟩ = some (.iface 176 (.pointer (some ⟨s0, 0, none⟩))) ∧ V3.cell? ⟨bL, 1, none⟩ = some (.iface 176 (.pointer (some ⟨s1, 0, none⟩))) ∧ V3.cell? ⟨bL, 2, none⟩ = some (.iface 176 (.pointer (some ⟨s2, 0, none⟩))) := ⟨(HT3.out.1.cell (b := bL) (i := 0) hbLl nL).trans y0, (HT3.out.1.cell (b := bL) (i := 1) hbLl nL).trans y1, (HT3.out.1.cell (b := bL) (i := 2) hbLl nL).trans y2⟩))
  have ht3 : Turn (fun j => F j ∨ j = s0 ∨ j = s1 ∨ j = s2) F3 V2 V3 := (Turn.of_below (Below.refl _ V2).drew).trans HT3.out
  have hlt0 : ∀ j, (F j ∨ j = s0 ∨ j = s1 ∨ j = s2) → W.heap.size ≤ j := by
    rintro j (e | e | e | e)
    · have := HGE.out j e; omega
    · omega
    · omega
    · omega
  have HB3 := Lib.hid (HB2.out.trans (ht3.1.below HB2.out.size hlt0))
  have hs3 : V2.heap.size ≤ V3.heap.size := ht3.1.size
  have HL3 := Lib.hid (own_fr HL.out ht3.1 (fun b hb => by simp [Value.ownBlock] at hb; rw [← hb]; exact nL))
  have HF3 : Hid (∀ j, F3 j → (W.heap.size ≤ j ∧ j ≠ bL)) := by
    intro j hj
    rcases ht3.2 j hj with e | e
    · exact ⟨hlt0 j e, fun e' => nL (e' ▸ e)⟩
    · have := HB2.out.size; exact ⟨by omega, by omega⟩
  clear ht3 hlt0 nL yy y0 y1 y2 HL HD2 HS0 HS1 HS2 HOP HT3 HGE HNF HB2 hne0 hne1 hne2 hs0l hs1l hs2l hs02 hs12
  go_wp2_with (first
    | (at_builtin; refine wpList_append_reads _ (by rfl) _ _ _ (by rfl) x6.heap.size 26 i0 _ 1 8 Tryz.underlying29 hi0 hz0 hz1 hz2 rfl (by omega) (.slice none 0 0) 0 [] (by rfl) (World.ownsRow_nil _ _ _ _) A2 n2 c2 (uv l2) (by rfl) (by rw [uv_length, HN2.out]; omega) (HA2.out.keep HB6x.out) (uv_one l2) (by simp only [maxLen]; omega) (by omega) (Nat.le_refl _) ?_; intro v x7 hown hg hat; simp only [Nat.zero_add, List.nil_append] at hown; obtain ⟨bm, cm, hv, hbm, hlm⟩ := hown.form (by omega); subst hv; have HOm := Lib.hid hown; have HX7x := Lib.hid ((Below.refl x6.heap.size x6).grown hg (Nat.le_refl _) (by intro k hk; simp [Value.ownBlock] at hk)); have HB7x := Lib.hid (HB6x.out.trans (HX7x.out.mono HB6x.out.size)); have hs7x := HX7x.out.size; clear hown hg hat)
    | (at_builtin; refine wpList_append_reads _ (by rfl) _ _ _ (by rfl) x5.heap.size 26 i0 _ 1 8 Tryz.underlying29 hi0 hz0 hz1 hz2 rfl (by omega) (.slice none 0 0) 0 [] (by rfl) (World.ownsRow_nil _ _ _ _) A1 n1 c1 (uv l1) (by rfl) (by rw [uv_length, HN1.out]; omega) (HA1.out.keep HB5x.out) (uv_one l1) (by simp only [maxLen]; omega) (by omega) (Nat.le_refl _) ?_; intro v x6 hown hg hat; simp only [Nat.zero_add, List.nil_append] at hown; obtain ⟨bf, cf, hv, hbf, hlf⟩ := hown.form (by omega); subst hv; have HOf := Lib.hid hown; have HX6x := Lib.hid ((Below.refl x5.heap.size x5).grown hg (Nat.le_refl _) (by intro k hk; simp [Value.ownBlock] at hk)); have HB6x := Lib.hid (HB5x.out.trans (HX6x.out.mono HB5x.out.size)); have hs6x := HX6x.out.size; clear hown hg hat)
    | (at_builtin; refine wpList_append_reads _ (by rfl) _ _ _ (by rfl) V3.heap.size 26 i0 _ 1 8 Tryz.underlying29 hi0 hz0 hz1 hz2 rfl (by omega) (.slice none 0 0) 0 [] (by rfl) (World.ownsRow_nil _ _ _ _) A0 n0 c0 (uv l0) (by rfl) (by rw [uv_length, HN0.out]; omega) (HA0.out.keep HB3.out) (uv_one l0) (by simp only [maxLen]; omega) (by omega) (Nat.le_refl _) ?_; intro v x5 hown hg hat; simp only [Nat.zero_add, List.nil_append] at hown; obtain ⟨bo, co, hv, hbo, hlo⟩ := hown.form (by omega); subst hv; have HOo := Lib.hid hown; have HX5x := Lib.hid ((Below.refl V3.heap.size V3).grown hg (Nat.le_refl _) (by intro k hk; simp [Value.ownBlock] at hk)); have HB5x := Lib.hid (HB3.out.trans (HX5x.out.mono HB3.out.size)); have hs5x := HX5x.out.size; clear hown hg hat))
  have hbO : W.heap.size ≤ V3.heap.size := HB3.out.size
  have HB7 := Lib.hid (HX5x.out.trans ((HX6x.out.mono hs5x).trans (HX7x.out.mono (by omega)) |>.mono (Nat.le_refl _)))
  refine (rvopen_any x7 bo co bf cf bm cm n0 n1 n2 l0 l1 l2 mode (own_lower (own_keepB (own_keepB HOo.out HX6x.out) HX7x.out) (Nat.zero_le _)) (own_lower (own_keepB HOf.out HX7x.out) (Nat.zero_le _)) (own_lower HOm.out (Nat.zero_le _)) HN0.out HN1.out HN2.out hw2 (by omega) (by omega) (by omega) (by omega)).mono ?_
  rintro e x8 hro
  obtain ⟨rp, F8, rfl, ht8, hz8, hv8⟩ : ∃ rp F8, e = .returned (.tuple #[rp, .int .i64 (opnE l2 n0 n1 mode)]) ∧ Turn (fun j => j = bo ∨ j = bf ∨ j = bm) F8 x7 x8 ∧ (opnE l2 n0 n1 mode ≠ 0 → rp = .pointer none) ∧ (opnE l2 n0 n1 mode = 0 → ∃ r, rp = .pointer (some ⟨r, 0, none⟩) ∧ x7.heap.size ≤ r ∧ RvAt x8 F8 (rvK r bo co bf cf bm cm n0 n1 n2 l2 mode) false ((rv0 l0 l1 l2).bgn (opC l2) (opM l2) (opO l2) mode)) :=
    hro.elim (fun ⟨h1, h2, h3⟩ => ⟨_, _, h2, Turn.of_below h3, fun _ => rfl, fun e => absurd e h1⟩) (fun ⟨h1, r, F', h2, h3, h4, h5⟩ => ⟨_, F', h2.trans (by rw [h1]), h5, fun e => absurd h1 e, fun _ => ⟨r, rfl, h3, h4⟩⟩)
  have h7s : V3.heap.size ≤ x7.heap.size := HB7.out.size
  have h8s : x7.heap.size ≤ x8.heap.size := ht8.1.size
  have HT8 := Lib.hid ht8
  have HV8 := Lib.hid hv8
  have hlo8 : ∀ j, (j = bo ∨ j = bf ∨ j = bm) → V3.heap.size ≤ j := by
    rintro j (e | e | e) <;> omega
  have HB8 := Lib.hid (HB7.out.trans (ht8.1.below h7s hlo8))
  clear hro ht8 hv8
  by_cases hop : opnE l2 n0 n1 mode = 0
  · obtain ⟨m, v, rfl, hv⟩ := HV3.out hop
    obtain ⟨r, rfl, hr7, hv8⟩ := HV8.out hop
    have HOPE := Lib.hid hop
    have HVA := Lib.hid hv.tight
    have HRA := Lib.hid hv8
    clear hop hv hv8 HZ HV3 HV8 hz8
    generalize opnE l2 n0 n1 mode = ez
    go_wp2_with fail
    go_ret2
    have bE : Below V3.heap.size V3 (x8.alloc (.cells #[.pointer (some ⟨g, 0, none⟩), .slice (some ⟨bL, 0, none⟩) 3 cL, .pointer (some ⟨v, 0, none⟩), .pointer (some ⟨r, 0, none⟩)] 42)) := HB8.out.alloc (by omega) _
    have bE8 : Below x8.heap.size x8 (x8.alloc (.cells #[.pointer (some ⟨g, 0, none⟩), .slice (some ⟨bL, 0, none⟩) 3 cL, .pointer (some ⟨v, 0, none⟩), .pointer (some ⟨r, 0, none⟩)] 42)) := (Below.refl _ x8).alloc (Nat.le_refl _) _
    have hr8 : ∀ j, F8 j → V3.heap.size ≤ j := fun j hj => (HT8.out.2 j hj).elim (hlo8 j) (fun e => by omega)
    refine ⟨x8.heap.size, rfl, HB3.out.trans (bE.mono HB3.out.size), fun e => absurd HOPE.out e, fun _ => ⟨fun j => F3 j ∧ j < V3.heap.size, fun j => F8 j ∧ j < x8.heap.size, bL, cL, g, s0, s1, s2, m, v, r, bo, co, bf, cf, bm, cm, ?_⟩⟩
    refine ⟨HVA.out.keep bE, RvAt.keep (RvAt.tight HRA.out) bE8, Cs.new x8 _ _, own_lower (own_keepB HL3.out bE) (Nat.zero_le _), fun j hj hk => by have := hr8 j hk.1; have := hj.2; omega, ⟨fun hj => by have := hj.2; omega, fun hj => by have := hj.2; omega, fun hj => (HF3.out _ hj.1).2 rfl, fun hj => by have := hr8 _ hj.1; omega⟩, by omega, ?_⟩
    rintro j (hj | hj)
    · exact (HF3.out _ hj.1).1
    · have := hr8 _ hj.1; omega
  · have hvp := HZ.out hop
    subst hvp
    have hrp := hz8 hop
    subst hrp
    have HOPE := Lib.hid hop
    clear hop HZ HV3 HV8 hz8
    generalize opnE l2 n0 n1 mode = ez
    go_wp2_with fail
    go_ret2
    have bE := HB8.out.alloc (by omega) (.cells #[.pointer (some ⟨g, 0, none⟩), .slice (some ⟨bL, 0, none⟩) 3 cL, .pointer none, .pointer none] 42)
    exact ⟨x8.heap.size, rfl, HB3.out.trans (bE.mono HB3.out.size), fun _ => (Cs.new x8 42 #[.pointer (some ⟨g, 0, none⟩), .slice (some ⟨bL, 0, none⟩) 3 cL, .pointer none, .pointer none]).cell 2, fun e => absurd e HOPE.out⟩

end Go.Proofs.YtogchafnnkajfaaGreat

namespace Go.Proofs.YtogchafnnkajfaaGreat
set_option linter.unusedVariables false

/-- Clean, Detach, Close by the definition. -/
def RV.clnF (c : Nat) : Nat → RV → Nat → Int × RV
  | 0, R, i => ((i : Int), R)
  | m + 1, R, i => if R.x.oldest < 0 then ((i : Int), R) else RV.clnF c m (R.back c R.x.oldest.toNat true) (i + 1)
def RV.frF : Nat → RV → Nat → RV
  | 0, R, _ => R
  | m + 1, R, k => if (R.x.at_ k).valid = true then RV.frF m (R.free k) (k + 1) else RV.frF m R (k + 1)
def RV.dtc (c : Nat) (R : RV) : RV := RV.frF (RV.clnF c R.x.sl.length R 0).2.x.sl.length (RV.clnF c R.x.sl.length R 0).2 0
def RV.clos (c : Nat) (mode : Int) (R : RV) : RV := { R with m := R.m.set 0 (hdI R.x.sl.length (c : Int) mode false) }

def anyT : Nat → Nat → Prop := fun _ _ => True
/-- Both sides alike. -/
structure PY (C : VC) (V : VS) (R : RV) (n : Nat) : Prop where
  dn : V.S.down = false
  fu : V.S.fuse = 0
  vi : VI C V.S V.x.sl V.pm anyT
  vw : view V = R
  ok : V.x.Ok
  len : V.x.sl.length = V.ss.length
  clo : V.closed = false
  stk : V.stuck = false
  log : V.S.log.length ≤ n
  wr : V.S.wr ≤ n
  clk : V.x.clk ≤ n

section
variable {C : VC} {V : VS} {R : RV} {n : Nat}
theorem PY.mono (h : PY C V R n) {m : Nat} (hm : n ≤ m) : PY C V R m := ⟨h.dn, h.fu, h.vi, h.vw, h.ok, h.len, h.clo, h.stk, by have := h.log; omega, by have := h.wr; omega, by have := h.clk; omega⟩
theorem VI.any {S : DS} {sl : List Sl} {pm : Bool} {ok : Nat → Nat → Prop} (h : VI C S sl pm ok) : VI C S sl pm anyT := h.mono (fun _ _ _ _ => trivial)
theorem PY.x (h : PY C V R n) : V.x = R.x := by rw [← h.vw]; rfl
/-- Nothing of a step but what Bd tells. -/
theorem bnd_stk {p : Int × VS} {f : VS → Int × VS} {s : Bool} (hp : p.2.stuck = s) (hf : ∀ V, V.stuck = s → (f V).2.stuck = s) : (bnd p f).2.stuck = s := by
  unfold bnd
  split
  · exact hf _ hp
  · exact hp
theorem free_stk (k : Nat) : (V.freeV C k).stuck = V.stuck := by
  unfold VS.freeV
  split <;> rfl
theorem p7_stk (k b : Nat) (x : Sl) : (V.p7 C k x b).2.stuck = V.stuck := by
  have h1 : (V.p1 C k x).2.stuck = V.stuck := by unfold VS.p1; split <;> rfl
  have h2 : (V.p2 C k x).2.stuck = V.stuck := bnd_stk h1 (fun V' h => by
    split
    · exact (free_stk k).trans h
    · exact h)
  have h3 : (V.p3 C k x).2.stuck = V.stuck := bnd_stk h2 (fun V' h => h)
  have h4 : (V.p4 C k x b).2.stuck = V.stuck := bnd_stk h3 (fun V' h => h)
  have h5 : (V.p5 C k x b).2.stuck = V.stuck := bnd_stk h4 (fun V' h => h)
  have h6 : (V.p6 C k x b).2.stuck = V.stuck := bnd_stk h5 (fun V' h => h)
  exact bnd_stk h6 (fun V' h => h)
theorem slt_stk (a : Nat) : (V.slt C a).2.2.stuck = V.stuck := by
  unfold VS.slt
  split
  · rfl
  · split
    · rfl
    · split
      · rfl
      · exact p7_stk _ _ _

/-- Read. -/
theorem PY.read (h : PY C V R n) {a : Nat} (ha : a < C.n0) (hn0 : C.n0 ≤ 65536) (hn : n ≤ 1000000) :
    (V.rdR C a).2 = 0 ∧ (V.rdR C a).1 = (R.read C.chunk a).1 ∧ PY C (V.slt C a).2.2 (R.read C.chunk a).2 (n + 2 * C.chunk + 2) := by
  have hck : V.x.clk < 1099511627776 := by have := h.clk; omega
  have hb := Bd.slt (C := C) h.ok h.len ha hn0 hck
  rcases rd_ou h.vi h.dn h.ok h.len hck ha hn0 with ⟨r1, r2, r3, r4, r5, r6, r7, -, r8⟩ | ⟨r1, -⟩
  · rw [h.vw] at r5 r6
    have hpm : (V.slt C a).2.2.pm = V.pm := hb.pm
    refine ⟨r1, r5, r2, r3 h.fu, by rw [hpm]; exact r4, r6, hb.ok, hb.len, by rw [hb.clo]; exact h.clo, by rw [slt_stk]; exact h.stk, ?_, ?_, ?_⟩
    · have := hb.log; have := h.log; omega
    · have := hb.wr; have := h.wr; omega
    · have := hb.clk; have := h.clk; omega
  · exact absurd h.fu r1
/-- Write. -/
theorem PY.write (h : PY C V R n) {a v : Nat} (ha : a < C.n0) (hn0 : C.n0 ≤ 65536) (hn : n ≤ 1000000) :
    (V.wrt C a v).1 = 0 ∧ PY C (V.wrt C a v).2 (R.write C.chunk V.pm a v) (n + 2 * C.chunk + 5) ∧ (V.wrt C a v).2.pm = V.pm := by
  have hck : V.x.clk < 1099511627776 := by have := h.clk; omega
  have hb := Bd.wrt (C := C) (v := v) h.ok h.len hck ha hn0
  rcases wrt_ou (a := a) (v := v) h.vi rfl h.dn h.ok h.len hck ha hn0 with ⟨r1, r2, r3, r4, r5, -⟩ | ⟨r1, -⟩
  · rw [h.vw] at r5
    have hpm : (V.wrt C a v).2.pm = V.pm := hb.pm
    refine ⟨r1, ⟨r2, r3 h.fu, by rw [hpm]; exact r4.any, r5, hb.ok, hb.len, by rw [hb.clo]; exact h.clo, ?_, ?_, ?_, ?_⟩, hpm⟩
    · -- no slot is lost
      rcases slt_ou h.vi h.dn h.ok ha hn0 with ⟨h0, h1, h2, h3, h4, h5, h6⟩ | ⟨h0, -⟩
      · have hs := slt_stk (C := C) (V := V) a
        rw [h.stk] at hs
        have hso := slt_ok (C := C) h.ok h.len ha hn0 hck h0
        have hf0 := h2 h.fu
        unfold VS.wrt
        rw [if_neg (fun e => e h0)]
        generalize V.slt C a = q at *
        obtain ⟨qk, qe, qV⟩ := q
        dsimp only at *
        rcases hso with rfl | ⟨j, x, rfl, hj, hx, hxv, hxb⟩
        · rw [if_pos (by omega)]
          exact hs
        · rw [if_neg (by omega), Int.toNat_natCast, CS.at_eq hx]
          split
          · unfold VS.bck
            refine bnd_stk ?_ (fun V' h => h)
            unfold VS.bc1
            split
            · exact hs
            · exact bnd_stk hs (fun V' h => h)
          · have hfs := h3.k.fast hx (i := a % C.chunk) (blk_at a C.chunk h3.k.ch).2
            rcases wr_out h3.k.hea h1 (i := 0) (n := C.n0) rfl a v ha with ⟨w1, w2, w3, w4⟩ | ⟨w0, -⟩
            · rcases wr_out w4.hea w2 (i := 1) (n := C.n1) rfl (j * C.chunk + a % C.chunk) v hfs with ⟨u1, -⟩ | ⟨u0, -⟩
              · unfold VS.thr
                rw [if_neg (fun e => e w1), if_neg (fun e => e u1)]
                exact hs
              · exact absurd (w3 hf0) u0
            · exact absurd hf0 w0
      · exact absurd h.fu h0
    · have := hb.log; have := h.log; omega
    · have := hb.wr; have := h.wr; omega
    · have := hb.clk; have := h.clk; omega
  · exact absurd h.fu r1
/-- Flush. -/
theorem PY.flush (h : PY C V R n) : V.flE = 0 ∧ PY C V.flV R n := by
  obtain ⟨f1, f2, f3, f4, f5, f6, f7, f8⟩ := fls_ou h.vi h.dn
  have l1 := flush_log V.S 1
  have l2 := flush_log (V.S.flush 1) 2
  have l3 := flush_log ((V.S.flush 1).flush 2) 0
  refine ⟨f1, f2, f3.trans h.fu, f8, f5.trans h.vw, h.ok, h.len, h.clo, h.stk, ?_, ?_, h.clk⟩
  · show (((V.S.flush 1).flush 2).flush 0).log.length ≤ n
    have := h.log
    omega
  · show (((V.S.flush 1).flush 2).flush 0).wr ≤ n
    have := h.wr
    omega
/-- The oldest dirty slot is written back. -/
theorem PY.cl (h : PY C V R n) (ho : ¬ R.x.oldest < 0) :
    V.clE C V.x.oldest.toNat (V.x.at_ V.x.oldest.toNat).block.toNat (V.x.at_ V.x.oldest.toNat) = 0 ∧ PY C (V.clV C V.x.oldest.toNat (V.x.at_ V.x.oldest.toNat).block.toNat (V.x.at_ V.x.oldest.toNat)) (R.back C.chunk R.x.oldest.toNat true) (n + C.chunk + 1) ∧ (V.clV C V.x.oldest.toNat (V.x.at_ V.x.oldest.toNat).block.toNat (V.x.at_ V.x.oldest.toNat)).pm = V.pm := by
  rw [← h.x] at ho ⊢
  obtain ⟨k, x, hk, hx, hxd, hxv⟩ := oldest_at h.ok ho
  rw [hk, Int.toNat_natCast, CS.at_eq hx]
  have hb := (Bd.refl h.ok h.len).cl (C := C) k x.block.toNat x hx hxv
  rcases clean_ou h.vi h.dn hx hxv hxd with ⟨r0, r1, r2, r3, r4, r5, -⟩ | ⟨r0, -⟩
  · dsimp only at r0 r1 r2 r3 r4 r5
    refine ⟨r0, ⟨r1, r2 h.fu, by rw [hb.pm]; exact r3, by rw [r4, h.vw], hb.ok, hb.len, by rw [hb.clo]; exact h.clo, ?_, ?_, ?_, ?_⟩, hb.pm⟩
    · rw [show (V.clV C k x.block.toNat x).stuck = V.stuck by unfold VS.clV; split; rfl; split <;> rfl]
      exact h.stk
    · have := hb.log; have := h.log; omega
    · have := hb.wr; have := h.wr; omega
    · have := hb.clk; have := h.clk; omega
  · exact absurd h.fu r0
/-- How many slots are dirty. -/
def dirtN (l : List Sl) : Nat := l.countP (fun x => x.dirty)
theorem dirtN_set {l : List Sl} {k : Nat} {x : Sl} (hx : l[k]? = some x) (hd : x.dirty = true) : dirtN (l.set k { x with dirty := false }) + 1 = dirtN l := by
  obtain ⟨hk, e⟩ := List.getElem?_eq_some_iff.1 hx
  unfold dirtN
  rw [List.countP_set (h := hk)]
  have h1 : 0 < l.countP (fun x => x.dirty) := List.countP_pos_iff.2 ⟨x, List.mem_of_getElem? hx, hd⟩
  simp [e, hd]
  omega
theorem dirtN_zero {l : List Sl} (h : dirtN l = 0) : ∀ x ∈ l, x.dirty = false := by
  intro x hx
  have := List.countP_eq_zero.1 h x hx
  simpa using this
theorem dirtN_old {s : CS} (h : s.oldest < 0) : dirtN s.sl = 0 := by
  have hr := leastTo_range (fun x => x.dirty) s.sl s.sl.length (Nat.le_refl _)
  have hm : leastTo (fun x => x.dirty) s.sl s.sl.length = -1 := by
    rcases hr with e | ⟨e, -⟩
    · exact e
    · exact absurd h (by show ¬ leastTo (fun x => x.dirty) s.sl s.sl.length < 0; omega)
  have hn := leastTo_no (fun x => x.dirty) s.sl s.sl.length (Nat.le_refl _) hm
  refine List.countP_eq_zero.2 (fun x hx => ?_)
  obtain ⟨j, hj⟩ := List.mem_iff_getElem?.1 hx
  have := hn j x (List.getElem?_eq_some_iff.1 hj).1 hj
  simpa using this
/-- Clean. -/
theorem PY.clnF (m : Nat) : ∀ {V : VS} {R : RV} {n : Nat}, PY C V R n → ∀ i, (VS.clnF C m V i).1 = (RV.clnF C.chunk m R i).1 ∧ (VS.clnF C m V i).2.1 = 0 ∧ PY C (VS.clnF C m V i).2.2 (RV.clnF C.chunk m R i).2 (n + m * (C.chunk + 1)) ∧ (VS.clnF C m V i).2.2.pm = V.pm ∧ dirtN (RV.clnF C.chunk m R i).2.x.sl ≤ dirtN R.x.sl - m := by
  induction m with
  | zero => intro V R n h i; exact ⟨rfl, rfl, h.mono (by omega), rfl, Nat.le_refl _⟩
  | succ m ih =>
    intro V R n h i
    rw [VS.clnF, RV.clnF]
    have hxe := h.x
    by_cases ho : R.x.oldest < 0
    · rw [if_pos ho, if_pos (by rw [hxe]; exact ho)]
      have := dirtN_old ho
      exact ⟨rfl, rfl, h.mono (by omega), rfl, by show dirtN R.x.sl ≤ _; omega⟩
    · rw [if_neg ho, if_neg (by rw [hxe]; exact ho)]
      obtain ⟨c0, c1, c2⟩ := h.cl ho
      rw [if_neg (fun e => e c0)]
      obtain ⟨i1, i2, i3, i4, i5⟩ := ih c1 (i + 1)
      refine ⟨i1, i2, i3.mono (by rw [Nat.add_mul]; omega), i4.trans c2, ?_⟩
      have hok := h.ok
      rw [hxe] at hok
      obtain ⟨k, x, hk, hx, hxd, hxv⟩ := oldest_at hok ho
      have : dirtN (R.back C.chunk R.x.oldest.toNat true).x.sl + 1 = dirtN R.x.sl := by
        rw [hk, Int.toNat_natCast]
        show dirtN (R.x.sl.set k { R.x.at_ k with dirty := false }) + 1 = _
        rw [CS.at_eq hx]
        exact dirtN_set hx hxd
      omega
/-- Slots are freed. -/
theorem PY.frF (m : Nat) : ∀ {V : VS} {R : RV} {n : Nat}, PY C V R n → (∀ x ∈ R.x.sl, x.dirty = false) → ∀ k, k + m = R.x.sl.length → (VS.frF C m V k).1 = 0 ∧ PY C (VS.frF C m V k).2 (RV.frF m R k) (n + m) ∧ (VS.frF C m V k).2.pm = V.pm := by
  induction m with
  | zero => intro V R n h hc k hk; exact ⟨rfl, h, rfl⟩
  | succ m ih =>
    intro V R n h hc k hk
    rw [VS.frF, RV.frF]
    have hxe := h.x
    rw [hxe]
    obtain ⟨x, hx⟩ : ∃ x, R.x.sl[k]? = some x := ⟨_, List.getElem?_eq_getElem (by omega)⟩
    rw [CS.at_eq hx]
    by_cases hv : x.valid = true
    · rw [if_pos hv, if_pos hv]
      have hb := (Bd.refl h.ok h.len).fr (C := C) k
      have hx' : V.x.sl[k]? = some x := by rw [hxe]; exact hx
      rcases free_ou h.vi h.dn hx' (Eqs.clean h.vi hx' (hc x (List.mem_of_getElem? hx))) with ⟨r0, r1, r2, r3, r4, -⟩ | ⟨r0, -⟩
      · dsimp only at r0 r1 r2 r3 r4
        rw [if_neg (fun e => e r0)]
        have h1 : PY C (V.freeV C k) (R.free k) (n + 1) := ⟨r1, r2 h.fu, by rw [hb.pm]; exact r3, by rw [r4, h.vw], hb.ok, hb.len, by rw [hb.clo]; exact h.clo, by rw [free_stk]; exact h.stk, by have := hb.log; have := h.log; omega, by have := hb.wr; have := h.wr; omega, by have := hb.clk; have := h.clk; omega⟩
        obtain ⟨i1, i2, i3⟩ := ih h1 (by
          intro y hy
          rcases List.mem_or_eq_of_mem_set (show y ∈ R.x.sl.set k nilS from hy) with hy | rfl
          · exact hc y hy
          · rfl) (k + 1) (by show _ = (R.x.sl.set k nilS).length; rw [List.length_set]; omega)
        exact ⟨i1, i2.mono (by omega), i3.trans hb.pm⟩
      · exact absurd h.fu r0
    · rw [if_neg hv, if_neg hv]
      obtain ⟨i1, i2, i3⟩ := ih h hc (k + 1) (by omega)
      exact ⟨i1, i2.mono (by omega), i3⟩
theorem RV.clnF_len (c : Nat) (m : Nat) : ∀ (R : RV) (i : Nat), (RV.clnF c m R i).2.x.sl.length = R.x.sl.length := by
  induction m with
  | zero => intro R i; rfl
  | succ m ih =>
    intro R i
    rw [RV.clnF]
    split
    · rfl
    · rw [ih]
      show (List.set _ _ _).length = _
      rw [List.length_set]
theorem dirtN_le (l : List Sl) : dirtN l ≤ l.length := List.countP_le_length
/-- Detach. -/
theorem PY.detach (h : PY C V R n) : (V.dtc C).1 = 0 ∧ PY C (V.dtc C).2 (R.dtc C.chunk) (n + R.x.sl.length * (C.chunk + 2)) ∧ (V.dtc C).2.pm = V.pm := by
  have hxe := h.x
  obtain ⟨c1, c2, c3, c4, c5⟩ := PY.clnF V.x.sl.length h 0
  rw [hxe] at c1 c2 c3 c4 c5
  unfold VS.dtc RV.dtc
  rw [hxe, bnd_ok c2]
  have hx1 := c3.x
  have hl := RV.clnF_len C.chunk R.x.sl.length R 0
  have hd := dirtN_le R.x.sl
  generalize VS.clnF C R.x.sl.length V 0 = q at *
  obtain ⟨q1, q2, V1⟩ := q
  dsimp only at *
  obtain ⟨f1, f2, f3⟩ := PY.frF V1.x.sl.length c3 (dirtN_zero (by omega)) 0 (by rw [hx1]; omega)
  rw [bnd_ok f1]
  rw [hx1] at f1 f2 f3 ⊢
  have f2n := f2
  generalize VS.frF C (RV.clnF C.chunk R.x.sl.length R 0).2.x.sl.length V1 0 = g at *
  obtain ⟨g1, V2⟩ := g
  dsimp only at *
  obtain ⟨e1, e2, e3, e4, e5⟩ := fl_out f2.vi.k.hea f2.dn (i := 0) (n := C.n0) rfl
  have lg := flush_log V2.S 0
  have hm : R.x.sl.length * (C.chunk + 2) = R.x.sl.length * (C.chunk + 1) + R.x.sl.length := by rw [show C.chunk + 2 = (C.chunk + 1) + 1 by omega, Nat.mul_add R.x.sl.length (C.chunk + 1) 1, Nat.mul_one]
  refine ⟨e1, ⟨e2, e3.trans f2.fu, f2.vi.shr e4, ?_, f2.ok, f2.len, f2.clo, f2.stk, ?_, ?_, ?_⟩, f3.trans c4⟩
  · rw [← f2.vw]
    unfold view
    dsimp only
    rw [show ((0 : Int)) = ((0 : Nat) : Int) from rfl, e4.now, e4.now, e4.now]
  · have := f2.log
    show (V2.S.flush 0).log.length ≤ _
    omega
  · have := f2.wr
    show (V2.S.flush 0).wr ≤ _
    omega
  · have := f2.clk
    show V2.x.clk ≤ _
    omega
/-- Close. -/
theorem PY.close (h : PY C V R n) : V.flE = 0 ∧ V.flV.S.chkF 2 = 0 ∧ (V.flV.S.flush 2).firstR 2 C.n2 (hdI V.ss.length (C.chunk : Int) V.md false) = 0 ∧ view (V.closV C) = R.clos C.chunk V.md ∧ (V.closV C).x = R.x ∧ (V.closV C).closed = true ∧ NF C (V.closV C).S ∧ (∀ i, i < 3 → Stl (V.closV C).S i) := by
  obtain ⟨f1, h1⟩ := h.flush
  obtain ⟨-, -, -, -, -, -, f7, -⟩ := fls_ou h.vi h.dn
  obtain ⟨e1, e2, e3, e4, e5⟩ := fl_out h1.vi.k.hea h1.dn (i := 2) (n := C.n2) rfl
  have hN : NF C (V.flV.S.flush ((2 : Nat) : Int)) := ⟨e4.hea, e2, e3.trans h1.fu⟩
  have h2 := h.vi.k.n2
  obtain ⟨g1, g2, g3, g4, g5, g6, g7⟩ := hN.first (by omega) (hdI V.ss.length (C.chunk : Int) V.md false)
  refine ⟨f1, e1, g1, ?_, h.x, rfl, g2, ?_⟩
  · have v0 : V.flV.S.now 0 = R.o := congrArg RV.o h1.vw
    have v1 : V.flV.S.now 1 = R.f := congrArg RV.f h1.vw
    have v2 : V.flV.S.now 2 = R.m := congrArg RV.m h1.vw
    unfold view RV.clos VS.closV
    dsimp only
    rw [show V.flV.S.flush 2 = V.flV.S.flush ((2 : Nat) : Int) from rfl, g3, g4, g5, e4.now, e4.now, e4.now, v0, v1, v2, ← h.len]
    rw [h.x]
    exact congrArg (fun q => RV.mk _ _ _ q) h.x
  · intro i hi
    by_cases e : i = 2
    · subst e; exact g6
    · exact (g7 i e).1 ((f7 i hi).shr e4)
end

end Go.Proofs.YtogchafnnkajfaaGreat

namespace Go.Proofs.YtogchafnnkajfaaGreat
set_option linter.unusedVariables false

section
variable {C : VC} {V : VS}
theorem clV_stk (k b : Nat) (x : Sl) : (V.clV C k b x).stuck = V.stuck := by unfold VS.clV; split; rfl; split <;> rfl
theorem bg1_stk (k : Nat) : (V.bg1 C k).stuck = V.stuck := by
  induction k with
  | zero => rfl
  | succ k ih =>
    rw [VS.bg1]
    split
    · exact ih
    · exact ih
theorem bg3_stk (k : Nat) : (V.bg3 C k).stuck = V.stuck := by
  induction k with
  | zero => rfl
  | succ k ih =>
    rw [VS.bg3]
    split
    · exact (clV_stk _ _ _).trans ih
    · exact ih
theorem bgn_stk (mode : Int) : (V.bgn C mode).stuck = V.stuck := by
  have hA : (V.bgA C).stuck = V.stuck := by
    unfold VS.bgA
    split
    · exact bg1_stk _
    · rfl
  show (V.bgB C mode).stuck = V.stuck
  unfold VS.bgB
  split
  · exact (bg3_stk _).trans hA
  · exact hA
end
/-- What Open leaves by the definition. -/
def rvO (o f m : List Nat) (mode : Int) : RV := (RV.mk o f m ⟨slotsU m (opK m), 0, []⟩).bgn (opC m) (opM m) (opO m) mode
theorem opn_view {C : VC} {S : DS} {mode : Int} (h : NF C S) (he : openE (S.now 2) = 0) (hC : C.chunk = opC (S.now 2)) (h1 : ¬ C.n1 < opK (S.now 2) * opC (S.now 2)) (hb : badS (slotsU (S.now 2) (opK (S.now 2))) (C.n0 / opC (S.now 2)) = false) :
    view ((opn0 S mode).bgn C mode) = rvO (S.now 0) (S.now 1) (S.now 2) mode ∧ NF C ((opn0 S mode).bgn C mode).S ∧ ((opn0 S mode).bgn C mode).x.Ok := by
  have hNB := opn_nb (mode := mode) h he hC h1 hb
  obtain ⟨b1, b2, b3, -⟩ := hNB.bgn mode
  obtain ⟨f1, f2, f3, f4⟩ := h.fl (i := 2) (n := C.n2) rfl
  refine ⟨?_, b1, b3⟩
  rw [b2, hC]
  have q0 := f3.now 0
  have q1 := f3.now 1
  have q2 := f3.now 2
  have hv : view (opn0 S mode) = RV.mk (S.now 0) (S.now 1) (S.now 2) ⟨slotsU (S.now 2) (opK (S.now 2)), 0, []⟩ := by
    unfold view opn0
    dsimp only
    rw [show ((2 : Int)) = ((2 : Nat) : Int) from rfl, q0, q1, q2]
  rw [hv]
  rfl
/-- Both sides behind Open. -/
theorem PY.start {C : VC} {S : DS} {ok : Nat → Nat → Prop} {mode : Int} (h : ZR C S ok) (hm : mode = 1 ∨ mode = 2) {n : Nat} (hn : S.log.length + opK (S.now 2) * (C.chunk + 2) + 1 ≤ n) (hw : S.wr + (opK (S.now 2) * (C.chunk + 2) : Nat) + 1 ≤ n) :
    PY C ((opn0 S mode).bgn C mode) (rvO (S.now 0) (S.now 1) (S.now 2) mode) n ∧ ((opn0 S mode).bgn C mode).pm = decide (mode = 2) := by
  obtain ⟨v1, v2, v3, v4, v5, v6, v7, v8, v9, v10, v11⟩ := h.opened hm
  obtain ⟨w1, -, -⟩ := opn_view (mode := mode) h.nf h.op h.hC h.h1 h.hb
  exact ⟨⟨v3.dn, v3.fu, by rw [v6]; exact v1.any, w1, v4, v5, v7, (bgn_stk mode).trans rfl, by omega, by omega, by omega⟩, v6⟩

theorem newW_facts (k chunk : Nat) (hk : 1 ≤ k ∧ k ≤ 1024) (hc : 1 ≤ chunk ∧ chunk ≤ 64) : opK (newW k chunk) = k ∧ opC (newW k chunk) = chunk ∧ opM (newW k chunk) = 0 ∧ opO (newW k chunk) = false ∧ slotsU (newW k chunk) k = List.replicate k nilS := by
  have hl : (List.replicate (k + 1) 0).length = k + 1 := List.length_replicate
  obtain ⟨o1, o2, o3, o4⟩ := open_fmt (List.replicate (k + 1) 0) k (chunk : Int) hk (by omega) (by omega)
  obtain ⟨g1, g2, g3, g4, g5, g6⟩ := hdI_fields k (chunk : Int) 0 false (by omega) (by omega) (by omega)
  refine ⟨by unfold opK newW; rw [o2]; exact g2, by unfold opC newW; rw [o2]; exact Int.ofNat.inj g3, by unfold opM newW; rw [o2]; exact g4, ?_, o3⟩
  unfold opO newW
  rw [o2, g5]
  rfl
/-- A new cache. -/
theorem rv_new (l0 l1 : List Nat) (k chunk : Nat) (mode : Int) (hk : 1 ≤ k ∧ k ≤ 1024) (hc : 1 ≤ chunk ∧ chunk ≤ 64) : rvO l0 l1 (newW k chunk) mode = ⟨l0, l1, (newW k chunk).set 0 (hdI k (chunk : Int) mode true), ⟨List.replicate k nilS, 0, []⟩⟩ := by
  obtain ⟨h1, h2, h3, h4, h5⟩ := newW_facts k chunk hk hc
  unfold rvO
  rw [h1, h2, h3, h4, h5]
  have hA : RV.bgA 0 false ⟨l0, l1, newW k chunk, ⟨List.replicate k nilS, 0, []⟩⟩ = ⟨l0, l1, newW k chunk, ⟨List.replicate k nilS, 0, []⟩⟩ := if_neg (by decide)
  have h3' : ∀ j, RV.bg3 chunk ⟨l0, l1, newW k chunk, ⟨List.replicate k nilS, 0, []⟩⟩ j = ⟨l0, l1, newW k chunk, ⟨List.replicate k nilS, 0, []⟩⟩ := by
    intro j
    induction j with
    | zero => rfl
    | succ j ih =>
      rw [RV.bg3, ih]
      refine if_neg ?_
      have : (CS.at_ ⟨List.replicate k nilS, 0, []⟩ j) = nilS := by
        unfold CS.at_
        dsimp only
        rw [List.getElem?_replicate]
        split <;> rfl
      rw [this]
      decide
  have hB : RV.bgB chunk 0 false mode ⟨l0, l1, newW k chunk, ⟨List.replicate k nilS, 0, []⟩⟩ = ⟨l0, l1, newW k chunk, ⟨List.replicate k nilS, 0, []⟩⟩ := by
    unfold RV.bgB
    rw [hA]
    split
    · exact h3' _
    · rfl
  unfold RV.bgn
  rw [hB]
  dsimp only
  rw [List.length_replicate]
/-- New disks, ahead of Open. -/
theorem zr_new (C : VC) (l0 l1 : List Nat) (k : Nat) (hk : 1 ≤ k ∧ k ≤ 1024) (hc : 1 ≤ C.chunk ∧ C.chunk ≤ 64) (h0 : l0.length = C.n0) (h1 : l1.length = C.n1) (h2 : C.n2 = k + 1) (hf : k * C.chunk ≤ C.n1) : ZR C (DS.full [l0, l1, newW k C.chunk]) (okT (l0.map Sec.start)) := by
  obtain ⟨p1, p2⟩ := full3 C l0 l1 (newW k C.chunk) h0 h1 (by rw [newW_length]; exact h2.symm)
  exact ZR.fmt p1 p2 (List.replicate (k + 1) 0) k hk hc rfl List.length_replicate h2 hf

section
variable (o f m : List Nat)
def ax1 : CS := ⟨[nilS], 0, []⟩
def ax2 : CS := ⟨[nilS], 0, [0]⟩
def ax3 : CS := ⟨[⟨true, false, 0, 1⟩], 1, []⟩
def ax4 : CS := ⟨[⟨true, true, 0, 2⟩], 2, []⟩
def ax5 : CS := ⟨[⟨true, true, 0, 3⟩], 3, []⟩
theorem aw1 (ho : o.length = 8) : RV.read 4 ⟨o, f, m, ax1⟩ 1 = (o[1]?.getD 0, ⟨o, f, m, ax2⟩) := by
  have hs : RV.slot 4 ⟨o, f, m, ax1⟩ 1 = (-1, ⟨o, f, m, ax2⟩) := by
    unfold RV.slot
    dsimp only
    rw [ho, if_neg (by decide), if_neg (by decide), if_pos (by decide)]
    rfl
  unfold RV.read
  rw [hs]
  rfl
theorem aw2 (ho : o.length = 8) : ∃ m', RV.read 4 ⟨o, f, m, ax2⟩ 2 = ((cpL f 0 o 0 4)[2]?.getD 0, ⟨o, cpL f 0 o 0 4, m', ax3⟩) := by
  have hs : RV.slot 4 ⟨o, f, m, ax2⟩ 2 = (0, ⟨o, cpL f 0 o 0 4, m.set 1 (dwd 0 false), ax3⟩) := by
    unfold RV.slot
    dsimp only
    rw [ho, if_neg (by decide), if_neg (by decide), if_neg (by decide)]
    rfl
  unfold RV.read
  rw [hs]
  exact ⟨_, rfl⟩
theorem aw3 (ho : o.length = 8) (v : Nat) : ∃ m', RV.write 4 true ⟨o, f, m, ax3⟩ 1 v = ⟨o, f.set 1 v, m', ax4⟩ := by
  have hs : RV.slot 4 ⟨o, f, m, ax3⟩ 1 = (0, ⟨o, f, m, ⟨[⟨true, false, 0, 2⟩], 2, []⟩⟩) := by
    unfold RV.slot
    dsimp only
    rw [ho, if_neg (by decide), if_pos (by decide)]
    rfl
  unfold RV.write RV.wr
  rw [hs]
  exact ⟨_, rfl⟩
theorem aw4 (ho : o.length = 8) : RV.read 4 ⟨o, f, m, ax4⟩ 1 = (f[1]?.getD 0, ⟨o, f, m, ax5⟩) := by
  have hs : RV.slot 4 ⟨o, f, m, ax4⟩ 1 = (0, ⟨o, f, m, ax5⟩) := by
    unfold RV.slot
    dsimp only
    rw [ho, if_neg (by decide), if_pos (by decide)]
    rfl
  unfold RV.read
  rw [hs]
  rfl
theorem aw5 : ∃ m', RV.clnF 4 5 ⟨o, f, m, ax5⟩ 0 = (1, ⟨cpL o 0 f 0 4, f, m', ⟨[⟨true, false, 0, 3⟩], 3, []⟩⟩) := by
  refine ⟨m.set 1 (dwd 0 false), ?_⟩
  rw [RV.clnF, if_neg (show ¬ ax5.oldest < 0 by decide)]
  rw [RV.clnF]
  refine (if_pos ?_).trans ?_
  · show (ax5.setD 0 false).oldest < 0
    decide
  · rfl
end

end Go.Proofs.YtogchafnnkajfaaGreat

namespace Go.Proofs.YtogchafnnkajfaaGreat
set_option linter.unusedVariables false
open Go.RowKit

/-- Sizes of both sides. -/
structure PK (C : VC) (K : RC) : Prop where
  ch : K.chunk = C.chunk
  e0 : K.n0 = C.n0
  e1 : K.n1 = C.n1
  e2 : K.n2 = C.n2
  c1 : 1 ≤ C.chunk ∧ C.chunk ≤ 64
  b0 : 1 ≤ C.n0 ∧ C.n0 ≤ 60000
  b1 : 1 ≤ C.n1 ∧ C.n1 ≤ 60000
  b2 : 1 ≤ C.n2 ∧ C.n2 ≤ 60000
  md : K.mode = 1 ∨ K.mode = 2

section
variable {lo : Nat} {W W' : World} {Fv Fq Fv' Fq' G : Nat → Prop} {pb bL cL : Nat} {C : VC} {V V' : VS} {K : RC} {clo clo' : Bool} {Q Q' : RV}
theorem P33.fr (h : P33 lo W Fv Fq pb bL cL C V K clo Q) (hf : Fr G W W') (hn : ∀ j, (Fv j ∨ Fq j ∨ j = pb ∨ j = bL) → ¬ G j) : P33 lo W' Fv Fq pb bL cL C V K clo Q :=
  ⟨h.vol.fr hf (fun j hj => hn j (.inl hj)), h.rv.fr hf (fun j hj => hn j (.inr (.inl hj))), h.pair.fr hf (hn _ (.inr (.inr (.inl rfl)))), own_fr h.spans hf (fun b hb => by simp [Value.ownBlock] at hb; exact hn _ (.inr (.inr (.inr hb.symm)))), h.dj, h.ap, h.lo_, h.lof⟩
theorem P33.keep (h : P33 lo W Fv Fq pb bL cL C V K clo Q) (hb : Below W.heap.size W W') : P33 lo W' Fv Fq pb bL cL C V K clo Q := h.fr (G := fun _ => False) (Fr.of_below hb) (fun _ _ h => h)
theorem P33.lt (h : P33 lo W Fv Fq pb bL cL C V K clo Q) : pb < W.heap.size ∧ bL < W.heap.size ∧ lo ≤ W.heap.size := by
  have h1 := h.pair.lt
  have h2 := own_lt h.spans _ rfl
  have h3 := h.lo_
  exact ⟨h1, h2, by omega⟩
theorem P33.tight (h : P33 lo W Fv Fq pb bL cL C V K clo Q) : P33 lo W (fun j => Fv j ∧ j < W.heap.size) (fun j => Fq j ∧ j < W.heap.size) pb bL cL C V K clo Q :=
  ⟨h.vol.tight, h.rv.tight, h.pair, h.spans, fun j hj hk => h.dj j hj.1 hk.1, ⟨fun e => h.ap.1 e.1, fun e => h.ap.2.1 e.1, fun e => h.ap.2.2.1 e.1, fun e => h.ap.2.2.2 e.1⟩, h.lo_, fun j hj => h.lof j (hj.elim (fun e => .inl e.1) (fun e => .inr e.1))⟩
theorem P33.vd (h : P33 lo W Fv Fq pb bL cL C V K clo Q) (hv : VolAt W' Fv' C V') (ht : Turn Fv Fv' W W') : P33 lo W' Fv' (fun j => Fq j ∧ j < W.heap.size) pb bL cL C V' K clo Q := by
  have hl := h.lt
  refine ⟨hv, h.rv.tight.fr ht.1 (fun j hj e => h.dj j e hj.1), h.pair.fr ht.1 h.ap.1, own_fr h.spans ht.1 (fun b hb => by simp [Value.ownBlock] at hb; rw [← hb]; exact h.ap.2.2.1), fun j hj hk => ?_, ⟨fun e => ?_, fun e => h.ap.2.1 e.1, fun e => ?_, fun e => h.ap.2.2.2 e.1⟩, h.lo_, fun j hj => ?_⟩
  · rcases ht.2 j hj with e | e
    · exact h.dj j e hk.1
    · have := hk.2; omega
  · rcases ht.2 _ e with e | e
    · exact h.ap.1 e
    · omega
  · rcases ht.2 _ e with e | e
    · exact h.ap.2.2.1 e
    · omega
  · rcases hj with hj | hj
    · rcases ht.2 _ hj with e | e
      · exact h.lof j (.inl e)
      · omega
    · exact h.lof j (.inr hj.1)
theorem P33.cells (h : P33 lo W Fv Fq pb bL cL C V K clo Q) : W.cell? ⟨pb, 0, none⟩ = some (.pointer (some ⟨C.g, 0, none⟩)) ∧ W.cell? ⟨pb, 1, none⟩ = some (.slice (some ⟨bL, 0, none⟩) 3 cL) ∧ W.cell? ⟨pb, 2, none⟩ = some (.pointer (some ⟨C.v, 0, none⟩)) ∧ W.cell? ⟨pb, 3, none⟩ = some (.pointer (some ⟨K.r, 0, none⟩)) ∧
    W.cell? ⟨bL, 0, none⟩ = some (.iface 176 (.pointer (some ⟨C.s0, 0, none⟩))) ∧ W.cell? ⟨bL, 1, none⟩ = some (.iface 176 (.pointer (some ⟨C.s1, 0, none⟩))) ∧ W.cell? ⟨bL, 2, none⟩ = some (.iface 176 (.pointer (some ⟨C.s2, 0, none⟩))) :=
  ⟨h.pair.cell 0, h.pair.cell 1, h.pair.cell 2, h.pair.cell 3, (h.spans.cellAt 0 (by omega)).trans rfl, (h.spans.cellAt 1 (by omega)).trans rfl, (h.spans.cellAt 2 (by omega)).trans rfl⟩
end

/-- What is left alone. -/
structure PFr (lo : Nat) (X : Nat → Prop) (W W' : World) : Prop where
  fr : Fr (fun j => ¬ X j) W W'
  bel : Below lo W W'
theorem PFr.cell {lo : Nat} {X : Nat → Prop} {W W' : World} (h : PFr lo X W W') {b i : Nat} (hx : X b) (hl : b < W.heap.size) : W'.cell? ⟨b, i, none⟩ = W.cell? ⟨b, i, none⟩ := h.fr.cell hl (fun e => e hx)
/-- Both sides, while requests go on: what the program has is R, what the definition has is Q. -/
structure PI (lo : Nat) (W0 W : World) (X Fv Fq : Nat → Prop) (pb bL cL : Nat) (C : VC) (V : VS) (K : RC) (R Q : RV) (n : Nat) : Prop where
  p : P33 lo W Fv Fq pb bL cL C V K false Q
  y : PY C V R n
  pm : V.pm = decide (K.mode = 2)
  md : V.md = K.mode
  bel : Below W0.heap.size W0 W
  low : W0.heap.size ≤ lo
  out : ∀ j, X j → ¬ Fv j ∧ ¬ Fq j ∧ j < W.heap.size
def PP (lo : Nat) (W0 W : World) (X : Nat → Prop) (pb bL cL : Nat) (C : VC) (K : RC) (R Q : RV) (n : Nat) : Prop := ∃ Fv Fq V, PI lo W0 W X Fv Fq pb bL cL C V K R Q n

section
variable {lo : Nat} {W0 W W' : World} {X : Nat → Prop} {pb bL cL : Nat} {C : VC} {K : RC} {R Q : RV} {n : Nat}
theorem PP.cells (h : PP lo W0 W X pb bL cL C K R Q n) : W.cell? ⟨pb, 0, none⟩ = some (.pointer (some ⟨C.g, 0, none⟩)) ∧ W.cell? ⟨pb, 1, none⟩ = some (.slice (some ⟨bL, 0, none⟩) 3 cL) ∧ W.cell? ⟨pb, 2, none⟩ = some (.pointer (some ⟨C.v, 0, none⟩)) ∧ W.cell? ⟨pb, 3, none⟩ = some (.pointer (some ⟨K.r, 0, none⟩)) ∧
    W.cell? ⟨bL, 0, none⟩ = some (.iface 176 (.pointer (some ⟨C.s0, 0, none⟩))) ∧ W.cell? ⟨bL, 1, none⟩ = some (.iface 176 (.pointer (some ⟨C.s1, 0, none⟩))) ∧ W.cell? ⟨bL, 2, none⟩ = some (.iface 176 (.pointer (some ⟨C.s2, 0, none⟩))) := by
  obtain ⟨Fv, Fq, V, h⟩ := h
  exact h.p.cells
theorem PP.keep (h : PP lo W0 W X pb bL cL C K R Q n) (hb : Below W.heap.size W W') : PP lo W0 W' X pb bL cL C K R Q n := by
  obtain ⟨Fv, Fq, V, h⟩ := h
  exact ⟨Fv, Fq, V, h.p.keep hb, h.y, h.pm, h.md, h.bel.trans (hb.mono h.bel.size), h.low, fun j hj => ⟨(h.out j hj).1, (h.out j hj).2.1, Nat.lt_of_lt_of_le (h.out j hj).2.2 hb.size⟩⟩
theorem PI.vd {Fv Fq Fv' : Nat → Prop} {V V' : VS} {R' : RV} {m : Nat} (h : PI lo W0 W X Fv Fq pb bL cL C V K R Q n) (hv : VolAt W' Fv' C V') (ht : Turn Fv Fv' W W') (hy : PY C V' R' m) (hp : V'.pm = V.pm) (hm : V'.md = V.md) : PP lo W0 W' X pb bL cL C K R' Q m ∧ PFr lo X W W' := by
  have hl := h.p.lt
  have h0 := h.low
  refine ⟨⟨_, _, V', h.p.vd hv ht, hy, hp.trans h.pm, hm.trans h.md, h.bel.trans (ht.1.below (by omega) (fun j hj => Nat.le_trans h.low (h.p.lof j (.inl hj)))), h.low, fun j hj => ⟨?_, fun e => (h.out j hj).2.1 e.1, Nat.lt_of_lt_of_le (h.out j hj).2.2 ht.1.size⟩⟩, ⟨ht.1.mono (fun j _ hj hx => (h.out j hx).1 hj), ht.1.below hl.2.2 (fun j hj => h.p.lof j (.inl hj))⟩⟩
  exact ht.out (h.out j hj).2.2 (h.out j hj).1
/-- More is left alone. -/
theorem PP.more (h : PP lo W0 W X pb bL cL C K R Q n) (hb : Below W.heap.size W W') {Y : Nat → Prop} (hY : ∀ j, Y j → X j ∨ (W.heap.size ≤ j ∧ j < W'.heap.size)) : PP lo W0 W' Y pb bL cL C K R Q n := by
  obtain ⟨Fv, Fq, V, h⟩ := h
  refine ⟨_, _, V, h.p.tight.keep hb, h.y, h.pm, h.md, h.bel.trans (hb.mono h.bel.size), h.low, fun j hj => ?_⟩
  rcases hY j hj with e | ⟨e1, e2⟩
  · exact ⟨fun q => (h.out j e).1 q.1, fun q => (h.out j e).2.1 q.1, Nat.lt_of_lt_of_le (h.out j e).2.2 hb.size⟩
  · exact ⟨fun q => by have := q.2; omega, fun q => by have := q.2; omega, e2⟩
/-- Read. -/
theorem PP.vread (h : PP lo W0 W X pb bL cL C K R Q n) (hk : PK C K) {a : Nat} (ha : a < C.n0) (hn : n ≤ 100000) :
    Calls Tryz.prog 22 #[.pointer (some ⟨C.v, 0, none⟩), .int .i64 (a : Int)] W fun e W' => e = .returned (.tuple #[.int .u64 ((R.read C.chunk a).1 : Int), .int .i64 0]) ∧ (R.read C.chunk a).1 < 18446744073709551616 ∧ PP lo W0 W' X pb bL cL C K (R.read C.chunk a).2 Q (n + 2 * C.chunk + 2) ∧ PFr lo X W W' := by
  obtain ⟨Fv, Fq, V, h⟩ := h
  have h1 := h.y.log
  have h2 := h.y.wr
  have h3 := h.y.clk
  have hc := hk.c1
  have hb0 := hk.b0
  have hb1 := hk.b1
  have hb2 := hk.b2
  obtain ⟨r1, r2, r3⟩ := h.y.read ha (by omega) (by omega)
  have hbd := Bd.slt (C := C) h.y.ok h.y.len ha (by omega) (by omega)
  refine (vread_any W Fv C V a h.p.vol h.y.ok h.y.len h.y.clo ha (by omega) (by omega) (by omega) (by omega) (by omega) (by omega) (by omega) (by omega)).mono ?_
  rintro e W' ⟨rfl, hlt, Fv', hv, ht⟩
  rw [r1, r2]
  rw [r2] at hlt
  exact ⟨rfl, hlt, h.vd hv ht r3 hbd.pm hbd.md⟩
/-- Write. -/
theorem PP.vwrite (h : PP lo W0 W X pb bL cL C K R Q n) (hk : PK C K) {a v : Nat} (ha : a < C.n0) (hv : v < 18446744073709551616) (hn : n ≤ 100000) :
    Calls Tryz.prog 31 #[.pointer (some ⟨C.v, 0, none⟩), .int .i64 (a : Int), .int .u64 (v : Int)] W fun e W' => e = .returned (.int .i64 0) ∧ PP lo W0 W' X pb bL cL C K (R.write C.chunk (decide (K.mode = 2)) a v) Q (n + 2 * C.chunk + 5) ∧ PFr lo X W W' := by
  obtain ⟨Fv, Fq, V, h⟩ := h
  have h1 := h.y.log
  have h2 := h.y.wr
  have h3 := h.y.clk
  have hc := hk.c1
  have hb0 := hk.b0
  have hb1 := hk.b1
  have hb2 := hk.b2
  obtain ⟨r1, r2, r3⟩ := h.y.write (v := v) ha (by omega) (by omega)
  have hbd := Bd.wrt (C := C) (v := v) h.y.ok h.y.len (by omega) ha (by omega)
  refine (vwrite_any W Fv C V a v h.p.vol h.y.ok h.y.len h.y.clo ha hv (by omega) (by omega) (by omega) (by omega) (by omega) (by omega) (by omega) (by omega)).mono ?_
  rintro e W' ⟨rfl, Fv', hv, ht⟩
  rw [r1]
  rw [h.pm] at r2
  exact ⟨rfl, h.vd hv ht r2 r3 hbd.md⟩
theorem PP.vsize (h : PP lo W0 W X pb bL cL C K R Q n) :
    Calls Tryz.prog 46 #[.pointer (some ⟨C.v, 0, none⟩)] W fun e W' => e = .returned (.int .i64 (C.n0 : Int)) ∧ W = W' := by
  obtain ⟨Fv, Fq, V, h⟩ := h
  exact vsize_any W Fv C V h.p.vol
/-- Flush. -/
theorem PP.vflush (h : PP lo W0 W X pb bL cL C K R Q n) (hn : n ≤ 100000) :
    Calls Tryz.prog 34 #[.pointer (some ⟨C.v, 0, none⟩)] W fun e W' => e = .returned (.int .i64 0) ∧ PP lo W0 W' X pb bL cL C K R Q n ∧ PFr lo X W W' := by
  obtain ⟨Fv, Fq, V, h⟩ := h
  have h1 := h.y.log
  obtain ⟨r1, r2⟩ := h.y.flush
  refine (vflush_any W Fv C V h.p.vol h.y.clo (by omega)).mono ?_
  rintro e W' ⟨rfl, Fv', hv, ht⟩
  rw [r1]
  exact ⟨rfl, h.vd hv ht r2 rfl rfl⟩
/-- Clean. -/
theorem PP.vclean (h : PP lo W0 W X pb bL cL C K R Q n) (hk : PK C K) (m : Nat) (hm : m ≤ 1024) (hn : n ≤ 100000) :
    Calls Tryz.prog 47 #[.pointer (some ⟨C.v, 0, none⟩), .int .i64 (m : Int)] W fun e W' => e = .returned (.tuple #[.int .i64 (R.clnF C.chunk m 0).1, .int .i64 0]) ∧ PP lo W0 W' X pb bL cL C K (R.clnF C.chunk m 0).2 Q (n + m * (C.chunk + 1)) ∧ PFr lo X W W' := by
  obtain ⟨Fv, Fq, V, h⟩ := h
  have h1 := h.y.log
  have h2 := h.y.wr
  have hc := hk.c1
  have hb0 := hk.b0
  have hb1 := hk.b1
  have hb2 := hk.b2
  have hmm : m * (C.chunk + 1) ≤ 1024 * 65 := Nat.mul_le_mul hm (by omega)
  obtain ⟨r1, r2, r3, r4, -⟩ := PY.clnF m h.y 0
  have hbd := (Bd.refl h.y.ok h.y.len).cln (C := C) m 0
  refine (vcleann_any W Fv C V m h.p.vol h.y.ok h.y.len h.y.clo hm (by omega) (by omega) (by omega) (by omega) (by omega) (by omega)).mono ?_
  rintro e W' ⟨rfl, Fv', hv, ht⟩
  rw [r1, r2]
  exact ⟨rfl, h.vd hv ht r3 r4 hbd.md⟩
theorem frF_md (C : VC) (m : Nat) : ∀ (V : VS) (k : Nat), (VS.frF C m V k).2.md = V.md := by
  induction m with
  | zero => intro V k; rfl
  | succ m ih =>
    intro V k
    have hf : (V.freeV C k).md = V.md := by unfold VS.freeV; split <;> rfl
    rw [VS.frF]
    split
    · split
      · exact hf
      · exact (ih _ _).trans hf
    · exact ih _ _
/-- Detach. -/
theorem PP.vdetach (h : PP lo W0 W X pb bL cL C K R Q n) (hk : PK C K) (hn : n ≤ 100000) :
    Calls Tryz.prog 25 #[.pointer (some ⟨C.v, 0, none⟩)] W fun e W' => e = .returned (.int .i64 0) ∧ PP lo W0 W' X pb bL cL C K (R.dtc C.chunk) Q (n + R.x.sl.length * (C.chunk + 2)) ∧ PFr lo X W W' := by
  obtain ⟨Fv, Fq, V, h⟩ := h
  have h1 := h.y.log
  have h2 := h.y.wr
  have hc := hk.c1
  have hb0 := hk.b0
  have hb1 := hk.b1
  have hb2 := hk.b2
  have hxe := h.y.x
  have hl := h.y.ok.len
  have hmm : V.x.sl.length * (C.chunk + 2) ≤ 1024 * 66 := Nat.mul_le_mul (by omega) (by omega)
  obtain ⟨r1, r2, r3⟩ := h.y.detach
  refine (vdetach_any W Fv C V h.p.vol h.y.ok h.y.len h.y.clo V.x.sl.length rfl (by omega) (by omega) (by omega) (by omega) (by omega) (by omega)).mono ?_
  rintro e W' ⟨rfl, Fv', hv, ht⟩
  rw [r1]
  refine ⟨rfl, h.vd hv ht r2 r3 ?_⟩
  have hbd := (Bd.refl h.y.ok h.y.len).cln (C := C) V.x.sl.length 0
  unfold VS.dtc bnd
  dsimp only
  split
  · split
    · exact (frF_md C _ _ _).trans hbd.md
    · exact (frF_md C _ _ _).trans hbd.md
  · exact hbd.md
/-- State. -/
theorem PP.vstate (h : PP lo W0 W X pb bL cL C K R Q n) :
    Calls Tryz.prog 26 #[.pointer (some ⟨C.v, 0, none⟩)] W (StP W R.x) := by
  obtain ⟨Fv, Fq, V, h⟩ := h
  have hl := h.y.ok.len
  have hm := h.y.ok.msl
  have := vstate_any W Fv C V h.p.vol (by omega) (by omega)
  rw [h.y.x] at this
  exact this
theorem flush_mem {S : DS} {d : Int} (h : S.chkF d = 0) {r : Nat × Nat × Nat} (hr : r ∈ (S.flush d).log) : r ∈ S.log ∧ r.1 ≠ d.toNat := by
  unfold DS.flush at hr
  rw [if_neg (fun e => e h)] at hr
  have := List.mem_filter.1 hr
  exact ⟨this.1, by simpa using this.2⟩
theorem swrite_mem {S : DS} {i n : Nat} {a : Int} {v : Nat} {r : Nat × Nat × Nat} (hr : r ∈ (S.swrite i n a v).log) : r ∈ S.log ∨ r.1 = i := by
  unfold DS.swrite at hr
  split at hr
  · unfold DS.write at hr
    split at hr
    · exact .inl hr
    · split at hr
      · exact .inl hr
      · unfold DS.wput DS.burnt at hr
        dsimp only at hr
        rcases List.mem_append.1 hr with hr | hr
        · exact .inl hr
        · rw [List.mem_singleton] at hr
          rw [hr]
          exact .inr (Int.toNat_natCast i)
  · exact .inl hr
/-- All is written behind Close. -/
theorem PY.closLog {C : VC} {V : VS} {R : RV} {n : Nat} (h : PY C V R n) (hl : ∀ r ∈ V.S.log, r.1 < 3) : (V.closV C).S.log = [] := by
  obtain ⟨a1, a2, a3, a4, a5⟩ := fl_out h.vi.k.hea h.dn (i := 1) (n := C.n1) rfl
  obtain ⟨b1, b2, b3, b4, b5⟩ := fl_out a4.hea a2 (i := 2) (n := C.n2) rfl
  obtain ⟨c1, c2, c3, c4, c5⟩ := fl_out b4.hea b2 (i := 0) (n := C.n0) rfl
  obtain ⟨d1, d2, d3, d4, d5⟩ := fl_out c4.hea c2 (i := 2) (n := C.n2) rfl
  have h2 := h.vi.k.n2
  obtain ⟨r1, r2, r3, -⟩ := h.close
  have hN : NF C (V.flV.S.flush ((2 : Nat) : Int)) := ⟨d4.hea, d2, d3.trans (c3.trans (b3.trans (a3.trans h.fu)))⟩
  obtain ⟨w1, w2, w3⟩ := hN.wr (i := 2) (n := C.n2) rfl 0 (hdI V.ss.length (C.chunk : Int) V.md false) (by omega)
  obtain ⟨f1, -⟩ := w2.fl (i := 2) (n := C.n2) rfl
  have e0 : (V.flV.S.flush 2).swE 2 C.n2 0 = 0 := w1
  refine List.eq_nil_iff_forall_not_mem.2 (fun r hr => ?_)
  have hr1 : r ∈ ((V.flV.S.flush 2).first 2 C.n2 (hdI V.ss.length (C.chunk : Int) V.md false)).log := hr
  unfold DS.first at hr1
  rw [if_neg (fun e => e e0)] at hr1
  obtain ⟨hr2, hn2⟩ := flush_mem (S := (V.flV.S.flush 2).swrite 2 C.n2 0 (hdI V.ss.length (C.chunk : Int) V.md false)) (d := ((2 : Nat) : Int)) f1 hr1
  rcases swrite_mem hr2 with hr3 | hr3
  · obtain ⟨hr4, -⟩ := flush_mem (S := V.flV.S) (d := ((2 : Nat) : Int)) d1 hr3
    obtain ⟨hr5, k0⟩ := flush_mem (S := (V.S.flush 1).flush 2) (d := ((0 : Nat) : Int)) c1 hr4
    obtain ⟨hr6, k2⟩ := flush_mem (S := V.S.flush 1) (d := ((2 : Nat) : Int)) b1 hr5
    obtain ⟨hr7, k1⟩ := flush_mem (S := V.S) (d := ((1 : Nat) : Int)) a1 hr6
    have := hl r hr7
    simp at k0 k1 k2
    omega
  · simp at hn2
    exact hn2 hr3
/-- Behind Close. -/
structure PC (lo : Nat) (W0 W : World) (X Fv Fq : Nat → Prop) (pb bL cL : Nat) (C : VC) (V : VS) (K : RC) (clo : Bool) (R Q : RV) : Prop where
  p : P33 lo W Fv Fq pb bL cL C V K clo Q
  cl : V.closed = true
  vw : view V = R
  ok : V.x.Ok
  nf : NF C V.S
  st : ∀ i, i < 3 → Stl V.S i
  lg : V.S.log = []
  bel : Below W0.heap.size W0 W
  low : W0.heap.size ≤ lo
  out : ∀ j, X j → ¬ Fv j ∧ ¬ Fq j ∧ j < W.heap.size
def PE (lo : Nat) (W0 W : World) (X : Nat → Prop) (pb bL cL : Nat) (C : VC) (K : RC) (clo : Bool) (R Q : RV) : Prop := ∃ Fv Fq V, PC lo W0 W X Fv Fq pb bL cL C V K clo R Q
theorem PP.vclose (h : PP lo W0 W X pb bL cL C K R Q n) (hk : PK C K) (hn : n ≤ 100000) :
    Calls Tryz.prog 23 #[.pointer (some ⟨C.v, 0, none⟩)] W fun e W' => e = .returned (.int .i64 0) ∧ PE lo W0 W' X pb bL cL C K false (R.clos C.chunk K.mode) Q ∧ PFr lo X W W' := by
  obtain ⟨Fv, Fq, V, h⟩ := h
  have h1 := h.y.log
  have h2 := h.y.wr
  have hc := hk.c1
  have hb2 := hk.b2
  have hl := h.y.ok.len
  have hl2 := h.y.len
  obtain ⟨r1, r2, r3, r4, r5, r6, r7, r8⟩ := h.y.close
  refine (vclose_any W Fv C V h.p.vol h.y.clo h.y.stk r1 r2 r3 (by omega) (by omega) (by omega) (by omega) (by omega)).mono ?_
  rintro e W' ⟨rfl, Fv', hv, ht⟩
  have hl3 := h.p.lt
  have h0 := h.low
  have hlg : (V.closV C).S.log = [] := by
    refine h.y.closLog (fun r hr => ?_)
    obtain ⟨Fc, A, c, B, d, hvv⟩ := h.p.vol
    obtain ⟨F, A', c', hca⟩ := hvv.cache
    have := (hca.dsk.1.log r hr).1
    have hd := h.y.vi.k.hea.nd
    simp at hd
    omega
  rw [h.md] at r4
  refine ⟨rfl, ⟨_, _, _, h.p.vd hv ht, r6, r4, by rw [r5, ← h.y.x]; exact h.y.ok, r7, r8, hlg, h.bel.trans (ht.1.below (by omega) (fun j hj => Nat.le_trans h.low (h.p.lof j (.inl hj)))), h.low, fun j hj => ⟨ht.out (h.out j hj).2.2 (h.out j hj).1, fun e => (h.out j hj).2.1 e.1, Nat.lt_of_lt_of_le (h.out j hj).2.2 ht.1.size⟩⟩, ⟨ht.1.mono (fun j _ hj hx => (h.out j hx).1 hj), ht.1.below hl3.2.2 (fun j hj => h.p.lof j (.inl hj))⟩⟩
section
variable {clo : Bool}
theorem PE.cells (h : PE lo W0 W X pb bL cL C K clo R Q) : W.cell? ⟨pb, 0, none⟩ = some (.pointer (some ⟨C.g, 0, none⟩)) ∧ W.cell? ⟨pb, 1, none⟩ = some (.slice (some ⟨bL, 0, none⟩) 3 cL) ∧ W.cell? ⟨pb, 2, none⟩ = some (.pointer (some ⟨C.v, 0, none⟩)) ∧ W.cell? ⟨pb, 3, none⟩ = some (.pointer (some ⟨K.r, 0, none⟩)) ∧
    W.cell? ⟨bL, 0, none⟩ = some (.iface 176 (.pointer (some ⟨C.s0, 0, none⟩))) ∧ W.cell? ⟨bL, 1, none⟩ = some (.iface 176 (.pointer (some ⟨C.s1, 0, none⟩))) ∧ W.cell? ⟨bL, 2, none⟩ = some (.iface 176 (.pointer (some ⟨C.s2, 0, none⟩))) := by
  obtain ⟨Fv, Fq, V, h⟩ := h
  exact h.p.cells
theorem PE.bel (h : PE lo W0 W X pb bL cL C K clo R Q) : Below W0.heap.size W0 W := by
  obtain ⟨Fv, Fq, V, h⟩ := h
  exact h.bel
theorem PE.vflush (h : PE lo W0 W X pb bL cL C K clo R Q) : Calls Tryz.prog 34 #[.pointer (some ⟨C.v, 0, none⟩)] W fun e W' => e = .returned (.int .i64 20) ∧ W = W' := by
  obtain ⟨Fv, Fq, V, h⟩ := h
  exact vflush_closed W Fv C V h.p.vol h.cl
end
/-- The disks. -/
theorem PP.dsk (h : PP lo W0 W X pb bL cL C K R Q n) : ∃ F S, DskAt W F C.g S ∧ SpanAt W C.s0 C.g 0 C.n0 ∧ NF C S ∧ S.now 0 = R.o ∧ S.now 1 = R.f ∧ S.now 2 = R.m ∧ S.log.length ≤ n := by
  obtain ⟨Fv, Fq, V, h⟩ := h
  obtain ⟨Fc, A, c, B, d, hv⟩ := h.p.vol
  obtain ⟨F, A', c', hca⟩ := hv.cache
  have hvw := h.y.vw
  refine ⟨F, V.S, hca.dsk, hv.sp0, ⟨h.y.vi.k.hea, h.y.dn, h.y.fu⟩, ?_, ?_, ?_, h.y.log⟩ <;> rw [← hvw] <;> rfl
end

/-- What Open finds of a new cache. -/
def rvN (l0 l1 : List Nat) (k ch : Nat) (mode : Int) : RV := ⟨l0, l1, (newW k ch).set 0 (hdI k (ch : Int) mode true), ⟨List.replicate k nilS, 0, []⟩⟩
theorem op_new (l0 l1 : List Nat) (k ch n0 n1 : Nat) (mode : Int) (hk : 1 ≤ k ∧ k ≤ 4) (hc : 1 ≤ ch ∧ ch ≤ 4) (hm : mode = 1 ∨ mode = 2) (h0 : l0.length = n0) (h1 : l1.length = n1) (hf : k * ch ≤ n1) : opnE (newW k ch) n0 n1 mode = 0 :=
  ((zr_new ⟨0, 0, 0, 0, 0, 0, n0, n1, k + 1, ch⟩ l0 l1 k (by omega) (by show 1 ≤ ch ∧ ch ≤ 64; omega) h0 h1 rfl hf).opened hm).2.2.2.2.2.2.2.2.2.2
theorem pp_new {lo : Nat} {W0 W : World} {Fv Fq : Nat → Prop} {pb bL cL g s0 s1 s2 m v r bo co bf cf bm cm n0 n1 n2 k ch : Nat} {l0 l1 : List Nat} {mode : Int} (hk : 1 ≤ k ∧ k ≤ 4) (hc : 1 ≤ ch ∧ ch ≤ 4) (hm : mode = 1 ∨ mode = 2) (h0 : l0.length = n0) (h1 : l1.length = n1) (h2 : n2 = k + 1) (hf : k * ch ≤ n1) (hn0 : 1 ≤ n0 ∧ n0 ≤ 60000) (hn1 : 1 ≤ n1 ∧ n1 ≤ 60000)
    (hp : P33 lo W Fv Fq pb bL cL ⟨g, s0, s1, s2, m, v, n0, n1, n2, opC (newW k ch)⟩ ((opn0 (DS.full [l0, l1, newW k ch]) mode).bgn ⟨g, s0, s1, s2, m, v, n0, n1, n2, opC (newW k ch)⟩ mode) (rvK r bo co bf cf bm cm n0 n1 n2 (newW k ch) mode) false ((rv0 l0 l1 (newW k ch)).bgn (opC (newW k ch)) (opM (newW k ch)) (opO (newW k ch)) mode)) (hb : Below W0.heap.size W0 W) (hl : W0.heap.size ≤ lo) :
    PP lo W0 W (fun _ => False) pb bL cL ⟨g, s0, s1, s2, m, v, n0, n1, n2, ch⟩ (rvK r bo co bf cf bm cm n0 n1 n2 (newW k ch) mode) (rvN l0 l1 k ch mode) (rvN l0 l1 k ch mode) 30 ∧ PK ⟨g, s0, s1, s2, m, v, n0, n1, n2, ch⟩ (rvK r bo co bf cf bm cm n0 n1 n2 (newW k ch) mode) := by
  obtain ⟨f1, f2, f3, f4, f5⟩ := newW_facts k ch (by omega) (by omega)
  have hrn := rv_new l0 l1 k ch mode (by omega) (by omega)
  have hz := zr_new ⟨g, s0, s1, s2, m, v, n0, n1, n2, ch⟩ l0 l1 k (by omega) (by show 1 ≤ ch ∧ ch ≤ 64; omega) h0 h1 h2 hf
  have hkc : k * (ch + 2) ≤ 4 * 6 := Nat.mul_le_mul hk.2 (by omega)
  have hK : opK ((DS.full [l0, l1, newW k ch]).now 2) = k := f1
  obtain ⟨y1, y2⟩ := PY.start (n := 30) hz hm (by
      show 0 + opK ((DS.full [l0, l1, newW k ch]).now 2) * (ch + 2) + 1 ≤ 30
      rw [hK]; omega) (by
      show (0 : Int) + ((opK ((DS.full [l0, l1, newW k ch]).now 2) * (ch + 2) : Nat) : Int) + 1 ≤ ((30 : Nat) : Int)
      rw [hK]; omega)
  have hQ : (rv0 l0 l1 (newW k ch)).bgn (opC (newW k ch)) (opM (newW k ch)) (opO (newW k ch)) mode = rvN l0 l1 k ch mode := hrn
  rw [hQ] at hp
  have hy : PY ⟨g, s0, s1, s2, m, v, n0, n1, n2, ch⟩ ((opn0 (DS.full [l0, l1, newW k ch]) mode).bgn ⟨g, s0, s1, s2, m, v, n0, n1, n2, ch⟩ mode) (rvN l0 l1 k ch mode) 30 := by
    have h := y1
    rw [show (DS.full [l0, l1, newW k ch]).now 0 = l0 from rfl, show (DS.full [l0, l1, newW k ch]).now 1 = l1 from rfl, show (DS.full [l0, l1, newW k ch]).now 2 = newW k ch from rfl, hrn] at h
    exact h
  rw [f2] at hp
  refine ⟨⟨Fv, Fq, _, hp, hy, y2, rfl, hb, hl, fun j hj => hj.elim⟩, ?_⟩
  exact ⟨f2, rfl, rfl, rfl, by show 1 ≤ ch ∧ ch ≤ 64; omega, hn0, hn1, by show 1 ≤ n2 ∧ n2 ≤ 60000; omega, hm⟩

end Go.Proofs.YtogchafnnkajfaaGreat

namespace Go.Proofs.YtogchafnnkajfaaGreat
set_option linter.unusedVariables false
open Go.RowKit
attribute [local go_sem] Oper.semAt_some m_size m_read m_write m_flush

set_option maxRecDepth 100000 in
set_option maxHeartbeats 8000000 in
theorem awake33_any (W : World) : Calls Tryz.prog 18 #[] W fun e W' => e = .returned (.bool true) ∧ Below W.heap.size W W' := by
  have hmk : ∀ w : World, (Instr.makeSlice 29 (.int .i64 4) (.int .i64 4)).run Tryz.prog w = .ok (.slice (some ⟨w.heap.size, 0, none⟩) 4 4) (w.alloc (.cells (uv [0, 0, 0, 0]).toArray 26)) := fun w => run_make_u64 4 (by omega) w
  have hw0 : W64 [0, 0, 0, 0] := by intro x hx; simp at hx; omega
  have hop := op_new (wordsL 3 8) [0, 0, 0, 0] 1 4 8 4 2 (by omega) (by omega) (.inr rfl) (wordsL_length 3 8) rfl (by omega)
  have HOP := Lib.hid hop
  clear hop
  go_enter Tryz.func18, Tryz.ntmps18
  go_upto_region 1 with (fail)
  go_cut [1, 2] (fun a1 a2 wx => ∃ lo pb bL cL C K, a1 = .pointer (some ⟨pb, 0, none⟩) ∧ a2 = .bool true ∧ PK C K ∧ K.mode = 2 ∧ C.n0 = 8 ∧ C.chunk = 4 ∧ PP lo W wx (fun _ => False) pb bL cL C K (rvN (wordsL 3 8) [0, 0, 0, 0] 1 4 2) (rvN (wordsL 3 8) [0, 0, 0, 0] 1 4 2) 30)
  case first =>
    go_region_with ((first
      | (go_at_call 15; refine Calls.mono (start33_any _ A1 _ A2 8 4 2 c1 4 c2 (wordsL 3 8) [0, 0, 0, 0] (newW 1 4) (by first | exact (Reads.of_own ho1).keep hb2 | exact ((Reads.of_own ho1).keep ((Below.refl _ _).alloc (Nat.le_refl _) _)).keep hb2 | exact ((Reads.of_own ho1).keep hb2).keep ((Below.refl _ _).alloc (Nat.le_refl _) _)) (by first | exact ((Reads.new W.drew (uv [0, 0, 0, 0]).toArray 26).keep hb1).keep hb2 | exact (Reads.new w1 (uv [0, 0, 0, 0]).toArray 26).keep hb2 | exact Reads.new _ _ _) (by first | exact Reads.of_own ho2 | exact (Reads.of_own ho2).keep ((Below.refl _ _).alloc (Nat.le_refl _) _)) (wordsL_length 3 8) rfl (newW_length 1 4) (by omega) (by omega) (by omega) (wordsL_w 3 8) hw0 (newW_w 1 4) 2 (by omega)) ?_; rintro e w3 ⟨pb, rfl, hb3, -, hok⟩)
      | (go_at_call 19; refine (words33_any 1 4 _ (by omega) (by omega)).mono ?_; rintro e w2 ⟨v2, rfl, ho2, hb2⟩; obtain ⟨A2, c2, hv2⟩ := own_form ho2; subst hv2)
      | (go_at_call 16; refine (words2_any 8 3 _ (by omega)).mono ?_; rintro e w1 ⟨v1, rfl, ho1, hb1⟩; obtain ⟨A1, c1, hv1⟩ := own_form ho1; subst hv1)))
    all_goals
      obtain ⟨Fv, Fq, bL, cL, g, s0, s1, s2, m, v, r, bo, co, bf, cf, bm, cm, hp⟩ := hok HOP.out
      have hww : Below W.heap.size W w3 ∧ ∃ lo, W.heap.size ≤ lo ∧ P33 lo w3 Fv Fq pb bL cL ⟨g, s0, s1, s2, m, v, 8, 4, 2, opC (newW 1 4)⟩ ((opn0 (DS.full [wordsL 3 8, [0, 0, 0, 0], newW 1 4]) 2).bgn ⟨g, s0, s1, s2, m, v, 8, 4, 2, opC (newW 1 4)⟩ 2) (rvK r bo co bf cf bm cm 8 4 2 (newW 1 4) 2) false ((rv0 (wordsL 3 8) [0, 0, 0, 0] (newW 1 4)).bgn (opC (newW 1 4)) (opM (newW 1 4)) (opO (newW 1 4)) 2) := by
        first
        | (have k1 : Below W.heap.size W w1 := (Below.refl W.heap.size W).drew.trans hb1
           have k2 := k1.trans (hb2.mono k1.size)
           have k3 := k2.alloc k2.size (.cells (uv [0, 0, 0, 0]).toArray 26)
           exact ⟨k3.trans (hb3.mono k3.size), _, k3.size, hp⟩)
        | (have k1 : Below W.heap.size W w1 := (Below.refl W.heap.size W).drew.trans hb1
           have k2 := k1.alloc k1.size (.cells (uv [0, 0, 0, 0]).toArray 26)
           have k3 := k2.trans (hb2.mono k2.size)
           exact ⟨k3.trans (hb3.mono k3.size), _, k3.size, hp⟩)
        | (have k1 : Below W.heap.size W (W.drew.alloc (.cells (uv [0, 0, 0, 0]).toArray 26)) := (Below.refl W.heap.size W).drew.alloc (Nat.le_refl _) _
           have k2 := k1.trans (hb1.mono k1.size)
           have k3 := k2.trans (hb2.mono k2.size)
           exact ⟨k3.trans (hb3.mono k3.size), _, k3.size, hp⟩)
      obtain ⟨hbw, lo, hlo, hp⟩ := hww
      obtain ⟨q1, q2⟩ := pp_new (n0 := 8) (n1 := 4) (n2 := 2) (k := 1) (ch := 4) (l0 := wordsL 3 8) (l1 := [0, 0, 0, 0]) (by omega) (by omega) (.inr rfl) (wordsL_length 3 8) rfl rfl (by omega) (by omega) (by omega) hp hbw hlo
      have HQ1 := Lib.hid q1
      have HQ2 := Lib.hid q2
      clear hok hb1 hb2 hb3 hp q1 q2 hbw hlo ho1 ho2
      go_wp2_with fail
      go_meet
      case rel => exact ⟨lo, pb, bL, cL, _, _, rfl, rfl, HQ2.out, rfl, rfl, rfl, HQ1.out⟩
  case rest =>
    obtain ⟨lo, pb, bL, cL, C, K, rfl, rfl, hpk, hmd, hn0, hch, hp⟩ := hcut
    have HP0 := Lib.hid hp
    have HPK := Lib.hid hpk
    have HMD := Lib.hid hmd
    have HN0 := Lib.hid hn0
    have HCH := Lib.hid hch
    obtain ⟨x0, x1, x2, x3, x4, x5, x6⟩ := hp.cells
    have hR0 : rvN (wordsL 3 8) [0, 0, 0, 0] 1 4 2 = ⟨wordsL 3 8, [0, 0, 0, 0], (newW 1 4).set 0 (hdI 1 4 2 true), ax1⟩ := rfl
    have HR0 := Lib.hid hR0
    have hl0 := wordsL_length 3 8
    have hl0w := wordsL_w 3 8
    clear hp hpk hmd hn0 hch hmk hw0 HOP hR0
    obtain ⟨Q0, m0, l0, hE0, hp0⟩ : ∃ Q0 m0 l0, wordsL 3 8 = l0 ∧ PP lo W wc (fun _ => False) pb bL cL C K ⟨l0, [0, 0, 0, 0], m0, ax1⟩ Q0 30 := ⟨_, _, _, rfl, by have h := HP0.out; rw [HR0.out] at h; exact h⟩
    rw [hE0] at hl0 hl0w
    have HE0 := Lib.hid hE0
    clear hE0 HR0 HP0
    -- what is read and written
    have hv1 := hp0.vread HPK.out (a := 1) (by rw [HN0.out]; omega) (by omega)
    rw [HCH.out, aw1 l0 [0, 0, 0, 0] m0 hl0, show ((1 : Nat) : Int) = 1 from rfl] at hv1
    have HS0 := Lib.hid hp0.vsize
    have HV1 := Lib.hid hv1
    clear hv1
    go_upto_region 4 with (go_at_call 46; (with_reducible refine HS0.out.mono ?_); rintro e w' ⟨rfl, rfl⟩; rw [HN0.out])
    go_upto_region 5 with (go_at_call 22; (with_reducible refine HV1.out.mono ?_); rintro e w1 ⟨rfl, -, hp1, -⟩)
    clear HS0 HV1 x0 x1 x2 x3 x4 x5 x6 hp0
    obtain ⟨x0, x1, x2, x3, x4, x5, x6⟩ := hp1.cells
    obtain ⟨m2, h2⟩ := aw2 l0 [0, 0, 0, 0] m0 hl0
    have hv2 := hp1.vread HPK.out (a := 2) (by rw [HN0.out]; omega) (by omega)
    rw [HCH.out, h2, show ((2 : Nat) : Int) = 2 from rfl] at hv2
    have HV2 := Lib.hid hv2
    clear hv2 h2 hp1
    generalize ((cpL [0, 0, 0, 0] 0 l0 0 4)[2]?.getD 0) = y2 at *
    have hf2 : (cpL [0, 0, 0, 0] 0 l0 0 4).length = 4 := by rw [cpL_length]; rfl
    generalize (cpL [0, 0, 0, 0] 0 l0 0 4) = f2 at *
    go_upto_region 6 with (go_at_call 22; (with_reducible refine HV2.out.mono ?_); rintro e w2 ⟨rfl, -, hp2, -⟩)
    clear HV2 x0 x1 x2 x3 x4 x5 x6
    obtain ⟨x0, x1, x2, x3, x4, x5, x6⟩ := hp2.cells
    obtain ⟨m3, h3⟩ := aw3 l0 f2 m2 hl0 9
    have hv3 := hp2.vwrite HPK.out (a := 1) (v := 9) (by rw [HN0.out]; omega) (by omega) (by omega)
    rw [HCH.out, HMD.out, show decide ((2 : Int) = 2) = true from rfl, h3, show ((1 : Nat) : Int) = 1 from rfl, show ((9 : Nat) : Int) = 9 from rfl] at hv3
    have HV3 := Lib.hid hv3
    clear hv3 h3 hp2
    go_upto_region 7 with (go_at_call 31; (with_reducible refine HV3.out.mono ?_); rintro e w3 ⟨rfl, hp3, -⟩)
    clear HV3 x0 x1 x2 x3 x4 x5 x6
    obtain ⟨x0, x1, x2, x3, x4, x5, x6⟩ := hp3.cells
    have hf3 : (f2.set 1 9)[1]? = some 9 := List.getElem?_set_self (by rw [hf2]; omega)
    have hv4 := hp3.vread HPK.out (a := 1) (by rw [HN0.out]; omega) (by omega)
    rw [HCH.out, aw4 l0 (f2.set 1 9) m3 hl0, hf3, Option.getD_some, show ((1 : Nat) : Int) = 1 from rfl, show ((9 : Nat) : Int) = 9 from rfl] at hv4
    have HV4 := Lib.hid hv4
    clear hv4 hp3
    generalize f2.set 1 9 = f3 at *
    go_upto_region 8 with (go_at_call 22; (with_reducible refine HV4.out.mono ?_); rintro e w4 ⟨rfl, -, hp4, -⟩)
    clear HV4 x0 x1 x2 x3 x4 x5 x6 hf2
    obtain ⟨x0, x1, x2, x3, x4, x5, x6⟩ := hp4.cells
    have HV5 := Lib.hid hp4.vstate
    have HP4 := Lib.hid hp4
    clear hp4
    go_upto_region 9 with (go_at_call 26; (with_reducible refine HV5.out.mono ?_); rintro e w5 ⟨⟨v, rfl, A, n, c, m, B, d, rfl, hn, hm, hS, hM⟩, hb5⟩; unfold csV)
    have hn1 : n = 1 := hn.symm
    subst hn1
    obtain ⟨a, ca, hA, hal, hau⟩ := hS.form (by omega)
    injection hA with hA _ _
    subst hA
    obtain ⟨b', o', e', -, hcc⟩ := scs_read (Reads.of_own hS) (by decide)
    injection e' with e'
    injection e' with e1 e2
    subst e1
    subst e2
    obtain ⟨-, hd, -, -⟩ := hcc 0 ⟨true, true, 0, 3⟩ rfl
    have hba : Below w5.heap.size w5 (w5.alloc (.cells #[.slice (some ⟨a, 0, none⟩) 1 c, .int .i64 ax5.clk, .slice B m d] 58)) := (Below.refl _ w5).alloc (Nat.le_refl _) _
    have hbox := (Cs.new w5 58 #[.slice (some ⟨a, 0, none⟩) 1 c, .int .i64 ax5.clk, .slice B m d]).cell 0
    have hsz6 : (w5.alloc (.cells #[.slice (some ⟨a, 0, none⟩) 1 c, .int .i64 ax5.clk, .slice B m d] 58)).heap.size = w5.heap.size + 1 := by simp
    have hd6 := (hba.cell (p := ⟨a, 1, none⟩) (by simpa using hau)).trans hd
    have hp6 := HP4.out.more (hb5.trans (hba.mono hb5.size)) (Y := fun j => j = a ∨ j = w5.heap.size) (by
      have := hb5.size
      rintro j (rfl | rfl)
      · exact .inr ⟨hal, by omega⟩
      · exact .inr ⟨this, by omega⟩)
    clear hba hd hcc hS hM hm hb5 HP4 HV5 hn x0 x1 x2 x3 x4 x5 x6
    generalize hbx : w5.heap.size = bx at *
    change Code.wp _ _ _ _ _
    generalize (w5.alloc (.cells #[.slice (some ⟨a, 0, none⟩) 1 c, .int .i64 ax5.clk, .slice B m d] 58)) = w6 at *
    have hlA : a < w6.heap.size := by omega
    have hlB : bx < w6.heap.size := by omega
    clear hbx hal hau hsz6
    obtain ⟨x0, x1, x2, x3, x4, x5, x6⟩ := hp6.cells
    obtain ⟨m7, h7⟩ := aw5 l0 f3 m3
    have hv7 := hp6.vclean HPK.out 5 (by omega) (by omega)
    rw [HCH.out, h7, show ((5 : Nat) : Int) = 5 from rfl] at hv7
    have HV7 := Lib.hid hv7
    clear hv7 h7 hp6
    go_upto_region 10 with (go_at_call 47; (with_reducible refine HV7.out.mono ?_); rintro e w7 ⟨rfl, hp7, hf7⟩)
    have hb7 := (hf7.cell (i := 0) (.inr rfl) hlB).trans hbox
    have hd7 := (hf7.cell (i := 1) (.inl rfl) hlA).trans hd6
    have hs7 := hf7.fr.size
    clear HV7 x0 x1 x2 x3 x4 x5 x6 hbox hd6 hf7
    obtain ⟨x0, x1, x2, x3, x4, x5, x6⟩ := hp7.cells
    have HV8 := Lib.hid (hp7.vflush (by omega))
    clear hp7
    go_upto_region 11 with (go_at_call 34; (with_reducible refine HV8.out.mono ?_); rintro e w8 ⟨rfl, hp8, hf8⟩)
    have hb8 := (hf8.cell (i := 0) (.inr rfl) (by omega)).trans hb7
    have hd8 := (hf8.cell (i := 1) (.inl rfl) (by omega)).trans hd7
    have hs8 := hf8.fr.size
    clear HV8 x0 x1 x2 x3 x4 x5 x6 hb7 hd7 hf8
    obtain ⟨x0, x1, x2, x3, x4, x5, x6⟩ := hp8.cells
    obtain ⟨F, S, hdk, hsp, hnf, hno, -, -, -⟩ := hp8.dsk
    obtain ⟨r1, r2⟩ := rd_out hnf.hea hnf.dn (i := 0) (n := C.n0) rfl 1 (by rw [HN0.out]; omega)
    dsimp only at hno
    rw [hno, cpL_at, if_pos ⟨by omega, by omega, by rw [hl0]; omega⟩, hf3, Option.getD_some] at r2
    injection r2 with r2
    rw [show ((1 : Nat) : Int) = 1 from rfl] at r1 r2
    have HR1 := Lib.hid r1
    have HR2 : Hid (S.sread 0 C.n0 1 = 9) := r2.symm
    have HD8 := Lib.hid hdk
    have HSP := Lib.hid hsp
    have HP8 := Lib.hid hp8
    clear r1 r2 hdk hsp hnf hno hp8 x0 x3 x5 x6
    go_wp2_with (first
      | (go_at_call 190; refine (sread_any w8 F C.g C.s0 0 C.n0 S 1 HD8.out HSP.out (by rw [HN0.out]; omega)).mono ?_; rintro e w9 ⟨rfl, hb9⟩; rw [HR1.out, HR2.out]; have HP9 := Lib.hid (HP8.out.keep hb9); have yb := (hb9.cell (p := ⟨bx, 0, none⟩) (by show bx < _; omega)).trans hb8; have yd := (hb9.cell (p := ⟨a, 1, none⟩) (by show a < _; omega)).trans hd8; have hs9 := hb9.size)
      | (go_at_call 16; refine (words2_any 8 3 w9 (by omega)).mono ?_; rintro e w10 ⟨v10, rfl, ho10, hb10⟩; obtain ⟨b10, c10, hv10, -, -⟩ := ho10.form (by omega); subst hv10; rw [HE0.out] at ho10; have z1 := ho10.cellAt 1 (by omega); rw [uv_at _ _ (by rw [hl0]; omega)] at z1; have HP10 := Lib.hid (HP9.out.keep hb10); have zb := (hb10.cell (p := ⟨bx, 0, none⟩) (by show bx < _; omega)).trans yb; have zd := (hb10.cell (p := ⟨a, 1, none⟩) (by show a < _; omega)).trans yd; have z2 := HP10.out.cells.2.2.1)
      | (go_at_call 25; refine (HP10.out.vdetach HPK.out (by omega)).mono ?_; rintro e w11 ⟨rfl, hp11, -⟩; have HP11 := Lib.hid hp11; have z3 := HP11.out.cells.2.2.1)
      | (go_at_call 23; refine (HP11.out.vclose HPK.out (by have := HCH.out; simp only [List.length_cons, List.length_nil]; omega)).mono ?_; rintro e w12 ⟨rfl, hp12, -⟩; have HP12 := Lib.hid hp12; have z4 := HP12.out.cells.2.2.1)
      | (go_at_call 34; refine HP12.out.vflush.mono ?_; rintro e w' ⟨rfl, rfl⟩))
    go_ret
    exact ⟨rfl, HP12.out.bel⟩

end Go.Proofs.YtogchafnnkajfaaGreat

namespace Go.Proofs.YtogchafnnkajfaaGreat
set_option linter.unusedVariables false
open Go

section
variable {P : Program} {md : Region.Mode} {ops : Array Oper} {Q : Exit → Act → World → Prop} {S : World → Prop} {n : Nat}

/-- What follows, in the order of a list. -/
def wpSeqL (P : Program) (ops : Array Oper) (Q : Exit → Act → World → Prop) (S : World → Prop) (n : Nat) : List (Nat × Oper) → Act → World → Prop
  | [], a, w => Q .normal a w
  | o :: l, a, w => if Region.wanted o.2 (yielded ops a.tmps) = true then o.2.wp P a w (fun a' w' => (o.1 < n → S w') ∧ wpSeqL P ops Q S n l a' w') Q ∨ (o.2.asks P a w ∧ LetsOut Q) else (o.1 < n → S w) ∧ wpSeqL P ops Q S n l (a.put o.2.dst undef) w

theorem wpSeqL_list : ∀ (l : List (Nat × Oper)) (a : Act) (w : World), (∀ o ∈ l, n ≤ o.1) → wpList P ops Q (l.map Prod.snd) a w → wpSeqL P ops Q S n l a w
  | [], _, _, _, h => h
  | o :: l, a, w, hk, h => by
    have h1 : n ≤ o.1 := hk o List.mem_cons_self
    have h2 : ∀ p ∈ l, n ≤ p.1 := fun p hp => hk p (List.mem_cons_of_mem _ hp)
    unfold wpSeqL
    rw [List.map_cons] at h
    unfold wpList at h
    split
    · rename_i hw
      rw [if_pos hw] at h
      exact h.imp (Oper.wp_mono (fun a' w' h' => ⟨fun hh => absurd hh (by omega), wpSeqL_list l a' w' h2 h'⟩)) id
    · rename_i hw
      rw [if_neg hw] at h
      exact ⟨fun hh => absurd hh (by omega), wpSeqL_list l _ w h2 h⟩

theorem wpSeqL_step {k : Nat} {o : Oper} {l : List (Nat × Oper)} {a : Act} {w : World}
    (h : ∀ K : Act → World → Prop, (∀ a w, (k < n → S w) → wpSeqL P ops Q S n l a w → K a w) → if Region.wanted o (yielded ops a.tmps) = true then o.wp P a w K Q else K (a.put o.dst undef) w) : wpSeqL P ops Q S n ((k, o) :: l) a w := by
  have := h (fun a w => (k < n → S w) ∧ wpSeqL P ops Q S n l a w) (fun a w h1 h2 => ⟨h1, h2⟩)
  unfold wpSeqL
  split
  · rename_i hw; rw [if_pos hw] at this; exact .inl this
  · rename_i hw; rw [if_neg hw] at this; exact this

def seqLB (md : Region.Mode) (ops : Array Oper) : List Nat → Array Bool → Bool
  | [], listed => (Region.ready md ops listed).isEmpty
  | k :: l, listed => decide (Region.ready md ops listed = [k]) && seqLB md ops l (listed.setIfInBounds k true)

def headLB (md : Region.Mode) (ops : Array Oper) (n : Nat) (r : List Nat) : List Nat → Array Bool → Bool
  | [], listed => seqLB md ops r listed
  | k :: l, listed => decide (k < n) && (Region.ready md ops listed).contains k && Region.free md ops listed k && headLB md ops n r l (listed.setIfInBounds k true)

/-- The operations of the numbers of a list. -/
def pickL (ops : Array Oper) : List Nat → List (Nat × Oper)
  | [] => []
  | k :: l => match ops[k]? with
    | some o => (k, o) :: pickL ops l
    | none => []

theorem wpAnyT_of_seqL : ∀ (l : List Nat) (listed : Array Bool) (a : Act) (w : World), (∀ k ∈ l, k < ops.size) →
    seqLB md ops l listed = true → wpSeqL P ops Q S n (pickL ops l) a w → wpAnyT P md ops Q S n l.length listed a w
  | [], _, _, _, _, hB, h => ⟨by simpa [seqLB] using hB, h⟩
  | k :: l, listed, a, w, hl, hB, h => by
    have hk := hl k List.mem_cons_self
    have h0 : ops[k]? = some ops[k] := Array.getElem?_eq_getElem hk
    simp only [seqLB, Bool.and_eq_true, decide_eq_true_eq] at hB
    refine ⟨fun h1 => (by rw [hB.1] at h1; cases h1), fun i hi => ?_⟩
    rw [hB.1] at hi
    have hik : i = k := by simpa using hi
    subst hik
    unfold wpOp
    simp only [h0]
    simp only [pickL, h0] at h
    unfold wpSeqL at h
    have next : ∀ a' w', wpSeqL P ops Q S n (pickL ops l) a' w' → wpAnyT P md ops Q S n l.length (listed.setIfInBounds i true) a' w' := fun a' w' h' =>
      wpAnyT_of_seqL l _ a' w' (fun j hj => hl j (List.mem_cons_of_mem _ hj)) hB.2 h'
    split
    · rename_i hw
      rw [if_pos hw] at h
      exact h.imp (Oper.wp_mono (fun a' w' h' => ⟨h'.1, next a' w' h'.2⟩)) id
    · rename_i hw
      rw [if_neg hw] at h
      exact ⟨h.1, next _ _ h.2⟩

theorem wpAnyT_headL {r : List Nat} {T : Act → Prop} {w : World} (hsel : Region.noSelect ops = true) (hs : Region.sinkB md ops n = true) (hc : Region.chainB md ops n = true) (hn : n < ops.size) (hS : S w)
    (hT : ∀ listed a, seqLB md ops r listed = true → T a → wpAnyT P md ops Q S n r.length listed a w) :
    ∀ (l : List Nat) (listed : Array Bool) (a : Act), HeadInv md ops n listed →
    headLB md ops n r l listed = true → wpHeadS P ops Q S T ((pickL ops l).map Prod.snd) a → wpAnyT P md ops Q S n (l.length + r.length) listed a w
  | [], listed, a, _, hB, hw => by
    rw [List.length_nil, Nat.zero_add]
    exact hT listed a hB hw
  | k :: l, listed, a, inv, hB, hw => by
    simp only [headLB, Bool.and_eq_true, decide_eq_true_eq] at hB
    obtain ⟨⟨⟨hkn, hr⟩, hf⟩, hB'⟩ := hB
    have h0 : ops[k]? = some ops[k] := Array.getElem?_eq_getElem (by omega)
    have hr' : k ∈ Region.ready md ops listed := by simpa using hr
    simp only [pickL, h0, List.map_cons] at hw
    obtain ⟨v, hy, hQ, hK⟩ := hw
    have := wpAnyT_first h0 (Region.noSelect_spec hsel) hs hc hn hkn hQ (l.length + r.length) listed a w inv (Region.free_spec h0 hf) hr' hy hS
      (wpAnyT_headL hsel hs hc hn hS hT l _ _ (inv.set hr' hkn) hB' hK)
    rw [List.length_cons, show l.length + 1 + r.length = l.length + r.length + 1 by omega]
    exact this

def mixLB (ops : Array Oper) (h r : List Nat) (n : Nat) : Bool :=
  Region.noSelect ops && decide (n < ops.size) && decide (h.length + r.length = ops.size) && r.all (fun k => decide (k < ops.size)) && Region.sinkB .any ops n && Region.chainB .any ops n && headLB .any ops n r h (Array.replicate ops.size false)

/-- In a plain frame. -/
theorem wp_region_mixL {id : Nat} {a : Act} {w : World} {ops : Array Oper} (h r : List Nat) (n : Nat) (hm : P.follows .mixedOrders = true) (hB : mixLB ops h r n = true) (S : World → Prop) (hS : S w.drew)
    (hw : wpHeadS P ops Q S (fun a' => wpSeqL P ops Q S n (pickL ops r) a' w.drew) ((pickL ops h).map Prod.snd) a) : (Code.region id ops true).wp P Q a w := by
  simp only [mixLB, Bool.and_eq_true, decide_eq_true_eq, List.all_eq_true] at hB
  obtain ⟨⟨⟨⟨⟨⟨hsel, hn⟩, hlen⟩, hr⟩, hs⟩, hc⟩, hlex⟩ := hB
  have inv0 : HeadInv .any ops n (Array.replicate ops.size false) :=
    ⟨by simp, fun j oj _ hl => (by rw [getD_replicate_false] at hl; cases hl), fun t _ ht => getD_in (by simpa using ht) (getD_replicate_false _ _)⟩
  have H := wpAnyT_headL (md := .any) (n := n) (T := fun a' => wpSeqL P ops Q S n (pickL ops r) a' w.drew) (w := w.drew) hsel hs hc hn hS
    (fun listed a' hq ht => wpAnyT_of_seqL (md := .any) r listed a' w.drew hr hq ht) h _ a inv0 hlex hw
  rw [hlen] at H
  exact wp_region_any hm (wpAny_of_T _ _ _ _ H)

end
end Go.Proofs.YtogchafnnkajfaaGreat

namespace Go.Proofs.YtogchafnnkajfaaGreat
set_option linter.unusedVariables false
open Go.RowKit
attribute [local go_sem] Oper.semAt_some

/-- A number from 1 to 3 out of any. -/
theorem one3a (T : Int) (hT : -3 < T ∧ T < 3) : ∃ x : Nat, IntKind.i64.wrap (T + 3) = T + 3 ∧ IntKind.i64.wrap (1 + (T + 3).tmod 3) = (x : Int) ∧ 1 ≤ x ∧ x ≤ 3 := by
  have u4 := Int.tmod_lt_of_pos (T + 3) (b := (3 : Int)) (by omega)
  have u5 := Int.tmod_nonneg (3 : Int) (show 0 ≤ T + 3 by omega)
  generalize (T + 3).tmod 3 = V at *
  exact ⟨(1 + V).toNat, IntWalk.i64_in _ (by omega), by rw [IntWalk.i64_in _ (by omega)]; omega, by omega, by omega⟩

/-- The box that an order of the region makes early. -/
def CxA (Wb W : World) (px : Nat) : Prop := Cs W px 37 #[.pointer none] ∧ Wb.heap.size ≤ px
theorem CxA.new {Wb W : World} (h : Wb.heap.size ≤ W.heap.size) : CxA Wb (W.alloc (.cells #[.pointer none] 37)) W.heap.size := ⟨Cs.new W _ _, h⟩
theorem CxA.new1 {Wb W : World} {o : Obj} (h : Wb.heap.size ≤ W.heap.size) : CxA Wb ((W.alloc o).alloc (.cells #[.pointer none] 37)) (W.heap.size + 1) := by
  have := CxA.new (Wb := Wb) (W := W.alloc o) (by simp; omega)
  rwa [show (W.alloc o).heap.size = W.heap.size + 1 by simp] at this
theorem CxA.keep {Wb W W' : World} {px : Nat} (h : CxA Wb W px) (hb : Below W.heap.size W W') : CxA Wb W' px := ⟨Cs.below h.1 hb (Cs.lt h.1), h.2⟩
theorem CxA.alloc {Wb W : World} {px : Nat} (h : CxA Wb W px) (o : Obj) : CxA Wb (W.alloc o) px := ⟨Cs.alloc h.1 o, h.2⟩
theorem CxA.both {Wb W W' : World} {px : Nat} (h : CxA Wb W px) (hb : Below W.heap.size W W') : CxA Wb W' px ∧ px < W.heap.size := ⟨h.keep hb, Cs.lt h.1⟩
theorem CxA.drew {Wb W : World} {px : Nat} (h : CxA Wb W px) : CxA Wb W.drew px := h
theorem cs_new1 (w : World) (o : Obj) (t : TypeId) (cs : Array Value) : Cs ((w.alloc o).alloc (.cells cs t)) (w.heap.size + 1) t cs := by
  have := Cs.new (w.alloc o) t cs
  rwa [show (w.alloc o).heap.size = w.heap.size + 1 by simp] at this
def AlP (Wb : World) (l0 l1 l2 : List Nat) (a7 : Value) (wx : World) : Prop := ∃ (px g : Nat) (F : Nat → Prop), a7 = .pointer (some ⟨px, 0, none⟩) ∧ Cs wx px 37 #[.pointer (some ⟨g, 0, none⟩)] ∧ Wb.heap.size ≤ px ∧ DskAt wx F g (DS.full [l0, l1, l2]) ∧ (∀ j, F j → Wb.heap.size ≤ j ∧ j < wx.heap.size ∧ j ≠ px) ∧ Below Wb.heap.size Wb wx
theorem alF {Wb V0 : World} {px g k : Nat} {F : Nat → Prop} {l0 l1 l2 : List Nat} (cx : CxA Wb V0 px) (hp : px < k) (hd : DskAt V0 F g (DS.full [l0, l1, l2])) (hg : ∀ j, F j → k ≤ j ∧ j < V0.heap.size) (hb : Below Wb.heap.size Wb V0) (hk : Wb.heap.size ≤ k) :
    AlP Wb l0 l1 l2 (.pointer (some ⟨px, 0, none⟩)) (V0.setCell ⟨px, 0, none⟩ (.pointer (some ⟨g, 0, none⟩))) := by
  have hf := fr_set V0 px 0 (.pointer (some ⟨g, 0, none⟩))
  exact ⟨px, g, F, rfl, Cs.put (l := [_]) cx.1 _, cx.2, hd.fr hf (fun j hj e => by have := (hg j hj).1; have : j = px := e; omega), fun j hj => ⟨by have := (hg j hj).1; omega, Nat.lt_of_lt_of_le (hg j hj).2 hf.size, fun e => by have := (hg j hj).1; omega⟩, hb.setCell (p := ⟨px, 0, none⟩) cx.2 _⟩
theorem alL {Wb V0 : World} {g k : Nat} {F : Nat → Prop} {l0 l1 l2 : List Nat} (hd : DskAt V0 F g (DS.full [l0, l1, l2])) (hg : ∀ j, F j → k ≤ j ∧ j < V0.heap.size) (hb : Below Wb.heap.size Wb V0) (hk : Wb.heap.size ≤ k) :
    AlP Wb l0 l1 l2 (.pointer (some ⟨V0.heap.size, 0, none⟩)) (V0.alloc (.cells #[.pointer (some ⟨g, 0, none⟩)] 37)) := by
  have hb' : Below V0.heap.size V0 (V0.alloc (.cells #[.pointer (some ⟨g, 0, none⟩)] 37)) := (Below.refl _ _).alloc (Nat.le_refl _) _
  exact ⟨_, g, F, rfl, Cs.new V0 _ _, hb.size, hd.keep hb', fun j hj => ⟨by have := (hg j hj).1; omega, Nat.lt_of_lt_of_le (hg j hj).2 hb'.size, fun e => by have := (hg j hj).2; omega⟩, hb.trans (hb'.mono hb.size)⟩
theorem al_loaded {W3 : World} (A5 A6 A7 : Option Addr) (c5 c6 c7 z : Nat) (l0 l1 l2 : List Nat) (h5 : ∀ X, Below W3.heap.size W3 X → Reads X A5 (uv l0)) (h6 : ∀ X, Below W3.heap.size W3 X → Reads X A6 (uv l1)) (h7 : ∀ X, Below W3.heap.size W3 X → Reads X A7 (uv l2)) (e0 : l0.length = 9) (e1 : l1.length = z) (e2 : l2.length = 3) (w0 : W64 l0) (w1 : W64 l1) (w2 : W64 l2) (hz : 1 ≤ z ∧ z ≤ 6)
    (X : World) (rb : Nat) (hC : Cs X rb 29 #[Value.slice A5 9 c5, Value.slice A6 z c6, Value.slice A7 3 c7]) (hX : Below W3.heap.size W3 X) :
    Calls Tryz.prog 37 #[.slice (some ⟨rb, 0, none⟩) 3 3] X fun e V => ∃ (g : Nat) (F : Nat → Prop), e = .returned (.pointer (some ⟨g, 0, none⟩)) ∧ DskAt V F g (DS.full [l0, l1, l2]) ∧ (∀ j, F j → X.heap.size ≤ j ∧ j < V.heap.size) ∧ W3.heap.size ≤ X.heap.size ∧ Below X.heap.size X V ∧ Below W3.heap.size W3 V := by
  have hv : ([⟨A5, c5, l0⟩, ⟨A6, c6, l1⟩, ⟨A7, c7, l2⟩].map Im.v).toArray = #[Value.slice A5 9 c5, Value.slice A6 z c6, Value.slice A7 3 c7] := by simp [Im.v, e0, e1, e2]
  refine (loaded_any X rb 3 3 [⟨A5, c5, l0⟩, ⟨A6, c6, l1⟩, ⟨A7, c7, l2⟩] (by rw [hv]; exact hC) rfl (by omega) (by intro p hp; simp at hp; rcases hp with rfl | rfl | rfl; exact h5 X hX; exact h6 X hX; exact h7 X hX) (by intro p hp; simp at hp; rcases hp with rfl | rfl | rfl; rw [e0]; exact ⟨by omega, by omega, w0⟩; rw [e1]; exact ⟨hz.1, by omega, w1⟩; rw [e2]; exact ⟨by omega, by omega, w2⟩)).mono ?_
  rintro e V ⟨g, rfl, hd, hbV⟩
  exact ⟨g, _, rfl, hd.tight, fun j hj => ⟨hj.1, hj.2⟩, hX.size, hbV, hX.trans (hbV.mono hX.size)⟩

theorem al_sound {K : Sa} (hK : K.Ok) {W V4 V5 : World} {F0 : Nat → Prop} {g px b6 n c c9 : Nat} {As A9 : Option Addr} {l0 : List Nat} {ls : List Stp}
    (hd : K.b1 = b6 + 1 ∧ K.b2 = px ∧ K.b3 = W.heap.size ∧ K.b4 = W.heap.size + 1 ∧ K.b5 = b6 ∧ K.g = g ∧ K.B = W.heap.size ∧ K.n0 = 9) (hz : SZa K V4 F0 (l0.map Sec.start) 0) (hb4 : Below V4.heap.size V4 V5) (hb5 : Below W.heap.size W V5) (ho : V5.ownsRow V4.heap.size 26 1 (.slice A9 9 c9) 9 (uv l0)) (hlt : ∀ j, F0 j → W.heap.size ≤ j ∧ j < V4.heap.size)
    (hs : Reads W As (svs ls)) (hok : StpOk ls) (hn : ls.length = n) (hl0 : l0.length = 9) (hw0 : W64 l0) (hL : 1 + (n + 2) * (9 + 4) ≤ 1000) :
    Calls Tryz.prog 41 #[.pointer (some ⟨g, 0, none⟩), .func (.func 39) #[] #[.pointer (some ⟨b6 + 1, 0, none⟩), .pointer (some ⟨px, 0, none⟩), .pointer (some ⟨W.heap.size, 0, none⟩), .pointer (some ⟨W.heap.size + 1, 0, none⟩), .pointer (some ⟨b6, 0, none⟩)], .slice A9 9 c9, .slice As n c] V5 fun e w' => e = .returned (.bool true) ∧ ∃ F', Turn F0 F' V5 w' := by
  have hz5 := hz.fr (Fr.of_below (G := fun _ => False) hb4) (fun _ _ h => h) (fun _ h => h.elim)
  have hi : ∀ w', Fr F0 V5 w' → Reads w' A9 (uv l0) := fun w' hf => Reads.of_own (own_fr ho hf (fun b hb hj => by have := own_ge ho b hb; have := hlt b hj; omega))
  have hsr : ∀ w', Fr F0 V5 w' → Reads w' As (svs ls) := fun w' hf => hs.keep (hb5.trans (hf.below hb5.size (fun j hj => (hlt j hj).1)))
  have h := sound_anyW (w := V5) (F := F0) K.b1 K.b2 K.b3 K.b4 K.b5 (sda_dev hK) l0 ls A9 As c9 c n hz5 (by rw [hd.2.2.2.2.2.2.1]; exact hb5.size) (by rw [hl0, hd.2.2.2.2.2.2.2]) (by rw [hd.2.2.2.2.2.2.2]; omega) (by rw [hd.2.2.2.2.2.2.2]; omega) hn hi hsr hw0 hok (by rw [hd.2.2.2.2.2.2.2]; exact hL) (by omega)
  rw [hd.1, hd.2.1, hd.2.2.1, hd.2.2.2.1, hd.2.2.2.2.1, hd.2.2.2.2.2.1, hd.2.2.2.2.2.2.2] at h
  exact h

set_option maxRecDepth 100000 in
set_option maxHeartbeats 8000000 in
theorem alone33_any (As : Option Addr) (n c : Nat) (ls : List Stp) (x : Int) (W : World) (hn : ls.length = n) (hs : Reads W As (svs ls)) (hok : StpOk ls) :
    Calls Tryz.prog 9 #[.slice As n c, .int .i64 x] W fun e w' => e = .returned (.bool true) ∧ Below W.heap.size W w' := by
  have HN := Lib.hid hn
  have HS := Lib.hid hs
  have HOK := Lib.hid hok
  have HAW := Lib.hid (awake33_any W)
  clear hn hs hok
  go_enter Tryz.func9, Tryz.ntmps9
  go_wp2_with fail
  refine (few_any As n c W).mono ?_
  rintro e W0 ⟨rfl, rfl⟩
  by_cases h24 : n ≤ 24
  · have d1 : decide (n ≤ 24) = true := by simpa using h24
    obtain ⟨T, hT⟩ : ∃ T, x.tmod 3 = T := ⟨_, rfl⟩
    obtain ⟨chunk, u1, u2, ha1, ha2⟩ := one3a T (by rw [← hT]; exact ⟨Int.lt_tmod_of_pos x (by omega), Int.tmod_lt_of_pos x (by omega)⟩)
    generalize hV : (T + 3).tmod 3 = V at *
    obtain ⟨z, hz⟩ : ∃ z, chunk * 2 = z := ⟨_, rfl⟩
    have hz1 : 1 ≤ z ∧ z ≤ 6 := by omega
    have u5 : IntKind.i64.wrap ((chunk : Int) * 2) = ((z : Nat) : Int) := by rw [IntWalk.i64_in _ (by omega)]; omega
    have HZZ := Lib.hid hz
    clear hz
    go_upto_region 4 with (fail)
    have hbxa : Cs (W.alloc (.cells #[.int .i64 (chunk : Int)] 3)) W.heap.size 3 #[.int .i64 (chunk : Int)] := Cs.new W _ _
    have hba0 : Below W.heap.size W (W.alloc (.cells #[.int .i64 (chunk : Int)] 3)) := (Below.refl _ _).alloc (Nat.le_refl _) _
    have hsz0 : (W.alloc (.cells #[.int .i64 (chunk : Int)] 3)).heap.size = W.heap.size + 1 := by simp
    generalize W.alloc (.cells #[.int .i64 (chunk : Int)] 3) = Wa at *
    have hbxb := Cs.new Wa 3 #[.int .i64 2]
    rw [hsz0] at hbxb
    have hbb0 : Below Wa.heap.size Wa (Wa.alloc (.cells #[.int .i64 2] 3)) := (Below.refl _ _).alloc (Nat.le_refl _) _
    have hsz1 : (Wa.alloc (.cells #[.int .i64 2] 3)).heap.size = W.heap.size + 2 := by simp; omega
    have hbxa' := Cs.below hbxa hbb0 (by omega)
    generalize Wa.alloc (.cells #[.int .i64 2] 3) = Wb at *
    have HBa := Lib.hid hbxa'
    have HBb := Lib.hid hbxb
    have HB0 := Lib.hid (hba0.trans (hbb0.mono hba0.size))
    have HY : Hid (∀ w', Below Wb.heap.size Wb w' → w'.cell? ⟨W.heap.size, 0, none⟩ = some (.int .i64 (chunk : Int)) ∧ w'.cell? ⟨W.heap.size + 1, 0, none⟩ = some (.int .i64 2)) := fun w' hb => ⟨(Cs.below HBa.out hb (by omega)).cell 0, (Cs.below HBb.out hb (by omega)).cell 0⟩
    have x5 : Wb.cell? ⟨W.heap.size, 0, none⟩ = some (.int .i64 (chunk : Int)) := hbxa'.cell 0
    have x6 : Wb.cell? ⟨W.heap.size + 1, 0, none⟩ = some (.int .i64 2) := hbxb.cell 0
    have HSZ := Lib.hid hsz1
    clear hbxa hba0 hsz0 hbxb hbb0 hbxa' hsz1
    clear x5 x6
    have q0 : Below Wb.heap.size Wb Wb.drew := (Below.refl _ Wb).drew
    have x56 := HY.out _ q0
    obtain ⟨ob, hob⟩ : ∃ ob : Obj, ob = .cells #[.pointer none] 37 := ⟨_, rfl⟩
    have hcx : ∀ w : World, Cs (w.alloc (.cells #[.pointer none] 37)) w.heap.size 37 #[.pointer none] := fun w => Cs.new w _ _
    have HCX := Lib.hid hcx
    have hl0 := wordsL_length 3 9
    have hl1 := wordsL_length 50 z
    have hl2 : (newW 2 chunk).length = 3 := newW_length 2 chunk
    have hw0 := wordsL_w 3 9
    have hw1 := wordsL_w 50 z
    have hw2 := newW_w 2 chunk
    have HW9 : Hid (∀ w, Calls Tryz.prog 16 #[.int .i64 9, .int .u64 3] w fun e W' => ∃ v, e = .returned v ∧ W'.ownsRow w.heap.size 26 1 v 9 (uv (wordsL 3 9)) ∧ Below w.heap.size w W') := fun w => words2_any 9 3 w (by omega)
    have HWz : Hid (∀ w, Calls Tryz.prog 16 #[.int .i64 (z : Int), .int .u64 50] w fun e W' => ∃ v, e = .returned v ∧ W'.ownsRow w.heap.size 26 1 v z (uv (wordsL 50 z)) ∧ Below w.heap.size w W') := fun w => words2_any z 50 w (by omega)
    have HW3 : Hid (∀ w, Calls Tryz.prog 19 #[.int .i64 2, .int .i64 (chunk : Int)] w fun e W' => ∃ v, e = .returned v ∧ W'.ownsRow w.heap.size 26 1 v 3 (uv (newW 2 chunk)) ∧ Below w.heap.size w W') := fun w => words33_any 2 chunk w (by omega) (by omega)
    generalize hg0 : wordsL 3 9 = l0 at *
    have HE0 := Lib.hid hg0
    clear hg0
    generalize wordsL 50 z = l1 at *
    generalize hg2 : newW 2 chunk = l2 at *
    have HE2 := Lib.hid hg2
    have HL0 := Lib.hid hl0
    have HL1 := Lib.hid hl1
    have HL2 := Lib.hid hl2
    clear hl0 hl1 hl2 hg2 hob hcx
    have HBA : Hid (∀ (A B : World) (o : Obj), Below A.heap.size A B → Below A.heap.size A (B.alloc o)) := fun A B o h => h.alloc h.size o
    have q0a := (HBA.out _ _ (.cells #[.pointer none] 37) (Below.refl _ Wb)).drew
    go_cut [7] (fun a7 wx => AlP Wb l0 l1 l2 a7 wx)
    case first =>
      go_region_held3 (fun w' => w'.cell? ⟨W.heap.size, 0, none⟩ = some (.int .i64 (chunk : Int)) ∧ w'.cell? ⟨W.heap.size + 1, 0, none⟩ = some (.int .i64 2))
        (first | exact HY.out _ (q4.setCell cx.1.2 _) | with_reducible exact HY.out _ q4 | with_reducible exact HY.out _ (HBA.out _ _ _ q4) | with_reducible exact HY.out _ q3 | with_reducible exact HY.out _ (HBA.out _ _ _ q3) | with_reducible exact HY.out _ (HBA.out _ _ _ (HBA.out _ _ _ q3)) | with_reducible exact HY.out _ q2 | with_reducible exact HY.out _ (HBA.out _ _ _ q2) | with_reducible exact HY.out _ q1 | with_reducible exact HY.out _ (HBA.out _ _ _ q1) | with_reducible exact x56 | with_reducible exact HY.out _ q0a)
        ((first
        | (go_at_call 37; (with_reducible refine (HLD.out _ _ (by first | exact Cs.new _ _ _ | exact (Cs.new _ _ _).alloc _ | exact cs_new1 _ _ _ _) (by first | exact HBA.out _ _ _ (Below.refl _ W3) | exact HBA.out _ _ _ (HBA.out _ _ _ (Below.refl _ W3)))).mono ?_); rintro e V0 ⟨g, F, rfl, hd, hge, hw4, hbV, hbx⟩; (first | (have cx := (cx3.alloc _).both hbV; have cy := cx.1.1.cell 0; have cz := cx.1.1.free 0) | (have cx := ((CxA.new q3.size).alloc _).both hbV; have cy := cx.1.1.cell 0; have cz := cx.1.1.free 0) | (have cx := (CxA.new1 q3.size).both hbV; have cy := cx.1.1.cell 0; have cz := cx.1.1.free 0) | skip); have q4 : Below Wb.heap.size Wb V0 := q3.trans (hbx.mono q3.size))
        | (go_at_call 19; (with_reducible refine (HW3.out _).mono ?_); rintro e W3 ⟨v3, rfl, ho3, hb3⟩; obtain ⟨A7, c7, hv3⟩ := own_form ho3; subst hv3; have q3 : Below Wb.heap.size Wb W3 := (by first | with_reducible exact q2.trans (hb3.mono q2.size) | with_reducible exact (HBA.out _ _ _ q2).trans (hb3.mono (HBA.out _ _ _ q2).size)); have r23 : Below W2.heap.size W2 W3 := (by first | with_reducible exact hb3 | with_reducible exact (HBA.out _ _ _ (Below.refl _ W2)).trans (hb3.mono (HBA.out _ _ _ (Below.refl _ W2)).size)); have HLD := Lib.hid (al_loaded (W3 := W3) A5 A6 A7 c5 c6 c7 z l0 l1 l2 (fun X h => R5.out X ((r12.trans (r23.mono r12.size)).trans (h.mono (r12.trans (r23.mono r12.size)).size))) (fun X h => R6.out X (r23.trans (h.mono r23.size))) (fun X h => Reads.of_own (own_keepB ho3 h)) HL0.out HL1.out HL2.out hw0 hw1 hw2 hz1); first | have cx3 := cx2.keep r23 | have cx3 := (CxA.new q2.size).keep hb3 | skip)
        | (go_at_call 16; (with_reducible refine (HWz.out _).mono ?_); rintro e W2 ⟨v2, rfl, ho2, hb2⟩; obtain ⟨A6, c6, hv2⟩ := own_form ho2; subst hv2; have q2 : Below Wb.heap.size Wb W2 := (by first | with_reducible exact q1.trans (hb2.mono q1.size) | with_reducible exact (HBA.out _ _ _ q1).trans (hb2.mono (HBA.out _ _ _ q1).size)); have r12 : Below W1.heap.size W1 W2 := (by first | with_reducible exact hb2 | with_reducible exact (HBA.out _ _ _ (Below.refl _ W1)).trans (hb2.mono (HBA.out _ _ _ (Below.refl _ W1)).size)); have R6 := Lib.hid (show ∀ w', Below W2.heap.size W2 w' → Reads w' A6 (uv l1) from fun w' h => Reads.of_own (own_keepB ho2 h)); first | have cx2 := cx1.keep r12 | have cx2 := (CxA.new q1.size).keep hb2 | skip)
        | (go_at_call 16; (with_reducible refine (HW9.out _).mono ?_); rintro e W1 ⟨v1, rfl, ho1, hb1⟩; obtain ⟨A5, c5, hv1⟩ := own_form ho1; subst hv1; have q1 : Below Wb.heap.size Wb W1 := (by first | with_reducible exact q0.trans (hb1.mono q0.size) | with_reducible exact q0a.trans (hb1.mono q0a.size)); have R5 := Lib.hid (show ∀ w', Below W1.heap.size W1 w' → Reads w' A5 (uv l0) from fun w' h => Reads.of_own (own_keepB ho1 h)); first | have cx1 := ((CxA.new (Wb := Wb) (W := Wb) (Nat.le_refl _)).drew).keep hb1 | skip)))
      all_goals
        go_wp2_with fail
        go_meet
        case rel => first | exact alF cx.1 cx.2 hd hge q4 (Nat.le_trans q3.size hw4) | exact alL hd hge q4 (Nat.le_trans q3.size hw4)
    case rest =>
      obtain ⟨px, g, F, rfl, hbx2, hpx, hd1, hge, hbw⟩ := hcut
      rename World => V1
      have HX2 := Lib.hid hbx2
      have HD := Lib.hid hd1
      have HGE := Lib.hid hge
      have hpl := Cs.lt hbx2
      have hbs := hbw.size
      have z0 : V1.cell? ⟨px, 0, none⟩ = some (.pointer (some ⟨g, 0, none⟩)) := hbx2.cell 0
      have HBV := Lib.hid (HB0.out.trans (hbw.mono HB0.out.size))
      have HBW := Lib.hid hbw
      have hsz := HSZ.out
      clear hbx2 hd1 hge hbw HW9 HWz HW3 HBA HCX q0 x56 q0a
      have HSZ2 := Lib.hid hsz
      clear hsz
      go_wp2_with fail
      refine (spans_any V1 _ g (DS.full [l0, l1, l2]) HD.out (by intro x hx; simp [DS.full] at hx; rcases hx with rfl | rfl | rfl; show 1 ≤ l0.length; rw [HL0.out]; omega; show 1 ≤ l1.length; rw [HL1.out]; exact hz1.1; show 1 ≤ l2.length; rw [HL2.out]; omega)).mono ?_
      rintro e V2 ⟨v2, sps, rfl, hsl, hown, hsp, hb2⟩
      have hsl2 : sps.length = 3 := hsl
      obtain ⟨s0, s1, s2, rfl⟩ : ∃ s0 s1 s2, sps = [s0, s1, s2] := by
        rcases sps with _ | ⟨s0, _ | ⟨s1, _ | ⟨s2, _ | ⟨q, r⟩⟩⟩⟩
        · simp at hsl2
        · simp at hsl2
        · simp at hsl2
        · exact ⟨s0, s1, s2, rfl⟩
        · simp at hsl2
      obtain ⟨hs0, hsg0⟩ := hsp 0 s0 rfl
      obtain ⟨hs1, hsg1⟩ := hsp 1 s1 rfl
      obtain ⟨hs2, hsg2⟩ := hsp 2 s2 rfl
      change SpanAt V2 s0 g 0 l0.length at hs0
      change SpanAt V2 s1 g 1 l1.length at hs1
      change SpanAt V2 s2 g 2 l2.length at hs2
      have hs02 : s0 ≠ s2 := by
        rintro rfl
        have := (Cs.cell hs0 1).symm.trans (Cs.cell hs2 1)
        simp at this
      have hs12 : s1 ≠ s2 := by
        rintro rfl
        have := (Cs.cell hs1 1).symm.trans (Cs.cell hs2 1)
        simp at this
      rw [HL0.out] at hs0
      rw [HL1.out] at hs1
      rw [HL2.out] at hs2
      change V2.ownsRow V1.heap.size _ 1 v2 3 _ at hown
      obtain ⟨bL, cL, hvL, hbL, hbLl⟩ := hown.form (by omega)
      subst hvL
      have HD2 := Lib.hid (HD.out.keep hb2)
      have HS0 := Lib.hid hs0
      have HS1 := Lib.hid hs1
      have HS2 := Lib.hid hs2
      have HL := Lib.hid hown
      have HX3 := Lib.hid (Cs.below HX2.out hb2 (by omega))
      have HB2 := Lib.hid (HBV.out.trans (hb2.mono HBV.out.size))
      have HBW2 := Lib.hid (HBW.out.trans (hb2.mono HBW.out.size))
      have hV2s : V1.heap.size ≤ V2.heap.size := hb2.size
      have hs0l := Cs.lt hs0
      have hs1l := Cs.lt hs1
      have hs2l := Cs.lt hs2
      clear hs0 hs1 hs2 hown hb2 hsp hsl hsl2 HBV HBW HD HX2 z0
      go_upto_region 12 with (fail)
      have h3 := Cs.new V2 38 #[.slice (some ⟨bL, 0, none⟩) 3 cL]
      have hb3 : Below V2.heap.size V2 (V2.alloc (.cells #[.slice (some ⟨bL, 0, none⟩) 3 cL] 38)) := (Below.refl _ _).alloc (Nat.le_refl _) _
      have hsz3 : (V2.alloc (.cells #[.slice (some ⟨bL, 0, none⟩) 3 cL] 38)).heap.size = V2.heap.size + 1 := by simp
      generalize V2.alloc (.cells #[.slice (some ⟨bL, 0, none⟩) 3 cL] 38) = V3 at *
      have h4 := Cs.new V3 4 #[.bool true]
      rw [hsz3] at h4
      have hb4 : Below V3.heap.size V3 (V3.alloc (.cells #[.bool true] 4)) := (Below.refl _ _).alloc (Nat.le_refl _) _
      have hsz4 : (V3.alloc (.cells #[.bool true] 4)).heap.size = V3.heap.size + 1 := by simp
      have h3' := Cs.below h3 hb4 (by omega)
      clear h3
      generalize V3.alloc (.cells #[.bool true] 4) = V4 at *
      have hb5 := hb3.trans (hb4.mono (by omega))
      have hB4 := HB2.out.trans (hb5.mono HB2.out.size)
      have hBw4 := HBW2.out.trans (hb5.mono HBW2.out.size)
      have hbsz := HSZ2.out
      obtain ⟨K, hKe⟩ : ∃ K : Sa, K = ⟨W.heap.size, g, s0, s1, s2, 9, z, 3, chunk, V2.heap.size + 1, px, W.heap.size, W.heap.size + 1, V2.heap.size, bL, cL⟩ := ⟨_, rfl⟩
      have hK : K.Ok := by rw [hKe]; exact ⟨rfl, HZZ.out.symm, rfl, ⟨ha1, ha2⟩, hs02, hs12⟩
      obtain ⟨F0, hF0⟩ : ∃ F0 : Nat → Prop, F0 = fun j => F j ∨ j = s0 ∨ j = s1 ∨ j = s2 ∨ j = bL ∨ j = W.heap.size ∨ j = W.heap.size + 1 ∨ j = px ∨ j = V2.heap.size ∨ j = V2.heap.size + 1 := ⟨_, rfl⟩
      have hlt0 : ∀ j, F0 j → W.heap.size ≤ j ∧ j < V4.heap.size := by
        intro j hj
        rw [hF0] at hj
        rcases hj with hj | rfl | rfl | rfl | rfl | rfl | rfl | rfl | rfl | rfl
        · have := HGE.out j hj; omega
        all_goals omega
      have hf0 : ¬ F s0 := fun e => by have := HGE.out _ e; omega
      have hf1 : ¬ F s1 := fun e => by have := HGE.out _ e; omega
      have hf2 : ¬ F s2 := fun e => by have := HGE.out _ e; omega
      have hf3 : ¬ F bL := fun e => by have := HGE.out _ e; omega
      have hf4 : ¬ F W.heap.size := fun e => by have := HGE.out _ e; omega
      have hf4' : ¬ F (W.heap.size + 1) := fun e => by have := HGE.out _ e; omega
      have hf5 : ¬ F px := fun e => (HGE.out _ e).2.2 rfl
      have hf6 : ¬ F V2.heap.size := fun e => by have := HGE.out _ e; omega
      have hf7 : ¬ F (V2.heap.size + 1) := fun e => by have := HGE.out _ e; omega
      have hzz : SZa K V4 F0 (l0.map Sec.start) 0 := by
        rw [hKe, hF0]
        have hsv : SVa ⟨W.heap.size, g, s0, s1, s2, 9, z, 3, chunk, V2.heap.size + 1, px, W.heap.size, W.heap.size + 1, V2.heap.size, bL, cL⟩ V4 F (fun j => F j ∨ j = s0 ∨ j = s1 ∨ j = s2 ∨ j = bL ∨ j = W.heap.size ∨ j = W.heap.size + 1 ∨ j = px ∨ j = V2.heap.size ∨ j = V2.heap.size + 1) true :=
          ⟨fun j hj => .inl hj, h4, Cs.below HX3.out hb5 (Cs.lt HX3.out), Cs.below HBa.out hBw4 (by show W.heap.size < Wb.heap.size; omega), Cs.below HBb.out hBw4 (by show W.heap.size + 1 < Wb.heap.size; omega), h3', own_lower (own_keepB HL.out hb5) (Nat.zero_le _), ⟨hf7, hf5, hf4, hf4', hf6, hf3⟩, ⟨.inr (.inr (.inr (.inr (.inr (.inr (.inr (.inr (.inr rfl)))))))), .inr (.inr (.inr (.inr (.inr (.inr (.inr (.inl rfl))))))), .inr (.inr (.inr (.inr (.inr (.inl rfl))))), .inr (.inr (.inr (.inr (.inr (.inr (.inl rfl)))))), .inr (.inr (.inr (.inr (.inr (.inr (.inr (.inr (.inl rfl)))))))), .inr (.inr (.inr (.inr (.inl rfl))))⟩, hB4.size⟩
        obtain ⟨p1, p2⟩ := full3 (Sa.C ⟨W.heap.size, g, s0, s1, s2, 9, z, 3, chunk, V2.heap.size + 1, px, W.heap.size, W.heap.size + 1, V2.heap.size, bL, cL⟩ 0 0) l0 l1 l2 HL0.out HL1.out HL2.out
        refine ⟨fun j hj => (hlt0 j (by rw [hF0]; exact hj)).1, F, DS.full [l0, l1, l2], true, HD2.out.keep hb5, Cs.below HS0.out hb5 hs0l, Cs.below HS1.out hb5 hs1l, Cs.below HS2.out hb5 hs2l, ⟨hf0, hf1, hf2⟩, ⟨.inr (.inl rfl), .inr (.inr (.inl rfl)), .inr (.inr (.inr (.inl rfl)))⟩, hsv, ⟨p1, p2, rfl, fun a v ha hv => ?_⟩, fun _ => HE2.out.symm, by rw [List.length_map]; exact HL0.out, ?_, Nat.zero_le _, Int.le_refl _⟩
        · refine ⟨Sec.start v, ?_, List.mem_singleton.2 rfl⟩
          rw [List.getElem?_map, show l0[a]? = some v from hv]
          rfl
        · intro a s hs _
          rw [List.getElem?_map] at hs
          rcases hx : l0[a]? with _ | x
          · rw [hx] at hs; cases hs
          · rw [hx] at hs
            injection hs with hs
            rw [← hs]
            rfl
      have HZ := Lib.hid hzz
      have HB4 := Lib.hid hB4
      have HLT := Lib.hid hlt0
      have HD0 : Hid (K.b1 = V2.heap.size + 1 ∧ K.b2 = px ∧ K.b3 = W.heap.size ∧ K.b4 = W.heap.size + 1 ∧ K.b5 = V2.heap.size ∧ K.g = g ∧ K.B = W.heap.size ∧ K.n0 = 9) := by rw [hKe]; exact ⟨rfl, rfl, rfl, rfl, rfl, rfl, rfl, rfl⟩
      have HPX := Lib.hid (Cs.below HX3.out hb5 (Cs.lt HX3.out))
      have y7 : V4.cell? ⟨px, 0, none⟩ = some (.pointer (some ⟨g, 0, none⟩)) := HPX.out.cell 0
      have HPL := Lib.hid (Cs.lt HPX.out)
      clear hKe hzz hB4 hlt0 hf0 hf1 hf2 hf3 hf4 hf4' hf5 hf6 hf7 hF0 hb3 hb4 hb5 h3' h4 HD2 HS0 HS1 HS2 HL HB2 hsz3 hsz4 HX3 hs02 hs12 hBw4 HBW2 hbsz hbs hpl HBa HBb HY
      have HW9 : Hid (Calls Tryz.prog 16 #[.int .i64 9, .int .u64 3] V4.drew fun e W' => ∃ v, e = .returned v ∧ W'.ownsRow V4.heap.size 26 1 v 9 (uv (wordsL 3 9)) ∧ Below V4.heap.size V4.drew W') := words2_any 9 3 V4.drew (by omega)
      have hL : 1 + (n + 2) * (9 + 4) ≤ 1000 := by omega
      have HLL := Lib.hid hL
      clear hL
      refine wp_region_mixL [0, 1, 3] [2, 4, 5, 6, 7, 8] 4 (by kernel_rfl) (by decide +kernel) (fun w' => w'.cell? ⟨px, 0, none⟩ = some (.pointer (some ⟨g, 0, none⟩))) y7 ?_
      simp only [pickL, List.getElem?_toArray, List.getElem?_cons_zero, List.getElem?_cons_succ, List.map_cons, List.map_nil]
      iterate 3
        refine ⟨?_, Or.inl ⟨by rfl, fun W' hS' => ?_⟩, fun _ _ _ h => h, ?_⟩
        rotate_left
        · go_simp
          with_reducible rfl
        simp only [Act.put, List.setIfInBounds_toArray, List.set_cons_zero, List.set_cons_succ]
      show wpSeqL _ _ _ _ _ _ _ _
      refine wpSeqL_step (fun K2 hK2 => ?_)
      go_simp
      refine HW9.out.mono ?_
      rintro e V5 ⟨v9, rfl, ho4, hb4⟩
      rw [HE0.out] at ho4
      obtain ⟨A9, c9, hv4⟩ := own_form ho4
      subst hv4
      have hb4' : Below V4.heap.size V4 V5 := (Below.refl _ V4).drew.trans hb4
      have HSD := Lib.hid (al_sound (c := c) hK HD0.out HZ.out hb4' (HB4.out.trans (hb4'.mono HB4.out.size)) ho4 HLT.out HS.out HOK.out HN.out HL0.out hw0 HLL.out)
      have HB5 := Lib.hid (HB4.out.trans (hb4'.mono HB4.out.size))
      have y8 : V5.cell? ⟨px, 0, none⟩ = some (.pointer (some ⟨g, 0, none⟩)) := (Cs.below HPX.out hb4' HPL.out).cell 0
      clear ho4 hb4 hb4'
      refine hK2 _ _ (fun _ => y8) ?_
      clear hK2 K2
      refine wpSeqL_list _ _ _ (by decide) ?_
      simp only [List.map_cons, List.map_nil]
      go_wp2_with (first
        | (go_at_call 41; (with_reducible refine HSD.out.mono ?_); rintro e V6 ⟨rfl, F5, ht5⟩; have HB6 := Lib.hid (HB5.out.trans (ht5.1.below HB5.out.size (fun j hj => (HLT.out j hj).1))))
        | (go_at_call 18; (with_reducible refine (awake33_any _).mono ?_); rintro e w7 ⟨rfl, hb7⟩))
      go_ret
      exact ⟨rfl, HB6.out.trans (hb7.mono HB6.out.size)⟩

  · have d1 : decide (n ≤ 24) = false := by simpa using h24
    go_wp2_with (go_at_call 18; refine HAW.out.mono ?_; rintro e w3 ⟨rfl, hb3⟩)
    go_ret
    exact ⟨rfl, hb3⟩

end Go.Proofs.YtogchafnnkajfaaGreat

namespace Go.Proofs.YtogchafnnkajfaaGreat
set_option linter.unusedVariables false
open Go.RowKit Go.ChangeShapes Go.WideShapes Go.Deep

theorem step_cells : Tryz.prog.cellsOf 134 = 4 := by kernel_rfl
theorem int_cells : Tryz.prog.cellsOf 3 = 1 := by kernel_rfl
theorem u64_cells : Tryz.prog.cellsOf 26 = 1 := by kernel_rfl

theorem step_one {H : Type} {enc : TypeId × Value → H} {w : World} {base : Nat} {spare : Nat → Bool} {held : Bool} {n : Nat} {cs : List Value} {x : DataW H × List MemPlace}
    (h : DataW.trod enc Tryz.prog w base spare held n 134 cs = some x) : ∃ s : Stp, cs = s.cells ∧ StpOk [s] := by
  obtain ⟨xs, n', -, -, hlen, hxl, hg⟩ := DataW.trod_struct Tryz.underlying134 h
  have hxl : xs.length = 4 := hxl
  rw [step_cells] at hlen
  obtain ⟨c0, c1, c2, c3, rfl⟩ : ∃ c0 c1 c2 c3, cs = [c0, c1, c2, c3] := by
    rcases cs with _ | ⟨c0, _ | ⟨c1, _ | ⟨c2, _ | ⟨c3, _ | ⟨c4, r⟩⟩⟩⟩⟩ <;> simp at hlen
    exact ⟨c0, c1, c2, c3, rfl⟩
  obtain ⟨n0, e0, -, w0⟩ := DataW.trod_int (k := .i64) Tryz.underlying3 ((hg 0 _ rfl).trans (List.getElem?_eq_getElem (by omega)))
  obtain ⟨n1, e1, -, w1⟩ := DataW.trod_int (k := .i64) Tryz.underlying3 ((hg 1 _ rfl).trans (List.getElem?_eq_getElem (by omega)))
  obtain ⟨n2, e2, -, w2⟩ := DataW.trod_int (k := .u64) Tryz.underlying26 ((hg 2 _ rfl).trans (List.getElem?_eq_getElem (by omega)))
  obtain ⟨n3, e3, -, w3⟩ := DataW.trod_int (k := .u64) Tryz.underlying26 ((hg 3 _ rfl).trans (List.getElem?_eq_getElem (by omega)))
  simp [int_cells] at e0 e1
  simp [u64_cells] at e2 e3
  subst e0; subst e1; subst e2; subst e3
  have v2 := wf_u64 w2
  have v3 := wf_u64 w3
  have v1 := bounds_i64 w1
  refine ⟨⟨n0, n1, n2.toNat, n3.toNat⟩, ?_, ?_⟩
  · show _ = [Value.int .i64 n0, .int .i64 n1, .int .u64 (n2.toNat : Int), .int .u64 (n3.toNat : Int)]
    rw [show ((n2.toNat : Nat) : Int) = n2 by omega, show ((n3.toNat : Nat) : Int) = n3 by omega]
  · intro y hy
    rw [List.mem_singleton] at hy
    subst hy
    exact ⟨by dsimp only; omega, by dsimp only; omega, by dsimp only; omega⟩

theorem svs_snoc (l : List Stp) (s : Stp) : svs (l ++ [s]) = svs l ++ s.cells := by simp [svs]

theorem steps_row {H : Type} {enc : TypeId × Value → H} {w : World} {base : Nat} {spare : Nat → Bool} {held : Bool} {n : Nat} {cs : List Value} {x : DataW H × List MemPlace}
    (h : DataW.trod enc Tryz.prog w base spare held n 69 cs = some x) : ∃ (A : Option Addr) (len cap : Nat) (ls : List Stp), cs = [.slice A len cap] ∧ ls.length = len ∧ StpOk ls ∧ Reads w A (svs ls) := by
  rcases open_slice Tryz.underlying69 h with ⟨rfl, -⟩ | ⟨a, len, cap, m, n', D, Pl, rfl, -, hl, -, hmm, -, hi⟩
  · exact ⟨none, 0, 0, [], rfl, rfl, (fun x hx => by cases hx), Reads.nil⟩
  · have hlm : len ≤ m := by rw [hmm]; split <;> omega
    have key : ∀ k, k ≤ len → ∃ ls : List Stp, ls.length = k ∧ StpOk ls ∧ ∀ q v, (svs ls)[q]? = some v → w.cell? (a.add q) = some v := by
      intro k
      induction k with
      | zero => exact fun _ => ⟨[], rfl, (fun x hx => by cases hx), fun q v hq => by simp [svs] at hq⟩
      | succ k ih =>
        intro hk
        obtain ⟨ls, hls, hok, hc⟩ := ih (by omega)
        obtain ⟨cs', hcs, ht⟩ := hi k (by omega)
        obtain ⟨s, rfl, hs⟩ := step_one ht
        rw [step_cells] at hcs
        obtain ⟨-, -, hat⟩ := World.cells?_some hcs
        refine ⟨ls ++ [s], by simp [hls], fun y hy => ?_, fun q v hq => ?_⟩
        · rcases List.mem_append.1 hy with hy | hy
          · exact hok y hy
          · exact hs y hy
        · rw [svs_snoc] at hq
          by_cases hlt : q < (svs ls).length
          · rw [List.getElem?_append_left hlt] at hq
            exact hc q v hq
          · rw [List.getElem?_append_right (by omega)] at hq
            rw [svs_length, hls] at hq hlt
            obtain ⟨j, hj⟩ : ∃ j, q = k * 4 + j := ⟨q - k * 4, by omega⟩
            subst hj
            rw [show k * 4 + j - k * 4 = j by omega] at hq
            have hj4 : j < 4 := (List.getElem?_eq_some_iff.1 hq).1
            rw [← Go.Deep.add_add, hat j hj4, hq]
    obtain ⟨ls, hls, hok, hc⟩ := key len (Nat.le_refl _)
    refine ⟨some a, len, cap, ls, rfl, hls, hok, fun hz => ?_⟩
    obtain ⟨v0, hv0⟩ : ∃ v, (svs ls)[0]? = some v := ⟨_, List.getElem?_eq_getElem (by omega)⟩
    have h0 := hc 0 v0 hv0
    obtain ⟨b, off, rfl⟩ := addr_plain (show w.cell? (a.add 0) = _ from h0)
    exact ⟨b, off, rfl, World.block_lt_of_cell? _ _ h0, fun i v hi => by have := hc i v hi; rw [Addr.add_lit] at this; exact this⟩

end Go.Proofs.YtogchafnnkajfaaGreat
