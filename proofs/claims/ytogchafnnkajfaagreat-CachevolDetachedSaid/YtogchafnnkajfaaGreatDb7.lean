/-
  Merged texts (Db7): what the row proofs use of them.
-/
import Derived.Test.YtogchafnnkajfaaGreatDb6
import Derived.Deep.DeepCutAuto
import Derived.Deep.RegionHeld3
namespace Go.Proofs.YtogchafnnkajfaaGreat
set_option linter.unusedVariables false
open Go.RowKit
attribute [local go_sem] Oper.semAt_some
def rvK (r bo co bf cf bm cm n0 n1 n2 : Nat) (meta_ : List Nat) (mode : Int) : RC := ⟨r, bo, co, bf, cf, bm, cm, n0, n1, n2, opC meta_, mode⟩
def rv0 (o f m : List Nat) : RV := ⟨o, f, m, ⟨slotsU m (opK m), 0, []⟩⟩
def ROpP (W : World) (bo co bf cf bm cm n0 n1 n2 : Nat) (o f m : List Nat) (mode : Int) (e : Ending) (W' : World) : Prop :=
  (opnE m n0 n1 mode ≠ 0 ∧ e = .returned (.tuple #[.pointer none, .int .i64 (opnE m n0 n1 mode)]) ∧ Below W.heap.size W W') ∨
  (opnE m n0 n1 mode = 0 ∧ ∃ r F', e = .returned (.tuple #[.pointer (some ⟨r, 0, none⟩), .int .i64 0]) ∧ W.heap.size ≤ r ∧ RvAt W' F' (rvK r bo co bf cf bm cm n0 n1 n2 m mode) false ((rv0 o f m).bgn (opC m) (opM m) (opO m) mode) ∧ Turn (fun j => j = bo ∨ j = bf ∨ j = bm) F' W W')
theorem RvIn.setS {W : World} {F : Nat → Prop} {K : RC} {clo : Bool} {R : RV} {A B : Option Addr} {c d k : Nat} (h : RvIn W F K clo R A c B d) (hlt : ∀ j, F j → j < k) (hms : R.x.ms = []) {sl' : List Sl} {A' : Option Addr} {n' c' : Nat} (hn : sl'.length = n')
    (hS : W.ownsRow k 31 4 (.slice A' n' c') n' (scs sl')) :
    RvIn (W.setCell ⟨K.r, 3, none⟩ (.slice A' n' c')) (fun j => F j ∨ k ≤ j) K clo { R with x := { R.x with sl := sl' } } A' c' B d := by
  subst hn
  have hf := fr_set W K.r 3 (.slice A' sl'.length c')
  have hrk := hlt _ h.inF.1
  obtain ⟨e1, e2, e3, e4⟩ := h.rne
  exact ⟨Cs.put (l := [_, _, _, _, _, _, _, _, _]) h.vol _, own_fr h.ro hf (fun b hb e => by simp [Value.ownBlock] at hb; exact e1 (hb.trans e)), own_fr h.rf hf (fun b hb e => by simp [Value.ownBlock] at hb; exact e2 (hb.trans e)), own_fr h.rm hf (fun b hb e => by simp [Value.ownBlock] at hb; exact e3 (hb.trans e)), h.lo, h.lf, h.lm,
    own_lower (own_fr hS hf (fun b hb e => by have := (hS.lt b hb).1; omega)) (Nat.zero_le _), h.mis.fr hf (fun h0 p hp => absurd hms (ms_ne h0)), fun p hp hm => absurd hms hm, fun b hb => .inr (hS.lt b hb).1, h.ne, .inl h.inF.1, .inl h.inF.2.1, .inl h.inF.2.2.1, .inl h.inF.2.2.2⟩
theorem RvIn.setSl {W : World} {F : Nat → Prop} {K : RC} {clo : Bool} {R : RV} {B : Option Addr} {a c d : Nat} (h : RvIn W F K clo R (some ⟨a, 0, none⟩) c B d) (k : Nat) (s : Sl) (hk : k < R.x.sl.length) :
    RvIn (put4 W a k s) F K clo { R with x := ⟨R.x.sl.set k s, R.x.clk, R.x.ms⟩ } (some ⟨a, 0, none⟩) c B d := by
  have hf := fr_put4 W a k s
  obtain ⟨e1, e2, e3, e4⟩ := h.rne
  obtain ⟨o1, o2, o3, o4⟩ := e4 a rfl
  have hl : (R.x.sl.set k s).length = R.x.sl.length := List.length_set
  have hrow := ((((h.row.stored (k * 4) (.bool s.valid)).1.stored (k * 4 + 1) (.bool s.dirty)).1.stored (k * 4 + 2) (.int .i64 s.block)).1.stored (k * 4 + 3) (.int .i64 s.stamp)).1
  rw [← scs_set R.x.sl k s hk] at hrow
  refine ⟨?_, own_fr h.ro hf (fun b hb e => by simp [Value.ownBlock] at hb; exact o2 (e.symm.trans hb.symm)), own_fr h.rf hf (fun b hb e => by simp [Value.ownBlock] at hb; exact o3 (e.symm.trans hb.symm)), own_fr h.rm hf (fun b hb e => by simp [Value.ownBlock] at hb; exact o4 (e.symm.trans hb.symm)), h.lo, h.lf, h.lm, ?_, h.mis.fr hf (fun h0 p hp e => (h.misO p hp (ms_ne h0)).2.2.2.2.2.1 a rfl e), ?_, ?_, h.ne, h.inF⟩
  · dsimp only
    rw [hl]
    exact h.vol.fr hf (fun e => o1 e.symm)
  · dsimp only
    rw [hl]
    exact hrow
  · intro p hp hm
    have := h.misO p hp hm
    exact ⟨this.1, this.2.1, this.2.2.1, this.2.2.2.1, this.2.2.2.2.1, fun g hg => this.2.2.2.2.2.1 g (by simpa [Value.ownBlock] using hg), Nat.lt_of_lt_of_le this.2.2.2.2.2.2 hf.size⟩
  · intro b hb
    exact h.rowO b (by simpa [Value.ownBlock] using hb)
structure RoI (W : World) (z : Nat) (K : RC) (hc a ca kk : Nat) (L : List Sl) (md : Int) (op : Bool) (R : RV) (wx : World) : Prop where
  rv : ∃ Fx, RvAt wx Fx K false R ∧ Turn (fun j => j = K.bo ∨ j = K.bf ∨ j = K.bm) Fx W wx ∧ ∀ j, Fx j → j = K.bo ∨ j = K.bf ∨ j = K.bm ∨ j = K.r ∨ z ≤ j
  cell : Cs wx hc 145 #[.slice (some ⟨a, 0, none⟩) kk ca, .int .i64 (K.chunk : Int), .int .i64 md, .bool (!op)]
  sl : wx.ownsRow 0 31 4 (.slice (some ⟨a, 0, none⟩) kk ca) kk (scs L)
  ok : R.x.Ok
  len : R.x.sl.length = kk
  n1 : hc ≠ K.bo ∧ hc ≠ K.bf ∧ hc ≠ K.bm ∧ hc ≠ K.r ∧ hc < z
  n2 : a ≠ K.bo ∧ a ≠ K.bf ∧ a ≠ K.bm ∧ a ≠ K.r ∧ a < z
  z : z ≤ wx.heap.size
theorem RoI.go {W wx : World} {z hc a ca kk : Nat} {K : RC} {L : List Sl} {md : Int} {op : Bool} {R : RV} (h : RoI W z K hc a ca kk L md op R wx) :
    ∃ Fx, RvAt wx Fx K false R ∧ ∀ (w' : World) (R' : RV), RvP wx Fx K false R' w' → R'.x.Ok → R'.x.sl.length = kk → RoI W z K hc a ca kk L md op R' w' := by
  obtain ⟨Fx, h1, h2, h3⟩ := h.rv
  refine ⟨Fx, h1, fun w' R' hp ho hl => ?_⟩
  obtain ⟨F', q1, q2⟩ := hp
  have nf : ∀ b, b ≠ K.bo ∧ b ≠ K.bf ∧ b ≠ K.bm ∧ b ≠ K.r ∧ b < z → ¬ Fx b := fun b hb e => by
    have := h3 b e
    omega
  refine ⟨⟨F', q1, h2.trans q2, fun j hj => ?_⟩, Cs.fr h.cell q2.1 (nf _ h.n1), own_fr h.sl q2.1 (fun b hb => by simp [Value.ownBlock] at hb; rw [← hb]; exact nf _ h.n2), ho, hl, h.n1, h.n2, Nat.le_trans h.z q2.1.size⟩
  rcases q2.2 j hj with e | e
  · exact h3 j e
  · have := h.z; omega
theorem bg1_same (md : Int) (R : RV) (k : Nat) : (R.bg1 md k).x.sl.length = R.x.sl.length ∧ (∀ j, k ≤ j → (R.bg1 md k).x.sl[j]? = R.x.sl[j]?) ∧ (R.x.Ok → (R.bg1 md k).x.Ok) ∧ (R.bg1 md k).x.clk = R.x.clk ∧ (R.bg1 md k).x.ms = R.x.ms := by
  induction k with
  | zero => exact ⟨rfl, fun _ _ => rfl, fun h => h, rfl, rfl⟩
  | succ k ih =>
    rw [RV.bg1]
    split
    · refine ⟨by show (List.set _ _ _).length = _; rw [List.length_set]; exact ih.1, fun j hj => ?_, fun h => (ih.2.2.1 h).clear k, ih.2.2.2⟩
      show (List.set _ _ _)[j]? = _
      rw [List.getElem?_set_ne (by omega)]
      exact ih.2.1 j (by omega)
    · exact ⟨ih.1, fun j hj => ih.2.1 j (by omega), ih.2.2⟩
theorem bg1_from (md : Int) (R : RV) (k j : Nat) (x : Sl) (hx : (R.bg1 md k).x.sl[j]? = some x) (hv : x.valid = true) : R.x.sl[j]? = some x := by
  induction k with
  | zero => exact hx
  | succ k ih =>
    rw [RV.bg1] at hx
    split at hx
    · change (List.set _ _ _)[j]? = _ at hx
      rw [List.getElem?_set] at hx
      split at hx
      · split at hx
        · injection hx with hx
          rw [← hx] at hv
          cases hv
        · cases hx
      · exact ih hx
    · exact ih hx
theorem CS.Ok.dv {s : CS} (h : s.Ok) {k : Nat} {x : Sl} (hx : s.sl[k]? = some x) (hd : x.dirty = true) : x.valid = true := by
  cases hv : x.valid
  · have := h.nl x (List.mem_of_getElem? hx) hv
    rw [this] at hd
    cases hd
  · rfl
theorem bg3_same (c : Nat) (R : RV) (k : Nat) (hok : R.x.Ok) (hk : k ≤ R.x.sl.length) : (R.bg3 c k).x.sl.length = R.x.sl.length ∧ (∀ j, k ≤ j → (R.bg3 c k).x.sl[j]? = R.x.sl[j]?) ∧ (R.bg3 c k).x.Ok := by
  induction k with
  | zero => exact ⟨rfl, fun _ _ => rfl, hok⟩
  | succ k ih =>
    obtain ⟨i1, i2, i3⟩ := ih (by omega)
    rw [RV.bg3]
    split
    · rename_i hd
      obtain ⟨x, hx⟩ : ∃ x, (R.bg3 c k).x.sl[k]? = some x := ⟨_, List.getElem?_eq_getElem (by omega)⟩
      rw [CS.at_eq hx] at hd
      refine ⟨by show (List.set _ _ _).length = _; rw [List.length_set]; exact i1, fun j hj => ?_, i3.setD k x hx (i3.dv hx hd) false⟩
      show (List.set _ _ _)[j]? = _
      rw [List.getElem?_set_ne (by omega)]
      exact i2 j (by omega)
    · exact ⟨i1, fun j hj => i2 j (by omega), i3⟩
theorem badS_false {ss : List Sl} {q : Nat} (h : ∀ (k : Nat) (x : Sl), ss[k]? = some x → x.valid = true → x.block < (q : Int)) : badS ss q = false := by
  unfold badS
  rw [List.any_eq_false]
  intro x hx
  obtain ⟨k, hk⟩ := List.mem_iff_getElem?.1 hx
  cases hv : x.valid
  · simp
  · have := h k x hk hv
    simp
    omega
set_option maxRecDepth 100000 in
set_option maxHeartbeats 8000000 in
theorem rvopen_any (W : World) (bo co bf cf bm cm n0 n1 n2 : Nat) (o f m : List Nat) (mode : Int)
    (ro : W.ownsRow 0 26 1 (.slice (some ⟨bo, 0, none⟩) n0 co) n0 (uv o)) (rf : W.ownsRow 0 26 1 (.slice (some ⟨bf, 0, none⟩) n1 cf) n1 (uv f)) (rm : W.ownsRow 0 26 1 (.slice (some ⟨bm, 0, none⟩) n2 cm) n2 (uv m))
    (lo : o.length = n0) (lf : f.length = n1) (lm : m.length = n2) (hw : W64 m) (hn0 : n0 ≤ 65536) (hn1 : n1 ≤ 65536) (hn2 : 1 ≤ n2 ∧ n2 ≤ 65536) (hne : bo ≠ bf ∧ bo ≠ bm ∧ bf ≠ bm) :
    Calls Tryz.prog 44 #[.slice (some ⟨bo, 0, none⟩) n0 co, .slice (some ⟨bf, 0, none⟩) n1 cf, .slice (some ⟨bm, 0, none⟩) n2 cm, .int .i64 mode] W (ROpP W bo co bf cf bm cm n0 n1 n2 o f m mode) := by
  have HRO := Lib.hid ro
  have HRF := Lib.hid rf
  have HRM := Lib.hid rm
  have HLO := Lib.hid lo
  have HLF := Lib.hid lf
  have HLM := Lib.hid lm
  have HW := Lib.hid hw
  have HOP := Lib.hid (ropen_any W (some ⟨bm, 0, none⟩) cm n2 m (Reads.of_own rm) lm hn2.1 hn2.2 hw)
  by_cases hmo : mode ≠ 1 ∧ mode ≠ 2
  · have t1 : ¬ mode = 1 := hmo.1
    have t2 : ¬ mode = 2 := hmo.2
    have b1 : (mode != 1) = true := by simpa using hmo.1
    have b2 : (mode != 2) = true := by simpa using hmo.2
    have he : opnE m n0 n1 mode = 1 := by unfold opnE; rw [if_pos hmo]
    clear ro rf rm lo lf lm hw hmo
    go_enter Tryz.func44, Tryz.ntmps44
    go_wp2_with fail
    go_ret2
    exact .inl ⟨by rw [he]; decide, by rw [he]; rfl, Below.refl _ W⟩
  · have hm12 : mode = 1 ∨ mode = 2 := by omega
    have HE : Hid (opnE m n0 n1 mode = if openE m ≠ 0 then openE m else if n1 < opK m * opC m then 3 else if badS (slotsU m (opK m)) (n0 / opC m) = true then 24 else 0) := by show _ = _; unfold opnE; rw [if_neg hmo]
    obtain ⟨bb, hbb⟩ : ∃ bb, (mode != 1) = bb := ⟨_, rfl⟩
    have b2 : bb = true → (mode != 2) = false := by
      intro e
      rcases hm12 with rfl | rfl
      · rw [← hbb] at e; exact absurd e (by decide)
      · rfl
    have HM12 := Lib.hid hm12
    clear ro rf rm lo lf lm hw hmo hm12
    go_enter Tryz.func44, Tryz.ntmps44
    go_upto_region 1 with (fail)
    go_cut [21] (fun s wx => s = .bool false ∧ wx = W)
    case first =>
      cases bb
      · go_wp2_with fail
        go_meet
        case rel => exact ⟨rfl, rfl⟩
      · have b3 := b2 rfl
        go_wp2_with fail
        go_meet
        case rel => exact ⟨rfl, rfl⟩
    case rest =>
      clear hbb b2
      obtain ⟨rfl, rfl⟩ := hcut
      go_wp2_with fail
      refine HOP.out.mono ?_
      rintro e w1 ⟨hb1, ⟨hE0, rfl⟩ | ⟨hE0, v, rfl, hS⟩⟩
      · have t1 : ¬ openE m = 0 := hE0
        have he : opnE m n0 n1 mode = openE m := by rw [HE.out, if_pos hE0]
        go_wp2_with fail
        go_ret2
        exact .inl ⟨by rw [he]; exact hE0, by rw [he]; rfl, hb1.alloc hb1.size _⟩
      · obtain ⟨hOK, hk1, hc1, hc64, -⟩ := open_cs m hE0
        obtain ⟨op, hop⟩ : ∃ op, opO m = op := ⟨_, rfl⟩
        have hcl : decide ((m[0]?.getD 0) / 1048576 % 2 = 0) = !op := by
          rw [← hop]
          unfold opO
          have : (m[0]?.getD 0) / 1048576 % 2 < 2 := Nat.mod_lt _ (by decide)
          by_cases e : (m[0]?.getD 0) / 1048576 % 2 = 0
          · rw [e]; rfl
          · rw [show (m[0]?.getD 0) / 1048576 % 2 = 1 by omega]; rfl
        rw [hcl]
        obtain ⟨md, hmd⟩ : ∃ md, opM m = md := ⟨_, rfl⟩
        rw [show (((m[0]?.getD 0) / 262144 % 4 : Nat) : Int) = md from hmd]
        obtain ⟨cc, hcc⟩ : ∃ cc, opC m = cc := ⟨_, rfl⟩
        rw [show (m[0]?.getD 0) / 2048 % 128 = cc from hcc]
        obtain ⟨kk, hkk⟩ : ∃ kk, opK m = kk := ⟨_, rfl⟩
        rw [show (m[0]?.getD 0) % 2048 = kk from hkk] at hS
        obtain ⟨L, hL⟩ : ∃ L, slotsU m kk = L := ⟨_, rfl⟩
        have hLl : L.length = kk := by rw [← hL]; exact slotsU_length _ _
        rw [hkk, hL] at hOK
        rw [hL] at hS
        rw [hkk] at hk1
        rw [hcc] at hc1 hc64
        have HE2 : Hid (opnE m n0 n1 mode = if n1 < kk * cc then 3 else if badS L (n0 / cc) = true then 24 else 0) := by show _ = _; rw [HE.out, if_neg (fun e => e hE0), hkk, hL, hcc]
        have hkl := hOK.len
        change 1 ≤ L.length ∧ L.length ≤ 1024 at hkl
        rw [hLl] at hkl
        obtain ⟨a, ca, rfl, hab, hal⟩ := hS.form (by omega)
        have HS := Lib.hid hS
        have HOK := Lib.hid hOK
        have HLL := Lib.hid hLl
        have HLe := Lib.hid hL
        have HKM : Hid (opK m = kk ∧ opC m = cc ∧ opM m = md ∧ opO m = op) := ⟨hkk, hcc, hmd, hop⟩
        obtain ⟨z, hz⟩ : ∃ z, kk * cc = z := ⟨_, rfl⟩
        have hzl : z ≤ 1024 * 64 := by rw [← hz]; exact Nat.mul_le_mul hkl.2 hc64
        have e1 : IntKind.i64.wrap ((kk : Int) * (cc : Int)) = (z : Int) := by rw [← Int.natCast_mul, hz, IntWalk.i64_in _ (by omega)]
        rw [hz] at HE2
        have HZ := Lib.hid hz
        clear hS hOK hL hkk hcc hmd hop hcl hE0 hz hLl HE HOP
        by_cases hsz : n1 < z
        · have t1 : (n1 : Int) < (z : Int) := by omega
          have he : opnE m n0 n1 mode = 3 := by rw [HE2.out, if_pos hsz]
          go_wp2_with fail
          go_ret2
          exact .inl ⟨by rw [he]; decide, by rw [he]; rfl, hb1.alloc hb1.size _⟩
        · have t1 : ¬ (n1 : Int) < (z : Int) := by omega
          have HE3 : Hid (opnE m n0 n1 mode = if badS L (n0 / cc) = true then 24 else 0) := by show _ = _; rw [HE2.out, if_neg hsz]
          clear HE2
          go_wp2_with fail
          have hC := Cs.new w1 145 #[.slice (some ⟨a, 0, none⟩) kk ca, .int .i64 (cc : Int), .int .i64 md, .bool (!op)]
          have hba := hb1.alloc hb1.size (.cells #[.slice (some ⟨a, 0, none⟩) kk ca, .int .i64 (cc : Int), .int .i64 md, .bool (!op)] 145)
          have hba1 : Below w1.heap.size w1 (w1.alloc (.cells #[.slice (some ⟨a, 0, none⟩) kk ca, .int .i64 (cc : Int), .int .i64 md, .bool (!op)] 145)) := (Below.refl _ w1).alloc (Nat.le_refl _) _
          have hsz2 : (w1.alloc (.cells #[.slice (some ⟨a, 0, none⟩) kk ca, .int .i64 (cc : Int), .int .i64 md, .bool (!op)] 145)).heap.size = w1.heap.size + 1 := by simp
          generalize (w1.alloc (.cells #[.slice (some ⟨a, 0, none⟩) kk ca, .int .i64 (cc : Int), .int .i64 md, .bool (!op)] 145)) = w2 at *
          have hV := Cs.new w2 88 #[.slice (some ⟨bo, 0, none⟩) n0 co, .slice (some ⟨bf, 0, none⟩) n1 cf, .slice (some ⟨bm, 0, none⟩) n2 cm, .slice none 0 0, .int .i64 0, .slice none 0 0, .int .i64 (cc : Int), .int .i64 mode, .bool false]
          have hbb2 : Below w2.heap.size w2 (w2.alloc (.cells #[.slice (some ⟨bo, 0, none⟩) n0 co, .slice (some ⟨bf, 0, none⟩) n1 cf, .slice (some ⟨bm, 0, none⟩) n2 cm, .slice none 0 0, .int .i64 0, .slice none 0 0, .int .i64 (cc : Int), .int .i64 mode, .bool false] 88)) := (Below.refl _ w2).alloc (Nat.le_refl _) _
          have hC3 := Cs.below hC hbb2 (by omega)
          rw [hsz2] at hV
          generalize (w2.alloc (.cells #[.slice (some ⟨bo, 0, none⟩) n0 co, .slice (some ⟨bf, 0, none⟩) n1 cf, .slice (some ⟨bm, 0, none⟩) n2 cm, .slice none 0 0, .int .i64 0, .slice none 0 0, .int .i64 (cc : Int), .int .i64 mode, .bool false] 88)) = V at *
          have hbV := hba.trans (hbb2.mono hba.size)
          have hb1s := hb1.size
          have hbs3 := hbb2.size
          have HIN : Hid (RvIn V (fun j => j = bo ∨ j = bf ∨ j = bm ∨ j = w1.heap.size + 1) ⟨w1.heap.size + 1, bo, co, bf, cf, bm, cm, n0, n1, n2, cc, mode⟩ false ⟨o, f, m, ⟨[], 0, []⟩⟩ none 0 none 0) :=
            ⟨hV, own_keepB HRO.out hbV, own_keepB HRF.out hbV, own_keepB HRM.out hbV, HLO.out, HLF.out, HLM.out, World.ownsRow_nil _ _ _ _, (fun e => absurd rfl e), (fun p hp => by cases hp), (fun b hb => by cases hb), hne, ⟨.inr (.inr (.inr rfl)), .inl rfl, .inr (.inl rfl), .inr (.inr (.inl rfl))⟩⟩
          have HSV := Lib.hid (own_keepB (own_keepB HS.out hba1) (hbb2.mono (by omega)))
          have HCV := Lib.hid hC3
          have HBV := Lib.hid hbV
          have HSZ : Hid (w1.heap.size + 2 ≤ V.heap.size ∧ wc.heap.size ≤ w1.heap.size ∧ a < w1.heap.size ∧ wc.heap.size ≤ a) := by have := Cs.lt hV; exact ⟨by omega, by omega, hal, hab⟩
          clear hV hbb2 hC3 hC hba hba1 hsz2 hbV hb1s hbs3 HS hb1 hal hab
          go_loopw [13] (fun s13 wx => ∃ i : Nat, s13 = .int .i64 i ∧ i ≤ kk ∧ (∀ (j : Nat) (x : Sl), j < i → L[j]? = some x → x.valid = true → x.block < ((n0 / cc : Nat) : Int)) ∧ Below V.heap.size V wx) (fun s13 _ => kk - (intOf s13).toNat)
          case atStart => exact ⟨0, rfl, Nat.zero_le _, fun j x hj => absurd hj (Nat.not_lt_zero _), Below.refl _ _⟩
          case round =>
            rename World => wx
            obtain ⟨i, rfl, hik, hgood, hbx⟩ := hrel
            have HG := Lib.hid hgood
            have h0 := HIN.out.keep hbx
            have hCx := Cs.below HCV.out hbx (by have := HSZ.out; omega)
            have q0 := hCx.cell 0
            have q1 := hCx.cell 1
            have q2 := hCx.cell 2
            have q3 := hCx.cell 3
            have H0 := Lib.hid h0
            have HSX := Lib.hid (own_keepB HSV.out hbx)
            have HBX := Lib.hid hbx
            clear hgood h0 hCx hbx
            by_cases hlt : i < kk
            · have t1 : (i : Int) < (kk : Int) := by omega
              obtain ⟨x, hx⟩ : ∃ x, L[i]? = some x := ⟨_, List.getElem?_eq_getElem (by rw [HLL.out]; exact hlt)⟩
              obtain ⟨b', o', e', -, hcc'⟩ := scs_read (Reads.of_own HSX.out) (by rw [HLL.out]; omega)
              injection e' with e'
              injection e' with e1' e2'
              subst e1'
              subst e2'
              obtain ⟨y0, y1, y2, y3⟩ := hcc' i x hx
              rw [Nat.zero_add] at y0 y1 y2 y3
              clear hcc'
              have HX := Lib.hid hx
              clear hx
              cases hv : x.valid
              · rw [hv] at y0
                go_wp2_with fail
                go_roundw
                case rel =>
                  refine ⟨i + 1, by go_num, by omega, fun j y hj hy hyv => ?_, HBX.out⟩
                  by_cases e : j = i
                  · subst e
                    rw [HX.out] at hy
                    injection hy with hy
                    rw [← hy, hv] at hyv
                    cases hyv
                  · exact HG.out j y (by omega) hy hyv
                case measure => simp [intOf]; omega
              · rw [hv] at y0
                obtain ⟨⟨hb0, hb1⟩, -⟩ := HOK.out.blk x (List.mem_of_getElem? HX.out) hv
                obtain ⟨b, hb⟩ : ∃ b : Nat, x.block = (b : Int) := ⟨x.block.toNat, by omega⟩
                rw [hb] at y2 hb1
                go_wp2_with fail
                refine (rwhole_any wx _ ⟨w1.heap.size + 1, bo, co, bf, cf, bm, cm, n0, n1, n2, cc, mode⟩ false _ b ⟨_, _, _, _, H0.out⟩ (by omega) (by show cc ≤ 127; omega)).mono ?_
                rintro e w2 ⟨rfl, hb2⟩
                have hbw := HBX.out.trans (hb2.mono HBX.out.size)
                by_cases hwh : (b + 1) * cc ≤ n0
                · have d1 : decide ((b + 1) * cc ≤ n0) = true := decide_eq_true hwh
                  have hlb : b + 1 ≤ n0 / cc := (Nat.le_div_iff_mul_le (by omega)).2 hwh
                  go_wp2_with fail
                  go_roundw
                  case rel =>
                    refine ⟨i + 1, by go_num, by omega, fun j y hj hy hyv => ?_, hbw⟩
                    by_cases e : j = i
                    · subst e
                      rw [HX.out] at hy
                      injection hy with hy
                      rw [← hy, hb]
                      omega
                    · exact HG.out j y (by omega) hy hyv
                  case measure => simp [intOf]; omega
                · have d1 : decide ((b + 1) * cc ≤ n0) = false := decide_eq_false hwh
                  have hlb : ¬ b + 1 ≤ n0 / cc := fun e => hwh ((Nat.le_div_iff_mul_le (by omega)).1 e)
                  have he : opnE m n0 n1 mode = 24 := by rw [HE3.out, if_pos (badS_yes HX.out hv (by rw [hb]; omega))]
                  go_wp2_with fail
                  go_ret2
                  exact .inl ⟨by rw [he]; decide, by rw [he]; rfl, HBV.out.trans (hbw.mono HBV.out.size)⟩
            · have hik2 : i = kk := by omega
              subst hik2
              obtain ⟨is, his, hz0, hz1, hz2⟩ := info_parts slot_info'
              go_wp2_with (at_builtin; refine wpList_append_reads _ (by rfl) (.const (.slice none 0 0)) (.tmp 73) _ (by rfl) wx.heap.size 31 is _ 4 24 Tryz.underlying56 his hz0 hz1 hz2 (by rfl) (by omega) (.slice none 0 0) 0 [] (by rfl) (World.ownsRow_nil _ _ _ _) (some ⟨a, 0, none⟩) i ca (scs L) (by rfl) (by rw [scs_length, HLL.out]) (Reads.of_own HSX.out) (scs_one L) (by simp only [maxLen]; omega) (by omega) (Nat.le_refl _) ?_; intro v5 w5 hown5 hg5 hat5; obtain ⟨A5, c5, hv5⟩ := own_form hown5; subst hv5; have hb5 := (Below.refl wx.heap.size wx).grown hg5 (Nat.le_refl _) (fun j e => by simp [Value.ownBlock] at e); have h5 := Lib.hid (H0.out.keep hb5); have z3 := h5.out.vol.cell 3; have f3 := h5.out.vol.free 3; have hCw := Lib.hid (Cs.below HCV.out (HBX.out.trans (hb5.mono HBX.out.size)) (by have := HSZ.out; omega)); have q0 := hCw.out.cell 0; have q1 := hCw.out.cell 1; have q2 := hCw.out.cell 2; have q3 := hCw.out.cell 3)
              have hwn := Below.size HBX.out
              have hbo := own_lt HRO.out bo rfl
              have hbf := own_lt HRF.out bf rfl
              have hbm := own_lt HRM.out bm rfl
              have hsz := HSZ.out
              have hE0 : opnE m n0 n1 mode = 0 := by
                rw [HE3.out, if_neg]
                rw [badS_false (fun k x hx hv => HG.out k x (by have := (List.getElem?_eq_some_iff.1 hx).1; rw [HLL.out] at this; exact this) hx hv)]
                decide
              have hgood : ∀ (k : Nat) (x : Sl), L[k]? = some x → x.valid = true → (x.block.toNat + 1) * cc ≤ n0 := by
                intro k x hx hv
                have h1 := HG.out k x (by have := (List.getElem?_eq_some_iff.1 hx).1; rw [HLL.out] at this; exact this) hx hv
                have h2 := (HOK.out.blk x (List.mem_of_getElem? hx) hv).1
                exact (Nat.le_div_iff_mul_le (by omega)).1 (by omega)
              rw [Nat.zero_add, List.nil_append] at hown5
              have hrv : RvIn (w5.setCell ⟨w1.heap.size + 1, 3, none⟩ (.slice A5 i c5)) _ ⟨w1.heap.size + 1, bo, co, bf, cf, bm, cm, n0, n1, n2, cc, mode⟩ false ⟨o, f, m, ⟨L, 0, []⟩⟩ _ _ _ _ := (H0.out.tight.keep hb5).setS (k := wx.heap.size) (fun j hj => hj.2) rfl HLL.out hown5
              have hbw : Below wc.heap.size wc w5 := HBV.out.trans ((HBX.out.trans (hb5.mono HBX.out.size)).mono HBV.out.size)
              have hsw : V.heap.size ≤ w5.heap.size := (HBX.out.trans (hb5.mono HBX.out.size)).size
              have hRI : RoI wc V.heap.size ⟨w1.heap.size + 1, bo, co, bf, cf, bm, cm, n0, n1, n2, cc, mode⟩ w1.heap.size a ca i L md op ((rv0 o f m).bg1 md 0) (w5.setCell ⟨w1.heap.size + 1, 3, none⟩ (.slice A5 i c5)) := by
                have hr0 : (rv0 o f m).bg1 md 0 = ⟨o, f, m, ⟨L, 0, []⟩⟩ := by
                  show rv0 o f m = _
                  unfold rv0
                  rw [HKM.out.1, HLe.out]
                rw [hr0]
                refine ⟨⟨_, ⟨_, _, _, _, hrv⟩, ⟨(Fr.of_below hbw).set (.inr (by show wc.heap.size ≤ w1.heap.size + 1; omega)) _, fun j hj => ?_⟩, fun j hj => ?_⟩, Cs.fr hCw.out (fr_set _ _ _ _) (by show w1.heap.size ≠ w1.heap.size + 1; omega), own_fr (own_lower (own_keepB HSX.out hb5) (Nat.zero_le _)) (fr_set _ _ _ _) (fun b hb e => by simp [Value.ownBlock] at hb; change b = w1.heap.size + 1 at e; omega), HOK.out, HLL.out, ?_, ?_, by simpa using hsw⟩
                · rcases hj with ⟨hj | hj | hj | hj, -⟩ | hj
                  · exact .inl (.inl hj)
                  · exact .inl (.inr (.inl hj))
                  · exact .inl (.inr (.inr hj))
                  · exact .inr (by omega)
                  · exact .inr (by omega)
                · rcases hj with ⟨hj, -⟩ | hj
                  · rcases hj with hj | hj | hj | hj
                    · exact .inl hj
                    · exact .inr (.inl hj)
                    · exact .inr (.inr (.inl hj))
                    · exact .inr (.inr (.inr (.inl hj)))
                  · exact .inr (.inr (.inr (.inr (by omega))))
                · refine ⟨?_, ?_, ?_, ?_, ?_⟩ <;> (try dsimp only) <;> omega
                · refine ⟨?_, ?_, ?_, ?_, ?_⟩ <;> (try dsimp only) <;> omega
              have HRI := Lib.hid hRI
              have HE0 := Lib.hid hE0
              have HGD := Lib.hid hgood
              clear hRI hE0 hgood hrv hbw hsw hown5 hg5 hat5 hb5 h5 z3 f3 hCw q0 q1 q2 q3 hwn hbo hbf hbm hsz H0 HSX HBX HG HSV HCV HBV HIN HE3 HRO HRF HRM
              generalize (w5.setCell ⟨w1.heap.size + 1, 3, none⟩ (.slice A5 i c5)) = w6 at *
              go_loopw [14] (fun s14 wx => ∃ q : Nat, s14 = .int .i64 q ∧ q ≤ i ∧ (op = false → q = 0) ∧ RoI wc V.heap.size ⟨w1.heap.size + 1, bo, co, bf, cf, bm, cm, n0, n1, n2, cc, mode⟩ w1.heap.size a ca i L md op ((rv0 o f m).bg1 md q) wx) (fun s14 _ => i - (intOf s14).toNat)
              case atStart => exact ⟨0, rfl, Nat.zero_le _, fun _ => rfl, HRI.out⟩
              case round =>
                rename World => wx
                obtain ⟨q, rfl, hqi, hq0, hR⟩ := hrel
                have q0 := hR.cell.cell 0
                have q1 := hR.cell.cell 1
                have q2 := hR.cell.cell 2
                have q3 := hR.cell.cell 3
                have HR := Lib.hid hR
                have HQ0 := Lib.hid hq0
                clear hR HRI hq0
                go_upto_region 16 with (fail)
                go_cut [87] from 78 to 120 (fun s w' => s = .bool (decide (q < i) && op) ∧ w' = wx)
                case first =>
                  by_cases hlt : q < i
                  · have t1 : (q : Int) < (i : Int) := by omega
                    cases op
                    · go_wp2_with fail
                      go_meet
                      case rel => exact ⟨by simp, rfl⟩
                    · go_wp2_with fail
                      go_meet
                      case rel => exact ⟨by simp [hlt], rfl⟩
                  · have t1 : ¬ (q : Int) < (i : Int) := by omega
                    go_wp2_with fail
                    go_meet
                    case rel => exact ⟨by simp [hlt], rfl⟩
                case rest =>
                  obtain ⟨rfl, hw⟩ := hcut
                  have hw := hw.symm
                  subst hw
                  cases hcd : (decide (q < i) && op)
                  · -- the end
                    have hbgA : (rv0 o f m).bg1 md q = (rv0 o f m).bgA md op := by
                      unfold RV.bgA
                      have hlen : (rv0 o f m).x.sl.length = i := by
                        show (slotsU m (opK m)).length = i
                        rw [slotsU_length, HKM.out.1]
                      have h0 := HQ0.out
                      cases op
                      · rw [h0 rfl]; rfl
                      · rw [if_pos rfl, hlen]
                        simp at hcd
                        rw [show q = i by omega]
                    have hR1 := HR.out
                    rw [hbgA] at hR1
                    have HR1 := Lib.hid hR1
                    have hR1L : ∀ (k : Nat) (x : Sl), ((rv0 o f m).bgA md op).x.sl[k]? = some x → x.valid = true → L[k]? = some x := by
                      intro k x hx hv
                      unfold RV.bgA at hx
                      have hL0 : ∀ x, (rv0 o f m).x.sl[k]? = some x → L[k]? = some x := fun x hx => by
                        change (slotsU m (opK m))[k]? = some x at hx
                        rw [HKM.out.1, HLe.out] at hx
                        exact hx
                      split at hx
                      · exact hL0 x (bg1_from md _ _ k x hx hv)
                      · exact hL0 x hx
                    have HR1L := Lib.hid hR1L
                    have HBA := Lib.hid (show (rv0 o f m).bgA md op = (rv0 o f m).bgA md op from rfl)
                    clear hR1 hbgA hR1L HR HQ0 hcd q0 q1 q2 q3
                    go_wp2_with fail
                    go_loopw [15] (fun s15 wx => ∃ q : Nat, s15 = .int .i64 q ∧ q ≤ i ∧ (mode ≠ 1 → q = 0) ∧ RoI wc V.heap.size ⟨w1.heap.size + 1, bo, co, bf, cf, bm, cm, n0, n1, n2, cc, mode⟩ w1.heap.size a ca i L md op (((rv0 o f m).bgA md op).bg3 cc q) wx) (fun s15 _ => i - (intOf s15).toNat)
                    case atStart => exact ⟨0, rfl, Nat.zero_le _, fun _ => rfl, HR1.out⟩
                    case round =>
                      rename World => wx
                      obtain ⟨q, rfl, hqi, hq0, hR⟩ := hrel
                      have q0 := hR.cell.cell 0
                      have q1 := hR.cell.cell 1
                      have q2 := hR.cell.cell 2
                      have q3 := hR.cell.cell 3
                      have HR := Lib.hid hR
                      have HQ0 := Lib.hid hq0
                      clear hR hq0
                      go_upto_region 22 with (fail)
                      go_cut [129] from 121 to 143 (fun s w' => s = .bool (decide (q < i) && decide (mode = 1)) ∧ w' = wx)
                      case first =>
                        by_cases hlt : q < i
                        · have t1 : (q : Int) < (i : Int) := by omega
                          by_cases hm1 : mode = 1
                          · have b1 : (mode == 1) = true := by simpa using hm1
                            have HM1 := Lib.hid hm1
                            clear hm1
                            go_wp2_with fail
                            go_meet
                            case rel => exact ⟨by rw [decide_eq_true hlt, decide_eq_true HM1.out]; rfl, rfl⟩
                          · have b1 : (mode == 1) = false := by simpa using hm1
                            have HM1 := Lib.hid hm1
                            clear hm1
                            go_wp2_with fail
                            go_meet
                            case rel => exact ⟨by rw [decide_eq_false HM1.out, Bool.and_false], rfl⟩
                        · have t1 : ¬ (q : Int) < (i : Int) := by omega
                          go_wp2_with fail
                          go_meet
                          case rel => exact ⟨by rw [decide_eq_false hlt, Bool.false_and], rfl⟩
                      case rest =>
                        obtain ⟨rfl, hw⟩ := hcut
                        have hw := hw.symm
                        subst hw
                        cases hcd : (decide (q < i) && decide (mode = 1))
                        · -- the end
                          have hbgB : ((rv0 o f m).bgA md op).bg3 cc q = (rv0 o f m).bgB cc md op mode := by
                            unfold RV.bgB
                            have h0 := HQ0.out
                            by_cases hm1 : mode = 1
                            · rw [if_pos hm1, HR1.out.len]
                              simp [hm1] at hcd
                              rw [show q = i by omega]
                            · rw [if_neg hm1, h0 hm1]; rfl
                          have hR2 := HR.out
                          rw [hbgB] at hR2
                          obtain ⟨Fx, hrv, hgo⟩ := hR2.go
                          obtain ⟨A', c', B', d', hrv⟩ := hrv
                          have HIV := Lib.hid hrv
                          have HR2 := Lib.hid hR2
                          have hhd := rhead_any i (cc : Int) mode true wx.drew
                          change Calls _ _ _ _ (fun e w' => _ ∧ Below wx.heap.size wx.drew w') at hhd
                          have HHD := Lib.hid hhd
                          clear hhd
                          have z2 := hrv.cells.2.2.1
                          have HGO := Lib.hid hgo
                          clear hgo hrv hR2 hbgB HQ0 hcd HR
                          go_wp2_with fail
                          go_region_with (go_at_call 12; go_loud (with_reducible refine HHD.out.mono ?_; rintro e w2 ⟨rfl, hb2⟩; have hb2' : Below wx.heap.size wx.drew w2 := hb2; have hb3 : Below wx.heap.size wx w2 := (Below.refl wx.heap.size wx).drew.trans hb2'; have h3 := Lib.hid (HIV.out.keep hb3); have z2 := h3.out.cells.2.2.1; have zm := h3.out.rm.cellAt 0 (by show 0 < n2 * 1; omega); rw [uv_at _ _ (by rw [h3.out.lm]; show 0 < n2; omega)] at zm; have zf := h3.out.rm.frozenAt 0; have hc3 := Cs.below HR2.out.cell hb3 (Cs.lt HR2.out.cell); have q0 := hc3.cell 0; have q1 := hc3.cell 1))
                          all_goals
                            go_wp2_with fail
                            go_ret2
                            have hbm : bm < wx.heap.size := own_lt HIV.out.rm bm rfl
                            have hR3 := HGO.out (w2.setCell ⟨bm, 0, none⟩ (.int .u64 ((hdI i (cc : Int) mode true : Nat) : Int))) { (rv0 o f m).bgB cc md op mode with m := ((rv0 o f m).bgB cc md op mode).m.set 0 (hdI i (cc : Int) mode true) } ⟨Fx, ⟨_, _, _, _, h3.out.setM 0 (hdI i (cc : Int) mode true)⟩, (Fr.of_below hb3).set (.inl h3.out.inF.2.2.2) _, fun j hj => .inl hj⟩ HR2.out.ok HR2.out.len
                            obtain ⟨F', q1, q2, -⟩ := hR3.rv
                            have hlen0 : (rv0 o f m).x.sl.length = i := by show (slotsU m (opK m)).length = i; rw [slotsU_length, HKM.out.1]
                            refine .inr ⟨HE0.out, w1.heap.size + 1, F', rfl, by have := HSZ.out; omega, ?_, q2⟩
                            unfold rvK RV.bgn
                            rw [HKM.out.2.1, HKM.out.2.2.1, HKM.out.2.2.2, hlen0]
                            exact q1
                        · rw [Bool.and_eq_true, decide_eq_true_eq, decide_eq_true_eq] at hcd
                          obtain ⟨hlt, hm1⟩ := hcd
                          have HM1 := Lib.hid hm1
                          clear hm1
                          obtain ⟨Fx, hrv, hgo⟩ := HR.out.go
                          obtain ⟨A', c', B', d', hrv⟩ := hrv
                          have hln := HR.out.len
                          obtain ⟨a', cp', hA, -, hal'⟩ := hrv.row.form (by omega)
                          injection hA with hA _ _
                          subst hA
                          have z3 := hrv.cells.2.2.2.1
                          rw [hln] at z3
                          obtain ⟨b', o', e', -, hcc'⟩ := scs_read (Reads.of_own hrv.row) (by omega)
                          injection e' with e'
                          injection e' with e1' e2'
                          subst e1'
                          subst e2'
                          obtain ⟨x, hx⟩ : ∃ x, (((rv0 o f m).bgA md op).bg3 cc q).x.sl[q]? = some x := ⟨_, List.getElem?_eq_getElem (by omega)⟩
                          obtain ⟨v0, v1, v2, v3⟩ := hcc' q x hx
                          rw [Nat.zero_add] at v0 v1 v2 v3
                          have t1 : (q : Int) < (i : Int) := by omega
                          have HX := Lib.hid hx
                          have HGO := Lib.hid hgo
                          have HRV := Lib.hid hrv
                          clear hcc' hx hgo hrv hln
                          cases hd : x.dirty
                          · rw [hd] at v1
                            go_wp2_with fail
                            go_roundw
                            case rel => exact ⟨q + 1, by go_num, by omega, (fun e => absurd HM1.out e), by rw [RV.bg3, CS.at_eq HX.out, if_neg (by rw [hd]; decide)]; exact HR.out⟩
                            case measure => simp [intOf]; omega
                          · rw [hd] at v1
                            have hv := HR.out.ok.dv HX.out hd
                            have hln := HR.out.len
                            have hxL : L[q]? = some x := HR1L.out q x (by
                              rw [← (bg3_same cc ((rv0 o f m).bgA md op) q HR1.out.ok (by rw [HR1.out.len]; omega)).2.1 q (Nat.le_refl _)]
                              exact HX.out) hv
                            have hwh := HGD.out q x hxL hv
                            have hb0 := (HOK.out.blk x (List.mem_of_getElem? hxL) hv).1.1
                            have hqf : (q + 1) * cc ≤ n1 := by
                              have h1 := Nat.mul_le_mul_right cc (show q + 1 ≤ i by omega)
                              have h2 := HZ.out
                              omega
                            have HXL := Lib.hid hxL
                            clear hxL
                            go_wp2_with fail
                            refine (rback_any wx Fx ⟨w1.heap.size + 1, bo, co, bf, cf, bm, cm, n0, n1, n2, cc, mode⟩ false _ q x true ⟨_, _, _, _, HRV.out⟩ HR.out.ok HX.out hv (by show _ + 1 ≤ n2; rw [hln]; have := HLM.out; omega) (by show n2 ≤ 65536; omega) hb0 hwh hqf hc1 hn0 hn1).mono ?_
                            rintro e w2 ⟨rfl, hp⟩
                            have hr2 := HGO.out w2 _ hp (HR.out.ok.setD q x HX.out hv false) (by show (List.set _ _ _).length = _; rw [List.length_set]; exact hln)
                            have HR2 := Lib.hid hr2
                            clear hr2 hp hln hwh hb0 hqf
                            go_wp2_with fail
                            go_roundw
                            case rel => exact ⟨q + 1, by go_num, by omega, (fun e => absurd HM1.out e), by rw [RV.bg3, CS.at_eq HX.out, if_pos hd]; exact HR2.out⟩
                            case measure => simp [intOf]; omega
                  · rw [Bool.and_eq_true, decide_eq_true_eq] at hcd
                    obtain ⟨hlt, hop⟩ := hcd
                    have HOPT := Lib.hid hop
                    clear hop
                    obtain ⟨x, hx⟩ : ∃ x, L[q]? = some x := ⟨_, List.getElem?_eq_getElem (by rw [HLL.out]; exact hlt)⟩
                    obtain ⟨b', o', e', -, hcc'⟩ := scs_read (Reads.of_own HR.out.sl) (by rw [HLL.out]; omega)
                    injection e' with e'
                    injection e' with e1' e2'
                    subst e1'
                    subst e2'
                    obtain ⟨y0, y1, y2, y3⟩ := hcc' q x hx
                    rw [Nat.zero_add] at y0 y1 y2 y3
                    clear hcc'
                    have HX := Lib.hid hx
                    clear hx
                    have t1 : (q : Int) < (i : Int) := by omega
                    have hxe : ((rv0 o f m).bg1 md q).x.at_ q = x := by
                      refine CS.at_eq ?_
                      rw [(bg1_same md _ q).2.1 q (Nat.le_refl _)]
                      show (slotsU m (opK m))[q]? = _
                      rw [HKM.out.1, HLe.out]
                      exact HX.out
                    have HXE := Lib.hid hxe
                    clear hxe
                    obtain ⟨g, hg⟩ : ∃ g, gone md x = g := ⟨_, rfl⟩
                    have HGE := Lib.hid hg
                    clear hg
                    go_upto_region 18 with (fail)
                    go_cut [109] from 78 to 120 (fun s w' => s = .bool g ∧ w' = wx)
                    case first =>
                      cases hv : x.valid
                      · rw [hv] at y0
                        have hg' : g = false := by rw [← HGE.out]; unfold gone; rw [hv]; rfl
                        subst hg'
                        go_wp2_with fail
                        go_meet
                        case rel => exact ⟨rfl, rfl⟩
                      · rw [hv] at y0
                        by_cases hm1 : md = 1
                        · have b1 : (md == 1) = true := by simpa using hm1
                          have hg' : g = true := by rw [← HGE.out]; unfold gone; rw [hv, decide_eq_true hm1]; rfl
                          subst hg'
                          clear hm1
                          go_wp2_with fail
                          go_meet
                          case rel => exact ⟨rfl, rfl⟩
                        · have b1 : (md == 1) = false := by simpa using hm1
                          have hgd : g = !x.dirty := by rw [← HGE.out]; unfold gone; rw [hv, decide_eq_false hm1]; rfl
                          clear hm1
                          cases hd : x.dirty
                          · rw [hd] at y1
                            have hg' : g = true := by rw [hgd, hd]; rfl
                            subst hg'
                            clear hgd
                            go_wp2_with fail
                            go_meet
                            case rel => exact ⟨rfl, rfl⟩
                          · rw [hd] at y1
                            have hg' : g = false := by rw [hgd, hd]; rfl
                            subst hg'
                            clear hgd
                            go_wp2_with fail
                            go_meet
                            case rel => exact ⟨rfl, rfl⟩
                    case rest =>
                      obtain ⟨rfl, hw⟩ := hcut
                      have hw := hw.symm
                      subst hw
                      cases g
                      · go_wp2_with fail
                        go_roundw
                        case rel => exact ⟨q + 1, by go_num, by omega, (fun e => by rw [HOPT.out] at e; cases e), by rw [RV.bg1, HXE.out, if_neg (by rw [HGE.out]; decide)]; exact HR.out⟩
                        case measure => simp [intOf]; omega
                      · obtain ⟨Fx, hrv, hgo⟩ := HR.out.go
                        obtain ⟨A', c', B', d', hrv⟩ := hrv
                        have hln := HR.out.len
                        obtain ⟨a', cp', hA, -, hal'⟩ := hrv.row.form (by omega)
                        injection hA with hA _ _
                        subst hA
                        have z3 := hrv.cells.2.2.2.1
                        rw [hln] at z3
                        have fz0 := hrv.row.frozenAt (q * 4)
                        have fz1 := hrv.row.frozenAt (q * 4 + 1)
                        have fz2 := hrv.row.frozenAt (q * 4 + 2)
                        have fz3 := hrv.row.frozenAt (q * 4 + 3)
                        obtain ⟨b', o', e', -, hcc'⟩ := scs_read (Reads.of_own hrv.row) (by omega)
                        injection e' with e'
                        injection e' with e1' e2'
                        subst e1'
                        subst e2'
                        obtain ⟨v0, v1, v2, v3⟩ := hcc' q x (by
                          rw [(bg1_same md _ q).2.1 q (Nat.le_refl _)]
                          show (slotsU m (opK m))[q]? = _
                          rw [HKM.out.1, HLe.out]
                          exact HX.out)
                        rw [Nat.zero_add] at v0 v1 v2 v3
                        clear hcc'
                        have HV0 := Lib.hid (hrv.setSl q nilS (by omega))
                        have HGO := Lib.hid hgo
                        have HRV := Lib.hid hrv
                        clear hgo hrv hln
                        go_wp2_with fail
                        change Calls _ _ _ (put4 wx a' q nilS) _
                        have hbs := bg1_same md (rv0 o f m) q
                        have hsl : ((rv0 o f m).bg1 md q).x.sl.length = i := HR.out.len
                        refine (rput_any _ Fx ⟨w1.heap.size + 1, bo, co, bf, cf, bm, cm, n0, n1, n2, cc, mode⟩ false _ q nilS ⟨_, _, _, _, HV0.out⟩ (by show (List.set _ _ _)[q]? = _; rw [List.getElem?_set_self (by omega)]) (by show (List.set _ _ _).length + 1 ≤ n2; rw [List.length_set, hsl]; have := HLM.out; omega) (by show n2 ≤ 65536; omega)).mono ?_
                        rintro e w2 ⟨rfl, hp⟩
                        have hr2 := HGO.out w2 (((rv0 o f m).bg1 md q).free q) (RvP.trans (⟨(fr_put4 wx a' q nilS).mono (fun j _ e => by have := HRV.out.rowO a' rfl; rw [e]; exact this), fun j hj => .inl hj⟩ : Turn Fx Fx wx (put4 wx a' q nilS)) hp) (HR.out.ok.clear q) (by show (List.set _ _ _).length = _; rw [List.length_set, hsl])
                        have HR2 := Lib.hid hr2
                        clear hr2 hp hbs hsl
                        go_wp2_with fail
                        go_roundw
                        case rel => exact ⟨q + 1, by go_num, by omega, (fun e => by rw [HOPT.out] at e; cases e), by rw [RV.bg1, HXE.out, if_pos HGE.out]; exact HR2.out⟩
                        case measure => simp [intOf]; omega
end Go.Proofs.YtogchafnnkajfaaGreat
namespace Go.Proofs.YtogchafnnkajfaaGreat
set_option linter.unusedVariables false
open Go.RowKit
attribute [local go_sem] Oper.semAt_some
theorem RvAt.tight {W : World} {F : Nat → Prop} {K : RC} {clo : Bool} {R : RV} (h : RvAt W F K clo R) : RvAt W (fun j => F j ∧ j < W.heap.size) K clo R := by
  obtain ⟨A, c, B, d, h⟩ := h
  exact ⟨A, c, B, d, h.tight⟩
structure P33 (lo : Nat) (W : World) (Fv Fr : Nat → Prop) (pb bL cL : Nat) (C : VC) (V : VS) (K : RC) (clo : Bool) (R : RV) : Prop where
  vol : VolAt W Fv C V
  rv : RvAt W Fr K clo R
  pair : Cs W pb 42 #[.pointer (some ⟨C.g, 0, none⟩), .slice (some ⟨bL, 0, none⟩) 3 cL, .pointer (some ⟨C.v, 0, none⟩), .pointer (some ⟨K.r, 0, none⟩)]
  spans : W.ownsRow 0 55 1 (.slice (some ⟨bL, 0, none⟩) 3 cL) 3 (spv [C.s0, C.s1, C.s2])
  dj : ∀ j, Fv j → ¬ Fr j
  ap : ¬ Fv pb ∧ ¬ Fr pb ∧ ¬ Fv bL ∧ ¬ Fr bL
  lo_ : lo ≤ pb ∧ lo ≤ bL
  lof : ∀ j, Fv j ∨ Fr j → lo ≤ j
def StartP33 (W : World) (n0 n1 n2 : Nat) (l0 l1 l2 : List Nat) (mode : Int) (e : Ending) (W' : World) : Prop :=
  ∃ pb, e = .returned (.tuple #[.pointer (some ⟨pb, 0, none⟩), .bool true]) ∧ Below W.heap.size W W' ∧
    (opnE l2 n0 n1 mode ≠ 0 → W'.cell? ⟨pb, 2, none⟩ = some (.pointer none)) ∧
    (opnE l2 n0 n1 mode = 0 → ∃ Fv Fr bL cL g s0 s1 s2 m v r bo co bf cf bm cm, P33 W.heap.size W' Fv Fr pb bL cL ⟨g, s0, s1, s2, m, v, n0, n1, n2, opC l2⟩ ((opn0 (DS.full [l0, l1, l2]) mode).bgn ⟨g, s0, s1, s2, m, v, n0, n1, n2, opC l2⟩ mode) (rvK r bo co bf cf bm cm n0 n1 n2 l2 mode) false ((rv0 l0 l1 l2).bgn (opC l2) (opM l2) (opO l2) mode))
set_option maxRecDepth 100000 in
set_option maxHeartbeats 8000000 in
theorem start33_any (W : World) (A0 A1 A2 : Option Addr) (n0 n1 n2 c0 c1 c2 : Nat) (l0 l1 l2 : List Nat) (hA0 : Reads W A0 (uv l0)) (hA1 : Reads W A1 (uv l1)) (hA2 : Reads W A2 (uv l2)) (h0 : l0.length = n0) (h1 : l1.length = n1) (h2 : l2.length = n2) (hn0 : 1 ≤ n0 ∧ n0 ≤ 60000) (hn1 : 1 ≤ n1 ∧ n1 ≤ 60000) (hn2 : 1 ≤ n2 ∧ n2 ≤ 60000) (hw0 : W64 l0) (hw1 : W64 l1) (hw2 : W64 l2) (mode : Int) (hmo : -9223372036854775808 ≤ mode ∧ mode ≤ 9223372036854775807) :
    Calls Tryz.prog 15 #[.slice A0 n0 c0, .slice A1 n1 c1, .slice A2 n2 c2, .int .i64 mode] W (StartP33 W n0 n1 n2 l0 l1 l2 mode) := by
  have HN0 := Lib.hid h0
  have HN1 := Lib.hid h1
  have HN2 := Lib.hid h2
  have HA0 := Lib.hid hA0
  have HA1 := Lib.hid hA1
  have HA2 := Lib.hid hA2
  obtain ⟨i0, hi0, hz0, hz1, hz2⟩ := info_parts u64_info
  clear h0 h1 h2 hA0 hA1 hA2
  go_enter Tryz.func15, Tryz.ntmps15
  go_wp2_with (first
    | (at_builtin; refine wpList_append_reads _ (by rfl) _ _ _ (by rfl) W.heap.size 26 i0 _ 1 8 Tryz.underlying29 hi0 hz0 hz1 hz2 rfl (by omega) (.slice none 0 0) 0 [] (by rfl) (World.ownsRow_nil _ _ _ _) A2 n2 c2 (uv l2) (by rfl) (by rw [uv_length, HN2.out]; omega) (HA2.out.keep HB6.out) (uv_one l2) (by simp only [maxLen]; omega) (by omega) (HB6.out.size) ?_; intro v w7 hown hg hat; obtain ⟨A7, c7, hv⟩ := own_form hown; subst hv; simp only [Nat.zero_add, List.nil_append] at hown; have HO7 := Lib.hid hown; have HX7 := Lib.hid ((Below.refl w6.heap.size w6).grown hg (Nat.le_refl _) (by intro k hk; simp [Value.ownBlock] at hk)); have HB7 := Lib.hid (HB6.out.trans (Below.mono ((Below.refl w6.heap.size w6).grown hg (Nat.le_refl _) (by intro k hk; simp [Value.ownBlock] at hk)) HB6.out.size)); clear hown hg hat)
    | (at_builtin; refine wpList_append_reads _ (by rfl) _ _ _ (by rfl) W.heap.size 26 i0 _ 1 8 Tryz.underlying29 hi0 hz0 hz1 hz2 rfl (by omega) (.slice none 0 0) 0 [] (by rfl) (World.ownsRow_nil _ _ _ _) A1 n1 c1 (uv l1) (by rfl) (by rw [uv_length, HN1.out]; omega) (HA1.out.keep HB5.out) (uv_one l1) (by simp only [maxLen]; omega) (by omega) (HB5.out.size) ?_; intro v w6 hown hg hat; obtain ⟨A6, c6, hv⟩ := own_form hown; subst hv; simp only [Nat.zero_add, List.nil_append] at hown; have HO6 := Lib.hid hown; have HX6 := Lib.hid ((Below.refl w5.heap.size w5).grown hg (Nat.le_refl _) (by intro k hk; simp [Value.ownBlock] at hk)); have HB6 := Lib.hid (HB5.out.trans (Below.mono ((Below.refl w5.heap.size w5).grown hg (Nat.le_refl _) (by intro k hk; simp [Value.ownBlock] at hk)) HB5.out.size)); clear hown hg hat)
    | (at_builtin; refine wpList_append_reads _ (by rfl) _ _ _ (by rfl) W.heap.size 26 i0 _ 1 8 Tryz.underlying29 hi0 hz0 hz1 hz2 rfl (by omega) (.slice none 0 0) 0 [] (by rfl) (World.ownsRow_nil _ _ _ _) A0 n0 c0 (uv l0) (by rfl) (by rw [uv_length, HN0.out]; omega) HA0.out (uv_one l0) (by simp only [maxLen]; omega) (by omega) (Nat.le_refl _) ?_; intro v w5 hown hg hat; obtain ⟨A5, c5, hv⟩ := own_form hown; subst hv; simp only [Nat.zero_add, List.nil_append] at hown; have HO5 := Lib.hid hown; have HX5 := Lib.hid ((Below.refl W.heap.size W).grown hg (Nat.le_refl _) (by intro k hk; simp [Value.ownBlock] at hk)); have HB5 := Lib.hid ((Below.refl W.heap.size W).grown hg (Nat.le_refl _) (by intro k hk; simp [Value.ownBlock] at hk)); clear hown hg hat))
  have hv : ([⟨A5, c5, l0⟩, ⟨A6, c6, l1⟩, ⟨A7, c7, l2⟩].map Im.v).toArray = #[Value.slice A5 n0 c5, Value.slice A6 n1 c6, Value.slice A7 n2 c7] := by simp [Im.v, HN0.out, HN1.out, HN2.out]
  have HC6 : Hid (Cs (w7.alloc (.cells #[Value.slice A5 n0 c5, Value.slice A6 n1 c6, Value.slice A7 n2 c7] 29)) w7.heap.size 29 ([⟨A5, c5, l0⟩, ⟨A6, c6, l1⟩, ⟨A7, c7, l2⟩].map Im.v).toArray) := by show Cs _ _ _ _; rw [hv]; exact Cs.new w7 _ _
  clear hv
  have hb8 : Below w7.heap.size w7 (w7.alloc (.cells #[Value.slice A5 n0 c5, Value.slice A6 n1 c6, Value.slice A7 n2 c7] 29)) := (Below.refl _ _).alloc (Nat.le_refl _) _
  have HR5 := Lib.hid ((((Reads.of_own HO5.out).keep HX6.out).keep HX7.out).keep hb8)
  have HR6 := Lib.hid (((Reads.of_own HO6.out).keep HX7.out).keep hb8)
  have HR7 := Lib.hid ((Reads.of_own HO7.out).keep hb8)
  have HB8 := Lib.hid (HB7.out.trans (hb8.mono HB7.out.size))
  have hs8 : (w7.alloc (.cells #[Value.slice A5 n0 c5, Value.slice A6 n1 c6, Value.slice A7 n2 c7] 29)).heap.size = w7.heap.size + 1 := by simp
  have hs7 : W.heap.size ≤ w7.heap.size := HB7.out.size
  clear hb8 HB5 HB6 HB7 HO5 HO6 HO7 HX5 HX6 HX7
  refine (loaded_any _ w7.heap.size 3 3 [⟨A5, c5, l0⟩, ⟨A6, c6, l1⟩, ⟨A7, c7, l2⟩] HC6.out rfl (by omega) (by intro p hp; simp at hp; rcases hp with rfl | rfl | rfl; exact HR5.out; exact HR6.out; exact HR7.out) (by intro p hp; simp at hp; rcases hp with rfl | rfl | rfl; rw [HN0.out]; exact ⟨hn0.1, by omega, hw0⟩; rw [HN1.out]; exact ⟨hn1.1, by omega, hw1⟩; rw [HN2.out]; exact ⟨hn2.1, by omega, hw2⟩)).mono ?_
  generalize (w7.alloc (.cells #[Value.slice A5 n0 c5, Value.slice A6 n1 c6, Value.slice A7 n2 c7] 29)) = w8 at *
  rintro e V1 ⟨g, rfl, hd, hbV⟩
  have HBV := Lib.hid (HB8.out.trans (hbV.mono HB8.out.size))
  have hsV := hbV.size
  obtain ⟨F, hdF, hge⟩ : ∃ F : Nat → Prop, DskAt V1 F g (DS.full [l0, l1, l2]) ∧ ∀ j, F j → w8.heap.size ≤ j ∧ j < V1.heap.size := ⟨_, hd.tight, by intro j hj; have := hj.1; exact ⟨this, hj.2⟩⟩
  have HD := Lib.hid hdF
  have HGE := Lib.hid hge
  clear hd hge hbV HB8 HC6 HR5 HR6 HR7 hdF
  go_wp2_with fail
  refine (spans_any V1 _ g (DS.full [l0, l1, l2]) HD.out (by intro x hx; simp [DS.full] at hx; rcases hx with rfl | rfl | rfl; show 1 ≤ l0.length; rw [HN0.out]; exact hn0.1; show 1 ≤ l1.length; rw [HN1.out]; exact hn1.1; show 1 ≤ l2.length; rw [HN2.out]; exact hn2.1)).mono ?_
  rintro e V2 ⟨v2, sps, rfl, hsl, hown, hsp, hb2⟩
  have hsl2 : sps.length = 3 := hsl
  obtain ⟨s0, s1, s2, rfl⟩ : ∃ s0 s1 s2, sps = [s0, s1, s2] := by
    rcases sps with _ | ⟨s0, _ | ⟨s1, _ | ⟨s2, _ | ⟨q, r⟩⟩⟩⟩
    · simp at hsl2
    · simp at hsl2
    · simp at hsl2
    · exact ⟨s0, s1, s2, rfl⟩
    · simp at hsl2
  obtain ⟨hs0, hsg0⟩ := hsp 0 s0 rfl
  obtain ⟨hs1, hsg1⟩ := hsp 1 s1 rfl
  obtain ⟨hs2, hsg2⟩ := hsp 2 s2 rfl
  change SpanAt V2 s0 g 0 l0.length at hs0
  change SpanAt V2 s1 g 1 l1.length at hs1
  change SpanAt V2 s2 g 2 l2.length at hs2
  have hs02 : s0 ≠ s2 := by
    rintro rfl
    have := (Cs.cell hs0 1).symm.trans (Cs.cell hs2 1)
    simp at this
  have hs12 : s1 ≠ s2 := by
    rintro rfl
    have := (Cs.cell hs1 1).symm.trans (Cs.cell hs2 1)
    simp at this
  rw [HN0.out] at hs0
  rw [HN1.out] at hs1
  rw [HN2.out] at hs2
  change V2.ownsRow V1.heap.size _ 1 v2 3 _ at hown
  obtain ⟨bL, cL, hvL, hbL, hbLl⟩ := hown.form (by omega)
  subst hvL
  have y0 : V2.cell? ⟨bL, 0, none⟩ = some (.iface 176 (.pointer (some ⟨s0, 0, none⟩))) := (hown.cellAt 0 (by omega)).trans rfl
  have y1 : V2.cell? ⟨bL, 1, none⟩ = some (.iface 176 (.pointer (some ⟨s1, 0, none⟩))) := (hown.cellAt 1 (by omega)).trans rfl
  have y2 : V2.cell? ⟨bL, 2, none⟩ = some (.iface 176 (.pointer (some ⟨s2, 0, none⟩))) := (hown.cellAt 2 (by omega)).trans rfl
  have HD2 := Lib.hid (HD.out.keep hb2)
  have HS0 := Lib.hid hs0
  have HS1 := Lib.hid hs1
  have HS2 := Lib.hid hs2
  have HL := Lib.hid hown
  have HB2 := Lib.hid (HBV.out.trans (hb2.mono HBV.out.size))
  have hV2s : V1.heap.size ≤ V2.heap.size := hb2.size
  have hne0 : bL ≠ s0 := own_cs_ne hown hs0 (by decide)
  have hne1 : bL ≠ s1 := own_cs_ne hown hs1 (by decide)
  have hne2 : bL ≠ s2 := own_cs_ne hown hs2 (by decide)
  have hs0l := Cs.lt hs0
  have hs1l := Cs.lt hs1
  have hs2l := Cs.lt hs2
  have hnf : ∀ j, V1.heap.size ≤ j → ¬ F j := fun j hj e => by have := HGE.out j e; omega
  have HNF := Lib.hid hnf
  clear hs0 hs1 hs2 hown hb2 hsp hsl hsl2 HBV HD hnf
  obtain ⟨p1, p2⟩ := full3 ⟨g, s0, s1, s2, g, g, n0, n1, n2, 1⟩ l0 l1 l2 HN0.out HN1.out HN2.out
  have hb3 : Below V2.heap.size V2 V2.drew := (Below.refl _ V2).drew
  have HOP := Lib.hid (vopen_any V2.drew F (fun j => F j ∨ j = s0 ∨ j = s1 ∨ j = s2) g s0 s1 s2 n0 n1 n2 (DS.full [l0, l1, l2]) mode (HD2.out.keep hb3) HS0.out HS1.out HS2.out (fun j hj => .inl hj) (.inr (.inl rfl)) (.inr (.inr (.inl rfl))) (.inr (.inr (.inr rfl))) (HNF.out _ (by omega)) (HNF.out _ (by omega)) (HNF.out _ (by omega)) hs02 hs12 p1.hea p1.dn p1.fu
    hw2 (by omega) (by omega) (by omega) (by omega) (by show 0 ≤ _; omega) (by show (0 : Int) ≤ _; omega) hmo)
  unfold spanV at HOP
  have nL : ¬ (F bL ∨ bL = s0 ∨ bL = s1 ∨ bL = s2) := by
    rintro (e | e | e | e)
    · exact HNF.out _ (by omega) e
    · exact hne0 e
    · exact hne1 e
    · exact hne2 e
  clear p1 p2 hb3
  go_wp2_with fail
  go_region_held3 (fun w' => w'.cell? ⟨bL, 0, none⟩ = some (.iface 176 (.pointer (some ⟨s0, 0, none⟩))) ∧ w'.cell? ⟨bL, 1, none⟩ = some (.iface 176 (.pointer (some ⟨s1, 0, none⟩))) ∧ w'.cell? ⟨bL, 2, none⟩ = some (.iface 176 (.pointer (some ⟨s2, 0, none⟩))))
    (first | with_reducible exact yy | exact ⟨y0, y1, y2⟩)
    ((go_at_call 24; (with_reducible refine HOP.out.mono ?_); rintro e V3 ho; have ho' : ∃ vp F3, e = .returned (.tuple #[vp, .int .i64 (opnE l2 n0 n1 mode)]) ∧ Turn (fun j => F j ∨ j = s0 ∨ j = s1 ∨ j = s2) F3 V2.drew V3 ∧ (opnE l2 n0 n1 mode ≠ 0 → vp = .pointer none) ∧ (opnE l2 n0 n1 mode = 0 → ∃ m v, vp = .pointer (some ⟨v, 0, none⟩) ∧ VolAt V3 F3 ⟨g, s0, s1, s2, m, v, n0, n1, n2, opC l2⟩ ((opn0 (DS.full [l0, l1, l2]) mode).bgn ⟨g, s0, s1, s2, m, v, n0, n1, n2, opC l2⟩ mode)) := (ho.elim (fun ⟨h1, h2, F', h3⟩ => ⟨_, F', h2, h3, fun _ => rfl, fun e => absurd e h1⟩) (fun ⟨h1, m, v, F', h2, h3, h4⟩ => ⟨_, F', h2.trans (by rw [show opnE l2 n0 n1 mode = 0 from h1]), h4, fun e => absurd h1 e, fun _ => ⟨m, v, rfl, h3⟩⟩)); obtain ⟨vp, F3, rfl, ht3, hz, hv3⟩ := ho'; have HT3 := Lib.hid ht3; have HZ := Lib.hid hz; have HV3 := Lib.hid hv3; clear ho ht3 hz hv3; have yy : V3.cell? ⟨bL, 0, none⟩ = some (.iface 176 (.pointer (some ⟨s0, 0, none⟩))) ∧ V3.cell? ⟨bL, 1, none⟩ = some (.iface 176 (.pointer (some ⟨s1, 0, none⟩))) ∧ V3.cell? ⟨bL, 2, none⟩ = some (.iface 176 (.pointer (some ⟨s2, 0, none⟩))) := ⟨(HT3.out.1.cell (b := bL) (i := 0) hbLl nL).trans y0, (HT3.out.1.cell (b := bL) (i := 1) hbLl nL).trans y1, (HT3.out.1.cell (b := bL) (i := 2) hbLl nL).trans y2⟩))
  have ht3 : Turn (fun j => F j ∨ j = s0 ∨ j = s1 ∨ j = s2) F3 V2 V3 := (Turn.of_below (Below.refl _ V2).drew).trans HT3.out
  have hlt0 : ∀ j, (F j ∨ j = s0 ∨ j = s1 ∨ j = s2) → W.heap.size ≤ j := by
    rintro j (e | e | e | e)
    · have := HGE.out j e; omega
    · omega
    · omega
    · omega
  have HB3 := Lib.hid (HB2.out.trans (ht3.1.below HB2.out.size hlt0))
  have hs3 : V2.heap.size ≤ V3.heap.size := ht3.1.size
  have HL3 := Lib.hid (own_fr HL.out ht3.1 (fun b hb => by simp [Value.ownBlock] at hb; rw [← hb]; exact nL))
  have HF3 : Hid (∀ j, F3 j → (W.heap.size ≤ j ∧ j ≠ bL)) := by
    intro j hj
    rcases ht3.2 j hj with e | e
    · exact ⟨hlt0 j e, fun e' => nL (e' ▸ e)⟩
    · have := HB2.out.size; exact ⟨by omega, by omega⟩
  clear ht3 hlt0 nL yy y0 y1 y2 HL HD2 HS0 HS1 HS2 HOP HT3 HGE HNF HB2 hne0 hne1 hne2 hs0l hs1l hs2l hs02 hs12
  go_wp2_with (first
    | (at_builtin; refine wpList_append_reads _ (by rfl) _ _ _ (by rfl) x6.heap.size 26 i0 _ 1 8 Tryz.underlying29 hi0 hz0 hz1 hz2 rfl (by omega) (.slice none 0 0) 0 [] (by rfl) (World.ownsRow_nil _ _ _ _) A2 n2 c2 (uv l2) (by rfl) (by rw [uv_length, HN2.out]; omega) (HA2.out.keep HB6x.out) (uv_one l2) (by simp only [maxLen]; omega) (by omega) (Nat.le_refl _) ?_; intro v x7 hown hg hat; simp only [Nat.zero_add, List.nil_append] at hown; obtain ⟨bm, cm, hv, hbm, hlm⟩ := hown.form (by omega); subst hv; have HOm := Lib.hid hown; have HX7x := Lib.hid ((Below.refl x6.heap.size x6).grown hg (Nat.le_refl _) (by intro k hk; simp [Value.ownBlock] at hk)); have HB7x := Lib.hid (HB6x.out.trans (HX7x.out.mono HB6x.out.size)); have hs7x := HX7x.out.size; clear hown hg hat)
    | (at_builtin; refine wpList_append_reads _ (by rfl) _ _ _ (by rfl) x5.heap.size 26 i0 _ 1 8 Tryz.underlying29 hi0 hz0 hz1 hz2 rfl (by omega) (.slice none 0 0) 0 [] (by rfl) (World.ownsRow_nil _ _ _ _) A1 n1 c1 (uv l1) (by rfl) (by rw [uv_length, HN1.out]; omega) (HA1.out.keep HB5x.out) (uv_one l1) (by simp only [maxLen]; omega) (by omega) (Nat.le_refl _) ?_; intro v x6 hown hg hat; simp only [Nat.zero_add, List.nil_append] at hown; obtain ⟨bf, cf, hv, hbf, hlf⟩ := hown.form (by omega); subst hv; have HOf := Lib.hid hown; have HX6x := Lib.hid ((Below.refl x5.heap.size x5).grown hg (Nat.le_refl _) (by intro k hk; simp [Value.ownBlock] at hk)); have HB6x := Lib.hid (HB5x.out.trans (HX6x.out.mono HB5x.out.size)); have hs6x := HX6x.out.size; clear hown hg hat)
    | (at_builtin; refine wpList_append_reads _ (by rfl) _ _ _ (by rfl) V3.heap.size 26 i0 _ 1 8 Tryz.underlying29 hi0 hz0 hz1 hz2 rfl (by omega) (.slice none 0 0) 0 [] (by rfl) (World.ownsRow_nil _ _ _ _) A0 n0 c0 (uv l0) (by rfl) (by rw [uv_length, HN0.out]; omega) (HA0.out.keep HB3.out) (uv_one l0) (by simp only [maxLen]; omega) (by omega) (Nat.le_refl _) ?_; intro v x5 hown hg hat; simp only [Nat.zero_add, List.nil_append] at hown; obtain ⟨bo, co, hv, hbo, hlo⟩ := hown.form (by omega); subst hv; have HOo := Lib.hid hown; have HX5x := Lib.hid ((Below.refl V3.heap.size V3).grown hg (Nat.le_refl _) (by intro k hk; simp [Value.ownBlock] at hk)); have HB5x := Lib.hid (HB3.out.trans (HX5x.out.mono HB3.out.size)); have hs5x := HX5x.out.size; clear hown hg hat))
  have hbO : W.heap.size ≤ V3.heap.size := HB3.out.size
  have HB7 := Lib.hid (HX5x.out.trans ((HX6x.out.mono hs5x).trans (HX7x.out.mono (by omega)) |>.mono (Nat.le_refl _)))
  refine (rvopen_any x7 bo co bf cf bm cm n0 n1 n2 l0 l1 l2 mode (own_lower (own_keepB (own_keepB HOo.out HX6x.out) HX7x.out) (Nat.zero_le _)) (own_lower (own_keepB HOf.out HX7x.out) (Nat.zero_le _)) (own_lower HOm.out (Nat.zero_le _)) HN0.out HN1.out HN2.out hw2 (by omega) (by omega) (by omega) (by omega)).mono ?_
  rintro e x8 hro
  obtain ⟨rp, F8, rfl, ht8, hz8, hv8⟩ : ∃ rp F8, e = .returned (.tuple #[rp, .int .i64 (opnE l2 n0 n1 mode)]) ∧ Turn (fun j => j = bo ∨ j = bf ∨ j = bm) F8 x7 x8 ∧ (opnE l2 n0 n1 mode ≠ 0 → rp = .pointer none) ∧ (opnE l2 n0 n1 mode = 0 → ∃ r, rp = .pointer (some ⟨r, 0, none⟩) ∧ x7.heap.size ≤ r ∧ RvAt x8 F8 (rvK r bo co bf cf bm cm n0 n1 n2 l2 mode) false ((rv0 l0 l1 l2).bgn (opC l2) (opM l2) (opO l2) mode)) :=
    hro.elim (fun ⟨h1, h2, h3⟩ => ⟨_, _, h2, Turn.of_below h3, fun _ => rfl, fun e => absurd e h1⟩) (fun ⟨h1, r, F', h2, h3, h4, h5⟩ => ⟨_, F', h2.trans (by rw [h1]), h5, fun e => absurd h1 e, fun _ => ⟨r, rfl, h3, h4⟩⟩)
  have h7s : V3.heap.size ≤ x7.heap.size := HB7.out.size
  have h8s : x7.heap.size ≤ x8.heap.size := ht8.1.size
  have HT8 := Lib.hid ht8
  have HV8 := Lib.hid hv8
  have hlo8 : ∀ j, (j = bo ∨ j = bf ∨ j = bm) → V3.heap.size ≤ j := by
    rintro j (e | e | e) <;> omega
  have HB8 := Lib.hid (HB7.out.trans (ht8.1.below h7s hlo8))
  clear hro ht8 hv8
  by_cases hop : opnE l2 n0 n1 mode = 0
  · obtain ⟨m, v, rfl, hv⟩ := HV3.out hop
    obtain ⟨r, rfl, hr7, hv8⟩ := HV8.out hop
    have HOPE := Lib.hid hop
    have HVA := Lib.hid hv.tight
    have HRA := Lib.hid hv8
    clear hop hv hv8 HZ HV3 HV8 hz8
    generalize opnE l2 n0 n1 mode = ez
    go_wp2_with fail
    go_ret2
    have bE : Below V3.heap.size V3 (x8.alloc (.cells #[.pointer (some ⟨g, 0, none⟩), .slice (some ⟨bL, 0, none⟩) 3 cL, .pointer (some ⟨v, 0, none⟩), .pointer (some ⟨r, 0, none⟩)] 42)) := HB8.out.alloc (by omega) _
    have bE8 : Below x8.heap.size x8 (x8.alloc (.cells #[.pointer (some ⟨g, 0, none⟩), .slice (some ⟨bL, 0, none⟩) 3 cL, .pointer (some ⟨v, 0, none⟩), .pointer (some ⟨r, 0, none⟩)] 42)) := (Below.refl _ x8).alloc (Nat.le_refl _) _
    have hr8 : ∀ j, F8 j → V3.heap.size ≤ j := fun j hj => (HT8.out.2 j hj).elim (hlo8 j) (fun e => by omega)
    refine ⟨x8.heap.size, rfl, HB3.out.trans (bE.mono HB3.out.size), fun e => absurd HOPE.out e, fun _ => ⟨fun j => F3 j ∧ j < V3.heap.size, fun j => F8 j ∧ j < x8.heap.size, bL, cL, g, s0, s1, s2, m, v, r, bo, co, bf, cf, bm, cm, ?_⟩⟩
    refine ⟨HVA.out.keep bE, RvAt.keep (RvAt.tight HRA.out) bE8, Cs.new x8 _ _, own_lower (own_keepB HL3.out bE) (Nat.zero_le _), fun j hj hk => by have := hr8 j hk.1; have := hj.2; omega, ⟨fun hj => by have := hj.2; omega, fun hj => by have := hj.2; omega, fun hj => (HF3.out _ hj.1).2 rfl, fun hj => by have := hr8 _ hj.1; omega⟩, by omega, ?_⟩
    rintro j (hj | hj)
    · exact (HF3.out _ hj.1).1
    · have := hr8 _ hj.1; omega
  · have hvp := HZ.out hop
    subst hvp
    have hrp := hz8 hop
    subst hrp
    have HOPE := Lib.hid hop
    clear hop HZ HV3 HV8 hz8
    generalize opnE l2 n0 n1 mode = ez
    go_wp2_with fail
    go_ret2
    have bE := HB8.out.alloc (by omega) (.cells #[.pointer (some ⟨g, 0, none⟩), .slice (some ⟨bL, 0, none⟩) 3 cL, .pointer none, .pointer none] 42)
    exact ⟨x8.heap.size, rfl, HB3.out.trans (bE.mono HB3.out.size), fun _ => (Cs.new x8 42 #[.pointer (some ⟨g, 0, none⟩), .slice (some ⟨bL, 0, none⟩) 3 cL, .pointer none, .pointer none]).cell 2, fun e => absurd e HOPE.out⟩
end Go.Proofs.YtogchafnnkajfaaGreat
namespace Go.Proofs.YtogchafnnkajfaaGreat
set_option linter.unusedVariables false
open Go.RowKit
structure PK (C : VC) (K : RC) : Prop where
  ch : K.chunk = C.chunk
  e0 : K.n0 = C.n0
  e1 : K.n1 = C.n1
  e2 : K.n2 = C.n2
  c1 : 1 ≤ C.chunk ∧ C.chunk ≤ 64
  b0 : 1 ≤ C.n0 ∧ C.n0 ≤ 60000
  b1 : 1 ≤ C.n1 ∧ C.n1 ≤ 60000
  b2 : 1 ≤ C.n2 ∧ C.n2 ≤ 60000
  md : K.mode = 1 ∨ K.mode = 2
section
variable {lo : Nat} {W W' : World} {Fv Fq Fv' Fq' G : Nat → Prop} {pb bL cL : Nat} {C : VC} {V V' : VS} {K : RC} {clo clo' : Bool} {Q Q' : RV}
theorem P33.fr (h : P33 lo W Fv Fq pb bL cL C V K clo Q) (hf : Fr G W W') (hn : ∀ j, (Fv j ∨ Fq j ∨ j = pb ∨ j = bL) → ¬ G j) : P33 lo W' Fv Fq pb bL cL C V K clo Q :=
  ⟨h.vol.fr hf (fun j hj => hn j (.inl hj)), h.rv.fr hf (fun j hj => hn j (.inr (.inl hj))), h.pair.fr hf (hn _ (.inr (.inr (.inl rfl)))), own_fr h.spans hf (fun b hb => by simp [Value.ownBlock] at hb; exact hn _ (.inr (.inr (.inr hb.symm)))), h.dj, h.ap, h.lo_, h.lof⟩
theorem P33.keep (h : P33 lo W Fv Fq pb bL cL C V K clo Q) (hb : Below W.heap.size W W') : P33 lo W' Fv Fq pb bL cL C V K clo Q := h.fr (G := fun _ => False) (Fr.of_below hb) (fun _ _ h => h)
theorem P33.lt (h : P33 lo W Fv Fq pb bL cL C V K clo Q) : pb < W.heap.size ∧ bL < W.heap.size ∧ lo ≤ W.heap.size := by
  have h1 := h.pair.lt
  have h2 := own_lt h.spans _ rfl
  have h3 := h.lo_
  exact ⟨h1, h2, by omega⟩
theorem P33.tight (h : P33 lo W Fv Fq pb bL cL C V K clo Q) : P33 lo W (fun j => Fv j ∧ j < W.heap.size) (fun j => Fq j ∧ j < W.heap.size) pb bL cL C V K clo Q :=
  ⟨h.vol.tight, h.rv.tight, h.pair, h.spans, fun j hj hk => h.dj j hj.1 hk.1, ⟨fun e => h.ap.1 e.1, fun e => h.ap.2.1 e.1, fun e => h.ap.2.2.1 e.1, fun e => h.ap.2.2.2 e.1⟩, h.lo_, fun j hj => h.lof j (hj.elim (fun e => .inl e.1) (fun e => .inr e.1))⟩
theorem P33.vd (h : P33 lo W Fv Fq pb bL cL C V K clo Q) (hv : VolAt W' Fv' C V') (ht : Turn Fv Fv' W W') : P33 lo W' Fv' (fun j => Fq j ∧ j < W.heap.size) pb bL cL C V' K clo Q := by
  have hl := h.lt
  refine ⟨hv, h.rv.tight.fr ht.1 (fun j hj e => h.dj j e hj.1), h.pair.fr ht.1 h.ap.1, own_fr h.spans ht.1 (fun b hb => by simp [Value.ownBlock] at hb; rw [← hb]; exact h.ap.2.2.1), fun j hj hk => ?_, ⟨fun e => ?_, fun e => h.ap.2.1 e.1, fun e => ?_, fun e => h.ap.2.2.2 e.1⟩, h.lo_, fun j hj => ?_⟩
  · rcases ht.2 j hj with e | e
    · exact h.dj j e hk.1
    · have := hk.2; omega
  · rcases ht.2 _ e with e | e
    · exact h.ap.1 e
    · omega
  · rcases ht.2 _ e with e | e
    · exact h.ap.2.2.1 e
    · omega
  · rcases hj with hj | hj
    · rcases ht.2 _ hj with e | e
      · exact h.lof j (.inl e)
      · omega
    · exact h.lof j (.inr hj.1)
theorem P33.rd (h : P33 lo W Fv Fq pb bL cL C V K clo Q) (hv : RvAt W' Fq' K clo' Q') (ht : Turn Fq Fq' W W') : P33 lo W' (fun j => Fv j ∧ j < W.heap.size) Fq' pb bL cL C V K clo' Q' := by
  have hl := h.lt
  refine ⟨h.vol.tight.fr ht.1 (fun j hj e => h.dj j hj.1 e), hv, h.pair.fr ht.1 h.ap.2.1, own_fr h.spans ht.1 (fun b hb => by simp [Value.ownBlock] at hb; rw [← hb]; exact h.ap.2.2.2), fun j hj hk => ?_, ⟨fun e => h.ap.1 e.1, fun e => ?_, fun e => h.ap.2.2.1 e.1, fun e => ?_⟩, h.lo_, fun j hj => ?_⟩
  · rcases ht.2 j hk with e | e
    · exact h.dj j hj.1 e
    · have := hj.2; omega
  · rcases ht.2 _ e with e | e
    · exact h.ap.2.1 e
    · omega
  · rcases ht.2 _ e with e | e
    · exact h.ap.2.2.2 e
    · omega
  · rcases hj with hj | hj
    · exact h.lof j (.inl hj.1)
    · rcases ht.2 _ hj with e | e
      · exact h.lof j (.inr e)
      · omega
theorem P33.cells (h : P33 lo W Fv Fq pb bL cL C V K clo Q) : W.cell? ⟨pb, 0, none⟩ = some (.pointer (some ⟨C.g, 0, none⟩)) ∧ W.cell? ⟨pb, 1, none⟩ = some (.slice (some ⟨bL, 0, none⟩) 3 cL) ∧ W.cell? ⟨pb, 2, none⟩ = some (.pointer (some ⟨C.v, 0, none⟩)) ∧ W.cell? ⟨pb, 3, none⟩ = some (.pointer (some ⟨K.r, 0, none⟩)) ∧
    W.cell? ⟨bL, 0, none⟩ = some (.iface 176 (.pointer (some ⟨C.s0, 0, none⟩))) ∧ W.cell? ⟨bL, 1, none⟩ = some (.iface 176 (.pointer (some ⟨C.s1, 0, none⟩))) ∧ W.cell? ⟨bL, 2, none⟩ = some (.iface 176 (.pointer (some ⟨C.s2, 0, none⟩))) :=
  ⟨h.pair.cell 0, h.pair.cell 1, h.pair.cell 2, h.pair.cell 3, (h.spans.cellAt 0 (by omega)).trans rfl, (h.spans.cellAt 1 (by omega)).trans rfl, (h.spans.cellAt 2 (by omega)).trans rfl⟩
end
structure PFr (lo : Nat) (X : Nat → Prop) (W W' : World) : Prop where
  fr : Fr (fun j => ¬ X j) W W'
  bel : Below lo W W'
theorem PFr.cell {lo : Nat} {X : Nat → Prop} {W W' : World} (h : PFr lo X W W') {b i : Nat} (hx : X b) (hl : b < W.heap.size) : W'.cell? ⟨b, i, none⟩ = W.cell? ⟨b, i, none⟩ := h.fr.cell hl (fun e => e hx)
structure PI (lo : Nat) (W0 W : World) (X Fv Fq : Nat → Prop) (pb bL cL : Nat) (C : VC) (V : VS) (K : RC) (R Q : RV) (n : Nat) : Prop where
  p : P33 lo W Fv Fq pb bL cL C V K false Q
  y : PY C V R n
  pm : V.pm = decide (K.mode = 2)
  md : V.md = K.mode
  bel : Below W0.heap.size W0 W
  low : W0.heap.size ≤ lo
  out : ∀ j, X j → ¬ Fv j ∧ ¬ Fq j ∧ j < W.heap.size
def PP (lo : Nat) (W0 W : World) (X : Nat → Prop) (pb bL cL : Nat) (C : VC) (K : RC) (R Q : RV) (n : Nat) : Prop := ∃ Fv Fq V, PI lo W0 W X Fv Fq pb bL cL C V K R Q n
section
variable {lo : Nat} {W0 W W' : World} {X : Nat → Prop} {pb bL cL : Nat} {C : VC} {K : RC} {R Q : RV} {n : Nat}
theorem PP.cells (h : PP lo W0 W X pb bL cL C K R Q n) : W.cell? ⟨pb, 0, none⟩ = some (.pointer (some ⟨C.g, 0, none⟩)) ∧ W.cell? ⟨pb, 1, none⟩ = some (.slice (some ⟨bL, 0, none⟩) 3 cL) ∧ W.cell? ⟨pb, 2, none⟩ = some (.pointer (some ⟨C.v, 0, none⟩)) ∧ W.cell? ⟨pb, 3, none⟩ = some (.pointer (some ⟨K.r, 0, none⟩)) ∧
    W.cell? ⟨bL, 0, none⟩ = some (.iface 176 (.pointer (some ⟨C.s0, 0, none⟩))) ∧ W.cell? ⟨bL, 1, none⟩ = some (.iface 176 (.pointer (some ⟨C.s1, 0, none⟩))) ∧ W.cell? ⟨bL, 2, none⟩ = some (.iface 176 (.pointer (some ⟨C.s2, 0, none⟩))) := by
  obtain ⟨Fv, Fq, V, h⟩ := h
  exact h.p.cells
theorem PP.mono (h : PP lo W0 W X pb bL cL C K R Q n) {m : Nat} (hm : n ≤ m) : PP lo W0 W X pb bL cL C K R Q m := by
  obtain ⟨Fv, Fq, V, h⟩ := h
  exact ⟨Fv, Fq, V, h.p, h.y.mono hm, h.pm, h.md, h.bel, h.low, h.out⟩
theorem PP.keep (h : PP lo W0 W X pb bL cL C K R Q n) (hb : Below W.heap.size W W') : PP lo W0 W' X pb bL cL C K R Q n := by
  obtain ⟨Fv, Fq, V, h⟩ := h
  exact ⟨Fv, Fq, V, h.p.keep hb, h.y, h.pm, h.md, h.bel.trans (hb.mono h.bel.size), h.low, fun j hj => ⟨(h.out j hj).1, (h.out j hj).2.1, Nat.lt_of_lt_of_le (h.out j hj).2.2 hb.size⟩⟩
theorem PP.grown (h : PP lo W0 W X pb bL cL C K R Q n) (hl : W0.heap.size < lo) (hg : W.grownBy W' (some W0.heap.size)) : PP lo W0 W' X pb bL cL C K R Q n := by
  obtain ⟨Fv, Fq, V, h⟩ := h
  refine ⟨Fv, Fq, V, h.p.fr (Fr.of_grown hg) (fun j hj e => ?_), h.y, h.pm, h.md, gb_Below h.bel hg h.bel.size (Nat.le_refl _), h.low, fun j hj => ⟨(h.out j hj).1, (h.out j hj).2.1, Nat.lt_of_lt_of_le (h.out j hj).2.2 hg.size⟩⟩
  have h1 := h.p.lo_
  rcases hj with hj | hj | hj | hj
  · have := h.p.lof j (.inl hj); omega
  · have := h.p.lof j (.inr hj); omega
  · omega
  · omega
theorem PI.vd {Fv Fq Fv' : Nat → Prop} {V V' : VS} {R' : RV} {m : Nat} (h : PI lo W0 W X Fv Fq pb bL cL C V K R Q n) (hv : VolAt W' Fv' C V') (ht : Turn Fv Fv' W W') (hy : PY C V' R' m) (hp : V'.pm = V.pm) (hm : V'.md = V.md) : PP lo W0 W' X pb bL cL C K R' Q m ∧ PFr lo X W W' := by
  have hl := h.p.lt
  have h0 := h.low
  refine ⟨⟨_, _, V', h.p.vd hv ht, hy, hp.trans h.pm, hm.trans h.md, h.bel.trans (ht.1.below (by omega) (fun j hj => Nat.le_trans h.low (h.p.lof j (.inl hj)))), h.low, fun j hj => ⟨?_, fun e => (h.out j hj).2.1 e.1, Nat.lt_of_lt_of_le (h.out j hj).2.2 ht.1.size⟩⟩, ⟨ht.1.mono (fun j _ hj hx => (h.out j hx).1 hj), ht.1.below hl.2.2 (fun j hj => h.p.lof j (.inl hj))⟩⟩
  exact ht.out (h.out j hj).2.2 (h.out j hj).1
theorem PP.more (h : PP lo W0 W X pb bL cL C K R Q n) (hb : Below W.heap.size W W') {Y : Nat → Prop} (hY : ∀ j, Y j → X j ∨ (W.heap.size ≤ j ∧ j < W'.heap.size)) : PP lo W0 W' Y pb bL cL C K R Q n := by
  obtain ⟨Fv, Fq, V, h⟩ := h
  refine ⟨_, _, V, h.p.tight.keep hb, h.y, h.pm, h.md, h.bel.trans (hb.mono h.bel.size), h.low, fun j hj => ?_⟩
  rcases hY j hj with e | ⟨e1, e2⟩
  · exact ⟨fun q => (h.out j e).1 q.1, fun q => (h.out j e).2.1 q.1, Nat.lt_of_lt_of_le (h.out j e).2.2 hb.size⟩
  · exact ⟨fun q => by have := q.2; omega, fun q => by have := q.2; omega, e2⟩
theorem PP.lessX (h : PP lo W0 W X pb bL cL C K R Q n) {Y : Nat → Prop} (hY : ∀ j, Y j → X j) : PP lo W0 W Y pb bL cL C K R Q n := h.more (Below.refl _ W) (fun j hj => .inl (hY j hj))
theorem PP.vread (h : PP lo W0 W X pb bL cL C K R Q n) (hk : PK C K) {a : Nat} (ha : a < C.n0) (hn : n ≤ 100000) :
    Calls Tryz.prog 22 #[.pointer (some ⟨C.v, 0, none⟩), .int .i64 (a : Int)] W fun e W' => e = .returned (.tuple #[.int .u64 ((R.read C.chunk a).1 : Int), .int .i64 0]) ∧ (R.read C.chunk a).1 < 18446744073709551616 ∧ PP lo W0 W' X pb bL cL C K (R.read C.chunk a).2 Q (n + 2 * C.chunk + 2) ∧ PFr lo X W W' := by
  obtain ⟨Fv, Fq, V, h⟩ := h
  have h1 := h.y.log
  have h2 := h.y.wr
  have h3 := h.y.clk
  have hc := hk.c1
  have hb0 := hk.b0
  have hb1 := hk.b1
  have hb2 := hk.b2
  obtain ⟨r1, r2, r3⟩ := h.y.read ha (by omega) (by omega)
  have hbd := Bd.slt (C := C) h.y.ok h.y.len ha (by omega) (by omega)
  refine (vread_any W Fv C V a h.p.vol h.y.ok h.y.len h.y.clo ha (by omega) (by omega) (by omega) (by omega) (by omega) (by omega) (by omega) (by omega)).mono ?_
  rintro e W' ⟨rfl, hlt, Fv', hv, ht⟩
  rw [r1, r2]
  rw [r2] at hlt
  exact ⟨rfl, hlt, h.vd hv ht r3 hbd.pm hbd.md⟩
theorem PP.vwrite (h : PP lo W0 W X pb bL cL C K R Q n) (hk : PK C K) {a v : Nat} (ha : a < C.n0) (hv : v < 18446744073709551616) (hn : n ≤ 100000) :
    Calls Tryz.prog 31 #[.pointer (some ⟨C.v, 0, none⟩), .int .i64 (a : Int), .int .u64 (v : Int)] W fun e W' => e = .returned (.int .i64 0) ∧ PP lo W0 W' X pb bL cL C K (R.write C.chunk (decide (K.mode = 2)) a v) Q (n + 2 * C.chunk + 5) ∧ PFr lo X W W' := by
  obtain ⟨Fv, Fq, V, h⟩ := h
  have h1 := h.y.log
  have h2 := h.y.wr
  have h3 := h.y.clk
  have hc := hk.c1
  have hb0 := hk.b0
  have hb1 := hk.b1
  have hb2 := hk.b2
  obtain ⟨r1, r2, r3⟩ := h.y.write (v := v) ha (by omega) (by omega)
  have hbd := Bd.wrt (C := C) (v := v) h.y.ok h.y.len (by omega) ha (by omega)
  refine (vwrite_any W Fv C V a v h.p.vol h.y.ok h.y.len h.y.clo ha hv (by omega) (by omega) (by omega) (by omega) (by omega) (by omega) (by omega) (by omega)).mono ?_
  rintro e W' ⟨rfl, Fv', hv, ht⟩
  rw [r1]
  rw [h.pm] at r2
  exact ⟨rfl, h.vd hv ht r2 r3 hbd.md⟩
theorem PP.vreadno (h : PP lo W0 W X pb bL cL C K R Q n) {a : Int} (ha : a < 0 ∨ (C.n0 : Int) ≤ a) :
    Calls Tryz.prog 22 #[.pointer (some ⟨C.v, 0, none⟩), .int .i64 a] W fun e W' => e = .returned (.tuple #[.int .u64 0, .int .i64 1]) ∧ W = W' := by
  obtain ⟨Fv, Fq, V, h⟩ := h
  exact vread_range W Fv C V a h.p.vol ha
theorem PP.vwriteno (h : PP lo W0 W X pb bL cL C K R Q n) {a : Int} {v : Nat} (ha : a < 0 ∨ (C.n0 : Int) ≤ a) :
    Calls Tryz.prog 31 #[.pointer (some ⟨C.v, 0, none⟩), .int .i64 a, .int .u64 (v : Int)] W fun e W' => e = .returned (.int .i64 1) ∧ W = W' := by
  obtain ⟨Fv, Fq, V, h⟩ := h
  exact vwrite_range W Fv C V a v h.p.vol ha
theorem PP.vsize (h : PP lo W0 W X pb bL cL C K R Q n) :
    Calls Tryz.prog 46 #[.pointer (some ⟨C.v, 0, none⟩)] W fun e W' => e = .returned (.int .i64 (C.n0 : Int)) ∧ W = W' := by
  obtain ⟨Fv, Fq, V, h⟩ := h
  exact vsize_any W Fv C V h.p.vol
theorem PP.vflush (h : PP lo W0 W X pb bL cL C K R Q n) (hn : n ≤ 100000) :
    Calls Tryz.prog 34 #[.pointer (some ⟨C.v, 0, none⟩)] W fun e W' => e = .returned (.int .i64 0) ∧ PP lo W0 W' X pb bL cL C K R Q n ∧ PFr lo X W W' := by
  obtain ⟨Fv, Fq, V, h⟩ := h
  have h1 := h.y.log
  obtain ⟨r1, r2⟩ := h.y.flush
  refine (vflush_any W Fv C V h.p.vol h.y.clo (by omega)).mono ?_
  rintro e W' ⟨rfl, Fv', hv, ht⟩
  rw [r1]
  exact ⟨rfl, h.vd hv ht r2 rfl rfl⟩
theorem PP.vclean (h : PP lo W0 W X pb bL cL C K R Q n) (hk : PK C K) (m : Nat) (hm : m ≤ 1024) (hn : n ≤ 100000) :
    Calls Tryz.prog 47 #[.pointer (some ⟨C.v, 0, none⟩), .int .i64 (m : Int)] W fun e W' => e = .returned (.tuple #[.int .i64 (R.clnF C.chunk m 0).1, .int .i64 0]) ∧ PP lo W0 W' X pb bL cL C K (R.clnF C.chunk m 0).2 Q (n + m * (C.chunk + 1)) ∧ PFr lo X W W' := by
  obtain ⟨Fv, Fq, V, h⟩ := h
  have h1 := h.y.log
  have h2 := h.y.wr
  have hc := hk.c1
  have hb0 := hk.b0
  have hb1 := hk.b1
  have hb2 := hk.b2
  have hmm : m * (C.chunk + 1) ≤ 1024 * 65 := Nat.mul_le_mul hm (by omega)
  obtain ⟨r1, r2, r3, r4, -⟩ := PY.clnF m h.y 0
  have hbd := (Bd.refl h.y.ok h.y.len).cln (C := C) m 0
  refine (vcleann_any W Fv C V m h.p.vol h.y.ok h.y.len h.y.clo hm (by omega) (by omega) (by omega) (by omega) (by omega) (by omega)).mono ?_
  rintro e W' ⟨rfl, Fv', hv, ht⟩
  rw [r1, r2]
  exact ⟨rfl, h.vd hv ht r3 r4 hbd.md⟩
theorem PP.vcleanno (h : PP lo W0 W X pb bL cL C K R Q n) {m : Int} (hm : m < 0) :
    Calls Tryz.prog 47 #[.pointer (some ⟨C.v, 0, none⟩), .int .i64 m] W fun e W' => e = .returned (.tuple #[.int .i64 0, .int .i64 1]) ∧ W = W' := by
  obtain ⟨Fv, Fq, V, h⟩ := h
  exact vclean_neg W Fv C V m h.p.vol h.y.clo hm
theorem frF_md (C : VC) (m : Nat) : ∀ (V : VS) (k : Nat), (VS.frF C m V k).2.md = V.md := by
  induction m with
  | zero => intro V k; rfl
  | succ m ih =>
    intro V k
    have hf : (V.freeV C k).md = V.md := by unfold VS.freeV; split <;> rfl
    rw [VS.frF]
    split
    · split
      · exact hf
      · exact (ih _ _).trans hf
    · exact ih _ _
theorem PP.vdetach (h : PP lo W0 W X pb bL cL C K R Q n) (hk : PK C K) (hn : n ≤ 100000) :
    Calls Tryz.prog 25 #[.pointer (some ⟨C.v, 0, none⟩)] W fun e W' => e = .returned (.int .i64 0) ∧ PP lo W0 W' X pb bL cL C K (R.dtc C.chunk) Q (n + R.x.sl.length * (C.chunk + 2)) ∧ PFr lo X W W' := by
  obtain ⟨Fv, Fq, V, h⟩ := h
  have h1 := h.y.log
  have h2 := h.y.wr
  have hc := hk.c1
  have hb0 := hk.b0
  have hb1 := hk.b1
  have hb2 := hk.b2
  have hxe := h.y.x
  have hl := h.y.ok.len
  have hmm : V.x.sl.length * (C.chunk + 2) ≤ 1024 * 66 := Nat.mul_le_mul (by omega) (by omega)
  obtain ⟨r1, r2, r3⟩ := h.y.detach
  refine (vdetach_any W Fv C V h.p.vol h.y.ok h.y.len h.y.clo V.x.sl.length rfl (by omega) (by omega) (by omega) (by omega) (by omega) (by omega)).mono ?_
  rintro e W' ⟨rfl, Fv', hv, ht⟩
  rw [r1]
  refine ⟨rfl, h.vd hv ht r2 r3 ?_⟩
  have hbd := (Bd.refl h.y.ok h.y.len).cln (C := C) V.x.sl.length 0
  unfold VS.dtc bnd
  dsimp only
  split
  · split
    · exact (frF_md C _ _ _).trans hbd.md
    · exact (frF_md C _ _ _).trans hbd.md
  · exact hbd.md
theorem PP.vstate (h : PP lo W0 W X pb bL cL C K R Q n) :
    Calls Tryz.prog 26 #[.pointer (some ⟨C.v, 0, none⟩)] W (StP W R.x) := by
  obtain ⟨Fv, Fq, V, h⟩ := h
  have hl := h.y.ok.len
  have hm := h.y.ok.msl
  have := vstate_any W Fv C V h.p.vol (by omega) (by omega)
  rw [h.y.x] at this
  exact this
theorem flush_mem {S : DS} {d : Int} (h : S.chkF d = 0) {r : Nat × Nat × Nat} (hr : r ∈ (S.flush d).log) : r ∈ S.log ∧ r.1 ≠ d.toNat := by
  unfold DS.flush at hr
  rw [if_neg (fun e => e h)] at hr
  have := List.mem_filter.1 hr
  exact ⟨this.1, by simpa using this.2⟩
theorem swrite_mem {S : DS} {i n : Nat} {a : Int} {v : Nat} {r : Nat × Nat × Nat} (hr : r ∈ (S.swrite i n a v).log) : r ∈ S.log ∨ r.1 = i := by
  unfold DS.swrite at hr
  split at hr
  · unfold DS.write at hr
    split at hr
    · exact .inl hr
    · split at hr
      · exact .inl hr
      · unfold DS.wput DS.burnt at hr
        dsimp only at hr
        rcases List.mem_append.1 hr with hr | hr
        · exact .inl hr
        · rw [List.mem_singleton] at hr
          rw [hr]
          exact .inr (Int.toNat_natCast i)
  · exact .inl hr
theorem PY.closLog {C : VC} {V : VS} {R : RV} {n : Nat} (h : PY C V R n) (hl : ∀ r ∈ V.S.log, r.1 < 3) : (V.closV C).S.log = [] := by
  obtain ⟨a1, a2, a3, a4, a5⟩ := fl_out h.vi.k.hea h.dn (i := 1) (n := C.n1) rfl
  obtain ⟨b1, b2, b3, b4, b5⟩ := fl_out a4.hea a2 (i := 2) (n := C.n2) rfl
  obtain ⟨c1, c2, c3, c4, c5⟩ := fl_out b4.hea b2 (i := 0) (n := C.n0) rfl
  obtain ⟨d1, d2, d3, d4, d5⟩ := fl_out c4.hea c2 (i := 2) (n := C.n2) rfl
  have h2 := h.vi.k.n2
  obtain ⟨r1, r2, r3, -⟩ := h.close
  have hN : NF C (V.flV.S.flush ((2 : Nat) : Int)) := ⟨d4.hea, d2, d3.trans (c3.trans (b3.trans (a3.trans h.fu)))⟩
  obtain ⟨w1, w2, w3⟩ := hN.wr (i := 2) (n := C.n2) rfl 0 (hdI V.ss.length (C.chunk : Int) V.md false) (by omega)
  obtain ⟨f1, -⟩ := w2.fl (i := 2) (n := C.n2) rfl
  have e0 : (V.flV.S.flush 2).swE 2 C.n2 0 = 0 := w1
  refine List.eq_nil_iff_forall_not_mem.2 (fun r hr => ?_)
  have hr1 : r ∈ ((V.flV.S.flush 2).first 2 C.n2 (hdI V.ss.length (C.chunk : Int) V.md false)).log := hr
  unfold DS.first at hr1
  rw [if_neg (fun e => e e0)] at hr1
  obtain ⟨hr2, hn2⟩ := flush_mem (S := (V.flV.S.flush 2).swrite 2 C.n2 0 (hdI V.ss.length (C.chunk : Int) V.md false)) (d := ((2 : Nat) : Int)) f1 hr1
  rcases swrite_mem hr2 with hr3 | hr3
  · obtain ⟨hr4, -⟩ := flush_mem (S := V.flV.S) (d := ((2 : Nat) : Int)) d1 hr3
    obtain ⟨hr5, k0⟩ := flush_mem (S := (V.S.flush 1).flush 2) (d := ((0 : Nat) : Int)) c1 hr4
    obtain ⟨hr6, k2⟩ := flush_mem (S := V.S.flush 1) (d := ((2 : Nat) : Int)) b1 hr5
    obtain ⟨hr7, k1⟩ := flush_mem (S := V.S) (d := ((1 : Nat) : Int)) a1 hr6
    have := hl r hr7
    simp at k0 k1 k2
    omega
  · simp at hn2
    exact hn2 hr3
structure PC (lo : Nat) (W0 W : World) (X Fv Fq : Nat → Prop) (pb bL cL : Nat) (C : VC) (V : VS) (K : RC) (clo : Bool) (R Q : RV) : Prop where
  p : P33 lo W Fv Fq pb bL cL C V K clo Q
  cl : V.closed = true
  vw : view V = R
  ok : V.x.Ok
  nf : NF C V.S
  st : ∀ i, i < 3 → Stl V.S i
  lg : V.S.log = []
  bel : Below W0.heap.size W0 W
  low : W0.heap.size ≤ lo
  out : ∀ j, X j → ¬ Fv j ∧ ¬ Fq j ∧ j < W.heap.size
def PE (lo : Nat) (W0 W : World) (X : Nat → Prop) (pb bL cL : Nat) (C : VC) (K : RC) (clo : Bool) (R Q : RV) : Prop := ∃ Fv Fq V, PC lo W0 W X Fv Fq pb bL cL C V K clo R Q
theorem PP.vclose (h : PP lo W0 W X pb bL cL C K R Q n) (hk : PK C K) (hn : n ≤ 100000) :
    Calls Tryz.prog 23 #[.pointer (some ⟨C.v, 0, none⟩)] W fun e W' => e = .returned (.int .i64 0) ∧ PE lo W0 W' X pb bL cL C K false (R.clos C.chunk K.mode) Q ∧ PFr lo X W W' := by
  obtain ⟨Fv, Fq, V, h⟩ := h
  have h1 := h.y.log
  have h2 := h.y.wr
  have hc := hk.c1
  have hb2 := hk.b2
  have hl := h.y.ok.len
  have hl2 := h.y.len
  obtain ⟨r1, r2, r3, r4, r5, r6, r7, r8⟩ := h.y.close
  refine (vclose_any W Fv C V h.p.vol h.y.clo h.y.stk r1 r2 r3 (by omega) (by omega) (by omega) (by omega) (by omega)).mono ?_
  rintro e W' ⟨rfl, Fv', hv, ht⟩
  have hl3 := h.p.lt
  have h0 := h.low
  have hlg : (V.closV C).S.log = [] := by
    refine h.y.closLog (fun r hr => ?_)
    obtain ⟨Fc, A, c, B, d, hvv⟩ := h.p.vol
    obtain ⟨F, A', c', hca⟩ := hvv.cache
    have := (hca.dsk.1.log r hr).1
    have hd := h.y.vi.k.hea.nd
    simp at hd
    omega
  rw [h.md] at r4
  refine ⟨rfl, ⟨_, _, _, h.p.vd hv ht, r6, r4, by rw [r5, ← h.y.x]; exact h.y.ok, r7, r8, hlg, h.bel.trans (ht.1.below (by omega) (fun j hj => Nat.le_trans h.low (h.p.lof j (.inl hj)))), h.low, fun j hj => ⟨ht.out (h.out j hj).2.2 (h.out j hj).1, fun e => (h.out j hj).2.1 e.1, Nat.lt_of_lt_of_le (h.out j hj).2.2 ht.1.size⟩⟩, ⟨ht.1.mono (fun j _ hj hx => (h.out j hx).1 hj), ht.1.below hl3.2.2 (fun j hj => h.p.lof j (.inl hj))⟩⟩
section
variable {clo : Bool}
theorem PE.cells (h : PE lo W0 W X pb bL cL C K clo R Q) : W.cell? ⟨pb, 0, none⟩ = some (.pointer (some ⟨C.g, 0, none⟩)) ∧ W.cell? ⟨pb, 1, none⟩ = some (.slice (some ⟨bL, 0, none⟩) 3 cL) ∧ W.cell? ⟨pb, 2, none⟩ = some (.pointer (some ⟨C.v, 0, none⟩)) ∧ W.cell? ⟨pb, 3, none⟩ = some (.pointer (some ⟨K.r, 0, none⟩)) ∧
    W.cell? ⟨bL, 0, none⟩ = some (.iface 176 (.pointer (some ⟨C.s0, 0, none⟩))) ∧ W.cell? ⟨bL, 1, none⟩ = some (.iface 176 (.pointer (some ⟨C.s1, 0, none⟩))) ∧ W.cell? ⟨bL, 2, none⟩ = some (.iface 176 (.pointer (some ⟨C.s2, 0, none⟩))) := by
  obtain ⟨Fv, Fq, V, h⟩ := h
  exact h.p.cells
theorem PE.bel (h : PE lo W0 W X pb bL cL C K clo R Q) : Below W0.heap.size W0 W := by
  obtain ⟨Fv, Fq, V, h⟩ := h
  exact h.bel
theorem PE.vflush (h : PE lo W0 W X pb bL cL C K clo R Q) : Calls Tryz.prog 34 #[.pointer (some ⟨C.v, 0, none⟩)] W fun e W' => e = .returned (.int .i64 20) ∧ W = W' := by
  obtain ⟨Fv, Fq, V, h⟩ := h
  exact vflush_closed W Fv C V h.p.vol h.cl
end
theorem PP.dsk (h : PP lo W0 W X pb bL cL C K R Q n) : ∃ F S, DskAt W F C.g S ∧ SpanAt W C.s0 C.g 0 C.n0 ∧ NF C S ∧ S.now 0 = R.o ∧ S.now 1 = R.f ∧ S.now 2 = R.m ∧ S.log.length ≤ n := by
  obtain ⟨Fv, Fq, V, h⟩ := h
  obtain ⟨Fc, A, c, B, d, hv⟩ := h.p.vol
  obtain ⟨F, A', c', hca⟩ := hv.cache
  have hvw := h.y.vw
  refine ⟨F, V.S, hca.dsk, hv.sp0, ⟨h.y.vi.k.hea, h.y.dn, h.y.fu⟩, ?_, ?_, ?_, h.y.log⟩ <;> rw [← hvw] <;> rfl
end
def rvN (l0 l1 : List Nat) (k ch : Nat) (mode : Int) : RV := ⟨l0, l1, (newW k ch).set 0 (hdI k (ch : Int) mode true), ⟨List.replicate k nilS, 0, []⟩⟩
theorem op_new (l0 l1 : List Nat) (k ch n0 n1 : Nat) (mode : Int) (hk : 1 ≤ k ∧ k ≤ 4) (hc : 1 ≤ ch ∧ ch ≤ 4) (hm : mode = 1 ∨ mode = 2) (h0 : l0.length = n0) (h1 : l1.length = n1) (hf : k * ch ≤ n1) : opnE (newW k ch) n0 n1 mode = 0 :=
  ((zr_new ⟨0, 0, 0, 0, 0, 0, n0, n1, k + 1, ch⟩ l0 l1 k (by omega) (by show 1 ≤ ch ∧ ch ≤ 64; omega) h0 h1 rfl hf).opened hm).2.2.2.2.2.2.2.2.2.2
theorem pp_new {lo : Nat} {W0 W : World} {Fv Fq : Nat → Prop} {pb bL cL g s0 s1 s2 m v r bo co bf cf bm cm n0 n1 n2 k ch : Nat} {l0 l1 : List Nat} {mode : Int} (hk : 1 ≤ k ∧ k ≤ 4) (hc : 1 ≤ ch ∧ ch ≤ 4) (hm : mode = 1 ∨ mode = 2) (h0 : l0.length = n0) (h1 : l1.length = n1) (h2 : n2 = k + 1) (hf : k * ch ≤ n1) (hn0 : 1 ≤ n0 ∧ n0 ≤ 60000) (hn1 : 1 ≤ n1 ∧ n1 ≤ 60000)
    (hp : P33 lo W Fv Fq pb bL cL ⟨g, s0, s1, s2, m, v, n0, n1, n2, opC (newW k ch)⟩ ((opn0 (DS.full [l0, l1, newW k ch]) mode).bgn ⟨g, s0, s1, s2, m, v, n0, n1, n2, opC (newW k ch)⟩ mode) (rvK r bo co bf cf bm cm n0 n1 n2 (newW k ch) mode) false ((rv0 l0 l1 (newW k ch)).bgn (opC (newW k ch)) (opM (newW k ch)) (opO (newW k ch)) mode)) (hb : Below W0.heap.size W0 W) (hl : W0.heap.size ≤ lo) :
    PP lo W0 W (fun _ => False) pb bL cL ⟨g, s0, s1, s2, m, v, n0, n1, n2, ch⟩ (rvK r bo co bf cf bm cm n0 n1 n2 (newW k ch) mode) (rvN l0 l1 k ch mode) (rvN l0 l1 k ch mode) 30 ∧ PK ⟨g, s0, s1, s2, m, v, n0, n1, n2, ch⟩ (rvK r bo co bf cf bm cm n0 n1 n2 (newW k ch) mode) := by
  obtain ⟨f1, f2, f3, f4, f5⟩ := newW_facts k ch (by omega) (by omega)
  have hrn := rv_new l0 l1 k ch mode (by omega) (by omega)
  have hz := zr_new ⟨g, s0, s1, s2, m, v, n0, n1, n2, ch⟩ l0 l1 k (by omega) (by show 1 ≤ ch ∧ ch ≤ 64; omega) h0 h1 h2 hf
  have hkc : k * (ch + 2) ≤ 4 * 6 := Nat.mul_le_mul hk.2 (by omega)
  have hK : opK ((DS.full [l0, l1, newW k ch]).now 2) = k := f1
  obtain ⟨y1, y2⟩ := PY.start (n := 30) hz hm (by
      show 0 + opK ((DS.full [l0, l1, newW k ch]).now 2) * (ch + 2) + 1 ≤ 30
      rw [hK]; omega) (by
      show (0 : Int) + ((opK ((DS.full [l0, l1, newW k ch]).now 2) * (ch + 2) : Nat) : Int) + 1 ≤ ((30 : Nat) : Int)
      rw [hK]; omega)
  have hQ : (rv0 l0 l1 (newW k ch)).bgn (opC (newW k ch)) (opM (newW k ch)) (opO (newW k ch)) mode = rvN l0 l1 k ch mode := hrn
  rw [hQ] at hp
  have hy : PY ⟨g, s0, s1, s2, m, v, n0, n1, n2, ch⟩ ((opn0 (DS.full [l0, l1, newW k ch]) mode).bgn ⟨g, s0, s1, s2, m, v, n0, n1, n2, ch⟩ mode) (rvN l0 l1 k ch mode) 30 := by
    have h := y1
    rw [show (DS.full [l0, l1, newW k ch]).now 0 = l0 from rfl, show (DS.full [l0, l1, newW k ch]).now 1 = l1 from rfl, show (DS.full [l0, l1, newW k ch]).now 2 = newW k ch from rfl, hrn] at h
    exact h
  rw [f2] at hp
  refine ⟨⟨Fv, Fq, _, hp, hy, y2, rfl, hb, hl, fun j hj => hj.elim⟩, ?_⟩
  exact ⟨f2, rfl, rfl, rfl, by show 1 ≤ ch ∧ ch ≤ 64; omega, hn0, hn1, by show 1 ≤ n2 ∧ n2 ≤ 60000; omega, hm⟩
end Go.Proofs.YtogchafnnkajfaaGreat
namespace Go.Proofs.YtogchafnnkajfaaGreat
set_option linter.unusedVariables false
open Go.RowKit
attribute [local go_sem] Oper.semAt_some
theorem QOk.slotOk {K : RC} {R : RV} (h : QOk K R) {a : Nat} (ha : a < K.n0) : (R.slot K.chunk a).2.x.Ok := by
  have hbl := Nat.div_le_self a K.chunk
  have hn0 := h.n0
  unfold RV.slot
  generalize a / K.chunk = b at *
  split
  · exact h.ok
  · split
    · rename_i h2
      obtain ⟨j, x, ej, hx, hv, hb⟩ := find_at h2
      rw [ej, Int.toNat_natCast]
      exact h.ok.touch j x hx hv h.clk
    · rename_i h2
      have hfn := find_neg h2
      have hok1 := h.ok.miss (b : Int) (by omega) hfn
      obtain ⟨m1, m2, m3, m4⟩ := miss_facts R.x (b : Int)
      split
      · exact hok1
      · obtain ⟨j, x, hj, hx⟩ := victim_at hok1
        rw [hj, Int.toNat_natCast]
        have hv2 := vic2_x (c := K.chunk) (R := { R with x := (R.x.miss (b : Int)).1 }) hok1 hx
        show ((RV.vic2 K.chunk { R with x := (R.x.miss (b : Int)).1 } j).x.place j (b : Int)).Ok
        rw [hv2]
        exact (hok1.clear j).place j (b : Int) (by omega) (find_clear (m3.trans hfn) j) (by show (R.x.miss (b : Int)).1.clk < _; rw [m2]; exact h.clk)
section
variable {lo : Nat} {W0 W W' : World} {X : Nat → Prop} {pb bL cL : Nat} {C : VC} {K : RC} {R Q : RV} {n : Nat}
theorem PP.qok (h : PP lo W0 W X pb bL cL C K R Q n) (hk : PK C K) (hn : n ≤ 1000000) : QOk K R := by
  obtain ⟨Fv, Fq, V, h⟩ := h
  have hx := h.y.x
  have hv := h.y.vi.k
  have h1 := h.y.clk
  have hb0 := hk.b0
  have hb1 := hk.b1
  have hb2 := hk.b2
  have e0 := hk.e0
  have e1 := hk.e1
  have e2 := hk.e2
  have h2 := hv.n2
  rw [hx] at h1 h2
  refine ⟨by rw [← hx]; exact h.y.ok, by rw [hk.ch]; exact hk.c1, by omega, by omega, by omega, by omega, ?_, ?_, by omega, by rw [h.y.lens.1]; exact e0.symm⟩
  · have := hv.n1
    rw [hx] at this
    rw [hk.ch, e1]
    exact this
  · intro k x hxk hxv
    have := (hv.wh k x (by rw [hx]; exact hxk) hxv).2
    rw [hk.ch, e0, Nat.add_mul, Nat.one_mul]
    exact this
theorem PI.rd {Fv Fq Fq' : Nat → Prop} {V : VS} {Q' : RV} (h : PI lo W0 W X Fv Fq pb bL cL C V K R Q n) (hv : RvAt W' Fq' K false Q') (ht : Turn Fq Fq' W W') : PP lo W0 W' X pb bL cL C K R Q' n ∧ PFr lo X W W' := by
  have hl := h.p.lt
  have h0 := h.low
  refine ⟨⟨_, _, V, h.p.rd hv ht, h.y, h.pm, h.md, h.bel.trans (ht.1.below (by omega) (fun j hj => Nat.le_trans h.low (h.p.lof j (.inr hj)))), h.low, fun j hj => ⟨fun e => (h.out j hj).1 e.1, ?_, Nat.lt_of_lt_of_le (h.out j hj).2.2 ht.1.size⟩⟩, ⟨ht.1.mono (fun j _ hj hx => (h.out j hx).2.1 hj), ht.1.below hl.2.2 (fun j hj => h.p.lof j (.inr hj))⟩⟩
  exact ht.out (h.out j hj).2.2 (h.out j hj).2.1
theorem PP.rread (h : PP lo W0 W X pb bL cL C K R Q n) (hk : PK C K) (hq : QOk K Q) {a : Nat} (ha : a < C.n0) :
    Calls Tryz.prog 21 #[.pointer (some ⟨K.r, 0, none⟩), .int .i64 (a : Int)] W fun e W' => e = .returned (.tuple #[.int .u64 ((Q.read C.chunk a).1 : Int), .int .i64 0]) ∧ PP lo W0 W' X pb bL cL C K R (Q.read C.chunk a).2 n ∧ PFr lo X W W' := by
  obtain ⟨Fv, Fq, V, h⟩ := h
  refine (rread_any W Fq K Q a h.p.rv hq (by rw [hk.e0]; exact ha)).mono ?_
  rintro e W' ⟨rfl, F', hv, ht⟩
  rw [hk.ch] at hv ⊢
  exact ⟨rfl, h.rd hv ht⟩
theorem PP.rwrite (h : PP lo W0 W X pb bL cL C K R Q n) (hk : PK C K) (hq : QOk K Q) {a : Nat} (v : Nat) (ha : a < C.n0) :
    Calls Tryz.prog 50 #[.pointer (some ⟨K.r, 0, none⟩), .int .i64 (a : Int), .int .u64 (v : Int)] W fun e W' => e = .returned (.int .i64 0) ∧ PP lo W0 W' X pb bL cL C K R (Q.write C.chunk (decide (K.mode = 2)) a v) n ∧ PFr lo X W W' := by
  obtain ⟨Fv, Fq, V, h⟩ := h
  refine (rwrite_any W Fq K Q a v h.p.rv hq (by rw [hk.e0]; exact ha) hk.md (hq.slotOk (by rw [hk.e0]; exact ha))).mono ?_
  rintro e W' ⟨rfl, F', hv, ht⟩
  rw [hk.ch] at hv
  exact ⟨rfl, h.rd hv ht⟩
theorem PP.rreadno (h : PP lo W0 W X pb bL cL C K R Q n) (hk : PK C K) {a : Int} (ha : a < 0 ∨ (C.n0 : Int) ≤ a) :
    Calls Tryz.prog 21 #[.pointer (some ⟨K.r, 0, none⟩), .int .i64 a] W fun e W' => e = .returned (.tuple #[.int .u64 0, .int .i64 1]) ∧ W = W' := by
  obtain ⟨Fv, Fq, V, h⟩ := h
  exact rread_range W Fq K false Q a h.p.rv (by rw [hk.e0]; exact ha)
theorem PP.rwriteno (h : PP lo W0 W X pb bL cL C K R Q n) (hk : PK C K) {a : Int} {v : Nat} (ha : a < 0 ∨ (C.n0 : Int) ≤ a) :
    Calls Tryz.prog 50 #[.pointer (some ⟨K.r, 0, none⟩), .int .i64 a, .int .u64 (v : Int)] W fun e W' => e = .returned (.int .i64 1) ∧ W = W' := by
  obtain ⟨Fv, Fq, V, h⟩ := h
  exact rwrite_range W Fq K false Q a v h.p.rv (by rw [hk.e0]; exact ha)
theorem PP.rclean (h : PP lo W0 W X pb bL cL C K R Q n) (hk : PK C K) (hq : QOk K Q) (m : Nat) (hm : m ≤ 1024) :
    Calls Tryz.prog 51 #[.pointer (some ⟨K.r, 0, none⟩), .int .i64 (m : Int)] W fun e W' => e = .returned (.tuple #[.int .i64 (Q.clnF C.chunk m 0).1, .int .i64 0]) ∧ PP lo W0 W' X pb bL cL C K R (Q.clnF C.chunk m 0).2 n ∧ PFr lo X W W' := by
  obtain ⟨Fv, Fq, V, h⟩ := h
  refine (rclean_any W Fq K Q m h.p.rv hq hm).mono ?_
  rintro e W' ⟨rfl, F', hv, ht⟩
  rw [hk.ch] at hv ⊢
  exact ⟨rfl, h.rd hv ht⟩
theorem PP.rcleanno (h : PP lo W0 W X pb bL cL C K R Q n) {m : Int} (hm : m < 0) :
    Calls Tryz.prog 51 #[.pointer (some ⟨K.r, 0, none⟩), .int .i64 m] W fun e W' => e = .returned (.tuple #[.int .i64 0, .int .i64 1]) ∧ W = W' := by
  obtain ⟨Fv, Fq, V, h⟩ := h
  exact rclean_neg W Fq K Q m h.p.rv hm
theorem PP.rdetach (h : PP lo W0 W X pb bL cL C K R Q n) (hk : PK C K) (hq : QOk K Q) :
    Calls Tryz.prog 52 #[.pointer (some ⟨K.r, 0, none⟩)] W fun e W' => e = .returned (.int .i64 0) ∧ PP lo W0 W' X pb bL cL C K R (Q.dtc C.chunk) n ∧ PFr lo X W W' := by
  obtain ⟨Fv, Fq, V, h⟩ := h
  refine (rdetach_any W Fq K Q h.p.rv hq).mono ?_
  rintro e W' ⟨rfl, F', hv, ht⟩
  rw [hk.ch] at hv
  exact ⟨rfl, h.rd hv ht⟩
end
end Go.Proofs.YtogchafnnkajfaaGreat
namespace Go.Proofs.YtogchafnnkajfaaGreat
set_option linter.unusedVariables false
open Go.RowKit
def RVV (c : Nat) (R : RV) (a v : Nat) : Prop :=
  (∃ (k : Nat) (x : Sl), R.x.sl[k]? = some x ∧ x.valid = true ∧ x.block = ((a / c : Nat) : Int) ∧ R.f[k * c + a % c]? = some v) ∨
  ((∀ (k : Nat) (x : Sl), R.x.sl[k]? = some x → x.valid = true → x.block ≠ ((a / c : Nat) : Int)) ∧ R.o[a]? = some v)
def Kp (c : Nat) (R R' : RV) : Prop := ∀ a u, RVV c R a u → RVV c R' a u
theorem Kp.refl (c : Nat) (R : RV) : Kp c R R := fun _ _ h => h
theorem Kp.trans {c : Nat} {R R' R2 : RV} (h : Kp c R R') (k : Kp c R' R2) : Kp c R R2 := fun a u hu => k a u (h a u hu)
section
variable {C : VC} {V : VS} {R : RV} {n : Nat}
theorem PY.vv (h : PY C V R n) (a v : Nat) : VV C V.S V.x.sl a v ↔ RVV C.chunk R a v := by
  rw [← h.vw]
  exact Iff.rfl
theorem PY.ex (h : PY C V R n) {a : Nat} (ha : a < C.n0) : ∃ v, RVV C.chunk R a v := by
  obtain ⟨v, hv⟩ := VV.ex h.vi.k ha
  exact ⟨v, (h.vv a v).1 hv⟩
theorem PY.un (h : PY C V R n) {a v v' : Nat} (h1 : RVV C.chunk R a v) (h2 : RVV C.chunk R a v') : v = v' :=
  VV.uniq h.vi.k ((h.vv a v).2 h1) ((h.vv a v').2 h2)
theorem PY.read_kp (h : PY C V R n) {a : Nat} (ha : a < C.n0) (hn0 : C.n0 ≤ 65536) (hn : n ≤ 1000000) : Kp C.chunk R (R.read C.chunk a).2 ∧ RVV C.chunk R a (R.read C.chunk a).1 := by
  have hck : V.x.clk < 1099511627776 := by have := h.clk; omega
  obtain ⟨p1, p2, p3⟩ := h.read ha hn0 hn
  rcases rd_ou h.vi h.dn h.ok h.len hck ha hn0 with ⟨r1, r2, r3, r4, r5, r6, r7, -, r8⟩ | ⟨r1, -⟩
  · have k : Kp C.chunk R (R.read C.chunk a).2 := fun b u hb => (p3.vv b u).1 (r8 b u ((h.vv b u).2 hb))
    obtain ⟨v, hv⟩ := h.ex ha
    have e := p3.un (k a v hv) ((p3.vv _ _).1 r7)
    rw [p2] at e
    rw [← e]
    exact ⟨k, hv⟩
  · exact absurd h.fu r1
theorem PY.cl_kp (h : PY C V R n) (ho : ¬ R.x.oldest < 0) : Kp C.chunk R (R.back C.chunk R.x.oldest.toNat true) := by
  obtain ⟨-, p1, -⟩ := h.cl ho
  intro b u hb
  refine (p1.vv b u).1 ?_
  have hb := (h.vv b u).2 hb
  rw [← h.x] at ho
  obtain ⟨k, x, hk, hx, hxd, hxv⟩ := oldest_at h.ok ho
  rw [hk, Int.toNat_natCast, CS.at_eq hx]
  rcases clean_ou h.vi h.dn hx hxv hxd with ⟨r0, r1, r2, r3, r4, r5, r6, -⟩ | ⟨r0, -⟩
  · exact r6 b u hb
  · exact absurd h.fu r0
theorem PY.clnF_kp (m : Nat) : ∀ {V : VS} {R : RV} {n : Nat}, PY C V R n → ∀ i, Kp C.chunk R (RV.clnF C.chunk m R i).2 := by
  induction m with
  | zero => intro V R n h i; exact Kp.refl _ _
  | succ m ih =>
    intro V R n h i
    rw [RV.clnF]
    by_cases ho : R.x.oldest < 0
    · rw [if_pos ho]; exact Kp.refl _ _
    · rw [if_neg ho]
      obtain ⟨-, c1, -⟩ := h.cl ho
      exact (h.cl_kp ho).trans (ih c1 (i + 1))
theorem PY.frF_kp (m : Nat) : ∀ {V : VS} {R : RV} {n : Nat}, PY C V R n → (∀ x ∈ R.x.sl, x.dirty = false) → ∀ k, k + m = R.x.sl.length → Kp C.chunk R (RV.frF m R k) := by
  induction m with
  | zero => intro V R n h hc k hk; exact Kp.refl _ _
  | succ m ih =>
    intro V R n h hc k hk
    rw [RV.frF]
    have hxe := h.x
    obtain ⟨x, hx⟩ : ∃ x, R.x.sl[k]? = some x := ⟨_, List.getElem?_eq_getElem (by omega)⟩
    rw [CS.at_eq hx]
    by_cases hv : x.valid = true
    · rw [if_pos hv]
      have hb := (Bd.refl h.ok h.len).fr (C := C) k
      have hx' : V.x.sl[k]? = some x := by rw [hxe]; exact hx
      rcases free_ou h.vi h.dn hx' (Eqs.clean h.vi hx' (hc x (List.mem_of_getElem? hx))) with ⟨r0, r1, r2, r3, r4, -, -, r7⟩ | ⟨r0, -⟩
      · dsimp only at r0 r1 r2 r3 r4 r7
        have h1 : PY C (V.freeV C k) (R.free k) (n + 1) := ⟨r1, r2 h.fu, by rw [hb.pm]; exact r3, by rw [r4, h.vw], hb.ok, hb.len, by rw [hb.clo]; exact h.clo, by rw [free_stk]; exact h.stk, by have := hb.log; have := h.log; omega, by have := hb.wr; have := h.wr; omega, by have := hb.clk; have := h.clk; omega⟩
        have k1 : Kp C.chunk R (R.free k) := fun b u hb => (h1.vv b u).1 (r7 b u ((h.vv b u).2 hb))
        exact k1.trans (ih h1 (by
          intro y hy
          rcases List.mem_or_eq_of_mem_set (show y ∈ R.x.sl.set k nilS from hy) with hy | rfl
          · exact hc y hy
          · rfl) (k + 1) (by show _ = (R.x.sl.set k nilS).length; rw [List.length_set]; omega))
      · exact absurd h.fu r0
    · rw [if_neg hv]
      exact ih h hc (k + 1) (by omega)
theorem RV.frF_no (m : Nat) : ∀ (R : RV) (k : Nat), k + m = R.x.sl.length → (∀ (j : Nat) (x : Sl), j < k → R.x.sl[j]? = some x → x.valid = false) → (RV.frF m R k).x.sl.length = R.x.sl.length ∧ ∀ x ∈ (RV.frF m R k).x.sl, x.valid = false := by
  induction m with
  | zero =>
    intro R k hk h
    refine ⟨rfl, fun x hx => ?_⟩
    obtain ⟨j, hj⟩ := List.mem_iff_getElem?.1 hx
    exact h j x (by have := (List.getElem?_eq_some_iff.1 hj).1; change j < R.x.sl.length at this; omega) hj
  | succ m ih =>
    intro R k hk h
    rw [RV.frF]
    obtain ⟨x, hx⟩ : ∃ x, R.x.sl[k]? = some x := ⟨_, List.getElem?_eq_getElem (by omega)⟩
    rw [CS.at_eq hx]
    by_cases hv : x.valid = true
    · rw [if_pos hv]
      have hl : (R.free k).x.sl.length = R.x.sl.length := by show (R.x.sl.set k nilS).length = _; rw [List.length_set]
      obtain ⟨i1, i2⟩ := ih (R.free k) (k + 1) (by rw [hl]; omega) (by
        intro j y hj hy
        change (R.x.sl.set k nilS)[j]? = some y at hy
        by_cases e : j = k
        · subst e
          rw [List.getElem?_set_self (by omega)] at hy
          injection hy with hy
          subst hy
          rfl
        · rw [List.getElem?_set_ne (by omega)] at hy
          exact h j y (by omega) hy)
      exact ⟨i1.trans hl, i2⟩
    · rw [if_neg hv]
      exact ih R (k + 1) (by omega) (by
        intro j y hj hy
        by_cases e : j = k
        · subst e
          rw [hx] at hy
          injection hy with hy
          subst hy
          simpa using hv
        · exact h j y (by omega) hy)
theorem PY.detach_kp (h : PY C V R n) : Kp C.chunk R (R.dtc C.chunk) ∧ (R.dtc C.chunk).x.sl.length = R.x.sl.length ∧ ∀ x ∈ (R.dtc C.chunk).x.sl, x.valid = false := by
  have hxe := h.x
  obtain ⟨c1, c2, c3, c4, c5⟩ := PY.clnF V.x.sl.length h 0
  rw [hxe] at c1 c2 c3 c4 c5
  have hx1 := c3.x
  have hl := RV.clnF_len C.chunk R.x.sl.length R 0
  have hd := dirtN_le R.x.sl
  have k1 := PY.clnF_kp R.x.sl.length h 0
  have k2 := PY.frF_kp (RV.clnF C.chunk R.x.sl.length R 0).2.x.sl.length c3 (dirtN_zero (by omega)) 0 (by omega)
  obtain ⟨k3, k4⟩ := RV.frF_no (RV.clnF C.chunk R.x.sl.length R 0).2.x.sl.length (RV.clnF C.chunk R.x.sl.length R 0).2 0 (by omega) (fun j x hj => by omega)
  exact ⟨k1.trans k2, k3.trans hl, k4⟩
theorem RVV.origin {c a v : Nat} (h : RVV c R a v) (hn : ∀ x ∈ R.x.sl, x.valid = false) : R.o[a]? = some v := by
  rcases h with ⟨k, x, hx, hv, -⟩ | ⟨-, h⟩
  · rw [hn x (List.mem_of_getElem? hx)] at hv; cases hv
  · exact h
theorem PY.zero (h : PY C V R n) (hn : ∀ x ∈ R.x.sl, x.valid = false) (k : Nat) (hk : k < R.x.sl.length) : R.m[1 + k]? = some 0 := by
  have hxe := h.x
  have hx : R.x.sl[k]? = some (R.x.sl[k]) := List.getElem?_eq_getElem hk
  have hw := h.vi.wd k _ (by rw [hxe]; exact hx)
  rw [word_no (hn _ (List.getElem_mem hk))] at hw
  rw [← h.vw]
  exact hw
theorem PY.closed (h : PY C V R n) (hs : 1 ≤ R.x.sl.length ∧ R.x.sl.length ≤ 1024) (hc : C.chunk ≤ 64) (hmd : V.md = 1 ∨ V.md = 2) : ZR C (V.closV C).S (RVV C.chunk R) := by
  obtain ⟨-, -, -, c4, c5, c6, c7, c8⟩ := h.close
  have hxe := h.x
  have hlen := h.len
  have n0 : (V.closV C).S.now 0 = R.o := congrArg RV.o c4
  have n1 : (V.closV C).S.now 1 = R.f := congrArg RV.f c4
  have n2 : (V.closV C).S.now 2 = R.m.set 0 (hdI R.x.sl.length (C.chunk : Int) V.md false) := congrArg RV.m c4
  have v0 : V.S.now 0 = R.o := congrArg RV.o h.vw
  have v1 : V.S.now 1 = R.f := congrArg RV.f h.vw
  have v2 : V.S.now 2 = R.m := congrArg RV.m h.vw
  have hvi := h.vi
  rw [hxe] at hvi
  have hk := hvi.k
  obtain ⟨l0, l1, l2⟩ := h.lens
  have hn2 := hk.n2
  have hch := hk.ch
  generalize (V.closV C).S = S' at *
  have hl2 : (S'.now 2).length = C.n2 := by rw [n2, List.length_set, l2]
  have hh : (S'.now 2)[0]?.getD 0 = hdI R.x.sl.length (C.chunk : Int) V.md false := by
    rw [n2, List.getElem?_set_self (by omega), Option.getD_some]
  have hmdr : 0 ≤ V.md ∧ V.md < 3 := by omega
  obtain ⟨g1, g2, g3, g4, g5, g6⟩ := hdI_fields R.x.sl.length (C.chunk : Int) V.md false (by omega) (by omega) (by omega)
  have hK : opK (S'.now 2) = R.x.sl.length := by unfold opK; rw [hh]; exact g2
  have hCc : opC (S'.now 2) = C.chunk := by unfold opC; rw [hh]; exact Int.ofNat.inj g3
  have hO : opO (S'.now 2) = false := by unfold opO; rw [hh, g5]; rfl
  have hws : ∀ (k : Nat) (x : Sl), R.x.sl[k]? = some x → (S'.now 2)[1 + k]? = some x.word := by
    intro k x hx
    rw [n2, List.getElem?_set_ne (by omega), ← v2]
    exact hvi.wd k x hx
  -- the slots
  have key : ∀ (k : Nat) (y : Sl), (slotsU (S'.now 2) (opK (S'.now 2)))[k]? = some y → k < R.x.sl.length ∧ ∃ x, R.x.sl[k]? = some x ∧ (S'.now 2)[1 + k]? = some y.word ∧ ((y = nilS ∧ x.valid = false) ∨ (x.valid = true ∧ y = ⟨true, x.dirty, x.block, 0⟩)) := by
    intro k y hy
    have hkl := (List.getElem?_eq_some_iff.1 hy).1
    rw [slotsU_length] at hkl
    rw [slotsU_at _ _ k hkl] at hy
    injection hy with hy
    rw [hK] at hkl
    obtain ⟨x, hx⟩ : ∃ x, R.x.sl[k]? = some x := ⟨_, List.getElem?_eq_getElem hkl⟩
    have hw := hws k x hx
    rw [hw, Option.getD_some] at hy
    refine ⟨hkl, x, hx, ?_⟩
    rw [hw]
    rcases hv : x.valid with _ | _
    · rw [word_no hv] at hy ⊢
      have : y = nilS := hy.symm
      subst this
      exact ⟨rfl, .inl ⟨rfl, rfl⟩⟩
    · have hb := (hk.wh k x hx hv).1
      rw [word_yes hv, dwd_slot x.block x.dirty hb] at hy
      rw [word_yes hv]
      refine ⟨?_, .inr ⟨rfl, hy.symm⟩⟩
      rw [← hy]
      rfl
  have hgood : ∀ y ∈ slotsU (S'.now 2) (opK (S'.now 2)), y.Good := by
    intro y hy
    obtain ⟨k, hkk⟩ := List.mem_iff_getElem?.1 hy
    obtain ⟨-, x, hx, -, ⟨rfl, -⟩ | ⟨hxv, rfl⟩⟩ := key k y hkk
    · exact ⟨by decide, by decide, rfl, fun _ => ⟨rfl, rfl⟩⟩
    · have hb := (hk.wh k x hx hxv).1
      exact ⟨hb.1, hb.2, rfl, fun e => by cases e⟩
  have hdist : ∀ (i j : Nat) (s t : Sl), i < j → (slotsU (S'.now 2) (opK (S'.now 2)))[i]? = some s → (slotsU (S'.now 2) (opK (S'.now 2)))[j]? = some t → s.valid = true → t.valid = true → s.block ≠ t.block := by
    intro i j s t hij hs' ht' hsv htv e
    obtain ⟨-, x, hx, -, ⟨rfl, -⟩ | ⟨hxv, rfl⟩⟩ := key i s hs'
    · cases hsv
    · obtain ⟨-, x2, hx2, -, ⟨rfl, -⟩ | ⟨hxv2, rfl⟩⟩ := key j t ht'
      · cases htv
      · have := hk.uq i j x x2 hx hx2 hxv hxv2 e
        omega
  obtain ⟨a1, a2, -⟩ := allOk_words (S'.now 2) (slotsU (S'.now 2) (opK (S'.now 2))) (fun i s hs' => by obtain ⟨-, x, -, hw, -⟩ := key i s hs'; rw [hw, Option.getD_some]) hgood hdist R.x.sl.length (by rw [slotsU_length, hK]; exact Nat.le_refl _)
  have hopen : openE (S'.now 2) = 0 := by
    refine open_good (S'.now 2) _ R.x.sl.length C.n2 hh g1 g2 hl2 ?_ a1
    refine hbad_no _ R.x.sl.length C.n2 g2 hs (by omega) ?_ ?_ g6
    · have : hdI R.x.sl.length (C.chunk : Int) V.md false / 2048 % 128 = C.chunk := Int.ofNat.inj g3
      rw [this]; omega
    · intro e
      rw [e] at g4
      omega
  refine ⟨c7, c8, hopen, hCc.symm, ?_, ?_, ?_, ?_, ?_⟩
  · rw [hK, hCc]; have := hk.n1; omega
  · rw [hCc]
    unfold badS
    rw [List.any_eq_false]
    intro y hy
    obtain ⟨k, hkk⟩ := List.mem_iff_getElem?.1 hy
    obtain ⟨-, x, hx, -, ⟨rfl, -⟩ | ⟨hxv, rfl⟩⟩ := key k y hkk
    · simp [nilS]
    · have hb := hk.wh k x hx hxv
      have hle : x.block.toNat + 1 ≤ C.n0 / C.chunk := (Nat.le_div_iff_mul_le (by omega)).2 (by rw [Nat.add_mul, Nat.one_mul]; exact hb.2)
      generalize C.n0 / C.chunk = q at *
      simp
      omega
  · rw [hK]; exact hn2
  · intro j y i hy hg hv hd hi
    obtain ⟨-, x, hx, -, ⟨rfl, -⟩ | ⟨hxv, rfl⟩⟩ := key j y hy
    · cases hv
    · have := hvi.ceq j x i hx hxv hd hi
      rw [v0, v1] at this
      rw [n0, n1]
      exact this
  · intro a v ha hv
    have hkept : ∀ y : Sl, kept (opM (S'.now 2)) (opO (S'.now 2)) y = y := by
      intro y
      unfold kept
      rw [hO, if_neg]
      rintro ⟨e, -⟩
      cases e
    rcases hv with ⟨k, z, hz, hzv, hzb, hn⟩ | ⟨hno, hn⟩
    · rw [List.getElem?_map] at hz
      rcases hy : (slotsU (S'.now 2) (opK (S'.now 2)))[k]? with _ | y
      · rw [hy] at hz; cases hz
      · rw [hy] at hz
        injection hz with hz
        rw [hkept] at hz
        subst hz
        obtain ⟨-, x, hx, -, ⟨rfl, -⟩ | ⟨hxv, rfl⟩⟩ := key k y hy
        · cases hzv
        · rw [n1] at hn
          exact .inl ⟨k, x, hx, hxv, hzb, hn⟩
    · rw [n0] at hn
      refine .inr ⟨fun k x hx hxv hxb => ?_, hn⟩
      have hkl := (List.getElem?_eq_some_iff.1 hx).1
      have hy := slotsU_at (S'.now 2) (opK (S'.now 2)) k (by rw [hK]; exact hkl)
      obtain ⟨-, x2, hx2, -, hyc⟩ := key k _ hy
      rw [hx] at hx2
      injection hx2 with hx2
      subst hx2
      rcases hyc with ⟨-, e⟩ | ⟨-, e⟩
      · rw [e] at hxv; cases hxv
      · refine hno k ⟨true, x.dirty, x.block, 0⟩ ?_ rfl hxb
        rw [List.getElem?_map, hy, e]
        exact congrArg some (hkept _)
end
end Go.Proofs.YtogchafnnkajfaaGreat
namespace Go.Proofs.YtogchafnnkajfaaGreat
set_option linter.unusedVariables false
open Go.RowKit
structure VB (lo : Nat) (W0 W : World) (X Fv : Nat → Prop) (pb bL cL rr pv : Nat) (C : VC) (V : VS) (R : RV) (n : Nat) : Prop where
  vol : VolAt W Fv C V
  y : PY C V R n
  md : V.md = 1 ∨ V.md = 2
  pair : Cs W pb 42 #[.pointer (some ⟨C.g, 0, none⟩), .slice (some ⟨bL, 0, none⟩) 3 cL, .pointer (some ⟨pv, 0, none⟩), .pointer (some ⟨rr, 0, none⟩)]
  spans : W.ownsRow 0 55 1 (.slice (some ⟨bL, 0, none⟩) 3 cL) 3 (spv [C.s0, C.s1, C.s2])
  ap : ¬ Fv pb ∧ ¬ Fv bL
  lof : ∀ j, Fv j → lo ≤ j
  lo_ : lo ≤ pb ∧ lo ≤ bL
  bel : Below W0.heap.size W0 W
  low : W0.heap.size ≤ lo
  out : ∀ j, X j → ¬ Fv j ∧ j < W.heap.size
  lg : ∀ r ∈ V.S.log, r.1 < 3
def VA (lo : Nat) (W0 W : World) (X : Nat → Prop) (pb bL cL rr pv : Nat) (C : VC) (R : RV) (n : Nat) : Prop := ∃ Fv V, VB lo W0 W X Fv pb bL cL rr pv C V R n
structure PK1 (C : VC) : Prop where
  c1 : 1 ≤ C.chunk ∧ C.chunk ≤ 64
  b0 : 1 ≤ C.n0 ∧ C.n0 ≤ 60000
  b1 : 1 ≤ C.n1 ∧ C.n1 ≤ 60000
  b2 : 1 ≤ C.n2 ∧ C.n2 ≤ 60000
section
variable {lo : Nat} {W0 W W' : World} {X Fv Fv' : Nat → Prop} {pb bL cL rr pv : Nat} {C : VC} {V V' : VS} {R R' : RV} {n m : Nat}
theorem log3 (hv : VolAt W Fv C V) (hh : Hea V.S [C.n0, C.n1, C.n2]) : ∀ r ∈ V.S.log, r.1 < 3 := by
  intro r hr
  obtain ⟨Fc, A, c, B, d, hvv⟩ := hv
  obtain ⟨F, A', c', hca⟩ := hvv.cache
  have := (hca.dsk.1.log r hr).1
  have hd := hh.nd
  simp at hd
  omega
theorem PP.alone {K : RC} {Q : RV} (h : PP lo W0 W X pb bL cL C K R Q n) (hk : PK C K) : VA lo W0 W X pb bL cL K.r C.v C R n := by
  obtain ⟨Fv, Fq, V, h⟩ := h
  exact ⟨Fv, V, h.p.vol, h.y, by rw [h.md]; exact hk.md, h.p.pair, h.p.spans, ⟨h.p.ap.1, h.p.ap.2.2.1⟩, fun j hj => h.p.lof j (.inl hj), h.p.lo_, h.bel, h.low, fun j hj => ⟨(h.out j hj).1, (h.out j hj).2.2⟩, log3 h.p.vol h.y.vi.k.hea⟩
theorem VB.lt (h : VB lo W0 W X Fv pb bL cL rr pv C V R n) : pb < W.heap.size ∧ bL < W.heap.size ∧ lo ≤ W.heap.size := by
  have h1 := h.pair.lt
  have h2 := own_lt h.spans _ rfl
  have h3 := h.lo_
  exact ⟨h1, h2, by omega⟩
theorem VB.vd (h : VB lo W0 W X Fv pb bL cL rr pv C V R n) (hv : VolAt W' Fv' C V') (ht : Turn Fv Fv' W W') (hy : PY C V' R' m) (hm : V'.md = V.md) : VA lo W0 W' X pb bL cL rr pv C R' m ∧ PFr lo X W W' := by
  have hl := h.lt
  have h0 := h.low
  refine ⟨⟨Fv', V', hv, hy, by rw [hm]; exact h.md, h.pair.fr ht.1 h.ap.1, own_fr h.spans ht.1 (fun b hb => by simp [Value.ownBlock] at hb; rw [← hb]; exact h.ap.2), ⟨ht.out hl.1 h.ap.1, ht.out hl.2.1 h.ap.2⟩, fun j hj => ?_, h.lo_, h.bel.trans (ht.1.below (by omega) (fun j hj => Nat.le_trans h.low (h.lof j hj))), h.low, fun j hj => ⟨ht.out (h.out j hj).2 (h.out j hj).1, Nat.lt_of_lt_of_le (h.out j hj).2 ht.1.size⟩, log3 hv hy.vi.k.hea⟩, ⟨ht.1.mono (fun j _ hj hx => (h.out j hx).1 hj), ht.1.below hl.2.2 (fun j hj => h.lof j hj)⟩⟩
  rcases ht.2 j hj with e | e
  · exact h.lof j e
  · omega
theorem VA.cells (h : VA lo W0 W X pb bL cL rr pv C R n) : W.cell? ⟨pb, 0, none⟩ = some (.pointer (some ⟨C.g, 0, none⟩)) ∧ W.cell? ⟨pb, 1, none⟩ = some (.slice (some ⟨bL, 0, none⟩) 3 cL) ∧ W.cell? ⟨pb, 2, none⟩ = some (.pointer (some ⟨pv, 0, none⟩)) ∧ W.frozen? ⟨pb, 2, none⟩ = false ∧
    W.cell? ⟨bL, 0, none⟩ = some (.iface 176 (.pointer (some ⟨C.s0, 0, none⟩))) ∧ W.cell? ⟨bL, 1, none⟩ = some (.iface 176 (.pointer (some ⟨C.s1, 0, none⟩))) ∧ W.cell? ⟨bL, 2, none⟩ = some (.iface 176 (.pointer (some ⟨C.s2, 0, none⟩))) := by
  obtain ⟨Fv, V, h⟩ := h
  exact ⟨h.pair.cell 0, h.pair.cell 1, h.pair.cell 2, h.pair.free 2, (h.spans.cellAt 0 (by omega)).trans rfl, (h.spans.cellAt 1 (by omega)).trans rfl, (h.spans.cellAt 2 (by omega)).trans rfl⟩
theorem VA.bel (h : VA lo W0 W X pb bL cL rr pv C R n) : Below W0.heap.size W0 W := by
  obtain ⟨Fv, V, h⟩ := h
  exact h.bel
theorem VA.mono (h : VA lo W0 W X pb bL cL rr pv C R n) (hm : n ≤ m) : VA lo W0 W X pb bL cL rr pv C R m := by
  obtain ⟨Fv, V, h⟩ := h
  exact ⟨Fv, V, h.vol, h.y.mono hm, h.md, h.pair, h.spans, h.ap, h.lof, h.lo_, h.bel, h.low, h.out, h.lg⟩
theorem VA.y (h : VA lo W0 W X pb bL cL rr pv C R n) : ∃ V, PY C V R n := by
  obtain ⟨Fv, V, h⟩ := h
  exact ⟨V, h.y⟩
theorem VA.fr (h : VA lo W0 W X pb bL cL rr pv C R n) {G : Nat → Prop} (hf : Fr G W W') (hG : ∀ j, G j → j < lo ∧ W0.heap.size ≤ j) : VA lo W0 W' X pb bL cL rr pv C R n := by
  obtain ⟨Fv, V, h⟩ := h
  have h1 := h.lo_
  have hl := h.lt
  have h0 := h.low
  exact ⟨Fv, V, h.vol.fr hf (fun j hj e => by have := h.lof j hj; have := (hG j e).1; omega), h.y, h.md, h.pair.fr hf (fun e => by have := (hG _ e).1; omega), own_fr h.spans hf (fun b hb e => by simp [Value.ownBlock] at hb; have := (hG _ e).1; omega), h.ap, h.lof, h.lo_, h.bel.trans (hf.below (by omega) (fun j hj => (hG j hj).2)), h.low, fun j hj => ⟨(h.out j hj).1, Nat.lt_of_lt_of_le (h.out j hj).2 hf.size⟩, h.lg⟩
theorem VA.keep (h : VA lo W0 W X pb bL cL rr pv C R n) (hb : Below W.heap.size W W') : VA lo W0 W' X pb bL cL rr pv C R n := h.fr (G := fun _ => False) (Fr.of_below hb) (fun j hj => hj.elim)
theorem VA.grown (h : VA lo W0 W X pb bL cL rr pv C R n) (hl : W0.heap.size < lo) (hg : W.grownBy W' (some W0.heap.size)) : VA lo W0 W' X pb bL cL rr pv C R n := h.fr (Fr.of_grown hg) (fun j hj => by have : j = W0.heap.size := hj; omega)
theorem VA.vread (h : VA lo W0 W X pb bL cL rr pv C R n) (hk : PK1 C) {a : Nat} (ha : a < C.n0) (hn : n ≤ 100000) :
    Calls Tryz.prog 22 #[.pointer (some ⟨C.v, 0, none⟩), .int .i64 (a : Int)] W fun e W' => e = .returned (.tuple #[.int .u64 ((R.read C.chunk a).1 : Int), .int .i64 0]) ∧ VA lo W0 W' X pb bL cL rr pv C (R.read C.chunk a).2 (n + 2 * C.chunk + 2) ∧ PFr lo X W W' := by
  obtain ⟨Fv, V, h⟩ := h
  have h1 := h.y.log
  have h2 := h.y.wr
  have h3 := h.y.clk
  have hc := hk.c1
  have hb0 := hk.b0
  have hb1 := hk.b1
  have hb2 := hk.b2
  obtain ⟨r1, r2, r3⟩ := h.y.read ha (by omega) (by omega)
  have hbd := Bd.slt (C := C) h.y.ok h.y.len ha (by omega) (by omega)
  refine (vread_any W Fv C V a h.vol h.y.ok h.y.len h.y.clo ha (by omega) (by omega) (by omega) (by omega) (by omega) (by omega) (by omega) (by omega)).mono ?_
  rintro e W' ⟨rfl, hlt, Fv', hv, ht⟩
  rw [r1, r2]
  exact ⟨rfl, h.vd hv ht r3 hbd.md⟩
theorem VA.vdetach (h : VA lo W0 W X pb bL cL rr pv C R n) (hk : PK1 C) (hn : n ≤ 100000) :
    Calls Tryz.prog 25 #[.pointer (some ⟨C.v, 0, none⟩)] W fun e W' => e = .returned (.int .i64 0) ∧ VA lo W0 W' X pb bL cL rr pv C (R.dtc C.chunk) (n + R.x.sl.length * (C.chunk + 2)) ∧ PFr lo X W W' := by
  obtain ⟨Fv, V, h⟩ := h
  have h1 := h.y.log
  have h2 := h.y.wr
  have hc := hk.c1
  have hb0 := hk.b0
  have hb1 := hk.b1
  have hb2 := hk.b2
  have hxe := h.y.x
  have hl := h.y.ok.len
  have hmm : V.x.sl.length * (C.chunk + 2) ≤ 1024 * 66 := Nat.mul_le_mul (by omega) (by omega)
  obtain ⟨r1, r2, r3⟩ := h.y.detach
  refine (vdetach_any W Fv C V h.vol h.y.ok h.y.len h.y.clo V.x.sl.length rfl (by omega) (by omega) (by omega) (by omega) (by omega) (by omega)).mono ?_
  rintro e W' ⟨rfl, Fv', hv, ht⟩
  rw [r1]
  refine ⟨rfl, h.vd hv ht r2 ?_⟩
  have hbd := (Bd.refl h.y.ok h.y.len).cln (C := C) V.x.sl.length 0
  unfold VS.dtc bnd
  dsimp only
  split
  · split
    · exact (frF_md C _ _ _).trans hbd.md
    · exact (frF_md C _ _ _).trans hbd.md
  · exact hbd.md
theorem VA.vstate (h : VA lo W0 W X pb bL cL rr pv C R n) :
    Calls Tryz.prog 26 #[.pointer (some ⟨C.v, 0, none⟩)] W (StP W R.x) := by
  obtain ⟨Fv, V, h⟩ := h
  have hl := h.y.ok.len
  have hm := h.y.ok.msl
  have := vstate_any W Fv C V h.vol (by omega) (by omega)
  rw [h.y.x] at this
  exact this
theorem VA.image (h : VA lo W0 W X pb bL cL rr pv C R n) {i k : Nat} {l : List Nat} (hi : [C.n0, C.n1, C.n2][i]? = some k) (hl : [R.o, R.f, R.m][i]? = some l) :
    Calls Tryz.prog 27 #[.pointer (some ⟨C.g, 0, none⟩), .int .i64 (i : Int)] W fun e w' => ∃ A c, e = .returned (.tuple #[.slice A k c, .int .i64 0]) ∧ w'.ownsRow W.heap.size 26 1 (.slice A k c) k (uv l) ∧ Below W.heap.size W w' := by
  obtain ⟨Fv, V, h⟩ := h
  obtain ⟨Fc, A, c, B, d, hv⟩ := h.vol
  obtain ⟨F, A', c', hca⟩ := hv.cache
  have hh := h.y.vi.k.hea
  refine (image_any W F C.g i V.S hca.dsk (hh.lt hi)).mono ?_
  rintro e w' ⟨v, rfl, ho, hb⟩
  have hn := (hh.nn i k hi).1
  have hl2 : (V.S.drv i).1.length = k := hn
  rw [hl2] at ho
  have he : (V.S.drv i).1 = l := by
    have hvw := h.y.vw
    obtain rfl | rfl | rfl : i = 0 ∨ i = 1 ∨ i = 2 := by
      have := (List.getElem?_eq_some_iff.1 hi).1
      simp at this
      omega
    · exact (congrArg RV.o hvw).trans (Option.some.inj hl)
    · exact (congrArg RV.f hvw).trans (Option.some.inj hl)
    · exact (congrArg RV.m hvw).trans (Option.some.inj hl)
  rw [he] at ho
  obtain ⟨A2, c2, hv2⟩ := own_form ho
  subst hv2
  exact ⟨A2, c2, rfl, ho, hb⟩
structure VCl (lo : Nat) (W0 W : World) (X Fv : Nat → Prop) (pb bL cL rr pv : Nat) (C : VC) (V V0 : VS) (R : RV) (n : Nat) : Prop where
  vol : VolAt W Fv C V
  z : ZR C V.S (RVV C.chunk R)
  y0 : PY C V0 R n
  v0 : V = V0.closV C
  md : V0.md = 1 ∨ V0.md = 2
  lg : V.S.log = []
  wr : V.S.wr ≤ (n + 10 : Nat)
  pair : Cs W pb 42 #[.pointer (some ⟨C.g, 0, none⟩), .slice (some ⟨bL, 0, none⟩) 3 cL, .pointer (some ⟨pv, 0, none⟩), .pointer (some ⟨rr, 0, none⟩)]
  spans : W.ownsRow 0 55 1 (.slice (some ⟨bL, 0, none⟩) 3 cL) 3 (spv [C.s0, C.s1, C.s2])
  ap : ¬ Fv pb ∧ ¬ Fv bL
  lof : ∀ j, Fv j → lo ≤ j
  lo_ : lo ≤ pb ∧ lo ≤ bL
  bel : Below W0.heap.size W0 W
  low : W0.heap.size ≤ lo
  out : ∀ j, X j → ¬ Fv j ∧ j < W.heap.size
def VE (lo : Nat) (W0 W : World) (X : Nat → Prop) (pb bL cL rr pv : Nat) (C : VC) (R : RV) (n : Nat) : Prop := ∃ Fv V V0, VCl lo W0 W X Fv pb bL cL rr pv C V V0 R n
theorem first_wr (S : DS) (i n w : Nat) : (S.first i n w).wr ≤ S.wr + 1 := by
  unfold DS.first
  split
  · exact swrite_wr _ _ _ _ _
  · rw [(flush_log _ _).2]; exact swrite_wr _ _ _ _ _
theorem closV_wr (C : VC) (V : VS) : (V.closV C).S.wr ≤ V.S.wr + 1 := by
  have q1 := (flush_log V.S 1).2
  have q2 := (flush_log (V.S.flush 1) 2).2
  have q3 := (flush_log ((V.S.flush 1).flush 2) 0).2
  have q4 := (flush_log (((V.S.flush 1).flush 2).flush 0) 2).2
  have q5 := first_wr ((((V.S.flush 1).flush 2).flush 0).flush 2) 2 C.n2 (hdI V.ss.length (C.chunk : Int) V.md false)
  show (((((V.S.flush 1).flush 2).flush 0).flush 2).first 2 C.n2 (hdI V.ss.length (C.chunk : Int) V.md false)).wr ≤ _
  omega
theorem VA.vclose (h : VA lo W0 W X pb bL cL rr pv C R n) (hk : PK1 C) (hs : 1 ≤ R.x.sl.length) (hn : n ≤ 100000) :
    Calls Tryz.prog 23 #[.pointer (some ⟨C.v, 0, none⟩)] W fun e W' => e = .returned (.int .i64 0) ∧ VE lo W0 W' X pb bL cL rr pv C R n ∧ PFr lo X W W' := by
  obtain ⟨Fv, V, h⟩ := h
  have h1 := h.y.log
  have h2 := h.y.wr
  have hc := hk.c1
  have hb2 := hk.b2
  have hl := h.y.ok.len
  have hl2 := h.y.len
  have hxe := h.y.x
  obtain ⟨r1, r2, r3, r4, r5, r6, r7, r8⟩ := h.y.close
  have hz := h.y.closed ⟨hs, by rw [← hxe]; omega⟩ (by omega) h.md
  refine (vclose_any W Fv C V h.vol h.y.clo h.y.stk r1 r2 r3 (by omega) (by omega) (by omega) (by omega) (by omega)).mono ?_
  rintro e W' ⟨rfl, Fv', hv, ht⟩
  have hl3 := h.lt
  have h0 := h.low
  have hlg : (V.closV C).S.log = [] := h.y.closLog h.lg
  have hwr := closV_wr C V
  refine ⟨rfl, ⟨Fv', _, V, hv, hz, h.y, rfl, h.md, hlg, by omega, h.pair.fr ht.1 h.ap.1, own_fr h.spans ht.1 (fun b hb => by simp [Value.ownBlock] at hb; rw [← hb]; exact h.ap.2), ⟨ht.out hl3.1 h.ap.1, ht.out hl3.2.1 h.ap.2⟩, fun j hj => ?_, h.lo_, h.bel.trans (ht.1.below (by omega) (fun j hj => Nat.le_trans h.low (h.lof j hj))), h.low, fun j hj => ⟨ht.out (h.out j hj).2 (h.out j hj).1, Nat.lt_of_lt_of_le (h.out j hj).2 ht.1.size⟩⟩, ⟨ht.1.mono (fun j _ hj hx => (h.out j hx).1 hj), ht.1.below hl3.2.2 (fun j hj => h.lof j hj)⟩⟩
  rcases ht.2 j hj with e | e
  · exact h.lof j e
  · omega
theorem VCl.lt {V0 : VS} (h : VCl lo W0 W X Fv pb bL cL rr pv C V V0 R n) : pb < W.heap.size ∧ bL < W.heap.size ∧ lo ≤ W.heap.size := by
  have h1 := h.pair.lt
  have h2 := own_lt h.spans _ rfl
  have h3 := h.lo_
  exact ⟨h1, h2, by omega⟩
theorem VE.cells (h : VE lo W0 W X pb bL cL rr pv C R n) : W.cell? ⟨pb, 0, none⟩ = some (.pointer (some ⟨C.g, 0, none⟩)) ∧ W.cell? ⟨pb, 1, none⟩ = some (.slice (some ⟨bL, 0, none⟩) 3 cL) ∧ W.cell? ⟨pb, 2, none⟩ = some (.pointer (some ⟨pv, 0, none⟩)) ∧
    W.cell? ⟨bL, 0, none⟩ = some (.iface 176 (.pointer (some ⟨C.s0, 0, none⟩))) ∧ W.cell? ⟨bL, 1, none⟩ = some (.iface 176 (.pointer (some ⟨C.s1, 0, none⟩))) ∧ W.cell? ⟨bL, 2, none⟩ = some (.iface 176 (.pointer (some ⟨C.s2, 0, none⟩))) := by
  obtain ⟨Fv, V, V0, h⟩ := h
  exact ⟨h.pair.cell 0, h.pair.cell 1, h.pair.cell 2, (h.spans.cellAt 0 (by omega)).trans rfl, (h.spans.cellAt 1 (by omega)).trans rfl, (h.spans.cellAt 2 (by omega)).trans rfl⟩
theorem VE.fr (h : VE lo W0 W X pb bL cL rr pv C R n) {G : Nat → Prop} (hf : Fr G W W') (hG : ∀ j, G j → j < lo ∧ W0.heap.size ≤ j) : VE lo W0 W' X pb bL cL rr pv C R n := by
  obtain ⟨Fv, V, V0, h⟩ := h
  have h1 := h.lo_
  have hl1 := h.pair.lt
  have h0 := h.low
  exact ⟨Fv, V, V0, h.vol.fr hf (fun j hj e => by have := h.lof j hj; have := (hG j e).1; omega), h.z, h.y0, h.v0, h.md, h.lg, h.wr, h.pair.fr hf (fun e => by have := (hG _ e).1; omega), own_fr h.spans hf (fun b hb e => by simp [Value.ownBlock] at hb; have := (hG _ e).1; omega), h.ap, h.lof, h.lo_, h.bel.trans (hf.below (by omega) (fun j hj => (hG j hj).2)), h.low, fun j hj => ⟨(h.out j hj).1, Nat.lt_of_lt_of_le (h.out j hj).2 hf.size⟩⟩
theorem VE.grown (h : VE lo W0 W X pb bL cL rr pv C R n) (hl : W0.heap.size < lo) (hg : W.grownBy W' (some W0.heap.size)) : VE lo W0 W' X pb bL cL rr pv C R n := h.fr (Fr.of_grown hg) (fun j hj => by have : j = W0.heap.size := hj; omega)
theorem VE.vopen (h : VE lo W0 W X pb bL cL rr pv C R n) (hk : PK1 C) {mode : Int} (hm : mode = 1 ∨ mode = 2) (hn : n ≤ 100000) :
    Calls Tryz.prog 24 #[spanV C.s0, spanV C.s1, spanV C.s2, .int .i64 mode] W fun e W' => ∃ m v R', e = .returned (.tuple #[.pointer (some ⟨v, 0, none⟩), .int .i64 0]) ∧ Kp C.chunk R R' ∧ R'.x.sl.length = R.x.sl.length ∧ VA lo W0 W' X pb bL cL rr pv ⟨C.g, C.s0, C.s1, C.s2, m, v, C.n0, C.n1, C.n2, C.chunk⟩ R' (n + 11 + C.n2 * (C.chunk + 2)) ∧ PFr lo X W W' := by
  obtain ⟨Fv, V, V0, h⟩ := h
  have hb0 := hk.b0
  have hb1 := hk.b1
  have hb2 := hk.b2
  have hc1 := hk.c1
  have hz := h.z
  have hlo := h.lt
  obtain ⟨Fc, A, c, B, d, hv⟩ := h.vol
  obtain ⟨F, A', c', hca⟩ := hv.cache
  have h02 : C.s0 ≠ C.s2 := fun e => hv.o0 (e ▸ hca.spC)
  have h12 : C.s1 ≠ C.s2 := fun e => hv.o1 (e ▸ hca.spC)
  have hw : W64 (V.S.now 2) := by
    have := hca.dsk.1.drv
    unfold DS.now DS.drv
    rcases hx : V.S.dr[2]? with _ | x
    · intro y hy; simp at hy
    · exact (this x (List.mem_of_getElem? hx)).1
  have hwr := h.wr
  refine (vopen_any W F Fv C.g C.s0 C.s1 C.s2 C.n0 C.n1 C.n2 V.S mode hca.dsk hv.sp0 hv.sp1 hca.span (fun j hj => hv.inC j (hca.inF j hj)) hv.i0 hv.i1 (hv.inC _ hca.spC) (fun e => hv.o0 (hca.inF _ e)) (fun e => hv.o1 (hca.inF _ e)) hca.spF h02 h12 hz.nf.hea hz.nf.dn hz.nf.fu hw (by omega) (by omega) (by omega) (by omega) (by rw [h.lg]; exact Nat.zero_le _) (by omega) (by omega)).mono ?_
  have hop := (hz.opened hm).2.2.2.2.2.2.2.2.2.2
  rintro e W' ho
  rcases ho with ⟨hne, -⟩ | ⟨-, m, v, Fv', rfl, hv3, ht3⟩
  · exact absurd hop hne
  · rw [← show C.chunk = opC (V.S.now 2) from hz.hC] at hv3
    have hK : C.n2 = opK (V.S.now 2) + 1 := hz.n2
    have hmul : opK (V.S.now 2) * (C.chunk + 2) ≤ C.n2 * (C.chunk + 2) := Nat.mul_le_mul_right _ (by omega)
    have hz' : ZR ⟨C.g, C.s0, C.s1, C.s2, m, v, C.n0, C.n1, C.n2, C.chunk⟩ V.S (RVV C.chunk R) := ⟨⟨hz.nf.hea, hz.nf.dn, hz.nf.fu⟩, hz.st, hz.op, hz.hC, hz.h1, hz.hb, hz.n2, hz.eq, hz.v⟩
    have hll : V.S.log.length = 0 := by rw [h.lg]; rfl
    obtain ⟨y1, y2⟩ := PY.start (n := n + 11 + C.n2 * (C.chunk + 2)) hz' hm (by show _ + opK (V.S.now 2) * (C.chunk + 2) + 1 ≤ _; omega) (by show _ + ((opK (V.S.now 2) * (C.chunk + 2) : Nat) : Int) + 1 ≤ _; omega)
    have hl := h.lt
    have h0 := h.low
    refine ⟨m, v, _, rfl, ?_, ?_, ⟨Fv', _, hv3, y1, ?_, h.pair.fr ht3.1 h.ap.1, own_fr h.spans ht3.1 (fun b hb => by simp [Value.ownBlock] at hb; rw [← hb]; exact h.ap.2), ⟨ht3.out hl.1 h.ap.1, ht3.out hl.2.1 h.ap.2⟩, fun j hj => ?_, h.lo_, h.bel.trans (ht3.1.below (by omega) (fun j hj => Nat.le_trans h.low (h.lof j hj))), h.low, fun j hj => ⟨ht3.out (h.out j hj).2 (h.out j hj).1, Nat.lt_of_lt_of_le (h.out j hj).2 ht3.1.size⟩, log3 hv3 y1.vi.k.hea⟩, ⟨ht3.1.mono (fun j _ hj hx => (h.out j hx).1 hj), ht3.1.below hl.2.2 (fun j hj => h.lof j hj)⟩⟩
    · have hv0 := h.v0
      subst hv0
      obtain ⟨-, o2, -⟩ := hz'.opened hm
      intro a u hu
      have ha : a < C.n0 := VV.lt h.y0.vi.k ((h.y0.vv a u).2 hu)
      obtain ⟨u', hu'⟩ := y1.ex (a := a) ha
      have e := h.y0.un hu (o2 a u' ((y1.vv a u').2 hu'))
      rw [e]
      exact hu'
    · have e1 := y1.vi.k.n2
      have e2 := h.y0.vi.k.n2
      change C.n2 = _ at e1
      rw [y1.x] at e1
      rw [h.y0.x] at e2
      omega
    · rcases hm with rfl | rfl
      · exact .inl rfl
      · exact .inr rfl
    · rcases ht3.2 j hj with e | e
      · exact h.lof j e
      · omega
theorem VA.setv (h : VA lo W0 W X pb bL cL rr pv C R n) : VA lo W0 (W.setCell ⟨pb, 2, none⟩ (.pointer (some ⟨C.v, 0, none⟩))) X pb bL cL rr C.v C R n := by
  obtain ⟨Fv, V, h⟩ := h
  have hl := h.lt
  have h0 := h.low
  have hlo := h.lo_
  have hf := fr_set W pb 2 (.pointer (some ⟨C.v, 0, none⟩))
  exact ⟨Fv, V, h.vol.fr hf (fun j hj e => h.ap.1 (e ▸ hj)), h.y, h.md, Cs.put (l := [_, _, _, _]) h.pair _, own_fr h.spans hf (fun b hb e => by
      simp [Value.ownBlock] at hb
      exact cs_own_ne h.pair h.spans (by decide) bL rfl (hb.trans e)), h.ap, h.lof, h.lo_, h.bel.trans (hf.below (by omega) (fun j hj => by have : j = pb := hj; omega)), h.low, fun j hj => ⟨(h.out j hj).1, Nat.lt_of_lt_of_le (h.out j hj).2 hf.size⟩, h.lg⟩
end
end Go.Proofs.YtogchafnnkajfaaGreat
namespace Go.Proofs.YtogchafnnkajfaaGreat
set_option linter.unusedVariables false
open Go.RowKit
attribute [local go_sem] Oper.semAt_some
theorem u64_nat33 (v : Int) (h0 : 0 ≤ v) (h : v < 18446744073709551616) : IntKind.u64.wrap v = v := by
  have : IntKind.u64.wrap v = v % 18446744073709551616 := by simp [IntKind.wrap, IntKind.signed, IntKind.bits]
  omega
def StepP (lo : Nat) (W0 : World) (X : Nat → Prop) (pb bL cL : Nat) (C : VC) (K : RC) (m : Nat) (e : Ending) (W' : World) : Prop := e = .returned (.bool true) ∧ ∃ R', PP lo W0 W' X pb bL cL C K R' R' m ∧ SrcAt W' W0.heap.size
theorem PFr.src {lo : Nat} {X : Nat → Prop} {W W' : World} (h : PFr lo X W W') {g : Nat} (hs : SrcAt W g) (hg : g < lo) : SrcAt W' g := hs.below h.bel hg
set_option maxRecDepth 100000 in
set_option maxHeartbeats 8000000 in
theorem step33_any {lo : Nat} {W0 W : World} {X : Nat → Prop} {pb bL cL : Nat} {C : VC} {K : RC} {R : RV} {n : Nat} (h : PP lo W0 W X pb bL cL C K R R n) (hs : SrcAt W W0.heap.size) (hlo : W0.heap.size < lo) (hk : PK C K) (hc4 : C.chunk ≤ 4) (hs4 : C.n2 ≤ 5) (hn : n ≤ 90000) :
    Calls Tryz.prog 20 #[.pointer (some ⟨pb, 0, none⟩), .pointer (some ⟨W0.heap.size, 0, none⟩)] W (StepP lo W0 X pb bL cL C K (n + 30)) := by
  have HP := Lib.hid h
  have HS := Lib.hid hs
  have HK := Lib.hid hk
  have hqk := h.qok hk (by omega)
  have HQ := Lib.hid hqk
  have hb0 := hk.b0
  have he0 := hk.e0
  have hch := hk.c1
  have hsl : R.x.sl.length ≤ 4 := by have := hqk.sl; rw [hk.e2] at this; omega
  obtain ⟨x0, x1, x2, x3, x4, x5, x6⟩ := h.cells
  have hr0 : W.cell? ⟨K.r, 0, none⟩ = some (.slice (some ⟨K.bo, 0, none⟩) C.n0 K.co) := by
    obtain ⟨Fv, Fq, V, hp⟩ := h
    obtain ⟨A, c, B, d, hr⟩ := hp.p.rv
    have := hr.cells.1
    rw [he0] at this
    exact this
  have r0f : ∀ w : World, PP lo W0 w X pb bL cL C K R R n → w.cell? ⟨pb, 3, none⟩ = some (.pointer (some ⟨K.r, 0, none⟩)) ∧ w.cell? ⟨K.r, 0, none⟩ = some (.slice (some ⟨K.bo, 0, none⟩) C.n0 K.co) := by
    intro w hw
    obtain ⟨Fv, Fq, V, hp⟩ := hw
    obtain ⟨A, c, B, d, hr⟩ := hp.p.rv
    have := hr.cells.1
    rw [he0] at this
    exact ⟨hp.p.cells.2.2.2.1, this⟩
  have HR0 := Lib.hid r0f
  clear h hs hk hqk r0f x0 x1 x4 x5 x6 he0
  go_enter Tryz.func20, Tryz.ntmps20
  go_wp2_with fail
  go_region_held3 (fun w' => w'.cell? ⟨pb, 3, none⟩ = some (.pointer (some ⟨K.r, 0, none⟩)) ∧ w'.cell? ⟨K.r, 0, none⟩ = some (.slice (some ⟨K.bo, 0, none⟩) C.n0 K.co))
    (first | with_reducible exact y5 | (exact HR0.out _ (HP3.out.keep ((Below.refl _ _).alloc (Nat.le_refl _) _))) | with_reducible exact y3 | with_reducible exact y2 | with_reducible exact y1 | exact ⟨x3, hr0⟩)
    (first
      | (go_at_call 49; refine (pick_any W0.heap.size w3.heap.size 5 [r1, r2, r3, -1, (C.n0 : Int)] _ (HS3.out.alloc _) rfl (by omega) (by omega) (by exact Cs.new _ _ _) (by have := HS3.out.lt; omega)).mono ?_; rintro e w5 ⟨a, rfl, ha, hs5, hg5⟩; have HP5 := Lib.hid ((HP3.out.keep ((Below.refl _ _).alloc (Nat.le_refl _) _)).grown hlo hg5); have y5 := HR0.out w5 HP5.out)
      | (go_at_call 13; refine (n_any W0.heap.size 8 w2 HS2.out (by omega) (by omega)).mono ?_; rintro e w3 ⟨r3, rfl, hr3, hr3', hs3, hg3⟩; have HS3 := Lib.hid hs3; have HP3 := Lib.hid (HP2.out.grown hlo hg3); have y3 := HR0.out w3 HP3.out)
      | (go_at_call 13; refine (n_any W0.heap.size (C.n0 : Int) w1 HS1.out (by omega) (by omega)).mono ?_; rintro e w2 ⟨r2, rfl, hr2, hr2', hs2, hg2⟩; have HS2 := Lib.hid hs2; have HP2 := Lib.hid (HP1.out.grown hlo hg2); have y2 := HR0.out w2 HP2.out)
      | (go_at_call 13; refine (n_any W0.heap.size (C.n0 : Int) W.drew (HS.out.keep (Below.refl _ W).drew) (by omega) (by omega)).mono ?_; rintro e w1 ⟨r1, rfl, hr1, hr1', hs1, hg1⟩; have HS1 := Lib.hid hs1; have HP1 := Lib.hid ((HP.out.keep (Below.refl _ W).drew).grown hlo hg1); have y1 := HR0.out w1 HP1.out))
  have HS5 := Lib.hid hs5
  have ha' : (0 ≤ a ∧ a < (C.n0 : Int)) ∨ (a < 0 ∨ (C.n0 : Int) ≤ a) := by omega
  clear hs1 hs2 hs3 hs5 hg1 hg2 hg3 hg5 HS1 HS2 HS3 HP1 HP2 HP3 y1 y2 y3 y5 ha HP HS x2 x3 hr0 hr1 hr1' hr2 hr2' hr3 hr3'
  go_wp2_with fail
  refine (n_any W0.heap.size 20 w5 HS5.out (by omega) (by omega)).mono ?_
  rintro e w6 ⟨c, rfl, hc0, hc20, hs6, hg6⟩
  have HP6 := Lib.hid (HP5.out.grown hlo hg6)
  have HS6 := Lib.hid hs6
  clear hs6 hg6 HS5 HP5
  obtain ⟨x0, x1, x2, x3, x4, x5, x6⟩ := HP6.out.cells
  clear x0 x1 x4 x5 x6
  have HRR : Hid (∀ w m, PP lo W0 w X pb bL cL C K R R m → QOk K R) := fun _ _ _ => HQ.out
  by_cases h9 : c < 9
  · -- reads
    as_aux_lemma =>
    rcases ha' with ⟨ha0, ha1⟩ | hno
    · obtain ⟨q, rfl⟩ : ∃ q : Nat, a = (q : Int) := ⟨a.toNat, by omega⟩
      have HV := Lib.hid (HP6.out.vread HK.out (a := q) (by omega) (by omega))
      go_upto_region 5 with (go_at_call 22; (with_reducible refine HV.out.mono ?_); rintro e w7 ⟨rfl, -, hp7, hf7⟩)
      have HS7 := Lib.hid (hf7.src HS6.out hlo)
      have HR := Lib.hid (hp7.rread HK.out HQ.out (a := q) (by omega))
      obtain ⟨-, -, -, y3, -, -, -⟩ := hp7.cells
      clear hp7 hf7 HV x2 x3
      generalize (R.read C.chunk q).1 = rv at *
      generalize (R.read C.chunk q).2 = R' at *
      go_upto_region 6 with (go_at_call 21; (with_reducible refine HR.out.mono ?_); rintro e w8 ⟨rfl, hp8, hf8⟩)
      have HP8 := Lib.hid hp8
      have HS8 := Lib.hid (hf8.src HS7.out hlo)
      clear HR y3 hp8 hf8
      go_wp2_with fail
      go_ret
      exact ⟨rfl, R', HP8.out.mono (by omega), HS8.out⟩
    · have HV := Lib.hid (HP6.out.vreadno hno)
      have HR := Lib.hid (HP6.out.rreadno HK.out hno)
      go_wp2_with (first
        | (go_at_call 22; (with_reducible refine HV.out.mono ?_); rintro e w7 ⟨rfl, rfl⟩)
        | (go_at_call 21; (with_reducible refine HR.out.mono ?_); rintro e w8 ⟨rfl, rfl⟩))
      go_ret
      exact ⟨rfl, R, HP6.out.mono (by omega), HS6.out⟩
  by_cases h16 : c < 16
  · -- writes
    as_aux_lemma =>
    clear x2 x3
    go_upto_region 9 with (go_at_call 13; refine (n_any W0.heap.size 100 _ HS6.out (by omega) (by omega)).mono ?_; rintro e w7 ⟨v7, rfl, hv7, hv7', hs7, hg7⟩; have ev := u64_nat33 v7 hv7 (by omega); have HP7 := Lib.hid (HP6.out.grown hlo hg7); have HS7 := Lib.hid hs7)
    obtain ⟨v, rfl⟩ : ∃ v : Nat, v7 = (v : Int) := ⟨v7.toNat, by omega⟩
    have hvl : v < 18446744073709551616 := by omega
    clear ev hs7 hg7 hv7 hv7' HP6 HS6
    obtain ⟨-, -, x2, x3, -, -, -⟩ := HP7.out.cells
    rcases ha' with ⟨ha0, ha1⟩ | hno
    · obtain ⟨q, rfl⟩ : ∃ q : Nat, a = (q : Int) := ⟨a.toNat, by omega⟩
      have HV := Lib.hid ((HP7.out.keep (Below.refl _ w7).drew).vwrite HK.out (a := q) (v := v) (by omega) hvl (by omega))
      have HRr : Hid (∀ w, PP lo W0 w X pb bL cL C K (R.write C.chunk (decide (K.mode = 2)) q v) R (n + 2 * C.chunk + 5) → _) := fun w hw => hw.rwrite HK.out HQ.out v (show q < C.n0 by omega)
      generalize R.write C.chunk (decide (K.mode = 2)) q v = R' at *
      go_region_held3 (fun w' => w'.cell? ⟨pb, 2, none⟩ = some (.pointer (some ⟨C.v, 0, none⟩)) ∧ w'.cell? ⟨pb, 3, none⟩ = some (.pointer (some ⟨K.r, 0, none⟩)))
        (first | exact yb | exact yy | exact ⟨x2, x3⟩)
        (first
        | (go_at_call 50; (with_reducible refine (HRr.out _ HP8.out).mono ?_); rintro e w9 ⟨rfl, hp9, hf9⟩; have yb : w9.cell? ⟨pb, 2, none⟩ = some (.pointer (some ⟨C.v, 0, none⟩)) ∧ w9.cell? ⟨pb, 3, none⟩ = some (.pointer (some ⟨K.r, 0, none⟩)) := ⟨hp9.cells.2.2.1, hp9.cells.2.2.2.1⟩)
        | (go_at_call 31; (with_reducible refine HV.out.mono ?_); rintro e w8 ⟨rfl, hp8, hf8⟩; have HP8 := Lib.hid hp8; have yy : w8.cell? ⟨pb, 2, none⟩ = some (.pointer (some ⟨C.v, 0, none⟩)) ∧ w8.cell? ⟨pb, 3, none⟩ = some (.pointer (some ⟨K.r, 0, none⟩)) := ⟨hp8.cells.2.2.1, hp8.cells.2.2.2.1⟩))
      have HS9 := Lib.hid (hf9.src (hf8.src (HS7.out.keep (Below.refl _ w7).drew) hlo) hlo)
      have HP9 := Lib.hid hp9
      clear yy yb x2 x3 hp8 hp9 hf8 hf9 HV HRr
      go_wp2_with fail
      go_ret
      exact ⟨rfl, R', HP9.out.mono (by omega), HS9.out⟩
    · have HV := Lib.hid ((HP7.out.keep (Below.refl _ w7).drew).vwriteno (v := v) hno)
      have HR := Lib.hid ((HP7.out.keep (Below.refl _ w7).drew).rwriteno (v := v) HK.out hno)
      have hxd : w7.drew.cell? ⟨pb, 2, none⟩ = some (.pointer (some ⟨C.v, 0, none⟩)) ∧ w7.drew.cell? ⟨pb, 3, none⟩ = some (.pointer (some ⟨K.r, 0, none⟩)) := ⟨(HP7.out.keep (Below.refl _ w7).drew).cells.2.2.1, (HP7.out.keep (Below.refl _ w7).drew).cells.2.2.2.1⟩
      go_region_held3 (fun w' => w'.cell? ⟨pb, 2, none⟩ = some (.pointer (some ⟨C.v, 0, none⟩)) ∧ w'.cell? ⟨pb, 3, none⟩ = some (.pointer (some ⟨K.r, 0, none⟩)))
        (first | exact hxd | exact ⟨x2, x3⟩)
        (first
        | (go_at_call 50; (with_reducible refine HR.out.mono ?_); rintro e w9 ⟨rfl, hw9⟩; subst hw9)
        | (go_at_call 31; (with_reducible refine HV.out.mono ?_); rintro e w8 ⟨rfl, hw8⟩; subst hw8))
      have HP9 := Lib.hid (HP7.out.keep (Below.refl _ w7).drew)
      have HS9 := Lib.hid (HS7.out.keep (Below.refl _ w7).drew)
      clear hxd x2 x3 HV HR
      go_wp2_with fail
      go_ret
      exact ⟨rfl, R, HP9.out.mono (by omega), HS9.out⟩
  by_cases h18 : c < 18
  · -- Clean
    as_aux_lemma =>
    clear x2 x3
    go_upto_region 12 with (go_at_call 13; refine (n_any W0.heap.size 4 _ HS6.out (by omega) (by omega)).mono ?_; rintro e w7 ⟨v7, rfl, hv7, hv7', hs7, hg7⟩; have ev : IntKind.i64.wrap (v7 - 1) = v7 - 1 := IntWalk.i64_in _ (by omega); have HP7 := Lib.hid (HP6.out.grown hlo hg7); have HS7 := Lib.hid hs7)
    obtain ⟨m, hm⟩ : ∃ m, v7 - 1 = m := ⟨_, rfl⟩
    rw [hm]
    have hml : -1 ≤ m ∧ m ≤ 2 := by omega
    clear ev hs7 hg7 hv7 hv7' HP6 HS6 hm
    obtain ⟨-, -, x2, x3, -, -, -⟩ := HP7.out.cells
    by_cases hneg : m < 0
    · have HV := Lib.hid (HP7.out.vcleanno hneg)
      have HR := Lib.hid (HP7.out.rcleanno hneg)
      go_wp2_with (first
        | (go_at_call 47; (with_reducible refine HV.out.mono ?_); rintro e w8 ⟨rfl, rfl⟩)
        | (go_at_call 51; (with_reducible refine HR.out.mono ?_); rintro e w9 ⟨rfl, rfl⟩))
      go_ret
      exact ⟨rfl, R, HP7.out.mono (by omega), HS7.out⟩
    · obtain ⟨q, rfl⟩ : ∃ q : Nat, m = (q : Int) := ⟨m.toNat, by omega⟩
      have hbd : q * (C.chunk + 1) ≤ 2 * 5 := Nat.mul_le_mul (by omega) (by omega)
      have HV := Lib.hid (HP7.out.vclean HK.out q (by omega) (by omega))
      go_upto_region 13 with (go_at_call 47; (with_reducible refine HV.out.mono ?_); rintro e w8 ⟨rfl, hp8, hf8⟩)
      have HS8 := Lib.hid (hf8.src HS7.out hlo)
      have HR := Lib.hid (hp8.rclean HK.out HQ.out q (by omega))
      obtain ⟨-, -, -, y3, -, -, -⟩ := hp8.cells
      clear hp8 hf8 HV x2 x3
      generalize (R.clnF C.chunk q 0).1 = rv at *
      generalize (R.clnF C.chunk q 0).2 = R' at *
      go_upto_region 14 with (go_at_call 51; (with_reducible refine HR.out.mono ?_); rintro e w9 ⟨rfl, hp9, hf9⟩)
      have HP9 := Lib.hid hp9
      have HS9 := Lib.hid (hf9.src HS8.out hlo)
      clear HR y3 hp9 hf9
      go_wp2_with fail
      go_ret
      exact ⟨rfl, R', HP9.out.mono (by omega), HS9.out⟩
  -- the rest
  have HVF := Lib.hid (HP6.out.vflush (by omega))
  by_cases he : c = 18
  · subst he
    clear h9 h16 h18 hc0 hc20 HVF
    clear x2 x3
    go_upto_if 134 with (go_at_call 13; refine (n_any W0.heap.size 4 _ HS6.out (by omega) (by omega)).mono ?_; rintro e w7 ⟨v7, rfl, hv7, hv7', hs7, hg7⟩; have HP7 := Lib.hid (HP6.out.grown hlo hg7); have HS7 := Lib.hid hs7; have hz : (v7 == 0) = decide (v7 = 0) := by rw [Bool.eq_iff_iff]; simp)
    clear hs7 hg7 HP6 HS6
    obtain ⟨-, -, x2, x3, -, -, -⟩ := HP7.out.cells
    by_cases h0 : v7 = 0
    · subst h0
      have HV := Lib.hid ((HP7.out.keep (Below.refl _ w7).drew).vdetach HK.out (by omega))
      have HRr : Hid (∀ w m, PP lo W0 w X pb bL cL C K (R.dtc C.chunk) R m → _) := fun w m hw => hw.rdetach HK.out HQ.out
      have hbd : R.x.sl.length * (C.chunk + 2) ≤ 4 * 6 := Nat.mul_le_mul (by omega) (by omega)
      generalize R.dtc C.chunk = R' at *
      go_upto_region 16 with (fail)
      go_region_held3 (fun w' => w'.cell? ⟨pb, 2, none⟩ = some (.pointer (some ⟨C.v, 0, none⟩)) ∧ w'.cell? ⟨pb, 3, none⟩ = some (.pointer (some ⟨K.r, 0, none⟩)))
        (first | exact yb | exact yy | exact ⟨x2, x3⟩)
        (first
        | (go_at_call 52; (with_reducible refine (HRr.out _ _ HP8.out).mono ?_); rintro e w9 ⟨rfl, hp9, hf9⟩; have yb : w9.cell? ⟨pb, 2, none⟩ = some (.pointer (some ⟨C.v, 0, none⟩)) ∧ w9.cell? ⟨pb, 3, none⟩ = some (.pointer (some ⟨K.r, 0, none⟩)) := ⟨hp9.cells.2.2.1, hp9.cells.2.2.2.1⟩)
        | (go_at_call 25; (with_reducible refine HV.out.mono ?_); rintro e w8 ⟨rfl, hp8, hf8⟩; have HP8 := Lib.hid hp8; have yy : w8.cell? ⟨pb, 2, none⟩ = some (.pointer (some ⟨C.v, 0, none⟩)) ∧ w8.cell? ⟨pb, 3, none⟩ = some (.pointer (some ⟨K.r, 0, none⟩)) := ⟨hp8.cells.2.2.1, hp8.cells.2.2.2.1⟩))
      have HS9 := Lib.hid (hf9.src (hf8.src (HS7.out.keep (Below.refl _ w7).drew) hlo) hlo)
      have HP9 := Lib.hid hp9
      clear yy yb x2 x3 hp8 hp9 hf8 hf9 HV HRr
      go_wp2_with fail
      go_ret
      exact ⟨rfl, R', HP9.out.mono (by omega), HS9.out⟩
    · have hz0 : (v7 == 0) = false := by simpa using h0
      have HVF := Lib.hid (HP7.out.vflush (by omega))
      go_wp2_with (go_at_call 34; (with_reducible refine HVF.out.mono ?_); rintro e w8 ⟨rfl, hp8, hf8⟩)
      go_ret
      exact ⟨rfl, R, hp8.mono (by omega), hf8.src HS7.out hlo⟩
  · have hce : (c == 18) = false := by simpa using he
    go_wp2_with (go_at_call 34; (with_reducible refine HVF.out.mono ?_); rintro e w8 ⟨rfl, hp8, hf8⟩)
    go_ret
    exact ⟨rfl, R, hp8.mono (by omega), hf8.src HS6.out hlo⟩
end Go.Proofs.YtogchafnnkajfaaGreat
namespace Go.Proofs.YtogchafnnkajfaaGreat
set_option linter.unusedVariables false
open Go.RowKit
attribute [local go_sem] Oper.semAt_some m_size m_read m_write m_flush
set_option maxRecDepth 100000 in
set_option maxHeartbeats 8000000 in
theorem awake33_any (W : World) : Calls Tryz.prog 18 #[] W fun e W' => e = .returned (.bool true) ∧ Below W.heap.size W W' := by
  have hmk : ∀ w : World, (Instr.makeSlice 29 (.int .i64 4) (.int .i64 4)).run Tryz.prog w = .ok (.slice (some ⟨w.heap.size, 0, none⟩) 4 4) (w.alloc (.cells (uv [0, 0, 0, 0]).toArray 26)) := fun w => run_make_u64 4 (by omega) w
  have hw0 : W64 [0, 0, 0, 0] := by intro x hx; simp at hx; omega
  have hop := op_new (wordsL 3 8) [0, 0, 0, 0] 1 4 8 4 2 (by omega) (by omega) (.inr rfl) (wordsL_length 3 8) rfl (by omega)
  have HOP := Lib.hid hop
  clear hop
  go_enter Tryz.func18, Tryz.ntmps18
  go_upto_region 1 with (fail)
  go_cut [1, 2] (fun a1 a2 wx => ∃ lo pb bL cL C K, a1 = .pointer (some ⟨pb, 0, none⟩) ∧ a2 = .bool true ∧ PK C K ∧ K.mode = 2 ∧ C.n0 = 8 ∧ C.chunk = 4 ∧ PP lo W wx (fun _ => False) pb bL cL C K (rvN (wordsL 3 8) [0, 0, 0, 0] 1 4 2) (rvN (wordsL 3 8) [0, 0, 0, 0] 1 4 2) 30)
  case first =>
    go_region_with ((first
      | (go_at_call 15; refine Calls.mono (start33_any _ A1 _ A2 8 4 2 c1 4 c2 (wordsL 3 8) [0, 0, 0, 0] (newW 1 4) (by first | exact (Reads.of_own ho1).keep hb2 | exact ((Reads.of_own ho1).keep ((Below.refl _ _).alloc (Nat.le_refl _) _)).keep hb2 | exact ((Reads.of_own ho1).keep hb2).keep ((Below.refl _ _).alloc (Nat.le_refl _) _)) (by first | exact ((Reads.new W.drew (uv [0, 0, 0, 0]).toArray 26).keep hb1).keep hb2 | exact (Reads.new w1 (uv [0, 0, 0, 0]).toArray 26).keep hb2 | exact Reads.new _ _ _) (by first | exact Reads.of_own ho2 | exact (Reads.of_own ho2).keep ((Below.refl _ _).alloc (Nat.le_refl _) _)) (wordsL_length 3 8) rfl (newW_length 1 4) (by omega) (by omega) (by omega) (wordsL_w 3 8) hw0 (newW_w 1 4) 2 (by omega)) ?_; rintro e w3 ⟨pb, rfl, hb3, -, hok⟩)
      | (go_at_call 19; refine (words33_any 1 4 _ (by omega) (by omega)).mono ?_; rintro e w2 ⟨v2, rfl, ho2, hb2⟩; obtain ⟨A2, c2, hv2⟩ := own_form ho2; subst hv2)
      | (go_at_call 16; refine (words2_any 8 3 _ (by omega)).mono ?_; rintro e w1 ⟨v1, rfl, ho1, hb1⟩; obtain ⟨A1, c1, hv1⟩ := own_form ho1; subst hv1)))
    all_goals
      obtain ⟨Fv, Fq, bL, cL, g, s0, s1, s2, m, v, r, bo, co, bf, cf, bm, cm, hp⟩ := hok HOP.out
      have hww : Below W.heap.size W w3 ∧ ∃ lo, W.heap.size ≤ lo ∧ P33 lo w3 Fv Fq pb bL cL ⟨g, s0, s1, s2, m, v, 8, 4, 2, opC (newW 1 4)⟩ ((opn0 (DS.full [wordsL 3 8, [0, 0, 0, 0], newW 1 4]) 2).bgn ⟨g, s0, s1, s2, m, v, 8, 4, 2, opC (newW 1 4)⟩ 2) (rvK r bo co bf cf bm cm 8 4 2 (newW 1 4) 2) false ((rv0 (wordsL 3 8) [0, 0, 0, 0] (newW 1 4)).bgn (opC (newW 1 4)) (opM (newW 1 4)) (opO (newW 1 4)) 2) := by
        first
        | (have k1 : Below W.heap.size W w1 := (Below.refl W.heap.size W).drew.trans hb1
           have k2 := k1.trans (hb2.mono k1.size)
           have k3 := k2.alloc k2.size (.cells (uv [0, 0, 0, 0]).toArray 26)
           exact ⟨k3.trans (hb3.mono k3.size), _, k3.size, hp⟩)
        | (have k1 : Below W.heap.size W w1 := (Below.refl W.heap.size W).drew.trans hb1
           have k2 := k1.alloc k1.size (.cells (uv [0, 0, 0, 0]).toArray 26)
           have k3 := k2.trans (hb2.mono k2.size)
           exact ⟨k3.trans (hb3.mono k3.size), _, k3.size, hp⟩)
        | (have k1 : Below W.heap.size W (W.drew.alloc (.cells (uv [0, 0, 0, 0]).toArray 26)) := (Below.refl W.heap.size W).drew.alloc (Nat.le_refl _) _
           have k2 := k1.trans (hb1.mono k1.size)
           have k3 := k2.trans (hb2.mono k2.size)
           exact ⟨k3.trans (hb3.mono k3.size), _, k3.size, hp⟩)
      obtain ⟨hbw, lo, hlo, hp⟩ := hww
      obtain ⟨q1, q2⟩ := pp_new (n0 := 8) (n1 := 4) (n2 := 2) (k := 1) (ch := 4) (l0 := wordsL 3 8) (l1 := [0, 0, 0, 0]) (by omega) (by omega) (.inr rfl) (wordsL_length 3 8) rfl rfl (by omega) (by omega) (by omega) hp hbw hlo
      have HQ1 := Lib.hid q1
      have HQ2 := Lib.hid q2
      clear hok hb1 hb2 hb3 hp q1 q2 hbw hlo ho1 ho2
      go_wp2_with fail
      go_meet
      case rel => exact ⟨lo, pb, bL, cL, _, _, rfl, rfl, HQ2.out, rfl, rfl, rfl, HQ1.out⟩
  case rest =>
    obtain ⟨lo, pb, bL, cL, C, K, rfl, rfl, hpk, hmd, hn0, hch, hp⟩ := hcut
    have HP0 := Lib.hid hp
    have HPK := Lib.hid hpk
    have HMD := Lib.hid hmd
    have HN0 := Lib.hid hn0
    have HCH := Lib.hid hch
    obtain ⟨x0, x1, x2, x3, x4, x5, x6⟩ := hp.cells
    have hR0 : rvN (wordsL 3 8) [0, 0, 0, 0] 1 4 2 = ⟨wordsL 3 8, [0, 0, 0, 0], (newW 1 4).set 0 (hdI 1 4 2 true), ax1⟩ := rfl
    have HR0 := Lib.hid hR0
    have hl0 := wordsL_length 3 8
    have hl0w := wordsL_w 3 8
    clear hp hpk hmd hn0 hch hmk hw0 HOP hR0
    obtain ⟨Q0, m0, l0, hE0, hp0⟩ : ∃ Q0 m0 l0, wordsL 3 8 = l0 ∧ PP lo W wc (fun _ => False) pb bL cL C K ⟨l0, [0, 0, 0, 0], m0, ax1⟩ Q0 30 := ⟨_, _, _, rfl, by have h := HP0.out; rw [HR0.out] at h; exact h⟩
    rw [hE0] at hl0 hl0w
    have HE0 := Lib.hid hE0
    clear hE0 HR0 HP0
    -- what is read and written
    have hv1 := hp0.vread HPK.out (a := 1) (by rw [HN0.out]; omega) (by omega)
    rw [HCH.out, aw1 l0 [0, 0, 0, 0] m0 hl0, show ((1 : Nat) : Int) = 1 from rfl] at hv1
    have HS0 := Lib.hid hp0.vsize
    have HV1 := Lib.hid hv1
    clear hv1
    go_upto_region 4 with (go_at_call 46; (with_reducible refine HS0.out.mono ?_); rintro e w' ⟨rfl, rfl⟩; rw [HN0.out])
    go_upto_region 5 with (go_at_call 22; (with_reducible refine HV1.out.mono ?_); rintro e w1 ⟨rfl, -, hp1, -⟩)
    clear HS0 HV1 x0 x1 x2 x3 x4 x5 x6 hp0
    obtain ⟨x0, x1, x2, x3, x4, x5, x6⟩ := hp1.cells
    obtain ⟨m2, h2⟩ := aw2 l0 [0, 0, 0, 0] m0 hl0
    have hv2 := hp1.vread HPK.out (a := 2) (by rw [HN0.out]; omega) (by omega)
    rw [HCH.out, h2, show ((2 : Nat) : Int) = 2 from rfl] at hv2
    have HV2 := Lib.hid hv2
    clear hv2 h2 hp1
    generalize ((cpL [0, 0, 0, 0] 0 l0 0 4)[2]?.getD 0) = y2 at *
    have hf2 : (cpL [0, 0, 0, 0] 0 l0 0 4).length = 4 := by rw [cpL_length]; rfl
    generalize (cpL [0, 0, 0, 0] 0 l0 0 4) = f2 at *
    go_upto_region 6 with (go_at_call 22; (with_reducible refine HV2.out.mono ?_); rintro e w2 ⟨rfl, -, hp2, -⟩)
    clear HV2 x0 x1 x2 x3 x4 x5 x6
    obtain ⟨x0, x1, x2, x3, x4, x5, x6⟩ := hp2.cells
    obtain ⟨m3, h3⟩ := aw3 l0 f2 m2 hl0 9
    have hv3 := hp2.vwrite HPK.out (a := 1) (v := 9) (by rw [HN0.out]; omega) (by omega) (by omega)
    rw [HCH.out, HMD.out, show decide ((2 : Int) = 2) = true from rfl, h3, show ((1 : Nat) : Int) = 1 from rfl, show ((9 : Nat) : Int) = 9 from rfl] at hv3
    have HV3 := Lib.hid hv3
    clear hv3 h3 hp2
    go_upto_region 7 with (go_at_call 31; (with_reducible refine HV3.out.mono ?_); rintro e w3 ⟨rfl, hp3, -⟩)
    clear HV3 x0 x1 x2 x3 x4 x5 x6
    obtain ⟨x0, x1, x2, x3, x4, x5, x6⟩ := hp3.cells
    have hf3 : (f2.set 1 9)[1]? = some 9 := List.getElem?_set_self (by rw [hf2]; omega)
    have hv4 := hp3.vread HPK.out (a := 1) (by rw [HN0.out]; omega) (by omega)
    rw [HCH.out, aw4 l0 (f2.set 1 9) m3 hl0, hf3, Option.getD_some, show ((1 : Nat) : Int) = 1 from rfl, show ((9 : Nat) : Int) = 9 from rfl] at hv4
    have HV4 := Lib.hid hv4
    clear hv4 hp3
    generalize f2.set 1 9 = f3 at *
    go_upto_region 8 with (go_at_call 22; (with_reducible refine HV4.out.mono ?_); rintro e w4 ⟨rfl, -, hp4, -⟩)
    clear HV4 x0 x1 x2 x3 x4 x5 x6 hf2
    obtain ⟨x0, x1, x2, x3, x4, x5, x6⟩ := hp4.cells
    have HV5 := Lib.hid hp4.vstate
    have HP4 := Lib.hid hp4
    clear hp4
    go_upto_region 9 with (go_at_call 26; (with_reducible refine HV5.out.mono ?_); rintro e w5 ⟨⟨v, rfl, A, n, c, m, B, d, rfl, hn, hm, hS, hM⟩, hb5⟩; unfold csV)
    have hn1 : n = 1 := hn.symm
    subst hn1
    obtain ⟨a, ca, hA, hal, hau⟩ := hS.form (by omega)
    injection hA with hA _ _
    subst hA
    obtain ⟨b', o', e', -, hcc⟩ := scs_read (Reads.of_own hS) (by decide)
    injection e' with e'
    injection e' with e1 e2
    subst e1
    subst e2
    obtain ⟨-, hd, -, -⟩ := hcc 0 ⟨true, true, 0, 3⟩ rfl
    have hba : Below w5.heap.size w5 (w5.alloc (.cells #[.slice (some ⟨a, 0, none⟩) 1 c, .int .i64 ax5.clk, .slice B m d] 58)) := (Below.refl _ w5).alloc (Nat.le_refl _) _
    have hbox := (Cs.new w5 58 #[.slice (some ⟨a, 0, none⟩) 1 c, .int .i64 ax5.clk, .slice B m d]).cell 0
    have hsz6 : (w5.alloc (.cells #[.slice (some ⟨a, 0, none⟩) 1 c, .int .i64 ax5.clk, .slice B m d] 58)).heap.size = w5.heap.size + 1 := by simp
    have hd6 := (hba.cell (p := ⟨a, 1, none⟩) (by simpa using hau)).trans hd
    have hp6 := HP4.out.more (hb5.trans (hba.mono hb5.size)) (Y := fun j => j = a ∨ j = w5.heap.size) (by
      have := hb5.size
      rintro j (rfl | rfl)
      · exact .inr ⟨hal, by omega⟩
      · exact .inr ⟨this, by omega⟩)
    clear hba hd hcc hS hM hm hb5 HP4 HV5 hn x0 x1 x2 x3 x4 x5 x6
    generalize hbx : w5.heap.size = bx at *
    change Code.wp _ _ _ _ _
    generalize (w5.alloc (.cells #[.slice (some ⟨a, 0, none⟩) 1 c, .int .i64 ax5.clk, .slice B m d] 58)) = w6 at *
    have hlA : a < w6.heap.size := by omega
    have hlB : bx < w6.heap.size := by omega
    clear hbx hal hau hsz6
    obtain ⟨x0, x1, x2, x3, x4, x5, x6⟩ := hp6.cells
    obtain ⟨m7, h7⟩ := aw5 l0 f3 m3
    have hv7 := hp6.vclean HPK.out 5 (by omega) (by omega)
    rw [HCH.out, h7, show ((5 : Nat) : Int) = 5 from rfl] at hv7
    have HV7 := Lib.hid hv7
    clear hv7 h7 hp6
    go_upto_region 10 with (go_at_call 47; (with_reducible refine HV7.out.mono ?_); rintro e w7 ⟨rfl, hp7, hf7⟩)
    have hb7 := (hf7.cell (i := 0) (.inr rfl) hlB).trans hbox
    have hd7 := (hf7.cell (i := 1) (.inl rfl) hlA).trans hd6
    have hs7 := hf7.fr.size
    clear HV7 x0 x1 x2 x3 x4 x5 x6 hbox hd6 hf7
    obtain ⟨x0, x1, x2, x3, x4, x5, x6⟩ := hp7.cells
    have HV8 := Lib.hid (hp7.vflush (by omega))
    clear hp7
    go_upto_region 11 with (go_at_call 34; (with_reducible refine HV8.out.mono ?_); rintro e w8 ⟨rfl, hp8, hf8⟩)
    have hb8 := (hf8.cell (i := 0) (.inr rfl) (by omega)).trans hb7
    have hd8 := (hf8.cell (i := 1) (.inl rfl) (by omega)).trans hd7
    have hs8 := hf8.fr.size
    clear HV8 x0 x1 x2 x3 x4 x5 x6 hb7 hd7 hf8
    obtain ⟨x0, x1, x2, x3, x4, x5, x6⟩ := hp8.cells
    obtain ⟨F, S, hdk, hsp, hnf, hno, -, -, -⟩ := hp8.dsk
    obtain ⟨r1, r2⟩ := rd_out hnf.hea hnf.dn (i := 0) (n := C.n0) rfl 1 (by rw [HN0.out]; omega)
    dsimp only at hno
    rw [hno, cpL_at, if_pos ⟨by omega, by omega, by rw [hl0]; omega⟩, hf3, Option.getD_some] at r2
    injection r2 with r2
    rw [show ((1 : Nat) : Int) = 1 from rfl] at r1 r2
    have HR1 := Lib.hid r1
    have HR2 : Hid (S.sread 0 C.n0 1 = 9) := r2.symm
    have HD8 := Lib.hid hdk
    have HSP := Lib.hid hsp
    have HP8 := Lib.hid hp8
    clear r1 r2 hdk hsp hnf hno hp8 x0 x3 x5 x6
    go_wp2_with (first
      | (go_at_call 190; refine (sread_any w8 F C.g C.s0 0 C.n0 S 1 HD8.out HSP.out (by rw [HN0.out]; omega)).mono ?_; rintro e w9 ⟨rfl, hb9⟩; rw [HR1.out, HR2.out]; have HP9 := Lib.hid (HP8.out.keep hb9); have yb := (hb9.cell (p := ⟨bx, 0, none⟩) (by show bx < _; omega)).trans hb8; have yd := (hb9.cell (p := ⟨a, 1, none⟩) (by show a < _; omega)).trans hd8; have hs9 := hb9.size)
      | (go_at_call 16; refine (words2_any 8 3 w9 (by omega)).mono ?_; rintro e w10 ⟨v10, rfl, ho10, hb10⟩; obtain ⟨b10, c10, hv10, -, -⟩ := ho10.form (by omega); subst hv10; rw [HE0.out] at ho10; have z1 := ho10.cellAt 1 (by omega); rw [uv_at _ _ (by rw [hl0]; omega)] at z1; have HP10 := Lib.hid (HP9.out.keep hb10); have zb := (hb10.cell (p := ⟨bx, 0, none⟩) (by show bx < _; omega)).trans yb; have zd := (hb10.cell (p := ⟨a, 1, none⟩) (by show a < _; omega)).trans yd; have z2 := HP10.out.cells.2.2.1)
      | (go_at_call 25; refine (HP10.out.vdetach HPK.out (by omega)).mono ?_; rintro e w11 ⟨rfl, hp11, -⟩; have HP11 := Lib.hid hp11; have z3 := HP11.out.cells.2.2.1)
      | (go_at_call 23; refine (HP11.out.vclose HPK.out (by have := HCH.out; simp only [List.length_cons, List.length_nil]; omega)).mono ?_; rintro e w12 ⟨rfl, hp12, -⟩; have HP12 := Lib.hid hp12; have z4 := HP12.out.cells.2.2.1)
      | (go_at_call 34; refine HP12.out.vflush.mono ?_; rintro e w' ⟨rfl, rfl⟩))
    go_ret
    exact ⟨rfl, HP12.out.bel⟩
end Go.Proofs.YtogchafnnkajfaaGreat
namespace Go.Proofs.YtogchafnnkajfaaGreat
set_option linter.unusedVariables false
open Go.RowKit
attribute [local go_sem] Oper.semAt_some
def ZxA (ob : Obj) (k : Nat) (W : World) (px : Nat) : Prop := W.heap[px]? = some ob ∧ k < px
theorem ZxA.new {ob : Obj} {k : Nat} {W : World} (h : k < W.heap.size) : ZxA ob k (W.alloc ob) W.heap.size := ⟨heap_alloc_new W ob, h⟩
theorem ZxA.fr {ob : Obj} {k : Nat} {W W' : World} {px : Nat} (h : ZxA ob k W px) (hf : Fr (fun j => j = k) W W') : ZxA ob k W' px :=
  ⟨(hf.block px (Array.getElem?_eq_some_iff.1 h.1).1 (fun e => by have := h.2; omega)).trans h.1, h.2⟩
theorem ZxA.drew {ob : Obj} {k : Nat} {W : World} {px : Nat} (h : ZxA ob k W px) : ZxA ob k W.drew px := h
theorem ZxA.reads {ob : Obj} {k n : Nat} {W : World} {px : Nat} (h : ZxA ob k W px) (ho : ob = .cells (uv (List.replicate n 0)).toArray 26) : Reads W (some ⟨px, 0, none⟩) (uv (List.replicate n 0)) := by
  have h1 : Cs W px 26 (uv (List.replicate n 0)).toArray := by
    have := h.1
    rw [ho] at this
    exact this
  exact Cs.reads_pre (L := uv (List.replicate n 0)) h1 (uv (List.replicate n 0)).length (List.take_length)
theorem fraD (g : Nat) (w : World) (o : Obj) : Fr (fun j => j = g) w (w.alloc o) := Fr.of_below ((Below.refl _ w).alloc (Nat.le_refl _) o)
theorem rd_frD {g base n c : Nat} {W W' : World} {e : TypeId} {A : Option Addr} {xs : List Value} (h : W.ownsRow base e 1 (.slice A n c) n xs) (hf : Fr (fun j => j = g) W W') (hg : g < base) : Reads W' A xs :=
  Reads.of_own (own_fr h hf (fun b hb e => by have := (h.lt b hb).1; omega))
theorem PP.app {lo : Nat} {W0 W W' : World} {pb bL cL base m m' n : Nat} {C : VC} {K : RC} {R Q : RV} {v v' : Value} {e : TypeId} {xs ys : List Value} {o : Obj} (h : PP lo W0 W (fun j => v.ownBlock = some j) pb bL cL C K R Q n) (hb : W0.heap.size ≤ base ∧ pb < base ∧ bL < base) (ho : W.ownsRow base e 1 v m xs) (hg : (W.alloc o).grownBy W' v.ownBlock)
    (hat : v'.ownBlock = v.ownBlock ∨ v'.ownBlock = some (W.alloc o).heap.size) (ho' : W'.ownsRow base e 1 v' m' ys) : PP lo W0 W' (fun j => v'.ownBlock = some j) pb bL cL C K R Q n := by
  have h1 := h.keep ((Below.refl _ W).alloc (Nat.le_refl _) o)
  obtain ⟨Fv, Fq, V, h1⟩ := h1
  have hf := fr_grown hg
  refine ⟨_, _, V, h1.p.tight.fr hf (fun j hj e => ?_), h1.y, h1.pm, h1.md, h1.bel.trans (hf.below h1.bel.size (fun j hj => Nat.le_trans hb.1 (own_ge ho j hj))), h1.low, fun j hj => ?_⟩
  · rcases hj with hj | hj | rfl | rfl
    · exact (h1.out j e).1 hj.1
    · exact (h1.out j e).2.1 hj.1
    · have := own_ge ho _ e; omega
    · have := own_ge ho _ e; omega
  · refine ⟨?_, ?_, own_lt ho' j hj⟩
    · rcases hat with e | e
      · exact fun q => (h1.out j (e.symm.trans hj)).1 q.1
      · have : j = (W.alloc o).heap.size := by rw [e] at hj; injection hj with hj; exact hj.symm
        exact fun q => by have := q.2; omega
    · rcases hat with e | e
      · exact fun q => (h1.out j (e.symm.trans hj)).2.1 q.1
      · have : j = (W.alloc o).heap.size := by rw [e] at hj; injection hj with hj; exact hj.symm
        exact fun q => by have := q.2; omega
theorem PK.one {C : VC} {K : RC} (h : PK C K) : PK1 C := ⟨h.c1, h.b0, h.b1, h.b2⟩
theorem PP.lt {lo : Nat} {W0 W : World} {X : Nat → Prop} {pb bL cL : Nat} {C : VC} {K : RC} {R Q : RV} {n : Nat} (h : PP lo W0 W X pb bL cL C K R Q n) : pb < W.heap.size ∧ bL < W.heap.size ∧ lo ≤ W.heap.size := by
  obtain ⟨Fv, Fq, V, h⟩ := h
  exact h.p.lt
theorem det_want {c j u : Nat} {R : RV} {l : List Nat} (h : ∀ (i v : Nat), l[i]? = some v → RVV c R i v) (hl : l.length = j) (hu : RVV c R j u) : ∀ (i v : Nat), (l ++ [u])[i]? = some v → RVV c R i v := by
  intro i v hv
  rcases Nat.lt_trichotomy i j with hi | hi | hi
  · rw [List.getElem?_append_left (by omega)] at hv
    exact h i v hv
  · subst hi
    rw [List.getElem?_append_right (by omega), hl, Nat.sub_self] at hv
    injection hv with hv
    rw [← hv]
    exact hu
  · rw [List.getElem?_eq_none (by simp; omega)] at hv
    cases hv
theorem det_len {lo : Nat} {W0 W : World} {X : Nat → Prop} {pb bL cL rr pv : Nat} {C : VC} {R : RV} {n k : Nat} (h : VA lo W0 W X pb bL cL rr pv C R n) (hk : C.n2 = k + 1) : R.x.sl.length = k := by
  obtain ⟨V, hy⟩ := h.y
  have h1 := hy.vi.k.n2
  rw [hy.x] at h1
  omega
theorem st_field (w : World) (A B : Option Addr) (n c m d : Nat) (x : Int) : Sem.run Tryz.prog (Instr.field 58 (.agg #[.slice A n c, .int .i64 x, .slice B m d]) 0) w = .ok (.slice A n c) w := by
  kernel_rfl
attribute [local go_sem] st_field
theorem uv_getX {l : List Nat} {i : Nat} (h : i < l.length) : (uv l)[i]? = some (.int .u64 ((l[i]?.getD 0 : Nat) : Int)) := by
  unfold uv
  rw [List.getElem?_map, List.getElem?_eq_getElem h]
  rfl
theorem det_eq {c c' : Nat} {R R2 Rd : RV} {l : List Nat} (hcc : c' = c) (h : ∀ (i v : Nat), l[i]? = some v → RVV c R i v) (k1 : Kp c R R2) (k2 : Kp c' R2 Rd) (hn : ∀ x ∈ Rd.x.sl, x.valid = false) (ho : Rd.o.length = 12) (hl : l.length = 12) : Rd.o = l := by
  subst hcc
  apply List.ext_getElem?
  intro i
  by_cases hi : i < 12
  · have e : l[i]? = some (l[i]'(by omega)) := List.getElem?_eq_getElem (by omega)
    rw [e]
    exact (k2 i _ (k1 i _ (h i _ e))).origin hn
  · rw [List.getElem?_eq_none (by omega), List.getElem?_eq_none (by omega)]
def DetP (W : World) (k : Nat) (a1 a2 : Value) (wx : World) : Prop := ∃ lo pb bL cL C K R, a1 = .pointer (some ⟨pb, 0, none⟩) ∧ a2 = .bool true ∧ PK C K ∧ C.chunk ≤ 4 ∧ C.n2 ≤ 5 ∧ C.n0 = 12 ∧ C.n2 = k + 1 ∧ W.heap.size < lo ∧ PP lo W wx (fun _ => False) pb bL cL C K R R 30 ∧ SrcAt wx W.heap.size
theorem det_start {W W3 W7 : World} {A5 A6 : Option Addr} {c5 c6 p k ch : Nat} {mode : Int} (hlt3 : W.heap.size < W3.heap.size) (hB3 : Below W.heap.size W W3) (g7 : Fr (fun j => j = W.heap.size) W3 W7) (hs7 : SrcAt W7 W.heap.size) (r0 : Reads W7 A5 (uv (wordsL 3 12))) (r2 : Reads W7 A6 (uv (newW k ch))) (hk : 1 ≤ k ∧ k ≤ 3) (hc : 1 ≤ ch ∧ ch ≤ 3) (hp : ch * k = p) (hp1 : 1 ≤ p ∧ p ≤ 9) (hm : mode = 1 ∨ mode = 2)
    (X : World) (px : Nat) (hbX : Below W7.heap.size W7 X) (r1 : Reads X (some ⟨px, 0, none⟩) (uv (List.replicate p 0))) :
    Calls Tryz.prog 15 #[.slice A5 12 c5, .slice (some ⟨px, 0, none⟩) p p, .slice A6 (k + 1) c6, .int .i64 mode] X fun e W9 => ∃ pb, e = .returned (.tuple #[.pointer (some ⟨pb, 0, none⟩), .bool true]) ∧ DetP W k (.pointer (some ⟨pb, 0, none⟩)) (.bool true) W9 := by
  have hmm : -9223372036854775808 ≤ mode ∧ mode ≤ 9223372036854775807 := by omega
  refine (start33_any X A5 (some ⟨px, 0, none⟩) A6 12 p (k + 1) c5 p c6 (wordsL 3 12) (List.replicate p 0) (newW k ch) (r0.keep hbX) r1 (r2.keep hbX) (wordsL_length 3 12) List.length_replicate (newW_length k ch) (by omega) (by omega) (by omega) (wordsL_w 3 12) (by intro x hx; rw [(List.mem_replicate.1 hx).2]; omega) (newW_w k ch) mode hmm).mono ?_
  rintro e W9 ⟨pb, rfl, hb9, hno9, hok⟩
  have hkz : k * ch ≤ p := by rw [Nat.mul_comm]; omega
  obtain ⟨Fv, Fq, bL, cL, g, s0, s1, s2, m, v, r, bo, co, bf, cf, bm, cm, hp⟩ := hok (op_new (wordsL 3 12) (List.replicate p 0) k ch 12 p mode (by omega) (by omega) hm (wordsL_length 3 12) List.length_replicate hkz)
  have gX := g7.trans (Fr.of_below hbX)
  have hw8 : W.heap.size < X.heap.size ∧ Below W.heap.size W X := ⟨Nat.lt_of_lt_of_le hlt3 gX.size, hB3.trans (gX.below hB3.size (fun j hj => Nat.le_of_eq hj.symm))⟩
  obtain ⟨q1, q2⟩ := pp_new (n0 := 12) (n1 := p) (n2 := k + 1) (k := k) (ch := ch) (l0 := wordsL 3 12) (l1 := List.replicate p 0) (by omega) (by omega) hm (wordsL_length 3 12) List.length_replicate rfl hkz (by omega) (by omega) hp (hw8.2.trans (hb9.mono hw8.2.size)) (Nat.le_of_lt hw8.1)
  exact ⟨pb, rfl, _, pb, bL, cL, _, _, _, rfl, rfl, q2, (by show ch ≤ 4; omega), (by show k + 1 ≤ 5; omega), rfl, rfl, hw8.1, q1, (SrcAt.keep hs7 hbX).keep hb9⟩
set_option maxRecDepth 100000 in
set_option maxHeartbeats 8000000 in
theorem det33_any (A : Option Addr) (c n0 : Nat) (ls : List Int) (W : World) (hn : ls.length = n0) (hA : Reads W A (iv ls)) (hw : I64 ls) (hc : n0 ≤ c) :
    Calls Tryz.prog 4 #[.slice A n0 c] W fun e W' => e = .returned (.bool true) ∧ Below W.heap.size W W' := by
  obtain ⟨i0, hif, hz0, hz1, hz2⟩ := info_parts u64_info
  go_enter Tryz.func4, Tryz.ntmps4
  go_wp2_with fail
  refine (new_any A n0 c ls W hn hA hw hc).mono ?_
  rintro e W1 ⟨rfl, hs1, hb1, hsz1⟩
  go_wp2_with fail
  refine (range_any W.heap.size 1 3 W1 hs1 (by omega) (by omega) (by omega)).mono ?_
  rintro e W2 ⟨chi, rfl, hc1, hc4, hs2, hg2⟩
  obtain ⟨ch, rfl⟩ : ∃ n : Nat, chi = (n : Int) := ⟨chi.toNat, by omega⟩
  have HB2 := Lib.hid (gb_Below hb1 hg2 hb1.size (Nat.le_refl _))
  clear hs1 hb1 hg2 hsz1 hn hA hw hc
  go_wp2_with fail
  refine (range_any W.heap.size 1 3 W2 hs2 (by omega) (by omega) (by omega)).mono ?_
  rintro e W3 ⟨ki, rfl, hk1, hk4, hs3, hg3⟩
  obtain ⟨k, rfl⟩ : ∃ n : Nat, ki = (n : Int) := ⟨ki.toNat, by omega⟩
  have HB3 := Lib.hid (gb_Below HB2.out hg3 HB2.out.size (Nat.le_refl _))
  have HS3 := Lib.hid hs3
  clear hs2 hg3 hs3 HB2
  obtain ⟨p, hp⟩ : ∃ p, ch * k = p := ⟨_, rfl⟩
  have hp1 : 1 ≤ p ∧ p ≤ 9 := by
    have h1 := Nat.mul_le_mul (show 1 ≤ ch by omega) (show 1 ≤ k by omega)
    have h2 := Nat.mul_le_mul (show ch ≤ 3 by omega) (show k ≤ 3 by omega)
    omega
  have em : IntKind.i64.wrap ((ch : Int) * (k : Int)) = (p : Int) := by rw [← Int.natCast_mul, hp, IntWalk.i64_in _ (by omega)]
  have HPE := Lib.hid hp
  clear hp
  obtain ⟨ob, hob⟩ : ∃ ob : Obj, ob = .cells (uv (List.replicate p 0)).toArray 26 := ⟨_, rfl⟩
  have HOB := Lib.hid hob
  have hmk : ∀ w : World, (Instr.makeSlice 29 (.int .i64 (p : Int)) (.int .i64 (p : Int))).run Tryz.prog w = .ok (.slice (some ⟨w.heap.size, 0, none⟩) p p) (w.alloc ob) := fun w => by rw [HOB.out]; exact run_make_u64 p (by omega) w
  clear hob
  have HW9 : Hid (∀ w, Calls Tryz.prog 16 #[.int .i64 12, .int .u64 3] w fun e W' => ∃ v, e = .returned v ∧ W'.ownsRow w.heap.size 26 1 v 12 (uv (wordsL 3 12)) ∧ Below w.heap.size w W') := fun w => words2_any 12 3 w (by omega)
  have HW3 : Hid (∀ w, Calls Tryz.prog 19 #[.int .i64 (k : Int), .int .i64 (ch : Int)] w fun e W' => ∃ v, e = .returned v ∧ W'.ownsRow w.heap.size 26 1 v (k + 1) (uv (newW k ch)) ∧ Below w.heap.size w W') := fun w => words33_any k ch w (by omega) (by omega)
  have HRA : Hid (∀ w, SrcAt w W.heap.size → Calls Tryz.prog 11 #[.pointer (some ⟨W.heap.size, 0, none⟩), .int .i64 1, .int .i64 2] w fun e W' => ∃ r : Int, e = .returned (.int .i64 r) ∧ 1 ≤ r ∧ r ≤ 2 ∧ SrcAt W' W.heap.size ∧ Fr (fun j => j = W.heap.size) w W') := fun w hs => (range_any W.heap.size 1 2 w hs (by omega) (by omega) (by omega)).mono (fun e W' h => by
    obtain ⟨r, h1, h2, h3, h4, h5⟩ := h
    exact ⟨r, h1, h2, h3, h4, Fr.of_grown h5⟩)
  have g0 : Fr (fun j => j = W.heap.size) W3 W3.drew := (Fr.refl _ W3).drew
  have g0a : Fr (fun j => j = W.heap.size) W3 (W3.alloc ob).drew := (fraD _ W3 ob).drew
  have hlt3 : W.heap.size < W3.heap.size := HS3.out.lt
  have S0 := Lib.hid (HS3.out.keep (Below.refl _ _).drew)
  have S0a := Lib.hid ((HS3.out.alloc ob).keep (Below.refl _ _).drew)
  go_upto_region 3 with (fail)
  go_cut [6, 7] (fun a1 a2 wx => DetP W k a1 a2 wx)
  case first =>
    go_region_held3 (fun _ => True) (trivial)
      ((first
      | (go_at_call 15; (with_reducible refine (HST.out _ _ (by first | exact Below.refl _ _ | exact (Below.refl _ _).alloc (Nat.le_refl _) ob) (by first | exact (zx7.reads HOB.out) | exact ((ZxA.new (Nat.lt_of_lt_of_le hlt3 g7.size)).reads HOB.out))).mono ?_); rintro e W9 ⟨pb, rfl, hfin⟩)
      | (go_at_call 11; (with_reducible refine (HRA.out _ (by first | exact S6.out | exact S6.out.alloc ob)).mono ?_); rintro e W7 ⟨mode, rfl, hm1, hm2, hs7, f7⟩; have g7 : Fr (fun j => j = W.heap.size) W3 W7 := (by first | with_reducible exact g6.trans f7 | with_reducible exact (g6.trans (fraD _ W6 ob)).trans f7); (first | have zx7 := zx6.fr f7 | have zx7 := (ZxA.new (ob := ob) (Nat.lt_of_lt_of_le hlt3 g6.size)).fr f7 | skip); have HST := Lib.hid (det_start (c5 := c5) (c6 := c6) (p := p) (k := k) (ch := ch) (mode := mode) (W := W) (W3 := W3) (W7 := W7) hlt3 HB3.out g7 hs7 (by first | with_reducible exact rd_frD ho5 (l56.trans f7) S5l | with_reducible exact rd_frD ho5 (l56.trans f7) S5m | with_reducible exact rd_frD ho5 (l56.trans ((fraD _ W6 ob).trans f7)) S5l) (by first | with_reducible exact rd_frD ho6 f7 S6l | with_reducible exact rd_frD ho6 f7 S6m | with_reducible exact rd_frD ho6 ((fraD _ W6 ob).trans f7) S6l) (by omega) (by omega) HPE.out hp1 (by omega)))
      | (go_at_call 19; (with_reducible refine (HW3.out _).mono ?_); rintro e W6 ⟨v6, rfl, ho6, hb6⟩; obtain ⟨A6, c6, hv6⟩ := own_form ho6; subst hv6; have f6 := Fr.of_below (G := fun j => j = W.heap.size) hb6; have g6 : Fr (fun j => j = W.heap.size) W3 W6 := (by first | with_reducible exact g5.trans f6 | with_reducible exact (g5.trans (fraD _ W5 ob)).trans f6); have l56 : Fr (fun j => j = W.heap.size) W5 W6 := (by first | with_reducible exact f6 | with_reducible exact (fraD _ W5 ob).trans f6); have S6 := Lib.hid (show SrcAt W6 W.heap.size from (by first | exact S5.out.keep hb6 | exact (S5.out.alloc ob).keep hb6)); have S6l := Nat.lt_of_lt_of_le hlt3 g5.size; have S6m := Nat.lt_of_lt_of_le hlt3 (g5.trans (fraD _ W5 ob)).size; (first | have zx6 := zx5.fr f6 | have zx6 := (ZxA.new (ob := ob) (Nat.lt_of_lt_of_le hlt3 g5.size)).fr f6 | skip))
      | (go_at_call 16; (with_reducible refine (HW9.out _).mono ?_); rintro e W5 ⟨v5, rfl, ho5, hb5⟩; obtain ⟨A5, c5, hv5⟩ := own_form ho5; subst hv5; have f5 := Fr.of_below (G := fun j => j = W.heap.size) hb5; have g5 : Fr (fun j => j = W.heap.size) W3 W5 := (by first | with_reducible exact g0.trans f5 | with_reducible exact g0a.trans f5); have S5 := Lib.hid (show SrcAt W5 W.heap.size from (by first | exact S0.out.keep hb5 | exact S0a.out.keep hb5)); have S5l := Nat.lt_of_lt_of_le hlt3 g0.size; have S5m := Nat.lt_of_lt_of_le hlt3 g0a.size; (first | have zx5 := ((ZxA.new (ob := ob) (W := W3) hlt3).drew).fr f5 | skip))))
    all_goals
      go_wp2_with fail
      go_meet
      case rel => exact hfin
  case rest =>
    obtain ⟨lo, pb, bL, cL, C, K, R0, rfl, rfl, hpk, hc4', hn25, hc0, hck, hlo, hp0, hs0⟩ := hcut
    have HP0 := Lib.hid hp0
    have HS0 := Lib.hid hs0
    have HPK := Lib.hid hpk
    obtain ⟨-, -, x2, -, -, -, -⟩ := hp0.cells
    have HC0 := Lib.hid hc0
    have HCK := Lib.hid hck
    clear hp0 hs0 hpk HS3 HB3 em HPE S0 S0a g0 g0a hlt3 HW9 HW3 HRA hmk HOB hc0 hck
    go_wp2_with fail
    refine (n_any W.heap.size 40 _ HS0.out (by omega) (by omega)).mono ?_
    rintro e W10 ⟨q0, rfl, hi0, hi40, hs10, hg10⟩
    obtain ⟨i, hii⟩ : ∃ i : Nat, q0 = (i : Int) := ⟨q0.toNat, by omega⟩
    subst hii
    have HP10 := Lib.hid (HP0.out.grown hlo hg10)
    have HS10 := Lib.hid hs10
    clear HP0 HS0 x2 hs10 hg10
    go_wp2_with fail
    go_loopw [8] (fun s8 wx => ∃ (j : Nat) (R : RV), s8 = .int .i64 j ∧ j ≤ 40 ∧ PP lo W wx (fun _ => False) pb bL cL C K R R (30 + 30 * (40 - j)) ∧ SrcAt wx W.heap.size) (fun s8 _ => (intOf s8).toNat)
    case atStart => exact ⟨i, R0, rfl, by omega, HP10.out.mono (by omega), HS10.out⟩
    case round =>
      rename World => wx
      obtain ⟨j, R, rfl, hj, hp, hs⟩ := hrel
      have HP := Lib.hid hp
      have HS := Lib.hid hs
      clear hp hs HP10 HS10
      by_cases hj0 : 0 < j
      · have t1 : (0 : Int) < (j : Int) := by omega
        have e5 : IntKind.i64.wrap ((j : Int) - 1) = ((j - 1 : Nat) : Int) := by rw [IntWalk.i64_in _ (by omega)]; omega
        have HST := Lib.hid (step33_any HP.out HS.out hlo HPK.out hc4' hn25 (by omega))
        unfold StepP at HST
        go_wp2_with fail
        refine HST.out.mono ?_
        rintro e w1 ⟨rfl, R1, hp1, hs1⟩
        have HP1 := Lib.hid hp1
        have HS1 := Lib.hid hs1
        clear hp1 hs1 HST HP HS
        go_wp2_with fail
        go_roundw
        case rel => exact ⟨j - 1, R1, by go_num, by omega, HP1.out.mono (by omega), HS1.out⟩
        case measure => simp [intOf]; omega
      · have t1 : ¬ (0 : Int) < (j : Int) := by omega
        have hbs : pb < wx.heap.size ∧ bL < wx.heap.size := ⟨HP.out.lt.1, HP.out.lt.2.1⟩
        have hws : W.heap.size < wx.heap.size := HS.out.lt
        have HBS := Lib.hid hbs
        have HWS : Hid (W.heap.size < wx.heap.size) := hws
        clear hbs hws
        obtain ⟨V0, hy0⟩ := (HP.out.alone HPK.out).y
        have HY0 := Lib.hid hy0
        clear hy0
        go_wp2_with fail
        go_loopw [9, 10] (fun a9 a10 wy => ∃ (j2 : Nat) (R' : RV) (l : List Nat), a10 = .int .i64 j2 ∧ j2 ≤ 12 ∧ l.length = j2 ∧ wy.ownsRow wx.heap.size 26 1 a9 j2 (uv l) ∧ PP lo W wy (fun b => a9.ownBlock = some b) pb bL cL C K R' R' (1300 + 10 * j2) ∧ SrcAt wy W.heap.size ∧ wx.heap.size ≤ wy.heap.size ∧ Kp C.chunk R R' ∧ (∀ i v, l[i]? = some v → RVV C.chunk R i v)) (fun _ a10 _ => 12 - (intOf a10).toNat)
        case atStart => exact ⟨0, R, [], rfl, by omega, rfl, World.ownsRow_nil _ _ _ _, (HP.out.mono (by omega)).lessX (fun j hj => by simp [Value.ownBlock] at hj), HS.out, Nat.le_refl _, Kp.refl _ _, fun i v h => by simp at h⟩
        case round =>
          rename World => wy
          obtain ⟨j2, R', l, rfl, hj2, hl, hown, hp, hs, hxy, hkp, hwant⟩ := hrel
          obtain ⟨A1, c1, hv1⟩ := own_form hown
          subst hv1
          have HO := Lib.hid hown
          have HP1 := Lib.hid hp
          have HS1 := Lib.hid hs
          have HKP := Lib.hid hkp
          have HWT := Lib.hid hwant
          have HLN := Lib.hid hl
          have HPW : Hid (wx.heap.size ≤ wy.heap.size) := hxy
          clear hown hp hs hkp hwant hl HP HS t1 hxy
          by_cases hlt : j2 < 12
          · have t2 : (j2 : Int) < 12 := by omega
            have e6 : IntKind.i64.wrap ((j2 : Int) + 1) = ((j2 + 1 : Nat) : Int) := by rw [IntWalk.i64_in _ (by omega)]; rfl
            have hC0 := HC0.out
            have hc1 := HPK.out.c1
            obtain ⟨V, hy⟩ := (HP1.out.alone HPK.out).y
            obtain ⟨k1, k2⟩ := hy.read_kp (a := j2) (by omega) (by omega) (by omega)
            obtain ⟨u, hu⟩ := HY0.out.ex (a := j2) (by omega)
            have hu2 : u = (R'.read C.chunk j2).1 := hy.un (HKP.out j2 u hu) k2
            have hq := HP1.out.qok HPK.out (by omega)
            have HR := Lib.hid (HP1.out.rread HPK.out hq (a := j2) (by omega))
            obtain ⟨-, -, -, y3, -, -, -⟩ := HP1.out.cells
            clear hq hy k2
            go_upto_region 16 with (go_at_call 21; (with_reducible refine HR.out.mono ?_); rintro e w8 ⟨rfl, hp8, hf8⟩)
            have HO8 := Lib.hid (own_fr HO.out hf8.fr (fun b hb e => e hb))
            have HS8 := Lib.hid (hf8.src HS1.out hlo)
            have HV := Lib.hid (hp8.vread HPK.out (a := j2) (by omega) (by omega))
            obtain ⟨-, -, z2, -, -, -, -⟩ := hp8.cells
            have h8 := hf8.fr.size
            clear hp8 hf8 HR y3 HO HS1
            go_upto_region 17 with (go_at_call 22; (with_reducible refine HV.out.mono ?_); rintro e w9 ⟨rfl, -, hp9, hf9⟩)
            have HO9 := Lib.hid (own_fr HO8.out hf9.fr (fun b hb e => e hb))
            have HS9 := Lib.hid (hf9.src HS8.out hlo)
            have HP9 := Lib.hid (hp9.mono (show _ ≤ 1300 + 10 * (j2 + 1) by omega))
            have h9 := hf9.fr.size
            have HK1 := Lib.hid (HKP.out.trans k1)
            clear hp9 hf9 HV z2 HO8 HS8 k1 HKP HP1
            generalize (R'.read C.chunk j2).1 = rv at *
            generalize (R'.read C.chunk j2).2 = R2 at *
            subst hu2
            have HU := Lib.hid hu
            have hws := HWS.out
            have h89 : wx.heap.size ≤ w9.heap.size := by
              have := HO9.out
              have h1 := HPW.out
              omega
            clear hu
            go_wp2_with (at_builtin; refine wpList_append_reads _ (by rfl) _ _ _ (by rfl) wx.heap.size 26 i0 _ 1 8 Tryz.underlying29 hif hz0 hz1 hz2 (by rfl) (by omega) (.slice A1 j2 c1) j2 (uv l) (by rfl) (HO9.out.alloc _) (some ⟨w9.heap.size, 0, none⟩) 1 1 _ (by rfl) (by rfl) (Reads.new _ _ _) (by simp [Value.oneCell']) (by simp only [maxLen]; omega) (by omega) (by simp; omega) ?_; intro v1 w10 hown10 hg10 hat10)
            have ho : w10.ownsRow wx.heap.size 26 1 v1 (j2 + 1) (uv (l ++ [u])) := by rw [uv_append]; exact hown10
            have hpa := HP9.out.app ⟨Nat.le_of_lt hws, HBS.out.1, HBS.out.2⟩ HO9.out hg10 hat10 ho
            have hsa := (HS9.out).below (app_below HO9.out hg10 h89) hws
            go_roundw
            case rel => exact ⟨j2 + 1, R2, l ++ [u], by go_num, by omega, by simp [HLN.out], ho, hpa, hsa, Nat.le_trans h89 (by have := hg10.size; simp at this; omega), HK1.out, det_want HWT.out HLN.out HU.out⟩
            case measure => simp [intOf]; omega
          · have hj : j2 = 12 := by omega
            subst hj
            obtain ⟨bO, cO, hvO, hbO, hbOl⟩ := HO.out.form (by omega)
            obtain ⟨rfl, rfl⟩ : A1 = some ⟨bO, 0, none⟩ ∧ c1 = cO := by injection hvO with a b c; exact ⟨a, c⟩
            have hC0 := HC0.out
            have hCK := HCK.out
            have hc1 := HPK.out.c1
            have HA := Lib.hid (HP1.out.alone HPK.out)
            have HK1 := Lib.hid HPK.out.one
            have hks : R'.x.sl.length = k := by
              obtain ⟨V, hy⟩ := HA.out.y
              have h1 := hy.vi.k.n2
              rw [hy.x] at h1
              omega
            have HKS := Lib.hid hks
            clear hks HP1 hj2 hlt
            go_wp2_with fail
            refine (n_any W.heap.size 2 _ HS1.out (by omega) (by omega)).mono ?_
            rintro e wz ⟨b0, rfl, hb0, hb2, hs2, hg2⟩
            have HA2 := Lib.hid (HA.out.grown hlo hg2)
            have hws := HWS.out
            have HO2 := Lib.hid (own_fr HO.out (Fr.of_grown hg2) (fun b hb e => by have := own_ge HO.out b hb; have : b = W.heap.size := e; omega))
            have HS2 := Lib.hid hs2
            clear hs2 hg2 HA HO HS1 hbO hbOl
            go_upto_if 99 with (fail)
            go_cut [15, 16, 17, 18, 19] (fun _ _ _ _ _ w' => ∃ (C' : VC) (R2 : RV), VA lo W w' (fun b => (Value.slice (some ⟨bO, 0, none⟩) 12 c1).ownBlock = some b) pb bL cL K.r C'.v C' R2 4000 ∧ PK1 C' ∧ C'.g = C.g ∧ C'.chunk = C.chunk ∧ C'.n0 = 12 ∧ C'.n2 = k + 1 ∧ Kp C.chunk R R2 ∧ R2.x.sl.length = k ∧ w'.ownsRow wx.heap.size 26 1 (.slice (some ⟨bO, 0, none⟩) 12 c1) 12 (uv l))
            case first =>
              by_cases hb : b0 = 0
              · subst hb
                obtain ⟨x0, x1, x2, x2f, x4, x5, x6⟩ := HA2.out.cells
                have HVC := Lib.hid (HA2.out.vclose HK1.out (by rw [HKS.out]; omega) (by omega))
                go_upto_region 23 with (go_at_call 23; (with_reducible refine HVC.out.mono ?_); rintro e w3 ⟨rfl, he3, hf3⟩)
                have HE3 := Lib.hid (he3.fr (G := fun _ => False) ((Fr.refl _ w3).drew) (fun _ h => h.elim))
                have HS3 := Lib.hid ((hf3.src HS2.out hlo).keep (Below.refl _ w3).drew)
                have HO3 := Lib.hid (own_fr HO2.out hf3.fr (fun b hb e => e hb))
                obtain ⟨y0, y1, y2, y4, y5, y6⟩ := he3.cells
                have HYK : Hid (w3.cell? ⟨pb, 1, none⟩ = some (.slice (some ⟨bL, 0, none⟩) 3 cL) ∧ w3.cell? ⟨bL, 0, none⟩ = some (.iface 176 (.pointer (some ⟨C.s0, 0, none⟩))) ∧ w3.cell? ⟨bL, 1, none⟩ = some (.iface 176 (.pointer (some ⟨C.s1, 0, none⟩))) ∧ w3.cell? ⟨bL, 2, none⟩ = some (.iface 176 (.pointer (some ⟨C.s2, 0, none⟩)))) := ⟨y1, y4, y5, y6⟩
                clear x0 x1 x2 x2f x4 x5 x6 HVC he3 hf3 HA2 HS2 HO2 y0 y1 y2 y4 y5 y6
                go_region_held3 (fun w' => w'.cell? ⟨pb, 1, none⟩ = some (.slice (some ⟨bL, 0, none⟩) 3 cL) ∧ w'.cell? ⟨bL, 0, none⟩ = some (.iface 176 (.pointer (some ⟨C.s0, 0, none⟩))) ∧ w'.cell? ⟨bL, 1, none⟩ = some (.iface 176 (.pointer (some ⟨C.s1, 0, none⟩))) ∧ w'.cell? ⟨bL, 2, none⟩ = some (.iface 176 (.pointer (some ⟨C.s2, 0, none⟩))))
                  (first | with_reducible exact yy5 | with_reducible exact yy4 | exact HYK.out)
                  ((first
                  | (go_at_call 24; (with_reducible refine HOP.out.mono ?_); rintro e w5 ⟨m5, v5, R5, rfl, hk5, hl5, hva5, hf5⟩; have yy5 : w5.cell? ⟨pb, 1, none⟩ = some (.slice (some ⟨bL, 0, none⟩) 3 cL) ∧ w5.cell? ⟨bL, 0, none⟩ = some (.iface 176 (.pointer (some ⟨C.s0, 0, none⟩))) ∧ w5.cell? ⟨bL, 1, none⟩ = some (.iface 176 (.pointer (some ⟨C.s1, 0, none⟩))) ∧ w5.cell? ⟨bL, 2, none⟩ = some (.iface 176 (.pointer (some ⟨C.s2, 0, none⟩))) := ⟨hva5.cells.2.1, hva5.cells.2.2.2.2.1, hva5.cells.2.2.2.2.2.1, hva5.cells.2.2.2.2.2.2⟩)
                  | (go_at_call 11; (with_reducible refine (range_any W.heap.size 1 2 w3.drew HS3.out (by omega) (by omega) (by omega)).mono ?_); rintro e w4 ⟨mode, rfl, hm1, hm2, hs4, hg4⟩; have he4 := HE3.out.grown hlo hg4; have HO4 := Lib.hid (own_fr HO3.out ((Fr.refl _ w3).drew.trans (Fr.of_grown hg4)) (fun b hb e => by have := own_ge HO3.out b hb; have : b = W.heap.size := e; omega)); have hop := he4.vopen HK1.out (mode := mode) (by omega) (by omega); unfold spanV at hop; have HOP := Lib.hid hop; have yy4 : w4.cell? ⟨pb, 1, none⟩ = some (.slice (some ⟨bL, 0, none⟩) 3 cL) ∧ w4.cell? ⟨bL, 0, none⟩ = some (.iface 176 (.pointer (some ⟨C.s0, 0, none⟩))) ∧ w4.cell? ⟨bL, 1, none⟩ = some (.iface 176 (.pointer (some ⟨C.s1, 0, none⟩))) ∧ w4.cell? ⟨bL, 2, none⟩ = some (.iface 176 (.pointer (some ⟨C.s2, 0, none⟩))) := ⟨he4.cells.2.1, he4.cells.2.2.2.1, he4.cells.2.2.2.2.1, he4.cells.2.2.2.2.2⟩)))
                have HO5 := Lib.hid (own_fr HO4.out hf5.fr (fun b hb e => e hb))
                have hmul : C.n2 * (C.chunk + 2) ≤ 5 * 6 := Nat.mul_le_mul hn25 (by omega)
                have HA5 := Lib.hid (hva5.mono (show _ ≤ 1600 by omega))
                have HK5 := Lib.hid (HKP.out.trans hk5)
                have HL5 := Lib.hid (hl5.trans HKS.out)
                clear hva5 hk5 hl5 hf5 yy4 yy5 HOP hop he4 HE3 HS3 HO3 hs4 hg4 HYK HO4
                go_wp2_with fail
                go_loopw [17] (fun a17 wq => ∃ (j : Nat) (R3 : RV), a17 = .int .i64 j ∧ j ≤ 12 ∧ VA lo W wq (fun b => (Value.slice (some ⟨bO, 0, none⟩) 12 c1).ownBlock = some b) pb bL cL K.r C.v ⟨C.g, C.s0, C.s1, C.s2, m5, v5, C.n0, C.n1, C.n2, C.chunk⟩ R3 (1600 + 10 * j) ∧ Kp C.chunk R R3 ∧ R3.x.sl.length = k ∧ wq.ownsRow wx.heap.size 26 1 (.slice (some ⟨bO, 0, none⟩) 12 c1) 12 (uv l)) (fun a17 _ => 12 - (intOf a17).toNat)
                case atStart => exact ⟨0, R5, rfl, by omega, HA5.out, HK5.out, HL5.out, HO5.out⟩
                case round =>
                  rename World => wq
                  obtain ⟨j3, R3, rfl, hj3, hva, hkp3, hl3, ho3⟩ := hrel
                  clear HA5 HK5 HL5 HO5
                  have HA3 := Lib.hid hva
                  have HK3 := Lib.hid hkp3
                  have HO3 := Lib.hid ho3
                  have HL3 := Lib.hid hl3
                  clear hva hkp3 ho3 hl3
                  by_cases hlt3 : j3 < 12
                  · have t3 : (j3 : Int) < 12 := by omega
                    have t4 : (0 : Int) ≤ (j3 : Int) := by omega
                    have e7 : IntKind.i64.wrap ((j3 : Int) + 1) = ((j3 + 1 : Nat) : Int) := by rw [IntWalk.i64_in _ (by omega)]; rfl
                    have hu : l[j3]? = some (l[j3]?.getD 0) := by rw [List.getElem?_eq_getElem (by rw [HLN.out]; exact hlt3)]; rfl
                    have hU := HWT.out j3 _ hu
                    obtain ⟨V3, hy3⟩ := HA3.out.y
                    obtain ⟨k1, k2⟩ := hy3.read_kp (a := j3) (by show j3 < C.n0; omega) (by show C.n0 ≤ _; omega) (by omega)
                    have hru : (R3.read C.chunk j3).1 = l[j3]?.getD 0 := hy3.un k2 (HK3.out j3 _ hU)
                    have HK4 := Lib.hid (HK3.out.trans k1)
                    obtain ⟨x0, x1, x2, x2f, x4, x5, x6⟩ := HA3.out.cells
                    have hv3 := HA3.out.vread ⟨HK1.out.c1, HK1.out.b0, HK1.out.b1, HK1.out.b2⟩ (a := j3) (by show j3 < C.n0; omega) (by omega)
                    change Calls _ _ _ _ (fun e W' => e = .returned (.tuple #[.int .u64 ((R3.read C.chunk j3).1 : Int), .int .i64 0]) ∧ VA lo W W' _ pb bL cL K.r C.v ⟨C.g, C.s0, C.s1, C.s2, m5, v5, C.n0, C.n1, C.n2, C.chunk⟩ (R3.read C.chunk j3).2 (1600 + 10 * j3 + 2 * C.chunk + 2) ∧ PFr lo _ wq W') at hv3
                    rw [hru] at hv3
                    have HV3 := Lib.hid hv3
                    have hy4 : ∀ w8 : World, w8.ownsRow wx.heap.size 26 1 (.slice (some ⟨bO, 0, none⟩) 12 c1) 12 (uv l) → w8.cell? ⟨bO, j3, none⟩ = some (.int .u64 ((l[j3]?.getD 0 : Nat) : Int)) := fun w8 h => (h.cellAt j3 (by omega)).trans (uv_getX (by rw [HLN.out]; omega))
                    have HY4 := Lib.hid hy4
                    clear hy3 k1 k2 hru hv3 hy4 hu hU x0 x1 x4 x5 x6 x2f
                    generalize l[j3]?.getD 0 = u3 at *
                    generalize (R3.read C.chunk j3).2 = R4 at *
                    go_upto_region 30 with (go_at_call 22; (with_reducible refine HV3.out.mono ?_); rintro e w8 ⟨rfl, hva8, hf8⟩)
                    have HO8 := Lib.hid (own_fr HO3.out hf8.fr (fun b hb e => e hb))
                    have HA8 := Lib.hid (hva8.mono (show _ ≤ 1600 + 10 * (j3 + 1) by omega))
                    have i8 := HY4.out w8 HO8.out
                    clear hva8 hf8 HV3 x2 HA3 HO3
                    go_wp2_with fail
                    go_roundw
                    case rel => exact ⟨j3 + 1, R4, by go_num, by omega, HA8.out, HK4.out, det_len HA8.out HCK.out, HO8.out⟩
                    case measure => simp [intOf]; omega
                  · have hj12 : j3 = 12 := by omega
                    subst hj12
                    obtain ⟨x0, x1, x2, x2f, x4, x5, x6⟩ := HA3.out.cells
                    have hbO : wx.heap.size ≤ bO := own_ge HO3.out bO rfl
                    have hbs := HBS.out
                    clear x0 x1 x4 x5 x6
                    go_wp2_with fail
                    go_meet
                    case rel => exact ⟨⟨C.g, C.s0, C.s1, C.s2, m5, v5, C.n0, C.n1, C.n2, C.chunk⟩, R3, (HA3.out.setv).mono (by omega), ⟨HK1.out.c1, HK1.out.b0, HK1.out.b1, HK1.out.b2⟩, rfl, rfl, HC0.out, HCK.out, HK3.out, HL3.out, own_fr HO3.out (fr_set wq pb 2 _) (fun b hb e => by have := own_ge HO3.out b hb; have : b = pb := e; omega)⟩
              · have d2 : decide (b0 = 0) = false := by simpa using hb
                go_wp2_with fail
                go_meet
                case rel => exact ⟨C, R', HA2.out.mono (by omega), HK1.out, rfl, rfl, HC0.out, HCK.out, HKP.out, HKS.out, HO2.out⟩
            case rest =>
              rename World => w6
              obtain ⟨C', R2, hva, hk1', hg', hch', hn0', hn2', hkp2, hl2, ho⟩ := hcut
              clear HA2 HO2 HS2 HKP HKS
              obtain ⟨V6, hy6⟩ := hva.y
              obtain ⟨d1, d2, d3⟩ := hy6.detach_kp
              have HD1 := Lib.hid d1
              have HD2 := Lib.hid d2
              have HD3 := Lib.hid d3
              have HDT := Lib.hid (hva.vdetach hk1' (by omega))
              have hmul : R2.x.sl.length * (C'.chunk + 2) ≤ 3 * 6 := Nat.mul_le_mul (by omega) (by omega)
              obtain ⟨x0, x1, x2, x2f, x4, x5, x6⟩ := hva.cells
              have HO6 := Lib.hid ho
              have HK1' := Lib.hid hk1'
              have HN0 := Lib.hid hn0'
              have HN2 := Lib.hid hn2'
              have HKP2 := Lib.hid hkp2
              have HL2 := Lib.hid hl2
              have HCH := Lib.hid hch'
              clear hy6 d1 d2 d3 hva x0 x1 x2f x4 x5 x6 ho hk1' hn0' hn2' hkp2 hl2 hch' hg'
              go_upto_region 35 with (first
                | (go_at_call 25; (with_reducible refine HDT.out.mono ?_); rintro e w7 ⟨rfl, hva7, hf7⟩; have HST := Lib.hid hva7.vstate; have HA7 := Lib.hid hva7; have HO7 := Lib.hid (own_fr HO6.out hf7.fr (fun b hb e => e hb)); obtain ⟨z0, z1, z2, z2f, z4, z5, z6⟩ := hva7.cells; clear hva7 hf7 z0 z1 z2f z4 z5 z6)
                | (go_at_call 26; (with_reducible refine HST.out.mono ?_); rintro e w8 ⟨⟨v, rfl, A8, n8, c8, m8, B8, e8, rfl, hsn, hsm, -, -⟩, hb8⟩; obtain rfl : n8 = k := (by rw [← hsn, HD2.out, HL2.out]); unfold csV; have HA8 := Lib.hid (HA7.out.keep hb8); have HO8 := Lib.hid (own_keepB HO7.out hb8)))
              obtain ⟨N, hN⟩ : ∃ N, n8 + 1 = N := ⟨_, rfl⟩
              have HNN := Lib.hid hN
              obtain ⟨y0, y1, y2, y2f, y4, y5, y6⟩ := HA8.out.cells
              have hi0 := HA8.out.image (i := 0) (k := 12) (l := (R2.dtc C'.chunk).o) (by rw [← HN0.out]; rfl) rfl
              rw [show ((0 : Nat) : Int) = 0 from rfl] at hi0
              have HI0 := Lib.hid hi0
              clear hi0 y1 y2 y2f y4 y5 y6 z2 x2 HDT HST HA7 HO7 HO6 hN
              go_upto_region 36 with (go_at_call 27; (with_reducible refine HI0.out.mono ?_); rintro e w9 ⟨A9, c9, rfl, ho9, hb9⟩)
              have HA9 := Lib.hid (HA8.out.keep hb9)
              have HO9 := Lib.hid (own_keepB HO8.out hb9)
              have HG9 := Lib.hid ho9
              obtain ⟨x0, x1, x2, x2f, x4, x5, x6⟩ := HA9.out.cells
              have hi2 := HA9.out.image (i := 2) (k := N) (l := (R2.dtc C'.chunk).m) (by rw [← HNN.out, ← HN2.out]; rfl) rfl
              rw [show ((2 : Nat) : Int) = 2 from rfl] at hi2
              have HI2 := Lib.hid hi2
              clear hi2 x1 x2 x2f x4 x5 x6 y0 HI0 HA8 HO8 ho9 hb9
              go_upto_region 37 with (go_at_call 27; (with_reducible refine HI2.out.mono ?_); rintro e wA ⟨AA, cA, rfl, hoA, hbA⟩)
              obtain ⟨bM, cM, hvM, -, -⟩ := hoA.form (by rw [← HNN.out]; omega)
              obtain ⟨rfl, rfl⟩ : AA = some ⟨bM, 0, none⟩ ∧ cA = cM := by injection hvM with a b c; exact ⟨a, c⟩
              obtain ⟨VA9, hyA⟩ := HA9.out.y
              obtain ⟨hlo1, -, hlm⟩ := hyA.lens
              rw [HN0.out] at hlo1
              have hol := det_eq HCH.out HWT.out HKP2.out HD1.out HD3.out hlo1 HLN.out
              have hz0 : ∀ j : Nat, j < n8 → (R2.dtc C'.chunk).m[1 + j]?.getD 0 = 0 := fun j hj => by rw [hyA.zero HD3.out j (by rw [HD2.out, HL2.out]; exact hj)]; rfl
              have hml : (R2.dtc C'.chunk).m.length = N := by rw [hlm, HN2.out, HNN.out]
              have hg1 : wA.ownsRow w8.heap.size 26 1 (.slice A9 12 c9) 12 (uv l) := by
                have := own_keepB HG9.out hbA
                rw [hol] at this
                exact this
              have HEND := Lib.hid (show Reads wA A9 (uv l) ∧ Reads wA (some ⟨bO, 0, none⟩) (uv l) ∧ wA.ownsRow w9.heap.size 26 1 (.slice (some ⟨bM, 0, none⟩) N cA) N (uv (R2.dtc C'.chunk).m) ∧ Below W.heap.size W wA from ⟨Reads.of_own hg1, Reads.of_own (own_keepB HO9.out hbA), hoA, (HA9.out.keep hbA).bel⟩)
              have HZ0 := Lib.hid hz0
              have HML := Lib.hid hml
              clear x0 HI2 HA9 HO9 HG9 hoA hbA hvM hyA hlo1 hlm hol hz0 hml hg1 HD1 HD2 HD3 HKP2 HL2 HCH
              generalize (R2.dtc C'.chunk).m = mm at *
              go_wp2_with fail
              go_loopw [24] (fun a24 wq => ∃ j : Nat, a24 = .int .i64 j ∧ j ≤ n8 ∧ Reads wq A9 (uv l) ∧ Reads wq (some ⟨bO, 0, none⟩) (uv l) ∧ wq.ownsRow w9.heap.size 26 1 (.slice (some ⟨bM, 0, none⟩) N cA) N (uv mm) ∧ Below W.heap.size W wq) (fun a24 _ => n8 - (intOf a24).toNat)
              case atStart => exact ⟨0, rfl, Nat.zero_le _, HEND.out⟩
              case round =>
                rename World => wq
                obtain ⟨j4, rfl, hj4, hra, hrb, hrm, hbq⟩ := hrel
                have HRA := Lib.hid hra
                have HRB := Lib.hid hrb
                have HRM := Lib.hid hrm
                have HBQ := Lib.hid hbq
                clear hra hrb hrm hbq HEND
                by_cases hlt4 : j4 < n8
                · have t3 : (j4 : Int) < (n8 : Int) := by omega
                  obtain ⟨q, hq⟩ : ∃ q, 1 + j4 = q := ⟨_, rfl⟩
                  have e1 : IntKind.i64.wrap (1 + (j4 : Int)) = (q : Int) := by rw [IntWalk.i64_in _ (by omega)]; omega
                  have e7 : IntKind.i64.wrap ((j4 : Int) + 1) = ((j4 + 1 : Nat) : Int) := by rw [IntWalk.i64_in _ (by omega)]; rfl
                  have t5 : (0 : Int) ≤ (q : Int) := by omega
                  have t6 : (q : Int) < (N : Int) := by have := HNN.out; omega
                  have i8 : wq.cell? ⟨bM, q, none⟩ = some (.int .u64 0) := by
                    have h := (HRM.out.cellAt q (by have := HNN.out; omega)).trans (uv_getX (by rw [HML.out]; have := HNN.out; omega))
                    rw [← hq, HZ0.out j4 hlt4] at h
                    rw [← hq]
                    exact h
                  clear hq
                  go_wp2_with fail
                  go_roundw
                  case rel => exact ⟨j4 + 1, by go_num, by omega, HRA.out, HRB.out, HRM.out, HBQ.out⟩
                  case measure => simp [intOf]; omega
                · have t3 : ¬ (j4 : Int) < (n8 : Int) := by omega
                  have hsm := same_any' A9 (some ⟨bO, 0, none⟩) c9 c1 12 12 l l wq HLN.out HLN.out HRA.out HRB.out (by omega) (by omega)
                  have HSM := Lib.hid hsm
                  clear hsm
                  go_wp2_with (first
                    | (go_at_call 28; (with_reducible refine HSM.out.mono ?_); rintro e wB ⟨rfl, nB, rfl⟩; rw [decide_eq_true rfl])
                    | (go_at_call 18; (with_reducible refine (awake33_any _).mono ?_); rintro e wC ⟨rfl, hbC⟩))
                  go_ret
                  have hdn : Below W.heap.size wq (wq.drewN nB) := ((Fr.refl (fun _ => False) wq).drewN nB).below HBQ.out.size (fun _ h => h.elim)
                  exact ⟨rfl, (HBQ.out.trans hdn).trans (hbC.mono (HBQ.out.trans hdn).size)⟩
end Go.Proofs.YtogchafnnkajfaaGreat
