/-
  Merged texts (Db6): what the row proofs use of them.
-/
import Derived.Test.YtogchafnnkajfaaGreatDb5
import Derived.StillTailTactics
import Derived.Deep.DeepCutAuto
import Derived.BigRegion
import Derived.BigQuiet
import Derived.Deep.QuietTactic
import Derived.Deep.RegionHeldLaw
import Derived.Deep.CutBlock
import Derived.Deep.RegionHeld3
import Derived.Maps.OwnSet
namespace Go.Proofs.YtogchafnnkajfaaGreat
set_option linter.unusedVariables false
open Go.RowKit Go.Shelf
attribute [local go_sem] Oper.semAt_some
theorem wp_copy_run {P : Program} (w : World) {o : Oper} {a : Act} {K : Act → World → Prop} {Q : Exit → Act → World → Prop} (s x : Operand) (t tn : TypeId)
    (ho : o.op = .call { callee := .builtin .copy, args := #[s, x], argTypes := #[t, tn] }) (vs vx : Value) (hs : a.eval s = vs) (hx : a.eval x = vx)
    (v' : Value) (w' : World) (hr : (Builtin.copy_ #[t, tn] o.type #[vs, vx]).run P w = .ok v' w') (h : K (a.put o.dst v') w') : o.wp P a w K Q := by
  unfold Oper.wp execOp
  simp only [ho, resolve, invoke, builtin, Sem.run_bind, Sem.run_pure, Result.andThen_ok, List.map_toArray, List.map_cons, List.map_nil, hs, hx, hr]
  exact h
theorem wpList_copy_run {P : Program} (w : World) {ops : Array Oper} {rest : List Oper} {o : Oper} {a : Act} {Q : Exit → Act → World → Prop} (hgd : o.guard = none) (s x : Operand) (t tn : TypeId)
    (ho : o.op = .call { callee := .builtin .copy, args := #[s, x], argTypes := #[t, tn] }) (vs vx : Value) (hs : a.eval s = vs) (hx : a.eval x = vx)
    (v' : Value) (w' : World) (hr : (Builtin.copy_ #[t, tn] o.type #[vs, vx]).run P w = .ok v' w') (h : wpList P ops Q rest (a.put o.dst v') w') : wpList P ops Q (o :: rest) a w :=
  wpList_plain hgd fun _ hK => wp_copy_run w s x t tn ho vs vx hs hx v' w' hr (hK _ _ h)
theorem splice_at {α : Type} (L : List α) (o : Nat) (X : List α) (h : o + X.length ≤ L.length) (j : Nat) : (splice L o X)[j]? = if j < o then L[j]? else if j < o + X.length then X[j - o]? else L[j]? := by
  unfold splice
  have h1 : (L.take o).length = o := by rw [List.length_take]; omega
  rw [List.getElem?_append, h1]
  split
  · rename_i hj
    rw [List.getElem?_take, if_pos hj]
  · rw [List.getElem?_append]
    split
    · rename_i hj
      rw [if_pos (by omega)]
    · rename_i hj
      rw [if_neg (by omega), List.getElem?_drop]
      congr 1
      omega
theorem copy_own {W : World} {base base' g s n m cap cap' : Nat} {L M : List Nat} (h : W.ownsRow base 26 1 (.slice (some ⟨g, 0, none⟩) n cap) n (uv L)) (hL : L.length = n) (h' : W.ownsRow base' 26 1 (.slice (some ⟨s, 0, none⟩) m cap') m (uv M)) (hM : M.length = m) (off so c : Nat) (h1 : off + c ≤ n) (h2 : so + c ≤ m) :
    ∃ W', (∀ (ty : TypeId) (dc sl sc : Nat), c ≤ sl → (Builtin.copy_ #[29, 29] ty #[.slice (some ⟨g, off, none⟩) c dc, .slice (some ⟨s, so, none⟩) sl sc]).run Tryz.prog W = .ok (.int .i64 (c : Int)) W') ∧ W'.ownsRow base 26 1 (.slice (some ⟨g, 0, none⟩) n cap) n (uv (cpL L off M so c)) ∧ Fr (· = g) W W' := by
  obtain ⟨i0, hi0, hz0, hz1, hz2⟩ := info_parts u64_info
  have hxl := h.1
  rcases h.2 with ⟨e, -⟩ | ⟨g', cap1, cur, e, hb, hh, hn, hcm, hcs, ht⟩
  · cases e
  · injection e with e1 e2 e3
    injection e1 with e1
    injection e1 with e1
    subst e1
    subst e3
    have hcl : cur.toList.length = cap := by rw [Array.length_toList, hcs, Nat.mul_one]
    rw [Nat.mul_one] at ht hxl
    have hX : (uv ((M.drop so).take c)).length = c := by rw [uv_length, List.length_take, List.length_drop]; omega
    have hg : Cs W g 26 cur.toList.toArray := by show _ = _; rw [Array.toArray_toList]; exact hh
    have hfit : off + (uv ((M.drop so).take c)).length ≤ cur.toList.length := by rw [hX, hcl]; omega
    have hat : ∀ j : Nat, (uv (cpL L off M so c))[j]? = (((splice cur.toList off (uv ((M.drop so).take c))).take n))[j]? := by
      intro j
      rw [List.getElem?_take]
      have e0 : (uv (cpL L off M so c))[j]? = ((cpL L off M so c)[j]?).map (fun x : Nat => Value.int .u64 (x : Int)) := by unfold uv; rw [List.getElem?_map]
      have e1 : ∀ j : Nat, j < n → cur.toList[j]? = (L[j]?).map (fun x : Nat => Value.int .u64 (x : Int)) := by
        intro j hj
        have : (cur.toList.take n)[j]? = (uv L)[j]? := by rw [ht]
        rw [List.getElem?_take, if_pos hj] at this
        rw [this]
        unfold uv
        rw [List.getElem?_map]
      rw [e0, cpL_at, splice_at _ _ _ hfit, hX, hL]
      by_cases hj : j < n
      · rw [if_pos hj]
        by_cases hjo : j < off
        · rw [if_neg (by omega), if_pos hjo, e1 j hj]
        · rw [if_neg hjo]
          by_cases hjc : j < off + c
          · rw [if_pos ⟨by omega, hjc, hj⟩, if_pos hjc]
            unfold uv
            rw [List.getElem?_map, List.getElem?_take, if_pos (by omega), List.getElem?_drop, List.getElem?_eq_getElem (by omega)]
            rfl
          · rw [if_neg (by omega), if_neg hjc, e1 j hj]
      · rw [if_neg hj, if_neg (by omega), List.getElem?_eq_none (by omega)]
        rfl
    refine ⟨W.setRow g (splice cur.toList off (uv ((M.drop so).take c))).toArray, ?_, ?_, Fr.row (Fr.refl _ W)⟩
    · intro ty dc sl sc hsl
      have hr := run_copyS (P := Tryz.prog) W 29 29 ty 26 1 g off c dc ⟨s, so, none⟩ sl sc cur.toList 26 (uv ((M.drop so).take c)) Tryz.underlying29 (by rw [hi0, Option.map_some, hz1]) hg (by rw [hX, Nat.mul_one]; exact (Nat.min_eq_right hsl).symm) (fun j v hj => by
        have hlt := (List.getElem?_eq_some_iff.1 hj).1
        rw [hX] at hlt
        rw [Addr.add_lit, h'.cellAt (so + j) (by omega)]
        unfold uv at hj ⊢
        rw [List.getElem?_map, List.getElem?_take, if_pos hlt, List.getElem?_drop] at hj
        rw [List.getElem?_map]
        exact hj) hfit (uv_one _)
      rw [show Nat.min sl c = c from Nat.min_eq_right hsl] at hr
      exact hr
    · refine own_make (setRow_heap W g _ _ 26 _ hh) hb hn hcm (by rw [length_splice _ _ _ hfit, hcl, Nat.mul_one]) ?_ (by rw [uv_length, cpL_length, hL, Nat.mul_one])
      rw [Nat.mul_one]
      exact List.ext_getElem? (fun j => (hat j).symm)
section
variable {W W' : World} {F : Nat → Prop} {K : RC} {clo : Bool} {R : RV} {A B : Option Addr} {c d : Nat}
theorem RvIn.newO (h : RvIn W F K clo R A c B d) (hf : Fr (· = K.bo) W W') {o' : List Nat} (hst : W'.ownsRow 0 26 1 (.slice (some ⟨K.bo, 0, none⟩) K.n0 K.co) K.n0 (uv o')) (hl : o'.length = K.n0) : RvIn W' F K clo { R with o := o' } A c B d := by
  obtain ⟨e1, e2, e3, e4⟩ := h.rne
  exact ⟨h.vol.fr hf (fun e => e1 e.symm), hst, own_fr h.rf hf (fun b hb e => by simp [Value.ownBlock] at hb; exact h.ne.1 (hb.trans e).symm), own_fr h.rm hf (fun b hb e => by simp [Value.ownBlock] at hb; exact h.ne.2.1 (hb.trans e).symm), hl, h.lf, h.lm, own_fr h.row hf (fun b hb e => (e4 b hb).2.1 e), h.mis.fr hf (fun h0 p hp e => (h.misO p hp (ms_ne h0)).2.1 e), fun p hp hm => ⟨(h.misO p hp hm).1, (h.misO p hp hm).2.1, (h.misO p hp hm).2.2.1, (h.misO p hp hm).2.2.2.1, (h.misO p hp hm).2.2.2.2.1, (h.misO p hp hm).2.2.2.2.2.1, Nat.lt_of_lt_of_le (h.misO p hp hm).2.2.2.2.2.2 hf.size⟩, h.rowO, h.ne, h.inF⟩
theorem RvIn.newF (h : RvIn W F K clo R A c B d) (hf : Fr (· = K.bf) W W') {o' : List Nat} (hst : W'.ownsRow 0 26 1 (.slice (some ⟨K.bf, 0, none⟩) K.n1 K.cf) K.n1 (uv o')) (hl : o'.length = K.n1) : RvIn W' F K clo { R with f := o' } A c B d := by
  obtain ⟨e1, e2, e3, e4⟩ := h.rne
  exact ⟨h.vol.fr hf (fun e => e2 e.symm), own_fr h.ro hf (fun b hb e => by simp [Value.ownBlock] at hb; exact h.ne.1 (hb.trans e)), hst, own_fr h.rm hf (fun b hb e => by simp [Value.ownBlock] at hb; exact h.ne.2.2 (hb.trans e).symm), h.lo, hl, h.lm, own_fr h.row hf (fun b hb e => (e4 b hb).2.2.1 e), h.mis.fr hf (fun h0 p hp e => (h.misO p hp (ms_ne h0)).2.2.1 e), fun p hp hm => ⟨(h.misO p hp hm).1, (h.misO p hp hm).2.1, (h.misO p hp hm).2.2.1, (h.misO p hp hm).2.2.2.1, (h.misO p hp hm).2.2.2.2.1, (h.misO p hp hm).2.2.2.2.2.1, Nat.lt_of_lt_of_le (h.misO p hp hm).2.2.2.2.2.2 hf.size⟩, h.rowO, h.ne, h.inF⟩
end
theorem cap_of {W : World} {base g n cap : Nat} {e : TypeId} {xs : List Value} (h : W.ownsRow base e 1 (.slice (some ⟨g, 0, none⟩) n cap) n xs) : n ≤ cap := by
  rcases h.2 with ⟨e, -⟩ | ⟨g', cap1, cur, e, hb, hh, hn, -⟩
  · cases e
  · injection e with e1 e2 e3
    omega
set_option maxRecDepth 100000 in
set_option maxHeartbeats 2000000 in
theorem rback_any (W : World) (F : Nat → Prop) (K : RC) (clo : Bool) (R : RV) (k : Nat) (x : Sl) (cl : Bool) (h : RvAt W F K clo R) (hok : R.x.Ok) (hx : R.x.sl[k]? = some x) (hv : x.valid = true) (hn2 : R.x.sl.length + 1 ≤ K.n2) (hl : K.n2 ≤ 65536) (hb0 : 0 ≤ x.block) (hwh : (x.block.toNat + 1) * K.chunk ≤ K.n0) (hf : (k + 1) * K.chunk ≤ K.n1) (hc : 1 ≤ K.chunk) (hn0 : K.n0 ≤ 65536) (hn1 : K.n1 ≤ 65536) :
    Calls Tryz.prog 84 #[.pointer (some ⟨K.r, 0, none⟩), .int .i64 (k : Int), .bool cl] W fun e w' => e = .returned (.tuple #[]) ∧ RvP W F K clo (R.back K.chunk k cl) w' := by
  obtain ⟨A, c, B, d, h⟩ := h
  have h := h.tight
  obtain ⟨x0, x1, x2, x3, x4, x5, x6, x7, x8⟩ := h.cells
  have hk := (List.getElem?_eq_some_iff.1 hx).1
  obtain ⟨a, o, rfl, hal, hcc⟩ := scs_read (Reads.of_own h.row) (by omega)
  obtain ⟨-, -, y2, -⟩ := hcc k x hx
  clear hcc
  obtain ⟨b, hb⟩ : ∃ b : Nat, x.block = (b : Int) := ⟨x.block.toNat, by omega⟩
  rw [hb] at y2
  rw [show x.block.toNat = b by omega] at hwh
  rw [Nat.add_mul, Nat.one_mul] at hwh hf
  obtain ⟨p, hp⟩ : ∃ p, b * K.chunk = p := ⟨_, rfl⟩
  obtain ⟨q, hq⟩ : ∃ q, k * K.chunk = q := ⟨_, rfl⟩
  rw [hp] at hwh
  rw [hq] at hf
  have hbn : b ≤ 65536 := by
    have := Nat.le_mul_of_pos_right b (show 0 < K.chunk by omega)
    omega
  have e1 : IntKind.i64.wrap ((b : Int) * (K.chunk : Int)) = (p : Int) := by rw [← Int.natCast_mul, hp, IntWalk.i64_in _ (by omega)]
  have e2 : IntKind.i64.wrap ((b : Int) + 1) = ((b + 1 : Nat) : Int) := by rw [IntWalk.i64_in _ (by omega)]; rfl
  obtain ⟨b1, hb1⟩ : ∃ b1, b + 1 = b1 := ⟨_, rfl⟩
  obtain ⟨pc, hpc⟩ : ∃ pc, p + K.chunk = pc := ⟨_, rfl⟩
  rw [hb1] at e2
  have e3 : IntKind.i64.wrap ((b1 : Int) * (K.chunk : Int)) = (pc : Int) := by rw [← Int.natCast_mul, ← hb1, Nat.add_mul, Nat.one_mul, hp, hpc, IntWalk.i64_in _ (by omega)]
  have e4 : IntKind.i64.wrap ((k : Int) * (K.chunk : Int)) = (q : Int) := by rw [← Int.natCast_mul, hq, IntWalk.i64_in _ (by omega)]
  have c0 := cap_of h.ro
  have c1 := cap_of h.rf
  have t1 : (p : Int) ≤ (pc : Int) := by omega
  have t2 : (pc : Int) ≤ (K.co : Int) := by omega
  have t3 : (q : Int) ≤ (K.n1 : Int) := by omega
  have t4 : (K.n1 : Int) ≤ (K.cf : Int) := by omega
  have t1' : p ≤ pc := by omega
  have t2' : pc ≤ K.co := by omega
  have t3' : q ≤ K.n1 := by omega
  have e5 : pc - p = K.chunk := by omega
  have t5 : ¬ K.co = p := by omega
  have t6 : ¬ K.cf = q := by omega
  obtain ⟨W1, hrun, hown, hfr⟩ := copy_own (W := W.drew) h.ro h.lo h.rf h.lf p q K.chunk hwh hf
  have HRUN := Lib.hid hrun
  have H1 := Lib.hid (RvIn.newO h ((Fr.refl (· = K.bo) W).drew.trans hfr) hown (by rw [cpL_length]; exact h.lo))
  have HT1 : Hid (Turn (fun j => F j ∧ j < W.heap.size) (fun j => F j ∧ j < W.heap.size) W W1) := ⟨((Fr.refl (· = K.bo) W).drew.trans hfr).mono (fun j _ e => e ▸ h.inF.2.1), fun j hj => .inl hj⟩
  clear hrun hown hfr
  have HPC := Lib.hid hpc
  have H := Lib.hid h
  have HX := Lib.hid hx
  have HN := Lib.hid hn2
  have HOK := Lib.hid hok
  have HP := Lib.hid hp
  have HQ := Lib.hid hq
  clear h hx hn2 hok hp hq hb1 hpc
  go_enter Tryz.func84, Tryz.ntmps84
  go_wp2_with fail
  go_still_tail 29, (by kernel_rfl)
  change wpList _ _ _ _ _ W.drew
  refine wpList_copy_run _ rfl (.tmp 33) (.tmp 44) _ _ rfl (.slice (some ⟨K.bo, p, none⟩) K.chunk (K.co - p)) (.slice (some ⟨K.bf, q, none⟩) (K.n1 - q) (K.cf - q)) (by simp [Act.eval]) (by simp [Act.eval]) _ _ (HRUN.out _ _ _ _ (by omega)) ?_
  obtain ⟨x0, x1, x2, x3, x4, x5, x6, x7, x8⟩ := H1.out.cells
  have hcl := rsetd_any W1 _ B R.x.sl.length c R.x.ms.length d R.x HOK.out rfl rfl (Reads.of_own H1.out.row) H1.out.mis k x HX.out hv false
  unfold csV at hcl
  have HCL := Lib.hid hcl
  clear hcl HRUN e1 e2 e3 e4 e5 t1 t2 t3 t4 t5 t6 t1' t2' t3' c0 c1
  go_wp2_with fail
  refine HCL.out.mono ?_
  rintro e w1 ⟨⟨v, rfl, A', n', c', m', B', d', rfl, hn, hm, hS, hM⟩, hb1⟩
  unfold csV
  have h1 := H1.out.tight
  have h1' := h1.keep hb1
  obtain ⟨z0, z1, z2, z3, z4, z5, z6, z7, z8⟩ := h1'.cells
  have f3 := h1'.vol.free 3
  have f4 := h1'.vol.free 4
  have f5 := h1'.vol.free 5
  have hfin := h1.fin (d' := d') (fun j hj => hj.2) hb1 hn hm hS (own_reads hM) (fun p hp => by subst hp; exact ⟨(hM.lt p.block rfl).1, fun b hb e => own_own_ne hS hM (by decide) b p.block hb rfl e.symm⟩)
  have HFIN := Lib.hid hfin
  clear h1 h1' hfin hS hM x0 x1 x2 x3 x4 x5 x6 x7 x8
  have hxs : (R.x.setD k false).sl[k]? = some { x with dirty := false } := by
    show (R.x.sl.set k { R.x.at_ k with dirty := false })[k]? = _
    rw [CS.at_eq HX.out, List.getElem?_set_self hk]
  have hsz : (R.x.setD k false).sl.length = R.x.sl.length := by show (List.set _ _ _).length = _; rw [List.length_set]
  have hRB : R.back K.chunk k cl = ⟨cpL R.o p R.f q K.chunk, R.f, if cl = true then R.m.set (1 + k) { x with dirty := false }.word else R.m, R.x.setD k false⟩ := by
    unfold RV.back
    rw [CS.at_eq HX.out, CS.at_eq hxs, hb, Int.toNat_natCast, HP.out, HQ.out]
  have HRB := Lib.hid hRB
  have HXS := Lib.hid hxs
  clear hRB hxs
  cases cl
  · go_wp2_with fail
    refine bodyPost_end (v := .tuple #[]) (by simp [results, Tryz.f84, go_sem]) rfl ?_
    rw [HRB.out]
    obtain ⟨F', q1, q2⟩ := RvP.trans HT1.out (RvP.of HFIN.out.1 HFIN.out.2)
    exact ⟨rfl, RvP.of q1 q2⟩
  · go_wp2_with fail
    change Calls _ _ _ (rput3 w1 K.r A' n' c' (R.x.setD k false).clk B' m' d') _
    refine (rput_any _ _ K clo _ k { x with dirty := false } HFIN.out.1 HXS.out (by show (R.x.setD k false).sl.length + 1 ≤ K.n2; rw [hsz]; exact HN.out) hl).mono ?_
    rintro e w2 ⟨rfl, hp⟩
    go_wp2_with fail
    refine bodyPost_end (v := .tuple #[]) (by simp [results, Tryz.f84, go_sem]) rfl ?_
    rw [HRB.out]
    obtain ⟨F1, p1, p2⟩ := RvP.trans HFIN.out.2 hp
    obtain ⟨F', q1, q2⟩ := RvP.trans HT1.out (RvP.of p1 p2)
    exact ⟨rfl, RvP.of q1 q2⟩
end Go.Proofs.YtogchafnnkajfaaGreat
namespace Go.Proofs.YtogchafnnkajfaaGreat
set_option linter.unusedVariables false
open Go.RowKit Go.Shelf
attribute [local go_sem] Oper.semAt_some
section
variable {c k : Nat} {R : RV} {x : Sl}
theorem vic_x (hx : R.x.sl[k]? = some x) : ∃ y, (R.vic c k).x.sl[k]? = some y ∧ y.valid = x.valid ∧ y.dirty = false ∧ (R.vic c k).x = if x.dirty = true then R.x.setD k false else R.x := by
  have hk := (List.getElem?_eq_some_iff.1 hx).1
  unfold RV.vic
  rw [CS.at_eq hx]
  cases hd : x.dirty
  · rw [if_neg (by decide), if_neg (by decide)]
    exact ⟨x, hx, rfl, hd, rfl⟩
  · rw [if_pos rfl, if_pos rfl]
    refine ⟨{ x with dirty := false }, ?_, rfl, rfl, rfl⟩
    show (R.x.sl.set k { R.x.at_ k with dirty := false })[k]? = _
    rw [CS.at_eq hx, List.getElem?_set_self hk]
theorem vic_ok (h : R.x.Ok) (hx : R.x.sl[k]? = some x) : (R.vic c k).x.Ok ∧ (R.vic c k).x.sl.length = R.x.sl.length ∧ (R.vic c k).x.clk = R.x.clk := by
  obtain ⟨y, -, -, -, e⟩ := vic_x (c := c) hx
  rw [e]
  cases hd : x.dirty
  · rw [if_neg (by decide)]
    exact ⟨h, rfl, rfl⟩
  · rw [if_pos rfl]
    have hv : x.valid = true := by
      rcases hv : x.valid with _ | _
      · have := h.nl x (List.mem_of_getElem? hx) hv
        rw [this] at hd
        cases hd
      · rfl
    exact ⟨h.setD k x hx hv false, by show (List.set _ _ _).length = _; rw [List.length_set], rfl⟩
theorem vic2_x (h : R.x.Ok) (hx : R.x.sl[k]? = some x) : (R.vic2 c k).x = R.x.clear k := by
  obtain ⟨y, hy, hv, hd, e⟩ := vic_x (c := c) hx
  unfold RV.vic2
  rw [CS.at_eq hy, hv]
  rcases hxv : x.valid with _ | _
  · rw [if_neg (by decide), e]
    have hn := h.nl x (List.mem_of_getElem? hx) hxv
    rw [hn, if_neg (by decide)]
    unfold CS.clear
    rw [set_self (by rw [hx, hn])]
  · rw [if_pos rfl]
    show ((R.vic c k).x.clear k) = _
    rw [e]
    split
    · unfold CS.clear CS.setD
      rw [List.set_set]
    · rfl
theorem CS.Ok.dvv {s : CS} (h : s.Ok) {k : Nat} {x : Sl} (hx : s.sl[k]? = some x) (hd : x.dirty = true) : x.valid = true := by
  cases hv : x.valid
  · have := h.nl x (List.mem_of_getElem? hx) hv
    rw [this] at hd
    cases hd
  · rfl
theorem clear_at {s : CS} (hk : k < s.sl.length) : (s.clear k).sl[k]? = some nilS := List.getElem?_set_self hk
theorem place_at {s : CS} {b : Int} (hk : k < s.sl.length) : (s.place k b).sl[k]? = some ⟨true, false, b, s.clk + 1⟩ := List.getElem?_set_self hk
end
theorem RvIn.dirt {W : World} {F : Nat → Prop} {K : RC} {clo : Bool} {R : RV} {A B : Option Addr} {c d k : Nat} {x : Sl} (h : RvIn W F K clo R A c B d) (hx : R.x.sl[k]? = some x) :
    ∃ a, A = some ⟨a, 0, none⟩ ∧ W.cell? ⟨a, k * 4, none⟩ = some (.bool x.valid) ∧ W.cell? ⟨a, k * 4 + 1, none⟩ = some (.bool x.dirty) ∧ (k : Int) < (R.x.sl.length : Int) := by
  have hk := (List.getElem?_eq_some_iff.1 hx).1
  obtain ⟨a, ca, hA, -, -⟩ := h.row.form (by omega)
  injection hA with hA _ _
  subst hA
  obtain ⟨b', o', e', -, hcc⟩ := scs_read (Reads.of_own h.row) (by omega)
  injection e' with e'
  injection e' with e1 e2
  subst e1
  subst e2
  obtain ⟨v0, v1, v2, v3⟩ := hcc k x hx
  rw [Nat.zero_add] at v0 v1
  exact ⟨a, rfl, v0, v1, by omega⟩
set_option maxRecDepth 100000 in
set_option maxHeartbeats 8000000 in
theorem rslot_any (W : World) (F : Nat → Prop) (K : RC) (clo : Bool) (R : RV) (a : Nat) (h : RvAt W F K clo R) (hok : R.x.Ok) (ha : a < K.n0) (hch : 1 ≤ K.chunk ∧ K.chunk ≤ 64) (hn0 : K.n0 ≤ 65536) (hn1 : K.n1 ≤ 65536) (hn2 : K.n2 ≤ 65536)
    (hsl : R.x.sl.length + 1 ≤ K.n2) (hf : R.x.sl.length * K.chunk ≤ K.n1) (hwh : ∀ (k : Nat) (x : Sl), R.x.sl[k]? = some x → x.valid = true → (x.block.toNat + 1) * K.chunk ≤ K.n0) (hclk : R.x.clk < 1099511627776) :
    Calls Tryz.prog 53 #[.pointer (some ⟨K.r, 0, none⟩), .int .i64 (a : Int)] W fun e w' => e = .returned (.int .i64 (R.slot K.chunk a).1) ∧ RvP W F K clo (R.slot K.chunk a).2 w' := by
  have hbl := Nat.div_le_self a K.chunk
  have hlo : R.o.length = K.n0 := by obtain ⟨A, c, B, d, h⟩ := h; exact h.lo
  have hE : R.slot K.chunk a = if ¬ (a / K.chunk + 1) * K.chunk ≤ K.n0 then (-1, R)
    else if 0 ≤ R.x.find ((a / K.chunk : Nat) : Int) then (R.x.find ((a / K.chunk : Nat) : Int), { R with x := R.x.touch (R.x.find ((a / K.chunk : Nat) : Int)).toNat })
    else if (R.x.miss ((a / K.chunk : Nat) : Int)).2 = false then (-1, { R with x := (R.x.miss ((a / K.chunk : Nat) : Int)).1 })
    else ((R.x.miss ((a / K.chunk : Nat) : Int)).1.victim, RV.prom K.chunk { R with x := (R.x.miss ((a / K.chunk : Nat) : Int)).1 } (R.x.miss ((a / K.chunk : Nat) : Int)).1.victim.toNat (a / K.chunk)) := by
    unfold RV.slot
    rw [hlo]
  generalize R.slot K.chunk a = rR at *
  have e1 := div_wrap a K.chunk (by omega)
  generalize hB : a / K.chunk = b at *
  have hb16 : b ≤ 16777215 := by omega
  have t0 : ¬ (K.chunk : Int) = 0 := by omega
  have HE := Lib.hid hE
  have HOK := Lib.hid hok
  have HWH := Lib.hid hwh
  have HSL := Lib.hid hsl
  have HF := Lib.hid hf
  have hln := hok.len
  have HW0 := Lib.hid (rwhole_any W F K clo R b h (by omega) (by omega))
  obtain ⟨A, c, B, d, h⟩ := h
  have h := h.tight
  have H := Lib.hid h
  obtain ⟨x0, x1, x2, x3, x4, x5, x6, x7, x8⟩ := h.cells
  clear hE hok hwh hsl hf h hB hlo x0 x1 x2 x3 x4 x5 x7 x8
  go_enter Tryz.func53, Tryz.ntmps53
  go_wp2_with fail
  refine HW0.out.mono ?_
  rintro e w1 ⟨rfl, hb1⟩
  have HH := Lib.hid (H.out.keep hb1)
  have HT : Hid (Turn (fun j => F j ∧ j < W.heap.size) (fun j => F j ∧ j < W.heap.size) W w1) := Turn.of_below hb1
  clear HW0 x6 hb1 e1
  by_cases hnb : (b + 1) * K.chunk ≤ K.n0
  rotate_left
  · have d1 : decide ((b + 1) * K.chunk ≤ K.n0) = false := decide_eq_false hnb
    go_wp2_with fail
    go_ret
    rw [HE.out, if_pos hnb]
    exact ⟨rfl, RvP.of ⟨_, _, _, _, HH.out⟩ HT.out⟩
  have d1 : decide ((b + 1) * K.chunk ≤ K.n0) = true := decide_eq_true hnb
  have hcf := rfind_any w1 A B R.x.sl.length c R.x.ms.length d R.x HOK.out (b : Int) rfl rfl (Reads.of_own HH.out.row) HH.out.mis
  unfold csV at hcf
  have HCF := Lib.hid hcf
  clear hcf
  obtain ⟨x0, x1, x2, x3, x4, x5, x6, x7, x8⟩ := HH.out.cells
  clear x0 x1 x2 x6 x7 x8
  go_wp2_with fail
  refine HCF.out.mono ?_
  rintro e w2 ⟨rfl, hb2⟩
  have HH2 := Lib.hid (HH.out.keep hb2)
  have HT2 := Lib.hid (HT.out.trans (Turn.of_below hb2))
  clear HCF HH HT hb2 x3 x4 x5 d1
  obtain ⟨x0, x1, x2, x3, x4, x5, x6, x7, x8⟩ := HH2.out.cells
  clear x0 x1 x2 x6 x7 x8
  by_cases hfi : 0 ≤ R.x.find (b : Int)
  · -- found
    obtain ⟨k, x, hk, hx, hv, hxb⟩ := find_at hfi
    have hHE : rR = ((k : Int), { R with x := R.x.touch k }) := by rw [HE.out, if_neg (fun e => e hnb), if_pos hfi, hk, Int.toNat_natCast]
    have HHE := Lib.hid hHE
    have hcl := rtouch_any w2 A B R.x.sl.length c R.x.ms.length d R.x HOK.out rfl rfl (Reads.of_own HH2.out.row) HH2.out.mis k x hx hv hclk
    unfold csV at hcl
    have HCL := Lib.hid hcl
    have t1 : (0 : Int) ≤ (k : Int) := by omega
    rw [hk]
    clear hcl hHE HE hk hx hv hxb hfi
    go_wp2_with fail
    refine HCL.out.mono ?_
    rintro e w3 ⟨⟨v, rfl, A', n', c', m', B', d', rfl, hn, hm, hS, hM⟩, hb3⟩
    unfold csV
    have h3 := HH2.out.keep hb3
    obtain ⟨z0, z1, z2, z3, z4, z5, z6, z7, z8⟩ := h3.cells
    have f3 := h3.vol.free 3
    have f4 := h3.vol.free 4
    have f5 := h3.vol.free 5
    have hfin := HH2.out.tight.fin (d' := d') (fun j hj => hj.2) hb3 hn hm hS (own_reads hM) (fun p hp => by subst hp; exact ⟨(hM.lt p.block rfl).1, fun b hb e => own_own_ne hS hM (by decide) b p.block hb rfl e.symm⟩)
    have HFIN := Lib.hid hfin
    clear h3 hfin hS hM HCL
    go_wp2_with fail
    go_ret
    rw [HHE.out]
    obtain ⟨F', q1, q2⟩ := RvP.of HFIN.out.1 HFIN.out.2
    exact ⟨rfl, RvP.of q1 (HT2.out.trans q2)⟩
  · have hfn := find_neg hfi
    have t1 : ¬ (0 : Int) ≤ R.x.find (b : Int) := hfi
    have HE2 : Hid (rR = if (R.x.miss (b : Int)).2 = false then (-1, { R with x := (R.x.miss (b : Int)).1 }) else ((R.x.miss (b : Int)).1.victim, RV.prom K.chunk { R with x := (R.x.miss (b : Int)).1 } (R.x.miss (b : Int)).1.victim.toNat b)) := by show _ = _; rw [HE.out, if_neg (fun e => e hnb), if_neg hfi]
    have HOK1 := Lib.hid (HOK.out.miss (b : Int) (by omega) hfn)
    obtain ⟨mf1, mf2, mf3, mf4⟩ := miss_facts R.x (b : Int)
    rw [hfn] at mf3
    have HMF : Hid ((R.x.miss (b : Int)).1.sl = R.x.sl ∧ (R.x.miss (b : Int)).1.clk = R.x.clk ∧ (R.x.miss (b : Int)).1.find (b : Int) = -1) := ⟨mf1, mf2, mf3⟩
    have hcl := rmiss_any w2 A B R.x.sl.length c R.x.ms.length d R.x HOK.out rfl rfl (Reads.of_own HH2.out.row) HH2.out.mis (b : Int) (by omega) hfn
    unfold csV at hcl
    have HCL := Lib.hid hcl
    rw [hfn]
    clear hcl HE hfi hfn mf1 mf2 mf3 mf4 t1
    generalize R.x.miss (b : Int) = xm at *
    obtain ⟨x1, is⟩ := xm
    dsimp only at *
    go_wp2_with fail
    refine HCL.out.mono ?_
    rintro e w3 ⟨⟨v, rfl, A', n', c', m', B', d', rfl, hn, hm, hS, hM, hkM⟩, hb3⟩
    unfold csV
    clear HCL x3 x4 x5
    go_upto_region 9 with (fail)
    have hba : Below w3.heap.size w3 (w3.alloc (.cells #[.slice A' n' c', .int .i64 x1.clk, .slice B' m' d'] 58)) := (Below.refl _ w3).alloc (Nat.le_refl _) _
    have hS4 := own_keepB hS hba
    have hM4 := hM.keep hba
    have hCS := Cs.new w3 58 #[.slice A' n' c', .int .i64 x1.clk, .slice B' m' d']
    have hb34 := hb3.trans (hba.mono hb3.size)
    clear hba hS hM hb3
    generalize (w3.alloc (.cells #[.slice A' n' c', .int .i64 x1.clk, .slice B' m' d'] 58)) = w4 at *
    have h4 := HH2.out.keep hb34
    obtain ⟨z0, z1, z2, z3, z4, z5, z6, z7, z8⟩ := h4.cells
    have f3 := h4.vol.free 3
    have f4 := h4.vol.free 4
    have f5 := h4.vol.free 5
    have y0 := hCS.cell 0
    have y1 := hCS.cell 1
    have y2 := hCS.cell 2
    have hfin := HH2.out.tight.fin (d' := d') (fun j hj => hj.2) hb34 hn hm hS4 hM4 hkM
    have HFIN := Lib.hid hfin
    clear hCS hS4 hM4 hkM hfin h4 hb34 z0 z1 z2 z6 z7 z8 HH2
    cases is
    · have hHE : rR = (-1, { R with x := x1 }) := by rw [HE2.out, if_pos rfl]
      have HHE := Lib.hid hHE
      clear hHE HE2
      go_wp2_with fail
      go_ret
      rw [HHE.out]
      obtain ⟨F', q1, q2⟩ := RvP.of HFIN.out.1 HFIN.out.2
      exact ⟨rfl, RvP.of q1 (HT2.out.trans q2)⟩
    have hHE : rR = (x1.victim, RV.prom K.chunk { R with x := x1 } x1.victim.toNat b) := by rw [HE2.out, if_neg (by decide)]
    have HHE := Lib.hid hHE
    clear hHE HE2
    go_upto_region 12 with (fail)
    change Code.wp _ _ _ _ (rput3 w4 K.r A' n' c' x1.clk B' m' d')
    generalize rput3 w4 K.r A' n' c' x1.clk B' m' d' = w5 at *
    obtain ⟨F5, hr5, ht5⟩ := RvP.of HFIN.out.1 HFIN.out.2
    have HT5 := Lib.hid (HT2.out.trans ht5)
    clear HFIN HT2 ht5 z3 z4 z5 f3 f4 f5 y0 y1 y2
    obtain ⟨R1, hR1⟩ : ∃ R1 : RV, ({ R with x := x1 } : RV) = R1 := ⟨_, rfl⟩
    rw [hR1] at hr5 HHE
    have HR1 : Hid (R1.x = x1) := by show _ = _; rw [← hR1]
    have HO1 : Hid (R1.o = R.o ∧ R1.f = R.f ∧ R1.m = R.m) := by rw [← hR1]; exact ⟨rfl, rfl, rfl⟩
    clear hR1
    obtain ⟨k, x, hvk, hxk⟩ := victim_at HOK1.out
    rw [hvk, Int.toNat_natCast] at HHE
    have hkl := (List.getElem?_eq_some_iff.1 hxk).1
    rw [HMF.out.1] at hkl
    obtain ⟨A5, c5, B5, d5, h5⟩ := hr5
    have H5 := Lib.hid h5
    obtain ⟨x0, x1', x2, x3, x4, x5, x6, x7, x8⟩ := h5.cells
    have hcv := rvictim_any w5 A5 B5 R1.x.sl.length c5 R1.x.ms.length d5 R1.x (by rw [HR1.out]; exact HOK1.out) rfl rfl (Reads.of_own h5.row) h5.mis
    unfold csV at hcv
    rw [show R1.x.victim = (k : Int) by rw [HR1.out]; exact hvk] at hcv
    have HCV := Lib.hid hcv
    have HXK : Hid (R1.x.sl[k]? = some x) := by show _ = _; rw [HR1.out]; exact hxk
    have HOKR : Hid R1.x.Ok := by show CS.Ok _; rw [HR1.out]; exact HOK1.out
    have HSZ : Hid (R1.x.sl.length = R.x.sl.length) := by show _ = _; rw [HR1.out, HMF.out.1]
    have HFD : Hid (R1.x.find (b : Int) = -1) := by show _ = _; rw [HR1.out]; exact HMF.out.2.2
    have HCK : Hid (R1.x.clk < 1099511627776) := by show R1.x.clk < _; rw [HR1.out, HMF.out.2.1]; exact hclk
    have HWH1 : Hid (x.valid = true → (x.block.toNat + 1) * K.chunk ≤ K.n0) := fun e => HWH.out k x (by rw [← HMF.out.1]; exact hxk) e
    have HBK : Hid (x.valid = true → 0 ≤ x.block) := fun e => (HOK1.out.blk x (List.mem_of_getElem? hxk) e).1.1
    have HFK : Hid ((k + 1) * K.chunk ≤ K.n1) := Nat.le_trans (Nat.mul_le_mul_right K.chunk (show k + 1 ≤ R.x.sl.length by omega)) HF.out
    clear h5 hcv hvk hxk x0 x1' x2 x6 x7 x8 HOK1 HMF HWH HF HR1 HOK
    go_wp2_with fail
    refine HCV.out.mono ?_
    rintro e w6 ⟨rfl, hb6⟩
    have H6 := Lib.hid (H5.out.keep hb6)
    have HT6 := Lib.hid (HT5.out.trans (Turn.of_below hb6))
    clear HCV H5 HT5 hb6 x3 x4 x5
    obtain ⟨a6, ea, v0, v1, hk6⟩ := H6.out.dirt HXK.out
    subst ea
    have z3 := H6.out.cells.2.2.2.1
    go_upto_if 75 with (fail)
    go_cut [] (fun wx => RvP W (fun j => F j ∧ j < W.heap.size) K clo (R1.vic K.chunk k) wx)
    case first =>
      cases hd : x.dirty
      · rw [hd] at v1
        have hE1 : R1.vic K.chunk k = R1 := by unfold RV.vic; rw [CS.at_eq HXK.out, if_neg (by rw [hd]; decide)]
        have HE1 := Lib.hid hE1
        clear hE1
        go_wp2_with fail
        go_meet
        case rel =>
          rw [HE1.out]
          exact ⟨_, ⟨_, _, _, _, H6.out⟩, HT6.out⟩
      · rw [hd] at v1
        have hE1 : R1.vic K.chunk k = R1.back K.chunk k false := by unfold RV.vic; rw [CS.at_eq HXK.out, if_pos hd]
        have HE1 := Lib.hid hE1
        have hv := HOKR.out.dvv HXK.out hd
        have HBC := Lib.hid (rback_any w6 F5 K clo R1 k x false ⟨_, _, _, _, H6.out⟩ HOKR.out HXK.out hv (by rw [HSZ.out]; exact HSL.out) hn2 (HBK.out hv) (HWH1.out hv) HFK.out hch.1 hn0 hn1)
        clear hE1 hv
        go_wp2_with fail
        refine HBC.out.mono ?_
        rintro e w7 ⟨rfl, hp⟩
        have HP := Lib.hid (RvP.trans HT6.out hp)
        clear hp HBC
        go_wp2_with fail
        go_meet
        case rel =>
          rw [HE1.out]
          exact HP.out
    case rest =>
      rename World => w7
      obtain ⟨F7, ⟨A7, c7, B7, d7, h7⟩, ht7⟩ := hcut
      obtain ⟨y, hy, hyv, hyd, -⟩ := vic_x (c := K.chunk) HXK.out
      obtain ⟨vo1, vo2, vo3⟩ := vic_ok (c := K.chunk) HOKR.out HXK.out
      have hvx2 := vic2_x (c := K.chunk) HOKR.out HXK.out
      have HV2 : Hid (R1.vic2 K.chunk k = if y.valid = true then (R1.vic K.chunk k).free k else R1.vic K.chunk k) := by show _ = _; unfold RV.vic2; rw [CS.at_eq hy]
      have H7 := Lib.hid h7
      have HT7 := Lib.hid ht7
      have HY := Lib.hid hy
      have HVO := Lib.hid vo1
      have HVX2 := Lib.hid hvx2
      obtain ⟨a7, ea, u0, u1, hk7⟩ := h7.dirt hy
      subst ea
      have z3' := h7.cells.2.2.2.1
      have HYD := Lib.hid hyd
      clear H6 HT6 z3 v0 v1 hk6 h7 ht7 hy vo1 hvx2 vo3 hyv hyd
      go_upto_if 87 with (fail)
      go_cut [] (fun wx => RvP W (fun j => F j ∧ j < W.heap.size) K clo (R1.vic2 K.chunk k) wx)
      case first =>
        cases hv : y.valid
        · rw [hv] at u0
          have hE1 : R1.vic2 K.chunk k = R1.vic K.chunk k := by rw [HV2.out, if_neg (by rw [hv]; decide)]
          have HE1 := Lib.hid hE1
          clear hE1
          go_wp2_with fail
          go_meet
          case rel =>
            rw [HE1.out]
            exact ⟨_, ⟨_, _, _, _, H7.out⟩, HT7.out⟩
        · rw [hv] at u0
          have hE1 : R1.vic2 K.chunk k = (R1.vic K.chunk k).free k := by rw [HV2.out, if_pos hv]
          have HE1 := Lib.hid hE1
          have HFR := Lib.hid (rfree_any w7 F7 K clo (R1.vic K.chunk k) k y ⟨_, _, _, _, H7.out⟩ HVO.out HY.out HYD.out (by rw [vo2, HSZ.out]; exact HSL.out) hn2)
          clear hE1
          go_wp2_with fail
          refine HFR.out.mono ?_
          rintro e w8 ⟨rfl, hp⟩
          have HP := Lib.hid (RvP.trans HT7.out hp)
          clear hp HFR
          go_wp2_with fail
          go_meet
          case rel =>
            rw [HE1.out]
            exact HP.out
      case rest =>
        rename World => w8
        obtain ⟨F8, ⟨A8, c8, B8, d8, h8⟩, ht8⟩ := hcut
        have HT8 := Lib.hid ht8
        have HPR : Hid (RV.prom K.chunk R1 k b = ⟨(R1.vic2 K.chunk k).o, cpL (R1.vic2 K.chunk k).f (k * K.chunk) (R1.vic2 K.chunk k).o (b * K.chunk) K.chunk, (R1.vic2 K.chunk k).m.set (1 + k) (dwd (b : Int) false), (R1.vic2 K.chunk k).x.place k (b : Int)⟩) := rfl
        clear H7 HT7 HV2 HY HVO u0 u1 z3' hk7 HYD ht8
        generalize R1.vic2 K.chunk k = R8 at *
        -- the copy
        have hx8 : R8.x = R1.x.clear k := HVX2.out
        have hsz8 : R8.x.sl.length = R1.x.sl.length := by rw [hx8]; show (List.set _ _ _).length = _; rw [List.length_set]
        have HX8 := Lib.hid hx8
        have HSZ8 := Lib.hid hsz8
        have HKL : Hid (k < R1.x.sl.length) := by show k < _; rw [HSZ.out]; exact hkl
        clear hx8 hsz8 HVX2
        obtain ⟨p, hp⟩ : ∃ p, b * K.chunk = p := ⟨_, rfl⟩
        obtain ⟨q, hq⟩ : ∃ q, k * K.chunk = q := ⟨_, rfl⟩
        have hwh := hnb
        rw [Nat.add_mul, Nat.one_mul, hp] at hwh
        have hfk := HFK.out
        rw [Nat.add_mul, Nat.one_mul, hq] at hfk
        have e1 : IntKind.i64.wrap ((b : Int) * (K.chunk : Int)) = (p : Int) := by rw [← Int.natCast_mul, hp, IntWalk.i64_in _ (by omega)]
        have e2 : IntKind.i64.wrap ((k : Int) + 1) = ((k + 1 : Nat) : Int) := by rw [IntWalk.i64_in _ (by omega)]; rfl
        obtain ⟨k1, hk1⟩ : ∃ k1, k + 1 = k1 := ⟨_, rfl⟩
        obtain ⟨qc, hqc⟩ : ∃ qc, q + K.chunk = qc := ⟨_, rfl⟩
        rw [hk1] at e2
        have e3 : IntKind.i64.wrap ((k1 : Int) * (K.chunk : Int)) = (qc : Int) := by rw [← Int.natCast_mul, ← hk1, Nat.add_mul, Nat.one_mul, hq, hqc, IntWalk.i64_in _ (by omega)]
        have e4 : IntKind.i64.wrap ((k : Int) * (K.chunk : Int)) = (q : Int) := by rw [← Int.natCast_mul, hq, IntWalk.i64_in _ (by omega)]
        have c0 := cap_of h8.ro
        have c1 := cap_of h8.rf
        have t1 : (q : Int) ≤ (qc : Int) := by omega
        have t2 : (qc : Int) ≤ (K.cf : Int) := by omega
        have t3 : (p : Int) ≤ (K.n0 : Int) := by omega
        have t4 : (K.n0 : Int) ≤ (K.co : Int) := by omega
        have t1' : q ≤ qc := by omega
        have t2' : qc ≤ K.cf := by omega
        have t3' : p ≤ K.n0 := by omega
        have e5 : qc - q = K.chunk := by omega
        have t5 : ¬ K.cf = q := by omega
        have t6 : ¬ K.co = p := by omega
        obtain ⟨W1, hrun, hown, hfr⟩ := copy_own (W := w8.drew) h8.rf h8.lf h8.ro h8.lo q p K.chunk hfk hwh
        have HRUN := Lib.hid hrun
        have h1' := RvIn.newF h8 ((Fr.refl (· = K.bf) w8).drew.trans hfr) hown (by rw [cpL_length]; exact h8.lf)
        have H1 := Lib.hid h1'.tight
        have HT1 : Hid (Turn (fun j => F j ∧ j < W.heap.size) F8 W W1) := HT8.out.trans ⟨((Fr.refl (· = K.bf) w8).drew.trans hfr).mono (fun j _ e => e ▸ h8.inF.2.2.1), fun j hj => .inl hj⟩
        have HPR2 : Hid (RV.prom K.chunk R1 k b = ⟨R8.o, cpL R8.f q R8.o p K.chunk, R8.m.set (1 + k) (dwd (b : Int) false), R8.x.place k (b : Int)⟩) := by show _ = _; rw [HPR.out, hp, hq]
        obtain ⟨x0, x1', x2, x3, x4, x5, x6, x7, x8⟩ := h8.cells
        have HPC := Lib.hid hqc
        have HN0 := Lib.hid h1'
        have HWHH := Lib.hid hwh
        clear hrun hown hfr h1' h8 HPR hp hq hk1 hqc HT8 hwh hfk x2 x3 x4 x5 x7 x8 hnb
        go_wp2_with fail
        go_still_tail 29, (by kernel_rfl)
        change wpList _ _ _ _ _ w8.drew
        refine wpList_copy_run _ rfl (.tmp 108) (.tmp 119) _ _ rfl (.slice (some ⟨K.bf, q, none⟩) K.chunk (K.cf - q)) (.slice (some ⟨K.bo, p, none⟩) (K.n0 - p) (K.co - p)) (by simp [Act.eval]) (by simp [Act.eval]) _ _ (HRUN.out _ _ _ _ (by have := HWHH.out; omega)) ?_
        obtain ⟨x0, x1', x2, x3, x4, x5, x6, x7, x8⟩ := H1.out.cells
        have hok8 : R8.x.Ok := by rw [HX8.out]; exact HOKR.out.clear k
        have hf8 : R8.x.find (b : Int) = -1 := by rw [HX8.out]; exact find_clear HFD.out k
        have hc8 : R8.x.clk < 1099511627776 := by rw [HX8.out]; exact HCK.out
        have hx8 : R8.x.sl[k]? = some nilS := by rw [HX8.out]; exact clear_at HKL.out
        have hcl := rplace_any W1 _ B8 R8.x.sl.length c8 R8.x.ms.length d8 R8.x hok8 rfl rfl (Reads.of_own H1.out.row) H1.out.mis k nilS hx8 rfl (b : Int) (by omega) hf8 hc8
        unfold csV at hcl
        have HCL := Lib.hid hcl
        clear hcl HRUN e1 e2 e3 e4 e5 t1 t2 t3 t4 t5 t6 t1' t2' t3' c0 c1 hok8 hf8 hc8 hx8 x0 x1' x2 x6 x7 x8
        go_wp2_with fail
        refine HCL.out.mono ?_
        rintro e w9 ⟨⟨v, rfl, A', n', c', m', B', d', rfl, hn, hm, hS, hM⟩, hb9⟩
        unfold csV
        have h9 := H1.out.keep hb9
        obtain ⟨z0, z1, z2, z3, z4, z5, z6, z7, z8⟩ := h9.cells
        have f3 := h9.vol.free 3
        have f4 := h9.vol.free 4
        have f5 := h9.vol.free 5
        have hfin := H1.out.fin (d' := d') (fun j hj => hj.2) hb9 hn hm hS (own_reads hM) (fun p hp => by subst hp; exact ⟨(hM.lt p.block rfl).1, fun b hb e => own_own_ne hS hM (by decide) b p.block hb rfl e.symm⟩)
        have HFIN := Lib.hid hfin
        clear h9 hfin hS hM x3 x4 x5 z0 z1 z2 z6 z7 z8
        go_wp2_with fail
        change Calls _ _ _ (rput3 w9 K.r A' n' c' (R8.x.place k (b : Int)).clk B' m' d') _
        have hkl8 : k < R8.x.sl.length := by rw [HSZ8.out]; exact HKL.out
        have hps : (R8.x.place k (b : Int)).sl.length = R8.x.sl.length := by show (List.set _ _ _).length = _; rw [List.length_set]
        refine (rput_any _ _ K clo _ k ⟨true, false, (b : Int), R8.x.clk + 1⟩ HFIN.out.1 (place_at hkl8) (by show (R8.x.place k (b : Int)).sl.length + 1 ≤ K.n2; rw [hps, HSZ8.out, HSZ.out]; exact HSL.out) hn2).mono ?_
        rintro e w10 ⟨rfl, hp⟩
        have HP := Lib.hid hp
        clear hp z3 z4 z5 f3 f4 f5
        go_wp2_with fail
        go_ret
        rw [HHE.out, HPR2.out]
        obtain ⟨F1, p1, p2⟩ := RvP.trans HFIN.out.2 HP.out
        obtain ⟨F2, q1, q2⟩ := RvP.of p1 p2
        obtain ⟨F3, r1, r2⟩ := RvP.trans HT1.out ⟨F2, q1, q2⟩
        exact ⟨rfl, RvP.of r1 r2⟩
end Go.Proofs.YtogchafnnkajfaaGreat
namespace Go.Proofs.YtogchafnnkajfaaGreat
set_option linter.unusedVariables false
theorem seenB_mem (ws : List Nat) (k i : Nat) (hi : i < k) (hv : (slotS (ws[1 + i]?.getD 0)).valid = true) : (slotS (ws[1 + i]?.getD 0)).block ∈ seenB ws k := by
  induction k with
  | zero => omega
  | succ k ih =>
    unfold seenB
    by_cases e : i = k
    · subst e
      rw [if_pos hv]
      exact List.mem_append.2 (.inr (List.mem_singleton.2 rfl))
    · have := ih (by omega)
      split
      · exact List.mem_append.2 (.inl this)
      · exact this
theorem okAt_of (ws : List Nat) (n k : Nat) (h : allOk ws n = true) (hk : k < n) : okAt ws k = true := by
  have := allOk_mono ws (k + 1) n (by omega) h
  rw [allOk, Bool.and_eq_true] at this
  exact this.2
theorem allOk_uq (ws : List Nat) (n : Nat) (h : allOk ws n = true) (i j : Nat) (hij : i < j) (hj : j < n) (hi : (slotS (ws[1 + i]?.getD 0)).valid = true) (hv : (slotS (ws[1 + j]?.getD 0)).valid = true) : (slotS (ws[1 + i]?.getD 0)).block ≠ (slotS (ws[1 + j]?.getD 0)).block := by
  intro e
  have h1 := okAt_of ws n j h hj
  have h2 := seenB_mem ws j i hij hi
  rw [e] at h2
  unfold okAt at h1
  rw [hv, decide_eq_true h2] at h1
  simp at h1
theorem slotOk_no (w : Nat) (h : slotOk w = true) (hv : (slotS w).valid = false) : w = 0 := by
  unfold slotOk at h
  rcases of_decide_eq_true h with h | ⟨h1, -⟩
  · exact h
  · by_cases e : w = 0
    · exact e
    · have : (slotS w).valid = true := by unfold slotS; rw [if_neg e]; exact decide_eq_true h1
      rw [this] at hv
      cases hv
theorem slotsU_at (ws : List Nat) (n k : Nat) (hk : k < n) : (slotsU ws n)[k]? = some (slotS (ws[1 + k]?.getD 0)) := by
  induction n with
  | zero => omega
  | succ n ih =>
    rw [slotsU_succ]
    by_cases e : k = n
    · subst e
      rw [List.getElem?_append_right (by rw [slotsU_length]; exact Nat.le_refl _), slotsU_length, Nat.sub_self]
      rfl
    · rw [List.getElem?_append_left (by rw [slotsU_length]; omega)]
      exact ih (by omega)
def opK (ws : List Nat) : Nat := (ws[0]?.getD 0) % 2048
def opC (ws : List Nat) : Nat := (ws[0]?.getD 0) / 2048 % 128
def opM (ws : List Nat) : Int := (((ws[0]?.getD 0) / 262144 % 4 : Nat) : Int)
def opO (ws : List Nat) : Bool := decide ((ws[0]?.getD 0) / 1048576 % 2 = 1)
theorem open_cs (ws : List Nat) (h : openE ws = 0) : (CS.mk (slotsU ws (opK ws)) 0 []).Ok ∧ opK ws + 1 ≤ ws.length ∧ 1 ≤ opC ws ∧ opC ws ≤ 64 ∧ (∀ i, i < opK ws → ws[1 + i]? = some ((slotS (ws[1 + i]?.getD 0)).word)) := by
  have hK : opK ws = (ws[0]?.getD 0) % 2048 := rfl
  have hC : opC ws = (ws[0]?.getD 0) / 2048 % 128 := rfl
  unfold openE at h
  by_cases h1 : hform (ws[0]?.getD 0) = false
  · rw [if_pos h1] at h; cases h
  rw [if_neg h1] at h
  by_cases h2 : hbad (ws[0]?.getD 0) ws.length = true
  · rw [if_pos h2] at h; cases h
  rw [if_neg h2] at h
  by_cases h3 : allOk ws ((ws[0]?.getD 0) % 2048) = false
  · rw [if_pos h3] at h; cases h
  have ha : allOk ws (opK ws) = true := by rw [hK]; simpa using h3
  have hb : ¬ ((ws[0]?.getD 0) / 9007199254740992 ≠ 0 ∨ (ws[0]?.getD 0) % 2048 < 1 ∨ 1024 < (ws[0]?.getD 0) % 2048 ∨ (ws[0]?.getD 0) / 2048 % 128 < 1 ∨ 64 < (ws[0]?.getD 0) / 2048 % 128 ∨ (ws[0]?.getD 0) / 262144 % 4 = 3 ∨ ws.length < (ws[0]?.getD 0) % 2048 + 1) := by
    intro e
    apply h2
    unfold hbad
    exact decide_eq_true e
  rw [← hK, ← hC] at hb
  have hlen : (slotsU ws (opK ws)).length = opK ws := slotsU_length _ _
  have hget : ∀ {k : Nat} {x : Sl}, (slotsU ws (opK ws))[k]? = some x → k < opK ws ∧ x = slotS (ws[1 + k]?.getD 0) := by
    intro k x hx
    have hk := (List.getElem?_eq_some_iff.1 hx).1
    rw [hlen] at hk
    rw [slotsU_at ws _ k hk] at hx
    injection hx with hx
    exact ⟨hk, hx.symm⟩
  have hso : ∀ k, k < opK ws → slotOk (ws[1 + k]?.getD 0) = true := by
    intro k hk
    have := okAt_of ws _ k ha hk
    unfold okAt at this
    rw [Bool.and_eq_true] at this
    exact this.1
  have hno : ∀ k, k < opK ws → (slotS (ws[1 + k]?.getD 0)).valid = false → slotS (ws[1 + k]?.getD 0) = nilS := by
    intro k hk hv
    rw [slotOk_no _ (hso k hk) hv]
    rfl
  refine ⟨⟨⟨?_, ?_⟩, ⟨Int.le_refl _, by show (0 : Int) ≤ _; omega⟩, by show 0 ≤ 8; omega, ?_, ?_, ?_, fun b hb => by simp at hb, List.nodup_nil, fun b hb => by simp at hb⟩, by omega, by omega, by omega, ?_⟩
  · show 1 ≤ (slotsU ws (opK ws)).length; omega
  · show (slotsU ws (opK ws)).length ≤ 1024; omega
  · intro x hx hv
    obtain ⟨k, hk0⟩ := List.mem_iff_getElem?.1 hx
    obtain ⟨hk, rfl⟩ := hget hk0
    exact hno k hk hv
  · intro x hx hv
    obtain ⟨k, hk0⟩ := List.mem_iff_getElem?.1 hx
    obtain ⟨hk, rfl⟩ := hget hk0
    have := slotS_block (ws[1 + k]?.getD 0)
    have hst : (slotS (ws[1 + k]?.getD 0)).stamp = 0 := by unfold slotS; split <;> rfl
    rw [hst]
    exact ⟨⟨by omega, by omega⟩, Int.le_refl _, Int.le_refl _⟩
  · intro i j x y hi hj hxv hyv he
    obtain ⟨hi', rfl⟩ := hget hi
    obtain ⟨hj', rfl⟩ := hget hj
    rcases Nat.lt_trichotomy i j with hl | hl | hl
    · exact absurd he (allOk_uq ws _ ha i j hl hj' hxv hyv)
    · exact hl
    · exact absurd he.symm (allOk_uq ws _ ha j i hl hi' hyv hxv)
  · intro i hi
    have hil : 1 + i < ws.length := by omega
    rw [List.getElem?_eq_getElem hil, Option.getD_some]
    have hs := hso i hi
    rw [List.getElem?_eq_getElem hil, Option.getD_some] at hs
    unfold slotOk at hs
    rcases of_decide_eq_true hs with e | ⟨-, e⟩
    · rw [e]; rfl
    · rw [← e]
def badS (ss : List Sl) (q : Nat) : Bool := ss.any (fun x => x.valid && decide ((q : Int) ≤ x.block))
def opnE (now : List Nat) (n0 n1 : Nat) (mode : Int) : Int :=
  if mode ≠ 1 ∧ mode ≠ 2 then 1 else if openE now ≠ 0 then openE now
  else if n1 < opK now * opC now then 3
  else if badS (slotsU now (opK now)) (n0 / opC now) = true then 24 else 0
def opn0 (S : DS) (mode : Int) : VS := ⟨S.flush 2, ⟨slotsU (S.now 2) (opK (S.now 2)), 0, []⟩, slotsU (S.now 2) (opK (S.now 2)), opM (S.now 2), opO (S.now 2), decide (mode = 2), false, false⟩
theorem badS_no {ss : List Sl} {q : Nat} (h : badS ss q = false) {k : Nat} {x : Sl} (hx : ss[k]? = some x) (hv : x.valid = true) : x.block < (q : Int) := by
  unfold badS at h
  rw [List.any_eq_false] at h
  have := h x (List.mem_of_getElem? hx)
  rw [hv] at this
  simp at this
  omega
theorem badS_yes {ss : List Sl} {q : Nat} {k : Nat} {x : Sl} (hx : ss[k]? = some x) (hv : x.valid = true) (hb : (q : Int) ≤ x.block) : badS ss q = true := by
  unfold badS
  rw [List.any_eq_true]
  exact ⟨x, List.mem_of_getElem? hx, by rw [hv, decide_eq_true hb]; rfl⟩
theorem opn_nb {C : VC} {S : DS} {mode : Int} (h : NF C S) (he : openE (S.now 2) = 0) (hC : C.chunk = opC (S.now 2)) (h1 : ¬ C.n1 < opK (S.now 2) * opC (S.now 2)) (hb : badS (slotsU (S.now 2) (opK (S.now 2))) (C.n0 / opC (S.now 2)) = false) : NB C (opn0 S mode) := by
  obtain ⟨o1, o2, o3, o4, o5⟩ := open_cs (S.now 2) he
  obtain ⟨f1, f2, f3, f4⟩ := h.fl (i := 2) (n := C.n2) rfl
  have hl := slotsU_length (S.now 2) (opK (S.now 2))
  have hn2 := (h.hea.nn 2 C.n2 rfl).1
  refine ⟨f2, o1, rfl, ?_, ?_, ?_⟩
  · show (slotsU (S.now 2) (opK (S.now 2))).length + 1 ≤ _; omega
  · show (slotsU (S.now 2) (opK (S.now 2))).length * C.chunk ≤ _
    rw [hl, hC]; omega
  · intro k x hx hv
    have hb2 := badS_no hb hx hv
    have hb0 := (o1.blk x (List.mem_of_getElem? hx) hv).1.1
    rw [← hC] at hb2 o3
    have : x.block.toNat + 1 ≤ C.n0 / C.chunk := by
      generalize C.n0 / C.chunk = q at *
      omega
    have := (Nat.le_div_iff_mul_le (by omega)).1 this
    rw [Nat.add_mul, Nat.one_mul] at this
    exact this
end Go.Proofs.YtogchafnnkajfaaGreat
namespace Go.Proofs.YtogchafnnkajfaaGreat
set_option linter.unusedVariables false
open Go.RowKit
theorem hd_fields (K L C d : Nat) (hK : K < 2048) (hL : L < 128) (hC : C < 4) (hd : d < 2) :
    hform (hdW K L C d) = true ∧ hdW K L C d % 2048 = K ∧ hdW K L C d / 2048 % 128 = L ∧ hdW K L C d / 262144 % 4 = C ∧ hdW K L C d / 1048576 % 2 = d ∧ hdW K L C d / 9007199254740992 = 0 := by
  have hlt := hdW_lt K L C d hK hL hC hd
  have hB : clr (hdW K L C d) 21 = hdB K L C d := by
    have hs := sumW_lt (hdB K L C d)
    unfold clr hdW
    generalize sumW (hdB K L C d) = q at *
    unfold hdB
    simp only [Nat.reducePow, Nat.reduceAdd]
    omega
  have hs := sumW_lt (hdB K L C d)
  refine ⟨?_, ?_, ?_, ?_, ?_, Nat.div_eq_of_lt hlt⟩
  · unfold hform
    rw [hB]
    unfold hdW
    generalize sumW (hdB K L C d) = q at *
    unfold hdB
    apply decide_eq_true
    constructor <;> omega
  all_goals
    unfold hdW
    generalize sumW (hdB K L C d) = q at *
    unfold hdB
    omega
theorem hdI_fields (n : Nat) (chunk mode : Int) (op : Bool) (hn : n < 2048) (hc : 0 ≤ chunk ∧ chunk < 128) (hm : 0 ≤ mode ∧ mode < 4) :
    hform (hdI n chunk mode op) = true ∧ hdI n chunk mode op % 2048 = n ∧ ((hdI n chunk mode op / 2048 % 128 : Nat) : Int) = chunk ∧ ((hdI n chunk mode op / 262144 % 4 : Nat) : Int) = mode ∧ hdI n chunk mode op / 1048576 % 2 = b01 op ∧ hdI n chunk mode op / 9007199254740992 = 0 := by
  have h := hd_fields (n % 2048) (chunk % 128).toNat (mode % 4).toNat (b01 op) (Nat.mod_lt _ (by omega)) (by omega) (by omega) (b01_lt op)
  unfold hdI
  obtain ⟨h1, h2, h3, h4, h5, h6⟩ := h
  refine ⟨h1, by rw [h2]; omega, by rw [h3]; omega, by rw [h4]; omega, h5, h6⟩
def Sl.nil : Sl := ⟨false, false, 0, 0⟩
theorem setZ_at (l : List Nat) (k j : Nat) (h : j < k) (hl : 1 + j < l.length) : (setZ l k)[1 + j]?.getD 0 = 0 := by
  induction k with
  | zero => omega
  | succ k ih =>
    rw [setZ]
    by_cases e : j = k
    · subst e
      rw [List.getElem?_set_self (by rw [setZ_length]; exact hl)]
      rfl
    · rw [List.getElem?_set_ne (by omega)]
      exact ih (by omega)
theorem setZ_0 (l : List Nat) (k : Nat) : (setZ l k)[0]? = l[0]? := by
  induction k with
  | zero => rfl
  | succ k ih => rw [setZ, List.getElem?_set_ne (by omega), ih]
theorem seenB_nil (ws : List Nat) (k : Nat) (h : ∀ j, j < k → ws[1 + j]?.getD 0 = 0) : seenB ws k = [] ∧ allOk ws k = true ∧ slotsU ws k = List.replicate k Sl.nil := by
  induction k with
  | zero => exact ⟨rfl, rfl, rfl⟩
  | succ k ih =>
    obtain ⟨h1, h2, h3⟩ := ih (fun j hj => h j (by omega))
    have h0 := h k (by omega)
    refine ⟨?_, ?_, ?_⟩
    · rw [seenB, h0, h1]; rfl
    · rw [allOk, h2, okAt, h0, h1]; rfl
    · rw [slotsU_succ, h3, h0, List.replicate_succ']; rfl
theorem fmtW_len (now : List Nat) (k : Nat) (chunk : Int) : (fmtW now k chunk).length = now.length := by rw [fmtW_eq, setZ_length, List.length_set]
theorem setZ_hd (now : List Nat) (k w : Nat) (h : 1 ≤ now.length) : (setZ (now.set 0 w) k)[0]?.getD 0 = w := by
  rw [setZ_0, List.getElem?_set_self (by omega), Option.getD_some]
theorem fmtW_0 (now : List Nat) (k : Nat) (chunk : Int) (h : 1 ≤ now.length) : (fmtW now k chunk)[0]?.getD 0 = hdI k chunk 0 false := by
  rw [fmtW_eq]
  exact setZ_hd now k _ h
theorem fmtW_z (now : List Nat) (k : Nat) (chunk : Int) (hkn : k + 1 ≤ now.length) (j : Nat) (hj : j < k) : (fmtW now k chunk)[1 + j]?.getD 0 = 0 := by
  rw [fmtW_eq]
  generalize hdI k chunk 0 false = w
  exact setZ_at _ _ _ hj (by rw [List.length_set]; omega)
theorem open_good (ws : List Nat) (w k n : Nat) (h0 : ws[0]?.getD 0 = w) (h1 : hform w = true) (h2 : w % 2048 = k) (hn : ws.length = n) (hb : hbad w n = false) (ha : allOk ws k = true) : openE ws = 0 := by
  unfold openE
  rw [h0, h1, h2, hn, hb, ha]
  rfl
theorem hbad_no (w k n : Nat) (h2 : w % 2048 = k) (hk : 1 ≤ k ∧ k ≤ 1024) (hkn : k + 1 ≤ n) (h3 : 1 ≤ w / 2048 % 128 ∧ w / 2048 % 128 ≤ 64) (h4 : w / 262144 % 4 ≠ 3) (h6 : w / 9007199254740992 = 0) : hbad w n = false := by
  unfold hbad
  generalize w / 9007199254740992 = z at *
  generalize w / 2048 % 128 = y at *
  generalize w / 262144 % 4 = x at *
  generalize w % 2048 = v at *
  exact decide_eq_false (by omega)
theorem open_fmt (now : List Nat) (k : Nat) (chunk : Int) (hk : 1 ≤ k ∧ k ≤ 1024) (hkn : k + 1 ≤ now.length) (hc : 1 ≤ chunk ∧ chunk ≤ 64) :
    openE (fmtW now k chunk) = 0 ∧ (fmtW now k chunk)[0]?.getD 0 = hdI k chunk 0 false ∧ slotsU (fmtW now k chunk) k = List.replicate k Sl.nil ∧ (fmtW now k chunk).length = now.length := by
  have h := hdI_fields k chunk 0 false (by omega) (by omega) (by omega)
  have e0 := fmtW_0 now k chunk (by omega)
  have hl := fmtW_len now k chunk
  have hz := seenB_nil (fmtW now k chunk) k (fmtW_z now k chunk hkn)
  generalize hdI k chunk 0 false = w at *
  generalize fmtW now k chunk = ws at *
  obtain ⟨h1, h2, h3, h4, h5, h6⟩ := h
  refine ⟨open_good ws w k now.length e0 h1 h2 hl (hbad_no w k now.length h2 hk hkn ?_ ?_ h6) hz.2.1, e0, hz.2.2, hl⟩
  · clear h1 h2 h4 h5 h6
    generalize w / 2048 % 128 = y at *
    omega
  · clear h1 h2 h3 h5 h6
    generalize w / 262144 % 4 = y at *
    omega
end Go.Proofs.YtogchafnnkajfaaGreat
namespace Go.Proofs.YtogchafnnkajfaaGreat
set_option linter.unusedVariables false
theorem VI.of_stl {C : VC} {S : DS} {sl : List Sl} {pm : Bool} (hea : Hea S [C.n0, C.n1, C.n2]) (h0 : Stl S 0) (h1 : Stl S 1) (h2 : Stl S 2) (n2 : C.n2 = sl.length + 1) (n1 : sl.length * C.chunk ≤ C.n1) (ch : 1 ≤ C.chunk)
    (uq : ∀ (i j : Nat) (x y : Sl), sl[i]? = some x → sl[j]? = some y → x.valid = true → y.valid = true → x.block = y.block → i = j)
    (wh : ∀ (k : Nat) (x : Sl), sl[k]? = some x → x.valid = true → (0 ≤ x.block ∧ x.block ≤ 16777215) ∧ x.block.toNat * C.chunk + C.chunk ≤ C.n0)
    (hd : (S.now 2)[0]? = some (hdI sl.length (C.chunk : Int) (if pm = true then 2 else 1) true)) (wd : ∀ (k : Nat) (x : Sl), sl[k]? = some x → (S.now 2)[1 + k]? = some x.word)
    (nd : pm = false → ∀ (k : Nat) (x : Sl), sl[k]? = some x → x.dirty = false)
    (ceq : ∀ (k : Nat) (x : Sl) (i : Nat), sl[k]? = some x → x.valid = true → x.dirty = false → i < C.chunk → (S.now 1)[k * C.chunk + i]? = (S.now 0)[x.block.toNat * C.chunk + i]?)
    (nl : ∀ (k : Nat) (x : Sl), sl[k]? = some x → x.valid = false → x.dirty = false) : VI C S sl pm (VV C S sl) := by
  have hw : ∀ (k : Nat) (x : Sl) (w : Nat), sl[k]? = some x → S.Cand 2 (1 + k) w → w = x.word := by
    intro k x w hx hc
    have := h2 _ _ hc
    rw [wd k x hx] at this
    injection this with this
    exact this.symm
  have hk : VK C S sl pm (fun _ _ => True) := by
    refine ⟨hea, n2, n1, ch, uq, wh, fun v hv => ?_, fun k x w hx hc => ?_, fun e k x hx hv hc => ?_, fun _ _ _ _ _ _ _ _ => trivial, fun _ _ _ _ _ _ _ _ _ _ _ => trivial, fun _ _ _ _ _ => trivial⟩
    · have := h2 _ _ hv
      rw [hd] at this
      injection this with this
      exact this.symm
    · rw [hw k x w hx hc]
      rcases hv : x.valid with _ | _
      · exact .inl (word_no hv)
      · exact .inr ⟨rfl, _, word_yes hv⟩
    · have e1 := hw k x _ hx hc
      rw [word_yes hv, nd e k x hx] at e1
      have := (dwd_inj (wh k x hx hv).1 (wh k x hx hv).1 e1).2
      cases this
  exact VI.calm ⟨hk, wd, ceq, nl⟩ h0 h1 h2
theorem bg1_spec (md : Int) (R : RV) (hm : R.m.length = R.x.sl.length + 1) (k : Nat) (hk : k ≤ R.x.sl.length) :
    (R.bg1 md k).o = R.o ∧ (R.bg1 md k).f = R.f ∧ (R.bg1 md k).x.clk = R.x.clk ∧ (R.bg1 md k).x.ms = R.x.ms ∧ (R.bg1 md k).x.sl.length = R.x.sl.length ∧ (R.bg1 md k).m.length = R.m.length ∧ (R.bg1 md k).m[0]? = R.m[0]? ∧
    ∀ (j : Nat) (y : Sl), R.x.sl[j]? = some y → (R.bg1 md k).x.sl[j]? = some (if j < k ∧ gone md y = true then nilS else y) ∧ (R.bg1 md k).m[1 + j]? = if j < k ∧ gone md y = true then some 0 else R.m[1 + j]? := by
  induction k with
  | zero =>
    refine ⟨rfl, rfl, rfl, rfl, rfl, rfl, rfl, fun j y hy => ?_⟩
    rw [if_neg (by omega), if_neg (by omega)]
    exact ⟨hy, rfl⟩
  | succ k ih =>
    obtain ⟨i1, i2, i3, i4, i5, i6, i7, i8⟩ := ih (by omega)
    obtain ⟨y, hy⟩ : ∃ y, R.x.sl[k]? = some y := ⟨_, List.getElem?_eq_getElem (by omega)⟩
    have hky := (i8 k y hy).1
    rw [if_neg (by omega)] at hky
    rw [RV.bg1, CS.at_eq hky]
    by_cases hg : gone md y = true
    · rw [if_pos hg]
      refine ⟨i1, i2, i3, i4, by show (List.set _ _ _).length = _; rw [List.length_set]; exact i5, by show (List.set _ _ _).length = _; rw [List.length_set]; exact i6, by show (List.set _ _ _)[0]? = _; rw [List.getElem?_set_ne (by omega)]; exact i7, fun j z hz => ?_⟩
      obtain ⟨a1, a2⟩ := i8 j z hz
      by_cases e : j = k
      · subst e
        rw [hy] at hz
        injection hz with hz
        subst hz
        rw [if_pos ⟨by omega, hg⟩, if_pos ⟨by omega, hg⟩]
        exact ⟨List.getElem?_set_self (by rw [i5]; omega), List.getElem?_set_self (by rw [i6]; omega)⟩
      · have e1 : (j < k + 1) ↔ (j < k) := by omega
        simp only [e1]
        refine ⟨?_, ?_⟩
        · show (List.set _ _ _)[j]? = _
          rw [List.getElem?_set_ne (fun e' => e e'.symm)]
          exact a1
        · show (List.set _ _ _)[1 + j]? = _
          rw [List.getElem?_set_ne (by omega)]
          exact a2
    · rw [if_neg hg]
      refine ⟨i1, i2, i3, i4, i5, i6, i7, fun j z hz => ?_⟩
      obtain ⟨a1, a2⟩ := i8 j z hz
      by_cases e : j = k
      · subst e
        rw [hy] at hz
        injection hz with hz
        subst hz
        rw [if_neg (fun e => by omega)] at a1 a2
        rw [if_neg (fun e => hg e.2), if_neg (fun e => hg e.2)]
        exact ⟨a1, a2⟩
      · have e1 : (j < k + 1) ↔ (j < k) := by omega
        simp only [e1]
        exact ⟨a1, a2⟩
def cleaned (y : Sl) : Sl := { y with dirty := false }
theorem bg3_spec (c n0 : Nat) (hc : 1 ≤ c) (R : RV) (hm : R.m.length = R.x.sl.length + 1) (ho : R.o.length = n0) (hf : R.x.sl.length * c ≤ R.f.length)
    (hnl : ∀ (j : Nat) (y : Sl), R.x.sl[j]? = some y → y.dirty = true → y.valid = true) (hwh : ∀ (j : Nat) (y : Sl), R.x.sl[j]? = some y → y.valid = true → 0 ≤ y.block ∧ y.block.toNat * c + c ≤ n0)
    (huq : ∀ (i j : Nat) (x y : Sl), R.x.sl[i]? = some x → R.x.sl[j]? = some y → x.valid = true → y.valid = true → x.block = y.block → i = j) (hwd : ∀ (j : Nat) (y : Sl), R.x.sl[j]? = some y → R.m[1 + j]? = some y.word) (k : Nat) (hk : k ≤ R.x.sl.length) :
    (R.bg3 c k).f = R.f ∧ (R.bg3 c k).x.clk = R.x.clk ∧ (R.bg3 c k).x.ms = R.x.ms ∧ (R.bg3 c k).x.sl.length = R.x.sl.length ∧ (R.bg3 c k).m.length = R.m.length ∧ (R.bg3 c k).o.length = n0 ∧
    (∀ (j : Nat) (y : Sl), R.x.sl[j]? = some y → (R.bg3 c k).x.sl[j]? = some (if j < k then cleaned y else y) ∧ (R.bg3 c k).m[1 + j]? = some (if j < k then (cleaned y).word else y.word)) ∧
    (∀ (j : Nat) (y : Sl) (i : Nat), R.x.sl[j]? = some y → y.valid = true → y.dirty = true → j < k → i < c → (R.bg3 c k).o[y.block.toNat * c + i]? = R.f[j * c + i]?) ∧
    (∀ a, (∀ (j : Nat) (y : Sl), R.x.sl[j]? = some y → y.valid = true → y.dirty = true → ¬ (y.block.toNat * c ≤ a ∧ a < y.block.toNat * c + c)) → (R.bg3 c k).o[a]? = R.o[a]?) := by
  induction k with
  | zero =>
    refine ⟨rfl, rfl, rfl, rfl, rfl, ho, fun j y hy => ?_, fun j y i _ _ _ hj => by omega, fun _ _ => rfl⟩
    rw [if_neg (by omega), if_neg (by omega)]
    exact ⟨hy, hwd j y hy⟩
  | succ k ih =>
    obtain ⟨i1, i2, i3, i4, i5, i6, i7, i8, i9⟩ := ih (by omega)
    obtain ⟨y, hy⟩ : ∃ y, R.x.sl[k]? = some y := ⟨_, List.getElem?_eq_getElem (by omega)⟩
    have hky := (i7 k y hy).1
    rw [if_neg (by omega)] at hky
    rw [RV.bg3, CS.at_eq hky]
    have hsplit : ∀ (j : Nat) (z : Sl), R.x.sl[j]? = some z → j ≠ k → ((if j < k + 1 then cleaned z else z) = if j < k then cleaned z else z) ∧ ((if j < k + 1 then (cleaned z).word else z.word) = if j < k then (cleaned z).word else z.word) := by
      intro j z _ e
      have e1 : (j < k + 1) ↔ (j < k) := by omega
      simp only [e1]
      exact ⟨trivial, trivial⟩
    rcases hd : y.dirty with _ | _
    · rw [if_neg (by simp)]
      have hcy : cleaned y = y := by
        obtain ⟨yv, yd, yb, ys⟩ := y
        obtain rfl : yd = false := hd
        rfl
      refine ⟨i1, i2, i3, i4, i5, i6, fun j z hz => ?_, fun j z i hz hzv hzd hj hi => ?_, i9⟩
      · by_cases e : j = k
        · subst e
          rw [hy] at hz
          injection hz with hz
          subst hz
          have := i7 j y hy
          rw [if_neg (by omega), if_neg (by omega)] at this
          rw [if_pos (by omega), if_pos (by omega), hcy]
          exact this
        · obtain ⟨e1, e2⟩ := hsplit j z hz e
          rw [e1, e2]
          exact i7 j z hz
      · by_cases e : j = k
        · subst e
          rw [hy] at hz
          injection hz with hz
          subst hz
          rw [hd] at hzd
          cases hzd
        · exact i8 j z i hz hzv hzd (by omega) hi
    · rw [if_pos rfl]
      have hv := hnl k y hy hd
      obtain ⟨hb0, hbn⟩ := hwh k y hy hv
      have hkf : k * c + c ≤ R.f.length := by
        have := Nat.mul_le_mul_right c (show k + 1 ≤ R.x.sl.length by omega)
        rw [Nat.add_mul, Nat.one_mul] at this
        omega
      have hsd : ((R.bg3 c k).x.setD k false) = ⟨(R.bg3 c k).x.sl.set k (cleaned y), (R.bg3 c k).x.clk, (R.bg3 c k).x.ms⟩ := by unfold CS.setD; rw [CS.at_eq hky]; rfl
      have hbk : (R.bg3 c k).back c k true = ⟨cpL (R.bg3 c k).o (y.block.toNat * c) R.f (k * c) c, R.f, (R.bg3 c k).m.set (1 + k) (cleaned y).word, ⟨(R.bg3 c k).x.sl.set k (cleaned y), (R.bg3 c k).x.clk, (R.bg3 c k).x.ms⟩⟩ := by
        unfold RV.back
        rw [CS.at_eq hky, hsd, at_set (by rw [i4]; omega), i1]
        rfl
      rw [hbk]
      refine ⟨rfl, i2, i3, by show (List.set _ _ _).length = _; rw [List.length_set]; exact i4, by show (List.set _ _ _).length = _; rw [List.length_set]; exact i5, by show (cpL _ _ _ _ _).length = _; rw [cpL_length]; exact i6, fun j z hz => ?_, fun j z i hz hzv hzd hj hi => ?_, fun a ha => ?_⟩
      · by_cases e : j = k
        · subst e
          rw [hy] at hz
          injection hz with hz
          subst hz
          rw [if_pos (by omega), if_pos (by omega)]
          exact ⟨List.getElem?_set_self (by rw [i4]; omega), List.getElem?_set_self (by rw [i5]; omega)⟩
        · obtain ⟨e1, e2⟩ := hsplit j z hz e
          rw [e1, e2]
          obtain ⟨a1, a2⟩ := i7 j z hz
          refine ⟨?_, ?_⟩
          · show (List.set _ _ _)[j]? = _
            rw [List.getElem?_set_ne (fun e' => e e'.symm)]
            exact a1
          · show (List.set _ _ _)[1 + j]? = _
            rw [List.getElem?_set_ne (by omega)]
            exact a2
      · show (cpL _ _ _ _ _)[_]? = _
        rw [cpL_at, i6]
        by_cases e : j = k
        · subst e
          rw [hy] at hz
          injection hz with hz
          subst hz
          rw [if_pos ⟨by omega, by omega, by omega⟩, show y.block.toNat * c + i - y.block.toNat * c = i by omega, List.getElem?_eq_getElem (by omega)]
          rfl
        · rw [if_neg]
          · exact i8 j z i hz hzv hzd (by omega) hi
          · rintro ⟨q1, q2, -⟩
            obtain ⟨hzb, -⟩ := hwh j z hz hzv
            have hdiv : z.block.toNat * c + i = y.block.toNat * c + (z.block.toNat * c + i - y.block.toNat * c) := by omega
            obtain ⟨eb, -⟩ := blk_eq hi (by omega) hdiv
            exact e (huq j k z y hz hy hzv hv (by omega))
      · show (cpL _ _ _ _ _)[_]? = _
        rw [cpL_at, if_neg]
        · exact i9 a ha
        · rintro ⟨q1, q2, -⟩
          exact ha k y hy hv hd ⟨q1, q2⟩
end Go.Proofs.YtogchafnnkajfaaGreat
namespace Go.Proofs.YtogchafnnkajfaaGreat
set_option linter.unusedVariables false
section
variable {C : VC} {V : VS}
theorem bg1_stl (h : NB C V) (hs : ∀ j, j < 2 → Stl V.S j) (k : Nat) (hk : k ≤ V.x.sl.length) : ∀ j, j < 2 → Stl (V.bg1 C k).S j := by
  induction k with
  | zero => exact hs
  | succ k ih =>
    obtain ⟨i1, i2, i3, i4⟩ := h.bg1 k (by omega)
    rw [VS.bg1]
    split
    · intro j hj
      exact (i1.nf.st k (by have := i1.n2; omega) nilS).2.2.2.2.2 j (by omega) (ih (by omega) j hj)
    · exact ih (by omega)
theorem bg3_stl (h : NB C V) (hs : ∀ j, j < 2 → Stl V.S j) (k : Nat) (hk : k ≤ V.x.sl.length) : ∀ j, j < 2 → Stl (V.bg3 C k).S j := by
  induction k with
  | zero => exact hs
  | succ k ih =>
    obtain ⟨i1, i2, i3, i4⟩ := h.bg3 k (by omega)
    obtain ⟨x, hx⟩ : ∃ x, (V.bg3 C k).x.sl[k]? = some x := ⟨_, List.getElem?_eq_getElem (by omega)⟩
    rw [VS.bg3, CS.at_eq hx]
    split
    · rename_i hd
      have hv := i1.dirty hx hd
      intro j hj
      exact (i1.nf.cl hx (by have := i1.n2; omega) (i1.fast hx) (i1.wh k x hx hv)).2.2.2.2.2 j (by omega) (ih (by omega) j hj)
    · exact ih (by omega)
theorem bgn_stl (h : NB C V) (hs : ∀ j, j < 2 → Stl V.S j) (mode : Int) : ∀ i, i < 3 → Stl (V.bgn C mode).S i := by
  have hA : ∀ j, j < 2 → Stl (V.bgA C).S j := by
    unfold VS.bgA
    split
    · intro j hj
      exact (bg1_stl h hs _ (Nat.le_refl _) j hj).shr ((h.bg1 _ (Nat.le_refl _)).1.nf.fl (i := 2) (n := C.n2) rfl).2.2.1
    · exact hs
  obtain ⟨a1, a2, a3, a4⟩ := h.bgA
  have hB : ∀ j, j < 2 → Stl (V.bgB C mode).S j := by
    unfold VS.bgB
    split
    · exact bg3_stl a1 hA _ (Nat.le_refl _)
    · exact hA
  obtain ⟨b1, b2, b3, b4⟩ := h.bgB mode
  obtain ⟨f1, f2, f3, f4, f5, f6, f7⟩ := b1.nf.first (by have := h.n2; omega) (hdI (V.bgB C mode).ss.length (C.chunk : Int) mode true)
  intro i hi
  by_cases e : i = 2
  · subst e; exact f6
  · exact (f7 i e).1 (hB i (by omega))
end
def kept (md : Int) (op : Bool) (y : Sl) : Sl := if op = true ∧ gone md y = true then nilS else y
theorem kept_valid {md : Int} {op : Bool} {y : Sl} (h : (kept md op y).valid = true) : kept md op y = y ∧ ¬ (op = true ∧ gone md y = true) := by
  unfold kept at h ⊢
  split
  · rename_i hg
    rw [if_pos hg] at h
    cases h
  · rename_i hg
    exact ⟨rfl, hg⟩
theorem opn_vi {C : VC} {S : DS} {mode : Int} (hm : mode = 1 ∨ mode = 2) (h : NF C S) (hs : ∀ i, i < 3 → Stl S i) (he : openE (S.now 2) = 0) (hC : C.chunk = opC (S.now 2)) (h1 : ¬ C.n1 < opK (S.now 2) * opC (S.now 2)) (hb : badS (slotsU (S.now 2) (opK (S.now 2))) (C.n0 / opC (S.now 2)) = false) (hn2 : C.n2 = opK (S.now 2) + 1)
    (hceq : ∀ (j : Nat) (y : Sl) (i : Nat), (slotsU (S.now 2) (opK (S.now 2)))[j]? = some y → ¬ (opO (S.now 2) = true ∧ gone (opM (S.now 2)) y = true) → y.valid = true → y.dirty = false → i < C.chunk → (S.now 1)[j * C.chunk + i]? = (S.now 0)[y.block.toNat * C.chunk + i]?) :
    VI C ((opn0 S mode).bgn C mode).S ((opn0 S mode).bgn C mode).x.sl (decide (mode = 2)) (VV C ((opn0 S mode).bgn C mode).S ((opn0 S mode).bgn C mode).x.sl) ∧
    (∀ a v, VV C ((opn0 S mode).bgn C mode).S ((opn0 S mode).bgn C mode).x.sl a v → VV C S ((slotsU (S.now 2) (opK (S.now 2))).map (kept (opM (S.now 2)) (opO (S.now 2)))) a v) := by
  obtain ⟨o1, o2, o3, o4, o5⟩ := open_cs (S.now 2) he
  have hl := slotsU_length (S.now 2) (opK (S.now 2))
  have hNB := opn_nb (mode := mode) h he hC h1 hb
  obtain ⟨f1, f2, f3, f4⟩ := h.fl (i := 2) (n := C.n2) rfl
  have hst := bgn_stl hNB (fun j hj => (hs j (by omega)).shr f3) mode
  obtain ⟨b1, b2, b3, b4, b5, b6, b7, b8⟩ := hNB.bgn mode
  have hv0 : view (opn0 S mode) = ⟨S.now 0, S.now 1, S.now 2, ⟨slotsU (S.now 2) (opK (S.now 2)), 0, []⟩⟩ := by
    unfold view opn0
    dsimp only
    rw [show ((2 : Int)) = ((2 : Nat) : Int) from rfl, f3.now, f3.now, f3.now]
  rw [hv0] at b2
  have hmd : (opn0 S mode).md = opM (S.now 2) := rfl
  have hop : (opn0 S mode).op = opO (S.now 2) := rfl
  rw [hmd, hop] at b2
  have hl0 := (h.hea.nn 0 C.n0 rfl).1
  have hl1 := (h.hea.nn 1 C.n1 rfl).1
  have hl2 := (h.hea.nn 2 C.n2 rfl).1
  have hxl : (opn0 S mode).x.sl.length = opK (S.now 2) := hl
  rw [hxl] at b5
  have hwh0 := hNB.wh
  change ∀ (k : Nat) (x : Sl), (slotsU (S.now 2) (opK (S.now 2)))[k]? = some x → x.valid = true → x.block.toNat * C.chunk + C.chunk ≤ C.n0 at hwh0
  have hwd0 : ∀ (j : Nat) (y : Sl), (slotsU (S.now 2) (opK (S.now 2)))[j]? = some y → (S.now 2)[1 + j]? = some y.word := by
    intro j y hy
    have hj := (List.getElem?_eq_some_iff.1 hy).1
    rw [hl] at hj
    rw [slotsU_at _ _ j hj] at hy
    injection hy with hy
    rw [← hy]
    exact o5 j hj
  rw [← hC] at h1 o3
  generalize (opn0 S mode).bgn C mode = V at *
  generalize slotsU (S.now 2) (opK (S.now 2)) = ys at *
  generalize opK (S.now 2) = K at *
  generalize opM (S.now 2) = md at *
  generalize opO (S.now 2) = op at *
  -- the first part: what is given up
  have hA : ∃ R1 : RV, RV.bgA md op ⟨S.now 0, S.now 1, S.now 2, ⟨ys, 0, []⟩⟩ = R1 ∧ R1.o = S.now 0 ∧ R1.f = S.now 1 ∧ R1.x.sl.length = K ∧ R1.m.length = C.n2 ∧ ∀ (j : Nat) (y : Sl), ys[j]? = some y → R1.x.sl[j]? = some (kept md op y) ∧ R1.m[1 + j]? = some (kept md op y).word := by
    refine ⟨_, rfl, ?_⟩
    unfold RV.bgA
    cases op
    · rw [if_neg (by simp)]
      refine ⟨rfl, rfl, hl, hl2, fun j y hy => ?_⟩
      have e : kept md false y = y := by unfold kept; rw [if_neg (by simp)]
      rw [e]
      exact ⟨hy, hwd0 j y hy⟩
    · rw [if_pos rfl]
      obtain ⟨g1, g2, g3, g4, g5, g6, g7, g8⟩ := bg1_spec md ⟨S.now 0, S.now 1, S.now 2, ⟨ys, 0, []⟩⟩ (by show (S.now 2).length = ys.length + 1; omega) ys.length (Nat.le_refl _)
      refine ⟨g1, g2, g5.trans hl, g6.trans hl2, fun j y hy => ?_⟩
      have hj := (List.getElem?_eq_some_iff.1 hy).1
      obtain ⟨a1, a2⟩ := g8 j y hy
      have ek : kept md true y = if gone md y = true then nilS else y := by unfold kept; simp
      by_cases hg : gone md y = true
      · rw [if_pos ⟨hj, hg⟩] at a1 a2
        rw [ek, if_pos hg]
        exact ⟨a1, a2⟩
      · rw [if_neg (fun e => hg e.2)] at a1 a2
        rw [ek, if_neg hg]
        exact ⟨a1, a2.trans (hwd0 j y hy)⟩
  obtain ⟨R1, hR1, hR1o, hR1f, hR1l, hR1m, hR1s⟩ := hA
  -- a slot of R1 is a kept one
  have hR1g : ∀ (j : Nat) (z : Sl), R1.x.sl[j]? = some z → ∃ y, ys[j]? = some y ∧ z = kept md op y := by
    intro j z hz
    have hj := (List.getElem?_eq_some_iff.1 hz).1
    obtain ⟨y, hy⟩ : ∃ y, ys[j]? = some y := ⟨_, List.getElem?_eq_getElem (by omega)⟩
    have := (hR1s j y hy).1
    rw [hz] at this
    injection this with this
    exact ⟨y, hy, this⟩
  have hR1v : ∀ (j : Nat) (z : Sl), R1.x.sl[j]? = some z → z.valid = true → ys[j]? = some z ∧ ¬ (op = true ∧ gone md z = true) := by
    intro j z hz hv
    obtain ⟨y, hy, rfl⟩ := hR1g j z hz
    obtain ⟨e1, e2⟩ := kept_valid hv
    rw [e1]
    exact ⟨hy, e2⟩
  have hynl : ∀ (j : Nat) (y : Sl), ys[j]? = some y → y.valid = false → y = nilS := fun j y hy hv => o1.nl y (List.mem_of_getElem? hy) hv
  have hR1d : ∀ (j : Nat) (z : Sl), R1.x.sl[j]? = some z → z.dirty = true → z.valid = true := by
    intro j z hz hd
    obtain ⟨y, hy, rfl⟩ := hR1g j z hz
    unfold kept at hd ⊢
    split
    · rename_i hg
      rw [if_pos hg] at hd
      cases hd
    · rename_i hg
      rw [if_neg hg] at hd
      rcases hv : y.valid with _ | _
      · rw [hynl j y hy hv] at hd
        cases hd
      · rfl
  have hyb : ∀ (j : Nat) (y : Sl), ys[j]? = some y → y.valid = true → 0 ≤ y.block ∧ y.block ≤ 16777215 := fun j y hy hv => (o1.blk y (List.mem_of_getElem? hy) hv).1
  have hyu : ∀ (i j : Nat) (x y : Sl), ys[i]? = some x → ys[j]? = some y → x.valid = true → y.valid = true → x.block = y.block → i = j := o1.uq
  have hR1u : ∀ (i j : Nat) (x y : Sl), R1.x.sl[i]? = some x → R1.x.sl[j]? = some y → x.valid = true → y.valid = true → x.block = y.block → i = j := by
    intro i j x y hx hy hxv hyv e
    exact hyu i j x y (hR1v i x hx hxv).1 (hR1v j y hy hyv).1 hxv hyv e
  have hR1wd : ∀ (j : Nat) (z : Sl), R1.x.sl[j]? = some z → R1.m[1 + j]? = some z.word := by
    intro j z hz
    obtain ⟨y, hy, rfl⟩ := hR1g j z hz
    exact (hR1s j y hy).2
  -- the second part: what is written back
  have hB : ∃ R2 : RV, RV.bgB C.chunk md op mode ⟨S.now 0, S.now 1, S.now 2, ⟨ys, 0, []⟩⟩ = R2 ∧ R2.f = S.now 1 ∧ R2.x.sl.length = K ∧ R2.m.length = C.n2 ∧ R2.o.length = C.n0 ∧
      (∀ (j : Nat) (z : Sl), R2.x.sl[j]? = some z → ∃ z1, R1.x.sl[j]? = some z1 ∧ z.valid = z1.valid ∧ z.block = z1.block ∧ (mode = 1 → z.dirty = false) ∧ R2.m[1 + j]? = some z.word ∧ (z.valid = false → z.dirty = false)) ∧
      (∀ (j : Nat) (z1 : Sl), R1.x.sl[j]? = some z1 → ∃ z, R2.x.sl[j]? = some z ∧ z.valid = z1.valid ∧ z.block = z1.block) ∧
      (∀ (j : Nat) (z : Sl) (i : Nat), R2.x.sl[j]? = some z → z.valid = true → z.dirty = false → i < C.chunk → R2.o[z.block.toNat * C.chunk + i]? = (S.now 1)[j * C.chunk + i]?) ∧
      (∀ a, (∀ (j : Nat) (z : Sl), R1.x.sl[j]? = some z → z.valid = true → ¬ (z.block.toNat * C.chunk ≤ a ∧ a < z.block.toNat * C.chunk + C.chunk)) → R2.o[a]? = (S.now 0)[a]?) := by
    refine ⟨_, rfl, ?_⟩
    unfold RV.bgB
    rw [hR1]
    rcases hm with rfl | rfl
    · rw [if_pos rfl]
      obtain ⟨g1, g2, g3, g4, g5, g6, g7, g8, g9⟩ := bg3_spec C.chunk C.n0 o3 R1 (by omega) (by rw [hR1o]; exact hl0) (by rw [hR1l, hR1f, hl1]; omega) hR1d (fun j z hz hv => ⟨(hyb j z (hR1v j z hz hv).1 hv).1, hwh0 j z (hR1v j z hz hv).1 hv⟩) hR1u hR1wd R1.x.sl.length (Nat.le_refl _)
      refine ⟨g1.trans hR1f, g4.trans hR1l, g5.trans hR1m, g6, ?_, ?_, ?_, ?_⟩
      · intro j z hz
        have hj := (List.getElem?_eq_some_iff.1 hz).1
        rw [g4] at hj
        obtain ⟨z1, hz1⟩ : ∃ z1, R1.x.sl[j]? = some z1 := ⟨_, List.getElem?_eq_getElem hj⟩
        obtain ⟨a1, a2⟩ := g7 j z1 hz1
        rw [if_pos hj] at a1 a2
        rw [hz] at a1
        injection a1 with a1
        subst a1
        exact ⟨z1, hz1, rfl, rfl, fun _ => rfl, a2, fun _ => rfl⟩
      · intro j z1 hz1
        have hj := (List.getElem?_eq_some_iff.1 hz1).1
        obtain ⟨a1, -⟩ := g7 j z1 hz1
        rw [if_pos hj] at a1
        exact ⟨_, a1, rfl, rfl⟩
      · intro j z i hz hv hd hi
        have hj := (List.getElem?_eq_some_iff.1 hz).1
        rw [g4] at hj
        obtain ⟨z1, hz1⟩ : ∃ z1, R1.x.sl[j]? = some z1 := ⟨_, List.getElem?_eq_getElem hj⟩
        obtain ⟨a1, a2⟩ := g7 j z1 hz1
        rw [if_pos hj] at a1
        rw [hz] at a1
        injection a1 with a1
        subst a1
        have hv1 : z1.valid = true := hv
        obtain ⟨hy1, hk1⟩ := hR1v j z1 hz1 hv1
        show (R1.bg3 C.chunk R1.x.sl.length).o[z1.block.toNat * C.chunk + i]? = _
        rcases hzd : z1.dirty with _ | _
        · rw [hceq j z1 i hy1 hk1 hv1 hzd hi, ← hR1o]
          refine g9 _ (fun j2 z2 hz2 hv2 hd2 => ?_)
          rintro ⟨q1, q2⟩
          obtain ⟨hy2, -⟩ := hR1v j2 z2 hz2 hv2
          have h2 := hyb j2 z2 hy2 hv2
          have h1' := hyb j z1 hy1 hv1
          have hdiv : z1.block.toNat * C.chunk + i = z2.block.toNat * C.chunk + (z1.block.toNat * C.chunk + i - z2.block.toNat * C.chunk) := by omega
          obtain ⟨eb, -⟩ := blk_eq hi (by omega) hdiv
          have := hR1u j j2 z1 z2 hz1 hz2 hv1 hv2 (by omega)
          subst this
          rw [hz1] at hz2
          injection hz2 with hz2
          subst hz2
          rw [hzd] at hd2
          cases hd2
        · rw [g8 j z1 i hz1 hv1 hzd hj hi, hR1f]
      · intro a ha
        rw [← hR1o]
        exact g9 a (fun j z hz hv _ => ha j z hz hv)
    · rw [if_neg (by decide)]
      refine ⟨hR1f, hR1l, hR1m, by rw [hR1o]; exact hl0, ?_, ?_, ?_, fun a _ => by rw [hR1o]⟩
      · intro j z hz
        refine ⟨z, hz, rfl, rfl, fun e => by omega, hR1wd j z hz, fun hv => ?_⟩
        rcases hd : z.dirty with _ | _
        · rfl
        · rw [hR1d j z hz hd] at hv
          cases hv
      · exact fun j z1 hz1 => ⟨z1, hz1, rfl, rfl⟩
      · intro j z i hz hv hd hi
        obtain ⟨hy1, hk1⟩ := hR1v j z hz hv
        rw [hR1o]
        exact (hceq j z i hy1 hk1 hv hd hi).symm
  obtain ⟨R2, hR2, q1, q2, q3, q4, q5, q6, q7, q8⟩ := hB
  unfold RV.bgn at b2
  rw [hR2] at b2
  unfold view at b2
  injection b2 with v0 v1 v2 v3
  dsimp only at v0 v1 v2 v3
  have hVl : V.x.sl.length = K := b5
  have hmode : (if decide (mode = 2) = true then (2 : Int) else 1) = mode := by
    rcases hm with rfl | rfl
    · rfl
    · rfl
  have hVI : VI C V.S V.x.sl (decide (mode = 2)) (VV C V.S V.x.sl) := by
    rw [v3]
    refine VI.of_stl b1.hea (hst 0 (by omega)) (hst 1 (by omega)) (hst 2 (by omega)) (by rw [q2]; exact hn2) (by rw [q2]; omega) o3 ?_ ?_ ?_ ?_ ?_ ?_ ?_
    · intro i j x y hx hy hxv hyv e
      obtain ⟨x1, hx1, e1, e2, -⟩ := q5 i x hx
      obtain ⟨y1, hy1, e3, e4, -⟩ := q5 j y hy
      exact hR1u i j x1 y1 hx1 hy1 (by rw [← e1]; exact hxv) (by rw [← e3]; exact hyv) (by rw [← e2, ← e4]; exact e)
    · intro k x hx hv
      obtain ⟨x1, hx1, e1, e2, -⟩ := q5 k x hx
      have hx1v : x1.valid = true := by rw [← e1]; exact hv
      obtain ⟨hy, -⟩ := hR1v k x1 hx1 hx1v
      rw [e2]
      exact ⟨hyb k x1 hy hx1v, hwh0 k x1 hy hx1v⟩
    · rw [v2, List.getElem?_set_self (by rw [q3, hn2]; omega), hmode]
      rw [q2]
      show some (hdI ys.length (C.chunk : Int) mode true) = _
      rw [hl]
    · intro k x hx
      obtain ⟨x1, hx1, e1, e2, e3, e4, -⟩ := q5 k x hx
      rw [v2, List.getElem?_set_ne (by omega)]
      exact e4
    · intro e k x hx
      obtain ⟨x1, hx1, e1, e2, e3, e4, -⟩ := q5 k x hx
      refine e3 ?_
      rcases hm with rfl | rfl
      · rfl
      · cases e
    · intro k x i hx hv hd hi
      rw [v1, v0, q1]
      exact (q7 k x i hx hv hd hi).symm
    · intro k x hx hv
      obtain ⟨x1, hx1, e1, e2, e3, e4, e5⟩ := q5 k x hx
      exact e5 hv
  refine ⟨hVI, fun a v hv => ?_⟩
  have hmap : ∀ (j : Nat) (z : Sl), (ys.map (kept md op))[j]? = some z ↔ R1.x.sl[j]? = some z := by
    intro j z
    rw [List.getElem?_map]
    constructor
    · intro hz
      rcases hy : ys[j]? with _ | y
      · rw [hy] at hz; cases hz
      · rw [hy] at hz
        injection hz with hz
        rw [← hz]
        exact (hR1s j y hy).1
    · intro hz
      obtain ⟨y, hy, rfl⟩ := hR1g j z hz
      rw [hy]
      rfl
  rcases hv with ⟨k, x, hx, hxv, hxb, hn⟩ | ⟨hno, hn⟩
  · rw [v3] at hx
    obtain ⟨x1, hx1, e1, e2, -⟩ := q5 k x hx
    refine .inl ⟨k, x1, (hmap k x1).2 hx1, by rw [← e1]; exact hxv, by rw [← e2]; exact hxb, ?_⟩
    rw [← q1, ← v1]
    exact hn
  · have hno1 : ∀ (j : Nat) (z : Sl), R1.x.sl[j]? = some z → z.valid = true → z.block ≠ ((a / C.chunk : Nat) : Int) := by
      intro j z hz hzv
      obtain ⟨z2, hz2, e1, e2⟩ := q6 j z hz
      rw [← e2]
      exact hno j z2 (by rw [v3]; exact hz2) (by rw [e1]; exact hzv)
    refine .inr ⟨fun j z hz hzv => hno1 j z ((hmap j z).1 hz) hzv, ?_⟩
    rw [← q8 a (fun j z hz hzv => ?_), ← v0]
    · exact hn
    · rintro ⟨g1, g2⟩
      obtain ⟨hy, -⟩ := hR1v j z hz hzv
      have hzb := hyb j z hy hzv
      refine hno1 j z hz hzv ?_
      have hdiv : a = z.block.toNat * C.chunk + (a - z.block.toNat * C.chunk) := by omega
      rw [hdiv, (blk_div (by omega)).1]
      omega
end Go.Proofs.YtogchafnnkajfaaGreat
namespace Go.Proofs.YtogchafnnkajfaaGreat
set_option linter.unusedVariables false
structure Sec where
  sm : List Nat
  kn : Bool
  val : Nat
def Sec.start (v : Nat) : Sec := ⟨[v], true, v⟩
end Go.Proofs.YtogchafnnkajfaaGreat
namespace Go.Proofs.YtogchafnnkajfaaGreat
set_option linter.unusedVariables false
def okT (t : List Sec) (a v : Nat) : Prop := ∃ s, t[a]? = some s ∧ v ∈ s.sm
structure ZR (C : VC) (S : DS) (ok : Nat → Nat → Prop) : Prop where
  nf : NF C S
  st : ∀ i, i < 3 → Stl S i
  op : openE (S.now 2) = 0
  hC : C.chunk = opC (S.now 2)
  h1 : ¬ C.n1 < opK (S.now 2) * opC (S.now 2)
  hb : badS (slotsU (S.now 2) (opK (S.now 2))) (C.n0 / opC (S.now 2)) = false
  n2 : C.n2 = opK (S.now 2) + 1
  eq : ∀ (j : Nat) (y : Sl) (i : Nat), (slotsU (S.now 2) (opK (S.now 2)))[j]? = some y → ¬ (opO (S.now 2) = true ∧ gone (opM (S.now 2)) y = true) → y.valid = true → y.dirty = false → i < C.chunk → (S.now 1)[j * C.chunk + i]? = (S.now 0)[y.block.toNat * C.chunk + i]?
  v : ∀ a v, a < C.n0 → VV C S ((slotsU (S.now 2) (opK (S.now 2))).map (kept (opM (S.now 2)) (opO (S.now 2)))) a v → ok a v
theorem VV.lt {C : VC} {S : DS} {sl : List Sl} {pm : Bool} {ok : Nat → Nat → Prop} (h : VK C S sl pm ok) {a v : Nat} (hv : VV C S sl a v) : a < C.n0 := by
  rcases hv with ⟨k, x, hx, hxv, hb, -⟩ | ⟨-, hn⟩
  · have h2 := (h.wh k x hx hxv).2
    rw [toNat_blk hb] at h2
    have := blk_at a C.chunk h.ch
    omega
  · have := (List.getElem?_eq_some_iff.1 hn).1
    rw [h.lens.1] at this
    exact this
theorem ZR.opened {C : VC} {S : DS} {ok : Nat → Nat → Prop} (h : ZR C S ok) {mode : Int} (hm : mode = 1 ∨ mode = 2) :
    VI C ((opn0 S mode).bgn C mode).S ((opn0 S mode).bgn C mode).x.sl (decide (mode = 2)) (VV C ((opn0 S mode).bgn C mode).S ((opn0 S mode).bgn C mode).x.sl) ∧
    (∀ a v, VV C ((opn0 S mode).bgn C mode).S ((opn0 S mode).bgn C mode).x.sl a v → ok a v) ∧ NF C ((opn0 S mode).bgn C mode).S ∧ ((opn0 S mode).bgn C mode).x.Ok ∧ ((opn0 S mode).bgn C mode).x.sl.length = ((opn0 S mode).bgn C mode).ss.length ∧ ((opn0 S mode).bgn C mode).pm = decide (mode = 2) ∧ ((opn0 S mode).bgn C mode).closed = false ∧
    ((opn0 S mode).bgn C mode).S.log.length ≤ S.log.length + opK (S.now 2) * (C.chunk + 2) + 1 ∧ ((opn0 S mode).bgn C mode).S.wr ≤ S.wr + (opK (S.now 2) * (C.chunk + 2) : Nat) + 1 ∧ ((opn0 S mode).bgn C mode).x.clk ≤ 0 ∧ opnE (S.now 2) C.n0 C.n1 mode = 0 := by
  have hNB := opn_nb (mode := mode) h.nf h.op h.hC h.h1 h.hb
  obtain ⟨v1, v2⟩ := opn_vi hm h.nf h.st h.op h.hC h.h1 h.hb h.n2 h.eq
  obtain ⟨b1, b2, b3, b4, b5, b6, b7, b8⟩ := hNB.bgn mode
  obtain ⟨c1, c2, c3, c4⟩ := hNB.bgB mode
  have hl : (opn0 S mode).x.sl.length = opK (S.now 2) := slotsU_length _ _
  rw [hl] at c4
  have hfl := flush_log S 2
  have h0 : (opn0 S mode).S = S.flush 2 := rfl
  have hcl := c4.log
  have hcw := c4.wr
  rw [h0] at hcl hcw
  refine ⟨v1, fun a v hv => h.v a v (VV.lt v1.k hv) (v2 a v hv), b1, b3, b4, b6, b7, ?_, ?_, ?_, ?_⟩
  · have hf : ((opn0 S mode).bgn C mode).S.log.length ≤ ((opn0 S mode).bgB C mode).S.log.length + 1 := by
      show (DS.first _ 2 C.n2 _).log.length ≤ _
      unfold DS.first
      split
      · exact swrite_log _ _ _ _ _
      · exact Nat.le_trans (flush_log _ _).1 (swrite_log _ _ _ _ _)
    omega
  · have hf : ((opn0 S mode).bgn C mode).S.wr ≤ ((opn0 S mode).bgB C mode).S.wr + 1 := by
      show (DS.first _ 2 C.n2 _).wr ≤ _
      unfold DS.first
      split
      · exact swrite_wr _ _ _ _ _
      · rw [(flush_log _ _).2]; exact swrite_wr _ _ _ _ _
    rw [hfl.2] at hcw
    omega
  · rw [b8]
    have := c4.clk
    have h1 : (opn0 S mode).x.clk = 0 := rfl
    omega
  · unfold opnE
    rw [if_neg (by omega), if_neg (fun e => e h.op), if_neg h.h1, if_neg (by rw [h.hb]; simp)]
end Go.Proofs.YtogchafnnkajfaaGreat
namespace Go.Proofs.YtogchafnnkajfaaGreat
set_option linter.unusedVariables false
section
variable {C : VC} {V : VS} {t : List Sec} {k : Bool}
theorem Bd.lose {V V' : VS} {n c : Nat} (h : Bd V V' n c) (k : Nat) : Bd V (V'.loseV C k) (n + 1) c := by
  have h1 := h.fr (C := C) k
  unfold VS.loseV
  split
  · exact h1
  · refine ⟨h1.ok.clear k, ?_, ?_, h1.clk, h1.log, h1.wr, h1.md, h1.op, h1.pm, h1.clo⟩
    · show (List.set _ _ _).length = _
      rw [List.length_set]; exact h1.len
    · show (List.set _ _ _).length = _
      rw [List.length_set]; exact h1.sll
theorem Bd.wrt {a v : Nat} (hok : V.x.Ok) (hlen : V.x.sl.length = V.ss.length) (hclk : V.x.clk < 1099511627776) (ha : a < C.n0) (hn0 : C.n0 ≤ 65536) : Bd V (V.wrt C a v).2 (2 * C.chunk + 5) 1 := by
  have h0 := Bd.slt (C := C) hok hlen ha hn0 hclk
  have hso := slt_ok (C := C) hok hlen ha hn0 hclk
  unfold VS.wrt
  split
  · exact h0.mono (by omega) (Nat.le_refl _)
  · rename_i he
    have he : (V.slt C a).2.1 = 0 := by
      rcases Classical.em ((V.slt C a).2.1 = 0) with e | e
      · exact e
      · exact absurd e he
    split
    · exact (h0.sw 0 C.n0 (a : Int) v).mono (by omega) (Nat.le_refl _)
    · rename_i hneg
      rcases hso he with e2 | ⟨j, x, e2, hj, hx, hxv, hxb⟩
      · omega
      · rw [e2, Int.toNat_natCast, CS.at_eq hx]
        split
        · -- back
          have hsd := h0.ok.setD j x hx hxv true
          unfold CS.setD at hsd
          rw [CS.at_eq hx] at hsd
          have hb1 : Bd V ((V.slt C a).2.2.bc1 C j x).2 (2 * C.chunk + 3) 1 := by
            unfold VS.bc1
            split
            · exact h0.mono (by omega) (Nat.le_refl _)
            · have h1 := h0.st (C := C) j { x with dirty := true } hsd
              exact bnd_cases (P := fun V' => Bd V V' (2 * C.chunk + 3) 1) h1 (fun _ => h1.fl 2)
          unfold VS.bck
          refine bnd_cases (P := fun V' => Bd V V' (2 * C.chunk + 5) 1) (hb1.mono (by omega) (Nat.le_refl _)) (fun _ => ?_)
          exact (hb1.sw 1 C.n1 ((j * C.chunk + a % C.chunk : Nat) : Int) v).mono (by omega) (Nat.le_refl _)
        · -- through
          have h1 : Bd V ((V.slt C a).2.2.wr0 C a v) (2 * C.chunk + 3) 1 := h0.sw 0 C.n0 (a : Int) v
          have h2 : Bd V (((V.slt C a).2.2.wr0 C a v).wr1 C ((j * C.chunk + a % C.chunk : Nat) : Int) v) (2 * C.chunk + 4) 1 := h1.sw 1 C.n1 ((j * C.chunk + a % C.chunk : Nat) : Int) v
          unfold VS.thr
          split
          · exact (h1.lose (C := C) j).mono (by omega) (Nat.le_refl _)
          · split
            · exact (h2.lose (C := C) j).mono (by omega) (Nat.le_refl _)
            · exact h2.mono (by omega) (Nat.le_refl _)
end
theorem ZR.fmt {C : VC} {S : DS} (h : NF C S) (hst : ∀ i, i < 3 → Stl S i) (ws : List Nat) (K : Nat) (hK : 1 ≤ K ∧ K ≤ 1024) (hc : 1 ≤ C.chunk ∧ C.chunk ≤ 64) (h2 : S.now 2 = fmtW ws K (C.chunk : Int)) (hl : ws.length = K + 1) (hn2 : C.n2 = K + 1) (hn1 : K * C.chunk ≤ C.n1) :
    ZR C S (okT ((S.now 0).map Sec.start)) := by
  obtain ⟨o1, o2, o3, o4⟩ := open_fmt ws K (C.chunk : Int) hK (by omega) (by omega)
  obtain ⟨g1, g2, g3, g4, g5, g6⟩ := hdI_fields K (C.chunk : Int) 0 false (by omega) (by omega) (by omega)
  have hk : opK (S.now 2) = K := by unfold opK; rw [h2, o2]; exact g2
  have hCc : opC (S.now 2) = C.chunk := by unfold opC; rw [h2, o2]; exact Int.ofNat.inj g3
  have hsl : slotsU (S.now 2) (opK (S.now 2)) = List.replicate K Sl.nil := by rw [hk, h2]; exact o3
  have hget : ∀ {j : Nat} {y : Sl}, (List.replicate K Sl.nil)[j]? = some y → y.valid = false := by
    intro j y hy
    have := (List.getElem?_replicate.symm.trans hy)
    split at this
    · injection this with this
      rw [← this]; rfl
    · cases this
  refine ⟨h, hst, by rw [h2]; exact o1, hCc.symm, by rw [hk, hCc]; omega, ?_, by rw [hk]; exact hn2, ?_, ?_⟩
  · rw [hsl]
    unfold badS
    rw [List.any_eq_false]
    intro y hy
    obtain ⟨j, hj⟩ := List.mem_iff_getElem?.1 hy
    rw [hget hj]
    simp
  · intro j y i hy _ hv
    rw [hsl] at hy
    rw [hget hy] at hv
    cases hv
  · intro a v ha hv
    rcases hv with ⟨j, z, hz, hzv, -⟩ | ⟨-, hn⟩
    · rw [List.getElem?_map] at hz
      rw [hsl] at hz
      rcases hy : (List.replicate K Sl.nil)[j]? with _ | y
      · rw [hy] at hz; cases hz
      · rw [hy] at hz
        injection hz with hz
        subst hz
        have := hget hy
        obtain ⟨e1, -⟩ := kept_valid hzv
        rw [e1, this] at hzv
        cases hzv
    · exact ⟨Sec.start v, by rw [List.getElem?_map, hn]; rfl, List.mem_singleton.2 rfl⟩
end Go.Proofs.YtogchafnnkajfaaGreat
namespace Go.Proofs.YtogchafnnkajfaaGreat
set_option linter.unusedVariables false
def RV.clnF (c : Nat) : Nat → RV → Nat → Int × RV
  | 0, R, i => ((i : Int), R)
  | m + 1, R, i => if R.x.oldest < 0 then ((i : Int), R) else RV.clnF c m (R.back c R.x.oldest.toNat true) (i + 1)
def RV.frF : Nat → RV → Nat → RV
  | 0, R, _ => R
  | m + 1, R, k => if (R.x.at_ k).valid = true then RV.frF m (R.free k) (k + 1) else RV.frF m R (k + 1)
def RV.dtc (c : Nat) (R : RV) : RV := RV.frF (RV.clnF c R.x.sl.length R 0).2.x.sl.length (RV.clnF c R.x.sl.length R 0).2 0
def RV.clos (c : Nat) (mode : Int) (R : RV) : RV := { R with m := R.m.set 0 (hdI R.x.sl.length (c : Int) mode false) }
def anyT : Nat → Nat → Prop := fun _ _ => True
structure PY (C : VC) (V : VS) (R : RV) (n : Nat) : Prop where
  dn : V.S.down = false
  fu : V.S.fuse = 0
  vi : VI C V.S V.x.sl V.pm anyT
  vw : view V = R
  ok : V.x.Ok
  len : V.x.sl.length = V.ss.length
  clo : V.closed = false
  stk : V.stuck = false
  log : V.S.log.length ≤ n
  wr : V.S.wr ≤ n
  clk : V.x.clk ≤ n
section
variable {C : VC} {V : VS} {R : RV} {n : Nat}
theorem PY.mono (h : PY C V R n) {m : Nat} (hm : n ≤ m) : PY C V R m := ⟨h.dn, h.fu, h.vi, h.vw, h.ok, h.len, h.clo, h.stk, by have := h.log; omega, by have := h.wr; omega, by have := h.clk; omega⟩
theorem VI.any {S : DS} {sl : List Sl} {pm : Bool} {ok : Nat → Nat → Prop} (h : VI C S sl pm ok) : VI C S sl pm anyT := h.mono (fun _ _ _ _ => trivial)
theorem PY.x (h : PY C V R n) : V.x = R.x := by rw [← h.vw]; rfl
theorem PY.lens (h : PY C V R n) : R.o.length = C.n0 ∧ R.f.length = C.n1 ∧ R.m.length = C.n2 := by
  rw [← h.vw]
  exact h.vi.k.lens
theorem bnd_stk {p : Int × VS} {f : VS → Int × VS} {s : Bool} (hp : p.2.stuck = s) (hf : ∀ V, V.stuck = s → (f V).2.stuck = s) : (bnd p f).2.stuck = s := by
  unfold bnd
  split
  · exact hf _ hp
  · exact hp
theorem free_stk (k : Nat) : (V.freeV C k).stuck = V.stuck := by
  unfold VS.freeV
  split <;> rfl
theorem p7_stk (k b : Nat) (x : Sl) : (V.p7 C k x b).2.stuck = V.stuck := by
  have h1 : (V.p1 C k x).2.stuck = V.stuck := by unfold VS.p1; split <;> rfl
  have h2 : (V.p2 C k x).2.stuck = V.stuck := bnd_stk h1 (fun V' h => by
    split
    · exact (free_stk k).trans h
    · exact h)
  have h3 : (V.p3 C k x).2.stuck = V.stuck := bnd_stk h2 (fun V' h => h)
  have h4 : (V.p4 C k x b).2.stuck = V.stuck := bnd_stk h3 (fun V' h => h)
  have h5 : (V.p5 C k x b).2.stuck = V.stuck := bnd_stk h4 (fun V' h => h)
  have h6 : (V.p6 C k x b).2.stuck = V.stuck := bnd_stk h5 (fun V' h => h)
  exact bnd_stk h6 (fun V' h => h)
theorem slt_stk (a : Nat) : (V.slt C a).2.2.stuck = V.stuck := by
  unfold VS.slt
  split
  · rfl
  · split
    · rfl
    · split
      · rfl
      · exact p7_stk _ _ _
theorem PY.read (h : PY C V R n) {a : Nat} (ha : a < C.n0) (hn0 : C.n0 ≤ 65536) (hn : n ≤ 1000000) :
    (V.rdR C a).2 = 0 ∧ (V.rdR C a).1 = (R.read C.chunk a).1 ∧ PY C (V.slt C a).2.2 (R.read C.chunk a).2 (n + 2 * C.chunk + 2) := by
  have hck : V.x.clk < 1099511627776 := by have := h.clk; omega
  have hb := Bd.slt (C := C) h.ok h.len ha hn0 hck
  rcases rd_ou h.vi h.dn h.ok h.len hck ha hn0 with ⟨r1, r2, r3, r4, r5, r6, r7, -, r8⟩ | ⟨r1, -⟩
  · rw [h.vw] at r5 r6
    have hpm : (V.slt C a).2.2.pm = V.pm := hb.pm
    refine ⟨r1, r5, r2, r3 h.fu, by rw [hpm]; exact r4, r6, hb.ok, hb.len, by rw [hb.clo]; exact h.clo, by rw [slt_stk]; exact h.stk, ?_, ?_, ?_⟩
    · have := hb.log; have := h.log; omega
    · have := hb.wr; have := h.wr; omega
    · have := hb.clk; have := h.clk; omega
  · exact absurd h.fu r1
theorem PY.write (h : PY C V R n) {a v : Nat} (ha : a < C.n0) (hn0 : C.n0 ≤ 65536) (hn : n ≤ 1000000) :
    (V.wrt C a v).1 = 0 ∧ PY C (V.wrt C a v).2 (R.write C.chunk V.pm a v) (n + 2 * C.chunk + 5) ∧ (V.wrt C a v).2.pm = V.pm := by
  have hck : V.x.clk < 1099511627776 := by have := h.clk; omega
  have hb := Bd.wrt (C := C) (v := v) h.ok h.len hck ha hn0
  rcases wrt_ou (a := a) (v := v) h.vi rfl h.dn h.ok h.len hck ha hn0 with ⟨r1, r2, r3, r4, r5, -⟩ | ⟨r1, -⟩
  · rw [h.vw] at r5
    have hpm : (V.wrt C a v).2.pm = V.pm := hb.pm
    refine ⟨r1, ⟨r2, r3 h.fu, by rw [hpm]; exact r4.any, r5, hb.ok, hb.len, by rw [hb.clo]; exact h.clo, ?_, ?_, ?_, ?_⟩, hpm⟩
    · -- no slot is lost
      rcases slt_ou h.vi h.dn h.ok ha hn0 with ⟨h0, h1, h2, h3, h4, h5, h6⟩ | ⟨h0, -⟩
      · have hs := slt_stk (C := C) (V := V) a
        rw [h.stk] at hs
        have hso := slt_ok (C := C) h.ok h.len ha hn0 hck h0
        have hf0 := h2 h.fu
        unfold VS.wrt
        rw [if_neg (fun e => e h0)]
        generalize V.slt C a = q at *
        obtain ⟨qk, qe, qV⟩ := q
        dsimp only at *
        rcases hso with rfl | ⟨j, x, rfl, hj, hx, hxv, hxb⟩
        · rw [if_pos (by omega)]
          exact hs
        · rw [if_neg (by omega), Int.toNat_natCast, CS.at_eq hx]
          split
          · unfold VS.bck
            refine bnd_stk ?_ (fun V' h => h)
            unfold VS.bc1
            split
            · exact hs
            · exact bnd_stk hs (fun V' h => h)
          · have hfs := h3.k.fast hx (i := a % C.chunk) (blk_at a C.chunk h3.k.ch).2
            rcases wr_out h3.k.hea h1 (i := 0) (n := C.n0) rfl a v ha with ⟨w1, w2, w3, w4⟩ | ⟨w0, -⟩
            · rcases wr_out w4.hea w2 (i := 1) (n := C.n1) rfl (j * C.chunk + a % C.chunk) v hfs with ⟨u1, -⟩ | ⟨u0, -⟩
              · unfold VS.thr
                rw [if_neg (fun e => e w1), if_neg (fun e => e u1)]
                exact hs
              · exact absurd (w3 hf0) u0
            · exact absurd hf0 w0
      · exact absurd h.fu h0
    · have := hb.log; have := h.log; omega
    · have := hb.wr; have := h.wr; omega
    · have := hb.clk; have := h.clk; omega
  · exact absurd h.fu r1
theorem PY.flush (h : PY C V R n) : V.flE = 0 ∧ PY C V.flV R n := by
  obtain ⟨f1, f2, f3, f4, f5, f6, f7, f8⟩ := fls_ou h.vi h.dn
  have l1 := flush_log V.S 1
  have l2 := flush_log (V.S.flush 1) 2
  have l3 := flush_log ((V.S.flush 1).flush 2) 0
  refine ⟨f1, f2, f3.trans h.fu, f8, f5.trans h.vw, h.ok, h.len, h.clo, h.stk, ?_, ?_, h.clk⟩
  · show (((V.S.flush 1).flush 2).flush 0).log.length ≤ n
    have := h.log
    omega
  · show (((V.S.flush 1).flush 2).flush 0).wr ≤ n
    have := h.wr
    omega
theorem PY.cl (h : PY C V R n) (ho : ¬ R.x.oldest < 0) :
    V.clE C V.x.oldest.toNat (V.x.at_ V.x.oldest.toNat).block.toNat (V.x.at_ V.x.oldest.toNat) = 0 ∧ PY C (V.clV C V.x.oldest.toNat (V.x.at_ V.x.oldest.toNat).block.toNat (V.x.at_ V.x.oldest.toNat)) (R.back C.chunk R.x.oldest.toNat true) (n + C.chunk + 1) ∧ (V.clV C V.x.oldest.toNat (V.x.at_ V.x.oldest.toNat).block.toNat (V.x.at_ V.x.oldest.toNat)).pm = V.pm := by
  rw [← h.x] at ho ⊢
  obtain ⟨k, x, hk, hx, hxd, hxv⟩ := oldest_at h.ok ho
  rw [hk, Int.toNat_natCast, CS.at_eq hx]
  have hb := (Bd.refl h.ok h.len).cl (C := C) k x.block.toNat x hx hxv
  rcases clean_ou h.vi h.dn hx hxv hxd with ⟨r0, r1, r2, r3, r4, r5, -⟩ | ⟨r0, -⟩
  · dsimp only at r0 r1 r2 r3 r4 r5
    refine ⟨r0, ⟨r1, r2 h.fu, by rw [hb.pm]; exact r3, by rw [r4, h.vw], hb.ok, hb.len, by rw [hb.clo]; exact h.clo, ?_, ?_, ?_, ?_⟩, hb.pm⟩
    · rw [show (V.clV C k x.block.toNat x).stuck = V.stuck by unfold VS.clV; split; rfl; split <;> rfl]
      exact h.stk
    · have := hb.log; have := h.log; omega
    · have := hb.wr; have := h.wr; omega
    · have := hb.clk; have := h.clk; omega
  · exact absurd h.fu r0
def dirtN (l : List Sl) : Nat := l.countP (fun x => x.dirty)
theorem dirtN_set {l : List Sl} {k : Nat} {x : Sl} (hx : l[k]? = some x) (hd : x.dirty = true) : dirtN (l.set k { x with dirty := false }) + 1 = dirtN l := by
  obtain ⟨hk, e⟩ := List.getElem?_eq_some_iff.1 hx
  unfold dirtN
  rw [List.countP_set (h := hk)]
  have h1 : 0 < l.countP (fun x => x.dirty) := List.countP_pos_iff.2 ⟨x, List.mem_of_getElem? hx, hd⟩
  simp [e, hd]
  omega
theorem dirtN_zero {l : List Sl} (h : dirtN l = 0) : ∀ x ∈ l, x.dirty = false := by
  intro x hx
  have := List.countP_eq_zero.1 h x hx
  simpa using this
theorem dirtN_old {s : CS} (h : s.oldest < 0) : dirtN s.sl = 0 := by
  have hr := leastTo_range (fun x => x.dirty) s.sl s.sl.length (Nat.le_refl _)
  have hm : leastTo (fun x => x.dirty) s.sl s.sl.length = -1 := by
    rcases hr with e | ⟨e, -⟩
    · exact e
    · exact absurd h (by show ¬ leastTo (fun x => x.dirty) s.sl s.sl.length < 0; omega)
  have hn := leastTo_no (fun x => x.dirty) s.sl s.sl.length (Nat.le_refl _) hm
  refine List.countP_eq_zero.2 (fun x hx => ?_)
  obtain ⟨j, hj⟩ := List.mem_iff_getElem?.1 hx
  have := hn j x (List.getElem?_eq_some_iff.1 hj).1 hj
  simpa using this
theorem PY.clnF (m : Nat) : ∀ {V : VS} {R : RV} {n : Nat}, PY C V R n → ∀ i, (VS.clnF C m V i).1 = (RV.clnF C.chunk m R i).1 ∧ (VS.clnF C m V i).2.1 = 0 ∧ PY C (VS.clnF C m V i).2.2 (RV.clnF C.chunk m R i).2 (n + m * (C.chunk + 1)) ∧ (VS.clnF C m V i).2.2.pm = V.pm ∧ dirtN (RV.clnF C.chunk m R i).2.x.sl ≤ dirtN R.x.sl - m := by
  induction m with
  | zero => intro V R n h i; exact ⟨rfl, rfl, h.mono (by omega), rfl, Nat.le_refl _⟩
  | succ m ih =>
    intro V R n h i
    rw [VS.clnF, RV.clnF]
    have hxe := h.x
    by_cases ho : R.x.oldest < 0
    · rw [if_pos ho, if_pos (by rw [hxe]; exact ho)]
      have := dirtN_old ho
      exact ⟨rfl, rfl, h.mono (by omega), rfl, by show dirtN R.x.sl ≤ _; omega⟩
    · rw [if_neg ho, if_neg (by rw [hxe]; exact ho)]
      obtain ⟨c0, c1, c2⟩ := h.cl ho
      rw [if_neg (fun e => e c0)]
      obtain ⟨i1, i2, i3, i4, i5⟩ := ih c1 (i + 1)
      refine ⟨i1, i2, i3.mono (by rw [Nat.add_mul]; omega), i4.trans c2, ?_⟩
      have hok := h.ok
      rw [hxe] at hok
      obtain ⟨k, x, hk, hx, hxd, hxv⟩ := oldest_at hok ho
      have : dirtN (R.back C.chunk R.x.oldest.toNat true).x.sl + 1 = dirtN R.x.sl := by
        rw [hk, Int.toNat_natCast]
        show dirtN (R.x.sl.set k { R.x.at_ k with dirty := false }) + 1 = _
        rw [CS.at_eq hx]
        exact dirtN_set hx hxd
      omega
theorem PY.frF (m : Nat) : ∀ {V : VS} {R : RV} {n : Nat}, PY C V R n → (∀ x ∈ R.x.sl, x.dirty = false) → ∀ k, k + m = R.x.sl.length → (VS.frF C m V k).1 = 0 ∧ PY C (VS.frF C m V k).2 (RV.frF m R k) (n + m) ∧ (VS.frF C m V k).2.pm = V.pm := by
  induction m with
  | zero => intro V R n h hc k hk; exact ⟨rfl, h, rfl⟩
  | succ m ih =>
    intro V R n h hc k hk
    rw [VS.frF, RV.frF]
    have hxe := h.x
    rw [hxe]
    obtain ⟨x, hx⟩ : ∃ x, R.x.sl[k]? = some x := ⟨_, List.getElem?_eq_getElem (by omega)⟩
    rw [CS.at_eq hx]
    by_cases hv : x.valid = true
    · rw [if_pos hv, if_pos hv]
      have hb := (Bd.refl h.ok h.len).fr (C := C) k
      have hx' : V.x.sl[k]? = some x := by rw [hxe]; exact hx
      rcases free_ou h.vi h.dn hx' (Eqs.clean h.vi hx' (hc x (List.mem_of_getElem? hx))) with ⟨r0, r1, r2, r3, r4, -⟩ | ⟨r0, -⟩
      · dsimp only at r0 r1 r2 r3 r4
        rw [if_neg (fun e => e r0)]
        have h1 : PY C (V.freeV C k) (R.free k) (n + 1) := ⟨r1, r2 h.fu, by rw [hb.pm]; exact r3, by rw [r4, h.vw], hb.ok, hb.len, by rw [hb.clo]; exact h.clo, by rw [free_stk]; exact h.stk, by have := hb.log; have := h.log; omega, by have := hb.wr; have := h.wr; omega, by have := hb.clk; have := h.clk; omega⟩
        obtain ⟨i1, i2, i3⟩ := ih h1 (by
          intro y hy
          rcases List.mem_or_eq_of_mem_set (show y ∈ R.x.sl.set k nilS from hy) with hy | rfl
          · exact hc y hy
          · rfl) (k + 1) (by show _ = (R.x.sl.set k nilS).length; rw [List.length_set]; omega)
        exact ⟨i1, i2.mono (by omega), i3.trans hb.pm⟩
      · exact absurd h.fu r0
    · rw [if_neg hv, if_neg hv]
      obtain ⟨i1, i2, i3⟩ := ih h hc (k + 1) (by omega)
      exact ⟨i1, i2.mono (by omega), i3⟩
theorem RV.clnF_len (c : Nat) (m : Nat) : ∀ (R : RV) (i : Nat), (RV.clnF c m R i).2.x.sl.length = R.x.sl.length := by
  induction m with
  | zero => intro R i; rfl
  | succ m ih =>
    intro R i
    rw [RV.clnF]
    split
    · rfl
    · rw [ih]
      show (List.set _ _ _).length = _
      rw [List.length_set]
theorem dirtN_le (l : List Sl) : dirtN l ≤ l.length := List.countP_le_length
theorem PY.detach (h : PY C V R n) : (V.dtc C).1 = 0 ∧ PY C (V.dtc C).2 (R.dtc C.chunk) (n + R.x.sl.length * (C.chunk + 2)) ∧ (V.dtc C).2.pm = V.pm := by
  have hxe := h.x
  obtain ⟨c1, c2, c3, c4, c5⟩ := PY.clnF V.x.sl.length h 0
  rw [hxe] at c1 c2 c3 c4 c5
  unfold VS.dtc RV.dtc
  rw [hxe, bnd_ok c2]
  have hx1 := c3.x
  have hl := RV.clnF_len C.chunk R.x.sl.length R 0
  have hd := dirtN_le R.x.sl
  generalize VS.clnF C R.x.sl.length V 0 = q at *
  obtain ⟨q1, q2, V1⟩ := q
  dsimp only at *
  obtain ⟨f1, f2, f3⟩ := PY.frF V1.x.sl.length c3 (dirtN_zero (by omega)) 0 (by rw [hx1]; omega)
  rw [bnd_ok f1]
  rw [hx1] at f1 f2 f3 ⊢
  have f2n := f2
  generalize VS.frF C (RV.clnF C.chunk R.x.sl.length R 0).2.x.sl.length V1 0 = g at *
  obtain ⟨g1, V2⟩ := g
  dsimp only at *
  obtain ⟨e1, e2, e3, e4, e5⟩ := fl_out f2.vi.k.hea f2.dn (i := 0) (n := C.n0) rfl
  have lg := flush_log V2.S 0
  have hm : R.x.sl.length * (C.chunk + 2) = R.x.sl.length * (C.chunk + 1) + R.x.sl.length := by rw [show C.chunk + 2 = (C.chunk + 1) + 1 by omega, Nat.mul_add R.x.sl.length (C.chunk + 1) 1, Nat.mul_one]
  refine ⟨e1, ⟨e2, e3.trans f2.fu, f2.vi.shr e4, ?_, f2.ok, f2.len, f2.clo, f2.stk, ?_, ?_, ?_⟩, f3.trans c4⟩
  · rw [← f2.vw]
    unfold view
    dsimp only
    rw [show ((0 : Int)) = ((0 : Nat) : Int) from rfl, e4.now, e4.now, e4.now]
  · have := f2.log
    show (V2.S.flush 0).log.length ≤ _
    omega
  · have := f2.wr
    show (V2.S.flush 0).wr ≤ _
    omega
  · have := f2.clk
    show V2.x.clk ≤ _
    omega
theorem PY.close (h : PY C V R n) : V.flE = 0 ∧ V.flV.S.chkF 2 = 0 ∧ (V.flV.S.flush 2).firstR 2 C.n2 (hdI V.ss.length (C.chunk : Int) V.md false) = 0 ∧ view (V.closV C) = R.clos C.chunk V.md ∧ (V.closV C).x = R.x ∧ (V.closV C).closed = true ∧ NF C (V.closV C).S ∧ (∀ i, i < 3 → Stl (V.closV C).S i) := by
  obtain ⟨f1, h1⟩ := h.flush
  obtain ⟨-, -, -, -, -, -, f7, -⟩ := fls_ou h.vi h.dn
  obtain ⟨e1, e2, e3, e4, e5⟩ := fl_out h1.vi.k.hea h1.dn (i := 2) (n := C.n2) rfl
  have hN : NF C (V.flV.S.flush ((2 : Nat) : Int)) := ⟨e4.hea, e2, e3.trans h1.fu⟩
  have h2 := h.vi.k.n2
  obtain ⟨g1, g2, g3, g4, g5, g6, g7⟩ := hN.first (by omega) (hdI V.ss.length (C.chunk : Int) V.md false)
  refine ⟨f1, e1, g1, ?_, h.x, rfl, g2, ?_⟩
  · have v0 : V.flV.S.now 0 = R.o := congrArg RV.o h1.vw
    have v1 : V.flV.S.now 1 = R.f := congrArg RV.f h1.vw
    have v2 : V.flV.S.now 2 = R.m := congrArg RV.m h1.vw
    unfold view RV.clos VS.closV
    dsimp only
    rw [show V.flV.S.flush 2 = V.flV.S.flush ((2 : Nat) : Int) from rfl, g3, g4, g5, e4.now, e4.now, e4.now, v0, v1, v2, ← h.len]
    rw [h.x]
    exact congrArg (fun q => RV.mk _ _ _ q) h.x
  · intro i hi
    by_cases e : i = 2
    · subst e; exact g6
    · exact (g7 i e).1 ((f7 i hi).shr e4)
end
end Go.Proofs.YtogchafnnkajfaaGreat
namespace Go.Proofs.YtogchafnnkajfaaGreat
set_option linter.unusedVariables false
open Go.RowKit
theorem own_cs_ne {w : World} {base size n g c b : Nat} {e t : TypeId} {xs : List Value} {cs : Array Value} (h : w.ownsRow base e size (.slice (some ⟨g, 0, none⟩) n c) n xs) (hc : Cs w b t cs) (ht : e ≠ t) : g ≠ b := by
  intro e1
  subst e1
  rcases h.2 with ⟨h2, _⟩ | ⟨g', cap, cur, h2, _, hb, _⟩
  · cases h2
  · injection h2 with h2
    injection h2 with h2
    injection h2 with h2
    unfold Cs at hc
    rw [h2, hb] at hc
    injection hc with hc
    injection hc with _ hc
    exact ht hc
end Go.Proofs.YtogchafnnkajfaaGreat
namespace Go.Proofs.YtogchafnnkajfaaGreat
set_option linter.unusedVariables false
open Go.RowKit
attribute [local go_sem] Oper.semAt_some
theorem d_read (k p : Nat) (W : World) : Sem.run Tryz.prog (method (k + 1) 39 (.pointer (some ⟨p, 0, none⟩)) "Read") W = .ok (22, .pointer (some ⟨p, 0, none⟩)) W := by kernel_rfl
theorem d_write (k p : Nat) (W : World) : Sem.run Tryz.prog (method (k + 1) 39 (.pointer (some ⟨p, 0, none⟩)) "Write") W = .ok (31, .pointer (some ⟨p, 0, none⟩)) W := by kernel_rfl
theorem d_flush (k p : Nat) (W : World) : Sem.run Tryz.prog (method (k + 1) 39 (.pointer (some ⟨p, 0, none⟩)) "Flush") W = .ok (34, .pointer (some ⟨p, 0, none⟩)) W := by kernel_rfl
theorem d_nila (k p : Nat) (W : World) : Sem.run Tryz.prog (nilAhead (k + 1) 39 (.pointer (some ⟨p, 0, none⟩)) "Write") W = .ok (some false) W := by kernel_rfl
theorem d_size (k p : Nat) (W : World) : Sem.run Tryz.prog (method (k + 1) 39 (.pointer (some ⟨p, 0, none⟩)) "Size") W = .ok (46, .pointer (some ⟨p, 0, none⟩)) W := by kernel_rfl
section
variable {B n L ga fO : Nat} {oa : Array Value} {D : World → (Nat → Prop) → List Sec → Bool → Nat → Nat → Prop} {Z : World → (Nat → Prop) → List Sec → Nat → Prop} {w : World} {F G : Nat → Prop} {t : List Sec} {k : Bool} {c p tb : Nat}
set_option maxRecDepth 100000 in
set_option maxHeartbeats 4000000 in
attribute [local go_sem] d_read in
end
end Go.Proofs.YtogchafnnkajfaaGreat
namespace Go.Proofs.YtogchafnnkajfaaGreat
set_option linter.unusedVariables false
open Go.RowKit
attribute [local go_sem] Oper.semAt_some d_read d_write d_flush d_size
theorem own_ge {w : World} {base size n : Nat} {e : TypeId} {v : Value} {xs : List Value} (h : w.ownsRow base e size v n xs) (b : Nat) (hb : v.ownBlock = some b) : base ≤ b := by
  rcases h.2 with ⟨rfl, _⟩ | ⟨g, cap, cur, rfl, hg, _⟩
  · simp [Value.ownBlock] at hb
  · obtain rfl : g = b := by simpa [Value.ownBlock] using hb
    exact hg
end Go.Proofs.YtogchafnnkajfaaGreat
namespace Go.Proofs.YtogchafnnkajfaaGreat
set_option linter.unusedVariables false
open Go.RowKit
attribute [local go_sem] Oper.semAt_some m_write m_read m_flush m_size
theorem VolIn.meta_ {W : World} {Fc Fv : Nat → Prop} {C : VC} {V : VS} {A B : Option Addr} {c d : Nat} (h : VolIn W Fc Fv C V A c B d) : ∃ A' c', Cs W C.m 160 #[spanV C.s2, .slice A' V.ss.length c', .int .i64 (C.chunk : Int), .int .i64 V.md, .bool V.op] := by
  obtain ⟨F, A', c', h⟩ := h.cache
  exact ⟨A', c', h.meta_⟩
set_option maxRecDepth 100000 in
set_option maxHeartbeats 8000000 in
theorem vbegin_any (W : World) (Fv : Nat → Prop) (C : VC) (V : VS) (mode : Int) (h : VolAt W Fv C V) (hnb : NB C V) (hm : mode = 1 ∨ mode = 2) (n : Nat) (hN : V.x.sl.length = n)
    (hch : C.chunk ≤ 127) (hn0 : C.n0 ≤ 65536) (hn1 : C.n1 ≤ 65536) (hn2 : C.n2 ≤ 65536) (hlog : V.S.log.length + n * (C.chunk + 2) + C.chunk < 999980) (hwr : V.S.wr + (n * (C.chunk + 2) : Nat) + C.chunk ≤ 999980) :
    Calls Tryz.prog 60 #[.pointer (some ⟨C.v, 0, none⟩), .int .i64 mode] W (VolP W Fv C (.int .i64 0) (V.bgn C mode)) := by
  have hln := hnb.ok.len
  rw [hN] at hln
  have HNB := Lib.hid hnb
  have HN := Lib.hid hN
  have hZ : n * (C.chunk + 2) = n * (C.chunk + 1) + n := by rw [show C.chunk + 2 = (C.chunk + 1) + 1 by omega, Nat.mul_add n (C.chunk + 1) 1, Nat.mul_one]
  rw [hZ] at hlog hwr
  have HMK : Hid (∀ k, k < n → k * (C.chunk + 1) + (C.chunk + 1) ≤ n * (C.chunk + 1)) := fun k hk => by
    have := Nat.mul_le_mul_right (C.chunk + 1) (show k + 1 ≤ n by omega)
    rwa [Nat.add_mul, Nat.one_mul] at this
  generalize hY : n * (C.chunk + 1) = Y at *
  have HYY := Lib.hid hY
  clear hY
  have HLW : Hid (V.S.log.length + (Y + n) + C.chunk < 999980 ∧ V.S.wr + (Y + n : Nat) + C.chunk ≤ 999980) := ⟨hlog, hwr⟩
  have HMD := Lib.hid hm
  obtain ⟨Fc, A, c, B, d, h⟩ := h
  obtain ⟨bR, rfl⟩ := h.form (by omega)
  obtain ⟨Am, cm, hmt⟩ := h.meta_
  obtain ⟨c0, c1, c2, c3, c4, c5, c6, c7, c8, c9⟩ := h.cells
  rw [hN] at c1
  have H0 := Lib.hid h
  have HCA := Lib.hid (clean_any W C.m _ _ _ _ _ hmt)
  clear h hnb hN hlog hwr hm hmt hZ c1 c2 c3 c4 c5 c6 c7 c8 c9
  go_enter Tryz.func60, Tryz.ntmps60
  go_upto_if 18 with (go_at_call 111; refine HCA.out.mono ?_; rintro e w1 ⟨rfl, rfl⟩)
  go_cut [] (fun wx => ∃ Fv', VolAtR wx Fv' C (V.bgA C) (some ⟨bR, 0, none⟩) c ∧ Turn Fv Fv' W wx)
  case first =>
    rcases hop : V.op with _ | _
    · have HE : Hid (V.bgA C = V) := by show _ = _; unfold VS.bgA; rw [hop]; rfl
      clear hop
      go_wp2_with fail
      go_meet
      case rel => exact ⟨Fv, by rw [HE.out]; exact ⟨_, _, _, H0.out⟩, Turn.refl _ _⟩
    · have HE : Hid (V.bgA C = { V.bg1 C n with S := (V.bg1 C n).S.flush 2 }) := by show _ = _; unfold VS.bgA; rw [hop, if_pos rfl, HN.out]
      obtain ⟨-, c1, -, -, -, -, -, -, -, -⟩ := H0.out.cells
      rw [HN.out] at c1
      clear hop
      go_wp2_with fail
      clear c1 c0
      go_loopw [26] (fun z wr => ∃ (k : Nat) (Fv' : Nat → Prop), z = .int .i64 k ∧ k ≤ n ∧ VolAtR wr Fv' C (V.bg1 C k) (some ⟨bR, 0, none⟩) c ∧ Turn Fv Fv' W wr) (fun z _ => n - (intOf z).toNat)
      case atStart => exact ⟨0, Fv, rfl, Nat.zero_le _, ⟨_, _, _, H0.out⟩, Turn.refl _ _⟩
      case round =>
        clear H0 HCA
        obtain ⟨k, Fv', rfl, hk, hv, ht⟩ := hrel
        obtain ⟨i1, i2, i3, i4⟩ := HNB.out.bg1 k (by rw [HN.out]; exact hk)
        have HI := Lib.hid i1
        have HT := Lib.hid ht
        have hbl := i4.log
        have hbw := i4.wr
        have hmd := i4.md
        have hlw := HLW.out
        have hsl : (V.bg1 C k).x.sl.length = n := by rw [i3, HN.out]
        have hss : n = (V.bg1 C k).ss.length := by rw [← hsl]; exact i1.len
        have hst : V.bg1 C (k + 1) = if gone V.md ((V.bg1 C k).x.at_ k) = true then (V.bg1 C k).setV C k nilS else V.bg1 C k := rfl
        generalize hVk : V.bg1 C k = Vk at *
        by_cases hlt : k < n
        · have u1 : (k : Int) < (n : Int) := by omega
          have e1 : IntKind.i64.wrap ((k : Int) + 1) = ((k + 1 : Nat) : Int) := by rw [IntWalk.i64_in _ (by omega)]; rfl
          obtain ⟨x, hx⟩ : ∃ x, Vk.x.sl[k]? = some x := ⟨_, List.getElem?_eq_getElem (by omega)⟩
          rw [CS.at_eq hx] at hst
          have HST := Lib.hid hst
          obtain ⟨Fc, B, d, h⟩ := hv.tight
          obtain ⟨p0, p1, p2, p3⟩ := h.slotC hx
          have hb0 : Below wr.heap.size wr (wr.alloc (.cells #[.bool x.valid, .bool x.dirty, .int .i64 x.block, .int .i64 x.stamp] 31)) := (Below.refl _ wr).alloc (Nat.le_refl _) _
          have hC0 := Cs.new wr 31 #[.bool x.valid, .bool x.dirty, .int .i64 x.block, .int .i64 x.stamp]
          have HX := Lib.hid hx
          have HSL := Lib.hid hsl
          have HSS := Lib.hid hss
          have HMDV := Lib.hid hmd
          have H := Lib.hid h
          clear hst hv ht h hx hsl hss i1 i2 i3 i4 hVk hmd
          go_upto_region 5 with (fail)
          clear p0 p1 p2 p3
          have HX2 := Lib.hid (H.out.keep hb0)
          have HT2 := Lib.hid (HT.out.trans (Turn.of_below (F := Fv') hb0))
          clear hb0 H HT
          obtain ⟨t, ht⟩ : ∃ t, wr.heap.size = t := ⟨_, rfl⟩
          rw [ht] at hC0 ⊢
          generalize (wr.alloc (.cells #[.bool x.valid, .bool x.dirty, .int .i64 x.block, .int .i64 x.stamp] 31)) = w2 at *
          have y0 : w2.cell? ⟨t, 0, none⟩ = some (.bool x.valid) := hC0.cell 0
          have y1 : w2.cell? ⟨t, 1, none⟩ = some (.bool x.dirty) := hC0.cell 1
          clear hC0 ht
          obtain ⟨Am2, cm2, hmt2⟩ := HX2.out.meta_
          obtain ⟨c0, -, -, -, -, -, -, -, -, -⟩ := HX2.out.cells
          have HMO := Lib.hid (mode_any w2 C.m _ _ _ _ _ hmt2)
          rw [HMDV.out] at HMO
          clear hmt2
          have HSE := Lib.hid (vsetR_any w2 _ C Vk k nilS _ _ ⟨_, _, _, HX2.out.fv (fun j hj => hj.1)⟩ (by rw [HSL.out]; exact HSS.out) (by rw [← HSS.out]; omega) (by rw [← HSS.out]; omega) (by unfold nilS; dsimp only; omega) (fun _ => ⟨rfl, rfl⟩) hn2 (by omega) (by omega))
          rw [(HI.out.nf.st k (by have := HI.out.n2; rw [HSL.out] at this; omega) nilS).1] at HSE
          unfold Sl.v nilS at HSE
          unfold nilS at HST
          clear HI hbl hbw hlw
          rcases hv : x.valid with _ | _
          · have HG : Hid (V.bg1 C (k + 1) = Vk) := HST.out.trans (if_neg (by unfold gone; rw [hv]; simp))
            rw [hv] at y0
            clear HST HSE hv
            go_wp2_with fail
            go_roundw
            case rel => exact ⟨k + 1, Fv', by go_num, by omega, by rw [HG.out]; exact ⟨_, _, _, HX2.out.fv (fun j hj => hj.1)⟩, HT2.out⟩
            case measure => simp [intOf]; omega
          · by_cases hm1 : V.md = 1
            · have HG : Hid (V.bg1 C (k + 1) = Vk.setV C k nilS) := HST.out.trans (if_pos (by unfold gone; rw [hv, hm1]; simp))
              rw [hv] at y0
              have q1 : (V.md != 1) = false := by simpa using hm1
              clear HST hv hm1
              go_upto_region 6 with (go_at_call 112; refine HMO.out.mono ?_; rintro e wz ⟨rfl, rfl⟩)
              clear y0 y1
              go_upto_region 7 with (go_at_call 113; refine HSE.out.mono ?_; rintro e w3 ⟨rfl, Fv3, hv3, ht3⟩; have HV3 := Lib.hid hv3; have HT3 := Lib.hid (HT2.out.trans ht3); clear hv3 ht3)
              go_wp2_with fail
              go_roundw
              case rel => exact ⟨k + 1, Fv3, by go_num, by omega, by rw [HG.out]; exact HV3.out, HT3.out⟩
              case measure => simp [intOf]; omega
            · have q1 : (V.md != 1) = true := by simpa using hm1
              rcases hd : x.dirty with _ | _
              · have HG : Hid (V.bg1 C (k + 1) = Vk.setV C k nilS) := HST.out.trans (if_pos (by unfold gone; rw [hv, hd]; simp))
                rw [hv] at y0
                rw [hd] at y1
                clear HST hv hm1 hd
                go_upto_region 6 with (go_at_call 112; refine HMO.out.mono ?_; rintro e wz ⟨rfl, rfl⟩)
                clear y0 y1
                go_upto_region 7 with (go_at_call 113; refine HSE.out.mono ?_; rintro e w3 ⟨rfl, Fv3, hv3, ht3⟩; have HV3 := Lib.hid hv3; have HT3 := Lib.hid (HT2.out.trans ht3); clear hv3 ht3)
                go_wp2_with fail
                go_roundw
                case rel => exact ⟨k + 1, Fv3, by go_num, by omega, by rw [HG.out]; exact HV3.out, HT3.out⟩
                case measure => simp [intOf]; omega
              · have HG : Hid (V.bg1 C (k + 1) = Vk) := HST.out.trans (if_neg (by unfold gone; rw [hv, hd]; simp [hm1]))
                rw [hv] at y0
                rw [hd] at y1
                clear HST HSE hv hm1 hd
                go_wp2_with (go_at_call 112; refine HMO.out.mono ?_; rintro e wz ⟨rfl, rfl⟩)
                go_roundw
                case rel => exact ⟨k + 1, Fv', by go_num, by omega, by rw [HG.out]; exact ⟨_, _, _, HX2.out.fv (fun j hj => hj.1)⟩, HT2.out⟩
                case measure => simp [intOf]; omega
        · have hkn : k = n := by omega
          have u1 : ¬ (k : Int) < (n : Int) := by omega
          obtain ⟨Fc, B, d, h⟩ := hv
          obtain ⟨c0, -, -, -, -, -, -, -, -, -⟩ := h.cells
          have HX := Lib.hid h
          have HFL := Lib.hid (cmflush_any wr Fc C.g C.s2 C.m C.n2 Vk.S Vk.ss (C.chunk : Int) Vk.md Vk.op h.cache (by omega))
          obtain ⟨-, -, hfz⟩ := i1.fl
          rw [hfz] at HFL
          have HE2 : Hid (V.bgA C = { Vk with S := Vk.S.flush 2 }) := by
            show _ = _
            rw [HE.out, ← hVk, hkn]
          clear h ht hst hsl hss i1 i2 i3 i4 hVk hmd hkn hbl hbw hlw hfz
          go_wp2_with (go_at_call 64; refine HFL.out.mono ?_; rintro e w3 ⟨rfl, Fc3, hc3, ht3⟩; have HX3 := Lib.hid (HX.out.turn hc3 ht3); have HT3 := Lib.hid (HT.out.trans (HX.out.wide ht3)); clear hc3 ht3)
          go_meet
          case rel => exact ⟨_, by rw [HE2.out]; exact ⟨_, _, _, HX3.out⟩, HT3.out⟩
  case rest =>
    obtain ⟨Fv1, hv1, ht1⟩ := hcut
    obtain ⟨a1, a2, a3, a4⟩ := HNB.out.bgA
    have HA1 := Lib.hid a1
    have HA4 := Lib.hid a4
    have HSL : Hid ((V.bgA C).x.sl.length = n) := by show _ = _; rw [a3, HN.out]
    have HE1 : Hid (V.bgB C mode = if mode = 1 then (V.bgA C).bg3 C (V.bgA C).x.sl.length else V.bgA C) := rfl
    generalize V.bgA C = V1 at *
    rw [HSL.out] at HE1
    have HV1 := Lib.hid hv1
    have HT1 := Lib.hid ht1
    clear hv1 ht1 a1 a2 a3 a4 H0 HCA c0
    have hbB := HNB.out.bgB mode
    have HBB := Lib.hid hbB
    clear hbB
    go_upto_if 65 with (fail)
    go_cut [] (fun wx => ∃ Fv', VolAt wx Fv' C (V.bgB C mode) ∧ Turn Fv Fv' W wx)
    case first =>
      rcases HMD.out with rfl | rfl
      · have HE2 : Hid (V.bgB C 1 = V1.bg3 C n) := HE1.out.trans (if_pos rfl)
        obtain ⟨Fc, B, d, h⟩ := HV1.out
        obtain ⟨-, c1, -, -, -, -, -, -, -, -⟩ := h.cells
        rw [HSL.out] at c1
        clear HE1 h
        go_wp2_with fail
        clear c1
        go_loopw [73] (fun z wr => ∃ (k : Nat) (Fv' : Nat → Prop), z = .int .i64 k ∧ k ≤ n ∧ VolAtR wr Fv' C (V1.bg3 C k) (some ⟨bR, 0, none⟩) c ∧ Turn Fv Fv' W wr) (fun z _ => n - (intOf z).toNat)
        case atStart => exact ⟨0, Fv1, rfl, Nat.zero_le _, HV1.out, HT1.out⟩
        case round =>
          clear HV1 HT1
          obtain ⟨k, Fv', rfl, hk, hv, ht⟩ := hrel
          obtain ⟨i1, i2, i3, i4⟩ := HA1.out.bg3 k (by rw [HSL.out]; exact hk)
          have HI := Lib.hid i1
          have HT := Lib.hid ht
          have hbl := (HA4.out.trans i4).log
          have hbw := (HA4.out.trans i4).wr
          rw [HN.out] at hbl hbw
          have hlw := HLW.out
          have hmk := HMK.out k
          have hsl : (V1.bg3 C k).x.sl.length = n := by rw [i3, HSL.out]
          have hss : n = (V1.bg3 C k).ss.length := by rw [← hsl]; exact i1.len
          have hst : V1.bg3 C (k + 1) = if ((V1.bg3 C k).x.at_ k).dirty = true then (V1.bg3 C k).clV C k ((V1.bg3 C k).x.at_ k).block.toNat ((V1.bg3 C k).x.at_ k) else V1.bg3 C k := rfl
          generalize hVk : V1.bg3 C k = Vk at *
          by_cases hlt : k < n
          · have hmk := hmk hlt
            have u1 : (k : Int) < (n : Int) := by omega
            have e1 : IntKind.i64.wrap ((k : Int) + 1) = ((k + 1 : Nat) : Int) := by rw [IntWalk.i64_in _ (by omega)]; rfl
            obtain ⟨x, hx⟩ : ∃ x, Vk.x.sl[k]? = some x := ⟨_, List.getElem?_eq_getElem (by omega)⟩
            rw [CS.at_eq hx] at hst
            have HST := Lib.hid hst
            obtain ⟨Fc, B, d, h⟩ := hv.tight
            obtain ⟨p0, p1, p2, p3⟩ := h.slotC hx
            have hb0 : Below wr.heap.size wr (wr.alloc (.cells #[.bool x.valid, .bool x.dirty, .int .i64 x.block, .int .i64 x.stamp] 31)) := (Below.refl _ wr).alloc (Nat.le_refl _) _
            have hC0 := Cs.new wr 31 #[.bool x.valid, .bool x.dirty, .int .i64 x.block, .int .i64 x.stamp]
            have HX := Lib.hid hx
            have HSL2 := Lib.hid hsl
            have HSS := Lib.hid hss
            have H := Lib.hid h
            clear hst hv ht h hx hsl hss i1 i2 i3 i4 hVk
            go_upto_region 17 with (fail)
            clear p0 p1 p2 p3
            have HX2 := Lib.hid (H.out.keep hb0)
            have HT2 := Lib.hid (HT.out.trans (Turn.of_below (F := Fv') hb0))
            clear hb0 H HT
            obtain ⟨t, ht⟩ : ∃ t, wr.heap.size = t := ⟨_, rfl⟩
            rw [ht] at hC0 ⊢
            generalize (wr.alloc (.cells #[.bool x.valid, .bool x.dirty, .int .i64 x.block, .int .i64 x.stamp] 31)) = w2 at *
            have y1 : w2.cell? ⟨t, 1, none⟩ = some (.bool x.dirty) := hC0.cell 1
            clear hC0 ht
            rcases hd : x.dirty with _ | _
            · have HG : Hid (V1.bg3 C (k + 1) = Vk) := HST.out.trans (if_neg (by rw [hd]; simp))
              rw [hd] at y1
              clear HST hd
              go_wp2_with fail
              go_roundw
              case rel => exact ⟨k + 1, Fv', by go_num, by omega, by rw [HG.out]; exact ⟨_, _, _, HX2.out.fv (fun j hj => hj.1)⟩, HT2.out⟩
              case measure => simp [intOf]; omega
            · have HG : Hid (V1.bg3 C (k + 1) = Vk.clV C k x.block.toNat x) := HST.out.trans (if_pos hd)
              have hv := HI.out.dirty HX.out hd
              have hbb := (HI.out.ok.blk x (List.mem_of_getElem? HX.out) hv).1
              have hkn2 : 1 + k < C.n2 := by have := HI.out.n2; rw [HSL2.out] at this; omega
              obtain ⟨z1, -⟩ := HI.out.nf.cl HX.out hkn2 (HI.out.fast HX.out) (HI.out.wh k x HX.out hv)
              have HCL := Lib.hid (vcleanR_any w2 _ C Vk k x.block.toNat x _ _ ⟨_, _, _, HX2.out.fv (fun j hj => hj.1)⟩ HX.out (by omega) hv (by rw [HSL2.out]; exact HSS.out) (by rw [← HSS.out]; omega) (by omega) hch hn0 hn1 hn2 (by omega) (by omega))
              rw [z1] at HCL
              rw [hd] at y1
              clear HST hd hv hbb z1 HI hbl hbw hlw hmk
              generalize Vk.clV C k x.block.toNat x = V2 at *
              go_upto_region 19 with (go_at_call 86; refine HCL.out.mono ?_; rintro e w3 ⟨rfl, Fv3, hv3, ht3⟩; have HV3 := Lib.hid hv3; have HT3 := Lib.hid (HT2.out.trans ht3); clear hv3 ht3)
              clear y1
              go_wp2_with fail
              go_roundw
              case rel => exact ⟨k + 1, Fv3, by go_num, by omega, by rw [HG.out]; exact HV3.out, HT3.out⟩
              case measure => simp [intOf]; omega
          · have hkn : k = n := by omega
            have u1 : ¬ (k : Int) < (n : Int) := by omega
            have HE3 : Hid (V.bgB C 1 = Vk) := by
              show _ = _
              rw [HE2.out, ← hVk, hkn]
            have HV := Lib.hid hv.at_
            clear hv ht hst hsl hss i1 i2 i3 i4 hVk hkn hbl hbw hlw hmk HI
            go_wp2_with fail
            go_meet
            case rel => exact ⟨Fv', by rw [HE3.out]; exact HV.out, HT.out⟩
      · have HE2 : Hid (V.bgB C 2 = V1) := HE1.out.trans (if_neg (by decide))
        go_wp2_with fail
        go_meet
        case rel => exact ⟨Fv1, by rw [HE2.out]; exact HV1.out.at_, HT1.out⟩
    case rest =>
      clear HV1 HT1
      obtain ⟨Fv2, hv2, ht2⟩ := hcut
      obtain ⟨b1, b2, b3, b4⟩ := HBB.out
      have HEB : Hid (V.bgn C mode = { V.bgB C mode with S := (V.bgB C mode).S.first 2 C.n2 (hdI (V.bgB C mode).ss.length (C.chunk : Int) mode true), md := mode, op := true }) := rfl
      obtain ⟨f1, -⟩ := b1.nf.first (by have := b1.n2; omega) (hdI (V.bgB C mode).ss.length (C.chunk : Int) mode true)
      have hbl := b4.log
      have hbw := b4.wr
      rw [HN.out, show C.chunk + 2 = (C.chunk + 1) + 1 by omega, Nat.mul_add n (C.chunk + 1) 1, Nat.mul_one] at hbl hbw
      have hlw := HLW.out
      have hYY := HYY.out
      have hss : (V.bgB C mode).ss.length = n := by rw [← b1.len, b3, HN.out]
      generalize V.bgB C mode = V2 at *
      obtain ⟨Fc, A, c', B, d, h⟩ := hv2
      obtain ⟨c0, -, -, -, -, -, -, -, -, -⟩ := h.cells
      have HX := Lib.hid h
      have HT := Lib.hid ht2
      have hn2p : 1 ≤ C.n2 := by have := b1.n2; omega
      have HBG := Lib.hid (cbeginK wc Fc C.g C.s2 C.m C.n2 V2.S V2.ss (C.chunk : Int) V2.md mode V2.op h.cache HMD.out f1 hn2p hn2 (by rw [hss]; omega) (by omega) (by omega))
      clear h ht2 b1 b2 b3 b4 hbl hbw hlw hss hYY f1
      go_wp2_with (go_at_call 114; refine HBG.out.mono ?_; rintro e w3 ⟨rfl, Fc3, hc3, ht3⟩; have HX3 := Lib.hid (HX.out.turn hc3 ht3); have HT3 := Lib.hid (HT.out.trans (HX.out.wide ht3)); clear hc3 ht3)
      go_ret
      refine ⟨rfl, _, ?_, HT3.out⟩
      rw [HEB.out]
      exact ⟨_, _, _, _, _, HX3.out⟩
end Go.Proofs.YtogchafnnkajfaaGreat
namespace Go.Proofs.YtogchafnnkajfaaGreat
set_option linter.unusedVariables false
open Go.RowKit
attribute [local go_sem] Oper.semAt_some m_write m_read m_flush m_size
def fnR : Value → Option (DataW Unit × List MemPlace)
  | .func (.func n) a b => if a.size = 0 ∧ b.size = 0 then some (.lit (.int .i64 (n : Int)), []) else none
  | _ => some (.lit (.bool false), [])
theorem fnR_inv {v : Value} {n : Nat} {ps : List MemPlace} (h : fnR v = some (.lit (.int .i64 (n : Int)), ps)) : v = .func (.func n) #[] #[] := by
  unfold fnR at h
  split at h
  · rename_i m a b
    split at h
    · rename_i hs
      obtain ⟨h1, h2⟩ := hs
      rw [Array.size_eq_zero_iff] at h1 h2
      subst h1
      subst h2
      simp only [Option.some.injEq, Prod.mk.injEq, DataW.lit.injEq, Lit.int.injEq, true_and] at h
      have : m = n := Int.ofNat.inj h.1
      subst this
      rfl
    · cases h
  · injection h with h
    injection h with h
    injection h with h
    cases h
def ModesD : DataW Unit := (((DataW.map []).put (.int .i64 1) (.lit (.int .i64 ((101 : Nat) : Int)))).put (.int .i64 2) (.lit (.int .i64 ((102 : Nat) : Int))))
def MoP (W : World) (e : Ending) (w : World) : Prop := e = .returned (.map (some W.heap.size)) ∧ w.ownsMap Tryz.prog 3 fnR W.heap.size 2 ModesD ∧ Below W.heap.size W w
set_option maxHeartbeats 1000000 in
theorem modes_any (W : World) : Calls Tryz.prog 56 #[] W (MoP W) := by
  have hmm := @run_makeMap Tryz.prog
  obtain ⟨W2, hr2, ho2, hg2⟩ := (World.ownsMap_made W Tryz.prog 3 fnR).update (t := 103) (Maps.int_keyed Tryz.underlying3) Tryz.underlying103 (by unfold maxLen; omega) (Maps.keyOf_int_mk Tryz.underlying3 (i64_wf 1 (by omega))) (val := .func (.func 101) #[] #[]) (d := .lit (.int .i64 ((101 : Nat) : Int))) (ps := []) rfl
  obtain ⟨W3, hr3, ho3, hg3⟩ := ho2.update (t := 103) (Maps.int_keyed Tryz.underlying3) Tryz.underlying103 (by unfold maxLen; omega) (Maps.keyOf_int_mk Tryz.underlying3 (i64_wf 2 (by omega))) (val := .func (.func 102) #[] #[]) (d := .lit (.int .i64 ((102 : Nat) : Int))) (ps := []) rfl
  have hb : Below W.heap.size W W3 := (((Below.refl _ W).alloc (Nat.le_refl _) (.map #[] 0)).grown hg2 (by simp) (fun j e => by injection e with e; omega)).grown hg3 (by have := hg2.size; simp at this; omega) (fun j e => by injection e with e; omega)
  have HB := Lib.hid hb
  have HO := Lib.hid ho3
  clear hg2 hg3 ho2 ho3 hb
  go_enter Tryz.func56, Tryz.ntmps56
  go_wp2_with fail
  go_ret
  exact ⟨rfl, HO.out, HB.out⟩
end Go.Proofs.YtogchafnnkajfaaGreat
namespace Go.Proofs.YtogchafnnkajfaaGreat
set_option linter.unusedVariables false
open Go.RowKit
attribute [local go_sem] Oper.semAt_some m_write m_read m_flush m_size
theorem zero_fn (w : World) : (zeroValue 99).run Tryz.prog w = .ok .nilFunc w := by kernel_rfl
theorem modes_look (w : World) (b : Nat) (h : w.ownsMap Tryz.prog 3 fnR b 2 ModesD) (mode : Int) (hm : mode = 1 ∨ mode = 2) :
    (Instr.lookup 103 (.map (some b)) (.int .i64 mode) true).run Tryz.prog w = .ok (.tuple #[putV (decide (mode = 2)), .bool true]) w := by
  have key : ∀ (n : Nat) (mode : Int), ModesD.atKey (.int .i64 mode) (.lit (.bool false)) = .lit (.int .i64 (n : Int)) → Maps.has ModesD (.int .i64 mode) = true → -9223372036854775808 ≤ mode ∧ mode ≤ 9223372036854775807 →
      (Instr.lookup 103 (.map (some b)) (.int .i64 mode) true).run Tryz.prog w = .ok (.tuple #[.func (.func n) #[] #[], .bool true]) w := by
    intro n mode h1 h2 hb
    obtain ⟨v, ps, hrun, hv⟩ := h.look_ok (Maps.int_keyed Tryz.underlying3) Tryz.underlying103 (zero_fn w) (zd := .lit (.bool false)) (zp := []) rfl (Maps.keyOf_int_mk Tryz.underlying3 (i64_wf mode hb))
    rw [h1] at hv
    rw [fnR_inv hv, h2] at hrun
    exact hrun
  rcases hm with rfl | rfl
  · exact key _ 1 rfl rfl (by omega)
  · exact key _ 2 rfl rfl (by omega)
theorem modes_none (w : World) (b : Nat) (h : w.ownsMap Tryz.prog 3 fnR b 2 ModesD) (mode : Int) (h1 : mode ≠ 1) (h2 : mode ≠ 2) (hb : -9223372036854775808 ≤ mode ∧ mode ≤ 9223372036854775807) :
    ∃ v, (Instr.lookup 103 (.map (some b)) (.int .i64 mode) true).run Tryz.prog w = .ok (.tuple #[v, .bool false]) w := by
  obtain ⟨v, ps, hrun, hv⟩ := h.look_ok (Maps.int_keyed Tryz.underlying3) Tryz.underlying103 (zero_fn w) (zd := .lit (.bool false)) (zp := []) rfl (Maps.keyOf_int_mk Tryz.underlying3 (i64_wf mode hb))
  have hh : Maps.has ModesD (.int .i64 mode) = false := by
    unfold ModesD
    rw [Maps.has_put_other (by intro e; injection e with _ e; exact h2 e), Maps.has_put_other (by intro e; injection e with _ e; exact h1 e)]
    rfl
  rw [hh] at hrun
  exact ⟨v, hrun⟩
def OpnP (W : World) (F0 : Nat → Prop) (g s0 s1 s2 n0 n1 n2 : Nat) (S : DS) (mode : Int) (e : Ending) (w : World) : Prop :=
  (opnE (S.now 2) n0 n1 mode ≠ 0 ∧ e = .returned (.tuple #[.pointer none, .int .i64 (opnE (S.now 2) n0 n1 mode)]) ∧ ∃ F', Turn F0 F' W w) ∨
  (opnE (S.now 2) n0 n1 mode = 0 ∧ ∃ m v Fv', e = .returned (.tuple #[.pointer (some ⟨v, 0, none⟩), .int .i64 0]) ∧ VolAt w Fv' ⟨g, s0, s1, s2, m, v, n0, n1, n2, opC (S.now 2)⟩ ((opn0 S mode).bgn ⟨g, s0, s1, s2, m, v, n0, n1, n2, opC (S.now 2)⟩ mode) ∧ Turn F0 Fv' W w)
set_option maxRecDepth 100000 in
set_option maxHeartbeats 8000000 in
theorem vopen_any (W : World) (F F0 : Nat → Prop) (g s0 s1 s2 n0 n1 n2 : Nat) (S : DS) (mode : Int) (h : DskAt W F g S) (hs0 : SpanAt W s0 g 0 n0) (hs1 : SpanAt W s1 g 1 n1) (hs2 : SpanAt W s2 g 2 n2) (hf : ∀ j, F j → F0 j) (hf0 : F0 s0) (hf1 : F0 s1) (hf2 : F0 s2) (hF0 : ¬ F s0) (hF1 : ¬ F s1) (hF2 : ¬ F s2) (h02 : s0 ≠ s2) (h12 : s1 ≠ s2)
    (hea : Hea S [n0, n1, n2]) (hdn : S.down = false) (hfu : S.fuse = 0) (hw : W64 (S.now 2)) (hn0 : n0 ≤ 65536) (hn1 : n1 ≤ 65536) (hn2 : n2 ≤ 65536) (hn2' : 1 ≤ n2) (hlog : S.log.length ≤ 700000) (hwr : S.wr ≤ 700000) (hmo : -9223372036854775808 ≤ mode ∧ mode ≤ 9223372036854775807) :
    Calls Tryz.prog 24 #[spanV s0, spanV s1, spanV s2, .int .i64 mode] W (OpnP W F0 g s0 s1 s2 n0 n1 n2 S mode) := by
  have HMD := Lib.hid (modes_any W)
  have HD := Lib.hid h
  have HS0 := Lib.hid hs0
  have HS1 := Lib.hid hs1
  have HS2 := Lib.hid hs2
  have HNF : Hid (∀ c, NF ⟨g, s0, s1, s2, c, c, n0, n1, n2, c⟩ S) := fun c => ⟨hea, hdn, hfu⟩
  have HL2 : Hid ((S.now 2).length = n2) := (hea.nn 2 n2 rfl).1
  have HE : Hid (opnE (S.now 2) n0 n1 mode = if mode ≠ 1 ∧ mode ≠ 2 then 1 else if openE (S.now 2) ≠ 0 then openE (S.now 2) else if n1 < opK (S.now 2) * opC (S.now 2) then 3 else if badS (slotsU (S.now 2) (opK (S.now 2))) (n0 / opC (S.now 2)) = true then 24 else 0) := rfl
  have HF : Hid (∀ j, F j → F0 j) := hf
  have HW64 := Lib.hid hw
  clear h hs0 hs1 hs2 hf hea hdn hfu hw
  unfold spanV
  go_enter Tryz.func24, Tryz.ntmps24
  by_cases hm : mode ≠ 1 ∧ mode ≠ 2
  · have HE1 : Hid (opnE (S.now 2) n0 n1 mode = 1) := HE.out.trans (if_pos hm)
    go_upto_region 2 with (go_at_call 56; refine HMD.out.mono ?_; rintro e w1 ⟨rfl, ho1, hb1⟩; have HB1 := Lib.hid hb1; obtain ⟨vz, hlk⟩ := modes_none w1 _ ho1 mode hm.1 hm.2 hmo; clear ho1 hb1)
    go_wp2_with fail
    go_ret2
    refine .inl ?_
    rw [HE1.out]
    exact ⟨by decide, rfl, F0, Turn.of_below HB1.out⟩
  · have HE1 := Lib.hid (HE.out.trans (if_neg hm))
    have hm12 : mode = 1 ∨ mode = 2 := by
      by_cases e1 : mode = 1
      · exact .inl e1
      · by_cases e2 : mode = 2
        · exact .inr e2
        · exact absurd ⟨e1, e2⟩ hm
    have HM := Lib.hid hm12
    obtain ⟨N, hN⟩ : ∃ N : Nat, (if decide (mode = 2) = true then 102 else 101) = N := ⟨_, rfl⟩
    have HN : Hid (putV (decide (mode = 2)) = .func (.func N) #[] #[]) := by show _ = _; unfold putV; rw [hN]
    clear hm hm12 HE hN
    go_upto_region 4 with (go_at_call 56; refine HMD.out.mono ?_; rintro e w1 ⟨rfl, ho1, hb1⟩; have HB1 := Lib.hid hb1; have hlk := modes_look w1 _ ho1 mode HM.out; rw [HN.out] at hlk; clear ho1 hb1)
    have HD1 := Lib.hid (HD.out.keep HB1.out)
    have HS01 := Lib.hid (Cs.below HS0.out HB1.out HS0.out.lt)
    have HS11 := Lib.hid (Cs.below HS1.out HB1.out HS1.out.lt)
    have HS21 := Lib.hid (Cs.below HS2.out HB1.out HS2.out.lt)
    have HOP := Lib.hid (openK w1 F g s2 n2 (S.now 2) S HD1.out HS21.out hF2 ((HNF.out 0).fl (i := 2) (n := n2) rfl).1 (by
      intro a h1 h2
      obtain ⟨-, hN, hs, -⟩ := (HNF.out 0).fl (i := 2) (n := n2) rfl
      have := (rd_out hN.hea hN.dn (i := 2) (n := n2) rfl a.toNat (by omega)).1
      rw [show ((a.toNat : Nat) : Int) = a by omega] at this
      exact this) (by
      intro a h1 h2
      obtain ⟨-, hN, hs, -⟩ := (HNF.out 0).fl (i := 2) (n := n2) rfl
      have := (rd_out hN.hea hN.dn (i := 2) (n := n2) rfl a.toNat (by omega)).2
      rw [show ((a.toNat : Nat) : Int) = a by omega, hs.now] at this
      rw [this]
      rfl) HL2.out hn2' hn2 HW64.out (by omega))
    unfold spanV at HOP
    clear hlk HMD
    go_wp2_with fail
    refine HOP.out.mono ?_
    rintro e w2 ⟨F2, hd2, ht2, ⟨hne, rfl⟩ | ⟨hz, m, base, rfl, hWm, hmb, hFm, hMt⟩⟩
    · have HE2 : Hid (opnE (S.now 2) n0 n1 mode = openE (S.now 2)) := HE1.out.trans (if_pos hne)
      have HT2 := Lib.hid ((Turn.of_below (F := F0) HB1.out).trans (turn_wide HF.out ht2))
      have hq : (openE (S.now 2) != 0) = true := by simpa using hne
      clear HE1 hd2 ht2 HOP HS01 HS11 HS21 HD1
      go_wp2_with fail
      go_ret2
      refine .inl ?_
      rw [HE2.out]
      exact ⟨hne, rfl, _, HT2.out⟩
    · obtain ⟨Am, cm, hC, hrow⟩ := hMt
      obtain ⟨o1, o2, o3, o4, o5⟩ := open_cs (S.now 2) hz
      have HE2 : Hid (opnE (S.now 2) n0 n1 mode = if n1 < opK (S.now 2) * opC (S.now 2) then 3 else if badS (slotsU (S.now 2) (opK (S.now 2))) (n0 / opC (S.now 2)) = true then 24 else 0) := HE1.out.trans (if_neg (fun e => e hz))
      have hC : Cs w2 m 160 #[spanV s2, .slice Am (slotsU (S.now 2) (opK (S.now 2))).length cm, .int .i64 (opC (S.now 2) : Int), .int .i64 (opM (S.now 2)), .bool (opO (S.now 2))] := hC
      have hrow : w2.ownsRow base 31 4 (.slice Am (slotsU (S.now 2) (opK (S.now 2))).length cm) (slotsU (S.now 2) (opK (S.now 2))).length (scs (slotsU (S.now 2) (opK (S.now 2)))) := hrow
      have HNB : Hid (∀ v, ¬ n1 < opK (S.now 2) * opC (S.now 2) → badS (slotsU (S.now 2) (opK (S.now 2))) (n0 / opC (S.now 2)) = false → NB ⟨g, s0, s1, s2, m, v, n0, n1, n2, opC (S.now 2)⟩ (opn0 S mode)) := fun v h1 h2 => opn_nb (C := ⟨g, s0, s1, s2, m, v, n0, n1, n2, opC (S.now 2)⟩) ⟨(HNF.out 0).hea, (HNF.out 0).dn, (HNF.out 0).fu⟩ hz rfl h1 h2
      have HO0 : Hid (opn0 S mode = ⟨S.flush 2, ⟨slotsU (S.now 2) (opK (S.now 2)), 0, []⟩, slotsU (S.now 2) (opK (S.now 2)), opM (S.now 2), opO (S.now 2), decide (mode = 2), false, false⟩) := rfl
      have hl := slotsU_length (S.now 2) (opK (S.now 2))
      have hln := o1.len
      change 1 ≤ (slotsU (S.now 2) (opK (S.now 2))).length ∧ (slotsU (S.now 2) (opK (S.now 2))).length ≤ 1024 at hln
      have hblk : ∀ (k : Nat) (x : Sl), (slotsU (S.now 2) (opK (S.now 2)))[k]? = some x → x.valid = true → 0 ≤ x.block ∧ x.block ≤ 16777215 := fun k x hx hv => (o1.blk x (List.mem_of_getElem? hx) hv).1
      have hqz : (openE (S.now 2) != 0) = false := by simpa using hz
      have HBGN : Hid (∀ C : VC, (opn0 S mode).bgn C mode = (opn0 S mode).bgn C mode) := fun _ => rfl
      generalize slotsU (S.now 2) (opK (S.now 2)) = ss at *
      generalize hCE : opC (S.now 2) = ch at *
      have HCE := Lib.hid hCE
      clear hCE
      generalize opK (S.now 2) = K at *
      subst hl
      generalize hRE : opnE (S.now 2) n0 n1 mode = rE at *
      have HRE := Lib.hid hRE
      clear hRE
      generalize hVE : opn0 S mode = V0 at *
      have HVE0 := Lib.hid hVE
      clear hVE
      generalize opM (S.now 2) = md at *
      generalize opO (S.now 2) = op at *
      have HMB : Hid (w1.heap.size ≤ m ∧ m < base) := ⟨hWm, hmb⟩
      have hsz1 : W.heap.size ≤ w1.heap.size := HB1.out.size
      have hca : CacheAt w2 (fun j => F2 j ∨ j = s2 ∨ m ≤ j) g s2 m n2 (S.flush 2) ss (ch : Int) md op := by
        have h2m : s2 < m := Nat.lt_of_lt_of_le HS21.out.lt hWm
        refine ⟨F2, Am, cm, hd2, fun j hj => .inl hj, Cs.fr HS21.out ht2.1 hF2, ht2.out HS21.out.lt hF2, .inr (.inl rfl), by omega, fun e => by have := hFm _ e; omega, .inr (.inr (Nat.le_refl _)), hC, own_lower hrow (Nat.zero_le _), fun b hb => ?_⟩
        have hbb := (hrow.lt b hb).1
        exact ⟨fun e => by have := hFm _ e; omega, by omega, by omega, .inr (.inr (by omega))⟩
      have HCA := Lib.hid hca.tight
      have HFM := Lib.hid hFm
      have HS02 := Lib.hid (Cs.fr HS01.out ht2.1 hF0)
      have HS12 := Lib.hid (Cs.fr HS11.out ht2.1 hF1)
      have HNS : Hid (¬ (F2 s0 ∨ s0 = s2 ∨ m ≤ s0) ∧ ¬ (F2 s1 ∨ s1 = s2 ∨ m ≤ s1)) := by
        have q0 := HS01.out.lt
        have q1 := HS11.out.lt
        exact ⟨fun e => e.elim (ht2.out q0 hF0) (fun e => e.elim h02 (fun e => by omega)), fun e => e.elim (ht2.out q1 hF1) (fun e => e.elim h12 (fun e => by omega))⟩
      have HT2 := Lib.hid ((Turn.of_below (F := F0) HB1.out).trans (turn_wide HF.out ht2))
      have HCH := Lib.hid (chunk_any w2 m _ _ _ _ _ hC)
      have HC := Lib.hid hC
      have HROW := Lib.hid hrow
      have HLN := Lib.hid hln
      have HBLK := Lib.hid hblk
      have hml : m < w2.heap.size := hC.lt
      clear hca hFm ht2 hC hrow hln hblk hd2 HOP HS01 HS11 HS21 HD1 o1 o2 o5 HE1 hWm hmb hz HBGN
      go_upto_region 8 with (go_at_call 58; refine HCH.out.mono ?_; rintro e wz ⟨rfl, rfl⟩)
      have hCv := Cs.new w2 101 #[.pointer (some ⟨m, 0, none⟩), .slice none 0 0, .int .i64 0, .slice none 0 0, .int .i64 (ch : Int), .iface 176 (.pointer (some ⟨s0, 0, none⟩)), .iface 176 (.pointer (some ⟨s1, 0, none⟩)), .func (.func N) #[] #[], .bool false, .bool false]
      have hb3 : Below w2.heap.size w2 (w2.alloc (.cells #[.pointer (some ⟨m, 0, none⟩), .slice none 0 0, .int .i64 0, .slice none 0 0, .int .i64 (ch : Int), .iface 176 (.pointer (some ⟨s0, 0, none⟩)), .iface 176 (.pointer (some ⟨s1, 0, none⟩)), .func (.func N) #[] #[], .bool false, .bool false] 101)) := (Below.refl _ w2).alloc (Nat.le_refl _) _
      have HSZ3 : Hid ((w2.alloc (.cells #[.pointer (some ⟨m, 0, none⟩), .slice none 0 0, .int .i64 0, .slice none 0 0, .int .i64 (ch : Int), .iface 176 (.pointer (some ⟨s0, 0, none⟩)), .iface 176 (.pointer (some ⟨s1, 0, none⟩)), .func (.func N) #[] #[], .bool false, .bool false] 101)).heap.size = w2.heap.size + 1) := by show _ = _; simp
      obtain ⟨v, hv⟩ : ∃ v, w2.heap.size = v := ⟨_, rfl⟩
      have HVE := Lib.hid hv
      rw [hv] at hCv HSZ3 ⊢
      clear hv
      generalize (w2.alloc (.cells #[.pointer (some ⟨m, 0, none⟩), .slice none 0 0, .int .i64 0, .slice none 0 0, .int .i64 (ch : Int), .iface 176 (.pointer (some ⟨s0, 0, none⟩)), .iface 176 (.pointer (some ⟨s1, 0, none⟩)), .func (.func N) #[] #[], .bool false, .bool false] 101)) = w3 at *
      have HSL := Lib.hid (slots_any w3 base m cm ss.length Am ss _ _ _ _ rfl (HC.out.below hb3 (by rw [HVE.out]; have := hml; rw [HVE.out] at this; exact this)) (own_keepB HROW.out hb3) (by have := HLN.out; omega))
      have HCV := Lib.hid hCv
      have HB3 := Lib.hid hb3
      clear hCv hb3 HCH
      go_upto_region 9 with (go_at_call 59; refine HSL.out.mono ?_; rintro e w4 ⟨vs, rfl, hown4, hb4⟩; obtain ⟨A4, c4, hv4⟩ := own_form hown4; subst hv4; have HO4 := Lib.hid hown4; have HB4 := Lib.hid hb4; clear hown4 hb4)
      have HC4 := Lib.hid (HCV.out.below HB4.out HCV.out.lt)
      have HB24 := Lib.hid (HB3.out.trans (HB4.out.mono (by rw [HSZ3.out, HVE.out]; omega)))
      have HS03 := Lib.hid (Cs.below HS02.out HB24.out HS02.out.lt)
      have HS13 := Lib.hid (Cs.below HS12.out HB24.out HS12.out.lt)
      have HSQ1 : Hid (∀ q, Calls Tryz.prog 191 #[.pointer (some ⟨s1, 0, none⟩)] (w4.drewN q) fun e w' => e = .returned (.int .i64 (n1 : Int)) ∧ ∃ m, w' = (w4.drewN q).drewN m) := fun q => (ssize_any (w4.drewN q) s1 g 1 n1 HS13.out).mono fun e w' he => ⟨he.1, 0, he.2.symm⟩
      obtain ⟨-, -, -, -, c4c, -, -, -, -, -⟩ : w4.cell? ⟨v, 0, none⟩ = some (.pointer (some ⟨m, 0, none⟩)) ∧ w4.cell? ⟨v, 1, none⟩ = some (.slice none 0 0) ∧ w4.cell? ⟨v, 2, none⟩ = some (.int .i64 0) ∧ w4.cell? ⟨v, 3, none⟩ = some (.slice none 0 0) ∧ w4.cell? ⟨v, 4, none⟩ = some (.int .i64 (ch : Int)) ∧ True ∧ True ∧ True ∧ True ∧ True := ⟨HC4.out.cell 0, HC4.out.cell 1, HC4.out.cell 2, HC4.out.cell 3, HC4.out.cell 4, trivial, trivial, trivial, trivial, trivial⟩
      have hln := HLN.out
      have hmul : ss.length * ch ≤ 1024 * 64 := Nat.mul_le_mul (by omega) o4
      have em : IntKind.i64.wrap ((ss.length : Int) * (ch : Int)) = ((ss.length * ch : Nat) : Int) := by
        rw [← Int.natCast_mul]; exact IntWalk.i64_in _ (by omega)
      generalize hP : ss.length * ch = P at *
      clear HSL hP
      go_quiet ((go_at_call 191; exact Calls.quiet_of (HSQ1.out _)))
      have HB5 : Hid (Below w2.heap.size w2 (w4.drewN nq)) := below_drewN HB24.out nq
      have HC5 : Hid (Cs (w4.drewN nq) v 101 #[.pointer (some ⟨m, 0, none⟩), .slice none 0 0, .int .i64 0, .slice none 0 0, .int .i64 (ch : Int), .iface 176 (.pointer (some ⟨s0, 0, none⟩)), .iface 176 (.pointer (some ⟨s1, 0, none⟩)), .func (.func N) #[] #[], .bool false, .bool false]) := HC4.out
      have HO5 : Hid ((w4.drewN nq).ownsRow w3.heap.size 31 4 (.slice A4 ss.length c4) ss.length (scs ss)) := own_keepB HO4.out (below_drewN (Below.refl _ w4) nq)
      have HS05 : Hid (SpanAt (w4.drewN nq) s0 g 0 n0) := HS03.out
      have HS15 : Hid (SpanAt (w4.drewN nq) s1 g 1 n1) := HS13.out
      clear HSQ1 HC4 HB24 HS03 HS13 HO4 HB4 HC HROW HCV HB3 c4c em
      generalize w4.drewN nq = w5 at *
      by_cases h3 : n1 < P
      · have HE3 : Hid (rE = 3) := HE2.out.trans (if_pos h3)
        have u1 : (n1 : Int) < (P : Int) := by omega
        go_wp2_with fail
        go_ret2
        refine .inl ?_
        rw [HRE.out, HE3.out]
        exact ⟨by decide, rfl, _, HT2.out.trans (Turn.of_below HB5.out)⟩
      · have HE3 : Hid (rE = if badS ss (n0 / ch) = true then 24 else 0) := HE2.out.trans (if_neg h3)
        have HNB2 : Hid (badS ss (n0 / ch) = false → NB ⟨g, s0, s1, s2, m, v, n0, n1, n2, ch⟩ V0) := fun hb => HNB.out v h3 hb
        have u1 : ¬ (n1 : Int) < (P : Int) := by omega
        have e2 := div_wrap n0 ch (by omega)
        have hql := Nat.div_le_self n0 ch
        generalize n0 / ch = q at *
        have t0 : ¬ (ch : Int) = 0 := by omega
        have t0' : ¬ ch = 0 := by omega
        go_wp2_with fail
        clear HE2 HNB
        go_loopw [59] (fun z wr => ∃ i : Nat, z = .int .i64 i ∧ i ≤ ss.length ∧ (∀ (j : Nat) (x : Sl), j < i → ss[j]? = some x → x.valid = true → x.block < (q : Int)) ∧ Below w5.heap.size w5 wr) (fun z _ => ss.length - (intOf z).toNat)
        case atStart => exact ⟨0, rfl, Nat.zero_le _, fun j x hj => by omega, Below.refl _ _⟩
        case round =>
          obtain ⟨i, rfl, hi, hall, hbr⟩ := hrel
          have HALL := Lib.hid hall
          have HBR := Lib.hid hbr
          clear hall hbr
          by_cases hlt : i < ss.length
          · have u2 : (i : Int) < (ss.length : Int) := by omega
            have e1 : IntKind.i64.wrap ((i : Int) + 1) = ((i + 1 : Nat) : Int) := by rw [IntWalk.i64_in _ (by omega)]; rfl
            obtain ⟨x, hx⟩ : ∃ x, ss[i]? = some x := ⟨_, List.getElem?_eq_getElem hlt⟩
            have hrw := own_keepB HO5.out HBR.out
            obtain ⟨bR, oR, hA, hbl, hcs⟩ := scs_read (Reads.of_own hrw) (by omega)
            subst hA
            obtain ⟨p0, p1, p2, p3⟩ := hcs i x hx
            have hb6 : Below wr.heap.size wr (wr.alloc (.cells #[.bool x.valid, .bool x.dirty, .int .i64 x.block, .int .i64 x.stamp] 31)) := (Below.refl _ wr).alloc (Nat.le_refl _) _
            have hC6 := Cs.new wr 31 #[.bool x.valid, .bool x.dirty, .int .i64 x.block, .int .i64 x.stamp]
            have HX := Lib.hid hx
            clear hx hcs hrw
            go_upto_region 14 with (fail)
            clear p0 p1 p2 p3
            have HB6 := Lib.hid (HBR.out.trans (hb6.mono HBR.out.size))
            obtain ⟨t, ht⟩ : ∃ t, wr.heap.size = t := ⟨_, rfl⟩
            rw [ht] at hC6 ⊢
            clear ht hb6 HBR
            generalize (wr.alloc (.cells #[.bool x.valid, .bool x.dirty, .int .i64 x.block, .int .i64 x.stamp] 31)) = w6 at *
            have y0 : w6.cell? ⟨t, 0, none⟩ = some (.bool x.valid) := hC6.cell 0
            have y2 : w6.cell? ⟨t, 2, none⟩ = some (.int .i64 x.block) := hC6.cell 2
            clear hC6
            rcases hxv : x.valid with _ | _
            · rw [hxv] at y0
              have HN1 : Hid (∀ (j : Nat) (z : Sl), j < i + 1 → ss[j]? = some z → z.valid = true → z.block < (q : Int)) := by
                intro j z hj hz hzv
                by_cases e : j = i
                · subst e
                  rw [HX.out] at hz
                  injection hz with hz
                  subst hz
                  rw [hxv] at hzv
                  cases hzv
                · exact HALL.out j z (by omega) hz hzv
              clear hxv
              go_quiet (fail)
              clear y0 y2
              go_wp2_with fail
              go_roundw
              case rel => exact ⟨i + 1, by go_num, by omega, HN1.out, below_drewN HB6.out _⟩
              case measure => simp [intOf]; omega
            · rw [hxv] at y0
              have HS06 := Lib.hid (Cs.below HS05.out HB6.out HS05.out.lt)
              have HC6 := Lib.hid (HC5.out.below HB6.out HC5.out.lt)
              have y4 : w6.cell? ⟨v, 4, none⟩ = some (.int .i64 (ch : Int)) := HC6.out.cell 4
              have HSQ0 : Hid (∀ k, Calls Tryz.prog 191 #[.pointer (some ⟨s0, 0, none⟩)] (w6.drewN k) fun e w' => e = .returned (.int .i64 (n0 : Int)) ∧ ∃ m, w' = (w6.drewN k).drewN m) := fun k => (ssize_any (w6.drewN k) s0 g 0 n0 HS06.out).mono fun e w' he => ⟨he.1, 0, he.2.symm⟩
              by_cases hbq : (q : Int) ≤ x.block
              · have HE4 : Hid (rE = 24) := HE3.out.trans (if_pos (badS_yes HX.out hxv hbq))
                clear hxv
                go_quiet ((go_at_call 191; exact Calls.quiet_of (HSQ0.out _)))
                clear y0 y2 y4
                go_wp2_with fail
                go_ret2
                refine .inl ?_
                rw [HRE.out, HE4.out]
                exact ⟨by decide, rfl, _, HT2.out.trans (Turn.of_below (HB5.out.trans ((below_drewN HB6.out _).mono HB5.out.size)))⟩
              · have HN1 : Hid (∀ (j : Nat) (z : Sl), j < i + 1 → ss[j]? = some z → z.valid = true → z.block < (q : Int)) := by
                  intro j z hj hz hzv
                  by_cases e : j = i
                  · subst e
                    rw [HX.out] at hz
                    injection hz with hz
                    subst hz
                    omega
                  · exact HALL.out j z (by omega) hz hzv
                clear hxv
                go_quiet ((go_at_call 191; exact Calls.quiet_of (HSQ0.out _)))
                clear y0 y2 y4
                go_wp2_with fail
                go_roundw
                case rel => exact ⟨i + 1, by go_num, by omega, HN1.out, below_drewN HB6.out _⟩
                case measure => simp [intOf]; omega
          · have hin : i = ss.length := by omega
            have u2 : ¬ (i : Int) < (ss.length : Int) := by omega
            have hbF : badS ss q = false := by
              unfold badS
              rw [List.any_eq_false]
              intro x hx
              obtain ⟨j, hj⟩ := List.mem_iff_getElem?.1 hx
              rcases hv : x.valid with _ | _
              · simp
              · have := HALL.out j x (by have := (List.getElem?_eq_some_iff.1 hj).1; omega) hj hv
                simp
                omega
            have HE4 : Hid (rE = 0) := HE3.out.trans (if_neg (by rw [hbF]; simp))
            have HNB3 := Lib.hid (HNB2.out hbF)
            have HC6 := Lib.hid (HC5.out.below HBR.out HC5.out.lt)
            have HB6 := Lib.hid (HB5.out.trans (HBR.out.mono HB5.out.size))
            have HO6 := Lib.hid (own_keepB HO5.out HBR.out)
            have HS06 := Lib.hid (Cs.below HS05.out HBR.out HS05.out.lt)
            have HS16 := Lib.hid (Cs.below HS15.out HBR.out HS15.out.lt)
            have y1 : wr.cell? ⟨v, 1, none⟩ = some (.slice none 0 0) := HC6.out.cell 1
            have y2 : wr.cell? ⟨v, 2, none⟩ = some (.int .i64 0) := HC6.out.cell 2
            have y3 : wr.cell? ⟨v, 3, none⟩ = some (.slice none 0 0) := HC6.out.cell 3
            have f1 := HC6.out.free 1
            have f2 := HC6.out.free 2
            have f3 := HC6.out.free 3
            clear hin hbF HC5 HB5 HO5 HS05 HS15 HBR HALL HE3 HNB2 e2
            go_upto_region 18 with (fail)
            have hfS : Fr (fun j => j = v) wr (((wr.setCell ⟨v, 1, none⟩ (.slice A4 ss.length c4)).setCell ⟨v, 2, none⟩ (.int .i64 0)).setCell ⟨v, 3, none⟩ (.slice none 0 0)) := (((Fr.refl (fun j => j = v) wr).set (.inl rfl) _).set (.inl rfl) _).set (.inl rfl) _
            have hCF : Cs (((wr.setCell ⟨v, 1, none⟩ (.slice A4 ss.length c4)).setCell ⟨v, 2, none⟩ (.int .i64 0)).setCell ⟨v, 3, none⟩ (.slice none 0 0)) v 101 #[.pointer (some ⟨m, 0, none⟩), .slice A4 ss.length c4, .int .i64 0, .slice none 0 0, .int .i64 (ch : Int), .iface 176 (.pointer (some ⟨s0, 0, none⟩)), .iface 176 (.pointer (some ⟨s1, 0, none⟩)), .func (.func N) #[] #[], .bool false, .bool false] := by
              have h1 : Cs (wr.setCell ⟨v, 1, none⟩ (.slice A4 ss.length c4)) v 101 #[.pointer (some ⟨m, 0, none⟩), .slice A4 ss.length c4, .int .i64 0, .slice none 0 0, .int .i64 (ch : Int), .iface 176 (.pointer (some ⟨s0, 0, none⟩)), .iface 176 (.pointer (some ⟨s1, 0, none⟩)), .func (.func N) #[] #[], .bool false, .bool false] := Cs.put (l := [_, _, _, _, _, _, _, _, _, _]) HC6.out _
              have h2 : Cs ((wr.setCell ⟨v, 1, none⟩ (.slice A4 ss.length c4)).setCell ⟨v, 2, none⟩ (.int .i64 0)) v 101 #[.pointer (some ⟨m, 0, none⟩), .slice A4 ss.length c4, .int .i64 0, .slice none 0 0, .int .i64 (ch : Int), .iface 176 (.pointer (some ⟨s0, 0, none⟩)), .iface 176 (.pointer (some ⟨s1, 0, none⟩)), .func (.func N) #[] #[], .bool false, .bool false] := Cs.put (l := [_, _, _, _, _, _, _, _, _, _]) h1 _
              exact Cs.put (l := [_, _, _, _, _, _, _, _, _, _]) h2 _
            have hv2 := HVE.out
            have hs0l := HS02.out.lt
            have hs1l := HS12.out.lt
            have hVI : VolIn (((wr.setCell ⟨v, 1, none⟩ (.slice A4 ss.length c4)).setCell ⟨v, 2, none⟩ (.int .i64 0)).setCell ⟨v, 3, none⟩ (.slice none 0 0)) (fun j => (F2 j ∨ j = s2 ∨ m ≤ j) ∧ j < w2.heap.size) (fun j => (F2 j ∨ j = s2 ∨ m ≤ j) ∨ j = s0 ∨ j = s1) ⟨g, s0, s1, s2, m, v, n0, n1, n2, ch⟩ V0 A4 c4 none 0 := by
              rw [HO0.out]
              refine ⟨(HCA.out.keep HB6.out).fr hfS (fun j hj e => by subst e; have := hj.2; omega), fun j hj => .inl hj.1, Cs.fr HS06.out hfS (by show ¬ s0 = v; omega), Cs.fr HS16.out hfS (by show ¬ s1 = v; omega), fun e => HNS.out.1 e.1, fun e => HNS.out.2 e.1, .inr (.inl rfl), .inr (.inr rfl), ?_, fun e => by have := e.2; dsimp only at this; omega, .inl (.inr (.inr (by show m ≤ v; omega))), by show v ≠ s0; omega, by show v ≠ s1; omega, own_fr (own_lower HO6.out (Nat.zero_le _)) hfS (fun b hb e => ?_), fun b hb => ?_, ?_, fun p hp => by cases hp⟩
              · have := hCF
                rw [← HN.out] at this
                exact this
              · have := (HO6.out.lt b hb).1
                have := HSZ3.out
                omega
              · have h1 := (HO6.out.lt b hb).1
                have h2 := HSZ3.out
                exact ⟨fun e => by have := e.2; omega, by show b ≠ s0; omega, by show b ≠ s1; omega, by show b ≠ v; omega, .inl (.inr (.inr (by omega)))⟩
              · intro h0
                exact absurd rfl h0
            have hBF : Below w2.heap.size w2 (((wr.setCell ⟨v, 1, none⟩ (.slice A4 ss.length c4)).setCell ⟨v, 2, none⟩ (.int .i64 0)).setCell ⟨v, 3, none⟩ (.slice none 0 0)) := ((HB6.out.setCell (p := ⟨v, 1, none⟩) (by show w2.heap.size ≤ v; omega) _).setCell (p := ⟨v, 2, none⟩) (by show w2.heap.size ≤ v; omega) _).setCell (p := ⟨v, 3, none⟩) (by show w2.heap.size ≤ v; omega) _
            have htF : Turn F0 (fun j => (F2 j ∨ j = s2 ∨ m ≤ j) ∨ j = s0 ∨ j = s1) W (((wr.setCell ⟨v, 1, none⟩ (.slice A4 ss.length c4)).setCell ⟨v, 2, none⟩ (.int .i64 0)).setCell ⟨v, 3, none⟩ (.slice none 0 0)) := by
              refine ⟨HT2.out.1.trans (Fr.of_below hBF), fun j hj => ?_⟩
              rcases hj with (hj | rfl | hj) | rfl | rfl
              · exact HT2.out.2 j (.inr hj)
              · exact .inl hf2
              · have := HMB.out.1
                exact .inr (by omega)
              · exact .inl hf0
              · exact .inl hf1
            have HVI : Hid (VolAt _ _ ⟨g, s0, s1, s2, m, v, n0, n1, n2, ch⟩ V0) := ⟨_, _, _, _, _, hVI⟩
            have HTF := Lib.hid htF
            have hlen : V0.x.sl.length = ss.length := by rw [HO0.out]
            have hS0 : V0.S = S.flush 2 := by rw [HO0.out]
            have hfl := flush_log S 2
            have hcm : ss.length * (ch + 2) ≤ 1024 * 66 := Nat.mul_le_mul (by omega) (by omega)
            have HBG := Lib.hid (vbegin_any _ _ ⟨g, s0, s1, s2, m, v, n0, n1, n2, ch⟩ V0 mode HVI.out HNB3.out HM.out ss.length hlen (by show ch ≤ 127; omega) hn0 hn1 hn2 (by rw [hS0]; show (S.flush 2).log.length + ss.length * (ch + 2) + ch < _; omega) (by rw [hS0]; show (S.flush 2).wr + (ss.length * (ch + 2) : Nat) + ch ≤ _; rw [hfl.2]; omega))
            clear hfS hCF hv2 hs0l hs1l hVI hBF htF hlen hS0 hfl hcm y1 y2 y3 f1 f2 f3 HC6 HO6 HS06 HS16 HNB3 HVI
            generalize (((wr.setCell ⟨v, 1, none⟩ (.slice A4 ss.length c4)).setCell ⟨v, 2, none⟩ (.int .i64 0)).setCell ⟨v, 3, none⟩ (.slice none 0 0)) = w7 at *
            go_wp2_with (go_at_call 60; refine HBG.out.mono ?_; rintro e w8 ⟨rfl, Fv8, hv8, ht8⟩; have HV8 := Lib.hid hv8; have HT8 := Lib.hid (HTF.out.trans ht8); clear hv8 ht8)
            go_ret2
            refine .inr ⟨HRE.out.trans HE4.out, m, v, Fv8, rfl, ?_, HT8.out⟩
            rw [HVE0.out, HCE.out]
            exact HV8.out
end Go.Proofs.YtogchafnnkajfaaGreat
namespace Go.Proofs.YtogchafnnkajfaaGreat
set_option linter.unusedVariables false
open Go.RowKit
attribute [local go_sem] Oper.semAt_some m_write m_read m_flush m_size
def wV (seed : Int) (k : Nat) : Nat := (IntKind.u64.wrap (seed + IntKind.u64.wrap ((k : Int) * 11400714819323198485))).toNat
def wordsL (seed : Int) (n : Nat) : List Nat := (List.range n).map (wV seed)
theorem wordsL_length (seed : Int) (n : Nat) : (wordsL seed n).length = n := by simp [wordsL]
theorem wordsL_succ (seed : Int) (n : Nat) : wordsL seed (n + 1) = wordsL seed n ++ [wV seed n] := by simp [wordsL, List.range_succ]
theorem wV_eq (seed : Int) (k : Nat) : IntKind.u64.wrap (seed + IntKind.u64.wrap ((k : Int) * 11400714819323198485)) = (wV seed k : Int) ∧ wV seed k < 18446744073709551616 := by
  obtain ⟨y, ey, hy⟩ := any_u64 (seed + IntKind.u64.wrap ((k : Int) * 11400714819323198485))
  unfold wV
  generalize IntKind.u64.wrap ((k : Int) * 11400714819323198485) = z at *
  rw [ey]
  exact ⟨rfl, by simpa using hy⟩
theorem wordsL_w (seed : Int) (n : Nat) : W64 (wordsL seed n) := by
  intro x hx
  obtain ⟨k, _, rfl⟩ := List.mem_map.1 hx
  exact (wV_eq seed k).2
theorem words2_any (n : Nat) (seed : Int) (W : World) (hn : n ≤ 1000) :
    Calls Tryz.prog 16 #[.int .i64 (n : Int), .int .u64 seed] W fun e W' => ∃ v, e = .returned v ∧ W'.ownsRow W.heap.size 26 1 v n (uv (wordsL seed n)) ∧ Below W.heap.size W W' := by
  obtain ⟨i0, hi0, hz0, hz1, hz2⟩ := info_parts u64_info
  go_enter Tryz.func16, Tryz.ntmps16
  go_wp2_with fail
  go_loopw [5, 6] (fun v i wr => ∃ (k : Nat), k ≤ n ∧ i = .int .i64 k ∧ wr.ownsRow W.heap.size 26 1 v k (uv (wordsL seed k)) ∧ Below W.heap.size W wr) (fun _ i _ => n - (intOf i).toNat)
  case atStart => exact ⟨0, Nat.zero_le _, rfl, World.ownsRow_nil _ _ _ _, Below.refl _ _⟩
  case round =>
    obtain ⟨k, hk, rfl, hown, hb⟩ := hrel
    obtain ⟨A1, c1, rfl⟩ := own_form hown
    have HO := Lib.hid hown
    have hkl : (uv (wordsL seed k)).length = k := by rw [uv_length, wordsL_length]
    have HKL := Lib.hid hkl
    clear hown hkl
    by_cases hlt : k < n
    · go_wp2_with (at_builtin; refine wpList_append_reads _ (by rfl) _ _ _ (by rfl) W.heap.size 26 i0 _ 1 8 Tryz.underlying29 hi0 hz0 hz1 hz2 (by rfl) (by omega) (.slice A1 k c1) k (uv (wordsL seed k)) (by rfl) (HO.out.alloc _) (some ⟨wr.heap.size, 0, none⟩) 1 1 _ (by rfl) (by rfl) (Reads.new _ _ _) (by simp [Value.oneCell']) (by simp only [maxLen]; omega) (by omega) (by have := hb.size; simp; omega) ?_; intro v1 w6 hown6 hg6 hat6; have hbb := app_below HO.out hg6 hb.size)
      obtain ⟨ey, hy⟩ := wV_eq seed k
      rw [ey] at hown6
      have ho : w6.ownsRow W.heap.size 26 1 v1 (k + 1) (uv (wordsL seed (k + 1))) := by rw [wordsL_succ, uv_append]; exact hown6
      go_roundw
      case rel => exact ⟨k + 1, by omega, by go_num, ho, hb.trans hbb⟩
      case measure => simp [intOf]; omega
    · have hkn : k = n := by omega
      subst hkn
      go_wp2_with fail
      go_ret
      exact ⟨_, rfl, HO.out, hb⟩
def newW (k chunk : Nat) : List Nat := fmtW (List.replicate (k + 1) 0) k (chunk : Int)
theorem words33_any (k chunk : Nat) (W : World) (hk : 1 ≤ k ∧ k ≤ 1024) (hc : 1 ≤ chunk ∧ chunk ≤ 64) :
    Calls Tryz.prog 19 #[.int .i64 (k : Int), .int .i64 (chunk : Int)] W fun e W' => ∃ v, e = .returned v ∧ W'.ownsRow W.heap.size 26 1 v (k + 1) (uv (newW k chunk)) ∧ Below W.heap.size W W' := by
  have e1 : IntKind.i64.wrap ((k : Int) + 1) = ((k + 1 : Nat) : Int) := by rw [IntWalk.i64_in _ (by omega)]; rfl
  obtain ⟨n, hn⟩ : ∃ n, k + 1 = n := ⟨_, rfl⟩
  rw [hn] at e1 ⊢
  have HN := Lib.hid hn
  have hkn : k + 1 ≤ n := by omega
  have hn2 : n ≤ 65536 := by omega
  clear hn
  have hmk := fun w => run_make_u64 n (by omega) w
  go_enter Tryz.func19, Tryz.ntmps19
  go_wp2_with fail
  refine (rformat_ok _ W.heap.size W.heap.size W.heap.size n n k (chunk : Int) (List.replicate n 0) (World.ownsRow_lit (size := 1) W (uv (List.replicate n 0)).toArray n (Nat.le_refl _) (by simp only [maxLen]; omega) (by simp [uv])) (List.length_replicate ..) (Nat.le_refl _) hk hkn hn2 (by omega) (by simp)).mono ?_
  rintro e w2 ⟨rfl, ho, hb⟩
  go_wp2_with fail
  go_ret
  refine ⟨_, rfl, ?_, ((Below.refl _ W).alloc (Nat.le_refl _) _).trans (hb.mono (Nat.le_refl _))⟩
  rw [show newW k chunk = setZ ((List.replicate n 0).set 0 (hdI k (chunk : Int) 0 false)) k by rw [← HN.out]; exact (fmtW_eq ..)]
  exact ho
theorem newW_length (k chunk : Nat) : (newW k chunk).length = k + 1 := by unfold newW; rw [fmtW_length, List.length_replicate]
theorem newW_w (k chunk : Nat) : W64 (newW k chunk) := by
  unfold newW
  rw [fmtW_eq]
  have h0 : ∀ j (l : List Nat), W64 l → W64 (setZ l j) := by
    intro j
    induction j with
    | zero => exact fun l h => h
    | succ j ih =>
      intro l h x hx
      rcases List.mem_or_eq_of_mem_set hx with hx | rfl
      · exact ih l h x hx
      · omega
  refine h0 k _ ?_
  intro x hx
  rcases List.mem_or_eq_of_mem_set hx with hx | rfl
  · rw [(List.mem_replicate.1 hx).2]; omega
  · exact hdI_lt _ _ _ _
theorem full3 (C : VC) (l0 l1 l2 : List Nat) (h0 : l0.length = C.n0) (h1 : l1.length = C.n1) (h2 : l2.length = C.n2) : NF C (DS.full [l0, l1, l2]) ∧ ∀ i, i < 3 → Stl (DS.full [l0, l1, l2]) i := by
  have key : ∀ i j : Nat, ((DS.full [l0, l1, l2]).dur i)[j]? = ((DS.full [l0, l1, l2]).now i)[j]? := by
    intro i j
    rcases i with _ | _ | _ | i <;> rfl
  refine ⟨⟨⟨rfl, ?_, fun i j _ => key i j, fun i j v hv => .inl ((key i j).trans hv)⟩, rfl, rfl⟩, ?_⟩
  · intro i m hi
    rcases i with _ | _ | _ | i
    · simp at hi; subst hi; exact ⟨h0, h0, rfl⟩
    · simp at hi; subst hi; exact ⟨h1, h1, rfl⟩
    · simp at hi; subst hi; exact ⟨h2, h2, rfl⟩
    · simp at hi
  · intro i hi b x hx
    rcases hx with hx | ⟨r, hr, -⟩
    · exact (key i b).symm.trans hx
    · cases hr
end Go.Proofs.YtogchafnnkajfaaGreat
namespace Go.Proofs.YtogchafnnkajfaaGreat
set_option linter.unusedVariables false
section
variable {C : VC} {V : VS}
theorem clV_stk (k b : Nat) (x : Sl) : (V.clV C k b x).stuck = V.stuck := by unfold VS.clV; split; rfl; split <;> rfl
theorem bg1_stk (k : Nat) : (V.bg1 C k).stuck = V.stuck := by
  induction k with
  | zero => rfl
  | succ k ih =>
    rw [VS.bg1]
    split
    · exact ih
    · exact ih
theorem bg3_stk (k : Nat) : (V.bg3 C k).stuck = V.stuck := by
  induction k with
  | zero => rfl
  | succ k ih =>
    rw [VS.bg3]
    split
    · exact (clV_stk _ _ _).trans ih
    · exact ih
theorem bgn_stk (mode : Int) : (V.bgn C mode).stuck = V.stuck := by
  have hA : (V.bgA C).stuck = V.stuck := by
    unfold VS.bgA
    split
    · exact bg1_stk _
    · rfl
  show (V.bgB C mode).stuck = V.stuck
  unfold VS.bgB
  split
  · exact (bg3_stk _).trans hA
  · exact hA
end
def rvO (o f m : List Nat) (mode : Int) : RV := (RV.mk o f m ⟨slotsU m (opK m), 0, []⟩).bgn (opC m) (opM m) (opO m) mode
theorem opn_view {C : VC} {S : DS} {mode : Int} (h : NF C S) (he : openE (S.now 2) = 0) (hC : C.chunk = opC (S.now 2)) (h1 : ¬ C.n1 < opK (S.now 2) * opC (S.now 2)) (hb : badS (slotsU (S.now 2) (opK (S.now 2))) (C.n0 / opC (S.now 2)) = false) :
    view ((opn0 S mode).bgn C mode) = rvO (S.now 0) (S.now 1) (S.now 2) mode ∧ NF C ((opn0 S mode).bgn C mode).S ∧ ((opn0 S mode).bgn C mode).x.Ok := by
  have hNB := opn_nb (mode := mode) h he hC h1 hb
  obtain ⟨b1, b2, b3, -⟩ := hNB.bgn mode
  obtain ⟨f1, f2, f3, f4⟩ := h.fl (i := 2) (n := C.n2) rfl
  refine ⟨?_, b1, b3⟩
  rw [b2, hC]
  have q0 := f3.now 0
  have q1 := f3.now 1
  have q2 := f3.now 2
  have hv : view (opn0 S mode) = RV.mk (S.now 0) (S.now 1) (S.now 2) ⟨slotsU (S.now 2) (opK (S.now 2)), 0, []⟩ := by
    unfold view opn0
    dsimp only
    rw [show ((2 : Int)) = ((2 : Nat) : Int) from rfl, q0, q1, q2]
  rw [hv]
  rfl
theorem PY.start {C : VC} {S : DS} {ok : Nat → Nat → Prop} {mode : Int} (h : ZR C S ok) (hm : mode = 1 ∨ mode = 2) {n : Nat} (hn : S.log.length + opK (S.now 2) * (C.chunk + 2) + 1 ≤ n) (hw : S.wr + (opK (S.now 2) * (C.chunk + 2) : Nat) + 1 ≤ n) :
    PY C ((opn0 S mode).bgn C mode) (rvO (S.now 0) (S.now 1) (S.now 2) mode) n ∧ ((opn0 S mode).bgn C mode).pm = decide (mode = 2) := by
  obtain ⟨v1, v2, v3, v4, v5, v6, v7, v8, v9, v10, v11⟩ := h.opened hm
  obtain ⟨w1, -, -⟩ := opn_view (mode := mode) h.nf h.op h.hC h.h1 h.hb
  exact ⟨⟨v3.dn, v3.fu, by rw [v6]; exact v1.any, w1, v4, v5, v7, (bgn_stk mode).trans rfl, by omega, by omega, by omega⟩, v6⟩
theorem newW_facts (k chunk : Nat) (hk : 1 ≤ k ∧ k ≤ 1024) (hc : 1 ≤ chunk ∧ chunk ≤ 64) : opK (newW k chunk) = k ∧ opC (newW k chunk) = chunk ∧ opM (newW k chunk) = 0 ∧ opO (newW k chunk) = false ∧ slotsU (newW k chunk) k = List.replicate k nilS := by
  have hl : (List.replicate (k + 1) 0).length = k + 1 := List.length_replicate
  obtain ⟨o1, o2, o3, o4⟩ := open_fmt (List.replicate (k + 1) 0) k (chunk : Int) hk (by omega) (by omega)
  obtain ⟨g1, g2, g3, g4, g5, g6⟩ := hdI_fields k (chunk : Int) 0 false (by omega) (by omega) (by omega)
  refine ⟨by unfold opK newW; rw [o2]; exact g2, by unfold opC newW; rw [o2]; exact Int.ofNat.inj g3, by unfold opM newW; rw [o2]; exact g4, ?_, o3⟩
  unfold opO newW
  rw [o2, g5]
  rfl
theorem rv_new (l0 l1 : List Nat) (k chunk : Nat) (mode : Int) (hk : 1 ≤ k ∧ k ≤ 1024) (hc : 1 ≤ chunk ∧ chunk ≤ 64) : rvO l0 l1 (newW k chunk) mode = ⟨l0, l1, (newW k chunk).set 0 (hdI k (chunk : Int) mode true), ⟨List.replicate k nilS, 0, []⟩⟩ := by
  obtain ⟨h1, h2, h3, h4, h5⟩ := newW_facts k chunk hk hc
  unfold rvO
  rw [h1, h2, h3, h4, h5]
  have hA : RV.bgA 0 false ⟨l0, l1, newW k chunk, ⟨List.replicate k nilS, 0, []⟩⟩ = ⟨l0, l1, newW k chunk, ⟨List.replicate k nilS, 0, []⟩⟩ := if_neg (by decide)
  have h3' : ∀ j, RV.bg3 chunk ⟨l0, l1, newW k chunk, ⟨List.replicate k nilS, 0, []⟩⟩ j = ⟨l0, l1, newW k chunk, ⟨List.replicate k nilS, 0, []⟩⟩ := by
    intro j
    induction j with
    | zero => rfl
    | succ j ih =>
      rw [RV.bg3, ih]
      refine if_neg ?_
      have : (CS.at_ ⟨List.replicate k nilS, 0, []⟩ j) = nilS := by
        unfold CS.at_
        dsimp only
        rw [List.getElem?_replicate]
        split <;> rfl
      rw [this]
      decide
  have hB : RV.bgB chunk 0 false mode ⟨l0, l1, newW k chunk, ⟨List.replicate k nilS, 0, []⟩⟩ = ⟨l0, l1, newW k chunk, ⟨List.replicate k nilS, 0, []⟩⟩ := by
    unfold RV.bgB
    rw [hA]
    split
    · exact h3' _
    · rfl
  unfold RV.bgn
  rw [hB]
  dsimp only
  rw [List.length_replicate]
theorem zr_new (C : VC) (l0 l1 : List Nat) (k : Nat) (hk : 1 ≤ k ∧ k ≤ 1024) (hc : 1 ≤ C.chunk ∧ C.chunk ≤ 64) (h0 : l0.length = C.n0) (h1 : l1.length = C.n1) (h2 : C.n2 = k + 1) (hf : k * C.chunk ≤ C.n1) : ZR C (DS.full [l0, l1, newW k C.chunk]) (okT (l0.map Sec.start)) := by
  obtain ⟨p1, p2⟩ := full3 C l0 l1 (newW k C.chunk) h0 h1 (by rw [newW_length]; exact h2.symm)
  exact ZR.fmt p1 p2 (List.replicate (k + 1) 0) k hk hc rfl List.length_replicate h2 hf
section
variable (o f m : List Nat)
def ax1 : CS := ⟨[nilS], 0, []⟩
def ax2 : CS := ⟨[nilS], 0, [0]⟩
def ax3 : CS := ⟨[⟨true, false, 0, 1⟩], 1, []⟩
def ax4 : CS := ⟨[⟨true, true, 0, 2⟩], 2, []⟩
def ax5 : CS := ⟨[⟨true, true, 0, 3⟩], 3, []⟩
theorem aw1 (ho : o.length = 8) : RV.read 4 ⟨o, f, m, ax1⟩ 1 = (o[1]?.getD 0, ⟨o, f, m, ax2⟩) := by
  have hs : RV.slot 4 ⟨o, f, m, ax1⟩ 1 = (-1, ⟨o, f, m, ax2⟩) := by
    unfold RV.slot
    dsimp only
    rw [ho, if_neg (by decide), if_neg (by decide), if_pos (by decide)]
    rfl
  unfold RV.read
  rw [hs]
  rfl
theorem aw2 (ho : o.length = 8) : ∃ m', RV.read 4 ⟨o, f, m, ax2⟩ 2 = ((cpL f 0 o 0 4)[2]?.getD 0, ⟨o, cpL f 0 o 0 4, m', ax3⟩) := by
  have hs : RV.slot 4 ⟨o, f, m, ax2⟩ 2 = (0, ⟨o, cpL f 0 o 0 4, m.set 1 (dwd 0 false), ax3⟩) := by
    unfold RV.slot
    dsimp only
    rw [ho, if_neg (by decide), if_neg (by decide), if_neg (by decide)]
    rfl
  unfold RV.read
  rw [hs]
  exact ⟨_, rfl⟩
theorem aw3 (ho : o.length = 8) (v : Nat) : ∃ m', RV.write 4 true ⟨o, f, m, ax3⟩ 1 v = ⟨o, f.set 1 v, m', ax4⟩ := by
  have hs : RV.slot 4 ⟨o, f, m, ax3⟩ 1 = (0, ⟨o, f, m, ⟨[⟨true, false, 0, 2⟩], 2, []⟩⟩) := by
    unfold RV.slot
    dsimp only
    rw [ho, if_neg (by decide), if_pos (by decide)]
    rfl
  unfold RV.write RV.wr
  rw [hs]
  exact ⟨_, rfl⟩
theorem aw4 (ho : o.length = 8) : RV.read 4 ⟨o, f, m, ax4⟩ 1 = (f[1]?.getD 0, ⟨o, f, m, ax5⟩) := by
  have hs : RV.slot 4 ⟨o, f, m, ax4⟩ 1 = (0, ⟨o, f, m, ax5⟩) := by
    unfold RV.slot
    dsimp only
    rw [ho, if_neg (by decide), if_pos (by decide)]
    rfl
  unfold RV.read
  rw [hs]
  rfl
theorem aw5 : ∃ m', RV.clnF 4 5 ⟨o, f, m, ax5⟩ 0 = (1, ⟨cpL o 0 f 0 4, f, m', ⟨[⟨true, false, 0, 3⟩], 3, []⟩⟩) := by
  refine ⟨m.set 1 (dwd 0 false), ?_⟩
  rw [RV.clnF, if_neg (show ¬ ax5.oldest < 0 by decide)]
  rw [RV.clnF]
  refine (if_pos ?_).trans ?_
  · show (ax5.setD 0 false).oldest < 0
    decide
  · rfl
end
end Go.Proofs.YtogchafnnkajfaaGreat
namespace Go.Proofs.YtogchafnnkajfaaGreat
set_option linter.unusedVariables false
open Go.RowKit Go.Shelf
attribute [local go_sem] Oper.semAt_some
structure QOk (K : RC) (R : RV) : Prop where
  ok : R.x.Ok
  ch : 1 ≤ K.chunk ∧ K.chunk ≤ 64
  n0 : K.n0 ≤ 65536
  n1 : K.n1 ≤ 65536
  n2 : K.n2 ≤ 65536
  sl : R.x.sl.length + 1 ≤ K.n2
  hf : R.x.sl.length * K.chunk ≤ K.n1
  wh : ∀ (k : Nat) (x : Sl), R.x.sl[k]? = some x → x.valid = true → (x.block.toNat + 1) * K.chunk ≤ K.n0
  clk : R.x.clk < 1099511627776
  lo : R.o.length = K.n0
theorem QOk.slot {K : RC} {R : RV} (h : QOk K R) {a : Nat} {k : Int} (ha : a < K.n0) (hk : (R.slot K.chunk a).1 = k) (hge : 0 ≤ k) : ∃ j : Nat, k = (j : Int) ∧ j < R.x.sl.length ∧ (R.slot K.chunk a).2.x.sl.length = R.x.sl.length ∧ ∃ y, (R.slot K.chunk a).2.x.sl[j]? = some y ∧ y.valid = true := by
  have hbl := Nat.div_le_self a K.chunk
  have hn0 := h.n0
  unfold RV.slot at hk ⊢
  generalize a / K.chunk = b at *
  split at hk
  · omega
  · rename_i h1
    rw [if_neg h1]
    split at hk
    · rename_i h2
      rw [if_pos h2]
      obtain ⟨j, x, ej, hx, hv, hb⟩ := find_at h2
      dsimp only at hk ⊢
      have hj := (List.getElem?_eq_some_iff.1 hx).1
      refine ⟨j, by rw [← hk, ej], hj, ?_, { x with stamp := R.x.clk + 1 }, ?_, hv⟩
      · rw [ej, Int.toNat_natCast]
        show (List.set _ _ _).length = _
        rw [List.length_set]
      · rw [ej, Int.toNat_natCast]
        show (R.x.sl.set j { R.x.at_ j with stamp := R.x.clk + 1 })[j]? = _
        rw [CS.at_eq hx, List.getElem?_set_self hj]
    · rename_i h2
      rw [if_neg h2]
      split at hk
      · dsimp only at hk; omega
      · rename_i h3
        rw [if_neg h3]
        have hfn := find_neg h2
        obtain ⟨m1, m2, m3, m4⟩ := miss_facts R.x (b : Int)
        have hok1 := h.ok.miss (b : Int) (by omega) hfn
        obtain ⟨j, x, hj, hx⟩ := victim_at hok1
        dsimp only at hk ⊢
        have hjl := (List.getElem?_eq_some_iff.1 hx).1
        rw [m1] at hjl
        rw [hj] at hk
        have hv2 := vic2_x (c := K.chunk) (R := { R with x := (R.x.miss (b : Int)).1 }) hok1 hx
        rw [hj, Int.toNat_natCast]
        have hjl2 : j < (RV.vic2 K.chunk { R with x := (R.x.miss (b : Int)).1 } j).x.sl.length := by
          rw [hv2]
          show _ < (List.set _ _ _).length
          rw [List.length_set, m1]
          exact hjl
        refine ⟨j, hk.symm, hjl, ?_, _, place_at (b := (b : Int)) hjl2, rfl⟩
        show (List.set _ _ _).length = _
        rw [List.length_set, hv2]
        show (List.set _ _ _).length = _
        rw [List.length_set, m1]
theorem QOk.pl {K : RC} {R : RV} (h : QOk K R) {a j : Nat} (hj : j < R.x.sl.length) : j * K.chunk + a % K.chunk < K.n1 := by
  have h1 := Nat.mul_le_mul_right K.chunk (show j + 1 ≤ R.x.sl.length by omega)
  rw [Nat.add_mul, Nat.one_mul] at h1
  have h2 := h.hf
  have h3 := Nat.mod_lt a (show 0 < K.chunk from h.ch.1)
  omega
set_option maxRecDepth 100000 in
set_option maxHeartbeats 4000000 in
theorem rread_any (W : World) (F : Nat → Prop) (K : RC) (R : RV) (a : Nat) (h : RvAt W F K false R) (hq : QOk K R) (ha : a < K.n0) :
    Calls Tryz.prog 21 #[.pointer (some ⟨K.r, 0, none⟩), .int .i64 (a : Int)] W fun e w' => e = .returned (.tuple #[.int .u64 ((R.read K.chunk a).1 : Int), .int .i64 0]) ∧ RvP W F K false (R.read K.chunk a).2 w' := by
  have hsa := rslot_any W F K false R a h hq.ok ha hq.ch hq.n0 hq.n1 hq.n2 hq.sl hq.hf hq.wh hq.clk
  have hE : R.read K.chunk a = if 0 ≤ (R.slot K.chunk a).1 then ((R.slot K.chunk a).2.f[(R.slot K.chunk a).1.toNat * K.chunk + a % K.chunk]?.getD 0, (R.slot K.chunk a).2) else ((R.slot K.chunk a).2.o[a]?.getD 0, (R.slot K.chunk a).2) := rfl
  have hsl := fun k => hq.slot (k := k) ha
  have hn0 := hq.n0
  have hn1 := hq.n1
  have hch := hq.ch
  generalize R.read K.chunk a = rr at *
  generalize R.slot K.chunk a = sl at *
  obtain ⟨k, R1⟩ := sl
  dsimp only at *
  have HSA := Lib.hid hsa
  have HE := Lib.hid hE
  have HSL := Lib.hid (hsl k rfl)
  have HQ := Lib.hid hq
  obtain ⟨A, c, B, d, h⟩ := h
  have HH := Lib.hid h
  obtain ⟨x0, x1, x2, x3, x4, x5, x6, x7, x8⟩ := h.cells
  have t1 : ¬ (a : Int) < 0 := by omega
  have t2 : ¬ (K.n0 : Int) ≤ (a : Int) := by omega
  clear hsa hE hsl hq h x1 x2 x3 x4 x5 x6 x7
  go_enter Tryz.func21, Tryz.ntmps21
  go_wp2_with fail
  refine HSA.out.mono ?_
  rintro e w1 ⟨rfl, F1, ⟨A1, c1, B1, d1, h1⟩, ht1⟩
  have H1 := Lib.hid h1
  have HT1 := Lib.hid ht1
  clear HSA x0 x8 ht1
  obtain ⟨y0, y1, y2, y3, y4, y5, y6, y7, y8⟩ := h1.cells
  by_cases hk : 0 ≤ k
  · obtain ⟨j, rfl, hj, -, -⟩ := HSL.out hk
    have hp := HQ.out.pl (a := a) hj
    have hkp := Nat.mod_lt a (show 0 < K.chunk by omega)
    obtain ⟨am, ham⟩ : ∃ am, a % K.chunk = am := ⟨_, rfl⟩
    rw [ham] at hp hkp
    obtain ⟨q, hqq⟩ : ∃ q, j * K.chunk = q := ⟨_, rfl⟩
    rw [hqq] at hp
    have e1 : IntKind.i64.wrap ((j : Int) * (K.chunk : Int)) = (q : Int) := by rw [← Int.natCast_mul, hqq, IntWalk.i64_in _ (by omega)]
    have e2 : (a : Int).tmod (K.chunk : Int) = (am : Int) := by rw [tmod_nat, ham]
    have e2' : (a : Int) % (K.chunk : Int) = (am : Int) := by rw [emod_n33, ham]
    obtain ⟨z, hz⟩ : ∃ z, q + am = z := ⟨_, rfl⟩
    have e3 : IntKind.i64.wrap ((q : Int) + (am : Int)) = (z : Int) := by rw [IntWalk.i64_in _ (by omega)]; omega
    have e3' : (q : Int) + (am : Int) = (z : Int) := by omega
    have zf := H1.out.rf.cellAt z (by omega)
    rw [uv_at _ _ (by rw [H1.out.lf]; omega)] at zf
    have t3 : (z : Int) < (K.n1 : Int) := by omega
    have t0 : ¬ (K.chunk : Int) = 0 := by omega
    have t0' : ¬ K.chunk = 0 := by omega
    have hE2 : rr = (R1.f[z]?.getD 0, R1) := by rw [HE.out, if_pos (by omega), Int.toNat_natCast, ham, hqq, hz]
    have HE2 := Lib.hid hE2
    clear hp hkp ham hqq hz hE2 HE HSL h1 y0 y2 y3 y4 y5 y7 y8
    go_wp2_with fail
    go_region
    go_wp2_with fail
    go_ret2
    rw [HE2.out]
    exact ⟨rfl, F1, ⟨_, _, _, _, H1.out.keep (below_drewN (Below.refl _ w1) _)⟩, HT1.out.trans (Turn.of_below (below_drewN (Below.refl _ w1) _))⟩
  · have t3 : ¬ (0 : Int) ≤ k := hk
    have hE2 : rr = (R1.o[a]?.getD 0, R1) := by rw [HE.out, if_neg hk]
    have HE2 := Lib.hid hE2
    have zo := H1.out.ro.cellAt a (by omega)
    rw [uv_at _ _ (by rw [H1.out.lo]; omega)] at zo
    have t4 : (a : Int) < (K.n0 : Int) := by omega
    clear hE2 HE HSL h1 y1 y2 y3 y4 y5 y6 y7 y8
    go_wp2_with fail
    go_ret2
    rw [HE2.out]
    exact ⟨rfl, F1, ⟨_, _, _, _, H1.out⟩, HT1.out⟩
theorem rread_range (W : World) (F : Nat → Prop) (K : RC) (clo : Bool) (R : RV) (a : Int) (h : RvAt W F K clo R) (ha : a < 0 ∨ (K.n0 : Int) ≤ a) :
    Calls Tryz.prog 21 #[.pointer (some ⟨K.r, 0, none⟩), .int .i64 a] W fun e w' => e = .returned (.tuple #[.int .u64 0, .int .i64 1]) ∧ W = w' := by
  obtain ⟨A, c, B, d, h⟩ := h
  obtain ⟨x0, -⟩ := h.cells
  clear h
  by_cases h1 : a < 0
  · clear ha
    go_enter Tryz.func21, Tryz.ntmps21
    go_wp2_with fail
    go_ret2
    exact ⟨rfl, rfl⟩
  · have h2 : (K.n0 : Int) ≤ a := by omega
    clear ha
    go_enter Tryz.func21, Tryz.ntmps21
    go_wp2_with fail
    go_ret2
    exact ⟨rfl, rfl⟩
theorem rwrite_range (W : World) (F : Nat → Prop) (K : RC) (clo : Bool) (R : RV) (a : Int) (v : Nat) (h : RvAt W F K clo R) (ha : a < 0 ∨ (K.n0 : Int) ≤ a) :
    Calls Tryz.prog 50 #[.pointer (some ⟨K.r, 0, none⟩), .int .i64 a, .int .u64 (v : Int)] W fun e w' => e = .returned (.int .i64 1) ∧ W = w' := by
  obtain ⟨A, c, B, d, h⟩ := h
  obtain ⟨x0, -⟩ := h.cells
  clear h
  by_cases h1 : a < 0
  · clear ha
    go_enter Tryz.func50, Tryz.ntmps50
    go_wp2_with fail
    go_ret
    exact ⟨rfl, rfl⟩
  · have h2 : (K.n0 : Int) ≤ a := by omega
    clear ha
    go_enter Tryz.func50, Tryz.ntmps50
    go_wp2_with fail
    go_ret
    exact ⟨rfl, rfl⟩
set_option maxRecDepth 100000 in
set_option maxHeartbeats 8000000 in
theorem rwrite_any (W : World) (F : Nat → Prop) (K : RC) (R : RV) (a v : Nat) (h : RvAt W F K false R) (hq : QOk K R) (ha : a < K.n0) (hm : K.mode = 1 ∨ K.mode = 2) (hok1 : (R.slot K.chunk a).2.x.Ok) :
    Calls Tryz.prog 50 #[.pointer (some ⟨K.r, 0, none⟩), .int .i64 (a : Int), .int .u64 (v : Int)] W fun e w' => e = .returned (.int .i64 0) ∧ RvP W F K false (R.write K.chunk (decide (K.mode = 2)) a v) w' := by
  have hsa := rslot_any W F K false R a h hq.ok ha hq.ch hq.n0 hq.n1 hq.n2 hq.sl hq.hf hq.wh hq.clk
  have hE : R.write K.chunk (decide (K.mode = 2)) a v = (R.slot K.chunk a).2.wr K.chunk (decide (K.mode = 2)) (R.slot K.chunk a).1 a v := rfl
  have hsl := fun k => hq.slot (k := k) ha
  have hn0 := hq.n0
  have hn1 := hq.n1
  have hn2 := hq.n2
  have hch := hq.ch
  generalize R.write K.chunk (decide (K.mode = 2)) a v = rr at *
  generalize R.slot K.chunk a = sl at *
  obtain ⟨k, R1⟩ := sl
  dsimp only at *
  have HSA := Lib.hid hsa
  have HE := Lib.hid hE
  have HSL := Lib.hid (hsl k rfl)
  have HQ := Lib.hid hq
  have HOK1 := Lib.hid hok1
  obtain ⟨A, c, B, d, h⟩ := h
  have HH := Lib.hid h
  obtain ⟨x0, x1, x2, x3, x4, x5, x6, x7, x8⟩ := h.cells
  have t1 : ¬ (a : Int) < 0 := by omega
  have t2 : ¬ (K.n0 : Int) ≤ (a : Int) := by omega
  clear hsa hE hsl hq h hok1 x1 x2 x3 x4 x5 x6 x7
  go_enter Tryz.func50, Tryz.ntmps50
  go_wp2_with fail
  refine HSA.out.mono ?_
  rintro e w1 ⟨rfl, F1, ⟨A1, c1, B1, d1, h1⟩, ht1⟩
  have H1 := Lib.hid h1
  have HT1 := Lib.hid ht1
  clear HSA x0 x8 ht1
  obtain ⟨y0, y1, y2, y3, y4, y5, y6, y7, y8⟩ := h1.cells
  have zo := h1.ro.cellAt a (by omega)
  have fo := h1.ro.frozenAt a
  rw [uv_at _ _ (by rw [h1.lo]; omega)] at zo
  have t4 : (a : Int) < (K.n0 : Int) := by omega
  by_cases hk : 0 ≤ k
  rotate_left
  · have t5 : k < 0 := by omega
    have hE2 : rr = { R1 with o := R1.o.set a v } := by rw [HE.out]; unfold RV.wr; rw [if_pos t5]
    have HE2 := Lib.hid hE2
    clear hE2 HE HSL h1 y1 y2 y3 y4 y5 y6 y7 y8
    go_wp2_with fail
    go_ret
    rw [HE2.out]
    exact ⟨rfl, F1, ⟨_, _, _, _, H1.out.setO a v⟩, HT1.out.trans ⟨(Fr.refl F1 w1).set (.inl H1.out.inF.2.1) _, fun j hj => .inl hj⟩⟩
  obtain ⟨j, rfl, hj, hsz, y, hy, hyv⟩ := HSL.out hk
  have hp := HQ.out.pl (a := a) hj
  have hkp := Nat.mod_lt a (show 0 < K.chunk by omega)
  obtain ⟨am, ham⟩ : ∃ am, a % K.chunk = am := ⟨_, rfl⟩
  rw [ham] at hp hkp
  obtain ⟨q, hqq⟩ : ∃ q, j * K.chunk = q := ⟨_, rfl⟩
  rw [hqq] at hp
  have e1 : IntKind.i64.wrap ((j : Int) * (K.chunk : Int)) = (q : Int) := by rw [← Int.natCast_mul, hqq, IntWalk.i64_in _ (by omega)]
  have e2 : (a : Int).tmod (K.chunk : Int) = (am : Int) := by rw [tmod_nat, ham]
  have e2' : (a : Int) % (K.chunk : Int) = (am : Int) := by rw [emod_n33, ham]
  obtain ⟨z, hz⟩ : ∃ z, q + am = z := ⟨_, rfl⟩
  have e3 : IntKind.i64.wrap ((q : Int) + (am : Int)) = (z : Int) := by rw [IntWalk.i64_in _ (by omega)]; omega
  have e3' : (q : Int) + (am : Int) = (z : Int) := by omega
  have t3 : (z : Int) < (K.n1 : Int) := by omega
  have hzn : z < K.n1 := by omega
  have t0 : ¬ (K.chunk : Int) = 0 := by omega
  have t0' : ¬ K.chunk = 0 := by omega
  have t5 : ¬ (j : Int) < 0 := by omega
  have t6 : (0 : Int) ≤ (j : Int) := by omega
  have HY := Lib.hid hy
  have HYV := Lib.hid hyv
  have HSZ := Lib.hid hsz
  have HZ : Hid (j * K.chunk + a % K.chunk = z) := by show _ = _; rw [ham, hqq, hz]
  clear hp hkp ham hqq hz HSL hy hyv hsz hk
  rcases hm with hm | hm
  · -- to both
    have hE2 : rr = ⟨R1.o.set a v, R1.f.set z v, R1.m, R1.x⟩ := by
      rw [HE.out]
      unfold RV.wr
      rw [if_neg t5, if_neg (by rw [hm]; decide), Int.toNat_natCast, HZ.out]
    have HE2 := Lib.hid hE2
    rw [hm] at y7
    have b1 : ¬ (1 : Int) = 2 := by decide
    have HM : Hid (K.mode = 1) := hm
    clear hE2 HE h1 y2 y3 y4 y5 y8 hm
    go_upto_region 8 with (fail)
    have H2 := Lib.hid (H1.out.setO a v)
    have HT2 := Lib.hid (HT1.out.trans (⟨(Fr.refl F1 w1).set (.inl H1.out.inF.2.1) (.int .u64 (v : Int)) (i := a), fun j hj => .inl hj⟩ : Turn F1 F1 w1 (w1.setCell ⟨K.bo, a, none⟩ (.int .u64 (v : Int)))))
    clear H1 HT1 y0 y1 y6 y7 zo fo
    generalize (w1.setCell ⟨K.bo, a, none⟩ (.int .u64 (v : Int))) = w2 at *
    obtain ⟨y0, y1, y2, y3, y4, y5, y6, y7, y8⟩ := H2.out.cells
    rw [HM.out] at y7
    have zf := H2.out.rf.cellAt z (by omega)
    have ff := H2.out.rf.frozenAt z
    rw [uv_at _ _ (by rw [H2.out.lf]; omega)] at zf
    clear y0 y2 y3 y4 y5 y8
    go_wp2_with fail
    go_region
    go_wp2_with fail
    go_ret
    rw [HE2.out]
    exact ⟨rfl, F1, ⟨_, _, _, _, (H2.out.setF z v).keep (Below.refl _ _).drew⟩, HT2.out.trans ⟨((Fr.refl F1 w2).set (.inl H2.out.inF.2.2.1) _).drew, fun j hj => .inl hj⟩⟩
  · -- to the slot
    have hE2 : rr = ⟨R1.o, R1.f.set z v, R1.m.set (1 + j) { y with dirty := true }.word, R1.x.setD j true⟩ := by
      have hat : (R1.x.setD j true).at_ j = { y with dirty := true } := by
        refine CS.at_eq ?_
        show (R1.x.sl.set j { R1.x.at_ j with dirty := true })[j]? = _
        rw [CS.at_eq HY.out, List.getElem?_set_self (List.getElem?_eq_some_iff.1 HY.out).1]
      rw [HE.out]
      unfold RV.wr
      rw [if_neg t5, if_pos (by rw [hm]; decide), Int.toNat_natCast, HZ.out, hat]
    have HE2 := Lib.hid hE2
    have HM : Hid (K.mode = 2) := hm
    rw [hm] at y7
    have b1 : ((2 : Int) == 1) = false := by decide
    have h1t := h1.tight
    have hcl := rsetd_any w1 A1 B1 R1.x.sl.length c1 R1.x.ms.length d1 R1.x HOK1.out rfl rfl (Reads.of_own h1.row) h1.mis j y HY.out HYV.out true
    unfold csV at hcl
    have HCL := Lib.hid hcl
    have H1T := Lib.hid h1t
    clear hE2 HE h1 h1t hm hcl zo fo
    go_wp2_with fail
    refine HCL.out.mono ?_
    rintro e w2 ⟨⟨vv, rfl, A', n', c', m', B', d', rfl, hn, hm, hS, hM⟩, hb2⟩
    unfold csV
    have h2 := H1.out.keep hb2
    obtain ⟨z0, z1, z2, z3, z4, z5, z6, z7, z8⟩ := h2.cells
    have f3 := h2.vol.free 3
    have f4 := h2.vol.free 4
    have f5 := h2.vol.free 5
    have hfin := H1T.out.fin (d' := d') (fun j hj => hj.2) hb2 hn hm hS (own_reads hM) (fun p hp => by subst hp; exact ⟨(hM.lt p.block rfl).1, fun b hb e => own_own_ne hS hM (by decide) b p.block hb rfl e.symm⟩)
    have HFIN := Lib.hid hfin
    clear h2 hfin hS hM HCL y0 y1 y2 y3 y4 y5 y6 y7 y8
    go_wp2_with fail
    change Calls _ _ _ (rput3 w2 K.r A' n' c' (R1.x.setD j true).clk B' m' d') _
    have hps : (R1.x.setD j true).sl.length = R1.x.sl.length := by show (List.set _ _ _).length = _; rw [List.length_set]
    refine (rput_any _ _ K false _ j { y with dirty := true } HFIN.out.1 (by show (R1.x.sl.set j { R1.x.at_ j with dirty := true })[j]? = _; rw [CS.at_eq HY.out, List.getElem?_set_self (List.getElem?_eq_some_iff.1 HY.out).1]) (by show (R1.x.setD j true).sl.length + 1 ≤ K.n2; rw [hps, HSZ.out]; exact HQ.out.sl) hn2).mono ?_
    rintro e w3 ⟨rfl, hp3⟩
    obtain ⟨F3, ⟨A3, c3, B3, d3, h3⟩, ht3⟩ := RvP.trans HFIN.out.2 hp3
    have H3 := Lib.hid h3
    obtain ⟨F4, g4, t4'⟩ := RvP.of ⟨_, _, _, _, h3⟩ ht3
    have HT4 := Lib.hid (HT1.out.trans t4')
    have HG4 := Lib.hid g4
    clear hp3 h3 ht3 g4 t4' z0 z1 z2 z3 z4 z5 z6 z7 z8 f3 f4 f5 H1T HFIN HT1 H1
    obtain ⟨A4, c4, B4, d4, h4⟩ := HG4.out
    have H4 := Lib.hid h4
    obtain ⟨y0, y1, y2, y3, y4, y5, y6, y7, y8⟩ := h4.cells
    have zf := h4.rf.cellAt z (by omega)
    have ff := h4.rf.frozenAt z
    rw [uv_at _ _ (by rw [h4.lf]; exact hzn)] at zf
    clear y0 y2 y3 y4 y5 y7 y8 h4 H3 HG4
    go_wp2_with fail
    go_region
    go_wp2_with fail
    go_ret
    rw [HE2.out]
    exact ⟨rfl, F4, ⟨_, _, _, _, (H4.out.setF z v).keep (Below.refl _ _).drew⟩, HT4.out.trans ⟨((Fr.refl F4 w3).set (.inl H4.out.inF.2.2.1) _).drew, fun j hj => .inl hj⟩⟩
end Go.Proofs.YtogchafnnkajfaaGreat
namespace Go.Proofs.YtogchafnnkajfaaGreat
set_option linter.unusedVariables false
open Go.RowKit Go.Shelf
attribute [local go_sem] Oper.semAt_some
theorem QOk.back {K : RC} {R : RV} (h : QOk K R) {k : Nat} {x : Sl} (hx : R.x.sl[k]? = some x) (hv : x.valid = true) (cl : Bool) : QOk K (R.back K.chunk k cl) := by
  have hl : (R.back K.chunk k cl).x.sl.length = R.x.sl.length := by show (List.set _ _ _).length = _; rw [List.length_set]
  refine ⟨h.ok.setD k x hx hv false, h.ch, h.n0, h.n1, h.n2, by rw [hl]; exact h.sl, by rw [hl]; exact h.hf, ?_, h.clk, by show (cpL _ _ _ _ _).length = _; rw [cpL_length]; exact h.lo⟩
  intro j y hy hyv
  have hy' : (R.x.sl.set k { R.x.at_ k with dirty := false })[j]? = some y := hy
  rw [CS.at_eq hx] at hy'
  rcases set_get hy' with ⟨rfl, rfl⟩ | ⟨-, hy'⟩
  · exact h.wh j x hx hv
  · exact h.wh j y hy' hyv
theorem QOk.free {K : RC} {R : RV} (h : QOk K R) (k : Nat) : QOk K (R.free k) := by
  have hl : (R.free k).x.sl.length = R.x.sl.length := by show (List.set _ _ _).length = _; rw [List.length_set]
  refine ⟨h.ok.clear k, h.ch, h.n0, h.n1, h.n2, by rw [hl]; exact h.sl, by rw [hl]; exact h.hf, ?_, h.clk, h.lo⟩
  intro j y hy hyv
  rcases set_get (show (R.x.sl.set k nilS)[j]? = some y from hy) with ⟨rfl, rfl⟩ | ⟨-, hy'⟩
  · cases hyv
  · exact h.wh j y hy' hyv
theorem QOk.clnF {K : RC} (m : Nat) : ∀ {R : RV}, QOk K R → ∀ i, QOk K (RV.clnF K.chunk m R i).2 ∧ dirtN (RV.clnF K.chunk m R i).2.x.sl ≤ dirtN R.x.sl - m := by
  induction m with
  | zero => intro R h i; exact ⟨h, Nat.le_refl _⟩
  | succ m ih =>
    intro R h i
    rw [RV.clnF]
    by_cases ho : R.x.oldest < 0
    · rw [if_pos ho]
      have := dirtN_old ho
      exact ⟨h, by show dirtN R.x.sl ≤ _; omega⟩
    · rw [if_neg ho]
      obtain ⟨k, x, hk, hx, hxd, hxv⟩ := oldest_at h.ok ho
      rw [hk, Int.toNat_natCast]
      obtain ⟨i1, i2⟩ := ih (h.back hx hxv true) (i + 1)
      refine ⟨i1, ?_⟩
      have : dirtN (R.back K.chunk k true).x.sl + 1 = dirtN R.x.sl := by
        show dirtN (R.x.sl.set k { R.x.at_ k with dirty := false }) + 1 = _
        rw [CS.at_eq hx]
        exact dirtN_set hx hxd
      omega
theorem rclean_neg (W : World) (F : Nat → Prop) (K : RC) (R : RV) (n : Int) (h : RvAt W F K false R) (hn : n < 0) :
    Calls Tryz.prog 51 #[.pointer (some ⟨K.r, 0, none⟩), .int .i64 n] W fun e w' => e = .returned (.tuple #[.int .i64 0, .int .i64 1]) ∧ W = w' := by
  obtain ⟨A, c, B, d, h⟩ := h
  obtain ⟨-, -, -, -, -, -, -, -, x8⟩ := h.cells
  clear h
  go_enter Tryz.func51, Tryz.ntmps51
  go_wp2_with fail
  go_ret2
  exact ⟨rfl, rfl⟩
set_option maxRecDepth 100000 in
set_option maxHeartbeats 4000000 in
theorem rclean_any (W : World) (F : Nat → Prop) (K : RC) (R : RV) (n : Nat) (h : RvAt W F K false R) (hq : QOk K R) (hn : n ≤ 1024) :
    Calls Tryz.prog 51 #[.pointer (some ⟨K.r, 0, none⟩), .int .i64 (n : Int)] W fun e w' => e = .returned (.tuple #[.int .i64 (R.clnF K.chunk n 0).1, .int .i64 0]) ∧ RvP W F K false (R.clnF K.chunk n 0).2 w' := by
  have hn2 := hq.n2
  have hn0 := hq.n0
  have hn1 := hq.n1
  have hch := hq.ch
  obtain ⟨A, c, B, d, h0⟩ := h
  obtain ⟨-, -, -, -, -, -, -, -, x8⟩ := h0.cells
  have HH := Lib.hid h0
  have HQ := Lib.hid hq
  have hge : ¬ (n : Int) < 0 := by omega
  clear h0 hq
  go_enter Tryz.func51, Tryz.ntmps51
  go_wp2_with fail
  clear x8 hge
  go_loopw [6] (fun s6 wx => ∃ (i : Nat) (R' : RV), s6 = .int .i64 i ∧ i ≤ n ∧ RvP W F K false R' wx ∧ QOk K R' ∧ RV.clnF K.chunk n R 0 = RV.clnF K.chunk (n - i) R' i) (fun s6 _ => n - (intOf s6).toNat)
  case atStart => exact ⟨0, R, rfl, Nat.zero_le _, ⟨F, ⟨_, _, _, _, HH.out⟩, Turn.of_below (Below.refl _ _)⟩, HQ.out, rfl⟩
  case round =>
    rename World => wx
    obtain ⟨i, R', rfl, hin, hp, hq', he⟩ := hrel
    obtain ⟨F', ⟨A', c', B', d', h'⟩, ht⟩ := hp
    have H := Lib.hid h'
    have HT := Lib.hid ht
    have HQ' := Lib.hid hq'
    have HE := Lib.hid he
    obtain ⟨-, -, -, x3, x4, x5, -, -, -⟩ := h'.cells
    have hro := roldest_any wx A' B' R'.x.sl.length c' R'.x.ms.length d' R'.x hq'.ok rfl rfl (Reads.of_own h'.row) h'.mis
    unfold csV at hro
    have HRO := Lib.hid hro
    clear h' ht hq' he hro
    by_cases hlt : i < n
    · have t1 : (i : Int) < (n : Int) := by omega
      have HNI : Hid (n - i = (n - (i + 1)) + 1) := by show _ = _; omega
      go_wp2_with fail
      refine HRO.out.mono ?_
      rintro e w2 ⟨rfl, hb2⟩
      have H2 := Lib.hid (H.out.keep hb2)
      have HT2 := Lib.hid (HT.out.trans (Turn.of_below hb2))
      clear HRO H HT hb2 x3 x4 x5
      by_cases ho : R'.x.oldest < 0
      · have hE2 : RV.clnF K.chunk n R 0 = ((i : Int), R') := by rw [HE.out, HNI.out, RV.clnF, if_pos ho]
        have HE2 := Lib.hid hE2
        clear hE2
        go_wp2_with fail
        go_ret2
        rw [HE2.out]
        exact ⟨rfl, F', ⟨_, _, _, _, H2.out⟩, HT2.out⟩
      · obtain ⟨k, x, hk, hx, hxd, hxv⟩ := oldest_at HQ'.out.ok ho
        have hkl := (List.getElem?_eq_some_iff.1 hx).1
        have hE2 : RV.clnF K.chunk n R 0 = RV.clnF K.chunk (n - (i + 1)) (R'.back K.chunk k true) (i + 1) := by rw [HE.out, HNI.out, RV.clnF, if_neg ho, hk, Int.toNat_natCast]
        have HE2 := Lib.hid hE2
        have hb0 := (HQ'.out.ok.blk x (List.mem_of_getElem? hx) hxv).1.1
        have HBK := Lib.hid (rback_any w2 F' K false R' k x true ⟨_, _, _, _, H2.out⟩ HQ'.out.ok hx hxv HQ'.out.sl hn2 hb0 (HQ'.out.wh k x hx hxv) (Nat.le_trans (Nat.mul_le_mul_right K.chunk (show k + 1 ≤ R'.x.sl.length by omega)) HQ'.out.hf) hch.1 hn0 hn1)
        have HQ2 := Lib.hid (HQ'.out.back hx hxv true)
        rw [hk]
        have t2 : ¬ (k : Int) < 0 := by omega
        clear hE2 hk hx hxd hxv hkl hb0 ho
        go_wp2_with fail
        refine HBK.out.mono ?_
        rintro e w3 ⟨rfl, hp3⟩
        have HP3 := Lib.hid (RvP.trans HT2.out hp3)
        clear hp3 HBK
        go_wp2_with fail
        go_roundw
        case rel => exact ⟨i + 1, _, by go_num, by omega, HP3.out, HQ2.out, HE2.out⟩
        case measure => simp [intOf]; omega
    · have hin2 : i = n := by omega
      subst hin2
      have hE2 : RV.clnF K.chunk i R 0 = ((i : Int), R') := by rw [HE.out, Nat.sub_self, RV.clnF]
      have HE2 := Lib.hid hE2
      clear hE2 x3 x4 x5
      go_wp2_with fail
      go_ret2
      rw [HE2.out]
      exact ⟨rfl, F', ⟨_, _, _, _, H.out⟩, HT.out⟩
set_option maxRecDepth 100000 in
set_option maxHeartbeats 4000000 in
theorem rdetach_any (W : World) (F : Nat → Prop) (K : RC) (R : RV) (h : RvAt W F K false R) (hq : QOk K R) :
    Calls Tryz.prog 52 #[.pointer (some ⟨K.r, 0, none⟩)] W fun e w' => e = .returned (.int .i64 0) ∧ RvP W F K false (R.dtc K.chunk) w' := by
  have hn2 := hq.n2
  have hln := hq.ok.len
  have HCL := Lib.hid (rclean_any W F K R R.x.sl.length h hq hln.2)
  obtain ⟨qc, dc⟩ := QOk.clnF R.x.sl.length hq 0
  have hdl := dirtN_le R.x.sl
  have hcl := RV.clnF_len K.chunk R.x.sl.length R 0
  have hE : R.dtc K.chunk = RV.frF (RV.clnF K.chunk R.x.sl.length R 0).2.x.sl.length (RV.clnF K.chunk R.x.sl.length R 0).2 0 := rfl
  generalize R.dtc K.chunk = RR at *
  obtain ⟨A, c, B, d, h0⟩ := h
  obtain ⟨-, -, -, x3, -⟩ := h0.cells
  generalize RV.clnF K.chunk R.x.sl.length R 0 = q at *
  obtain ⟨qn, R1⟩ := q
  dsimp only at *
  have hd0 : ∀ x ∈ R1.x.sl, x.dirty = false := dirtN_zero (by omega)
  have HQ1 := Lib.hid qc
  have HD1 := Lib.hid hd0
  have HE := Lib.hid hE
  have HCLN := Lib.hid hcl
  clear h0 hq qc dc hdl hcl hE hd0
  go_enter Tryz.func52, Tryz.ntmps52
  go_wp2_with fail
  refine HCL.out.mono ?_
  rintro e w1 ⟨rfl, hp1⟩
  have HP1 := Lib.hid hp1
  obtain ⟨len, hlen⟩ : ∃ len, R1.x.sl.length = len := ⟨_, rfl⟩
  have HL := Lib.hid hlen
  have hlb : len ≤ 1024 := by have := HQ1.out.ok.len; omega
  clear HCL hp1 x3 hlen
  go_wp2_with fail
  go_loopw [5] (fun s5 wx => ∃ (k : Nat) (R' : RV), s5 = .int .i64 k ∧ k ≤ len ∧ RvP W F K false R' wx ∧ QOk K R' ∧ (∀ x ∈ R'.x.sl, x.dirty = false) ∧ R'.x.sl.length = len ∧ RR = RV.frF (len - k) R' k) (fun s5 _ => len - (intOf s5).toNat)
  case atStart => exact ⟨0, R1, rfl, Nat.zero_le _, HP1.out, HQ1.out, HD1.out, HL.out, by rw [HE.out, HL.out]; rfl⟩
  case round =>
    rename World => wx
    obtain ⟨k, R', rfl, hkl, hp, hq', hd', hl', he⟩ := hrel
    obtain ⟨F', ⟨A', c', B', d', h'⟩, ht⟩ := hp
    have H := Lib.hid h'
    have HT := Lib.hid ht
    have HQ' := Lib.hid hq'
    have HD' := Lib.hid hd'
    have HL' := Lib.hid hl'
    have HEE := Lib.hid he
    have x3 := h'.cells.2.2.2.1
    rw [hl'] at x3
    clear h' ht hq' hd' hl' he
    by_cases hlt : k < len
    · have t1 : (k : Int) < (len : Int) := by omega
      obtain ⟨x, hx⟩ : ∃ x, R'.x.sl[k]? = some x := ⟨_, List.getElem?_eq_getElem (by rw [HL'.out]; exact hlt)⟩
      obtain ⟨a, ea, v0, v1, hk⟩ := H.out.dirt hx
      subst ea
      have HNI : Hid (len - k = (len - (k + 1)) + 1) := by show _ = _; omega
      have HX := Lib.hid hx
      clear hx v1 hk
      cases hv : x.valid
      · rw [hv] at v0
        have hE2 : RR = RV.frF (len - (k + 1)) R' (k + 1) := by rw [HEE.out, HNI.out, RV.frF, CS.at_eq HX.out, if_neg (by rw [hv]; decide)]
        have HE2 := Lib.hid hE2
        clear hE2
        go_wp2_with fail
        go_roundw
        case rel => exact ⟨k + 1, R', by go_num, by omega, ⟨F', ⟨_, _, _, _, H.out⟩, HT.out⟩, HQ'.out, HD'.out, HL'.out, HE2.out⟩
        case measure => simp [intOf]; omega
      · rw [hv] at v0
        have hE2 : RR = RV.frF (len - (k + 1)) (R'.free k) (k + 1) := by rw [HEE.out, HNI.out, RV.frF, CS.at_eq HX.out, if_pos hv]
        have HE2 := Lib.hid hE2
        have HFR := Lib.hid (rfree_any wx F' K false R' k x ⟨_, _, _, _, H.out⟩ HQ'.out.ok HX.out (HD'.out x (List.mem_of_getElem? HX.out)) HQ'.out.sl hn2)
        clear hE2
        go_wp2_with fail
        refine HFR.out.mono ?_
        rintro e w3 ⟨rfl, hp3⟩
        have HP3 := Lib.hid (RvP.trans HT.out hp3)
        clear hp3 HFR
        go_wp2_with fail
        go_roundw
        case rel =>
          refine ⟨k + 1, _, by go_num, by omega, HP3.out, HQ'.out.free k, ?_, ?_, HE2.out⟩
          · intro y hy
            rcases List.mem_or_eq_of_mem_set (show y ∈ R'.x.sl.set k nilS from hy) with hy | rfl
            · exact HD'.out y hy
            · rfl
          · show (List.set _ _ _).length = _
            rw [List.length_set]; exact HL'.out
        case measure => simp [intOf]; omega
    · have hkl2 : k = len := by omega
      subst hkl2
      have hE2 : RR = R' := by rw [HEE.out, Nat.sub_self, RV.frF]
      have HE2 := Lib.hid hE2
      clear hE2
      go_wp2_with fail
      go_ret
      rw [HE2.out]
      exact ⟨rfl, F', ⟨_, _, _, _, H.out⟩, HT.out⟩
end Go.Proofs.YtogchafnnkajfaaGreat
