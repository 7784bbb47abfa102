/-
  Merged texts (KU VpR RwA): the law CachevolFails.
-/
import Derived.Test.YtogchafnnkajfaaGreatFo7
namespace Go.Proofs.YtogchafnnkajfaaGreat
set_option linter.unusedVariables false
open Go.RowKit
attribute [local go_sem] Oper.semAt_some

def DS.miss (S : DS) (i : Nat) : DS := { S with dr := S.dr.set i ((S.drv i).1, (S.drv i).2.1, true) }
theorem dcells_put (l : List Dl) (i : Nat) (y y' : Dl) (h : l[i]? = some y) (j : Nat) (hj : j < 3) (u : Value) (he : y.cells.set j u = y'.cells) : (dcells l).set (i * 3 + j) u = dcells (l.set i y') := by
  induction l generalizing i with
  | nil => simp at h
  | cons z r ih =>
    rcases i with _ | i
    · simp at h
      subst h
      show (z.cells ++ dcells r).set (0 * 3 + j) u = y'.cells ++ dcells r
      rw [Nat.zero_mul, Nat.zero_add, List.set_append_left _ _ (by simp [Dl.cells]; omega), he]
    · have := ih i (by simpa using h)
      show (z.cells ++ dcells r).set ((i + 1) * 3 + j) u = z.cells ++ dcells (r.set i y')
      rw [← this, List.set_append_right _ _ (by simp [Dl.cells]; omega)]
      congr 2
      simp [Dl.cells]; omega
theorem DS.Ok.miss {S : DS} (h : S.Ok) {i : Nat} (hi : i < S.dr.length) : (S.miss i).Ok := by
  have hm : S.drv i ∈ S.dr := by unfold DS.drv; rw [List.getElem?_eq_getElem hi]; exact List.getElem_mem _
  have hd := h.drv _ hm
  have hlen : ∀ k, ((S.miss i).drv k).1.length = (S.drv k).1.length := by
    intro k
    rw [drv_set (S.miss i) S.dr i k _ hi rfl]
    by_cases e : k = i
    · subst e; rw [if_pos rfl]
    · rw [if_neg e]; rfl
  refine ⟨by simp only [DS.miss, List.length_set]; exact h.nd, ?_, ?_, h.fuse, h.wr⟩
  · intro x hx
    simp only [DS.miss] at hx
    rcases List.mem_or_eq_of_mem_set hx with hx | rfl
    · exact h.drv x hx
    · exact hd
  · intro r hr
    rw [hlen]
    simp only [DS.miss, List.length_set] at hr ⊢
    exact h.log r hr
theorem DLay.miss_set {W : World} {g b cap n : Nat} {S : DS} {lv : Value} {mb : Nat} {zs : List Dl} (h : DLay W g S (.slice (some ⟨b, 0, none⟩) n cap) lv mb zs) (hn : n = S.dr.length) (i : Nat) (z : Dl) (hz : zs[i]? = some z) (hx : z.x = S.drv i) :
    DLay (W.setCell ⟨b, i * 3 + 2, none⟩ (.bool true)) g (S.miss i) (.slice (some ⟨b, 0, none⟩) n cap) lv mb (zs.set i ⟨z.nb, z.db, (z.x.1, z.x.2.1, true)⟩) := by
  subst hn
  have hf := fr_set W b (i * 3 + 2) (.bool true)
  have hlen : (S.miss i).dr.length = S.dr.length := by simp [DS.miss]
  have hil : i < zs.length := (List.getElem?_eq_some_iff.1 hz).1
  obtain ⟨cur, hcur⟩ : ∃ cur, Cs W b 116 cur := by
    rcases h.drv.2 with ⟨h', _⟩ | ⟨g', cap', cur, h', _, hg, _⟩
    · simp at h'
    · simp only [Value.slice.injEq, Option.some.injEq, Addr.mk.injEq, and_true, true_and] at h'
      obtain ⟨rfl, rfl⟩ := h'
      exact ⟨cur, hg⟩
  have hr := (h.drv.stored (i * 3 + 2) (.bool true)).1
  rw [dcells_put zs i z ⟨z.nb, z.db, (z.x.1, z.x.2.1, true)⟩ hz 2 (by omega) _ rfl] at hr
  refine ⟨h.arr.fr hf (cs_ne hcur h.arr (by decide)), by rw [hlen]; exact hr, (hf.block mb (map_lt h.map) (cs_map_ne hcur h.map)).trans h.map, own_fr h.log hf (cs_own_ne hcur h.log (by decide)), ?_, ?_, ?_, ?_⟩
  · simp only [DS.miss, List.map_set, ← hx]
    rw [h.dr]
  · intro y hy
    obtain ⟨k, hk, hkl⟩ := set_mem _ _ _ _ hy
    by_cases e : k = i
    · subst e
      rw [List.getElem?_set_self hil] at hk
      injection hk with hk
      subst hk
      exact (h.now z (List.mem_of_getElem? hz)).fr hf (fun e => cs_ne hcur (h.now z (List.mem_of_getElem? hz)) (by decide) e)
    · rw [List.getElem?_set_ne (Ne.symm e)] at hk
      exact (h.now y (List.mem_of_getElem? hk)).fr hf (fun e => cs_ne hcur (h.now y (List.mem_of_getElem? hk)) (by decide) e)
  · intro y hy
    obtain ⟨k, hk, hkl⟩ := set_mem _ _ _ _ hy
    by_cases e : k = i
    · subst e
      rw [List.getElem?_set_self hil] at hk
      injection hk with hk
      subst hk
      exact (h.dur z (List.mem_of_getElem? hz)).fr hf (fun e => cs_ne hcur (h.dur z (List.mem_of_getElem? hz)) (by decide) e)
    · rw [List.getElem?_set_ne (Ne.symm e)] at hk
      exact (h.dur y (List.mem_of_getElem? hk)).fr hf (fun e => cs_ne hcur (h.dur y (List.mem_of_getElem? hk)) (by decide) e)
  · have := h.apart
    rwa [← apart_set zs i z ⟨z.nb, z.db, (z.x.1, z.x.2.1, true)⟩ hz rfl rfl] at this

theorem amiss_any (W : World) (F : Nat → Prop) (g i : Nat) (S : DS) (h : DskAt W F g S) (hi : i < S.dr.length) :
    Calls Tryz.prog 33 #[.pointer (some ⟨g, 0, none⟩), .int .i64 (i : Int), .bool true] W fun e w' => e = .returned (.int .i64 0) ∧ DskAt w' F g (S.miss i) ∧ Fr F W w' := by
  obtain ⟨ho, dv, lv, mb, zs, hl, hin⟩ := h
  obtain ⟨x0, x1, x2, x3, x4, x5⟩ := hl.cells
  obtain ⟨b, cap, z, rfl, hcl, hz, hzm, hx, c0, c1, c2⟩ := hl.one i hi
  have hnd := ho.nd
  have HL := Lib.hid (hl.miss_set rfl i z hz hx)
  have HI := Lib.hid (hin.setz i z ⟨z.nb, z.db, (z.x.1, z.x.2.1, true)⟩ hz rfl rfl)
  have HO := Lib.hid (ho.miss hi)
  have f2 := hl.drv.frozenAt (i * 3 + 2)
  have hFb : F b := hin.drv b rfl
  have t1 : ¬ (i : Int) < 0 := by omega
  have t2 : ¬ (S.dr.length : Int) ≤ (i : Int) := by omega
  have t3 : (i : Int) < (S.dr.length : Int) := by omega
  clear x1 x2 x3 x4 x5 hl hin ho hz hzm hx c0 c1
  generalize S.dr.length = nd at *
  go_enter Tryz.func33, Tryz.ntmps33
  go_wp2_with fail
  go_ret
  exact ⟨rfl, ⟨HO.out, _, _, _, _, HL.out, HI.out⟩, (Fr.refl F W).set (.inl hFb) _⟩

end Go.Proofs.YtogchafnnkajfaaGreat

namespace Go.Proofs.YtogchafnnkajfaaGreat
set_option linter.unusedVariables false

/-- A disk: its size, whether it is missing. -/
structure Dk (S : DS) (i n : Nat) (m : Bool) : Prop where
  lt : i < S.dr.length
  ms : (S.drv i).2.2 = m
  len : (S.now i).length = n
/-- The power is there, and does not fail. -/
structure Pw (S : DS) : Prop where
  dn : S.down = false
  fu : S.fuse = 0
section
variable {S : DS} {i n k n' : Nat} {m m' : Bool}
theorem Dk.chk (h : Dk S i n m) (p : Pw S) {j : Nat} (hj : j < n) : S.chk (i : Int) (j : Int) = if m = true then 6 else 0 := by
  have h1 := h.lt
  have e0 : S.cPow = 0 := by unfold DS.cPow; rw [p.dn]; rfl
  have e1 : S.cLoc (i : Int) = 0 := by unfold DS.cLoc; rw [if_neg (by omega)]
  have e2 : S.cPla (i : Int) (j : Int) = 0 := by
    unfold DS.cPla DS.size
    rw [if_neg (show ¬ ((i : Int) < 0 ∨ (S.dr.length : Int) ≤ (i : Int)) by omega), Int.toNat_natCast, show (S.drv i).1.length = n from h.len, if_neg (by omega)]
  have e3 : S.cMis (i : Int) = if m = true then 6 else 0 := by unfold DS.cMis; rw [Int.toNat_natCast, h.ms]
  unfold DS.chk
  rw [e0, e1, e2, e3]
  cases m <;> rfl
theorem Dk.chkF (h : Dk S i n m) (p : Pw S) : S.chkF (i : Int) = if m = true then 6 else 0 := by
  have h1 := h.lt
  have e0 : S.cPow = 0 := by unfold DS.cPow; rw [p.dn]; rfl
  have e1 : S.cLoc (i : Int) = 0 := by unfold DS.cLoc; rw [if_neg (by omega)]
  have e3 : S.cMis (i : Int) = if m = true then 6 else 0 := by unfold DS.cMis; rw [Int.toNat_natCast, h.ms]
  unfold DS.chkF
  rw [e0, e1, e3]
  cases m <;> rfl
theorem Dk.swE (h : Dk S i n m) (p : Pw S) {j : Nat} (hj : j < n) : S.swE i n (j : Int) = if m = true then 6 else 0 := by
  unfold DS.swE
  rw [if_pos (by omega)]
  unfold DS.writeE
  rw [h.chk p hj, p.fu]
  cases m <;> rfl
theorem Dk.sE (h : Dk S i n m) (p : Pw S) {j : Nat} (hj : j < n) : S.sE i n (j : Int) = if m = true then 6 else 0 := by
  unfold DS.sE
  rw [if_pos (by omega), h.chk p hj]
theorem Dk.sread (h : Dk S i n false) (p : Pw S) {j : Nat} (hj : j < n) : S.sread i n (j : Int) = (S.now i)[j]?.getD 0 := by
  unfold DS.sread
  rw [if_pos (by omega)]
  unfold DS.read
  rw [h.chk p hj, if_pos (by rfl)]
  rfl
theorem Dk.swrite (h : Dk S i n false) (p : Pw S) {j v : Nat} (hj : j < n) : S.swrite i n (j : Int) v = S.burnt.wput i j v := by
  unfold DS.swrite
  rw [if_pos (by omega)]
  unfold DS.write
  rw [h.chk p hj, if_neg (by decide), p.fu, if_neg (by decide)]
  rfl
theorem Dk.swriteM (h : Dk S i n true) (p : Pw S) {j v : Nat} (hj : j < n) : S.swrite i n (j : Int) v = S := by
  unfold DS.swrite
  rw [if_pos (by omega)]
  unfold DS.write
  rw [h.chk p hj, if_pos (by decide)]
theorem Dk.wput (h : Dk S k n' m') {j v : Nat} (hi : i < S.dr.length) : Dk (S.burnt.wput i j v) k n' m' ∧ (S.burnt.wput i j v).now k = (if k = i then (S.now i).set j v else S.now k) := by
  obtain ⟨w1, w2, w3⟩ := wput_at S i j v k hi
  refine ⟨⟨?_, w3.trans h.ms, ?_⟩, w1⟩
  · show k < (List.set S.dr i _).length
    rw [List.length_set]; exact h.lt
  · rw [w1]
    split
    · rename_i e
      rw [List.length_set, ← e]; exact h.len
    · exact h.len
theorem Pw.wput (p : Pw S) (i j v : Nat) : Pw (S.burnt.wput i j v) := by
  refine ⟨p.dn, ?_⟩
  show (if 0 < S.fuse then S.fuse - 1 else S.fuse) = 0
  rw [p.fu]; rfl
theorem Pw.flush (p : Pw S) (d : Int) : Pw (S.flush d) := by
  unfold DS.flush
  split
  · exact p
  · exact ⟨p.dn, p.fu⟩
theorem Dk.flush (h : Dk S k n' m') (i : Nat) (hi : i < S.dr.length) : Dk (S.flush (i : Int)) k n' m' ∧ (S.flush (i : Int)).now k = S.now k := by
  unfold DS.flush
  split
  · exact ⟨h, rfl⟩
  · have e := drv_set ({ S.flTo (i : Int).toNat S.log.length with log := others (i : Int).toNat S.log } : DS) S.dr i k ((S.drv i).1, flDur (S.drv i).1 i (S.log.take S.log.length) (S.drv i).2.1, (S.drv i).2.2) hi rfl
    have hn : ({ S.flTo (i : Int).toNat S.log.length with log := others (i : Int).toNat S.log } : DS).now k = S.now k := by
      unfold DS.now
      rw [e]
      split
      · rename_i q; subst q; rfl
      · rfl
    refine ⟨⟨?_, ?_, ?_⟩, hn⟩
    · show k < (List.set S.dr _ _).length
      rw [List.length_set]; exact h.lt
    · rw [e]
      split
      · rename_i q; subst q; exact h.ms
      · exact h.ms
    · rw [hn]; exact h.len
theorem Dk.miss {ns : List Nat} (h : Hea S ns) (i k : Nat) (hi : i < ns.length) (hk : ns[k]? = some n) : Dk (S.miss i) k n (decide (k = i)) ∧ (S.miss i).now k = S.now k := by
  have hil : i < S.dr.length := by rw [h.nd]; exact hi
  have e := drv_set (S.miss i) S.dr i k ((S.drv i).1, (S.drv i).2.1, true) hil rfl
  obtain ⟨h1, h2, h3⟩ := h.nn k n hk
  have hn : (S.miss i).now k = S.now k := by
    unfold DS.now
    rw [e]
    split
    · rename_i q; subst q; rfl
    · rfl
  refine ⟨⟨?_, ?_, by rw [hn]; exact h1⟩, hn⟩
  · show k < (List.set S.dr _ _).length
    rw [List.length_set]; exact h.lt hk
  · rw [e]
    by_cases q : k = i
    · rw [if_pos q, decide_eq_true q]
    · rw [if_neg q, decide_eq_false q]; exact h3
end

section
variable {C : VC} {V : VS}
/-- A slot is freed, where the words' device is there. -/
theorem Dk.free (h2 : Dk V.S 2 C.n2 false) (p : Pw V.S) {k : Nat} (hk : 1 + k < C.n2) : V.freeE C k = 0 ∧ (V.freeV C k).x = V.x.clear k ∧ Pw (V.freeV C k).S ∧ (∀ (i n : Nat) (m : Bool), Dk V.S i n m → Dk (V.freeV C k).S i n m ∧ (i ≠ 2 → (V.freeV C k).S.now i = V.S.now i)) := by
  have e1 : V.setE C k = 0 := (h2.swE p hk).trans rfl
  have e2 : (V.setV C k nilS).S = V.S.burnt.wput 2 (1 + k) nilS.word := h2.swrite p hk
  have hw := (h2.wput (i := 2) (j := 1 + k) (v := nilS.word) h2.lt).1
  have pw := p.wput 2 (1 + k) nilS.word
  have e3 : (V.setV C k nilS).S.chkF 2 = 0 := by rw [e2]; exact (hw.chkF pw).trans rfl
  have eE : V.freeE C k = 0 := by unfold VS.freeE; rw [if_pos e1]; exact e3
  have eV : V.freeV C k = { V.setV C k nilS with S := (V.setV C k nilS).S.flush 2 } := by unfold VS.freeV; rw [if_pos e1]
  have ex : (V.setV C k nilS).x = V.x.clear k := by unfold VS.setV; rw [if_pos e1]; rfl
  refine ⟨eE, by rw [eV]; exact ex, by rw [eV]; show Pw ((V.setV C k nilS).S.flush 2); rw [e2]; exact pw.flush 2, fun i n m h => ?_⟩
  rw [eV]
  show Dk ((V.setV C k nilS).S.flush 2) i n m ∧ (i ≠ 2 → ((V.setV C k nilS).S.flush 2).now i = V.S.now i)
  rw [e2]
  obtain ⟨a1, a2⟩ := h.wput (i := 2) (j := 1 + k) (v := nilS.word) h2.lt
  obtain ⟨b1, b2⟩ := a1.flush 2 hw.lt
  exact ⟨b1, fun e => b2.trans (a2.trans (if_neg e))⟩
end

/-- The states that the law meets. -/
def fx1 (b : Nat) : CS := ⟨[nilS, nilS], 0, [(b : Int)]⟩
def fx2 (b : Nat) : CS := ⟨[⟨true, false, (b : Int), 1⟩, nilS], 1, []⟩
theorem find0 (b : Int) (ms : List Int) (clk : Int) : CS.find ⟨[nilS, nilS], clk, ms⟩ b = -1 := by
  refine idxOf_no _ _ (fun j y hy => ?_)
  have : y = nilS := by
    rcases j with _ | _ | j
    · simpa using hy.symm
    · simpa using hy.symm
    · simp at hy
  rw [this]; rfl
theorem find2 (b : Nat) (clk st : Int) (ms : List Int) : CS.find ⟨[⟨true, false, (b : Int), st⟩, nilS], clk, ms⟩ (b : Int) = 0 := idxOf_at _ _ 0 ⟨true, false, (b : Int), st⟩ rfl (by simp) (fun j y hj => absurd hj (Nat.not_lt_zero j))
section
variable (o f m : List Nat) (ch at_ : Nat)
theorem fl1 (hw : (at_ / ch + 1) * ch ≤ o.length) : (RV.read ch ⟨o, f, m, ⟨[nilS, nilS], 0, []⟩⟩ at_).2 = ⟨o, f, m, fx1 (at_ / ch)⟩ := by
  have hs : RV.slot ch ⟨o, f, m, ⟨[nilS, nilS], 0, []⟩⟩ at_ = (-1, ⟨o, f, m, fx1 (at_ / ch)⟩) := by
    unfold RV.slot
    dsimp only
    rw [if_neg (fun e => e hw), find0, if_neg (by decide)]
    have hm : CS.miss ⟨[nilS, nilS], 0, []⟩ ((at_ / ch : Nat) : Int) = (fx1 (at_ / ch), false) := rfl
    rw [hm]
    rfl
  unfold RV.read
  rw [hs]
  rfl
theorem fl2 (hw : (at_ / ch + 1) * ch ≤ o.length) : ∃ f' m', (RV.read ch ⟨o, f, m, fx1 (at_ / ch)⟩ at_).2 = ⟨o, f', m', fx2 (at_ / ch)⟩ := by
  have hs : RV.slot ch ⟨o, f, m, fx1 (at_ / ch)⟩ at_ = (0, ⟨o, cpL f (0 * ch) o (at_ / ch * ch) ch, m.set 1 (dwd ((at_ / ch : Nat) : Int) false), fx2 (at_ / ch)⟩) := by
    unfold RV.slot
    dsimp only
    rw [if_neg (fun e => e hw), show (fx1 (at_ / ch)).find ((at_ / ch : Nat) : Int) = -1 from find0 _ _ _, if_neg (by decide)]
    have hm : CS.miss (fx1 (at_ / ch)) ((at_ / ch : Nat) : Int) = (⟨[nilS, nilS], 0, []⟩, true) := by
      unfold CS.miss fx1
      dsimp only
      rw [if_pos (List.mem_singleton.2 rfl)]
      simp
    rw [hm]
    dsimp only
    rw [if_neg (by decide)]
    rfl
  unfold RV.read
  rw [hs]
  exact ⟨_, _, rfl⟩
end

section
variable {C : VC} {V : VS} {b a v : Nat} {g0 g1 : Bool}
def fx3 (b : Nat) : CS := ⟨[⟨true, false, (b : Int), 2⟩, nilS], 2, []⟩
def fx4 : CS := ⟨[nilS, nilS], 2, []⟩
theorem fslt (hx : V.x = fx2 b) (hb : a / C.chunk = b) (hw : ¬ C.n0 / C.chunk ≤ b) : V.slt C a = (0, 0, { V with x := fx3 b }) := by
  unfold VS.slt
  rw [hb, if_neg hw, hx, show (fx2 b).find (b : Int) = 0 from find2 b 1 1 [], if_pos (by decide)]
  rfl
/-- The write, where the origin or the slot's device is missing. -/
theorem fwrt (hx : V.x = fx2 b) (hpm : V.pm = false) (hb : a / C.chunk = b) (hw : ¬ C.n0 / C.chunk ≤ b) (ha : a < C.n0) (hc : 1 ≤ C.chunk) (hn1 : 2 * C.chunk ≤ C.n1) (hn2 : C.n2 = 3) (d0 : Dk V.S 0 C.n0 g0) (d1 : Dk V.S 1 C.n1 g1) (d2 : Dk V.S 2 C.n2 false) (p : Pw V.S) (hg : g1 = !g0) :
    (V.wrt C a v).1 = (if g0 = true then 6 else 0) ∧ (V.wrt C a v).2.x = fx4 ∧ Pw (V.wrt C a v).2.S ∧ Dk (V.wrt C a v).2.S 0 C.n0 g0 ∧ Dk (V.wrt C a v).2.S 1 C.n1 g1 ∧ Dk (V.wrt C a v).2.S 2 C.n2 false ∧ (g0 = false → ((V.wrt C a v).2.S.now 0)[a]? = some v) := by
  have hs := fslt hx hb hw
  have hm := Nat.mod_lt a (show 0 < C.chunk from hc)
  unfold VS.wrt
  rw [hs, if_neg (show ¬ ((0 : Int) ≠ 0) by decide), if_neg (show ¬ ((0 : Int) < 0) by decide)]
  dsimp only
  rw [if_neg (show ¬ V.pm = true by rw [hpm]; decide), show (0 : Int).toNat = 0 from rfl]
  cases g0
  · -- the slot's device
    obtain rfl : g1 = true := hg
    have e0 : V.S.swE 0 C.n0 (a : Int) = 0 := (d0.swE p ha).trans rfl
    have e1 : V.S.swrite 0 C.n0 (a : Int) v = V.S.burnt.wput 0 a v := d0.swrite p ha
    obtain ⟨a0, b0⟩ := d0.wput (i := 0) (j := a) (v := v) d0.lt
    obtain ⟨a1, b1⟩ := d1.wput (i := 0) (j := a) (v := v) d0.lt
    obtain ⟨a2, b2⟩ := d2.wput (i := 0) (j := a) (v := v) d0.lt
    have pw := p.wput 0 a v
    have hlt : 0 * C.chunk + a % C.chunk < C.n1 := by omega
    have e2 : (V.S.burnt.wput 0 a v).swE 1 C.n1 ((0 * C.chunk + a % C.chunk : Nat) : Int) = 6 := (a1.swE pw hlt).trans rfl
    have e3 : (V.S.burnt.wput 0 a v).swrite 1 C.n1 ((0 * C.chunk + a % C.chunk : Nat) : Int) v = V.S.burnt.wput 0 a v := a1.swriteM pw hlt
    unfold VS.thr
    have q0 : ({ V with x := fx3 b } : VS).S.swE 0 C.n0 (a : Int) = 0 := e0
    rw [if_neg (fun e => e q0)]
    have q1 : (({ V with x := fx3 b } : VS).wr0 C a v).S = V.S.burnt.wput 0 a v := e1
    rw [q1, if_pos (by rw [e2]; decide)]
    have q2 : ((({ V with x := fx3 b } : VS).wr0 C a v).wr1 C ((0 * C.chunk + a % C.chunk : Nat) : Int) v).S = V.S.burnt.wput 0 a v := by
      show (({ V with x := fx3 b } : VS).wr0 C a v).S.swrite 1 C.n1 _ v = _
      rw [q1]; exact e3
    have q3 : ((({ V with x := fx3 b } : VS).wr0 C a v).wr1 C ((0 * C.chunk + a % C.chunk : Nat) : Int) v).x = fx3 b := rfl
    generalize ((({ V with x := fx3 b } : VS).wr0 C a v).wr1 C ((0 * C.chunk + a % C.chunk : Nat) : Int) v) = V2 at *
    rw [← q2] at a0 a1 a2 b0 pw
    obtain ⟨f1, f2, f3, f4⟩ := Dk.free (C := C) (V := V2) a2 pw (k := 0) (by omega)
    have hl : V2.loseV C 0 = V2.freeV C 0 := by unfold VS.loseV; rw [if_pos f1]
    rw [hl]
    refine ⟨rfl, by rw [f2, q3]; rfl, f3, (f4 0 _ _ a0).1, (f4 1 _ _ a1).1, (f4 2 _ _ a2).1, fun _ => ?_⟩
    rw [(f4 0 _ _ a0).2 (by decide), b0, if_pos rfl, List.getElem?_set_self (by rw [d0.len]; exact ha)]
  · -- the origin
    obtain rfl : g1 = false := hg
    have e0 : V.S.swE 0 C.n0 (a : Int) = 6 := (d0.swE p ha).trans rfl
    have e1 : V.S.swrite 0 C.n0 (a : Int) v = V.S := d0.swriteM p ha
    unfold VS.thr
    have q0 : ({ V with x := fx3 b } : VS).S.swE 0 C.n0 (a : Int) = 6 := e0
    rw [if_pos (by rw [q0]; decide)]
    have q1 : (({ V with x := fx3 b } : VS).wr0 C a v).S = V.S := e1
    have q3 : (({ V with x := fx3 b } : VS).wr0 C a v).x = fx3 b := rfl
    generalize (({ V with x := fx3 b } : VS).wr0 C a v) = V2 at *
    rw [← q1] at d0 d1 d2 p
    obtain ⟨f1, f2, f3, f4⟩ := Dk.free (C := C) (V := V2) d2 p (k := 0) (by omega)
    have hl : V2.loseV C 0 = V2.freeV C 0 := by unfold VS.loseV; rw [if_pos f1]
    rw [hl]
    exact ⟨q0, by rw [f2, q3]; rfl, f3, (f4 0 _ _ d0).1, (f4 1 _ _ d1).1, (f4 2 _ _ d2).1, fun e => by cases e⟩
/-- .. and what follows. -/
theorem fread (hx : V.x = fx4) (hb : a / C.chunk = b) (hw : ¬ C.n0 / C.chunk ≤ b) (ha : a < C.n0) (d0 : Dk V.S 0 C.n0 false) (p : Pw V.S) (hv : (V.S.now 0)[a]? = some v) : V.rdR C a = (v, 0) := by
  have hs : V.slt C a = (-1, 0, { V with x := ⟨[nilS, nilS], 2, [(b : Int)]⟩ }) := by
    unfold VS.slt
    rw [hb, if_neg hw, hx, show fx4.find (b : Int) = -1 from find0 _ _ _, if_neg (by decide)]
    have hm : CS.miss fx4 (b : Int) = (⟨[nilS, nilS], 2, [(b : Int)]⟩, false) := rfl
    rw [hm]
    rfl
  unfold VS.rdR
  rw [hs, if_neg (show ¬ ((0 : Int) ≠ 0) by decide), if_pos (show ((-1 : Int) < 0) by decide)]
  dsimp only
  rw [d0.sread p ha, d0.sE p ha, hv]
  rfl
theorem fflush (d0 : Dk V.S 0 C.n0 true) (d1 : Dk V.S 1 C.n1 false) (d2 : Dk V.S 2 C.n2 false) (p : Pw V.S) : V.flE = 6 := by
  have c1 : V.S.chkF 1 = 0 := (d1.chkF p).trans rfl
  obtain ⟨a0, -⟩ := d0.flush 1 d1.lt
  obtain ⟨a2, -⟩ := d2.flush 1 d1.lt
  have p1 := p.flush 1
  have c2 : (V.S.flush 1).chkF 2 = 0 := (a2.chkF p1).trans rfl
  obtain ⟨b0, -⟩ := a0.flush 2 a2.lt
  have c3 : ((V.S.flush 1).flush 2).chkF 0 = 6 := (b0.chkF (p1.flush 2)).trans rfl
  unfold VS.flE
  rw [if_neg (fun e => e c1), if_neg (fun e => e c2)]
  exact c3
end

end Go.Proofs.YtogchafnnkajfaaGreat

namespace Go.Proofs.YtogchafnnkajfaaGreat
set_option linter.unusedVariables false
open Go.RowKit
/-- Block g alone has changed. -/
theorem fra (g : Nat) (w : World) (o : Obj) : Fr (fun j => j = g) w (w.alloc o) := Fr.of_below ((Below.refl _ w).alloc (Nat.le_refl _) o)
theorem rd_fr {g base n c : Nat} {W W' : World} {e : TypeId} {A : Option Addr} {xs : List Value} (h : W.ownsRow base e 1 (.slice A n c) n xs) (hf : Fr (fun j => j = g) W W') (hg : g < base) : Reads W' A xs :=
  Reads.of_own (own_fr h hf (fun b hb e => by have := (h.lt b hb).1; omega))
theorem new_fr {w w' : World} {g : Nat} (cs : List Value) (ty : TypeId) (hg : g < w.heap.size) (hf : Fr (fun j => j = g) (w.alloc (.cells cs.toArray ty)) w') : Reads w' (some ⟨w.heap.size, 0, none⟩) cs := by
  have h := Reads.new w cs.toArray ty
  rw [List.toList_toArray] at h
  exact h.fr hf (fun _ p hp e => by injection hp with hp; subst hp; exact absurd e (by show ¬ w.heap.size = g; omega))
theorem new_fr2 {w w' : World} {g : Nat} {cs : List Value} {ty : TypeId} {ob : Obj} (ho : ob = .cells cs.toArray ty) (hg : g < w.heap.size) (hf : Fr (fun j => j = g) (w.alloc ob) w') : Reads w' (some ⟨w.heap.size, 0, none⟩) cs := by
  subst ho
  exact new_fr cs ty hg hf

end Go.Proofs.YtogchafnnkajfaaGreat

namespace Go.Proofs.YtogchafnnkajfaaGreat
set_option linter.unusedVariables false
open Go.RowKit
attribute [local go_sem] Oper.semAt_some m_write m_read m_flush m_size

section
variable {lo : Nat} {W0 W W' : World} {X : Nat → Prop} {pb bL cL : Nat} {C : VC} {K : RC} {R Q : RV} {n : Nat}
theorem PP.ok (h : PP lo W0 W X pb bL cL C K R Q n) : R.x.Ok := by
  obtain ⟨Fv, Fq, V, h⟩ := h
  rw [← h.y.x]
  exact h.y.ok
/-- Both sides, where a device may be missing. -/
structure PM (lo : Nat) (W0 W : World) (pb bL cL : Nat) (C : VC) (V : VS) (K : RC) (Q : RV) (st : CS) (g0 g1 : Bool) (N : Nat) : Prop where
  p : ∃ Fv Fq, P33 lo W Fv Fq pb bL cL C V K false Q
  x : V.x = st
  pm : V.pm = false
  ok : V.x.Ok
  len : V.x.sl.length = V.ss.length
  clo : V.closed = false
  d0 : Dk V.S 0 C.n0 g0
  d1 : Dk V.S 1 C.n1 g1
  d2 : Dk V.S 2 C.n2 false
  pw : Pw V.S
  log : V.S.log.length ≤ N
  wr : V.S.wr ≤ N
  clk : V.x.clk ≤ N
  bel : Below W0.heap.size W0 W
  low : W0.heap.size ≤ lo
theorem PM.cells {V : VS} {st : CS} {g0 g1 : Bool} {N : Nat} (h : PM lo W0 W pb bL cL C V K Q st g0 g1 N) : W.cell? ⟨pb, 0, none⟩ = some (.pointer (some ⟨C.g, 0, none⟩)) ∧ W.cell? ⟨pb, 1, none⟩ = some (.slice (some ⟨bL, 0, none⟩) 3 cL) ∧ W.cell? ⟨pb, 2, none⟩ = some (.pointer (some ⟨C.v, 0, none⟩)) ∧ W.cell? ⟨pb, 3, none⟩ = some (.pointer (some ⟨K.r, 0, none⟩)) ∧
    W.cell? ⟨bL, 0, none⟩ = some (.iface 176 (.pointer (some ⟨C.s0, 0, none⟩))) ∧ W.cell? ⟨bL, 1, none⟩ = some (.iface 176 (.pointer (some ⟨C.s1, 0, none⟩))) ∧ W.cell? ⟨bL, 2, none⟩ = some (.iface 176 (.pointer (some ⟨C.s2, 0, none⟩))) := by
  obtain ⟨Fv, Fq, p⟩ := h.p
  exact p.cells
theorem PM.keep {V : VS} {st : CS} {g0 g1 : Bool} {N : Nat} (h : PM lo W0 W pb bL cL C V K Q st g0 g1 N) (hb : Below W.heap.size W W') : PM lo W0 W' pb bL cL C V K Q st g0 g1 N := by
  obtain ⟨Fv, Fq, p⟩ := h.p
  exact ⟨⟨Fv, Fq, p.keep hb⟩, h.x, h.pm, h.ok, h.len, h.clo, h.d0, h.d1, h.d2, h.pw, h.log, h.wr, h.clk, h.bel.trans (hb.mono h.bel.size), h.low⟩
/-- A device goes missing. -/
theorem PP.setMiss (h : PP lo W0 W X pb bL cL C K R Q n) (hm1 : K.mode = 1) (hn : n ≤ 5000) (i : Nat) (hi : i < 3) (hi2 : i ≠ 2) :
    Calls Tryz.prog 33 #[.pointer (some ⟨C.g, 0, none⟩), .int .i64 (i : Int), .bool true] W fun e W' => e = .returned (.int .i64 0) ∧ ∃ V, PM lo W0 W' pb bL cL C V K Q R.x (decide (0 = i)) (decide (1 = i)) n := by
  obtain ⟨Fv, Fq, V, h⟩ := h
  obtain ⟨Fc, A, c, B, d, hv⟩ := h.p.vol
  obtain ⟨F, A', c', hca⟩ := hv.cache
  have hh := h.y.vi.k.hea
  have hl := h.p.lt
  have h0 := h.low
  have hlg := h.y.log
  have hwr := h.y.wr
  have hck := h.y.clk
  refine (amiss_any W F C.g i V.S hca.dsk (by rw [hh.nd]; exact hi)).mono ?_
  rintro e w2 ⟨rfl, hd2, hf2⟩
  have ht2 : Turn F F W w2 := ⟨hf2, fun j hj => .inl hj⟩
  have hv2 : VolIn w2 _ _ C { V with S := V.S.miss i } A c B d := hv.turn ⟨_, _, _, hca.turn hd2 ht2⟩ (turn_wide hca.inF ht2)
  have ht3 := hv.wide (turn_wide hca.inF ht2)
  obtain ⟨a0, -⟩ := Dk.miss hh i 0 hi (n := C.n0) rfl
  obtain ⟨a1, -⟩ := Dk.miss hh i 1 hi (n := C.n1) rfl
  obtain ⟨a2, -⟩ := Dk.miss hh i 2 hi (n := C.n2) rfl
  rw [decide_eq_false (fun e => hi2 e.symm)] at a2
  refine ⟨rfl, { V with S := V.S.miss i }, ⟨⟨_, _, h.p.vd ⟨_, _, _, _, _, hv2⟩ ht3⟩, h.y.x, by rw [show ({ V with S := V.S.miss i } : VS).pm = V.pm from rfl, h.pm, hm1]; decide, h.y.ok, h.y.len, h.y.clo, a0, a1, a2, ⟨h.y.dn, h.y.fu⟩, by show V.S.log.length ≤ _; omega, by show V.S.wr ≤ _; omega, by show V.x.clk ≤ _; omega, h.bel.trans (ht3.1.below (by omega) (fun j hj => Nat.le_trans h.low (h.p.lof j (.inl hj)))), h.low⟩⟩
/-- The write. -/
theorem PM.write {V : VS} {b a v : Nat} {g0 : Bool} {N : Nat} (h : PM lo W0 W pb bL cL C V K Q (fx2 b) g0 (!g0) N) (hN : N ≤ 50000) (hk : PK C K) (hb : a / C.chunk = b) (hw : ¬ C.n0 / C.chunk ≤ b) (ha : a < C.n0) (hn1 : 2 * C.chunk ≤ C.n1) (hn2 : C.n2 = 3) (hv : v < 18446744073709551616) :
    Calls Tryz.prog 31 #[.pointer (some ⟨C.v, 0, none⟩), .int .i64 (a : Int), .int .u64 (v : Int)] W fun e W' => e = .returned (.int .i64 (if g0 = true then 6 else 0)) ∧ ∃ V', PM lo W0 W' pb bL cL C V' K Q fx4 g0 (!g0) (N + 200) ∧ (g0 = false → (V'.S.now 0)[a]? = some v) := by
  obtain ⟨Fv, Fq, p⟩ := h.p
  have h1 := h.log
  have h2 := h.wr
  have h3 := h.clk
  have hc := hk.c1
  have hb0 := hk.b0
  have hb1 := hk.b1
  have hb2 := hk.b2
  have hl := p.lt
  have h0 := h.low
  obtain ⟨r1, r2, r3, r4, r5, r6, r7⟩ := fwrt (v := v) h.x h.pm hb hw ha hc.1 hn1 hn2 h.d0 h.d1 h.d2 h.pw rfl
  have hbd := Bd.wrt (C := C) (v := v) h.ok h.len (by omega) ha (by omega)
  have hbl := hbd.log
  have hbw := hbd.wr
  have hbc := hbd.clk
  refine (vwrite_any W Fv C V a v p.vol h.ok h.len h.clo ha hv (by omega) (by omega) (by omega) (by omega) (by omega) (by omega) (by omega) (by omega)).mono ?_
  rintro e W' ⟨rfl, Fv', hv', ht⟩
  rw [r1]
  exact ⟨rfl, _, ⟨⟨_, _, p.vd hv' ht⟩, r2, hbd.pm.trans h.pm, hbd.ok, hbd.len, hbd.clo.trans h.clo, r4, r5, r6, r3, by omega, by omega, by omega, h.bel.trans (ht.1.below (by omega) (fun j hj => Nat.le_trans h.low (p.lof j (.inl hj)))), h.low⟩, r7⟩
theorem PM.state {V : VS} {st : CS} {g0 g1 : Bool} {N : Nat} (h : PM lo W0 W pb bL cL C V K Q st g0 g1 N) :
    Calls Tryz.prog 26 #[.pointer (some ⟨C.v, 0, none⟩)] W (StP W st) := by
  obtain ⟨Fv, Fq, p⟩ := h.p
  have h1 := h.ok.len
  have h2 := h.ok.msl
  have := vstate_any W Fv C V p.vol (by omega) (by omega)
  rw [h.x] at this
  exact this
theorem PM.flush {V : VS} {st : CS} {N : Nat} (h : PM lo W0 W pb bL cL C V K Q st true false N) (hN : N ≤ 100000) :
    Calls Tryz.prog 34 #[.pointer (some ⟨C.v, 0, none⟩)] W fun e W' => e = .returned (.int .i64 6) ∧ Below W0.heap.size W0 W' := by
  obtain ⟨Fv, Fq, p⟩ := h.p
  have h1 := h.log
  have hl := p.lt
  have h0 := h.low
  refine (vflush_any W Fv C V p.vol h.clo (by omega)).mono ?_
  rintro e W' ⟨rfl, Fv', hv', ht⟩
  rw [fflush h.d0 h.d1 h.d2 h.pw]
  exact ⟨rfl, h.bel.trans (ht.1.below (by omega) (fun j hj => Nat.le_trans h.low (p.lof j (.inl hj))))⟩
theorem PM.read {V : VS} {b a v : Nat} {g1 : Bool} {N : Nat} (h : PM lo W0 W pb bL cL C V K Q fx4 false g1 N) (hN : N ≤ 100000) (hk : PK C K) (hb : a / C.chunk = b) (hw : ¬ C.n0 / C.chunk ≤ b) (ha : a < C.n0) (hv : (V.S.now 0)[a]? = some v) :
    Calls Tryz.prog 22 #[.pointer (some ⟨C.v, 0, none⟩), .int .i64 (a : Int)] W fun e W' => e = .returned (.tuple #[.int .u64 (v : Int), .int .i64 0]) ∧ Below W0.heap.size W0 W' := by
  obtain ⟨Fv, Fq, p⟩ := h.p
  have h1 := h.log
  have h2 := h.wr
  have h3 := h.clk
  have hc := hk.c1
  have hb0 := hk.b0
  have hb1 := hk.b1
  have hb2 := hk.b2
  have hl := p.lt
  have h0 := h.low
  refine (vread_any W Fv C V a p.vol h.ok h.len h.clo ha (by omega) (by omega) (by omega) (by omega) (by omega) (by omega) (by omega) (by omega)).mono ?_
  rintro e W' ⟨rfl, -, Fv', hv', ht⟩
  rw [fread h.x hb hw ha h.d0 h.pw hv]
  exact ⟨rfl, h.bel.trans (ht.1.below (by omega) (fun j hj => Nat.le_trans h.low (p.lof j (.inl hj))))⟩
theorem PM.dsk {V : VS} {st : CS} {g1 : Bool} {N a v : Nat} (h : PM lo W0 W pb bL cL C V K Q st false g1 N) (ha : a < C.n0) (hn0 : C.n0 ≤ 65536) (hv : (V.S.now 0)[a]? = some v) :
    Calls Tryz.prog 190 #[.pointer (some ⟨C.s0, 0, none⟩), .int .i64 (a : Int)] W fun e w' => e = .returned (.tuple #[.int .u64 (v : Int), .int .i64 0]) ∧ Below W.heap.size W w' := by
  obtain ⟨Fv, Fq, p⟩ := h.p
  obtain ⟨Fc, A, c, B, d, hvv⟩ := p.vol
  obtain ⟨F, A', c', hca⟩ := hvv.cache
  have := sread_any W F C.g C.s0 0 C.n0 V.S (a : Int) hca.dsk hvv.sp0 hn0
  rw [h.d0.sread h.pw ha, h.d0.sE h.pw ha, hv] at this
  exact this
end

theorem ch3 (ch : Nat) (h : 1 ≤ ch ∧ ch ≤ 3) : ∃ q T : Nat, IntKind.i64.wrap (12 / (ch : Int)) = (q : Int) ∧ (12 : Int) / (ch : Int) = (q : Int) ∧ IntKind.i64.wrap ((q : Int) * (ch : Int)) = (T : Int) ∧ 1 ≤ T ∧ T ≤ 12 ∧ ∀ a, a < T → (a / ch + 1) * ch ≤ 12 ∧ ¬ 12 / ch ≤ a / ch := by
  have e : ∀ q T : Nat, q * ch = T → T ≤ 12 → IntKind.i64.wrap ((q : Int) * (ch : Int)) = (T : Int) := fun q T h1 h2 => by rw [← Int.natCast_mul, h1, IntWalk.i64_in _ (by omega)]
  have hq := div_wrap 12 ch (by omega)
  have : ch = 1 ∨ ch = 2 ∨ ch = 3 := by omega
  rcases this with rfl | rfl | rfl
  · exact ⟨12, 12, hq, rfl, e 12 12 rfl (by omega), by omega, by omega, fun a ha => by omega⟩
  · exact ⟨6, 12, hq, rfl, e 6 12 rfl (by omega), by omega, by omega, fun a ha => by omega⟩
  · exact ⟨4, 12, hq, rfl, e 4 12 rfl (by omega), by omega, by omega, fun a ha => by omega⟩
def fxn (b : Nat) : Nat → CS
  | 0 => ⟨[nilS, nilS], 0, []⟩
  | 1 => fx1 b
  | _ => fx2 b

set_option maxRecDepth 100000 in
set_option maxHeartbeats 8000000 in
theorem fails33_any (A : Option Addr) (c n0 : Nat) (ls : List Int) (first : Bool) (W : World) (hn : ls.length = n0) (hA : Reads W A (iv ls)) (hw : I64 ls) (hc : n0 ≤ c) :
    Calls Tryz.prog 6 #[.slice A n0 c, .bool first] W fun e W' => e = .returned (.bool true) ∧ Below W.heap.size W W' := by
  go_enter Tryz.func6, Tryz.ntmps6
  go_wp2_with fail
  refine (new_any A n0 c ls W hn hA hw hc).mono ?_
  rintro e W1 ⟨rfl, hs1, hb1, hsz1⟩
  go_wp2_with fail
  refine (range_any W.heap.size 1 3 W1 hs1 (by omega) (by omega) (by omega)).mono ?_
  rintro e W3 ⟨chi, rfl, hc1, hc4, hs3, hg3⟩
  obtain ⟨ch, hche⟩ : ∃ n : Nat, chi = (n : Int) := ⟨chi.toNat, by omega⟩
  subst hche
  have HB3 := Lib.hid (gb_Below hb1 hg3 hb1.size (Nat.le_refl _))
  have HS3 := Lib.hid hs3
  have HSD := Lib.hid (hs3.keep (Below.refl _ W3).drew)
  have hsa := fun ob : Obj => (hs3.alloc ob).keep (Below.refl _ (W3.alloc ob)).drew
  clear hs1 hb1 hg3 hsz1 hn hA hw hc hs3
  obtain ⟨q, T, u1, u1', u2, hT1, hT2, hTa⟩ := ch3 ch (by omega)
  have HTA := Lib.hid hTa
  clear hTa
  obtain ⟨z, hz⟩ : ∃ z : Nat, 2 * ch = z := ⟨_, rfl⟩
  have ez : IntKind.i64.wrap (2 * (ch : Int)) = (z : Int) := (IntWalk.i64_in _ (by omega)).trans (by omega)
  have hzl : 2 ≤ z ∧ z ≤ 6 := by omega
  have HZ := Lib.hid hz
  obtain ⟨ob, hob⟩ : ∃ ob : Obj, ob = .cells (uv (List.replicate z 0)).toArray 26 := ⟨_, rfl⟩
  have HOB := Lib.hid hob
  have HSA := Lib.hid (hsa ob)
  clear hsa
  have hmk : ∀ w : World, (Instr.makeSlice 29 (.int .i64 (z : Int)) (.int .i64 (z : Int))).run Tryz.prog w = .ok (.slice (some ⟨w.heap.size, 0, none⟩) z z) (w.alloc ob) := fun w => by rw [HOB.out]; exact run_make_u64 z (by omega) w
  clear hob hz
  go_upto_region 3 with (fail)
  go_cut [7, 8] (fun a1 a2 wx => ∃ lo pb bL cL C K, a1 = .pointer (some ⟨pb, 0, none⟩) ∧ a2 = .bool true ∧ PK C K ∧ C.chunk = ch ∧ C.n0 = 12 ∧ C.n1 = z ∧ C.n2 = 3 ∧ K.mode = 1 ∧ W.heap.size < lo ∧ PP lo W wx (fun _ => False) pb bL cL C K (rvN (wordsL 3 12) (List.replicate z 0) 2 ch 1) (rvN (wordsL 3 12) (List.replicate z 0) 2 ch 1) 30 ∧ SrcAt wx W.heap.size)
  case first =>
    go_region_with ((first
      | (go_at_call 15; have r0 : Reads (W6) A5 (uv (wordsL 3 12)) := (by with_reducible exact rd_fr ho5 (f6) HSA.out.lt); have r1 : Reads (W6) (some ⟨W3.heap.size, 0, none⟩) (uv (List.replicate z 0)) := (by with_reducible exact new_fr2 HOB.out HS3.out.lt ((Fr.refl _ (W3.alloc ob)).drew.trans (f5.trans f6))); have r2 : Reads (W6) A6 (uv (newW 2 ch)) := (by with_reducible exact rd_fr ho6 (Fr.refl _ W6) HS5.out.lt); have hh := start33_any (W6) A5 (some ⟨W3.heap.size, 0, none⟩) A6 12 z (2 + 1) c5 z c6 (wordsL 3 12) (List.replicate z 0) (newW 2 ch) r0 r1 r2 (wordsL_length 3 12) List.length_replicate (newW_length 2 ch) (by omega) (by omega) (by omega) (wordsL_w 3 12) (by intro x hx; rw [(List.mem_replicate.1 hx).2]; omega) (newW_w 2 ch) 1 (by omega); clear r0 r1 r2; (with_reducible refine hh.mono ?_); clear hh; rintro e W9 ⟨pb, rfl, hb9, hno9, hok⟩; have HK8 := Lib.hid (show W.heap.size < (W6).heap.size ∧ Below W.heap.size W (W6) from ⟨HS6.out.lt, HB3.out.trans (Fr.below (((fra _ W3 ob).trans (Fr.refl _ (W3.alloc ob)).drew).trans (f5.trans f6)) HB3.out.size (fun j hj => Nat.le_of_eq hj.symm))⟩); have HS9 := Lib.hid (SrcAt.keep HS6.out hb9); have HOK9 := Lib.hid hok; have HB9 := Lib.hid hb9; clear hok hno9 hb9)
      | (go_at_call 15; have r0 : Reads (W6) A5 (uv (wordsL 3 12)) := (by with_reducible exact rd_fr ho5 ((fra _ W5 ob).trans f6) HSD.out.lt); have r1 : Reads (W6) (some ⟨W5.heap.size, 0, none⟩) (uv (List.replicate z 0)) := (by with_reducible exact new_fr2 HOB.out HS5.out.lt (f6)); have r2 : Reads (W6) A6 (uv (newW 2 ch)) := (by with_reducible exact rd_fr ho6 (Fr.refl _ W6) (HS5.out.alloc ob).lt); have hh := start33_any (W6) A5 (some ⟨W5.heap.size, 0, none⟩) A6 12 z (2 + 1) c5 z c6 (wordsL 3 12) (List.replicate z 0) (newW 2 ch) r0 r1 r2 (wordsL_length 3 12) List.length_replicate (newW_length 2 ch) (by omega) (by omega) (by omega) (wordsL_w 3 12) (by intro x hx; rw [(List.mem_replicate.1 hx).2]; omega) (newW_w 2 ch) 1 (by omega); clear r0 r1 r2; (with_reducible refine hh.mono ?_); clear hh; rintro e W9 ⟨pb, rfl, hb9, hno9, hok⟩; have HK8 := Lib.hid (show W.heap.size < (W6).heap.size ∧ Below W.heap.size W (W6) from ⟨HS6.out.lt, HB3.out.trans (Fr.below ((Fr.refl _ W3).drew.trans (f5.trans ((fra _ W5 ob).trans f6))) HB3.out.size (fun j hj => Nat.le_of_eq hj.symm))⟩); have HS9 := Lib.hid (SrcAt.keep HS6.out hb9); have HOK9 := Lib.hid hok; have HB9 := Lib.hid hb9; clear hok hno9 hb9)
      | (go_at_call 15; have r0 : Reads (W6.alloc ob) A5 (uv (wordsL 3 12)) := (by with_reducible exact rd_fr ho5 (f6.trans (fra _ W6 ob)) HSD.out.lt); have r1 : Reads (W6.alloc ob) (some ⟨W6.heap.size, 0, none⟩) (uv (List.replicate z 0)) := (by with_reducible exact new_fr2 HOB.out HS6.out.lt (Fr.refl _ (W6.alloc ob))); have r2 : Reads (W6.alloc ob) A6 (uv (newW 2 ch)) := (by with_reducible exact rd_fr ho6 (fra _ W6 ob) HS5.out.lt); have hh := start33_any (W6.alloc ob) A5 (some ⟨W6.heap.size, 0, none⟩) A6 12 z (2 + 1) c5 z c6 (wordsL 3 12) (List.replicate z 0) (newW 2 ch) r0 r1 r2 (wordsL_length 3 12) List.length_replicate (newW_length 2 ch) (by omega) (by omega) (by omega) (wordsL_w 3 12) (by intro x hx; rw [(List.mem_replicate.1 hx).2]; omega) (newW_w 2 ch) 1 (by omega); clear r0 r1 r2; (with_reducible refine hh.mono ?_); clear hh; rintro e W9 ⟨pb, rfl, hb9, hno9, hok⟩; have HK8 := Lib.hid (show W.heap.size < (W6.alloc ob).heap.size ∧ Below W.heap.size W (W6.alloc ob) from ⟨(HS6.out.alloc ob).lt, HB3.out.trans (Fr.below ((Fr.refl _ W3).drew.trans (f5.trans (f6.trans (fra _ W6 ob)))) HB3.out.size (fun j hj => Nat.le_of_eq hj.symm))⟩); have HS9 := Lib.hid (SrcAt.keep (HS6.out.alloc ob) hb9); have HOK9 := Lib.hid hok; have HB9 := Lib.hid hb9; clear hok hno9 hb9)
      | (go_at_call 19; have hh := words33_any 2 ch W5 (by omega) (by omega); rw [show ((2 : Nat) : Int) = 2 from rfl] at hh; (with_reducible refine hh.mono ?_); clear hh; rintro e W6 ⟨v6, rfl, ho6, hb6⟩; obtain ⟨A6, c6, hv6⟩ := own_form ho6; subst hv6; have f6 := Fr.of_below (G := fun j => j = W.heap.size) hb6; have HS6 := Lib.hid (HS5.out.keep hb6))
      | (go_at_call 19; have hh := words33_any 2 ch (W5.alloc ob) (by omega) (by omega); rw [show ((2 : Nat) : Int) = 2 from rfl] at hh; (with_reducible refine hh.mono ?_); clear hh; rintro e W6 ⟨v6, rfl, ho6, hb6⟩; obtain ⟨A6, c6, hv6⟩ := own_form ho6; subst hv6; have f6 := Fr.of_below (G := fun j => j = W.heap.size) hb6; have HS6 := Lib.hid ((HS5.out.alloc ob).keep hb6))
      | (go_at_call 16; have hh := words2_any 12 3 W3.drew (by omega); rw [show ((12 : Nat) : Int) = 12 from rfl] at hh; (with_reducible refine hh.mono ?_); clear hh; rintro e W5 ⟨v5, rfl, ho5, hb5⟩; obtain ⟨A5, c5, hv5⟩ := own_form ho5; subst hv5; have f5 := Fr.of_below (G := fun j => j = W.heap.size) hb5; have HS5 := Lib.hid (HSD.out.keep hb5))
      | (go_at_call 16; have hh := words2_any 12 3 (W3.alloc ob).drew (by omega); rw [show ((12 : Nat) : Int) = 12 from rfl] at hh; (with_reducible refine hh.mono ?_); clear hh; rintro e W5 ⟨v5, rfl, ho5, hb5⟩; obtain ⟨A5, c5, hv5⟩ := own_form ho5; subst hv5; have f5 := Fr.of_below (G := fun j => j = W.heap.size) hb5; have HS5 := Lib.hid (HSA.out.keep hb5))))
    all_goals
      have hkz : 2 * ch ≤ z := Nat.le_of_eq HZ.out
      obtain ⟨Fv, Fq, bL, cL, g, s0, s1, s2, m, v, r, bo, co, bf, cf, bm, cm, hp⟩ := HOK9.out (op_new (wordsL 3 12) (List.replicate z 0) 2 ch 12 z 1 (by omega) (by omega) (.inl rfl) (wordsL_length 3 12) List.length_replicate hkz)
      have hw8 := HK8.out
      obtain ⟨q1, q2⟩ := pp_new (n0 := 12) (n1 := z) (n2 := 2 + 1) (k := 2) (ch := ch) (l0 := wordsL 3 12) (l1 := List.replicate z 0) (by omega) (by omega) (.inl rfl) (wordsL_length 3 12) List.length_replicate rfl hkz (by omega) (by omega) hp (hw8.2.trans (HB9.out.mono hw8.2.size)) (Nat.le_of_lt hw8.1)
      have HQ1 := Lib.hid q1
      have HQ2 := Lib.hid q2
      clear hp q1 q2 ho5 ho6 hmk hkz f5 f6 hb5 hb6 ez
      go_wp2_with fail
      go_meet
      case rel => exact ⟨_, pb, bL, cL, _, _, rfl, rfl, HQ2.out, rfl, rfl, rfl, rfl, rfl, hw8.1, HQ1.out, HS9.out⟩
  case rest =>
    obtain ⟨lo, pb, bL, cL, C, K, rfl, rfl, hpk, hch, hcn0, hcn1, hcn2, hmd, hlo, hp0, hs0⟩ := hcut
    have HP0 := Lib.hid hp0
    have HS0 := Lib.hid hs0
    have HPK := Lib.hid hpk
    have HC : Hid (C.chunk = ch ∧ C.n0 = 12 ∧ C.n1 = z ∧ C.n2 = 3 ∧ K.mode = 1) := ⟨hch, hcn0, hcn1, hcn2, hmd⟩
    obtain ⟨-, -, x2, -, -, -, -⟩ := hp0.cells
    have t0 : ¬ (ch : Int) = 0 := by omega
    clear hp0 hs0 hpk hch hcn0 hcn1 hcn2 hmd HS3 HSD HB3 HOB hmk ez
    go_wp2_with fail
    refine (n_any W.heap.size (T : Int) _ HS0.out (by omega) (by omega)).mono ?_
    rintro e W10 ⟨a0, rfl, ha0, ha1, hs10, hg10⟩
    obtain ⟨a, hae⟩ : ∃ a : Nat, a0 = (a : Int) := ⟨a0.toNat, by omega⟩
    subst hae
    have HP10 := Lib.hid (HP0.out.grown hlo hg10)
    clear HP0 HS0 x2 hs10 hg10
    obtain ⟨hw1, hw2⟩ := HTA.out a (by omega)
    have HW := Lib.hid (show (a / ch + 1) * ch ≤ 12 ∧ ¬ 12 / ch ≤ a / ch from ⟨hw1, hw2⟩)
    have e1 := div_wrap a ch (by omega)
    have ha12 : a < 12 := by omega
    clear HTA hw1 hw2 u1 u1' u2
    obtain ⟨b, hb⟩ : ∃ b, a / ch = b := ⟨_, rfl⟩
    rw [hb] at e1 HW
    have e1' : (a : Int) / (ch : Int) = (b : Int) := by rw [← hb]; exact (Int.natCast_ediv a ch).symm
    have t0' : ¬ ch = 0 := by omega
    have e1w : IntKind.i64.wrap (b : Int) = (b : Int) := IntWalk.i64_in _ (by have := Nat.div_le_self a ch; omega)
    have HBE := Lib.hid hb
    clear hb
    obtain ⟨R00, hR00⟩ : ∃ R00, R00 = rvN (wordsL 3 12) (List.replicate z 0) 2 ch 1 := ⟨_, rfl⟩
    have HR00 : Hid (R00.o.length = 12 ∧ R00.x = fxn b 0) := by rw [hR00]; exact ⟨wordsL_length 3 12, rfl⟩
    rw [← hR00] at HP10
    clear hR00
    obtain ⟨Q0, HP10⟩ : ∃ Q0, Hid (PP lo W W10 (fun _ => False) pb bL cL C K R00 Q0 30) := ⟨_, HP10⟩
    go_wp2_with fail
    go_loopw [10] (fun s10 wx => ∃ (i : Nat) (R : RV), s10 = .int .i64 i ∧ i ≤ 2 ∧ R.o.length = 12 ∧ R.x = fxn b i ∧ PP lo W wx (fun _ => False) pb bL cL C K R Q0 (30 + 20 * i)) (fun s10 _ => 2 - (intOf s10).toNat)
    case atStart => exact ⟨0, R00, rfl, by omega, HR00.out.1, HR00.out.2, HP10.out⟩
    case round =>
      rename World => wx
      obtain ⟨i, R, rfl, hi, hol, hRx, hp⟩ := hrel
      have HP := Lib.hid hp
      obtain ⟨-, -, x2, -, -, -, -⟩ := hp.cells
      have HOL := Lib.hid hol
      have HRX := Lib.hid hRx
      clear hp hol hRx HP10
      by_cases hi2 : i < 2
      · have t1 : (i : Int) < 2 := by omega
        have hv := HP.out.vread HPK.out (a := a) (by rw [HC.out.2.1]; omega) (by omega)
        have hnx : (R.read C.chunk a).2.o.length = 12 ∧ (R.read C.chunk a).2.x = fxn b (i + 1) := by
          obtain ⟨o, f, m, x⟩ := R
          have hx := HRX.out
          have ho := HOL.out
          dsimp only at hx ho
          subst hx
          rw [HC.out.1]
          have hw := HW.out.1
          have hbe := HBE.out
          subst hbe
          have : i = 0 ∨ i = 1 := by omega
          rcases this with rfl | rfl
          · rw [show fxn (a / ch) 0 = ⟨[nilS, nilS], 0, []⟩ from rfl, fl1 o f m ch a (by rw [ho]; exact hw)]
            exact ⟨ho, rfl⟩
          · obtain ⟨f', m', h⟩ := fl2 o f m ch a (by rw [ho]; exact hw)
            rw [show fxn (a / ch) 1 = fx1 (a / ch) from rfl, h]
            exact ⟨ho, rfl⟩
        have HNX := Lib.hid hnx
        have HV := Lib.hid hv
        have hcc : C.chunk ≤ 3 := by rw [HC.out.1]; omega
        have HCC := Lib.hid hcc
        clear hnx hv hcc
        go_upto_region 11 with (go_at_call 22; (with_reducible refine HV.out.mono ?_); rintro e w1 ⟨rfl, -, hp1, -⟩)
        have HP1 := Lib.hid (hp1.mono (m := 30 + 20 * (i + 1)) (by have := HCC.out; omega))
        clear hp1 HV HP x2
        go_wp2_with fail
        go_roundw
        case rel => exact ⟨i + 1, _, by go_num, by omega, HNX.out.1, HNX.out.2, HP1.out⟩
        case measure => simp [intOf]; omega
      · have t1 : ¬ (i : Int) < 2 := by omega
        have hi3 : i = 2 := by omega
        have hx2 : R.x = fx2 b := by rw [HRX.out, hi3]; rfl
        have hok := HP.out.ok
        have hst := (HP.out.keep (Below.refl _ wx).drew).vstate
        rw [hx2] at hok hst
        have HST : Hid (Calls Tryz.prog 26 #[.pointer (some ⟨C.v, 0, none⟩)] wx.drew (fun e w => (∃ v, e = .returned v ∧ RsOut wx.heap.size w (fx2 b) v) ∧ Below wx.heap.size wx.drew w)) := hst
        have HOK := Lib.hid hok
        have HX2 := Lib.hid hx2
        clear hok hst hx2 HRX
        go_upto_region 13 with (fail)
        go_region_held3 (fun w' => w'.cell? ⟨pb, 2, none⟩ = some (.pointer (some ⟨C.v, 0, none⟩)))
          (first | with_reducible exact y2 | with_reducible exact y1 | exact x2)
          (first
          | (go_at_call 32; have hh := rfind_any w1 A1 B1 n1 c1 m1 d1 (fx2 b) HOK.out (b : Int) HN1.out HM1.out (Reads.of_own HS1.out) (own_reads HR1.out); unfold csV at hh; rw [show (fx2 b).find (b : Int) = 0 from find2 b 1 1 []] at hh; (with_reducible refine hh.mono ?_); clear hh; rintro e w2 ⟨rfl, hb2⟩; have HP2 := Lib.hid (HP1.out.keep hb2); have y2 := HP2.out.cells.2.2.1)
          | (go_at_call 26; (with_reducible refine HST.out.mono ?_); rintro e w1 ⟨⟨v, rfl, hs1⟩, hb1'⟩; obtain ⟨A1, n1, c1, m1, B1, d1, rfl, hn1, hm1, hS1, hM1⟩ := hs1; unfold csV; have HS1 := Lib.hid hS1; have HR1 := Lib.hid hM1; have HN1 := Lib.hid hn1; have HM1 := Lib.hid hm1; have HP1 := Lib.hid (HP.out.keep ((Below.refl _ wx).drew.trans hb1')); have y1 := HP1.out.cells.2.2.1))
        have HB1 : Hid (Below wx.heap.size wx w1) := (Below.refl _ wx).drew.trans hb1'
        clear y1 y2 x2 hb1' hb2 HS1 HR1 HN1 HM1 hS1 hM1 hn1 hm1 HST HP HP1
        have hwx : a / C.chunk = b ∧ ¬ C.n0 / C.chunk ≤ b ∧ a < C.n0 ∧ 2 * C.chunk ≤ C.n1 ∧ C.n2 = 3 := by
          obtain ⟨c1, c2, c3, c4, c5⟩ := HC.out
          rw [c1, c2, c3]
          exact ⟨HBE.out, HW.out.2, ha12, Nat.le_of_eq HZ.out, c4⟩
        have HWX := Lib.hid hwx
        clear hwx
        cases first
        · -- the slot's device
          have hsm := (HP2.out.keep (Below.refl _ w2).drew).setMiss HC.out.2.2.2.2 (by omega) 1 (by omega) (by omega)
          rw [HX2.out, show ((1 : Nat) : Int) = 1 from rfl] at hsm
          have HSM := Lib.hid hsm
          obtain ⟨x0, -, x2, -, -, -, -⟩ := HP2.out.cells
          clear hsm
          go_upto_region 19 with (fail)
          go_region_held3 (fun w' => w'.cell? ⟨pb, 0, none⟩ = some (.pointer (some ⟨C.g, 0, none⟩)) ∧ w'.cell? ⟨pb, 2, none⟩ = some (.pointer (some ⟨C.v, 0, none⟩)))
            (first | with_reducible exact y6 | with_reducible exact y5 | with_reducible exact y4 | with_reducible exact y3 | exact ⟨x0, x2⟩)
            (first
            | (go_at_call 32; have hh := rfind_any w5 A5 B5 n5 c5 m5 d5 fx4 HOK4.out (b : Int) HN5.out HD5.out (Reads.of_own HS5.out) (own_reads HR5.out); unfold csV at hh; rw [show fx4.find (b : Int) = -1 from find0 _ _ _] at hh; (with_reducible refine hh.mono ?_); clear hh; rintro e w6 ⟨rfl, hb6⟩; have HM6 := Lib.hid (HM5.out.keep hb6); have y6 : w6.cell? ⟨pb, 0, none⟩ = some (.pointer (some ⟨C.g, 0, none⟩)) ∧ w6.cell? ⟨pb, 2, none⟩ = some (.pointer (some ⟨C.v, 0, none⟩)) := ⟨HM6.out.cells.1, HM6.out.cells.2.2.1⟩)
            | (go_at_call 26; have hh := HM4.out.state; unfold StP at hh; (with_reducible refine hh.mono ?_); clear hh; rintro e w5 ⟨⟨v, rfl, hs5⟩, hb5⟩; obtain ⟨A5, n5, c5, m5, B5, d5, rfl, hn5, hm5, hS5, hR5⟩ := hs5; unfold csV; have HS5 := Lib.hid hS5; have HR5 := Lib.hid hR5; have HN5 := Lib.hid hn5; have HD5 := Lib.hid hm5; have HM5 := Lib.hid (HM4.out.keep hb5); have y5 : w5.cell? ⟨pb, 0, none⟩ = some (.pointer (some ⟨C.g, 0, none⟩)) ∧ w5.cell? ⟨pb, 2, none⟩ = some (.pointer (some ⟨C.v, 0, none⟩)) := ⟨HM5.out.cells.1, HM5.out.cells.2.2.1⟩)
            | (go_at_call 31; have hh := HM3.out.write (by omega) HPK.out HWX.out.1 HWX.out.2.1 HWX.out.2.2.1 HWX.out.2.2.2.1 HWX.out.2.2.2.2 (v := 77) (by omega); rw [show ((77 : Nat) : Int) = 77 from rfl, if_neg (show ¬ (false : Bool) = true by decide)] at hh; (with_reducible refine hh.mono ?_); clear hh; rintro e w4 ⟨rfl, V4, hm4, hv4⟩; have HM4 := Lib.hid hm4; have HV4 := Lib.hid hv4; have HOK4 := Lib.hid (show fx4.Ok from hm4.x ▸ hm4.ok); have y4 : w4.cell? ⟨pb, 0, none⟩ = some (.pointer (some ⟨C.g, 0, none⟩)) ∧ w4.cell? ⟨pb, 2, none⟩ = some (.pointer (some ⟨C.v, 0, none⟩)) := ⟨hm4.cells.1, hm4.cells.2.2.1⟩)
            | (go_at_call 33; (with_reducible refine HSM.out.mono ?_); rintro e w3 ⟨rfl, V3, hm3⟩; have HM3 := Lib.hid (show PM lo W w3 pb bL cL C V3 K Q0 (fx2 b) false (!false) _ from hm3); have y3 : w3.cell? ⟨pb, 0, none⟩ = some (.pointer (some ⟨C.g, 0, none⟩)) ∧ w3.cell? ⟨pb, 2, none⟩ = some (.pointer (some ⟨C.v, 0, none⟩)) := ⟨hm3.cells.1, hm3.cells.2.2.1⟩))
          obtain ⟨x0', x1', x2', -, x4', -, -⟩ := HM6.out.cells
          have hbel := HM6.out.bel
          have hds := HM6.out.dsk HWX.out.2.2.1 (by rw [HC.out.2.1]; omega) (by first | exact HV4.out rfl | exact HV4.out trivial)
          rw [show ((77 : Nat) : Int) = 77 from rfl] at hds
          have HDS := Lib.hid hds
          clear hds y3 y4 y5 y6 x0 x2 hm3 hm4 hv4 hb5 hb6 HSM hS5 hR5 hn5 hm5
          go_upto_region 24 with (go_at_call 190; (with_reducible refine HDS.out.mono ?_); rintro e w7 ⟨rfl, hb7⟩)
          have HM7 := Lib.hid (HM6.out.keep hb7)
          have hrd := HM7.out.read (by omega) HPK.out HWX.out.1 HWX.out.2.1 HWX.out.2.2.1 (by first | exact HV4.out rfl | exact HV4.out trivial)
          rw [show ((77 : Nat) : Int) = 77 from rfl] at hrd
          have HRD := Lib.hid hrd
          clear hrd hbel hb7 x0' x1' x2' x4'
          obtain ⟨x0', x1', x2', -, x4', -, -⟩ := HM7.out.cells
          go_wp2_with (first
            | (go_at_call 22; (with_reducible refine HRD.out.mono ?_); rintro e w8 ⟨rfl, hb8⟩; have HAW := Lib.hid (awake33_any w8))
            | (go_at_call 18; (with_reducible refine HAW.out.mono ?_); rintro e w9 ⟨rfl, hb9⟩))
          go_ret
          exact ⟨rfl, hb8.trans (hb9.mono hb8.size)⟩
        · -- the origin
          have hsm := (HP2.out.keep (Below.refl _ w2).drew).setMiss HC.out.2.2.2.2 (by omega) 0 (by omega) (by omega)
          rw [HX2.out, show ((0 : Nat) : Int) = 0 from rfl] at hsm
          have HSM := Lib.hid hsm
          obtain ⟨x0, -, x2, -, -, -, -⟩ := HP2.out.cells
          clear hsm
          go_upto_region 19 with (fail)
          go_region_held3 (fun w' => w'.cell? ⟨pb, 0, none⟩ = some (.pointer (some ⟨C.g, 0, none⟩)) ∧ w'.cell? ⟨pb, 2, none⟩ = some (.pointer (some ⟨C.v, 0, none⟩)))
            (first | with_reducible exact y6 | with_reducible exact y5 | with_reducible exact y4 | with_reducible exact y3 | exact ⟨x0, x2⟩)
            (first
            | (go_at_call 32; have hh := rfind_any w5 A5 B5 n5 c5 m5 d5 fx4 HOK4.out (b : Int) HN5.out HD5.out (Reads.of_own HS5.out) (own_reads HR5.out); unfold csV at hh; rw [show fx4.find (b : Int) = -1 from find0 _ _ _] at hh; (with_reducible refine hh.mono ?_); clear hh; rintro e w6 ⟨rfl, hb6⟩; have HM6 := Lib.hid (HM5.out.keep hb6); have y6 : w6.cell? ⟨pb, 0, none⟩ = some (.pointer (some ⟨C.g, 0, none⟩)) ∧ w6.cell? ⟨pb, 2, none⟩ = some (.pointer (some ⟨C.v, 0, none⟩)) := ⟨HM6.out.cells.1, HM6.out.cells.2.2.1⟩)
            | (go_at_call 26; have hh := HM4.out.state; unfold StP at hh; (with_reducible refine hh.mono ?_); clear hh; rintro e w5 ⟨⟨v, rfl, hs5⟩, hb5⟩; obtain ⟨A5, n5, c5, m5, B5, d5, rfl, hn5, hm5, hS5, hR5⟩ := hs5; unfold csV; have HS5 := Lib.hid hS5; have HR5 := Lib.hid hR5; have HN5 := Lib.hid hn5; have HD5 := Lib.hid hm5; have HM5 := Lib.hid (HM4.out.keep hb5); have y5 : w5.cell? ⟨pb, 0, none⟩ = some (.pointer (some ⟨C.g, 0, none⟩)) ∧ w5.cell? ⟨pb, 2, none⟩ = some (.pointer (some ⟨C.v, 0, none⟩)) := ⟨HM5.out.cells.1, HM5.out.cells.2.2.1⟩)
            | (go_at_call 31; have hh := HM3.out.write (by omega) HPK.out HWX.out.1 HWX.out.2.1 HWX.out.2.2.1 HWX.out.2.2.2.1 HWX.out.2.2.2.2 (v := 77) (by omega); rw [show ((77 : Nat) : Int) = 77 from rfl, if_pos (show (true : Bool) = true from rfl)] at hh; (with_reducible refine hh.mono ?_); clear hh; rintro e w4 ⟨rfl, V4, hm4, hv4⟩; have HM4 := Lib.hid hm4; have HV4 := Lib.hid hv4; have HOK4 := Lib.hid (show fx4.Ok from hm4.x ▸ hm4.ok); have y4 : w4.cell? ⟨pb, 0, none⟩ = some (.pointer (some ⟨C.g, 0, none⟩)) ∧ w4.cell? ⟨pb, 2, none⟩ = some (.pointer (some ⟨C.v, 0, none⟩)) := ⟨hm4.cells.1, hm4.cells.2.2.1⟩)
            | (go_at_call 33; (with_reducible refine HSM.out.mono ?_); rintro e w3 ⟨rfl, V3, hm3⟩; have HM3 := Lib.hid (show PM lo W w3 pb bL cL C V3 K Q0 (fx2 b) true (!true) _ from hm3); have y3 : w3.cell? ⟨pb, 0, none⟩ = some (.pointer (some ⟨C.g, 0, none⟩)) ∧ w3.cell? ⟨pb, 2, none⟩ = some (.pointer (some ⟨C.v, 0, none⟩)) := ⟨hm3.cells.1, hm3.cells.2.2.1⟩))
          obtain ⟨x0', x1', x2', -, x4', -, -⟩ := HM6.out.cells
          have hbel := HM6.out.bel
          have hfl := HM6.out.flush (by omega)
          have HFL := Lib.hid hfl
          clear hfl y3 y4 y5 y6 x0 x2 hm3 hm4 hv4 hb5 hb6 HSM hS5 hR5 hn5 hm5
          go_wp2_with (first
            | (go_at_call 34; (with_reducible refine HFL.out.mono ?_); rintro e w7 ⟨rfl, hb7⟩; have HAW := Lib.hid (awake33_any w7))
            | (go_at_call 18; (with_reducible refine HAW.out.mono ?_); rintro e w8 ⟨rfl, hb8⟩))
          go_ret
          exact ⟨rfl, hb7.trans (hb8.mono hb7.size)⟩

end Go.Proofs.YtogchafnnkajfaaGreat
