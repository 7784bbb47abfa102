/-
  A mover over two disks, one of which may be missing, in plain terms; SetMissing for both sides.
-/
import Derived.Test.YtomblhoileglfaaDiskU
namespace Go.Proofs.Ytomblhoileglfaa
set_option linter.unusedVariables false
open Go.RowKit

structure Liv (S : DS) (n : Nat) (m0 m1 : Bool) (old new : List Nat) : Prop where
  nd : S.dr.length = 2
  a0 : (S.drv 0).1 = old ∧ (S.drv 0).2.2 = m0
  a1 : (S.drv 1).1 = new ∧ (S.drv 1).2.2 = m1
  l0 : old.length = n
  l1 : new.length = n
  pw : S.fuse = 0 ∧ S.down = false

theorem Liv.of_pls {S : DS} {n ext done : Nat} {cp : Bool} {old new : List Nat} (h : PLS S n ext done cp old new) : Liv S n false false old new :=
  ⟨h.hea.nd, ⟨h.n0, (h.hea.nn 0 n rfl).2.2⟩, ⟨h.n1, (h.hea.nn 1 n rfl).2.2⟩, h.lens.1, h.lens.2, h.pw⟩
section
variable {S : DS} {n : Nat} {m0 m1 : Bool} {old new : List Nat}
theorem Liv.miss0 (h : Liv S n m0 m1 old new) : Liv (S.miss 0) n true m1 old new := by
  have hd : ∀ k, (S.miss 0).drv k = _ := fun k => drv_set (S.miss 0) S.dr 0 k _ (by rw [h.nd]; omega) rfl
  refine ⟨by show (S.dr.set 0 _).length = 2; rw [List.length_set]; exact h.nd, ?_, ?_, h.l0, h.l1, h.pw⟩
  · rw [hd 0, if_pos rfl]; exact ⟨h.a0.1, rfl⟩
  · rw [hd 1, if_neg (by decide)]; exact h.a1
theorem Liv.miss1 (h : Liv S n m0 m1 old new) : Liv (S.miss 1) n m0 true old new := by
  have hd : ∀ k, (S.miss 1).drv k = _ := fun k => drv_set (S.miss 1) S.dr 1 k _ (by rw [h.nd]; omega) rfl
  refine ⟨by show (S.dr.set 1 _).length = 2; rw [List.length_set]; exact h.nd, ?_, ?_, h.l0, h.l1, h.pw⟩
  · rw [hd 0, if_neg (by decide)]; exact h.a0
  · rw [hd 1, if_pos rfl]; exact ⟨h.a1.1, rfl⟩
theorem Liv.chk0 (h : Liv S n m0 m1 old new) (a : Int) (ha : 0 ≤ a ∧ a < (n : Int)) : S.chk 0 a = if m0 = true then 6 else 0 := by
  have hs : S.size 0 = n := by unfold DS.size; rw [if_neg (by rw [h.nd]; omega)]; show (S.drv 0).1.length = n; rw [h.a0.1]; exact h.l0
  have e1 : S.cLoc 0 = 0 := by unfold DS.cLoc; rw [if_neg (by rw [h.nd]; omega)]
  have e2 : S.cPla 0 a = 0 := by unfold DS.cPla; rw [hs, if_neg (by omega)]
  have e3 : S.cMis 0 = if m0 = true then 6 else 0 := by unfold DS.cMis; show (if (S.drv 0).2.2 = true then 6 else 0) = _; rw [h.a0.2]
  have e4 : S.cPow = 0 := by unfold DS.cPow; rw [h.pw.2]; rfl
  unfold DS.chk
  rw [e1, e2, e3, e4]
  cases m0 <;> rfl
theorem Liv.chk1 (h : Liv S n m0 m1 old new) (a : Int) (ha : 0 ≤ a ∧ a < (n : Int)) : S.chk 1 a = if m1 = true then 6 else 0 := by
  have hs : S.size 1 = n := by unfold DS.size; rw [if_neg (by rw [h.nd]; omega)]; show (S.drv 1).1.length = n; rw [h.a1.1]; exact h.l1
  have e1 : S.cLoc 1 = 0 := by unfold DS.cLoc; rw [if_neg (by rw [h.nd]; omega)]
  have e2 : S.cPla 1 a = 0 := by unfold DS.cPla; rw [hs, if_neg (by omega)]
  have e3 : S.cMis 1 = if m1 = true then 6 else 0 := by unfold DS.cMis; show (if (S.drv 1).2.2 = true then 6 else 0) = _; rw [h.a1.2]
  have e4 : S.cPow = 0 := by unfold DS.cPow; rw [h.pw.2]; rfl
  unfold DS.chk
  rw [e1, e2, e3, e4]
  cases m1 <;> rfl
theorem Liv.chkF0 (h : Liv S n m0 m1 old new) : S.chkF 0 = if m0 = true then 6 else 0 := by
  have e1 : S.cLoc 0 = 0 := by unfold DS.cLoc; rw [if_neg (by rw [h.nd]; omega)]
  have e3 : S.cMis 0 = if m0 = true then 6 else 0 := by unfold DS.cMis; show (if (S.drv 0).2.2 = true then 6 else 0) = _; rw [h.a0.2]
  have e4 : S.cPow = 0 := by unfold DS.cPow; rw [h.pw.2]; rfl
  unfold DS.chkF
  rw [e1, e3, e4]
  cases m0 <;> rfl
theorem Liv.chkF1 (h : Liv S n m0 m1 old new) : S.chkF 1 = if m1 = true then 6 else 0 := by
  have e1 : S.cLoc 1 = 0 := by unfold DS.cLoc; rw [if_neg (by rw [h.nd]; omega)]
  have e3 : S.cMis 1 = if m1 = true then 6 else 0 := by unfold DS.cMis; show (if (S.drv 1).2.2 = true then 6 else 0) = _; rw [h.a1.2]
  have e4 : S.cPow = 0 := by unfold DS.cPow; rw [h.pw.2]; rfl
  unfold DS.chkF
  rw [e1, e3, e4]
  cases m1 <;> rfl
theorem Liv.wput0 (h : Liv S n m0 m1 old new) (a v : Nat) : Liv (S.burnt.wput 0 a v) n m0 m1 (old.set a v) new := by
  have hl : 0 < S.dr.length := by rw [h.nd]; omega
  obtain ⟨b1, b2, b3⟩ := wput_at S 0 a v 0 hl
  obtain ⟨c1, c2, c3⟩ := wput_at S 0 a v 1 hl
  refine ⟨by show (S.burnt.dr.set 0 _).length = 2; rw [List.length_set]; exact h.nd, ⟨?_, b3.trans h.a0.2⟩, ⟨?_, c3.trans h.a1.2⟩, by rw [List.length_set]; exact h.l0, h.l1, live_put h.pw 0 a v⟩
  · have := b1
    rw [if_pos rfl] at this
    exact this.trans (by show (S.drv 0).1.set a v = _; rw [h.a0.1])
  · have := c1
    rw [if_neg (by decide)] at this
    exact this.trans h.a1.1
theorem Liv.flush0 (h : Liv S n false m1 old new) : (S.flush 0).chkF 1 = if m1 = true then 6 else 0 := by
  have hl : 0 < S.dr.length := by rw [h.nd]; omega
  have e : S.flush 0 = { S.flTo 0 S.log.length with log := others 0 S.log } := by
    unfold DS.flush
    rw [h.chkF0, if_neg (by decide)]
    rfl
  rw [e]
  have hd := drv_set ({ S.flTo 0 S.log.length with log := others 0 S.log } : DS) S.dr 0 1 _ hl rfl
  rw [if_neg (by decide)] at hd
  have hlen : ({ S.flTo 0 S.log.length with log := others 0 S.log } : DS).dr.length = 2 := by show (S.dr.set 0 _).length = 2; rw [List.length_set]; exact h.nd
  have e1 : ({ S.flTo 0 S.log.length with log := others 0 S.log } : DS).cLoc 1 = 0 := by unfold DS.cLoc; rw [if_neg (by rw [hlen]; omega)]
  have e3 : ({ S.flTo 0 S.log.length with log := others 0 S.log } : DS).cMis 1 = if m1 = true then 6 else 0 := by
    unfold DS.cMis
    show (if (DS.drv _ 1).2.2 = true then 6 else 0) = _
    rw [hd]
    show (if (S.drv 1).2.2 = true then 6 else 0) = _
    rw [h.a1.2]
  have e4 : ({ S.flTo 0 S.log.length with log := others 0 S.log } : DS).cPow = 0 := by unfold DS.cPow; show (if S.down = true then 5 else 0) = 0; rw [h.pw.2]; rfl
  unfold DS.chkF
  rw [e1, e3, e4]
  cases m1 <;> rfl

/-- The old place is missing. -/
theorem Liv.first (h : Liv S n true false old new) (x a v : Nat) (cp : Bool) (ha : a < x) (hx : x ≤ n) : mwE S n x 0 a = 6 ∧ mwS S n x 0 cp a v = S ∧ mwC S n x 0 cp a v = cp ∧ mfE S = 6 := by
  have hp : plc x 0 a = 0 := plc_ge (Nat.not_lt_zero _)
  have hc := h.chk0 (a : Int) (by omega)
  rw [if_pos rfl] at hc
  have hE : mwE S n x 0 a = 6 := by
    unfold mwE
    rw [hp]
    unfold DS.swE
    rw [if_pos (by omega)]
    unfold DS.writeE
    show (if S.chk 0 _ ≠ 0 then S.chk 0 _ else _) = _
    rw [hc]
    rfl
  have hB : mwB S n x 0 cp a = false := by unfold mwB; rw [hE]; rfl
  refine ⟨hE, ?_, ?_, ?_⟩
  · unfold mwS
    rw [hB, if_neg (by decide), hp]
    unfold DS.swrite
    rw [if_pos (by omega)]
    unfold DS.write
    show (if S.chk 0 _ ≠ 0 then S else _) = _
    rw [hc]
    rfl
  · unfold mwC
    rw [hB, if_neg (by decide)]
  · unfold mfE
    rw [h.chkF0]
    rfl
/-- The new place is missing. -/
theorem Liv.second (h : Liv S n false true old new) (x a v : Nat) (ha : a < x) (hx : x ≤ n) : mwE S n x 0 a = 0 ∧ mwC S n x 0 true a v = false ∧ Liv (mwS S n x 0 true a v) n false true (old.set a v) new := by
  have hp : plc x 0 a = 0 := plc_ge (Nat.not_lt_zero _)
  have hc := h.chk0 (a : Int) (by omega)
  rw [if_neg (by decide)] at hc
  have hE : mwE S n x 0 a = 0 := by
    unfold mwE
    rw [hp]
    unfold DS.swE
    rw [if_pos (by omega)]
    unfold DS.writeE
    show (if S.chk 0 _ ≠ 0 then S.chk 0 _ else _) = _
    rw [hc, if_neg (by decide), h.pw.1]
    rfl
  have hdv : a / x = 0 := Nat.div_eq_of_lt ha
  have hB : mwB S n x 0 true a = true := by unfold mwB; rw [hE, hdv]; rfl
  have hw : S.swrite (plc x 0 a) n (a : Int) v = S.burnt.wput 0 a v := by
    rw [hp]
    unfold DS.swrite
    rw [if_pos (by omega)]
    unfold DS.write
    show (if S.chk 0 _ ≠ 0 then S else _) = _
    rw [hc, if_neg (by decide), h.pw.1, if_neg (by decide)]
    rfl
  have h2 := h.wput0 a v
  have hc2 := h2.chk1 (a : Int) (by omega)
  rw [if_pos rfl] at hc2
  refine ⟨hE, ?_, ?_⟩
  · unfold mwC
    rw [hB, if_pos rfl, hw]
    unfold DS.swE
    rw [if_pos (by omega)]
    unfold DS.writeE
    show decide ((if DS.chk _ 1 _ ≠ 0 then DS.chk _ 1 _ else _) = 0) = _
    rw [hc2]
    rfl
  · unfold mwS
    rw [hB, if_pos rfl, hw]
    have e : (S.burnt.wput 0 a v).swrite 1 n (a : Int) v = S.burnt.wput 0 a v := by
      unfold DS.swrite
      rw [if_pos (by omega)]
      unfold DS.write
      show (if DS.chk _ 1 _ ≠ 0 then _ else _) = _
      rw [hc2]
      rfl
    rw [e]
    exact h2
theorem Liv.after (h : Liv S n false true old new) (x a v : Nat) (ha : a < x) (hx : x ≤ n) (hv : old[a]?.getD 0 = v) : S.sE (plc x 0 a) n (a : Int) = 0 ∧ S.sread (plc x 0 a) n (a : Int) = v ∧ cpE S n x 0 = 6 ∧ cpS S n x 0 = S ∧ mfE S = 6 := by
  have hp : plc x 0 a = 0 := plc_ge (Nat.not_lt_zero _)
  have hc := h.chk0 (a : Int) (by omega)
  rw [if_neg (by decide)] at hc
  have hc0 := h.chk0 ((0 * x + 0 : Nat) : Int) (by rw [Nat.zero_mul]; omega)
  rw [if_neg (by decide)] at hc0
  have hc1 := h.chk1 ((0 * x + 0 : Nat) : Int) (by rw [Nat.zero_mul]; omega)
  rw [if_pos rfl] at hc1
  have h1 : cpyTo S n (0 * x) 1 = (6, S) := by
    rw [cpyTo, if_neg (by show ¬ (0 : Int) ≠ 0; simp)]
    show cpOne S n (0 * x + 0) = _
    unfold cpOne
    have e1 : S.sE 0 n ((0 * x + 0 : Nat) : Int) = 0 := by unfold DS.sE; rw [if_pos (by rw [Nat.zero_mul]; omega)]; exact hc0
    rw [if_neg (by rw [e1]; decide)]
    have e2 : S.swE 1 n ((0 * x + 0 : Nat) : Int) = 6 := by
      unfold DS.swE
      rw [if_pos (by rw [Nat.zero_mul]; omega)]
      unfold DS.writeE
      show (if S.chk 1 _ ≠ 0 then S.chk 1 _ else _) = _
      rw [hc1]
      rfl
    have e3 : ∀ u, S.swrite 1 n ((0 * x + 0 : Nat) : Int) u = S := by
      intro u
      unfold DS.swrite
      rw [if_pos (by rw [Nat.zero_mul]; omega)]
      unfold DS.write
      show (if S.chk 1 _ ≠ 0 then _ else _) = _
      rw [hc1]
      rfl
    rw [e2, e3]
  have hx2 : cpyTo S n (0 * x) x = (6, S) := by
    have := cpy_stuck S n (0 * x) 1 (by rw [h1]; show (6 : Int) ≠ 0; decide) (x - 1)
    rw [show 1 + (x - 1) = x by omega, h1] at this
    exact this
  refine ⟨?_, ?_, ?_, ?_, ?_⟩
  · rw [hp]; unfold DS.sE; rw [if_pos (by omega)]; exact hc
  · rw [hp]
    unfold DS.sread
    rw [if_pos (by omega)]
    unfold DS.read
    show (if S.chk 0 _ = 0 then _ else _) = _
    rw [hc, if_pos rfl]
    show (S.drv 0).1[(a : Int).toNat]?.getD 0 = v
    rw [h.a0.1, Int.toNat_natCast]
    exact hv
  · unfold cpE; rw [hx2]; rfl
  · unfold cpS; rw [hx2]; rfl
  · unfold mfE
    rw [h.chkF0, if_pos (by rfl)]
    exact h.flush0
end
theorem PB.miss {W w : World} {Fm : Nat → Prop} {k : Bl} {n : Nat} {S : DS} {ext done : Nat} {cp : Bool} {rdone : Nat} {rcp : Bool} {old new : List Nat} (h : PB W w Fm k n S ext done cp rdone rcp old new) (i : Nat) (hi : i < S.dr.length) : Calls Try.prog 30 #[.pointer (some ⟨k.g, 0, none⟩), .int .i64 (i : Int), .bool true] w fun e w' => e = .returned (.int .i64 0) ∧ ∃ Fm', PB W w' Fm' k n (S.miss i) ext done cp rdone rcp old new := by
  obtain ⟨F, hm⟩ := h.p.mov
  refine (amiss_any w F k.g i S hm.dsk hi).mono ?_
  rintro e w' ⟨rfl, hd, hf⟩
  have ht : Turn F F w w' := ⟨hf, fun j hj => .inl hj⟩
  exact ⟨rfl, _, h.movd ⟨F, hm.turn hd ht⟩ (hm.wide ht) h.d_⟩

theorem PB.copy_s {W w : World} {Fm : Nat → Prop} {k : Bl} {n : Nat} {S : DS} {ext done : Nat} {rdone : Nat} {rcp : Bool} {old new : List Nat} (h : PB W w Fm k n S ext done false rdone rcp old new) (hs : SrcAt w W.heap.size) (hd : done < n / ext) (hl : S.log.length ≤ 800000) (hwr : S.wr ≤ 800000000) :
    Calls Try.prog 17 #[.pointer (some ⟨k.m, 0, none⟩)] w fun e w' => e = .returned (.int .i64 (cpE S n ext done)) ∧ SrcAt w' W.heap.size ∧ ∃ Fm', PB W w' Fm' k n (cpS S n ext done) ext done (decide (cpE S n ext done = 0)) rdone rcp old new := by
  have hn := h.n_
  obtain ⟨F, hm⟩ := h.p.mov
  refine (rcopy_any w F Fm k.g k.s0 k.s1 k.m n S ext done hm h.e_ (by omega) hd hl hwr).mono ?_
  rintro e w' ⟨rfl, Fm', hm', ht⟩
  exact ⟨rfl, hs.fr ht.1 h.p.lof, Fm', h.movd hm' ht h.d_⟩
theorem mwS_len (S : DS) (n ext done : Nat) (cp : Bool) (a v : Nat) : (mwS S n ext done cp a v).log.length ≤ S.log.length + 2 ∧ (mwS S n ext done cp a v).wr ≤ S.wr + 2 := by
  have h1 := swrite_log S (plc ext done a) n (a : Int) v
  have h2 := swrite_wr S (plc ext done a) n (a : Int) v
  unfold mwS
  split
  · have h3 := swrite_log (S.swrite (plc ext done a) n (a : Int) v) 1 n (a : Int) v
    have h4 := swrite_wr (S.swrite (plc ext done a) n (a : Int) v) 1 n (a : Int) v
    exact ⟨by omega, by omega⟩
  · exact ⟨by omega, by omega⟩

theorem PB.flush_t {W w : World} {Fm : Nat → Prop} {k : Bl} {n : Nat} {S : DS} {ext done : Nat} {cp : Bool} {rdone : Nat} {rcp : Bool} {old new : List Nat} (h : PB W w Fm k n S ext done cp rdone rcp old new) (hl : S.log.length ≤ 900000) (hl2 : (S.flush 0).log.length ≤ 900000) :
    Calls Try.prog 31 #[.pointer (some ⟨k.m, 0, none⟩)] w fun e w' => e = .returned (.int .i64 (mfE S)) ∧ ∃ Fm', Turn Fm Fm' w w' ∧ PB W w' Fm' k n (mfS S) ext done cp rdone rcp old new := by
  obtain ⟨F, hm⟩ := h.p.mov
  refine (rflush_any w F Fm k.g k.s0 k.s1 k.m n S ext done cp hm (by omega) (by omega)).mono ?_
  rintro e w' ⟨rfl, Fm', hm', ht⟩
  exact ⟨rfl, Fm', ht, h.movd hm' ht h.d_⟩

end Go.Proofs.Ytomblhoileglfaa
