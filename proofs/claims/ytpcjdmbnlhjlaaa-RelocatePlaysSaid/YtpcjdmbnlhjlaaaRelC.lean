/-
  A mover's steps and requests, in plain terms.
-/
import Derived.Test.YtpcjdmbnlhjlaaaRelP
namespace Go.Proofs.Ytpcjdmbnlhjlaaa
set_option linter.unusedVariables false

/-- A sector is copied to the new place: the error, and what is left. -/
def cpOne (S : DS) (n j : Nat) : Int × DS := if S.sE 0 n (j : Int) ≠ 0 then (S.sE 0 n (j : Int), S) else (S.swE 1 n (j : Int), S.swrite 1 n (j : Int) (S.sread 0 n (j : Int)))
/-- k sectors from a on. -/
def cpyTo (S : DS) (n a : Nat) : Nat → Int × DS
  | 0 => (0, S)
  | k + 1 => if (cpyTo S n a k).1 ≠ 0 then cpyTo S n a k else cpOne (cpyTo S n a k).2 n (a + k)
theorem cpy_stuck (S : DS) (n a k : Nat) (h : (cpyTo S n a k).1 ≠ 0) (m : Nat) : cpyTo S n a (k + m) = cpyTo S n a k := by
  induction m with
  | zero => rfl
  | succ m ih =>
    show cpyTo S n a (k + m + 1) = _
    rw [cpyTo, ih, if_pos h]
/-- What Copy leaves: the error, the disks, whether the extent is copied. -/
def cpE (S : DS) (n ext done : Nat) : Int := if (cpyTo S n (done * ext) ext).1 ≠ 0 then (cpyTo S n (done * ext) ext).1 else (cpyTo S n (done * ext) ext).2.chkF 1
def cpS (S : DS) (n ext done : Nat) : DS := if (cpyTo S n (done * ext) ext).1 ≠ 0 then (cpyTo S n (done * ext) ext).2 else (cpyTo S n (done * ext) ext).2.flush 1

theorem wput_len (S : DS) (i j v : Nat) : (S.burnt.wput i j v).log.length = S.log.length + 1 ∧ (S.burnt.wput i j v).wr = S.wr + 1 := by
  constructor
  · show (S.log ++ [(i, j, v)]).length = _
    rw [List.length_append]
    rfl
  · rfl
theorem cpOne_mr {S : DS} {n ext done : Nat} {t : List Sec} (h : MR S n ext done false t) (j : Nat) (hj : j < n) (hd : ¬ j / ext < done) :
    MR (cpOne S n j).2 n ext done false t ∧ ((cpOne S n j).1 = 0 ∨ (cpOne S n j).1 = 5) ∧ (MQ S ext done false → MQ (cpOne S n j).2 ext done false ∧ (cpOne S n j).1 = 0) ∧ (cpOne S n j).2.now 0 = S.now 0 ∧ (∀ i, i ≠ j → ((cpOne S n j).2.now 1)[i]? = (S.now 1)[i]?) ∧
    ((cpOne S n j).1 = 0 → ((cpOne S n j).2.now 1)[j]? = (S.now 0)[j]?) ∧ (cpOne S n j).2.log.length ≤ S.log.length + 1 ∧ (cpOne S n j).2.wr ≤ S.wr + 1 := by
  have hi0 : [n, n][0]? = some n := rfl
  have hi1 : [n, n][1]? = some n := rfl
  have e1 := h.hea.sE hi0 j hj
  have e2 := h.hea.swE hi1 j hj
  have hl := h.hea.lt hi1
  unfold cpOne
  change S.sE 0 n (j : Int) = _ at e1
  change S.swE 1 n (j : Int) = _ at e2
  by_cases hdn : S.down = true
  · rw [if_pos hdn] at e1
    rw [if_pos (by rw [e1]; decide), e1]
    exact ⟨h, .inr rfl, (fun q => by rw [q.pw.2] at hdn; cases hdn), rfl, fun _ _ => rfl, (fun e => by cases e), Nat.le_succ _, by show S.wr ≤ S.wr + 1; omega⟩
  · rw [if_neg hdn] at e1
    have hdf : S.down = false := by simpa using hdn
    have e3 := h.hea.swrite hi1 j (S.sread 0 n (j : Int)) hj
    have e4 := h.hea.sread hi0 j hj hdf
    change S.swrite 1 n (j : Int) (S.sread 0 n (j : Int)) = _ at e3
    change S.sread 0 n (j : Int) = _ at e4
    rw [if_neg hdn] at e3
    rw [if_neg (by rw [e1]; decide), e2, e3]
    by_cases hf : S.fuse = 1
    · rw [if_pos (.inr hf), if_pos hf]
      exact ⟨h.of rfl rfl, .inr rfl, (fun q => by rw [q.pw.1] at hf; cases hf), now_of rfl 0, (fun i _ => rfl), (fun e => by cases e), Nat.le_succ _, by show S.wr ≤ S.wr + 1; omega⟩
    · rw [if_neg (by rintro (h | h); exact hdn h; exact hf h), if_neg hf]
      generalize S.sread 0 n (j : Int) = v at *
      obtain ⟨w1, w2⟩ := wput_len S 1 j v
      refine ⟨h.cput j v hj hd, .inl rfl, fun q => ⟨MQ.cput h.hea q j v hd, rfl⟩, ?_, ?_, ?_, by rw [w1]; exact Nat.le_refl _, by rw [w2]; exact Int.le_refl _⟩
      · rw [(wput_at S 1 j v 0 hl).1, if_neg (by decide)]
      · intro i hi
        rw [(wput_at S 1 j v 1 hl).1, if_pos rfl, List.getElem?_set_ne (fun e => hi e.symm)]
      · intro _
        rw [(wput_at S 1 j v 1 hl).1, if_pos rfl, List.getElem?_set_self (by rw [(h.hea.nn 1 n rfl).1]; exact hj), e4]
        have := List.getElem?_eq_getElem (l := S.now 0) (i := j) (by rw [(h.hea.nn 0 n rfl).1]; exact hj)
        rw [this]
        rfl
theorem cpy_mr {S : DS} {n ext done : Nat} {t : List Sec} (h : MR S n ext done false t) (a k : Nat) (hk : ∀ i, i < k → a + i < n ∧ ¬ (a + i) / ext < done) :
    MR (cpyTo S n a k).2 n ext done false t ∧ ((cpyTo S n a k).1 = 0 ∨ (cpyTo S n a k).1 = 5) ∧ (MQ S ext done false → MQ (cpyTo S n a k).2 ext done false ∧ (cpyTo S n a k).1 = 0) ∧ (cpyTo S n a k).2.now 0 = S.now 0 ∧
    ((cpyTo S n a k).1 = 0 → ∀ i, i < k → ((cpyTo S n a k).2.now 1)[a + i]? = (S.now 0)[a + i]?) ∧ (cpyTo S n a k).2.log.length ≤ S.log.length + k ∧ (cpyTo S n a k).2.wr ≤ S.wr + k := by
  induction k with
  | zero => exact ⟨h, .inl rfl, fun q => ⟨q, rfl⟩, rfl, fun _ i hi => by omega, Nat.le_refl _, by show S.wr ≤ S.wr + 0; omega⟩
  | succ k ih =>
    obtain ⟨i1, i2, i3, i4, i5, i6, i7⟩ := ih (fun i hi => hk i (by omega))
    rw [cpyTo]
    by_cases he : (cpyTo S n a k).1 = 0
    · rw [if_neg (by rw [he]; decide)]
      obtain ⟨c1, c2, c3, c4, c5, c6, c7, c8⟩ := cpOne_mr i1 (a + k) (hk k (by omega)).1 (hk k (by omega)).2
      refine ⟨c1, c2, fun q => c3 (i3 q).1, c4.trans i4, ?_, by omega, by have := Int.le_trans c8 (Int.add_le_add_right i7 1); push_cast; omega⟩
      intro e i hi
      by_cases hik : i = k
      · subst hik
        rw [c6 e, i4]
      · rw [c5 (a + i) (by omega)]
        exact i5 he i (by omega)
    · rw [if_pos he]
      exact ⟨i1, i2, i3, i4, (fun e => absurd e he), by omega, by push_cast; omega⟩
theorem copy_mr {S : DS} {n ext done : Nat} {t : List Sec} (h : MR S n ext done false t) (hd : done < n / ext) (he : 1 ≤ ext) :
    MR (cpS S n ext done) n ext done (decide (cpE S n ext done = 0)) t ∧ (cpE S n ext done = 0 ∨ cpE S n ext done = 5) ∧ (MQ S ext done false → MQ (cpS S n ext done) ext done (decide (cpE S n ext done = 0)) ∧ cpE S n ext done = 0) ∧ (cpS S n ext done).log.length ≤ S.log.length + ext ∧ (cpS S n ext done).wr ≤ S.wr + ext := by
  have hlim : (done + 1) * ext ≤ n := by
    have := Nat.div_mul_le_self n ext
    have h2 : (done + 1) * ext ≤ n / ext * ext := Nat.mul_le_mul_right _ hd
    omega
  have hk : ∀ i, i < ext → done * ext + i < n ∧ ¬ (done * ext + i) / ext < done := by
    intro i hi
    rw [Nat.add_mul, Nat.one_mul] at hlim
    refine ⟨by omega, ?_⟩
    rw [Nat.not_lt, Nat.le_div_iff_mul_le he]
    omega
  obtain ⟨i1, i2, i3, i4, i5, i6, i7⟩ := cpy_mr h (done * ext) ext hk
  unfold cpS cpE
  by_cases e0 : (cpyTo S n (done * ext) ext).1 = 0
  · rw [if_neg (by rw [e0]; decide), if_neg (by rw [e0]; decide)]
    have hcf := i1.hea.chkF (i := 1) rfl
    have hfl := i1.hea.flush (i := 1) rfl
    change DS.chkF _ 1 = _ at hcf
    change DS.flush _ 1 = _ at hfl
    rw [hcf, hfl]
    by_cases hdn : (cpyTo S n (done * ext) ext).2.down = true
    · rw [if_pos hdn, if_pos hdn]
      exact ⟨i1, .inr rfl, (fun q => by rw [(i3 q).1.pw.2] at hdn; cases hdn), i6, i7⟩
    · rw [if_neg hdn, if_neg hdn]
      refine ⟨i1.copied hd ?_, .inl rfl, fun q => ⟨MQ.copied i1.hea (i3 q).1, rfl⟩, Nat.le_trans (others_le _ _) i6, i7⟩
      intro j hj hje
      have hm := Nat.div_add_mod j ext
      have hl := Nat.mod_lt j (show 0 < ext by omega)
      rw [hje, Nat.mul_comm] at hm
      have := i5 e0 (j % ext) hl
      rw [hm] at this
      rw [this, i4]
  · rw [if_pos e0, if_pos e0]
    have e5 : (cpyTo S n (done * ext) ext).1 = 5 := i2.resolve_left e0
    rw [e5]
    exact ⟨i1, .inr rfl, (fun q => by have := (i3 q).2; rw [e5] at this; cases this), i6, i7⟩

/-- What Write answers and leaves, of a sector that exists. -/
def mwE (S : DS) (n ext done a : Nat) : Int := S.swE (plc ext done a) n (a : Int)
def mwB (S : DS) (n ext done : Nat) (cp : Bool) (a : Nat) : Bool := decide (mwE S n ext done a = 0) && cp && decide (a / ext = done)
def mwS (S : DS) (n ext done : Nat) (cp : Bool) (a v : Nat) : DS := if mwB S n ext done cp a = true then (S.swrite (plc ext done a) n (a : Int) v).swrite 1 n (a : Int) v else S.swrite (plc ext done a) n (a : Int) v
def mwC (S : DS) (n ext done : Nat) (cp : Bool) (a v : Nat) : Bool := if mwB S n ext done cp a = true then decide ((S.swrite (plc ext done a) n (a : Int) v).swE 1 n (a : Int) = 0) else cp
theorem write_mr {S : DS} {n ext done : Nat} {cp : Bool} {t : List Sec} (h : MR S n ext done cp t) (a v : Nat) (ha : a < n) :
    (mwE S n ext done a = 0 ∨ mwE S n ext done a = 5) ∧ MR (mwS S n ext done cp a v) n ext done (mwC S n ext done cp a v) (tWrote t a v (decide (mwE S n ext done a = 0))) ∧ (mwS S n ext done cp a v).log.length ≤ S.log.length + 2 ∧ (mwS S n ext done cp a v).wr ≤ S.wr + 2 := by
  have hi := plc_two n ext done a
  have hl := h.hea.lt hi
  have e2 := h.hea.swE hi a ha
  have e3 := h.hea.swrite hi a v ha
  have eE : mwE S n ext done a = if S.down = true ∨ S.fuse = 1 then 5 else 0 := e2
  unfold mwS mwC
  by_cases hdn : S.down = true
  · rw [if_pos (.inl hdn)] at eE
    have eB : mwB S n ext done cp a = false := by unfold mwB; rw [eE]; rfl
    rw [if_pos hdn] at e3
    rw [eE, eB, if_neg (by decide), if_neg (by decide), e3]
    exact ⟨.inr rfl, h.lost a v, by omega, by omega⟩
  · rw [if_neg hdn] at e3
    by_cases hf : S.fuse = 1
    · rw [if_pos (.inr hf)] at eE
      have eB : mwB S n ext done cp a = false := by unfold mwB; rw [eE]; rfl
      rw [if_pos hf] at e3
      rw [eE, eB, if_neg (by decide), if_neg (by decide), e3]
      exact ⟨.inr rfl, (h.lost a v).of rfl rfl, by show S.log.length ≤ _; omega, by show S.wr ≤ _; omega⟩
    · rw [if_neg (by rintro (h | h); exact hdn h; exact hf h)] at eE
      rw [if_neg hf] at e3
      rw [eE, e3]
      refine ⟨.inl rfl, ?_⟩
      obtain ⟨w1, w2⟩ := wput_len S (plc ext done a) a v
      by_cases hc : cp = true ∧ a / ext = done
      · obtain ⟨rfl, hc⟩ := hc
        have eB : mwB S n ext done true a = true := by unfold mwB; rw [eE]; simp [hc]
        rw [eB, if_pos rfl, if_pos rfl]
        have hp : plc ext done a = 0 := plc_ge (by omega)
        rw [hp] at w1 w2 ⊢
        have hh := h.hea.wput (i := 0) rfl a v ha
        have f2 := hh.swE (i := 1) rfl a ha
        have f3 := hh.swrite (i := 1) rfl a v ha
        rw [f2, f3]
        have hdn2 : ¬ (S.burnt.wput 0 a v).down = true := hdn
        rw [if_neg hdn2]
        by_cases hf2 : (S.burnt.wput 0 a v).fuse = 1
        · rw [if_pos hf2, if_pos (Or.inr hf2)]
          have := (h.nocp).put a v ha (fun e => by cases e)
          rw [hp] at this
          exact ⟨this.of rfl rfl, by show (S.burnt.wput 0 a v).log.length ≤ _; omega, by show (S.burnt.wput 0 a v).wr ≤ _; omega⟩
        · rw [if_neg hf2, if_neg (fun h : (S.burnt.wput 0 a v).down = true ∨ (S.burnt.wput 0 a v).fuse = 1 => h.elim hdn2 hf2)]
          obtain ⟨w3, w4⟩ := wput_len (S.burnt.wput 0 a v) 1 a v
          exact ⟨h.put2 a v ha hc, by omega, by omega⟩
      · have eB : mwB S n ext done cp a = false := by
          unfold mwB
          cases cp
          · simp
          · have : a / ext ≠ done := fun e => hc ⟨rfl, e⟩
            simp [this]
        rw [eB, if_neg (by decide), if_neg (by decide)]
        exact ⟨h.put a v ha (fun e e' => hc ⟨e, e'⟩), by omega, by omega⟩
/-- What Flush answers and leaves. -/
def mfS (S : DS) : DS := (S.flush 0).flush 1
def mfE (S : DS) : Int := if S.chkF 0 = 0 then (S.flush 0).chkF 1 else S.chkF 0
theorem flush_mr {S : DS} {n ext done : Nat} {cp : Bool} {t : List Sec} (h : MR S n ext done cp t) : (mfE S = 0 ∨ mfE S = 5) ∧ MR (mfS S) n ext done cp (if mfE S = 0 then tFlushed t else t) ∧ (mfS S).log.length ≤ S.log.length ∧ (mfS S).wr = S.wr := by
  have e1 := h.hea.chkF (i := 0) rfl
  have e2 := h.hea.flush (i := 0) rfl
  change S.chkF 0 = _ at e1
  change S.flush 0 = _ at e2
  unfold mfE mfS
  by_cases hdn : S.down = true
  · rw [if_pos hdn] at e1 e2
    have e3 := h.hea.flush (i := 1) rfl
    change S.flush 1 = _ at e3
    rw [if_pos hdn] at e3
    rw [e1, e2, e3, if_neg (by decide), if_neg (by decide)]
    exact ⟨.inr rfl, h, Nat.le_refl _, rfl⟩
  · rw [if_neg hdn] at e1 e2
    have hh := h.hea.flS (i := 0) rfl
    have e3 := hh.chkF (i := 1) rfl
    have e4 := hh.flush (i := 1) rfl
    change DS.chkF _ 1 = _ at e3
    change DS.flush _ 1 = _ at e4
    have hdn2 : ¬ (S.flS 0).down = true := hdn
    rw [if_neg hdn2] at e3 e4
    rw [e1, e2, if_pos rfl, e3, e4, if_pos rfl]
    exact ⟨.inl rfl, h.flushed, Nat.le_trans (others_le _ _) (others_le _ _), rfl⟩
/-- What Read answers, of a sector that exists. -/
theorem read_mr {S : DS} {n ext done : Nat} {cp : Bool} {t : List Sec} (h : MR S n ext done cp t) (a : Nat) (ha : a < n) (st : Bool) (hq : st = true → MQ S ext done cp) :
    (S.sE (plc ext done a) n (a : Int) = 0 ∧ tMay t a (S.sread (plc ext done a) n (a : Int)) ∧ MR S n ext done cp (tRead t a (S.sread (plc ext done a) n (a : Int)) st)) ∨ (st = false ∧ S.sE (plc ext done a) n (a : Int) = 5) := by
  have hi := plc_two n ext done a
  have e1 := h.hea.sE hi a ha
  by_cases hdn : S.down = true
  · rw [if_pos hdn] at e1
    refine .inr ⟨?_, e1⟩
    cases st
    · rfl
    · have := (hq rfl).pw.2
      rw [this] at hdn
      cases hdn
  · rw [if_neg hdn] at e1
    have e2 := h.hea.sread hi a ha (by simpa using hdn)
    rw [e2]
    exact .inl ⟨e1, h.may a ha, h.read a ha st hq⟩

end Go.Proofs.Ytpcjdmbnlhjlaaa
