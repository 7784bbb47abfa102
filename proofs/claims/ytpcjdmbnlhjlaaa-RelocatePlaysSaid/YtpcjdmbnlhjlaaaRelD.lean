/-
  A mover over two disks where nothing fails, in plain terms.
-/
import Derived.Test.YtpcjdmbnlhjlaaaRelC
namespace Go.Proofs.Ytpcjdmbnlhjlaaa
set_option linter.unusedVariables false

structure PLS (S : DS) (n ext done : Nat) (cp : Bool) (old new : List Nat) : Prop where
  hea : Hea S [n, n]
  pw : S.fuse = 0 ∧ S.down = false
  n0 : S.now 0 = old
  n1 : S.now 1 = new
  le : done ≤ n / ext
  cpd : cp = true → done < n / ext

/-- k words of a list are copied to the same places of another. -/
def cpL (old new : List Nat) (a : Nat) : Nat → List Nat
  | 0 => new
  | k + 1 => (cpL old new a k).set (a + k) (old[a + k]?.getD 0)
theorem cpL_length (old new : List Nat) (a k : Nat) : (cpL old new a k).length = new.length := by
  induction k with
  | zero => rfl
  | succ k ih => rw [cpL, List.length_set, ih]
theorem cpL_at (old new : List Nat) (a k j : Nat) (hj : j < new.length) : (cpL old new a k)[j]? = if a ≤ j ∧ j < a + k then some (old[j]?.getD 0) else new[j]? := by
  induction k with
  | zero => rw [if_neg (by omega)]; rfl
  | succ k ih =>
    rw [cpL]
    by_cases e : j = a + k
    · subst e
      rw [List.getElem?_set_self (by rw [cpL_length]; exact hj), if_pos (by omega)]
    · rw [List.getElem?_set_ne (fun e' => e e'.symm), ih]
      by_cases h : a ≤ j ∧ j < a + k
      · rw [if_pos h, if_pos (by omega)]
      · rw [if_neg h, if_neg (by omega)]

section
variable {S : DS} {n ext done : Nat} {cp : Bool} {old new : List Nat}
theorem PLS.lens (h : PLS S n ext done cp old new) : old.length = n ∧ new.length = n := ⟨by rw [← h.n0]; exact (h.hea.nn 0 n rfl).1, by rw [← h.n1]; exact (h.hea.nn 1 n rfl).1⟩
theorem PLS.read (h : PLS S n ext done cp old new) (a : Nat) (ha : a < n) : S.sE (plc ext done a) n (a : Int) = 0 ∧ S.sread (plc ext done a) n (a : Int) = (if a / ext < done then new else old)[a]?.getD 0 := by
  have hi := plc_two n ext done a
  have e1 := h.hea.sE hi a ha
  rw [h.pw.2, if_neg (by decide)] at e1
  have e2 := h.hea.sread hi a ha h.pw.2
  refine ⟨e1, e2.trans ?_⟩
  unfold plc
  by_cases hd : a / ext < done
  · rw [if_pos hd, if_pos hd, h.n1]
  · rw [if_neg hd, if_neg hd, h.n0]
theorem live_put (hp : S.fuse = 0 ∧ S.down = false) (i j v : Nat) : (S.burnt.wput i j v).fuse = 0 ∧ (S.burnt.wput i j v).down = false := ⟨by show (if 0 < S.fuse then S.fuse - 1 else S.fuse) = 0; rw [hp.1]; rfl, hp.2⟩
theorem PLS.write (h : PLS S n ext done cp old new) (a v : Nat) (ha : a < n) :
    mwE S n ext done a = 0 ∧ mwC S n ext done cp a v = cp ∧ (mwS S n ext done cp a v).log.length ≤ S.log.length + 2 ∧ (mwS S n ext done cp a v).wr ≤ S.wr + 2 ∧
    PLS (mwS S n ext done cp a v) n ext done cp (if a / ext < done then old else old.set a v) (if a / ext < done ∨ (cp = true ∧ a / ext = done) then new.set a v else new) := by
  have hi := plc_two n ext done a
  have hl := h.hea.lt hi
  have e2 := h.hea.swE hi a ha
  have e3 := h.hea.swrite hi a v ha
  have hnf : ¬ (S.down = true ∨ S.fuse = 1) := by rw [h.pw.1, h.pw.2]; simp
  rw [if_neg hnf] at e2
  rw [if_neg (fun e => hnf (.inl e)), if_neg (fun e => hnf (.inr e))] at e3
  have eE : mwE S n ext done a = 0 := e2
  have hh := h.hea.wput hi a v ha
  have hp := live_put h.pw (plc ext done a) a v
  obtain ⟨w1, w2⟩ := wput_len S (plc ext done a) a v
  refine ⟨eE, ?_⟩
  unfold mwS mwC
  by_cases hc : cp = true ∧ a / ext = done
  · obtain ⟨rfl, hc⟩ := hc
    have eB : mwB S n ext done true a = true := by unfold mwB; rw [eE]; simp [hc]
    rw [eB, if_pos rfl, if_pos rfl, e3]
    have hpl : plc ext done a = 0 := plc_ge (by omega)
    rw [hpl] at w1 w2 hh hp hl ⊢
    have f2 := hh.swE (i := 1) rfl a ha
    have f3 := hh.swrite (i := 1) rfl a v ha
    have hnf2 : ¬ ((S.burnt.wput 0 a v).down = true ∨ (S.burnt.wput 0 a v).fuse = 1) := by rw [hp.1, hp.2]; simp
    rw [if_neg hnf2] at f2
    rw [if_neg (fun e => hnf2 (.inl e)), if_neg (fun e => hnf2 (.inr e))] at f3
    rw [f2, f3]
    obtain ⟨w3, w4⟩ := wput_len (S.burnt.wput 0 a v) 1 a v
    have hl1 := hh.lt (i := 1) rfl
    refine ⟨rfl, by omega, by omega, ⟨hh.wput (i := 1) rfl a v ha, live_put hp 1 a v, ?_, ?_, h.le, h.cpd⟩⟩
    · rw [(wput_at _ 1 a v 0 hl1).1, if_neg (by decide), (wput_at S 0 a v 0 hl).1, if_pos rfl, if_neg (by omega), h.n0]
    · rw [(wput_at _ 1 a v 1 hl1).1, if_pos rfl, (wput_at S 0 a v 1 hl).1, if_neg (by decide), if_pos (.inr ⟨rfl, hc⟩), h.n1]
  · have eB : mwB S n ext done cp a = false := by
      unfold mwB
      cases cp
      · simp
      · have : a / ext ≠ done := fun e => hc ⟨rfl, e⟩
        simp [this]
    rw [eB, if_neg (by decide), if_neg (by decide), e3]
    refine ⟨rfl, by omega, by omega, ⟨hh, hp, ?_, ?_, h.le, h.cpd⟩⟩
    · rw [(wput_at S _ a v 0 hl).1]
      by_cases hd : a / ext < done
      · rw [plc_lt hd, if_neg (by decide), if_pos hd, h.n0]
      · rw [plc_ge hd, if_pos rfl, if_neg hd, h.n0]
    · rw [(wput_at S _ a v 1 hl).1]
      by_cases hd : a / ext < done
      · rw [plc_lt hd, if_pos rfl, if_pos (.inl hd), h.n1]
      · rw [plc_ge hd, if_neg (by decide), if_neg (by rintro (e | e); exact hd e; exact hc e), h.n1]
theorem PLS.cpyTo (h : PLS S n ext done cp old new) (a k : Nat) (hk : a + k ≤ n) : (Proofs.Ytpcjdmbnlhjlaaa.cpyTo S n a k).1 = 0 ∧ PLS (Proofs.Ytpcjdmbnlhjlaaa.cpyTo S n a k).2 n ext done cp old (cpL old new a k) ∧ (Proofs.Ytpcjdmbnlhjlaaa.cpyTo S n a k).2.log.length ≤ S.log.length + k ∧ (Proofs.Ytpcjdmbnlhjlaaa.cpyTo S n a k).2.wr ≤ S.wr + k := by
  induction k with
  | zero => exact ⟨rfl, h, Nat.le_refl _, by show S.wr ≤ S.wr + 0; omega⟩
  | succ k ih =>
    obtain ⟨i1, i2, i3, i4⟩ := ih (by omega)
    rw [Proofs.Ytpcjdmbnlhjlaaa.cpyTo, if_neg (by rw [i1]; decide)]
    generalize (Proofs.Ytpcjdmbnlhjlaaa.cpyTo S n a k).2 = S1 at *
    have e1 := i2.hea.sE (i := 0) rfl (a + k) (by omega)
    rw [i2.pw.2, if_neg (by decide)] at e1
    have e4 := i2.hea.sread (i := 0) rfl (a + k) (by omega) i2.pw.2
    have e2 := i2.hea.swE (i := 1) rfl (a + k) (by omega)
    have e3 := i2.hea.swrite (i := 1) rfl (a + k) (S1.sread 0 n ((a + k : Nat) : Int)) (by omega)
    have hnf : ¬ (S1.down = true ∨ S1.fuse = 1) := by rw [i2.pw.1, i2.pw.2]; simp
    rw [if_neg hnf] at e2
    rw [if_neg (fun e => hnf (.inl e)), if_neg (fun e => hnf (.inr e))] at e3
    unfold cpOne
    change S1.sE 0 n _ = _ at e1
    change S1.swE 1 n _ = _ at e2
    change S1.swrite 1 n _ _ = _ at e3
    change S1.sread 0 n _ = _ at e4
    rw [if_neg (by rw [e1]; decide), e2, e3, e4]
    obtain ⟨w3, w4⟩ := wput_len S1 1 (a + k) ((S1.now 0)[a + k]?.getD 0)
    have hl1 := i2.hea.lt (i := 1) rfl
    refine ⟨rfl, ⟨i2.hea.wput (i := 1) rfl _ _ (by omega), live_put i2.pw _ _ _, ?_, ?_, h.le, h.cpd⟩, by show (S1.burnt.wput 1 (a + k) _).log.length ≤ _; omega, by show (S1.burnt.wput 1 (a + k) _).wr ≤ _; push_cast; omega⟩
    · rw [(wput_at S1 1 _ _ 0 hl1).1, if_neg (by decide), i2.n0]
    · rw [(wput_at S1 1 _ _ 1 hl1).1, if_pos rfl, i2.n1, i2.n0]
      rfl
theorem PLS.copy (h : PLS S n ext done false old new) (hd : done < n / ext) : cpE S n ext done = 0 ∧ PLS (cpS S n ext done) n ext done true old (cpL old new (done * ext) ext) ∧ (cpS S n ext done).log.length ≤ S.log.length + ext ∧ (cpS S n ext done).wr ≤ S.wr + ext := by
  have hlim : (done + 1) * ext ≤ n := by
    have := Nat.div_mul_le_self n ext
    have h2 : (done + 1) * ext ≤ n / ext * ext := Nat.mul_le_mul_right _ hd
    omega
  rw [Nat.add_mul, Nat.one_mul] at hlim
  obtain ⟨i1, i2, i3, i4⟩ := h.cpyTo (done * ext) ext hlim
  unfold cpS cpE
  rw [if_neg (by rw [i1]; decide), if_neg (by rw [i1]; decide)]
  have hcf := i2.hea.chkF (i := 1) rfl
  have hfl := i2.hea.flush (i := 1) rfl
  change DS.chkF _ 1 = _ at hcf
  change DS.flush _ 1 = _ at hfl
  rw [i2.pw.2, if_neg (by decide)] at hcf hfl
  rw [hcf, hfl]
  refine ⟨rfl, ⟨i2.hea.flS (i := 1) rfl, i2.pw, ?_, ?_, h.le, fun _ => hd⟩, Nat.le_trans (others_le _ _) i3, i4⟩
  · rw [(flS_at i2.hea (i := 1) rfl 0).1, i2.n0]
  · rw [(flS_at i2.hea (i := 1) rfl 1).1, i2.n1]
theorem PLS.next (h : PLS S n ext done true old new) : PLS S n ext (done + 1) false old new := ⟨h.hea, h.pw, h.n0, h.n1, h.cpd rfl, fun e => by cases e⟩
theorem PLS.flush (h : PLS S n ext done cp old new) : mfE S = 0 ∧ PLS (mfS S) n ext done cp old new ∧ (mfS S).log.length ≤ S.log.length ∧ (mfS S).wr = S.wr := by
  have e1 := h.hea.chkF (i := 0) rfl
  have e2 := h.hea.flush (i := 0) rfl
  change S.chkF 0 = _ at e1
  change S.flush 0 = _ at e2
  rw [h.pw.2, if_neg (by decide)] at e1 e2
  have hh := h.hea.flS (i := 0) rfl
  have e3 := hh.chkF (i := 1) rfl
  have e4 := hh.flush (i := 1) rfl
  change DS.chkF _ 1 = _ at e3
  change DS.flush _ 1 = _ at e4
  have hdn : ¬ (S.flS 0).down = true := by show ¬ S.down = true; rw [h.pw.2]; decide
  rw [if_neg hdn] at e3 e4
  unfold mfE mfS
  rw [e1, e2, if_pos rfl, e3, e4]
  refine ⟨rfl, ⟨hh.flS (i := 1) rfl, h.pw, ?_, ?_, h.le, h.cpd⟩, Nat.le_trans (others_le _ _) (others_le _ _), rfl⟩
  · rw [(flS_at hh (i := 1) rfl 0).1, (flS_at h.hea (i := 0) rfl 0).1, h.n0]
  · rw [(flS_at hh (i := 1) rfl 1).1, (flS_at h.hea (i := 0) rfl 1).1, h.n1]
end
theorem full_hea (l0 l1 : List Nat) (n : Nat) (h0 : l0.length = n) (h1 : l1.length = n) : Hea (DS.full [l0, l1]) [n, n] := (MR.start n 1 l0 l1 h0 h1).1.hea
theorem PLS.start (n ext done : Nat) (l0 l1 : List Nat) (h0 : l0.length = n) (h1 : l1.length = n) (hd : done ≤ n / ext) : PLS (DS.full [l0, l1]) n ext done false l0 l1 :=
  ⟨full_hea l0 l1 n h0 h1, ⟨rfl, rfl⟩, rfl, rfl, hd, fun e => by cases e⟩

end Go.Proofs.Ytpcjdmbnlhjlaaa
